/- The walk of slices.Insert of one entity. -/
import Derived.Test.YtojbijapdkohlaaGreatDoorQ19WDel
import Derived.Lib.AppendZeros
import Derived.Lib.AppendZerosOnto
import Derived.Lib.Overlaps
import Derived.Laws.Externs
import Derived.Laws.CopyRow
set_option linter.unusedSimpArgs false
set_option linter.unusedVariables false
namespace Go.Proofs.YtojbijapdkohlaaGreatDoor
open Go.RowKit
section
variable {P : Program}
theorem run_copy_k (w : World) (dT sT ty e : TypeId) (size : Nat) (b o dLen dCap : Nat) (a : Addr) (sLen sCap : Nat) (cs : List Value) (hu : P.underlying dT = some (.slice e)) (hs : (P.info? e).map (·.size) = some size) (hn : cs.length = Nat.min sLen dLen * size)
    (hsrc : ∀ j v, cs[j]? = some v → w.cell? (a.add j) = some v) (hc : ∀ j, j < cs.length → (w.cell? ⟨b, o + j, none⟩).isSome = true ∧ w.frozen? ⟨b, o + j, none⟩ = false) (h1 : ∀ v ∈ cs, v.oneCell' = true) :
    ∃ u, (Builtin.copy_ #[dT, sT] ty #[.slice (some ⟨b, o, none⟩) dLen dCap, .slice (some a) sLen sCap]).run P w = .ok u (w.setCells b o cs) := by
  have hl := run_loadCells_list (P := P) w a cs hsrc
  have hst := run_storeCells_cells (P := P) b o cs 0 w (by simpa using fun j hj => (hc j hj).1) (by simpa using fun j hj => (hc j hj).2) h1
  cases hq : P.info? e with
  | none => simp [hq] at hs
  | some i =>
    have hi : i.size = size := by simpa [hq] using hs
    rw [← hi] at hn
    exact ⟨_, by simp [Builtin.copy_, run_underlying hu, Builtin.lenOf, Builtin.firstCells, sizeOf, typeInfo, hq, ← hn, hl, hst]; rfl⟩
theorem wp_copy_any {w : World} {o : Oper} {a : Act} {K : Act → World → Prop} {Q : Exit → Act → World → Prop} (d s : Operand) (t t' : TypeId)
    (ho : o.op = .call { callee := .builtin .copy, args := #[d, s], argTypes := #[t, t'] }) (v u : Value) (hd : a.eval d = v) (hs : a.eval s = u) {w' : World}
    (hr : ∃ v', (Builtin.copy_ #[t, t'] o.type #[v, u]).run P w = .ok v' w') (h : ∀ v', K (a.put o.dst v') w') : o.wp P a w K Q := by
  obtain ⟨v', hr⟩ := hr
  unfold Oper.wp execOp
  simp only [ho, resolve, invoke, builtin, Sem.run_bind, Sem.run_pure, Result.andThen_ok, List.map_toArray, List.map_cons, List.map_nil, hd, hs, hr]
  exact h v'
theorem wpList_copy_any {w : World} {ops : Array Oper} {rest : List Oper} {o : Oper} {a : Act} {Q : Exit → Act → World → Prop} (hgd : o.guard = none) (d s : Operand) (t t' : TypeId)
    (ho : o.op = .call { callee := .builtin .copy, args := #[d, s], argTypes := #[t, t'] }) (v u : Value) (hd : a.eval d = v) (hs : a.eval s = u) {w' : World}
    (hr : ∃ v', (Builtin.copy_ #[t, t'] o.type #[v, u]).run P w = .ok v' w') (h : ∀ v', wpList P ops Q rest (a.put o.dst v') w') : wpList P ops Q (o :: rest) a w :=
  wpList_plain hgd fun _ hK => wp_copy_any d s t t' ho v u hd hs hr fun v' => hK _ _ (h v')
theorem step_copy_any {ops : Array Oper} {o : Oper} {a : Act} {w : World} {K : Act → World → Prop} {Q : Exit → Act → World → Prop} {E : Prop} (hg : o.guard = none) (d s : Operand) (t t' : TypeId)
    (ho : o.op = .call { callee := .builtin .copy, args := #[d, s], argTypes := #[t, t'] }) (v u : Value) (hd : a.eval d = v) (hs : a.eval s = u) {w' : World}
    (hr : ∃ v', (Builtin.copy_ #[t, t'] o.type #[v, u]).run P w = .ok v' w') (h : ∀ v', K (a.put o.dst v') w') :
    if Region.wanted o (yielded ops a.tmps) = true then Oper.wp P o a w K Q else E := by
  have hw : Region.wanted o (yielded ops a.tmps) = true := by simp [Region.wanted, hg]
  rw [if_pos hw]
  exact wp_copy_any d s t t' ho v u hd hs hr h
end
theorem Row.extend {w : World} {e : TypeId} {size n c g off : Nat} {xs : List Value} (h : Row w e size (some ⟨g, off, none⟩) n c xs) (m : Nat) (hm : n ≤ m) (hc : m ≤ c) : ∃ R, Row w e size (some ⟨g, off, none⟩) m c R ∧ R.length = m * size ∧ R.take (n * size) = xs := by
  rcases h.2.2.2 with ⟨h1, _⟩ | ⟨g', off', cur, hA, hg, hcc, ht⟩
  · cases h1
  · simp only [Option.some.injEq, Addr.mk.injEq, and_true] at hA
    obtain ⟨rfl, rfl⟩ := hA
    have h2 : m * size ≤ c * size := Nat.mul_le_mul_right _ hc
    have h3 : n * size ≤ m * size := Nat.mul_le_mul_right _ hm
    have hlen : ((cur.toList.drop off).take (m * size)).length = m * size := by rw [List.length_take, List.length_drop, Array.length_toList]; omega
    exact ⟨_, ⟨hlen, hc, h.2.2.1, .inr ⟨g, off, cur, rfl, hg, hcc, rfl⟩⟩, hlen, by rw [List.take_take, Nat.min_eq_left h3, ht]⟩
theorem ins_list (l : List EntV) (e : EntV) (i : Nat) (R : List Value) (hi : i ≤ l.length) (hR : R.length = (l.length + 1) * 8) (ht : R.take (i * 8) = entsV (l.take i)) :
    setRange (setRange R ((i + 1) * 8) (entsV (l.drop i))) (i * 8) (entCells e) = entsV (l.take i ++ e :: l.drop i) ∧ setRange (setRange R (i * 8) (entCells e)) ((i + 1) * 8) (entsV (l.drop i)) = entsV (l.take i ++ e :: l.drop i) := by
  have hdl : (entsV (l.drop i)).length = (l.length - i) * 8 := by rw [entsV_length, List.length_drop]
  have htl : (entsV (l.take i)).length = i * 8 := by rw [entsV_length, List.length_take, Nat.min_eq_left hi]
  have hel : (entCells e).length = 8 := rfl
  have hx : entsV (l.take i ++ e :: l.drop i) = entsV (l.take i) ++ (entCells e ++ entsV (l.drop i)) := by rw [entsV_append]; rfl
  have hg : ∀ j, (entsV (l.take i ++ e :: l.drop i))[j]? = if j < i * 8 then R[j]? else if j < (i + 1) * 8 then (entCells e)[j - i * 8]? else (entsV (l.drop i))[j - (i + 1) * 8]? := fun j => by
    rw [hx]
    by_cases h1 : j < i * 8
    · rw [if_pos h1, List.getElem?_append_left (by rw [htl]; exact h1), ← ht, List.getElem?_take, if_pos h1]
    · rw [if_neg h1, List.getElem?_append_right (by rw [htl]; omega), htl]
      by_cases h2 : j < (i + 1) * 8
      · rw [if_pos h2, List.getElem?_append_left (by rw [hel]; omega)]
      · rw [if_neg h2, List.getElem?_append_right (by rw [hel]; omega), hel, show j - i * 8 - 8 = j - (i + 1) * 8 by omega]
  constructor
  · apply List.ext_getElem?
    intro j
    rw [hg, setRange_get _ _ _ _ (by rw [setRange_length, hR, hel]; omega), setRange_get _ _ _ _ (by rw [hR, hdl]; omega), hel, hdl]
    by_cases h1 : j < i * 8
    · rw [if_pos h1, if_neg (by omega), if_neg (by omega)]
    · by_cases h2 : j < (i + 1) * 8
      · rw [if_neg h1, if_pos h2, if_pos (by omega)]
      · rw [if_neg h1, if_neg h2, if_neg (by omega)]
        by_cases h3 : j < (l.length + 1) * 8
        · rw [if_pos (by omega)]
        · rw [if_neg (by omega), List.getElem?_eq_none (by rw [hR]; omega), List.getElem?_eq_none (by rw [hdl]; omega)]
  · apply List.ext_getElem?
    intro j
    rw [hg, setRange_get _ _ _ _ (by rw [setRange_length, hR, hdl]; omega), setRange_get _ _ _ _ (by rw [hR, hel]; omega), hel, hdl]
    by_cases h1 : j < i * 8
    · rw [if_pos h1, if_neg (by omega), if_neg (by omega)]
    · by_cases h2 : j < (i + 1) * 8
      · rw [if_neg h1, if_pos h2, if_neg (by omega), if_pos (by omega)]
      · rw [if_neg h1, if_neg h2]
        by_cases h3 : j < (l.length + 1) * 8
        · rw [if_pos (by omega)]
        · rw [if_neg (by omega), if_neg (by omega), List.getElem?_eq_none (by rw [hR]; omega), List.getElem?_eq_none (by rw [hdl]; omega)]
/-- What Insert makes. -/
def Ins (w w' : World) (A : Option Addr) (n : Nat) (r : Ending) (l : List EntV) : Prop :=
  ∃ A' c', r = .returned (.slice A' (n + 1) c') ∧ Row w' 55 8 A' (n + 1) c' (entsV l) ∧ Chg (fun q => blkOf A = some q) w w' ∧ (∀ q, blkOf A' = some q → blkOf A = some q ∨ w.heap.size ≤ q)
set_option maxRecDepth 100000 in
set_option maxHeartbeats 4000000 in
theorem wInsEnd (l : List EntV) (e : EntV) (A : Option Addr) (n c vb : Nat) (w : World) (hr : Row w 55 8 A n c (entsV l)) (hv : Blk w vb 55 #[.int .i64 e.id, .int .i64 e.kind, .int .i64 e.at_.x, .int .i64 e.at_.y, .int .i64 e.vel.x, .int .i64 e.vel.y, .int .i64 e.health, .int .i64 e.wait]) (hn : n ≤ 1000) :
    Calls Tryz.prog 161 #[.slice A n c, .int .i64 n, .slice (some ⟨vb, 0, none⟩) 1 1] w fun r w' => Ins w w' A n r (l ++ [e]) := by
  have hnr : Reads w w.heap.size 8 (some ⟨vb, 0, none⟩) 1 (entCells e) := Reads.blk (cs := #[.int .i64 e.id, .int .i64 e.kind, .int .i64 e.at_.x, .int .i64 e.at_.y, .int .i64 e.vel.x, .int .i64 e.vel.y, .int .i64 e.health, .int .i64 e.wait]) hv hv.lt rfl
  have hnc := hr.2.1
  have hm := hr.2.2.1
  unfold maxLen at hm
  have HNR := Lib.hid hnr
  have HR := Lib.hid hr
  clear hnr hr hv
  go_enter Tryz.func161, Tryz.ntmps161
  go_wp2_with (at_builtin; refine wpList_row rfl (.tmp 23) (.tmp 24) rfl elt56 A n c (entsV l) rfl HR.out w.heap.size (some ⟨vb, 0, none⟩) 1 1 (entCells e) rfl HNR.out (by simp [entCells, Value.oneCell']) (by omega) ?_; intro A' c' w1 hr1 hg1 hb1; have HR1 := Lib.hid hr1; have HG1 := Lib.hid hg1; have HB1 := Lib.hid hb1; clear hr1 hg1 hb1)
  all_goals
    go_ret
    have hg := HG1.out
    refine ⟨A', c', rfl, by have := HR1.out; rw [show entsV l ++ entCells e = entsV (l ++ [e]) from by rw [entsV_append]; rfl] at this; exact this, Chg.grown Chg.refl hg (fun k hk => .inl hk), fun q hq => ?_⟩
    rcases HB1.out with h | h
    · exact .inl (h ▸ hq)
    · rw [h] at hq; injection hq with hq; exact .inr (by omega)
theorem sizeE (w : World) : (Go.sizeOf 55).run Tryz.prog w = .ok 8 w := by kernel_rfl
theorem infoE : (Tryz.prog.info? 55).map (·.size) = some 8 := by kernel_rfl
set_option maxRecDepth 100000 in
set_option maxHeartbeats 4000000 in
theorem wInsMid (l : List EntV) (e : EntV) (i n c g off vb : Nat) (w : World) (hr : Row w 55 8 (some ⟨g, off, none⟩) n c (entsV l)) (hv : Blk w vb 55 #[.int .i64 e.id, .int .i64 e.kind, .int .i64 e.at_.x, .int .i64 e.at_.y, .int .i64 e.vel.x, .int .i64 e.vel.y, .int .i64 e.health, .int .i64 e.wait]) (hvg : vb ≠ g) (hn : n ≤ 1000) (hi : i < n) (hroom : n + 1 ≤ c) :
    Calls Tryz.prog 161 #[.slice (some ⟨g, off, none⟩) n c, .int .i64 i, .slice (some ⟨vb, 0, none⟩) 1 1] w fun r w' => Ins w w' (some ⟨g, off, none⟩) n r (l.take i ++ e :: l.drop i) := by
  have hlen : l.length = n := by have := hr.1; rw [entsV_length] at this; omega
  have hm := hr.2.2.1
  unfold maxLen at hm
  obtain ⟨R, hrx, hRl, hRt⟩ := hr.extend (n + 1) (by omega) hroom
  have hRi : R.take (i * 8) = entsV (l.take i) := by
    have : R.take (i * 8) = (R.take (n * 8)).take (i * 8) := by rw [List.take_take, Nat.min_eq_left (by omega)]
    rw [this, hRt, entsV_take]
  obtain ⟨hfin, -⟩ := ins_list l e i R (by omega) (by rw [hRl, hlen]) hRi
  have hdl : (entsV (l.drop i)).length = (n - i) * 8 := by rw [entsV_length, List.length_drop, hlen]
  have hcells : ∀ j u, (entsV (l.drop i))[j]? = some u → w.cell? ⟨g, off + i * 8 + j, none⟩ = some u := fun j u hu => by
    have hj : j < (n - i) * 8 := by rw [← hdl]; exact (List.getElem?_eq_some_iff.1 hu).1
    obtain ⟨g', off', hA, _, hc⟩ := hr.cells (by omega)
    simp only [Option.some.injEq, Addr.mk.injEq, and_true] at hA
    obtain ⟨rfl, rfl⟩ := hA
    have := (hc (i * 8 + j) (by omega)).1
    rw [← entsV_drop, List.getElem?_drop] at hu
    rw [← Nat.add_assoc] at this
    exact this.trans hu
  have hsv : w.shape? vb = some (55, 8) := by
    have h0 : w.heap[vb]? = some (.cells #[.int .i64 e.id, .int .i64 e.kind, .int .i64 e.at_.x, .int .i64 e.at_.y, .int .i64 e.vel.x, .int .i64 e.vel.y, .int .i64 e.health, .int .i64 e.wait] 55 (0, 0)) := hv
    simp [World.shape?, h0]
  obtain ⟨kB, hsg, hgk⟩ : ∃ kB, w.shape? g = some (55, kB) ∧ kB ≠ 0 := by
    rcases hr.2.2.2 with ⟨h1, _⟩ | ⟨g', off', cur, hA, hg, hcc, _⟩
    · cases h1
    · simp only [Option.some.injEq, Addr.mk.injEq, and_true] at hA
      obtain ⟨rfl, rfl⟩ := hA
      exact ⟨cur.size, by simp [World.shape?, hg], by omega⟩
  have hov : ∀ lb cb, (callFunc 217 #[.slice (some ⟨vb, 0, none⟩) 1 1, .slice (some ⟨g, off + (i + 1) * 8, none⟩) lb cb]).run Tryz.prog w = .ok (.value (.bool false)) w := fun lb cb => by
    rw [run_callFunc_extern Tryz.func217 (by kernel_rfl) (by kernel_rfl) (by kernel_rfl) (e := Extern.SlicesOverlaps.overlaps #[44, 44] #[4]) (by kernel_rfl),
      Lib.run_overlaps_apart w 44 4 55 Tryz.underlying44 8 sizeE ⟨vb, 0, none⟩ ⟨g, off + (i + 1) * 8, none⟩ 1 1 lb cb hvg _ _ _ _ hsv hsg hgk (hv.frozen 0) (hv.frozen 8)]
    rfl
  have hsp := fun j (hj : j < c * 8) => hrx.spare j hj
  have hc1 : ∀ ty dc sc, ∃ u, (Builtin.copy_ #[44, 44] ty #[.slice (some ⟨g, off + (i + 1) * 8, none⟩) (n + 1 - (i + 1)) dc, .slice (some ⟨g, off + i * 8, none⟩) (n + 1 - i) sc]).run Tryz.prog w.drew = .ok u (w.drew.setCells g (off + (i + 1) * 8) (entsV (l.drop i))) := fun ty dc sc =>
    run_copy_k w.drew _ _ ty 55 8 g (off + (i + 1) * 8) (n + 1 - (i + 1)) dc ⟨g, off + i * 8, none⟩ (n + 1 - i) sc (entsV (l.drop i)) Tryz.underlying44 infoE (by rw [hdl]; congr 1; simp only [Nat.min_def]; split <;> omega)
      (fun j u hu => by rw [add_none]; exact hcells j u hu) (fun j hj => by rw [Nat.add_assoc]; exact hsp _ (by omega)) (entsV_one _)
  have hr1 := Row.setCells (entsV (l.drop i)) R ((i + 1) * 8) w.drew (hrx.keep (fun _ _ => rfl))
  have hsp1 := fun j (hj : j < c * 8) => hr1.spare j hj
  have hc2 : ∀ ty dc, ∃ u, (Builtin.copy_ #[44, 44] ty #[.slice (some ⟨g, off + i * 8, none⟩) (n + 1 - i) dc, .slice (some ⟨vb, 0, none⟩) 1 1]).run Tryz.prog (w.drew.setCells g (off + (i + 1) * 8) (entsV (l.drop i))) = .ok u ((w.drew.setCells g (off + (i + 1) * 8) (entsV (l.drop i))).setCells g (off + i * 8) (entCells e)) := fun ty dc =>
    run_copy_k _ _ _ ty 55 8 g (off + i * 8) (n + 1 - i) dc ⟨vb, 0, none⟩ 1 1 (entCells e) Tryz.underlying44 infoE (by show 8 = _; simp only [Nat.min_def]; split <;> omega)
      (fun j u hu => by
        rw [add_none, World.cell?_setCells_out _ _ _ _ _ (fun h _ => absurd h hvg), Nat.zero_add]
        exact (hv.cell j).trans (by simpa [entCells] using hu))
      (fun j hj => by rw [Nat.add_assoc]; exact hsp1 _ (by have : (entCells e).length = 8 := rfl; omega)) (by simp [entCells, Value.oneCell'])
  have hr2 := Row.setCells (entCells e) _ (i * 8) _ hr1
  rw [hfin] at hr2
  have hcg : Chg (fun q => q = g) w ((w.drew.setCells g (off + (i + 1) * 8) (entsV (l.drop i))).setCells g (off + i * 8) (entCells e)) := Chg.setCells (F := fun q => q = g) rfl _ _ _ (Chg.setCells (F := fun q => q = g) rfl _ _ _ (Chg.drewN Chg.refl 1))
  have HR2 := Lib.hid hr2
  have HCG := Lib.hid hcg
  have HC1 := Lib.hid hc1
  have HC2 := Lib.hid hc2
  have z1 : ((i : Int) == (n : Int)) = false := beq_eq_false_iff_ne.2 (by omega)
  have z2 : decide ((c : Int) < (n : Int) + 1) = false := decide_eq_false (by omega)
  have z3 : ¬ (c = i + 1) := by omega
  have z4 : ¬ (c = i) := by omega
  have z5 : i ≤ n + 1 := by omega
  have z6 : i + 1 ≤ n + 1 := by omega
  have z7 : (0 : Int) ≤ (i : Int) + 1 := by omega
  have z8 : ((i : Int) + 1).toNat = i + 1 := by omega
  have z9 : i ≤ n := by omega
  have y4 : IntKind.i64.wrap ((i : Int) + 1) = (i : Int) + 1 := by rw [IntKind.wrap_i64]; omega
  have y5 : IntKind.i64.wrap ((n : Int) + 1) = (n : Int) + 1 := by rw [IntKind.wrap_i64]; omega
  have y6 : (i : Int) ≤ (n : Int) + 1 := by omega
  have y7 : (i : Int) ≤ (n : Int) := by omega
  have y1 : (0 : Int) ≤ (n : Int) + 1 := by omega
  have y2 : ((n : Int) + 1).toNat = n + 1 := by omega
  have y3 : (i : Int) + 1 ≤ (n : Int) + 1 := by omega
  clear hr1 hr2 hcg hc1 hc2 hsp hsp1 hcells hr hv hrx hfin hRi hRt
  go_enter Tryz.func161, Tryz.ntmps161
  go_wp2_with (simp only [hov])
  go_region_law (refine step_copy_any rfl (.tmp 73) (.tmp 76) 44 44 rfl (.slice (some ⟨g, off + (i + 1) * 8, none⟩) (n + 1 - (i + 1)) (c - (i + 1))) (.slice (some ⟨g, off + i * 8, none⟩) (n + 1 - i) (c - i)) (by simp [Act.eval, Act.put]) (by simp [Act.eval, Act.put]) (HC1.out _ _ _) ?_; intro v')
  all_goals
    obtain ⟨u2, hu2⟩ := HC2.out 3 (c - i)
    go_wp2
    go_ret
    exact ⟨some ⟨g, off, none⟩, c, rfl, HR2.out, HCG.out.mono (fun q hq => by rw [hq]; rfl), fun q hq => .inl hq⟩
end Go.Proofs.YtojbijapdkohlaaGreatDoor
