/- More laws on rows: cells written anew, an append that has room, clear, copy. The walk of slices.Delete of one entity. The walk of slices.Insert of one entity. slices.Insert of one entity where the row must grow; and Insert as a whole. -/
import Derived.Test.YtojbijapdkohlaaGreatDoorWNew
import Derived.Laws.IdiomCopy
import Derived.Lib.AppendZeros
import Derived.Lib.AppendZerosOnto
import Derived.Lib.Overlaps
import Derived.Laws.Externs
import Derived.Laws.CopyRow
set_option linter.unusedSimpArgs false
set_option linter.unusedVariables false
namespace Go.Proofs.YtojbijapdkohlaaGreatDoor
open Go.RowKit
def setRange : List Value → Nat → List Value → List Value
  | xs, _, [] => xs
  | xs, i, v :: r => setRange (xs.set i v) (i + 1) r
theorem setRange_length : ∀ (vs xs : List Value) (i : Nat), (setRange xs i vs).length = xs.length
  | [], _, _ => rfl
  | v :: r, xs, i => by rw [setRange, setRange_length r]; simp
theorem setRange_get : ∀ (vs xs : List Value) (i j : Nat), i + vs.length ≤ xs.length → (setRange xs i vs)[j]? = if i ≤ j ∧ j < i + vs.length then vs[j - i]? else xs[j]?
  | [], xs, i, j, _ => by rw [setRange, if_neg (by simp)]
  | v :: r, xs, i, j, h => by
    simp only [List.length_cons] at h ⊢
    rw [setRange, setRange_get r _ _ _ (by simp; omega)]
    by_cases h1 : i + 1 ≤ j ∧ j < i + 1 + r.length
    · rw [if_pos h1, if_pos (by omega), show j - i = (j - (i + 1)) + 1 by omega, List.getElem?_cons_succ]
    · rw [if_neg h1]
      by_cases h2 : j = i
      · subst h2
        rw [if_pos (by omega), Nat.sub_self, List.getElem?_set_self (by omega)]; rfl
      · rw [List.getElem?_set_ne (Ne.symm h2), if_neg (by omega)]
theorem setRange_past : ∀ (vs xs : List Value) (i : Nat), xs.length ≤ i → setRange xs i vs = xs
  | [], _, _, _ => rfl
  | v :: r, xs, i, h => by rw [setRange, List.set_eq_of_length_le h, setRange_past r xs (i + 1) (by omega)]
theorem Row.setCells {e : TypeId} {size n c g off : Nat} : ∀ (vs xs : List Value) (i : Nat) (w : World), Row w e size (some ⟨g, off, none⟩) n c xs → Row (w.setCells g (off + i) vs) e size (some ⟨g, off, none⟩) n c (setRange xs i vs)
  | [], _, _, _, h => h
  | v :: r, xs, i, w, h => by
    have := Row.setCells r (xs.set i v) (i + 1) _ (h.set rfl i v)
    rw [World.setCells, setRange]
    exact this
theorem Chg.setCells {F : Nat → Prop} {a : World} {g : Nat} (hF : F g) : ∀ (vs : List Value) (o : Nat) (w : World), Chg F a w → Chg F a (w.setCells g o vs)
  | [], _, _, h => h
  | v :: r, o, w, h => by rw [World.setCells]; exact Chg.setCells hF r (o + 1) _ (Chg.setCell (p := ⟨g, o, none⟩) h (.inl hF) v)
theorem Row.spare {w : World} {e : TypeId} {size n c g off : Nat} {xs : List Value} (h : Row w e size (some ⟨g, off, none⟩) n c xs) (j : Nat) (hj : j < c * size) : (w.cell? ⟨g, off + j, none⟩).isSome = true ∧ w.frozen? ⟨g, off + j, none⟩ = false := by
  rcases h.2.2.2 with ⟨h1, _⟩ | ⟨g', off', cur, hA, hg, hc, _⟩
  · cases h1
  · simp only [Option.some.injEq, Addr.mk.injEq, and_true] at hA
    obtain ⟨rfl, rfl⟩ := hA
    rw [cell_of_row w g (off + j) cur e (0, 0) hg]
    refine ⟨?_, frozen_of_row w g _ cur e hg⟩
    rw [Option.isSome_iff_exists]
    exact ⟨_, Array.getElem?_eq_getElem (by omega)⟩
section
variable {P : Program} {w : World} {t e : TypeId} {size bytes : Nat}
theorem Row.more {n c g off m : Nat} {xs news : List Value} (h : Row w e size (some ⟨g, off, none⟩) n c xs) (hm : news.length = m * size) (hroom : n + m ≤ c) :
    Row (w.setCells g (off + n * size) news) e size (some ⟨g, off, none⟩) (n + m) c (xs ++ news) := by
  rcases h.2.2.2 with ⟨h1, _⟩ | ⟨g', off', cur, hA, hg, hc, ht⟩
  · cases h1
  · simp only [Option.some.injEq, Addr.mk.injEq, and_true] at hA
    obtain ⟨rfl, rfl⟩ := hA
    have hcs : (n + m) * size ≤ c * size := Nat.mul_le_mul_right _ hroom
    rw [Nat.add_mul] at hcs
    have hlen : ((cur.toList.drop off).take ((n + m) * size)).length = (n + m) * size := by
      rw [List.length_take, List.length_drop, Array.length_toList, Nat.add_mul]; omega
    have h0 : Row w e size (some ⟨g, off, none⟩) (n + m) c ((cur.toList.drop off).take ((n + m) * size)) := ⟨hlen, hroom, h.2.2.1, .inr ⟨g, off, cur, rfl, hg, hc, rfl⟩⟩
    have h2 := Row.setCells news _ (n * size) w h0
    have hx : setRange ((cur.toList.drop off).take ((n + m) * size)) (n * size) news = xs ++ news := by
      apply List.ext_getElem?
      intro j
      have hxl := h.1
      rw [setRange_get _ _ _ _ (by rw [hlen, Nat.add_mul, hm]; exact Nat.le_refl _)]
      by_cases hj : n * size ≤ j
      · by_cases hj2 : j < n * size + news.length
        · rw [if_pos ⟨hj, hj2⟩, List.getElem?_append_right (by rw [hxl]; exact hj), hxl]
        · rw [if_neg (fun hh => hj2 hh.2), List.getElem?_eq_none (by rw [hlen, Nat.add_mul]; omega), List.getElem?_eq_none (by rw [List.length_append, hxl]; omega)]
      · have e1 : xs[j]? = (cur.toList.drop off)[j]? := by rw [← ht, List.getElem?_take, if_pos (by omega)]
        rw [if_neg (fun hh => hj hh.1), List.getElem?_append_left (by rw [hxl]; omega), e1, List.getElem?_take, if_pos (by rw [Nat.add_mul]; omega)]
    rw [hx] at h2
    exact h2
theorem run_append_room_row (E : Elt P t e size bytes) (ty : TypeId) {n c g off : Nat} {xs : List Value} (hr : Row w e size (some ⟨g, off, none⟩) n c xs)
    {a : Addr} {m c2 : Nat} {news : List Value} (hl : news.length = m * size) (hs : ∀ j u, news[j]? = some u → w.cell? (a.add j) = some u) (h1 : ∀ u ∈ news, u.oneCell' = true) (hroom : n + m ≤ c) :
    (Builtin.append_ #[t, t] ty #[.slice (some ⟨g, off, none⟩) n c, .slice (some a) m c2]).run P w = .ok (.slice (some ⟨g, off, none⟩) (n + m) c) (w.setCells g (off + n * size) news) := by
  obtain ⟨i, z, hi, hz, hsz, hby, hzs⟩ := E.hi
  subst hsz
  have hcs : (n + m) * i.size ≤ c * i.size := Nat.mul_le_mul_right _ hroom
  rw [Nat.add_mul] at hcs
  have hsp := fun j (hj : j < news.length) => hr.spare (n * i.size + j) (by omega)
  exact run_append_room_cells w t ty e i E.ht hi g off n c a m c2 news hl hs h1 hroom (fun j hj => by rw [Nat.add_assoc]; exact (hsp j hj).1) (fun j hj => by rw [Nat.add_assoc]; exact (hsp j hj).2)
theorem step_app_room {ops : Array Oper} {o : Oper} {a : Act} {K : Act → World → Prop} {Q : Exit → Act → World → Prop} {F : Prop} (hgd : o.guard = none) (s x : Operand)
    (ho : o.op = .call { callee := .builtin .append, args := #[s, x], argTypes := #[t, t] }) (E : Elt P t e size bytes) (g off n c : Nat) (xs : List Value) (hs : a.eval s = .slice (some ⟨g, off, none⟩) n c) (hr : Row w e size (some ⟨g, off, none⟩) n c xs)
    (ad : Addr) (m c2 : Nat) (news : List Value) (hx : a.eval x = .slice (some ad) m c2) (hl : news.length = m * size) (hn : ∀ j u, news[j]? = some u → w.cell? (ad.add j) = some u) (h1 : ∀ u ∈ news, u.oneCell' = true) (hroom : n + m ≤ c)
    (h : ∀ w', Row w' e size (some ⟨g, off, none⟩) (n + m) c (xs ++ news) → Chg (fun q => q = g) w w' → K (a.put o.dst (.slice (some ⟨g, off, none⟩) (n + m) c)) w') :
    if Region.wanted o (yielded ops a.tmps) = true then Oper.wp P o a w K Q else F := by
  have hw : Region.wanted o (yielded ops a.tmps) = true := by simp [Region.wanted, hgd]
  rw [if_pos hw]
  have hrun := run_append_room_row E o.type hr (c2 := c2) hl hn h1 hroom
  unfold Oper.wp execOp
  simp only [ho, resolve, invoke, builtin, Sem.run_bind, Sem.run_pure, Result.andThen_ok, List.map_toArray, List.map_cons, List.map_nil, hs, hx, hrun]
  exact h _ (hr.more hl hroom) (Chg.setCells (F := fun q => q = g) rfl _ _ _ Chg.refl)
/-- clear of one element. -/
theorem run_clear_one (E : Elt P t e size bytes) (ty : TypeId) (zs : List Value) (hv : ∀ w, (zeroValue e).run P w = .ok (.agg zs.toArray) w) (hz : ∀ v ∈ zs, v.oneCell' = true) (hzl : zs.length = size) (g o c : Nat)
    (hc : ∀ j, j < size → (w.cell? ⟨g, o + j, none⟩).isSome = true ∧ w.frozen? ⟨g, o + j, none⟩ = false) :
    (Builtin.clear_ #[t] ty #[.slice (some ⟨g, o, none⟩) 1 c]).run P w = .ok (.tuple #[]) (w.setCells g o zs) := by
  have hzc : (Builtin.zeroCells (Value.agg zs.toArray).cells 1).toList = zs := by
    simp [Builtin.zeroCells, Value.cells]
    apply List.ext_getElem
    · simp
    · intro i h1 h2
      simp [Nat.mod_eq_of_lt h2, List.getElem?_eq_getElem h2]
  have hst := run_storeCells_cells (P := P) g o zs 0 w (by simpa using fun j hj => (hc j (by omega)).1) (by simpa using fun j hj => (hc j (by omega)).2) hz
  simp only [Nat.add_zero] at hst
  simp [Builtin.clear_, run_underlying E.ht, hv, hzc, hst]
theorem wpList_clear_run {ops : Array Oper} {rest : List Oper} {o : Oper} {a : Act} {Q : Exit → Act → World → Prop} (hgd : o.guard = none) (x : Operand) (ho : o.op = .call { callee := .builtin .clear, args := #[x], argTypes := #[t] })
    (u : Value) (hx : a.eval x = u) {v' : Value} {w' : World} (hr : (Builtin.clear_ #[t] o.type #[u]).run P w = .ok v' w') (h : wpList P ops Q rest (a.put o.dst v') w') : wpList P ops Q (o :: rest) a w :=
  wpList_plain hgd fun _ hK => by
    unfold Oper.wp execOp
    simp only [ho, resolve, invoke, builtin, Sem.run_bind, Sem.run_pure, Result.andThen_ok, List.map_toArray, List.map_cons, List.map_nil, hx, hr]
    exact hK _ _ h
end
end Go.Proofs.YtojbijapdkohlaaGreatDoor
set_option linter.unusedSimpArgs false
set_option linter.unusedVariables false
namespace Go.Proofs.YtojbijapdkohlaaGreatDoor
open Go.RowKit
theorem entsV_take (l : List EntV) (k : Nat) : (entsV l).take (k * 8) = entsV (l.take k) := by
  induction l generalizing k with
  | nil => simp [entsV]
  | cons a l ih =>
    cases k with
    | zero => simp [entsV]
    | succ k =>
      have e : (k + 1) * 8 = (entCells a).length + k * 8 := by simp [entCells]; omega
      simp only [entsV, List.flatMap_cons, List.take_succ_cons] at ih ⊢
      rw [e, List.take_length_add_append, ih]
theorem entsV_drop (l : List EntV) (k : Nat) : (entsV l).drop (k * 8) = entsV (l.drop k) := by
  induction l generalizing k with
  | nil => simp [entsV]
  | cons a l ih =>
    cases k with
    | zero => simp [entsV]
    | succ k =>
      have e : (k + 1) * 8 = (entCells a).length + k * 8 := by simp [entCells]; omega
      simp only [entsV, List.flatMap_cons, List.drop_succ_cons] at ih ⊢
      rw [e, List.drop_length_add_append, ih]
theorem entsV_append (l m : List EntV) : entsV (l ++ m) = entsV l ++ entsV m := by simp [entsV, List.flatMap_append]
def zero8 : List Value := [.int .i64 0, .int .i64 0, .int .i64 0, .int .i64 0, .int .i64 0, .int .i64 0, .int .i64 0, .int .i64 0]
set_option maxRecDepth 100000 in
set_option maxHeartbeats 4000000 in
theorem zero30 (w : World) : (zeroValue 55).run Tryz.prog w = .ok (.agg zero8.toArray) w := by kernel_rfl
set_option maxRecDepth 100000 in
set_option maxHeartbeats 4000000 in
theorem wDelete (l : List EntV) (k n c g off : Nat) (w : World) (hr : Row w 55 8 (some ⟨g, off, none⟩) n c (entsV l)) (hk : k < n) :
    Calls Tryz.prog 157 #[.slice (some ⟨g, off, none⟩) n c, .int .i64 k, .int .i64 (k + 1 : Nat)] w fun r w' => r = .returned (.slice (some ⟨g, off, none⟩) (n - 1) c) ∧ Row w' 55 8 (some ⟨g, off, none⟩) (n - 1) c (entsV (l.take k ++ l.drop (k + 1))) ∧ Chg (fun q => q = g) w w' := by
  have hlen : l.length = n := by have := hr.1; rw [entsV_length] at this; omega
  have hnc := hr.2.1
  have hm := hr.2.2.1
  unfold maxLen at hm
  have hk1 : (k : Int) + 1 ≤ n := by omega
  have hne : ((k : Int) == (k : Int) + 1) = false := beq_eq_false_iff_ne.2 (by omega)
  obtain ⟨AD, hAD, hnews⟩ : ∃ AD : Addr, (if c = k + 1 then some (⟨g, off, none⟩ : Addr) else some ⟨g, off + (k + 1) * 8, none⟩) = some AD ∧ ∀ j u, (entsV (l.drop (k + 1)))[j]? = some u → w.drew.cell? (AD.add j) = some u := by
    by_cases hck : c = k + 1
    · refine ⟨⟨g, off, none⟩, if_pos hck, fun j u hu => ?_⟩
      rw [List.drop_eq_nil_of_le (by omega)] at hu
      simp [entsV] at hu
    · refine ⟨⟨g, off + (k + 1) * 8, none⟩, if_neg hck, fun j u hu => ?_⟩
      have hj : j < (l.length - (k + 1)) * 8 := by have := (List.getElem?_eq_some_iff.1 hu).1; rw [entsV_length, List.length_drop] at this; exact this
      obtain ⟨g', off', hA, _, hc⟩ := hr.cells (by omega)
      simp only [Option.some.injEq, Addr.mk.injEq, and_true] at hA
      obtain ⟨rfl, rfl⟩ := hA
      rw [add_none]
      have := (hc ((k + 1) * 8 + j) (by omega)).1
      rw [← entsV_drop, List.getElem?_drop] at hu
      rw [← Nat.add_assoc] at this
      exact this.trans hu
  have hrt : Row w.drew 55 8 (some ⟨g, off, none⟩) k c (entsV (l.take k)) := by
    have := hr.take (Nat.le_of_lt hk)
    rw [entsV_take] at this
    exact this.keep (fun _ _ => rfl)
  have hdl : (entsV (l.drop (k + 1))).length = (n - (k + 1)) * 8 := by rw [entsV_length, List.length_drop, hlen]
  have HRT := Lib.hid hrt
  have HNEWS := Lib.hid hnews
  have HDL := Lib.hid hdl
  have HAD := Lib.hid hAD
  have hkn : k + (n - (k + 1)) = n - 1 := by omega
  have ht1 : ((k : Int) + 1).toNat = k + 1 := by omega
  have t1 : k + 1 ≤ n := hk
  have t2 : k ≤ c := by omega
  have t3 : k + 1 ≤ c := by omega
  have t4 : k ≤ n := by omega
  have t5 : n - 1 ≤ n := by omega
  have t6 : n ≤ c := hnc
  have t7 : (0 : Int) ≤ (k : Int) + 1 := by omega
  have t8 : k + 1 + (n - (k + 1)) = n := by omega
  have t9 : n - (n - 1) = 1 := by omega
  clear hr hrt hnews hdl
  go_enter Tryz.func157, Tryz.ntmps157
  go_wp2
  go_region_law (refine step_app_room rfl (.tmp 22) (.tmp 25) rfl elt56 g off k c (entsV (l.take k)) (by simp [Act.eval, Act.put]) HRT.out AD (n - (k + 1)) (c - (k + 1)) (entsV (l.drop (k + 1))) (by simp [Act.eval, Act.put, hAD]) HDL.out HNEWS.out (entsV_one _) (by omega) ?_; intro w1 hr1 hc1; rw [hkn] at hr1; have hclr := fun (cc : Nat) (ty : TypeId) => run_clear_one (w := w1) elt56 ty zero8 zero30 (by decide) rfl g (off + (n - 1) * 8) cc (fun j hj => by rw [Nat.add_assoc]; exact hr1.spare _ (by omega)); have HR1 := Lib.hid hr1; have HC1 := Lib.hid hc1; clear hr1 hc1)
  all_goals
    go_wp2
    go_ret
    refine ⟨rfl, ?_, Chg.setCells (F := fun q => q = g) rfl _ _ _ ⟨HC1.out.os, HC1.out.tape, HC1.out.output, HC1.out.size, HC1.out.block⟩⟩
    have := Row.setCells zero8 _ ((n - 1) * 8) w1 HR1.out
    rw [setRange_past _ _ _ (by have := HR1.out.1; omega), ← entsV_append] at this
    exact this
end Go.Proofs.YtojbijapdkohlaaGreatDoor
set_option linter.unusedSimpArgs false
set_option linter.unusedVariables false
namespace Go.Proofs.YtojbijapdkohlaaGreatDoor
open Go.RowKit
section
variable {P : Program}
theorem run_copy_k (w : World) (dT sT ty e : TypeId) (size : Nat) (b o dLen dCap : Nat) (a : Addr) (sLen sCap : Nat) (cs : List Value) (hu : P.underlying dT = some (.slice e)) (hs : (P.info? e).map (·.size) = some size) (hn : cs.length = Nat.min sLen dLen * size)
    (hsrc : ∀ j v, cs[j]? = some v → w.cell? (a.add j) = some v) (hc : ∀ j, j < cs.length → (w.cell? ⟨b, o + j, none⟩).isSome = true ∧ w.frozen? ⟨b, o + j, none⟩ = false) (h1 : ∀ v ∈ cs, v.oneCell' = true) :
    ∃ u, (Builtin.copy_ #[dT, sT] ty #[.slice (some ⟨b, o, none⟩) dLen dCap, .slice (some a) sLen sCap]).run P w = .ok u (w.setCells b o cs) := by
  have hl := run_loadCells_list (P := P) w a cs hsrc
  have hst := run_storeCells_cells (P := P) b o cs 0 w (by simpa using fun j hj => (hc j hj).1) (by simpa using fun j hj => (hc j hj).2) h1
  cases hq : P.info? e with
  | none => simp [hq] at hs
  | some i =>
    have hi : i.size = size := by simpa [hq] using hs
    rw [← hi] at hn
    exact ⟨_, by simp [Builtin.copy_, run_underlying hu, Builtin.lenOf, Builtin.firstCells, sizeOf, typeInfo, hq, ← hn, hl, hst]; rfl⟩
theorem wp_copy_any {w : World} {o : Oper} {a : Act} {K : Act → World → Prop} {Q : Exit → Act → World → Prop} (d s : Operand) (t t' : TypeId)
    (ho : o.op = .call { callee := .builtin .copy, args := #[d, s], argTypes := #[t, t'] }) (v u : Value) (hd : a.eval d = v) (hs : a.eval s = u) {w' : World}
    (hr : ∃ v', (Builtin.copy_ #[t, t'] o.type #[v, u]).run P w = .ok v' w') (h : ∀ v', K (a.put o.dst v') w') : o.wp P a w K Q := by
  obtain ⟨v', hr⟩ := hr
  unfold Oper.wp execOp
  simp only [ho, resolve, invoke, builtin, Sem.run_bind, Sem.run_pure, Result.andThen_ok, List.map_toArray, List.map_cons, List.map_nil, hd, hs, hr]
  exact h v'
theorem wpList_copy_any {w : World} {ops : Array Oper} {rest : List Oper} {o : Oper} {a : Act} {Q : Exit → Act → World → Prop} (hgd : o.guard = none) (d s : Operand) (t t' : TypeId)
    (ho : o.op = .call { callee := .builtin .copy, args := #[d, s], argTypes := #[t, t'] }) (v u : Value) (hd : a.eval d = v) (hs : a.eval s = u) {w' : World}
    (hr : ∃ v', (Builtin.copy_ #[t, t'] o.type #[v, u]).run P w = .ok v' w') (h : ∀ v', wpList P ops Q rest (a.put o.dst v') w') : wpList P ops Q (o :: rest) a w :=
  wpList_plain hgd fun _ hK => wp_copy_any d s t t' ho v u hd hs hr fun v' => hK _ _ (h v')
theorem step_copy_any {ops : Array Oper} {o : Oper} {a : Act} {w : World} {K : Act → World → Prop} {Q : Exit → Act → World → Prop} {E : Prop} (hg : o.guard = none) (d s : Operand) (t t' : TypeId)
    (ho : o.op = .call { callee := .builtin .copy, args := #[d, s], argTypes := #[t, t'] }) (v u : Value) (hd : a.eval d = v) (hs : a.eval s = u) {w' : World}
    (hr : ∃ v', (Builtin.copy_ #[t, t'] o.type #[v, u]).run P w = .ok v' w') (h : ∀ v', K (a.put o.dst v') w') :
    if Region.wanted o (yielded ops a.tmps) = true then Oper.wp P o a w K Q else E := by
  have hw : Region.wanted o (yielded ops a.tmps) = true := by simp [Region.wanted, hg]
  rw [if_pos hw]
  exact wp_copy_any d s t t' ho v u hd hs hr h
end
theorem Row.extend {w : World} {e : TypeId} {size n c g off : Nat} {xs : List Value} (h : Row w e size (some ⟨g, off, none⟩) n c xs) (m : Nat) (hm : n ≤ m) (hc : m ≤ c) : ∃ R, Row w e size (some ⟨g, off, none⟩) m c R ∧ R.length = m * size ∧ R.take (n * size) = xs := by
  rcases h.2.2.2 with ⟨h1, _⟩ | ⟨g', off', cur, hA, hg, hcc, ht⟩
  · cases h1
  · simp only [Option.some.injEq, Addr.mk.injEq, and_true] at hA
    obtain ⟨rfl, rfl⟩ := hA
    have h2 : m * size ≤ c * size := Nat.mul_le_mul_right _ hc
    have h3 : n * size ≤ m * size := Nat.mul_le_mul_right _ hm
    have hlen : ((cur.toList.drop off).take (m * size)).length = m * size := by rw [List.length_take, List.length_drop, Array.length_toList]; omega
    exact ⟨_, ⟨hlen, hc, h.2.2.1, .inr ⟨g, off, cur, rfl, hg, hcc, rfl⟩⟩, hlen, by rw [List.take_take, Nat.min_eq_left h3, ht]⟩
theorem ins_list (l : List EntV) (e : EntV) (i : Nat) (R : List Value) (hi : i ≤ l.length) (hR : R.length = (l.length + 1) * 8) (ht : R.take (i * 8) = entsV (l.take i)) :
    setRange (setRange R ((i + 1) * 8) (entsV (l.drop i))) (i * 8) (entCells e) = entsV (l.take i ++ e :: l.drop i) ∧ setRange (setRange R (i * 8) (entCells e)) ((i + 1) * 8) (entsV (l.drop i)) = entsV (l.take i ++ e :: l.drop i) := by
  have hdl : (entsV (l.drop i)).length = (l.length - i) * 8 := by rw [entsV_length, List.length_drop]
  have htl : (entsV (l.take i)).length = i * 8 := by rw [entsV_length, List.length_take, Nat.min_eq_left hi]
  have hel : (entCells e).length = 8 := rfl
  have hx : entsV (l.take i ++ e :: l.drop i) = entsV (l.take i) ++ (entCells e ++ entsV (l.drop i)) := by rw [entsV_append]; rfl
  have hg : ∀ j, (entsV (l.take i ++ e :: l.drop i))[j]? = if j < i * 8 then R[j]? else if j < (i + 1) * 8 then (entCells e)[j - i * 8]? else (entsV (l.drop i))[j - (i + 1) * 8]? := fun j => by
    rw [hx]
    by_cases h1 : j < i * 8
    · rw [if_pos h1, List.getElem?_append_left (by rw [htl]; exact h1), ← ht, List.getElem?_take, if_pos h1]
    · rw [if_neg h1, List.getElem?_append_right (by rw [htl]; omega), htl]
      by_cases h2 : j < (i + 1) * 8
      · rw [if_pos h2, List.getElem?_append_left (by rw [hel]; omega)]
      · rw [if_neg h2, List.getElem?_append_right (by rw [hel]; omega), hel, show j - i * 8 - 8 = j - (i + 1) * 8 by omega]
  constructor
  · apply List.ext_getElem?
    intro j
    rw [hg, setRange_get _ _ _ _ (by rw [setRange_length, hR, hel]; omega), setRange_get _ _ _ _ (by rw [hR, hdl]; omega), hel, hdl]
    by_cases h1 : j < i * 8
    · rw [if_pos h1, if_neg (by omega), if_neg (by omega)]
    · by_cases h2 : j < (i + 1) * 8
      · rw [if_neg h1, if_pos h2, if_pos (by omega)]
      · rw [if_neg h1, if_neg h2, if_neg (by omega)]
        by_cases h3 : j < (l.length + 1) * 8
        · rw [if_pos (by omega)]
        · rw [if_neg (by omega), List.getElem?_eq_none (by rw [hR]; omega), List.getElem?_eq_none (by rw [hdl]; omega)]
  · apply List.ext_getElem?
    intro j
    rw [hg, setRange_get _ _ _ _ (by rw [setRange_length, hR, hdl]; omega), setRange_get _ _ _ _ (by rw [hR, hel]; omega), hel, hdl]
    by_cases h1 : j < i * 8
    · rw [if_pos h1, if_neg (by omega), if_neg (by omega)]
    · by_cases h2 : j < (i + 1) * 8
      · rw [if_neg h1, if_pos h2, if_neg (by omega), if_pos (by omega)]
      · rw [if_neg h1, if_neg h2]
        by_cases h3 : j < (l.length + 1) * 8
        · rw [if_pos (by omega)]
        · rw [if_neg (by omega), if_neg (by omega), List.getElem?_eq_none (by rw [hR]; omega), List.getElem?_eq_none (by rw [hdl]; omega)]
/-- What Insert makes. -/
def Ins (w w' : World) (A : Option Addr) (n : Nat) (r : Ending) (l : List EntV) : Prop :=
  ∃ A' c', r = .returned (.slice A' (n + 1) c') ∧ Row w' 55 8 A' (n + 1) c' (entsV l) ∧ Chg (fun q => blkOf A = some q) w w' ∧ (∀ q, blkOf A' = some q → blkOf A = some q ∨ w.heap.size ≤ q)
set_option maxRecDepth 100000 in
set_option maxHeartbeats 4000000 in
theorem wInsEnd (l : List EntV) (e : EntV) (A : Option Addr) (n c vb : Nat) (w : World) (hr : Row w 55 8 A n c (entsV l)) (hv : Blk w vb 55 #[.int .i64 e.id, .int .i64 e.kind, .int .i64 e.at_.x, .int .i64 e.at_.y, .int .i64 e.vel.x, .int .i64 e.vel.y, .int .i64 e.health, .int .i64 e.wait]) (hn : n ≤ 1000) :
    Calls Tryz.prog 161 #[.slice A n c, .int .i64 n, .slice (some ⟨vb, 0, none⟩) 1 1] w fun r w' => Ins w w' A n r (l ++ [e]) := by
  have hnr : Reads w w.heap.size 8 (some ⟨vb, 0, none⟩) 1 (entCells e) := Reads.blk (cs := #[.int .i64 e.id, .int .i64 e.kind, .int .i64 e.at_.x, .int .i64 e.at_.y, .int .i64 e.vel.x, .int .i64 e.vel.y, .int .i64 e.health, .int .i64 e.wait]) hv hv.lt rfl
  have hnc := hr.2.1
  have hm := hr.2.2.1
  unfold maxLen at hm
  have HNR := Lib.hid hnr
  have HR := Lib.hid hr
  clear hnr hr hv
  go_enter Tryz.func161, Tryz.ntmps161
  go_wp2_with (at_builtin; refine wpList_row rfl (.tmp 23) (.tmp 24) rfl elt56 A n c (entsV l) rfl HR.out w.heap.size (some ⟨vb, 0, none⟩) 1 1 (entCells e) rfl HNR.out (by simp [entCells, Value.oneCell']) (by omega) ?_; intro A' c' w1 hr1 hg1 hb1; have HR1 := Lib.hid hr1; have HG1 := Lib.hid hg1; have HB1 := Lib.hid hb1; clear hr1 hg1 hb1)
  all_goals
    go_ret
    have hg := HG1.out
    refine ⟨A', c', rfl, by have := HR1.out; rw [show entsV l ++ entCells e = entsV (l ++ [e]) from by rw [entsV_append]; rfl] at this; exact this, Chg.grown Chg.refl hg (fun k hk => .inl hk), fun q hq => ?_⟩
    rcases HB1.out with h | h
    · exact .inl (h ▸ hq)
    · rw [h] at hq; injection hq with hq; exact .inr (by omega)
theorem sizeE (w : World) : (Go.sizeOf 55).run Tryz.prog w = .ok 8 w := by kernel_rfl
theorem infoE : (Tryz.prog.info? 55).map (·.size) = some 8 := by kernel_rfl
set_option maxRecDepth 100000 in
set_option maxHeartbeats 4000000 in
theorem wInsMid (l : List EntV) (e : EntV) (i n c g off vb : Nat) (w : World) (hr : Row w 55 8 (some ⟨g, off, none⟩) n c (entsV l)) (hv : Blk w vb 55 #[.int .i64 e.id, .int .i64 e.kind, .int .i64 e.at_.x, .int .i64 e.at_.y, .int .i64 e.vel.x, .int .i64 e.vel.y, .int .i64 e.health, .int .i64 e.wait]) (hvg : vb ≠ g) (hn : n ≤ 1000) (hi : i < n) (hroom : n + 1 ≤ c) :
    Calls Tryz.prog 161 #[.slice (some ⟨g, off, none⟩) n c, .int .i64 i, .slice (some ⟨vb, 0, none⟩) 1 1] w fun r w' => Ins w w' (some ⟨g, off, none⟩) n r (l.take i ++ e :: l.drop i) := by
  have hlen : l.length = n := by have := hr.1; rw [entsV_length] at this; omega
  have hm := hr.2.2.1
  unfold maxLen at hm
  obtain ⟨R, hrx, hRl, hRt⟩ := hr.extend (n + 1) (by omega) hroom
  have hRi : R.take (i * 8) = entsV (l.take i) := by
    have : R.take (i * 8) = (R.take (n * 8)).take (i * 8) := by rw [List.take_take, Nat.min_eq_left (by omega)]
    rw [this, hRt, entsV_take]
  obtain ⟨hfin, -⟩ := ins_list l e i R (by omega) (by rw [hRl, hlen]) hRi
  have hdl : (entsV (l.drop i)).length = (n - i) * 8 := by rw [entsV_length, List.length_drop, hlen]
  have hcells : ∀ j u, (entsV (l.drop i))[j]? = some u → w.cell? ⟨g, off + i * 8 + j, none⟩ = some u := fun j u hu => by
    have hj : j < (n - i) * 8 := by rw [← hdl]; exact (List.getElem?_eq_some_iff.1 hu).1
    obtain ⟨g', off', hA, _, hc⟩ := hr.cells (by omega)
    simp only [Option.some.injEq, Addr.mk.injEq, and_true] at hA
    obtain ⟨rfl, rfl⟩ := hA
    have := (hc (i * 8 + j) (by omega)).1
    rw [← entsV_drop, List.getElem?_drop] at hu
    rw [← Nat.add_assoc] at this
    exact this.trans hu
  have hsv : w.shape? vb = some (55, 8) := by
    have h0 : w.heap[vb]? = some (.cells #[.int .i64 e.id, .int .i64 e.kind, .int .i64 e.at_.x, .int .i64 e.at_.y, .int .i64 e.vel.x, .int .i64 e.vel.y, .int .i64 e.health, .int .i64 e.wait] 55 (0, 0)) := hv
    simp [World.shape?, h0]
  obtain ⟨kB, hsg, hgk⟩ : ∃ kB, w.shape? g = some (55, kB) ∧ kB ≠ 0 := by
    rcases hr.2.2.2 with ⟨h1, _⟩ | ⟨g', off', cur, hA, hg, hcc, _⟩
    · cases h1
    · simp only [Option.some.injEq, Addr.mk.injEq, and_true] at hA
      obtain ⟨rfl, rfl⟩ := hA
      exact ⟨cur.size, by simp [World.shape?, hg], by omega⟩
  have hov : ∀ lb cb, (callFunc 217 #[.slice (some ⟨vb, 0, none⟩) 1 1, .slice (some ⟨g, off + (i + 1) * 8, none⟩) lb cb]).run Tryz.prog w = .ok (.value (.bool false)) w := fun lb cb => by
    rw [run_callFunc_extern Tryz.func217 (by kernel_rfl) (by kernel_rfl) (by kernel_rfl) (e := Extern.SlicesOverlaps.overlaps #[44, 44] #[4]) (by kernel_rfl),
      Lib.run_overlaps_apart w 44 4 55 Tryz.underlying44 8 sizeE ⟨vb, 0, none⟩ ⟨g, off + (i + 1) * 8, none⟩ 1 1 lb cb hvg _ _ _ _ hsv hsg hgk (hv.frozen 0) (hv.frozen 8)]
    rfl
  have hsp := fun j (hj : j < c * 8) => hrx.spare j hj
  have hc1 : ∀ ty dc sc, ∃ u, (Builtin.copy_ #[44, 44] ty #[.slice (some ⟨g, off + (i + 1) * 8, none⟩) (n + 1 - (i + 1)) dc, .slice (some ⟨g, off + i * 8, none⟩) (n + 1 - i) sc]).run Tryz.prog w.drew = .ok u (w.drew.setCells g (off + (i + 1) * 8) (entsV (l.drop i))) := fun ty dc sc =>
    run_copy_k w.drew _ _ ty 55 8 g (off + (i + 1) * 8) (n + 1 - (i + 1)) dc ⟨g, off + i * 8, none⟩ (n + 1 - i) sc (entsV (l.drop i)) Tryz.underlying44 infoE (by rw [hdl]; congr 1; simp only [Nat.min_def]; split <;> omega)
      (fun j u hu => by rw [add_none]; exact hcells j u hu) (fun j hj => by rw [Nat.add_assoc]; exact hsp _ (by omega)) (entsV_one _)
  have hr1 := Row.setCells (entsV (l.drop i)) R ((i + 1) * 8) w.drew (hrx.keep (fun _ _ => rfl))
  have hsp1 := fun j (hj : j < c * 8) => hr1.spare j hj
  have hc2 : ∀ ty dc, ∃ u, (Builtin.copy_ #[44, 44] ty #[.slice (some ⟨g, off + i * 8, none⟩) (n + 1 - i) dc, .slice (some ⟨vb, 0, none⟩) 1 1]).run Tryz.prog (w.drew.setCells g (off + (i + 1) * 8) (entsV (l.drop i))) = .ok u ((w.drew.setCells g (off + (i + 1) * 8) (entsV (l.drop i))).setCells g (off + i * 8) (entCells e)) := fun ty dc =>
    run_copy_k _ _ _ ty 55 8 g (off + i * 8) (n + 1 - i) dc ⟨vb, 0, none⟩ 1 1 (entCells e) Tryz.underlying44 infoE (by show 8 = _; simp only [Nat.min_def]; split <;> omega)
      (fun j u hu => by
        rw [add_none, World.cell?_setCells_out _ _ _ _ _ (fun h _ => absurd h hvg), Nat.zero_add]
        exact (hv.cell j).trans (by simpa [entCells] using hu))
      (fun j hj => by rw [Nat.add_assoc]; exact hsp1 _ (by have : (entCells e).length = 8 := rfl; omega)) (by simp [entCells, Value.oneCell'])
  have hr2 := Row.setCells (entCells e) _ (i * 8) _ hr1
  rw [hfin] at hr2
  have hcg : Chg (fun q => q = g) w ((w.drew.setCells g (off + (i + 1) * 8) (entsV (l.drop i))).setCells g (off + i * 8) (entCells e)) := Chg.setCells (F := fun q => q = g) rfl _ _ _ (Chg.setCells (F := fun q => q = g) rfl _ _ _ (Chg.drewN Chg.refl 1))
  have HR2 := Lib.hid hr2
  have HCG := Lib.hid hcg
  have HC1 := Lib.hid hc1
  have HC2 := Lib.hid hc2
  have z1 : ((i : Int) == (n : Int)) = false := beq_eq_false_iff_ne.2 (by omega)
  have z2 : decide ((c : Int) < (n : Int) + 1) = false := decide_eq_false (by omega)
  have z3 : ¬ (c = i + 1) := by omega
  have z4 : ¬ (c = i) := by omega
  have z5 : i ≤ n + 1 := by omega
  have z6 : i + 1 ≤ n + 1 := by omega
  have z7 : (0 : Int) ≤ (i : Int) + 1 := by omega
  have z8 : ((i : Int) + 1).toNat = i + 1 := by omega
  have z9 : i ≤ n := by omega
  have y4 : IntKind.i64.wrap ((i : Int) + 1) = (i : Int) + 1 := by rw [IntKind.wrap_i64]; omega
  have y5 : IntKind.i64.wrap ((n : Int) + 1) = (n : Int) + 1 := by rw [IntKind.wrap_i64]; omega
  have y6 : (i : Int) ≤ (n : Int) + 1 := by omega
  have y7 : (i : Int) ≤ (n : Int) := by omega
  have y1 : (0 : Int) ≤ (n : Int) + 1 := by omega
  have y2 : ((n : Int) + 1).toNat = n + 1 := by omega
  have y3 : (i : Int) + 1 ≤ (n : Int) + 1 := by omega
  clear hr1 hr2 hcg hc1 hc2 hsp hsp1 hcells hr hv hrx hfin hRi hRt
  go_enter Tryz.func161, Tryz.ntmps161
  go_wp2_with (simp only [hov])
  go_region_law (refine step_copy_any rfl (.tmp 73) (.tmp 76) 44 44 rfl (.slice (some ⟨g, off + (i + 1) * 8, none⟩) (n + 1 - (i + 1)) (c - (i + 1))) (.slice (some ⟨g, off + i * 8, none⟩) (n + 1 - i) (c - i)) (by simp [Act.eval, Act.put]) (by simp [Act.eval, Act.put]) (HC1.out _ _ _) ?_; intro v')
  all_goals
    obtain ⟨u2, hu2⟩ := HC2.out 3 (c - i)
    go_wp2
    go_ret
    exact ⟨some ⟨g, off, none⟩, c, rfl, HR2.out, HCG.out.mono (fun q hq => by rw [hq]; rfl), fun q hq => .inl hq⟩
end Go.Proofs.YtojbijapdkohlaaGreatDoor
set_option linter.unusedSimpArgs false
set_option linter.unusedVariables false
namespace Go.Proofs.YtojbijapdkohlaaGreatDoor
open Go.RowKit
theorem infoE2 : (Tryz.prog.info? 55).map (fun i => (i.zero, i.size, i.bytes)) = some (some (.agg zero8.toArray), 8, 64) := by kernel_rfl
set_option maxRecDepth 100000 in
set_option maxHeartbeats 4000000 in
theorem wInsGrow (l : List EntV) (e : EntV) (i n c g off vb : Nat) (w : World) (hr : Row w 55 8 (some ⟨g, off, none⟩) n c (entsV l)) (hv : Blk w vb 55 #[.int .i64 e.id, .int .i64 e.kind, .int .i64 e.at_.x, .int .i64 e.at_.y, .int .i64 e.vel.x, .int .i64 e.vel.y, .int .i64 e.health, .int .i64 e.wait]) (hn : n ≤ 1000) (hi : i < n) (hroom : c < n + 1) :
    Calls Tryz.prog 161 #[.slice (some ⟨g, off, none⟩) n c, .int .i64 i, .slice (some ⟨vb, 0, none⟩) 1 1] w fun r w' => Ins w w' (some ⟨g, off, none⟩) n r (l.take i ++ e :: l.drop i) := by
  have hlen : l.length = n := by have := hr.1; rw [entsV_length] at this; omega
  have hnc := hr.2.1
  have hgl : g < w.heap.size := hr.lt rfl
  have hvl := hv.lt
  obtain ⟨i0, hi0, hz0, hzs, hzb⟩ := info_parts infoE2
  have htl : (entsV (l.take i)).length = i * 8 := by rw [entsV_length, List.length_take, Nat.min_eq_left (by omega)]
  have hdl : (entsV (l.drop i)).length = (n - i) * 8 := by rw [entsV_length, List.length_drop, hlen]
  have hcell : ∀ j u, (entsV l)[j]? = some u → w.cell? ⟨g, off + j, none⟩ = some u := fun j u hu => by
    have hj : j < n * 8 := by have := (List.getElem?_eq_some_iff.1 hu).1; rw [entsV_length, hlen] at this; exact this
    obtain ⟨g', off', hA, _, hc⟩ := hr.cells (by omega)
    simp only [Option.some.injEq, Addr.mk.injEq, and_true] at hA
    obtain ⟨rfl, rfl⟩ := hA
    exact (hc j hj).1.trans hu
  have hold : (Builtin.firstCells i0.size i (.slice (some ⟨g, off, none⟩) i c)).run Tryz.prog w.drew = .ok (entsV (l.take i)).toArray w.drew := by
    rw [hzs]
    exact run_firstCells_some w.drew 8 i ⟨g, off, none⟩ i c (entsV (l.take i)) htl (fun j v hj => by
      rw [add_none]
      refine hcell j v ?_
      rw [← entsV_take, List.getElem?_take] at hj
      split at hj
      · exact hj
      · cases hj)
  have hik : i + (n + 1 - i) = n + 1 := by omega
  have hkk : (n : Int) + 1 - (i : Int) = ((n + 1 - i : Nat) : Int) := by omega
  obtain ⟨G, hG⟩ : ∃ G, G = grownCap w (n + 1) c 55 := ⟨_, rfl⟩
  have hGn : n + 1 ≤ G := by rw [hG]; exact grownCap_ge w _ _ _
  have hG63 : G ≤ maxLen := by rw [hG]; exact grownCap_le_maxLen w (n + 1) c 55 (by unfold maxLen; omega)
  obtain ⟨ROW, hROW⟩ : ∃ ROW : Array Value, ROW = (entsV (l.take i)).toArray ++ Builtin.zeroCells (Value.agg zero8.toArray).cells (n + 1 - i) ++ Builtin.zeroCells (Value.agg zero8.toArray).cells (G - (n + 1)) := ⟨_, rfl⟩
  have hrz : ∀ ty, (Builtin.append_ #[44, 3] ty #[.slice (some ⟨g, off, none⟩) i c, .int .i64 ((n + 1 - i : Nat) : Int)]).run Tryz.prog w = .ok (.slice (some ⟨w.heap.size, 0, none⟩) (n + 1) G) (w.drew.alloc (.cells ROW 55)) := fun ty => by
    have h := Lib.run_append_grow_zeros w 44 3 ty 55 i0 _ .i64 .i64 Tryz.underlying44 Tryz.underlying3 hi0 hz0 (some ⟨g, off, none⟩) i c (entsV (l.take i)) hold (n + 1 - i) (by omega) (by rw [hzs]; decide) (by omega) (by omega) (by rw [hzb]; omega) (by rw [hzb, hik]; exact growslice_fits hroom (by omega))
    rw [hik, ← hG, ← hROW] at h
    exact h
  have hRs : ROW.size = G * 8 := by
    rw [hROW]
    have hz : (Value.agg zero8.toArray).cells.size = 8 := rfl
    simp only [Array.size_append, List.size_toArray, size_zeroCells, htl, hz]
    omega
  have hw1 : Row (w.drew.alloc (.cells ROW 55)) 55 8 (some ⟨w.heap.size, 0, none⟩) (n + 1) G (ROW.toList.take ((n + 1) * 8)) :=
    ⟨by rw [List.length_take, Array.length_toList, hRs]; omega, hGn, hG63, .inr ⟨w.heap.size, 0, ROW, rfl, heap_alloc_new w.drew _, by rw [hRs]; omega, by rw [List.drop_zero]⟩⟩
  have hRt : (ROW.toList.take ((n + 1) * 8)).take (i * 8) = entsV (l.take i) := by
    rw [List.take_take, Nat.min_eq_left (by omega), hROW]
    simp only [Array.toList_append, List.append_assoc]
    rw [List.take_append_of_le_length (by simp [htl]), List.take_of_length_le (by simp [htl])]
  have hRl : (ROW.toList.take ((n + 1) * 8)).length = (l.length + 1) * 8 := by rw [hw1.1, hlen]
  obtain ⟨-, hfin⟩ := ins_list l e i _ (by omega) hRl hRt
  have hcg1 : Chg (fun q => blkOf (some ⟨g, off, none⟩ : Option Addr) = some q) w (w.drew.alloc (.cells ROW 55)) := (Chg.drewN Chg.refl 1).alloc _
  have hold2 : ∀ b j, b < w.heap.size → (w.drew.alloc (.cells ROW 55)).cell? ⟨b, j, none⟩ = w.cell? ⟨b, j, none⟩ := fun b j hb => World.cell?_alloc_lt w.drew _ ⟨b, j, none⟩ hb
  obtain ⟨W1, hW1⟩ : ∃ W1, W1 = w.drew.alloc (.cells ROW 55) := ⟨_, rfl⟩
  rw [← hW1] at hw1 hcg1
  simp only [← hW1] at hrz hold2
  have hsp := fun j (hj : j < G * 8) => hw1.spare j hj
  have hc1 : ∀ ty dc, ∃ u, (Builtin.copy_ #[44, 44] ty #[.slice (some ⟨w.heap.size, i * 8, none⟩) (n + 1 - i) dc, .slice (some ⟨vb, 0, none⟩) 1 1]).run Tryz.prog W1 = .ok u (W1.setCells w.heap.size (i * 8) (entCells e)) := fun ty dc =>
    run_copy_k W1 _ _ ty 55 8 w.heap.size (i * 8) (n + 1 - i) dc ⟨vb, 0, none⟩ 1 1 (entCells e) Tryz.underlying44 infoE (by show 8 = _; simp only [Nat.min_def]; split <;> omega)
      (fun j u hu => by rw [add_none, Nat.zero_add, hold2 vb j hvl]; exact (hv.cell j).trans (by simpa [entCells] using hu))
      (fun j hj => by have h8 : (entCells e).length = 8 := rfl; have := hsp (i * 8 + j) (by omega); rw [Nat.zero_add] at this; exact this) (by simp [entCells, Value.oneCell'])
  have hr2 := Row.setCells (entCells e) _ (i * 8) _ hw1
  rw [Nat.zero_add] at hr2
  have hcg2 := Chg.setCells (F := fun q => blkOf (some ⟨g, off, none⟩ : Option Addr) = some q ∨ q = w.heap.size) (g := w.heap.size) (.inr rfl) (entCells e) (i * 8) _ (hcg1.mono (fun q hq => .inl hq))
  have hold3 : ∀ j, (W1.setCells w.heap.size (i * 8) (entCells e)).cell? ⟨g, j, none⟩ = w.cell? ⟨g, j, none⟩ := fun j => (World.cell?_setCells_out _ _ _ _ _ (fun h _ => absurd h (by show g ≠ w.heap.size; omega))).trans (hold2 g j hgl)
  obtain ⟨W2, hW2⟩ : ∃ W2, W2 = W1.setCells w.heap.size (i * 8) (entCells e) := ⟨_, rfl⟩
  rw [← hW2] at hr2 hcg2
  simp only [← hW2] at hc1 hold3
  have hold3d : ∀ j, W2.drew.cell? ⟨g, j, none⟩ = w.cell? ⟨g, j, none⟩ := fun j => hold3 j
  have hr2d := hr2.keep (w' := W2.drew) (fun _ _ => rfl)
  have hsp2 := fun j (hj : j < G * 8) => hr2d.spare j hj
  have hc2 : ∀ ty dc sc, ∃ u, (Builtin.copy_ #[44, 44] ty #[.slice (some ⟨w.heap.size, (i + 1) * 8, none⟩) (n + 1 - (i + 1)) dc, .slice (some ⟨g, off + i * 8, none⟩) (n - i) sc]).run Tryz.prog W2.drew = .ok u (W2.drew.setCells w.heap.size ((i + 1) * 8) (entsV (l.drop i))) := fun ty dc sc =>
    run_copy_k W2.drew _ _ ty 55 8 w.heap.size ((i + 1) * 8) (n + 1 - (i + 1)) dc ⟨g, off + i * 8, none⟩ (n - i) sc (entsV (l.drop i)) Tryz.underlying44 infoE (by rw [hdl]; congr 1; simp only [Nat.min_def]; split <;> omega)
      (fun j u hu => by
        rw [add_none, hold3d, Nat.add_assoc]
        refine hcell _ u ?_
        rw [← entsV_drop, List.getElem?_drop] at hu
        exact hu)
      (fun j hj => by have := hsp2 ((i + 1) * 8 + j) (by omega); rw [Nat.zero_add] at this; exact this) (entsV_one _)
  have hr3 := Row.setCells (entsV (l.drop i)) _ ((i + 1) * 8) W2.drew hr2d
  rw [Nat.zero_add, hfin] at hr3
  have hcg3 := Chg.setCells (F := fun q => blkOf (some ⟨g, off, none⟩ : Option Addr) = some q ∨ q = w.heap.size) (g := w.heap.size) (.inr rfl) (entsV (l.drop i)) ((i + 1) * 8) _ (hcg2.drewN 1)
  have HR3 := Lib.hid hr3
  have HCG := Lib.hid hcg3
  have HC1 := Lib.hid hc1
  have HC2 := Lib.hid hc2
  have HRZ := Lib.hid hrz
  have z1 : ((i : Int) == (n : Int)) = false := beq_eq_false_iff_ne.2 (by omega)
  have z2 : decide ((c : Int) < (n : Int) + 1) = true := decide_eq_true (by omega)
  have z3 : ¬ (G = i + 1) := by omega
  have z4 : ¬ (G = i) := by omega
  have z10 : ¬ (c = i) := by omega
  have z5 : i ≤ n + 1 := by omega
  have z7 : (0 : Int) ≤ (i : Int) + 1 := by omega
  have z8 : ((i : Int) + 1).toNat = i + 1 := by omega
  have z9 : i ≤ n := by omega
  have z11 : i ≤ c := by omega
  have z12 : (i : Int) ≤ (c : Int) := by omega
  have y3 : (i : Int) + 1 ≤ (n : Int) + 1 := by omega
  have y4 : IntKind.i64.wrap ((i : Int) + 1) = (i : Int) + 1 := by rw [IntKind.wrap_i64]; omega
  have y5 : IntKind.i64.wrap ((n : Int) + 1) = (n : Int) + 1 := by rw [IntKind.wrap_i64]; omega
  have y6 : (i : Int) ≤ (n : Int) + 1 := by omega
  have y7 : (i : Int) ≤ (n : Int) := by omega
  have y8 : i + 1 ≤ n + 1 := by omega
  have y9 : (0 : Int) ≤ (n : Int) + 1 := by omega
  obtain ⟨u1, hu1⟩ := hc1 3 (G - i)
  clear hr2 hr2d hr3 hcg1 hcg2 hcg3 hc1 hc2 hsp hsp2 hcell hr hv hw1 hfin hRl hRt hold hold2 hold3 hold3d hrz hi0 hz0 hzs hzb hROW hG hRs hW1 hW2 htl
  unfold maxLen at hG63
  go_enter Tryz.func161, Tryz.ntmps161
  go_wp2_with (at_builtin; refine Lib.wpList_append_run _ rfl (.tmp 34) (.tmp 39) 44 3 rfl _ _ rfl rfl (.slice (some ⟨w.heap.size, 0, none⟩) (n + 1) G) W1 (HRZ.out _) ?_)
  go_region_law (refine step_copy_any rfl (.tmp 50) (.tmp 53) 44 44 rfl (.slice (some ⟨w.heap.size, (i + 1) * 8, none⟩) (n + 1 - (i + 1)) (G - (i + 1))) (.slice (some ⟨g, off + i * 8, none⟩) (n - i) (c - i)) (by simp [Act.eval, Act.put]) (by simp [Act.eval, Act.put]) (HC2.out _ _ _) ?_; intro v')
  all_goals
    go_wp2
    go_ret
    exact ⟨some ⟨w.heap.size, 0, none⟩, G, rfl, HR3.out, ⟨HCG.out.os, HCG.out.tape, HCG.out.output, HCG.out.size, fun q hq hn => HCG.out.block q hq (fun h => h.elim hn (fun h => by omega))⟩, fun q hq => by cases hq; exact .inr (Nat.le_refl _)⟩
theorem wInsert (l : List EntV) (e : EntV) (A : Option Addr) (i n c vb : Nat) (w : World) (hr : Row w 55 8 A n c (entsV l)) (hv : Blk w vb 55 #[.int .i64 e.id, .int .i64 e.kind, .int .i64 e.at_.x, .int .i64 e.at_.y, .int .i64 e.vel.x, .int .i64 e.vel.y, .int .i64 e.health, .int .i64 e.wait]) (hvA : ∀ g, blkOf A = some g → vb ≠ g) (hn : n ≤ 1000) (hi : i ≤ n) :
    Calls Tryz.prog 161 #[.slice A n c, .int .i64 i, .slice (some ⟨vb, 0, none⟩) 1 1] w fun r w' => Ins w w' A n r (l.take i ++ e :: l.drop i) := by
  have hlen : l.length = n := by have := hr.1; rw [entsV_length] at this; omega
  by_cases h : i = n
  · subst h
    have := wInsEnd l e A i c vb w hr hv hn
    rw [← hlen, List.take_length, List.drop_length, hlen]
    exact this
  · obtain ⟨g, off, rfl, _, _⟩ := hr.cells (by omega)
    by_cases hroom : n + 1 ≤ c
    · exact wInsMid l e i n c g off vb w hr hv (hvA g rfl) hn (by omega) hroom
    · exact wInsGrow l e i n c g off vb w hr hv hn (by omega) (by omega)
end Go.Proofs.YtojbijapdkohlaaGreatDoor
