/- More laws on rows: cells written anew, an append that has room, clear, copy. The walk of slices.Delete of one entity. -/
import Derived.Test.YtojbijapdkohlaaGreatDoorWNew
import Derived.Laws.IdiomCopy
set_option linter.unusedSimpArgs false
set_option linter.unusedVariables false
namespace Go.Proofs.YtojbijapdkohlaaGreatDoor
open Go.RowKit
def setRange : List Value → Nat → List Value → List Value
  | xs, _, [] => xs
  | xs, i, v :: r => setRange (xs.set i v) (i + 1) r
theorem setRange_length : ∀ (vs xs : List Value) (i : Nat), (setRange xs i vs).length = xs.length
  | [], _, _ => rfl
  | v :: r, xs, i => by rw [setRange, setRange_length r]; simp
theorem setRange_get : ∀ (vs xs : List Value) (i j : Nat), i + vs.length ≤ xs.length → (setRange xs i vs)[j]? = if i ≤ j ∧ j < i + vs.length then vs[j - i]? else xs[j]?
  | [], xs, i, j, _ => by rw [setRange, if_neg (by simp)]
  | v :: r, xs, i, j, h => by
    simp only [List.length_cons] at h ⊢
    rw [setRange, setRange_get r _ _ _ (by simp; omega)]
    by_cases h1 : i + 1 ≤ j ∧ j < i + 1 + r.length
    · rw [if_pos h1, if_pos (by omega), show j - i = (j - (i + 1)) + 1 by omega, List.getElem?_cons_succ]
    · rw [if_neg h1]
      by_cases h2 : j = i
      · subst h2
        rw [if_pos (by omega), Nat.sub_self, List.getElem?_set_self (by omega)]; rfl
      · rw [List.getElem?_set_ne (Ne.symm h2), if_neg (by omega)]
theorem setRange_past : ∀ (vs xs : List Value) (i : Nat), xs.length ≤ i → setRange xs i vs = xs
  | [], _, _, _ => rfl
  | v :: r, xs, i, h => by rw [setRange, List.set_eq_of_length_le h, setRange_past r xs (i + 1) (by omega)]
theorem Row.setCells {e : TypeId} {size n c g off : Nat} : ∀ (vs xs : List Value) (i : Nat) (w : World), Row w e size (some ⟨g, off, none⟩) n c xs → Row (w.setCells g (off + i) vs) e size (some ⟨g, off, none⟩) n c (setRange xs i vs)
  | [], _, _, _, h => h
  | v :: r, xs, i, w, h => by
    have := Row.setCells r (xs.set i v) (i + 1) _ (h.set rfl i v)
    rw [World.setCells, setRange]
    exact this
theorem Chg.setCells {F : Nat → Prop} {a : World} {g : Nat} (hF : F g) : ∀ (vs : List Value) (o : Nat) (w : World), Chg F a w → Chg F a (w.setCells g o vs)
  | [], _, _, h => h
  | v :: r, o, w, h => by rw [World.setCells]; exact Chg.setCells hF r (o + 1) _ (Chg.setCell (p := ⟨g, o, none⟩) h (.inl hF) v)
theorem Row.spare {w : World} {e : TypeId} {size n c g off : Nat} {xs : List Value} (h : Row w e size (some ⟨g, off, none⟩) n c xs) (j : Nat) (hj : j < c * size) : (w.cell? ⟨g, off + j, none⟩).isSome = true ∧ w.frozen? ⟨g, off + j, none⟩ = false := by
  rcases h.2.2.2 with ⟨h1, _⟩ | ⟨g', off', cur, hA, hg, hc, _⟩
  · cases h1
  · simp only [Option.some.injEq, Addr.mk.injEq, and_true] at hA
    obtain ⟨rfl, rfl⟩ := hA
    rw [cell_of_row w g (off + j) cur e (0, 0) hg]
    refine ⟨?_, frozen_of_row w g _ cur e hg⟩
    rw [Option.isSome_iff_exists]
    exact ⟨_, Array.getElem?_eq_getElem (by omega)⟩
section
variable {P : Program} {w : World} {t e : TypeId} {size bytes : Nat}
theorem Row.more {n c g off m : Nat} {xs news : List Value} (h : Row w e size (some ⟨g, off, none⟩) n c xs) (hm : news.length = m * size) (hroom : n + m ≤ c) :
    Row (w.setCells g (off + n * size) news) e size (some ⟨g, off, none⟩) (n + m) c (xs ++ news) := by
  rcases h.2.2.2 with ⟨h1, _⟩ | ⟨g', off', cur, hA, hg, hc, ht⟩
  · cases h1
  · simp only [Option.some.injEq, Addr.mk.injEq, and_true] at hA
    obtain ⟨rfl, rfl⟩ := hA
    have hcs : (n + m) * size ≤ c * size := Nat.mul_le_mul_right _ hroom
    rw [Nat.add_mul] at hcs
    have hlen : ((cur.toList.drop off).take ((n + m) * size)).length = (n + m) * size := by
      rw [List.length_take, List.length_drop, Array.length_toList, Nat.add_mul]; omega
    have h0 : Row w e size (some ⟨g, off, none⟩) (n + m) c ((cur.toList.drop off).take ((n + m) * size)) := ⟨hlen, hroom, h.2.2.1, .inr ⟨g, off, cur, rfl, hg, hc, rfl⟩⟩
    have h2 := Row.setCells news _ (n * size) w h0
    have hx : setRange ((cur.toList.drop off).take ((n + m) * size)) (n * size) news = xs ++ news := by
      apply List.ext_getElem?
      intro j
      have hxl := h.1
      rw [setRange_get _ _ _ _ (by rw [hlen, Nat.add_mul, hm]; exact Nat.le_refl _)]
      by_cases hj : n * size ≤ j
      · by_cases hj2 : j < n * size + news.length
        · rw [if_pos ⟨hj, hj2⟩, List.getElem?_append_right (by rw [hxl]; exact hj), hxl]
        · rw [if_neg (fun hh => hj2 hh.2), List.getElem?_eq_none (by rw [hlen, Nat.add_mul]; omega), List.getElem?_eq_none (by rw [List.length_append, hxl]; omega)]
      · have e1 : xs[j]? = (cur.toList.drop off)[j]? := by rw [← ht, List.getElem?_take, if_pos (by omega)]
        rw [if_neg (fun hh => hj hh.1), List.getElem?_append_left (by rw [hxl]; omega), e1, List.getElem?_take, if_pos (by rw [Nat.add_mul]; omega)]
    rw [hx] at h2
    exact h2
theorem run_append_room_row (E : Elt P t e size bytes) (ty : TypeId) {n c g off : Nat} {xs : List Value} (hr : Row w e size (some ⟨g, off, none⟩) n c xs)
    {a : Addr} {m c2 : Nat} {news : List Value} (hl : news.length = m * size) (hs : ∀ j u, news[j]? = some u → w.cell? (a.add j) = some u) (h1 : ∀ u ∈ news, u.oneCell' = true) (hroom : n + m ≤ c) :
    (Builtin.append_ #[t, t] ty #[.slice (some ⟨g, off, none⟩) n c, .slice (some a) m c2]).run P w = .ok (.slice (some ⟨g, off, none⟩) (n + m) c) (w.setCells g (off + n * size) news) := by
  obtain ⟨i, z, hi, hz, hsz, hby, hzs⟩ := E.hi
  subst hsz
  have hcs : (n + m) * i.size ≤ c * i.size := Nat.mul_le_mul_right _ hroom
  rw [Nat.add_mul] at hcs
  have hsp := fun j (hj : j < news.length) => hr.spare (n * i.size + j) (by omega)
  exact run_append_room_cells w t ty e i E.ht hi g off n c a m c2 news hl hs h1 hroom (fun j hj => by rw [Nat.add_assoc]; exact (hsp j hj).1) (fun j hj => by rw [Nat.add_assoc]; exact (hsp j hj).2)
theorem step_app_room {ops : Array Oper} {o : Oper} {a : Act} {K : Act → World → Prop} {Q : Exit → Act → World → Prop} {F : Prop} (hgd : o.guard = none) (s x : Operand)
    (ho : o.op = .call { callee := .builtin .append, args := #[s, x], argTypes := #[t, t] }) (E : Elt P t e size bytes) (g off n c : Nat) (xs : List Value) (hs : a.eval s = .slice (some ⟨g, off, none⟩) n c) (hr : Row w e size (some ⟨g, off, none⟩) n c xs)
    (ad : Addr) (m c2 : Nat) (news : List Value) (hx : a.eval x = .slice (some ad) m c2) (hl : news.length = m * size) (hn : ∀ j u, news[j]? = some u → w.cell? (ad.add j) = some u) (h1 : ∀ u ∈ news, u.oneCell' = true) (hroom : n + m ≤ c)
    (h : ∀ w', Row w' e size (some ⟨g, off, none⟩) (n + m) c (xs ++ news) → Chg (fun q => q = g) w w' → K (a.put o.dst (.slice (some ⟨g, off, none⟩) (n + m) c)) w') :
    if Region.wanted o (yielded ops a.tmps) = true then Oper.wp P o a w K Q else F := by
  have hw : Region.wanted o (yielded ops a.tmps) = true := by simp [Region.wanted, hgd]
  rw [if_pos hw]
  have hrun := run_append_room_row E o.type hr (c2 := c2) hl hn h1 hroom
  unfold Oper.wp execOp
  simp only [ho, resolve, invoke, builtin, Sem.run_bind, Sem.run_pure, Result.andThen_ok, List.map_toArray, List.map_cons, List.map_nil, hs, hx, hrun]
  exact h _ (hr.more hl hroom) (Chg.setCells (F := fun q => q = g) rfl _ _ _ Chg.refl)
/-- clear of one element. -/
theorem run_clear_one (E : Elt P t e size bytes) (ty : TypeId) (zs : List Value) (hv : ∀ w, (zeroValue e).run P w = .ok (.agg zs.toArray) w) (hz : ∀ v ∈ zs, v.oneCell' = true) (hzl : zs.length = size) (g o c : Nat)
    (hc : ∀ j, j < size → (w.cell? ⟨g, o + j, none⟩).isSome = true ∧ w.frozen? ⟨g, o + j, none⟩ = false) :
    (Builtin.clear_ #[t] ty #[.slice (some ⟨g, o, none⟩) 1 c]).run P w = .ok (.tuple #[]) (w.setCells g o zs) := by
  have hzc : (Builtin.zeroCells (Value.agg zs.toArray).cells 1).toList = zs := by
    simp [Builtin.zeroCells, Value.cells]
    apply List.ext_getElem
    · simp
    · intro i h1 h2
      simp [Nat.mod_eq_of_lt h2, List.getElem?_eq_getElem h2]
  have hst := run_storeCells_cells (P := P) g o zs 0 w (by simpa using fun j hj => (hc j (by omega)).1) (by simpa using fun j hj => (hc j (by omega)).2) hz
  simp only [Nat.add_zero] at hst
  simp [Builtin.clear_, run_underlying E.ht, hv, hzc, hst]
theorem wpList_clear_run {ops : Array Oper} {rest : List Oper} {o : Oper} {a : Act} {Q : Exit → Act → World → Prop} (hgd : o.guard = none) (x : Operand) (ho : o.op = .call { callee := .builtin .clear, args := #[x], argTypes := #[t] })
    (u : Value) (hx : a.eval x = u) {v' : Value} {w' : World} (hr : (Builtin.clear_ #[t] o.type #[u]).run P w = .ok v' w') (h : wpList P ops Q rest (a.put o.dst v') w') : wpList P ops Q (o :: rest) a w :=
  wpList_plain hgd fun _ hK => by
    unfold Oper.wp execOp
    simp only [ho, resolve, invoke, builtin, Sem.run_bind, Sem.run_pure, Result.andThen_ok, List.map_toArray, List.map_cons, List.map_nil, hx, hr]
    exact hK _ _ h
end
end Go.Proofs.YtojbijapdkohlaaGreatDoor
set_option linter.unusedSimpArgs false
set_option linter.unusedVariables false
namespace Go.Proofs.YtojbijapdkohlaaGreatDoor
open Go.RowKit
theorem entsV_take (l : List EntV) (k : Nat) : (entsV l).take (k * 8) = entsV (l.take k) := by
  induction l generalizing k with
  | nil => simp [entsV]
  | cons a l ih =>
    cases k with
    | zero => simp [entsV]
    | succ k =>
      have e : (k + 1) * 8 = (entCells a).length + k * 8 := by simp [entCells]; omega
      simp only [entsV, List.flatMap_cons, List.take_succ_cons] at ih ⊢
      rw [e, List.take_length_add_append, ih]
theorem entsV_drop (l : List EntV) (k : Nat) : (entsV l).drop (k * 8) = entsV (l.drop k) := by
  induction l generalizing k with
  | nil => simp [entsV]
  | cons a l ih =>
    cases k with
    | zero => simp [entsV]
    | succ k =>
      have e : (k + 1) * 8 = (entCells a).length + k * 8 := by simp [entCells]; omega
      simp only [entsV, List.flatMap_cons, List.drop_succ_cons] at ih ⊢
      rw [e, List.drop_length_add_append, ih]
theorem entsV_append (l m : List EntV) : entsV (l ++ m) = entsV l ++ entsV m := by simp [entsV, List.flatMap_append]
def zero8 : List Value := [.int .i64 0, .int .i64 0, .int .i64 0, .int .i64 0, .int .i64 0, .int .i64 0, .int .i64 0, .int .i64 0]
set_option maxRecDepth 100000 in
set_option maxHeartbeats 4000000 in
theorem zero30 (w : World) : (zeroValue 55).run Tryz.prog w = .ok (.agg zero8.toArray) w := by kernel_rfl
set_option maxRecDepth 100000 in
set_option maxHeartbeats 4000000 in
theorem wDelete (l : List EntV) (k n c g off : Nat) (w : World) (hr : Row w 55 8 (some ⟨g, off, none⟩) n c (entsV l)) (hk : k < n) :
    Calls Tryz.prog 157 #[.slice (some ⟨g, off, none⟩) n c, .int .i64 k, .int .i64 (k + 1 : Nat)] w fun r w' => r = .returned (.slice (some ⟨g, off, none⟩) (n - 1) c) ∧ Row w' 55 8 (some ⟨g, off, none⟩) (n - 1) c (entsV (l.take k ++ l.drop (k + 1))) ∧ Chg (fun q => q = g) w w' := by
  have hlen : l.length = n := by have := hr.1; rw [entsV_length] at this; omega
  have hnc := hr.2.1
  have hm := hr.2.2.1
  unfold maxLen at hm
  have hk1 : (k : Int) + 1 ≤ n := by omega
  have hne : ((k : Int) == (k : Int) + 1) = false := beq_eq_false_iff_ne.2 (by omega)
  obtain ⟨AD, hAD, hnews⟩ : ∃ AD : Addr, (if c = k + 1 then some (⟨g, off, none⟩ : Addr) else some ⟨g, off + (k + 1) * 8, none⟩) = some AD ∧ ∀ j u, (entsV (l.drop (k + 1)))[j]? = some u → w.drew.cell? (AD.add j) = some u := by
    by_cases hck : c = k + 1
    · refine ⟨⟨g, off, none⟩, if_pos hck, fun j u hu => ?_⟩
      rw [List.drop_eq_nil_of_le (by omega)] at hu
      simp [entsV] at hu
    · refine ⟨⟨g, off + (k + 1) * 8, none⟩, if_neg hck, fun j u hu => ?_⟩
      have hj : j < (l.length - (k + 1)) * 8 := by have := (List.getElem?_eq_some_iff.1 hu).1; rw [entsV_length, List.length_drop] at this; exact this
      obtain ⟨g', off', hA, _, hc⟩ := hr.cells (by omega)
      simp only [Option.some.injEq, Addr.mk.injEq, and_true] at hA
      obtain ⟨rfl, rfl⟩ := hA
      rw [add_none]
      have := (hc ((k + 1) * 8 + j) (by omega)).1
      rw [← entsV_drop, List.getElem?_drop] at hu
      rw [← Nat.add_assoc] at this
      exact this.trans hu
  have hrt : Row w.drew 55 8 (some ⟨g, off, none⟩) k c (entsV (l.take k)) := by
    have := hr.take (Nat.le_of_lt hk)
    rw [entsV_take] at this
    exact this.keep (fun _ _ => rfl)
  have hdl : (entsV (l.drop (k + 1))).length = (n - (k + 1)) * 8 := by rw [entsV_length, List.length_drop, hlen]
  have HRT := Lib.hid hrt
  have HNEWS := Lib.hid hnews
  have HDL := Lib.hid hdl
  have HAD := Lib.hid hAD
  have hkn : k + (n - (k + 1)) = n - 1 := by omega
  have ht1 : ((k : Int) + 1).toNat = k + 1 := by omega
  have t1 : k + 1 ≤ n := hk
  have t2 : k ≤ c := by omega
  have t3 : k + 1 ≤ c := by omega
  have t4 : k ≤ n := by omega
  have t5 : n - 1 ≤ n := by omega
  have t6 : n ≤ c := hnc
  have t7 : (0 : Int) ≤ (k : Int) + 1 := by omega
  have t8 : k + 1 + (n - (k + 1)) = n := by omega
  have t9 : n - (n - 1) = 1 := by omega
  clear hr hrt hnews hdl
  go_enter Tryz.func157, Tryz.ntmps157
  go_wp2
  go_region_law (refine step_app_room rfl (.tmp 22) (.tmp 25) rfl elt56 g off k c (entsV (l.take k)) (by simp [Act.eval, Act.put]) HRT.out AD (n - (k + 1)) (c - (k + 1)) (entsV (l.drop (k + 1))) (by simp [Act.eval, Act.put, hAD]) HDL.out HNEWS.out (entsV_one _) (by omega) ?_; intro w1 hr1 hc1; rw [hkn] at hr1; have hclr := fun (cc : Nat) (ty : TypeId) => run_clear_one (w := w1) elt56 ty zero8 zero30 (by decide) rfl g (off + (n - 1) * 8) cc (fun j hj => by rw [Nat.add_assoc]; exact hr1.spare _ (by omega)); have HR1 := Lib.hid hr1; have HC1 := Lib.hid hc1; clear hr1 hc1)
  all_goals
    go_wp2
    go_ret
    refine ⟨rfl, ?_, Chg.setCells (F := fun q => q = g) rfl _ _ _ ⟨HC1.out.os, HC1.out.tape, HC1.out.output, HC1.out.size, HC1.out.block⟩⟩
    have := Row.setCells zero8 _ ((n - 1) * 8) w1 HR1.out
    rw [setRange_past _ _ _ (by have := HR1.out.1; omega), ← entsV_append] at this
    exact this
end Go.Proofs.YtojbijapdkohlaaGreatDoor
