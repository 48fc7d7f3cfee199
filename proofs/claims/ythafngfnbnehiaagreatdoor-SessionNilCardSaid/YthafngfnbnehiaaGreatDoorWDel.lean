/- The walk of slices.Delete of one entity. -/
import Derived.Test.YthafngfnbnehiaaGreatDoorWRows
set_option linter.unusedSimpArgs false
set_option linter.unusedVariables false
namespace Go.Proofs.YthafngfnbnehiaaGreatDoor
open Go.RowKit
theorem entsV_take (l : List EntV) (k : Nat) : (entsV l).take (k * 8) = entsV (l.take k) := by
  induction l generalizing k with
  | nil => simp [entsV]
  | cons a l ih =>
    cases k with
    | zero => simp [entsV]
    | succ k =>
      have e : (k + 1) * 8 = (entCells a).length + k * 8 := by simp [entCells]; omega
      simp only [entsV, List.flatMap_cons, List.take_succ_cons] at ih ⊢
      rw [e, List.take_length_add_append, ih]
theorem entsV_drop (l : List EntV) (k : Nat) : (entsV l).drop (k * 8) = entsV (l.drop k) := by
  induction l generalizing k with
  | nil => simp [entsV]
  | cons a l ih =>
    cases k with
    | zero => simp [entsV]
    | succ k =>
      have e : (k + 1) * 8 = (entCells a).length + k * 8 := by simp [entCells]; omega
      simp only [entsV, List.flatMap_cons, List.drop_succ_cons] at ih ⊢
      rw [e, List.drop_length_add_append, ih]
theorem entsV_append (l m : List EntV) : entsV (l ++ m) = entsV l ++ entsV m := by simp [entsV, List.flatMap_append]
def zero8 : List Value := [.int .i64 0, .int .i64 0, .int .i64 0, .int .i64 0, .int .i64 0, .int .i64 0, .int .i64 0, .int .i64 0]
set_option maxRecDepth 100000 in
set_option maxHeartbeats 4000000 in
theorem zero30 (w : World) : (zeroValue 72).run Tryz.prog w = .ok (.agg zero8.toArray) w := by kernel_rfl
set_option maxRecDepth 100000 in
set_option maxHeartbeats 4000000 in
theorem wDelete (l : List EntV) (k n c g off : Nat) (w : World) (hr : Row w 72 8 (some ⟨g, off, none⟩) n c (entsV l)) (hk : k < n) :
    Calls Tryz.prog 123 #[.slice (some ⟨g, off, none⟩) n c, .int .i64 k, .int .i64 (k + 1 : Nat)] w fun r w' => r = .returned (.slice (some ⟨g, off, none⟩) (n - 1) c) ∧ Row w' 72 8 (some ⟨g, off, none⟩) (n - 1) c (entsV (l.take k ++ l.drop (k + 1))) ∧ Chg (fun q => q = g) w w' := by
  have hlen : l.length = n := by have := hr.1; rw [entsV_length] at this; omega
  have hnc := hr.2.1
  have hm := hr.2.2.1
  unfold maxLen at hm
  have hk1 : (k : Int) + 1 ≤ n := by omega
  have hne : ((k : Int) == (k : Int) + 1) = false := beq_eq_false_iff_ne.2 (by omega)
  obtain ⟨AD, hAD, hnews⟩ : ∃ AD : Addr, (if c = k + 1 then some (⟨g, off, none⟩ : Addr) else some ⟨g, off + (k + 1) * 8, none⟩) = some AD ∧ ∀ j u, (entsV (l.drop (k + 1)))[j]? = some u → w.drew.cell? (AD.add j) = some u := by
    by_cases hck : c = k + 1
    · refine ⟨⟨g, off, none⟩, if_pos hck, fun j u hu => ?_⟩
      rw [List.drop_eq_nil_of_le (by omega)] at hu
      simp [entsV] at hu
    · refine ⟨⟨g, off + (k + 1) * 8, none⟩, if_neg hck, fun j u hu => ?_⟩
      have hj : j < (l.length - (k + 1)) * 8 := by have := (List.getElem?_eq_some_iff.1 hu).1; rw [entsV_length, List.length_drop] at this; exact this
      obtain ⟨g', off', hA, _, hc⟩ := hr.cells (by omega)
      simp only [Option.some.injEq, Addr.mk.injEq, and_true] at hA
      obtain ⟨rfl, rfl⟩ := hA
      rw [add_none]
      have := (hc ((k + 1) * 8 + j) (by omega)).1
      rw [← entsV_drop, List.getElem?_drop] at hu
      rw [← Nat.add_assoc] at this
      exact this.trans hu
  have hrt : Row w.drew 72 8 (some ⟨g, off, none⟩) k c (entsV (l.take k)) := by
    have := hr.take (Nat.le_of_lt hk)
    rw [entsV_take] at this
    exact this.keep (fun _ _ => rfl)
  have hdl : (entsV (l.drop (k + 1))).length = (n - (k + 1)) * 8 := by rw [entsV_length, List.length_drop, hlen]
  have HRT := Lib.hid hrt
  have HNEWS := Lib.hid hnews
  have HDL := Lib.hid hdl
  have HAD := Lib.hid hAD
  have hkn : k + (n - (k + 1)) = n - 1 := by omega
  have ht1 : ((k : Int) + 1).toNat = k + 1 := by omega
  have t1 : k + 1 ≤ n := hk
  have t2 : k ≤ c := by omega
  have t3 : k + 1 ≤ c := by omega
  have t4 : k ≤ n := by omega
  have t5 : n - 1 ≤ n := by omega
  have t6 : n ≤ c := hnc
  have t7 : (0 : Int) ≤ (k : Int) + 1 := by omega
  have t8 : k + 1 + (n - (k + 1)) = n := by omega
  have t9 : n - (n - 1) = 1 := by omega
  clear hr hrt hnews hdl
  go_enter Tryz.func123, Tryz.ntmps123
  go_wp2
  go_region_law (refine step_app_room rfl (.tmp 22) (.tmp 25) rfl elt56 g off k c (entsV (l.take k)) (by simp [Act.eval, Act.put]) HRT.out AD (n - (k + 1)) (c - (k + 1)) (entsV (l.drop (k + 1))) (by simp [Act.eval, Act.put, hAD]) HDL.out HNEWS.out (entsV_one _) (by omega) ?_; intro w1 hr1 hc1; rw [hkn] at hr1; have hclr := fun (cc : Nat) (ty : TypeId) => run_clear_one (w := w1) elt56 ty zero8 zero30 (by decide) rfl g (off + (n - 1) * 8) cc (fun j hj => by rw [Nat.add_assoc]; exact hr1.spare _ (by omega)); have HR1 := Lib.hid hr1; have HC1 := Lib.hid hc1; clear hr1 hc1)
  all_goals
    go_wp2
    go_ret
    refine ⟨rfl, ?_, Chg.setCells (F := fun q => q = g) rfl _ _ _ ⟨HC1.out.os, HC1.out.tape, HC1.out.output, HC1.out.size, HC1.out.block⟩⟩
    have := Row.setCells zero8 _ ((n - 1) * 8) w1 HR1.out
    rw [setRange_past _ _ _ (by have := HR1.out.1; omega), ← entsV_append] at this
    exact this
end Go.Proofs.YthafngfnbnehiaaGreatDoor
