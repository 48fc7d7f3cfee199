/- Rows of entities; clones of rows. -/
import Derived.Test.YthafngfnbnehiaaGreatDoorOpenM
import Derived.Lib.SliceRun
import Derived.Lib.OthersKept
import Derived.Deep.RegionLaw
import Derived.Deep.RegionHeld3
set_option linter.unusedSimpArgs false
set_option linter.unusedVariables false
namespace Go.Proofs.YthafngfnbnehiaaGreatDoor
open Go.RowKit
def entCells (e : EntV) : List Value := [.int .i64 e.id, .int .i64 e.kind, .int .i64 e.at_.x, .int .i64 e.at_.y, .int .i64 e.vel.x, .int .i64 e.vel.y, .int .i64 e.health, .int .i64 e.wait]
def entsV (l : List EntV) : List Value := l.flatMap entCells
theorem entsV_length (l : List EntV) : (entsV l).length = l.length * 8 := flat_length (f := entCells) (size := 8) (fun _ => rfl) l
theorem entsV_at {l : List EntV} {k : Nat} {e : EntV} (h : l[k]? = some e) (j : Nat) (hj : j < 8) : (entsV l)[k * 8 + j]? = (entCells e)[j]? := flat_at (f := entCells) (size := 8) (fun _ => rfl) l k j e h hj
theorem entsV_one (l : List EntV) : ∀ u ∈ entsV l, u.oneCell' = true := by
  intro u hu
  unfold entsV entCells at hu
  simp only [List.mem_flatMap, List.mem_cons, List.not_mem_nil, or_false] at hu
  obtain ⟨e, _, h⟩ := hu
  rcases h with h | h | h | h | h | h | h | h <;> subst h <;> rfl
theorem boolsV_one (l : List Bool) : ∀ u ∈ boolsV l, u.oneCell' = true := by
  intro u hu
  unfold boolsV at hu
  simp only [List.mem_map] at hu
  obtain ⟨e, _, rfl⟩ := hu
  rfl
theorem vecsV_one (l : List VecV) : ∀ u ∈ vecsV l, u.oneCell' = true := by
  intro u hu
  unfold vecsV at hu
  simp only [List.mem_flatMap, List.mem_cons, List.not_mem_nil, or_false] at hu
  obtain ⟨e, _, h⟩ := hu
  rcases h with h | h <;> subst h <;> rfl
theorem elt56 : Elt Tryz.prog 52 72 8 64 := Elt.mk' Tryz.underlying52 (.agg #[.int .i64 0, .int .i64 0, .int .i64 0, .int .i64 0, .int .i64 0, .int .i64 0, .int .i64 0, .int .i64 0]) (by kernel_rfl) rfl (by decide) (by decide)
/-- What is handed back is a row of one's own. -/
def Fresh (w w' : World) (e : TypeId) (size : Nat) (A : Option Addr) (n c : Nat) (xs : List Value) : Prop :=
  Row w' e size A n c xs ∧ (∀ g, blkOf A = some g → w.heap.size ≤ g) ∧ Below w.heap.size w w'

set_option maxRecDepth 100000 in
set_option maxHeartbeats 4000000 in
theorem cloneB (l : List Bool) (w : World) (A : Option Addr) (n c : Nat) (h : Reads w w.heap.size 1 A n (boolsV l)) (hn : n ≤ 100000) :
    Calls Tryz.prog 41 #[.slice A n c] w fun e w' => ∃ A' c', e = .returned (.slice A' n c') ∧ Fresh w w' 4 1 A' n c' (boolsV l) := by
  have keq := fun w => Lib.run_eql_slice_nil (P := Tryz.prog) w 38 4 A n c 0 0 Tryz.underlying38
  rcases A with _ | ad
  · have hn0 : n = 0 := by
      rcases Nat.eq_zero_or_pos n with h0 | h0
      · exact h0
      · obtain ⟨ad, h1, _⟩ := h.2 h0
        cases h1
    subst hn0
    have hx : boolsV l = [] := List.eq_nil_of_length_eq_zero (by simpa using h.1)
    have HX := Lib.hid hx
    clear h hx
    go_enter Tryz.func41, Tryz.ntmps41
    go_wp2
    go_ret
    exact ⟨none, 0, rfl, by rw [HX.out]; exact Row.nil_, (fun g hg => nomatch hg), (by repeat (first | with_reducible exact Below.refl _ _ | with_reducible assumption | with_reducible refine Below.drew ?_ | with_reducible refine below_drews ?_ _ | with_reducible refine Below.alloc ?_ (by first | omega | (simp; done) | (simp; omega)) _ | with_reducible refine Below.setCell ?_ (by first | omega | (simp; done) | (simp; omega)) _))⟩
  · have ho : (w.alloc (.cells #[] 4)).ownsRow w.heap.size 4 1 (.slice (some ⟨w.heap.size, 0, none⟩) 0 0) 0 [] := World.ownsRow_lit (e := 4) (size := 1) w #[] 0 (Nat.le_refl _) (by unfold maxLen; omega) rfl
    have hr := h.alloc (Nat.le_refl _) (.cells #[] 4)
    go_enter Tryz.func41, Tryz.ntmps41
    go_wp2_with (at_builtin; refine wpList_app _ rfl _ _ 38 rfl elt22 _ _ _ _ rfl ho w.heap.size (some ad) n c (boolsV l) rfl hr (boolsV_one l) (by omega) (by simp) ?_; intro v' w2 ho2 hg hb')
    have hbel := below_own ((Below.refl _ _).alloc (Nat.le_refl _) (.cells #[] 4)) ho hg (by simp) (Nat.le_refl _)
    go_ret
    obtain ⟨A', c', rfl, hr', hb⟩ := Row.of_own ho2
    exact ⟨A', c', by simp, by simpa using hr', hb, hbel⟩

set_option maxRecDepth 100000 in
set_option maxHeartbeats 4000000 in
theorem cloneV (l : List VecV) (w : World) (A : Option Addr) (n c : Nat) (h : Reads w w.heap.size 2 A n (vecsV l)) (hn : n ≤ 100000) :
    Calls Tryz.prog 42 #[.slice A n c] w fun e w' => ∃ A' c', e = .returned (.slice A' n c') ∧ Fresh w w' 70 2 A' n c' (vecsV l) := by
  have keq := fun w => Lib.run_eql_slice_nil (P := Tryz.prog) w 39 70 A n c 0 0 Tryz.underlying39
  rcases A with _ | ad
  · have hn0 : n = 0 := by
      rcases Nat.eq_zero_or_pos n with h0 | h0
      · exact h0
      · obtain ⟨ad, h1, _⟩ := h.2 h0
        cases h1
    subst hn0
    have hx : vecsV l = [] := List.eq_nil_of_length_eq_zero (by simpa using h.1)
    have HX := Lib.hid hx
    clear h hx
    go_enter Tryz.func42, Tryz.ntmps42
    go_wp2
    go_ret
    exact ⟨none, 0, rfl, by rw [HX.out]; exact Row.nil_, (fun g hg => nomatch hg), (by repeat (first | with_reducible exact Below.refl _ _ | with_reducible assumption | with_reducible refine Below.drew ?_ | with_reducible refine below_drews ?_ _ | with_reducible refine Below.alloc ?_ (by first | omega | (simp; done) | (simp; omega)) _ | with_reducible refine Below.setCell ?_ (by first | omega | (simp; done) | (simp; omega)) _))⟩
  · have ho : (w.alloc (.cells #[] 70)).ownsRow w.heap.size 70 2 (.slice (some ⟨w.heap.size, 0, none⟩) 0 0) 0 [] := World.ownsRow_lit (e := 70) (size := 2) w #[] 0 (Nat.le_refl _) (by unfold maxLen; omega) rfl
    have hr := h.alloc (Nat.le_refl _) (.cells #[] 70)
    go_enter Tryz.func42, Tryz.ntmps42
    go_wp2_with (at_builtin; refine wpList_app _ rfl _ _ 39 rfl elt23 _ _ _ _ rfl ho w.heap.size (some ad) n c (vecsV l) rfl hr (vecsV_one l) (by omega) (by simp) ?_; intro v' w2 ho2 hg hb')
    have hbel := below_own ((Below.refl _ _).alloc (Nat.le_refl _) (.cells #[] 70)) ho hg (by simp) (Nat.le_refl _)
    go_ret
    obtain ⟨A', c', rfl, hr', hb⟩ := Row.of_own ho2
    exact ⟨A', c', by simp, by simpa using hr', hb, hbel⟩

set_option maxRecDepth 100000 in
set_option maxHeartbeats 4000000 in
theorem cloneE (l : List EntV) (w : World) (A : Option Addr) (n c : Nat) (h : Reads w w.heap.size 8 A n (entsV l)) (hn : n ≤ 100000) :
    Calls Tryz.prog 44 #[.slice A n c] w fun e w' => ∃ A' c', e = .returned (.slice A' n c') ∧ Fresh w w' 72 8 A' n c' (entsV l) := by
  have keq := fun w => Lib.run_eql_slice_nil (P := Tryz.prog) w 52 72 A n c 0 0 Tryz.underlying52
  rcases A with _ | ad
  · have hn0 : n = 0 := by
      rcases Nat.eq_zero_or_pos n with h0 | h0
      · exact h0
      · obtain ⟨ad, h1, _⟩ := h.2 h0
        cases h1
    subst hn0
    have hx : entsV l = [] := List.eq_nil_of_length_eq_zero (by simpa using h.1)
    have HX := Lib.hid hx
    clear h hx
    go_enter Tryz.func44, Tryz.ntmps44
    go_wp2
    go_ret
    exact ⟨none, 0, rfl, by rw [HX.out]; exact Row.nil_, (fun g hg => nomatch hg), (by repeat (first | with_reducible exact Below.refl _ _ | with_reducible assumption | with_reducible refine Below.drew ?_ | with_reducible refine below_drews ?_ _ | with_reducible refine Below.alloc ?_ (by first | omega | (simp; done) | (simp; omega)) _ | with_reducible refine Below.setCell ?_ (by first | omega | (simp; done) | (simp; omega)) _))⟩
  · have ho : (w.alloc (.cells #[] 72)).ownsRow w.heap.size 72 8 (.slice (some ⟨w.heap.size, 0, none⟩) 0 0) 0 [] := World.ownsRow_lit (e := 72) (size := 8) w #[] 0 (Nat.le_refl _) (by unfold maxLen; omega) rfl
    have hr := h.alloc (Nat.le_refl _) (.cells #[] 72)
    go_enter Tryz.func44, Tryz.ntmps44
    go_wp2_with (at_builtin; refine wpList_app _ rfl _ _ 52 rfl elt56 _ _ _ _ rfl ho w.heap.size (some ad) n c (entsV l) rfl hr (entsV_one l) (by omega) (by simp) ?_; intro v' w2 ho2 hg hb')
    have hbel := below_own ((Below.refl _ _).alloc (Nat.le_refl _) (.cells #[] 72)) ho hg (by simp) (Nat.le_refl _)
    go_ret
    obtain ⟨A', c', rfl, hr', hb⟩ := Row.of_own ho2
    exact ⟨A', c', by simp, by simpa using hr', hb, hbel⟩

end Go.Proofs.YthafngfnbnehiaaGreatDoor
