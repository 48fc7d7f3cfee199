/- The walks of the little functions of the laws of layer 12. -/
import Derived.Test.YthkgeeonhppliaaWalk
import Derived.Test.YthkgeeonhppliaaRead
set_option linter.unusedSimpArgs false
set_option linter.unusedVariables false
namespace Go.Proofs.Ythkgeeonhppliaa
open Go.RowKit
def map12 : MapV := ⟨2, 1, [false, false], [⟨32768, 32768⟩]⟩
theorem read12 : readF [.spawn, .floor, .nl] = some map12 := by rfl
theorem walk12 : (walkF map12 ⟨1, 1, ⟨32768, 32768⟩, ⟨0, 0⟩, 5, 0⟩ 127 0).at_.x = 49152 := by decide +kernel
set_option maxRecDepth 100000 in
set_option maxHeartbeats 2000000 in
theorem awake12 (w : World) : Calls Try.prog 12 #[] w fun e w' => e = .returned (.bool true) ∧ Below w.heap.size w w' := by
  have hR := fun W => tRead _ _ read12 (by decide) W
  have hs : (⟨(sgBytes [.spawn, .floor, .nl]).toArray⟩ : ByteArray) = ⟨#[226, 151, 142, 194, 183, 10]⟩ := by rfl
  rw [hs] at hR
  have hW := fun (s : MapS) W hM => mWalk map12 s ⟨1, 1, ⟨32768, 32768⟩, ⟨0, 0⟩, 5, 0⟩ 127 0 W hM (by decide) (by decide) (by decide) (by decide)
  have hw := walk12
  obtain ⟨E, hE⟩ : ∃ E, walkF map12 ⟨1, 1, ⟨32768, 32768⟩, ⟨0, 0⟩, 5, 0⟩ 127 0 = E := ⟨_, rfl⟩
  simp only [hE] at hW
  rw [hE] at hw
  simp only [map12] at hR hW
  clear hE hs
  go_enter Try.func12, Try.ntmps12
  go_wp2_with fail
  refine (hR _).mono ?_
  rintro e w1 ⟨s, rfl, hmat, hb1⟩
  have HMT := Lib.hid hmat
  clear hmat
  have hs1 := hb1.size
  go_wp2_with fail
  refine (hW s _ ((HMT.out.below (Below.alloc (Below.refl _ _) (Nat.le_refl _) _)).upto (by simp))).mono ?_
  rintro e w2 ⟨rfl, hb2⟩
  have hs2 := hb2.size
  go_wp2
  go_ret
  refine ⟨by simp [hw], ?_⟩
  exact Below.alloc (Below.trans hb1 ((Below.alloc (Below.refl _ _) (Nat.le_refl _) _).trans (hb2.mono (by simp)) |>.mono hs1)) (by simp at hs2; omega) _
theorem few12 (m : MapV) (s : MapS) (w : World) : Calls Try.prog 13 #[(.agg #[.int .i64 m.W, .int .i64 m.H, .slice s.A s.n s.c, .slice s.A2 s.n2 s.c2])] w fun e w' => e = .returned (.bool (decide (s.n ≤ 1100 ∧ s.n2 ≤ 1100))) ∧ Below w.heap.size w w' := by
  go_enter Try.func13, Try.ntmps13
  go_wp2
  all_goals
    go_ret
    refine ⟨ret_bool ?_, (by repeat (first | with_reducible exact Below.refl _ _ | with_reducible assumption | with_reducible refine Below.drew ?_ | with_reducible refine below_drews ?_ _ | with_reducible refine Below.alloc ?_ (by first | omega | (simp; done) | (simp; omega)) _ | with_reducible refine Below.setCell ?_ (by first | omega | (simp; done) | (simp; omega)) _))⟩
    rw [Bool.eq_iff_iff]
    simp
    try omega
theorem size12 (x : Int) (h0 : -9223372036854775807 ≤ x) (h1 : x ≤ 9223372036854775807) (w : World) : Calls Try.prog 16 #[.int .i64 x] w fun e w' => e = .returned (.int .i64 (max x (-x))) ∧ w = w' := by
  go_enter Try.func16, Try.ntmps16
  go_wp2
  all_goals
    go_ret
    exact ⟨ret_int (by first | omega | (split <;> omega)), rfl⟩
end Go.Proofs.Ythkgeeonhppliaa
