/- The walks of layer 10 that layer 12 asks for: formed entities; and a part of the speed. -/
import Derived.Test.YthafngfnbnehiaaGreatDoorFix
set_option linter.unusedSimpArgs false
set_option linter.unusedVariables false
namespace Go.Proofs.YthafngfnbnehiaaGreatDoor
open Go.RowKit
theorem entSlow (x : Int) (w : World) : Calls Tryz.prog 147 #[.int .i64 x] w fun e w' => e = .returned (.bool (slowOk x)) ∧ w = w' := by
  go_enter Tryz.func147, Tryz.ntmps147
  go_wp2
  all_goals
    go_ret
    refine ⟨ret_bool ?_, rfl⟩
    rw [Bool.eq_iff_iff]
    simp [slowOk]
    try omega
set_option maxHeartbeats 1000000 in
theorem entKind (e : EntV) (w : World) : Calls Tryz.prog 145 #[(.agg #[.int .i64 e.id, .int .i64 e.kind, .int .i64 e.at_.x, .int .i64 e.at_.y, .int .i64 e.vel.x, .int .i64 e.vel.y, .int .i64 e.health, .int .i64 e.wait])] w fun e' w' => e' = .returned (.bool (kindOk e)) ∧ Below w.heap.size w w' := by
  go_enter Tryz.func145, Tryz.ntmps145
  go_wp2
  all_goals
    go_ret
    refine ⟨ret_bool ?_, (by repeat (first | with_reducible exact Below.refl _ _ | with_reducible assumption | with_reducible refine Below.drew ?_ | with_reducible refine below_drews ?_ _ | with_reducible refine Below.alloc ?_ (by first | omega | (simp; done) | (simp; omega)) _ | with_reducible refine Below.setCell ?_ (by first | omega | (simp; done) | (simp; omega)) _))⟩
    rw [Bool.eq_iff_iff]
    simp [kindOk]
    try omega
set_option maxHeartbeats 2000000 in
theorem entFormed (e : EntV) (w : World) : Calls Tryz.prog 91 #[(.agg #[.int .i64 e.id, .int .i64 e.kind, .int .i64 e.at_.x, .int .i64 e.at_.y, .int .i64 e.vel.x, .int .i64 e.vel.y, .int .i64 e.health, .int .i64 e.wait])] w fun e' w' => e' = .returned (.bool (entOk e)) ∧ Below w.heap.size w w' := by
  have er : entOk e = (kindOk e && vecOk e.at_ && slowOk e.vel.x && slowOk e.vel.y && restOk e) := rfl
  rw [er]
  clear er
  cases e1 : kindOk e
  rotate_left
  cases e2 : vecOk e.at_
  rotate_left
  cases e3 : slowOk e.vel.x
  rotate_left
  cases e4 : slowOk e.vel.y
  all_goals
    go_enter Tryz.func91, Tryz.ntmps91
    go_wp2_with (first
      | (go_at_call 145; refine (entKind e _).mono ?_; rintro e w1 ⟨rfl, hb1⟩; obtain ⟨hc1, hf1⟩ := bcell hb1; have hs1 := hb1.size; (try simp at hs1); have l1 : w.heap.size < w1.heap.size := (by omega); have B1 : Below w.heap.size w w1 := Below.trans (by repeat (first | with_reducible exact Below.refl _ _ | with_reducible assumption | with_reducible refine Below.drew ?_ | with_reducible refine below_drews ?_ _ | with_reducible refine Below.alloc ?_ (by first | omega | (simp; done) | (simp; omega)) _ | with_reducible refine Below.setCell ?_ (by first | omega | (simp; done) | (simp; omega)) _)) (hb1.mono (by (try simp) <;> omega)))
      | (go_at_call 146; refine (vecFormed ⟨_, _⟩ _).mono ?_; rintro e w1 ⟨rfl, hb1⟩; obtain ⟨hc1, hf1⟩ := bcell hb1; have hs1 := hb1.size; (try simp at hs1); have l1 : w.heap.size < w1.heap.size := (by omega); have B1 : Below w.heap.size w w1 := Below.trans (by repeat (first | with_reducible exact Below.refl _ _ | with_reducible assumption | with_reducible refine Below.drew ?_ | with_reducible refine below_drews ?_ _ | with_reducible refine Below.alloc ?_ (by first | omega | (simp; done) | (simp; omega)) _ | with_reducible refine Below.setCell ?_ (by first | omega | (simp; done) | (simp; omega)) _)) (hb1.mono (by (try simp) <;> omega)))
      | (go_at_call 147; refine (entSlow _ _).mono ?_; rintro e w1 ⟨rfl, rfl⟩))
    all_goals
      go_ret
      refine ⟨ret_bool ?_, (by repeat (first | with_reducible exact Below.refl _ _ | with_reducible assumption | with_reducible refine Below.drew ?_ | with_reducible refine below_drews ?_ _ | with_reducible refine Below.alloc ?_ (by first | omega | (simp; done) | (simp; omega)) _ | with_reducible refine Below.setCell ?_ (by first | omega | (simp; done) | (simp; omega)) _))⟩
      rw [Bool.eq_iff_iff]
      first
        | (simp [restOk]; done)
        | (simp [restOk]; omega)
        | (simp only [beq_iff_eq, beq_eq_false_iff_ne, ne_eq] at *; by_cases q1 : e.health = 0 <;> by_cases q2 : e.wait = 0 <;> simp [q1, q2, restOk] <;> (first | omega | (rw [beq_eq_false_iff_ne.2 q1, beq_eq_false_iff_ne.2 q2])))
theorem movePart (x : Int) (h0 : -128 ≤ x) (h1 : x ≤ 127) (w : World) : Calls Tryz.prog 92 #[.int .i8 x] w fun e w' => e = .returned (.int .i64 (partF x)) ∧ w = w' := by
  go_enter Tryz.func92, Tryz.ntmps92
  go_wp2
  all_goals
    go_ret
    exact ⟨ret_int (by unfold partF; first | rw [if_pos ‹_›] | rw [if_neg (by omega)]), rfl⟩
end Go.Proofs.YthafngfnbnehiaaGreatDoor
