/- The reference's layers 1, 2, 3: numbers, places, boxes. -/
import Derived.Test.YthkgeeonhppliaaFix
set_option linter.unusedSimpArgs false
set_option linter.unusedVariables false
namespace Go.Proofs.Ythkgeeonhppliaa
open Go.RowKit
theorem rHold (x : Int) (w : World) : Calls Try.prog 84 #[.int .i64 x] w fun e w' => e = .returned (.int .i64 (holdI x)) ∧ w = w' := by
  go_enter Try.func84, Try.ntmps84
  go_wp2
  all_goals go_ret
  all_goals exact ⟨ret_int (by unfold holdI; (repeat' split) <;> omega), rfl⟩
theorem rWhole (x : Int) (w : World) : Calls Try.prog 85 #[.int .i64 x] w fun e w' => e = .returned (.int .i64 (holdI x)) ∧ w = w' := by
  go_enter Try.func85, Try.ntmps85
  go_wp2_with (go_at_call 84; refine (rHold _ _).mono ?_; rintro e w1 ⟨rfl, rfl⟩)
  go_ret
  exact ⟨rfl, rfl⟩
theorem rAdd (x y : Int) (w : World) : Calls Try.prog 70 #[.int .i64 x, .int .i64 y] w fun e w' => e = .returned (.int .i64 (addF x y)) ∧ w = w' := by
  obtain ⟨a, ha⟩ : ∃ a, holdI x = a := ⟨_, rfl⟩
  obtain ⟨b, hb⟩ : ∃ b, holdI y = b := ⟨_, rfl⟩
  have la := holdI_le x
  have lb := holdI_le y
  have hx := fun w => rWhole x w
  have hy := fun w => rWhole y w
  have e : addF x y = holdI (a + b) := by unfold addF; rw [ha, hb]
  rw [e]
  simp only [ha] at hx
  simp only [hb] at hy
  rw [ha] at la
  rw [hb] at lb
  have HX := Lib.hid hx
  have HY := Lib.hid hy
  clear e ha hb hx hy
  go_enter Try.func70, Try.ntmps70
  go_wp2_with (first
    | (go_at_call 85; first | (with_reducible refine (HX.out _).mono ?_; rintro e w1 ⟨rfl, rfl⟩) | (with_reducible refine (HY.out _).mono ?_; rintro e w1 ⟨rfl, rfl⟩))
    | (go_at_call 84; refine (rHold _ _).mono ?_; rintro e w1 ⟨rfl, rfl⟩))
  go_ret
  exact ⟨rfl, rfl⟩
theorem rSub (x y : Int) (w : World) : Calls Try.prog 69 #[.int .i64 x, .int .i64 y] w fun e w' => e = .returned (.int .i64 (subF x y)) ∧ w = w' := by
  obtain ⟨a, ha⟩ : ∃ a, holdI x = a := ⟨_, rfl⟩
  obtain ⟨b, hb⟩ : ∃ b, holdI y = b := ⟨_, rfl⟩
  have la := holdI_le x
  have lb := holdI_le y
  have hx := fun w => rWhole x w
  have hy := fun w => rWhole y w
  have e : subF x y = holdI (a - b) := by unfold subF; rw [ha, hb]
  rw [e]
  simp only [ha] at hx
  simp only [hb] at hy
  rw [ha] at la
  rw [hb] at lb
  have HX := Lib.hid hx
  have HY := Lib.hid hy
  clear e ha hb hx hy
  go_enter Try.func69, Try.ntmps69
  go_wp2_with (first
    | (go_at_call 85; first | (with_reducible refine (HX.out _).mono ?_; rintro e w1 ⟨rfl, rfl⟩) | (with_reducible refine (HY.out _).mono ?_; rintro e w1 ⟨rfl, rfl⟩))
    | (go_at_call 84; refine (rHold _ _).mono ?_; rintro e w1 ⟨rfl, rfl⟩))
  go_ret
  exact ⟨rfl, rfl⟩
theorem rVecFormedB (a : VecV) (w : World) : Calls Try.prog 65 #[(.agg #[.int .i64 a.x, .int .i64 a.y])] w fun e w' => e = .returned (.bool (vecOk a)) ∧ Below w.heap.size w w' := by
  go_enter Try.func65, Try.ntmps65
  go_wp2
  all_goals
    go_ret
    refine ⟨ret_bool ?_, (by repeat (first | with_reducible exact Below.refl _ _ | with_reducible assumption | with_reducible refine Below.drew ?_ | with_reducible refine below_drews ?_ _ | with_reducible refine Below.alloc ?_ (by first | omega | (simp; done) | (simp; omega)) _ | with_reducible refine Below.setCell ?_ (by first | omega | (simp; done) | (simp; omega)) _))⟩
    rw [Bool.eq_iff_iff]
    simp [vecOk]
    try omega
set_option maxHeartbeats 1000000 in
theorem rBoxFormed (b : BoxV) (w : World) : Calls Try.prog 66 #[(.agg #[.int .i64 b.lo.x, .int .i64 b.lo.y, .int .i64 b.hi.x, .int .i64 b.hi.y])] w fun e w' => e = .returned (.bool (boxOk b)) ∧ Below w.heap.size w w' := by
  have er : boxOk b = (vecOk b.lo && vecOk b.hi && decide (b.lo.x ≤ b.hi.x ∧ b.lo.y ≤ b.hi.y)) := rfl
  rw [er]
  clear er
  cases e1 : vecOk b.lo <;> cases e2 : vecOk b.hi
  all_goals
    go_enter Try.func66, Try.ntmps66
    go_wp2_with (go_at_call 65; refine (rVecFormedB _ _).mono ?_; rintro e w1 ⟨rfl, hb1⟩; obtain ⟨hc1, hf1⟩ := bcell hb1; have hs1 := hb1.size; (try simp at hs1); have l1 : w.heap.size < w1.heap.size := (by omega); have B1 : Below w.heap.size w w1 := Below.trans (by repeat (first | with_reducible exact Below.refl _ _ | with_reducible assumption | with_reducible refine Below.drew ?_ | with_reducible refine below_drews ?_ _ | with_reducible refine Below.alloc ?_ (by first | omega | (simp; done) | (simp; omega)) _ | with_reducible refine Below.setCell ?_ (by first | omega | (simp; done) | (simp; omega)) _)) (hb1.mono (by (try simp) <;> omega)))
    all_goals
      go_ret
      refine ⟨ret_bool ?_, (by repeat (first | with_reducible exact Below.refl _ _ | with_reducible assumption | with_reducible refine Below.drew ?_ | with_reducible refine below_drews ?_ _ | with_reducible refine Below.alloc ?_ (by first | omega | (simp; done) | (simp; omega)) _ | with_reducible refine Below.setCell ?_ (by first | omega | (simp; done) | (simp; omega)) _))⟩
      rw [Bool.eq_iff_iff]
      simp
      try omega
set_option maxHeartbeats 1000000 in
theorem rAround (x y h : Int) (w : World) : Calls Try.prog 38 #[(.agg #[.int .i64 x, .int .i64 y]), .int .i64 h] w fun e w' => e = .returned (.agg #[.int .i64 (subF x h), .int .i64 (subF y h), .int .i64 (addF x h), .int .i64 (addF y h)]) ∧ Below w.heap.size w w' := by
  go_enter Try.func38, Try.ntmps38
  go_wp2
  go_region_held3 (fun w' => w'.cell? ⟨w.heap.size, 0, none⟩ = some (.int .i64 x) ∧ w'.cell? ⟨w.heap.size, 1, none⟩ = some (.int .i64 y)) (go_keep) (first | (go_at_call 69; refine (rSub _ _ _).mono ?_; rintro e w1 ⟨rfl, rfl⟩))
  go_wp2
  go_region_held3 (fun w' => w'.cell? ⟨w.heap.size, 0, none⟩ = some (.int .i64 x) ∧ w'.cell? ⟨w.heap.size, 1, none⟩ = some (.int .i64 y)) (go_keep) (first | (go_at_call 70; refine (rAdd _ _ _).mono ?_; rintro e w1 ⟨rfl, rfl⟩))
  go_wp2
  exact bodyPost_ret (v := (.agg #[.int .i64 (subF x h), .int .i64 (subF y h), .int .i64 (addF x h), .int .i64 (addF y h)])) (by simp [results, Try.results38, go_sem]) rfl ⟨rfl, (by repeat (first | with_reducible exact Below.refl _ _ | with_reducible assumption | with_reducible refine Below.drew ?_ | with_reducible refine below_drews ?_ _ | with_reducible refine Below.alloc ?_ (by first | omega | (simp; done) | (simp; omega)) _ | with_reducible refine Below.setCell ?_ (by first | omega | (simp; done) | (simp; omega)) _))⟩
set_option maxHeartbeats 1000000 in
theorem rOverlap (a b : BoxV) (w : World) : Calls Try.prog 68 #[(.agg #[.int .i64 a.lo.x, .int .i64 a.lo.y, .int .i64 a.hi.x, .int .i64 a.hi.y]), (.agg #[.int .i64 b.lo.x, .int .i64 b.lo.y, .int .i64 b.hi.x, .int .i64 b.hi.y])] w fun e w' => e = .returned (.bool (overlap a b)) ∧ Below w.heap.size w w' := by
  have er : overlap a b = (boxOk a && boxOk b && decide (a.lo.x < b.hi.x ∧ b.lo.x < a.hi.x ∧ a.lo.y < b.hi.y ∧ b.lo.y < a.hi.y)) := rfl
  rw [er]
  clear er
  cases e1 : boxOk a
  rotate_left
  cases e2 : boxOk b
  all_goals
    go_enter Try.func68, Try.ntmps68
    go_wp2_with (go_at_call 66; refine (rBoxFormed ⟨⟨_, _⟩, ⟨_, _⟩⟩ _).mono ?_; rintro e w1 ⟨rfl, hb1⟩; obtain ⟨hc1, hf1⟩ := bcell hb1; have hs1 := hb1.size; (try simp at hs1); have l1 : w.heap.size < w1.heap.size := (by omega); have l2 : w.heap.size + 1 < w1.heap.size := (by omega); have B1 : Below w.heap.size w w1 := Below.trans (by repeat (first | with_reducible exact Below.refl _ _ | with_reducible assumption | with_reducible refine Below.drew ?_ | with_reducible refine below_drews ?_ _ | with_reducible refine Below.alloc ?_ (by first | omega | (simp; done) | (simp; omega)) _ | with_reducible refine Below.setCell ?_ (by first | omega | (simp; done) | (simp; omega)) _)) (hb1.mono (by (try simp) <;> omega)))
    all_goals
      go_ret
      refine ⟨ret_bool ?_, (by repeat (first | with_reducible exact Below.refl _ _ | with_reducible assumption | with_reducible refine Below.drew ?_ | with_reducible refine below_drews ?_ _ | with_reducible refine Below.alloc ?_ (by first | omega | (simp; done) | (simp; omega)) _ | with_reducible refine Below.setCell ?_ (by first | omega | (simp; done) | (simp; omega)) _))⟩
      rw [Bool.eq_iff_iff]
      simp
      try omega
end Go.Proofs.Ythkgeeonhppliaa
