/- The walks of layers 1, 2, 3: numbers, places, boxes. -/
import Derived.Test.YtojbijapdkohlaaGreatDoorRow
import Derived.Test.YtojbijapdkohlaaGreatDoorKin
import Derived.Test.YtojbijapdkohlaaGreatDoorMovePlain
import Derived.Test.YtojbijapdkohlaaGreatDoorProg
import Derived.WalkKit
import Derived.WalkSpells
import Derived.WalkLawsBesides
import Derived.Lib.Hide
import Derived.BigQuiet
import Derived.Deep.QuietTactic
import Derived.Deep.RegionHeld3
import Derived.StillTailTactics
set_option linter.unusedSimpArgs false
set_option linter.unusedVariables false
namespace Go.Proofs.YtojbijapdkohlaaGreatDoor
open Go.RowKit
theorem holdI_le (x : Int) : -2147483648 ≤ holdI x ∧ holdI x ≤ 2147483647 := by unfold holdI; omega
theorem fixHold (x : Int) (w : World) : Calls Tryz.prog 206 #[.int .i64 x] w fun e w' => e = .returned (.int .i64 (holdI x)) ∧ w = w' := by
  go_enter Tryz.func206, Tryz.ntmps206
  go_wp2
  all_goals go_ret
  all_goals exact ⟨ret_int (by unfold holdI; (repeat' split) <;> omega), rfl⟩
theorem fixHeld (x y : Int) (w : World) : Calls Tryz.prog 205 #[.int .i64 x, .int .i64 y] w fun e w' => e = .returned (.tuple #[.int .i64 (holdI x), .int .i64 (holdI y)]) ∧ w = w' := by
  go_enter Tryz.func205, Tryz.ntmps205
  go_wp2_with (go_at_call 206; refine (fixHold _ _).mono ?_; rintro e w1 ⟨rfl, rfl⟩)
  go_ret2
  exact ⟨rfl, rfl⟩
theorem fixAdd (x y : Int) (w : World) : Calls Tryz.prog 147 #[.int .i64 x, .int .i64 y] w fun e w' => e = .returned (.int .i64 (addF x y)) ∧ w = w' := by
  obtain ⟨a, ha⟩ : ∃ a, holdI x = a := ⟨_, rfl⟩
  obtain ⟨b, hb⟩ : ∃ b, holdI y = b := ⟨_, rfl⟩
  have la := holdI_le x
  have lb := holdI_le y
  have hh := fixHeld x y w
  have e : addF x y = holdI (a + b) := by unfold addF; rw [ha, hb]
  rw [e]
  rw [ha, hb] at hh
  rw [ha] at la
  rw [hb] at lb
  clear e ha hb
  go_enter Tryz.func147, Tryz.ntmps147
  go_wp2_with (first
    | (go_at_call 205; refine hh.mono ?_; rintro e w1 ⟨rfl, rfl⟩)
    | (go_at_call 206; refine (fixHold _ _).mono ?_; rintro e w1 ⟨rfl, rfl⟩))
  go_ret
  exact ⟨rfl, rfl⟩
theorem fixSub (x y : Int) (w : World) : Calls Tryz.prog 146 #[.int .i64 x, .int .i64 y] w fun e w' => e = .returned (.int .i64 (subF x y)) ∧ w = w' := by
  obtain ⟨a, ha⟩ : ∃ a, holdI x = a := ⟨_, rfl⟩
  obtain ⟨b, hb⟩ : ∃ b, holdI y = b := ⟨_, rfl⟩
  have la := holdI_le x
  have lb := holdI_le y
  have hh := fixHeld x y w
  have e : subF x y = holdI (a - b) := by unfold subF; rw [ha, hb]
  rw [e]
  rw [ha, hb] at hh
  rw [ha] at la
  rw [hb] at lb
  clear e ha hb
  go_enter Tryz.func146, Tryz.ntmps146
  go_wp2_with (first
    | (go_at_call 205; refine hh.mono ?_; rintro e w1 ⟨rfl, rfl⟩)
    | (go_at_call 206; refine (fixHold _ _).mono ?_; rintro e w1 ⟨rfl, rfl⟩))
  go_ret
  exact ⟨rfl, rfl⟩
set_option maxHeartbeats 1000000 in
theorem vecSub (ax ay bx b_y : Int) (w : World) : Calls Tryz.prog 78 #[(.agg #[.int .i64 ax, .int .i64 ay]), (.agg #[.int .i64 bx, .int .i64 b_y])] w fun e w' => e = .returned (.agg #[.int .i64 (subF ax bx), .int .i64 (subF ay b_y)]) ∧ Below w.heap.size w w' := by
  go_enter Tryz.func78, Tryz.ntmps78
  go_wp2
  go_region_held3 (fun w' => w'.cell? ⟨w.heap.size, 0, none⟩ = some (.int .i64 ax) ∧ w'.cell? ⟨w.heap.size, 1, none⟩ = some (.int .i64 ay) ∧ w'.cell? ⟨w.heap.size + 1, 0, none⟩ = some (.int .i64 bx) ∧ w'.cell? ⟨w.heap.size + 1, 1, none⟩ = some (.int .i64 b_y)) (go_keep)
    (first | (go_at_call 146; refine (fixSub _ _ _).mono ?_; rintro e w1 ⟨rfl, rfl⟩))
  go_wp2
  exact bodyPost_ret (v := (.agg #[.int .i64 (subF ax bx), .int .i64 (subF ay b_y)])) (by simp [results, Tryz.results78, go_sem]) rfl ⟨rfl, (by repeat (first | with_reducible exact Below.refl _ _ | with_reducible assumption | with_reducible refine Below.drew ?_ | with_reducible refine below_drews ?_ _ | with_reducible refine Below.alloc ?_ (by first | omega | (simp; done) | (simp; omega)) _ | with_reducible refine Below.setCell ?_ (by first | omega | (simp; done) | (simp; omega)) _))⟩
set_option maxHeartbeats 1000000 in
theorem vecAdd (ax ay bx b_y : Int) (w : World) : Calls Tryz.prog 79 #[(.agg #[.int .i64 ax, .int .i64 ay]), (.agg #[.int .i64 bx, .int .i64 b_y])] w fun e w' => e = .returned (.agg #[.int .i64 (addF ax bx), .int .i64 (addF ay b_y)]) ∧ Below w.heap.size w w' := by
  go_enter Tryz.func79, Tryz.ntmps79
  go_wp2
  go_region_held3 (fun w' => w'.cell? ⟨w.heap.size, 0, none⟩ = some (.int .i64 ax) ∧ w'.cell? ⟨w.heap.size, 1, none⟩ = some (.int .i64 ay) ∧ w'.cell? ⟨w.heap.size + 1, 0, none⟩ = some (.int .i64 bx) ∧ w'.cell? ⟨w.heap.size + 1, 1, none⟩ = some (.int .i64 b_y)) (go_keep)
    (first | (go_at_call 147; refine (fixAdd _ _ _).mono ?_; rintro e w1 ⟨rfl, rfl⟩))
  go_wp2
  exact bodyPost_ret (v := (.agg #[.int .i64 (addF ax bx), .int .i64 (addF ay b_y)])) (by simp [results, Tryz.results79, go_sem]) rfl ⟨rfl, (by repeat (first | with_reducible exact Below.refl _ _ | with_reducible assumption | with_reducible refine Below.drew ?_ | with_reducible refine below_drews ?_ _ | with_reducible refine Below.alloc ?_ (by first | omega | (simp; done) | (simp; omega)) _ | with_reducible refine Below.setCell ?_ (by first | omega | (simp; done) | (simp; omega)) _))⟩
set_option maxHeartbeats 1000000 in
theorem boxAround (x y h : Int) (w : World) : Calls Tryz.prog 29 #[(.agg #[.int .i64 x, .int .i64 y]), .int .i64 h] w fun e w' => e = .returned (.agg #[.int .i64 (subF x h), .int .i64 (subF y h), .int .i64 (addF x h), .int .i64 (addF y h)]) ∧ Below w.heap.size w w' := by
  go_enter Tryz.func29, Tryz.ntmps29
  go_wp2
  go_region_held3 (fun w' => w'.cell? ⟨w.heap.size, 0, none⟩ = some (.int .i64 x) ∧ w'.cell? ⟨w.heap.size, 1, none⟩ = some (.int .i64 y) ∧ w'.cell? ⟨w.heap.size + 1 + 1, 0, none⟩ = some (.int .i64 h) ∧ w'.cell? ⟨w.heap.size + 1 + 1, 1, none⟩ = some (.int .i64 h)) (first | (refine ⟨?_, ?_, ?_, ?_⟩ <;> (go_simp; done)) | go_keep)
    (first
      | (go_at_call 78; refine (vecSub x y h h _).mono ?_; rintro e w1 ⟨rfl, hb1⟩; obtain ⟨hc1, hf1⟩ := bcell hb1; have hs1 := hb1.size; try simp at hs1; have l0 : w.heap.size < w1.heap.size := (by omega); have l1 : w.heap.size + 1 < w1.heap.size := (by omega); have l2 : w.heap.size + 1 + 1 < w1.heap.size := (by omega))
      | (go_at_call 79; refine (vecAdd x y h h _).mono ?_; rintro e w2 ⟨rfl, hb2⟩; obtain ⟨hc2, hf2⟩ := bcell hb2; have hs2 := hb2.size; have l3 : w.heap.size + 1 < w2.heap.size := (by omega)))
  go_wp2
  have B1 : Below w.heap.size w w1 := Below.trans (by repeat (first | with_reducible exact Below.refl _ _ | with_reducible assumption | with_reducible refine Below.drew ?_ | with_reducible refine below_drews ?_ _ | with_reducible refine Below.alloc ?_ (by first | omega | (simp; done) | (simp; omega)) _ | with_reducible refine Below.setCell ?_ (by first | omega | (simp; done) | (simp; omega)) _)) (hb1.mono (by simp <;> omega))
  have B2 : Below w.heap.size w w2 := B1.trans (hb2.mono (by omega))
  exact bodyPost_ret (v := (.agg #[.int .i64 (subF x h), .int .i64 (subF y h), .int .i64 (addF x h), .int .i64 (addF y h)])) (by simp [results, Tryz.results29, go_sem, hc1, hc2, hf1, hf2, l0, l1, l2, l3]) rfl ⟨rfl, (by repeat (first | with_reducible exact Below.refl _ _ | with_reducible assumption | with_reducible refine Below.drew ?_ | with_reducible refine below_drews ?_ _ | with_reducible refine Below.alloc ?_ (by first | omega | (simp; done) | (simp; omega)) _ | with_reducible refine Below.setCell ?_ (by first | omega | (simp; done) | (simp; omega)) _))⟩
theorem ret_b {p : Prop} [Decidable p] {b : Bool} (h : b = true ↔ p) : Ending.returned (.bool b) = .returned (.bool (decide p)) := by
  rw [Bool.eq_iff_iff.2 (h.trans decide_eq_true_iff.symm)]
theorem vecFormed (a : VecV) (w : World) : Calls Tryz.prog 75 #[(.agg #[.int .i64 a.x, .int .i64 a.y])] w fun e w' => e = .returned (.bool (vecOk a)) ∧ Below w.heap.size w w' := by
  go_enter Tryz.func75, Tryz.ntmps75
  go_wp2
  all_goals
    go_ret
    refine ⟨ret_bool ?_, (by repeat (first | with_reducible exact Below.refl _ _ | with_reducible assumption | with_reducible refine Below.drew ?_ | with_reducible refine below_drews ?_ _ | with_reducible refine Below.alloc ?_ (by first | omega | (simp; done) | (simp; omega)) _ | with_reducible refine Below.setCell ?_ (by first | omega | (simp; done) | (simp; omega)) _))⟩
    rw [Bool.eq_iff_iff]
    simp [vecOk]
    try omega
set_option maxHeartbeats 1000000 in
theorem boxFormed (b : BoxV) (w : World) : Calls Tryz.prog 76 #[(.agg #[.int .i64 b.lo.x, .int .i64 b.lo.y, .int .i64 b.hi.x, .int .i64 b.hi.y])] w fun e w' => e = .returned (.bool (boxOk b)) ∧ Below w.heap.size w w' := by
  have er : boxOk b = (vecOk b.lo && vecOk b.hi && decide (b.lo.x ≤ b.hi.x ∧ b.lo.y ≤ b.hi.y)) := rfl
  rw [er]
  clear er
  cases e1 : vecOk b.lo <;> cases e2 : vecOk b.hi
  all_goals
    go_enter Tryz.func76, Tryz.ntmps76
    go_wp2_with (go_at_call 75; refine (vecFormed _ _).mono ?_; rintro e w1 ⟨rfl, hb1⟩; obtain ⟨hc1, hf1⟩ := bcell hb1; have hs1 := hb1.size; (try simp at hs1); have l1 : w.heap.size < w1.heap.size := (by omega); have B1 : Below w.heap.size w w1 := Below.trans (by repeat (first | with_reducible exact Below.refl _ _ | with_reducible assumption | with_reducible refine Below.drew ?_ | with_reducible refine below_drews ?_ _ | with_reducible refine Below.alloc ?_ (by first | omega | (simp; done) | (simp; omega)) _ | with_reducible refine Below.setCell ?_ (by first | omega | (simp; done) | (simp; omega)) _)) (hb1.mono (by (try simp) <;> omega)))
    all_goals
      go_ret
      refine ⟨ret_bool ?_, (by repeat (first | with_reducible exact Below.refl _ _ | with_reducible assumption | with_reducible refine Below.drew ?_ | with_reducible refine below_drews ?_ _ | with_reducible refine Below.alloc ?_ (by first | omega | (simp; done) | (simp; omega)) _ | with_reducible refine Below.setCell ?_ (by first | omega | (simp; done) | (simp; omega)) _))⟩
      rw [Bool.eq_iff_iff]
      simp
      try omega
set_option maxHeartbeats 1000000 in
theorem boxOverlap (a b : BoxV) (w : World) : Calls Tryz.prog 170 #[(.agg #[.int .i64 a.lo.x, .int .i64 a.lo.y, .int .i64 a.hi.x, .int .i64 a.hi.y]), (.agg #[.int .i64 b.lo.x, .int .i64 b.lo.y, .int .i64 b.hi.x, .int .i64 b.hi.y])] w fun e w' => e = .returned (.bool (overlap a b)) ∧ Below w.heap.size w w' := by
  have er : overlap a b = (boxOk a && boxOk b && decide (a.lo.x < b.hi.x ∧ b.lo.x < a.hi.x ∧ a.lo.y < b.hi.y ∧ b.lo.y < a.hi.y)) := rfl
  rw [er]
  clear er
  cases e1 : boxOk a
  rotate_left
  cases e2 : boxOk b
  all_goals
    go_enter Tryz.func170, Tryz.ntmps170
    go_wp2_with (go_at_call 76; refine (boxFormed ⟨⟨_, _⟩, ⟨_, _⟩⟩ _).mono ?_; rintro e w1 ⟨rfl, hb1⟩; obtain ⟨hc1, hf1⟩ := bcell hb1; have hs1 := hb1.size; (try simp at hs1); have l1 : w.heap.size < w1.heap.size := (by omega); have l2 : w.heap.size + 1 < w1.heap.size := (by omega); have B1 : Below w.heap.size w w1 := Below.trans (by repeat (first | with_reducible exact Below.refl _ _ | with_reducible assumption | with_reducible refine Below.drew ?_ | with_reducible refine below_drews ?_ _ | with_reducible refine Below.alloc ?_ (by first | omega | (simp; done) | (simp; omega)) _ | with_reducible refine Below.setCell ?_ (by first | omega | (simp; done) | (simp; omega)) _)) (hb1.mono (by (try simp) <;> omega)))
    all_goals
      go_ret
      refine ⟨ret_bool ?_, (by repeat (first | with_reducible exact Below.refl _ _ | with_reducible assumption | with_reducible refine Below.drew ?_ | with_reducible refine below_drews ?_ _ | with_reducible refine Below.alloc ?_ (by first | omega | (simp; done) | (simp; omega)) _ | with_reducible refine Below.setCell ?_ (by first | omega | (simp; done) | (simp; omega)) _))⟩
      rw [Bool.eq_iff_iff]
      simp
      try omega
end Go.Proofs.YtojbijapdkohlaaGreatDoor
