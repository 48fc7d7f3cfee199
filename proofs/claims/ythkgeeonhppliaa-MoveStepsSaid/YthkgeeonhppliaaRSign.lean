/- The walk of the reference's sign (layer 11). (Printed by gen_sign.py.) -/
import Derived.Test.YthkgeeonhppliaaReadPlain
import Derived.Test.YthkgeeonhppliaaWMem
import Derived.Test.YthkgeeonhppliaaKin
import Derived.WalkLawsBesides
import Derived.WalkSpells
set_option linter.unusedSimpArgs false
set_option linter.unusedVariables false
namespace Go.Proofs.Ythkgeeonhppliaa
open Go.RowKit
theorem ex_list (pre mid post : List UInt8) (n : Nat) : ((⟨(pre ++ (mid ++ post)).toArray⟩ : ByteArray).extract pre.length (pre.length + n)).toList = (mid ++ post).take n := by
  rw [ByteArray.toList_eq]
  simp [ByteArray.data_extract]
def Sg.no : Sg → Nat
  | .wall => 1
  | .floor => 2
  | .spawn => 3
  | .nl => 4
set_option maxRecDepth 100000 in
set_option maxHeartbeats 4000000 in
theorem rSign_wall (S : ByteArray) (at_ : Nat) (w : World) (hS : S.size ≤ 100000) (hl : at_ + 3 ≤ S.size) (h0 : ((S.extract at_ (at_ + 3)).toList == [226, 150, 136]) = true) :
    Calls Try.prog 96 #[.string S, .int .i64 (at_ : Nat)] w fun e w' => e = .returned (.tuple #[.int .i64 1, .int .i64 3]) ∧ Below w.heap.size w w' := by
  have f0 : decide ((at_ : Int) + 3 ≤ (S.size : Int)) = true := decide_eq_true (by omega)
  have ix0 : (0 : Int) ≤ (at_ : Int) := by omega
  have G0 := Lib.hid h0
  have F0 := Lib.hid f0
  clear h0 f0
  go_enter Try.func96, Try.ntmps96
  go_wp2
  refine wp_loop_rounds 1 ?_
  have lw : w.heap.size < w.heap.size + 1 := by omega
  rw [rounds_succ]
  go_wp2
  have f0 := F0.out
  (try (have g0 := G0.out))
  refine wp_region_kin' (w.heap.size + 1) (by kernel_rfl) (by kernel_rfl) (fun kk => ?_)
  repeat (first | go_big_quiet_step (fail) | quiet_step (fail))
  refine wpQuiet_nil ?_
  rintro wk0 ⟨⟨wq0, hk0⟩, rfl⟩
  clear kk
  have s0 := hk0.size
  have l0 : w.heap.size < wk0.heap.size := by simp at s0; omega
  have b0 : Below w.heap.size w wk0 := (Below.alloc (Below.refl _ _) (Nat.le_refl _) _).trans (hk0.mono (by omega))
  have c0_0 : wk0.cell? ⟨w.heap.size, 0, none⟩ = some (.string ⟨#[226, 150, 136]⟩) := (hk0.cell (p := ⟨w.heap.size, 0, none⟩) (by show w.heap.size < _; omega)).trans (by simp [World.cell?_alloc_new])
  have c0_1 : wk0.cell? ⟨w.heap.size, 1, none⟩ = some (.string ⟨#[194, 183]⟩) := (hk0.cell (p := ⟨w.heap.size, 1, none⟩) (by show w.heap.size < _; omega)).trans (by simp [World.cell?_alloc_new])
  have c0_2 : wk0.cell? ⟨w.heap.size, 2, none⟩ = some (.string ⟨#[226, 151, 142]⟩) := (hk0.cell (p := ⟨w.heap.size, 2, none⟩) (by show w.heap.size < _; omega)).trans (by simp [World.cell?_alloc_new])
  have c0_3 : wk0.cell? ⟨w.heap.size, 3, none⟩ = some (.string ⟨#[10]⟩) := (hk0.cell (p := ⟨w.heap.size, 3, none⟩) (by show w.heap.size < _; omega)).trans (by simp [World.cell?_alloc_new])
  have B0 := Lib.hid b0
  clear hk0
  go_wp2
  go_ret2
  exact ⟨rfl, B0.out⟩
set_option maxRecDepth 100000 in
set_option maxHeartbeats 4000000 in
theorem rSign_floor (S : ByteArray) (at_ : Nat) (w : World) (hS : S.size ≤ 100000) (h0 : at_ + 3 ≤ S.size → ((S.extract at_ (at_ + 3)).toList == [226, 150, 136]) = false) (hl : at_ + 2 ≤ S.size) (h1 : ((S.extract at_ (at_ + 2)).toList == [194, 183]) = true) :
    Calls Try.prog 96 #[.string S, .int .i64 (at_ : Nat)] w fun e w' => e = .returned (.tuple #[.int .i64 2, .int .i64 2]) ∧ Below w.heap.size w w' := by
  have f1 : decide ((at_ : Int) + 2 ≤ (S.size : Int)) = true := decide_eq_true (by omega)
  have k0 : decide ((at_ : Int) + 3 ≤ (S.size : Int)) = false ∨ decide ((at_ : Int) + 3 ≤ (S.size : Int)) = true ∧ ((S.extract at_ (at_ + 3)).toList == [226, 150, 136]) = false ∧ at_ + 3 ≤ S.size := by
    by_cases hh : at_ + 3 ≤ S.size
    · exact .inr ⟨decide_eq_true (by omega), h0 hh, hh⟩
    · exact .inl (decide_eq_false (by omega))
  have ix0 : (0 : Int) ≤ (at_ : Int) := by omega
  clear h0
  have G1 := Lib.hid h1
  have F1 := Lib.hid f1
  clear h1 f1
  obtain f0 | ⟨f0, g0, hh0⟩ := k0
  all_goals
    have F0 := Lib.hid f0
    clear f0
    (try (have G0 := Lib.hid g0))
    (try clear g0)
    go_enter Try.func96, Try.ntmps96
    go_wp2
    refine wp_loop_rounds 2 ?_
    have lw : w.heap.size < w.heap.size + 1 := by omega
    rw [rounds_succ]
    go_wp2
    have f0 := F0.out
    (try (have g0 := G0.out))
    refine wp_region_kin' (w.heap.size + 1) (by kernel_rfl) (by kernel_rfl) (fun kk => ?_)
    repeat (first | go_big_quiet_step (fail) | quiet_step (fail))
    refine wpQuiet_nil ?_
    rintro wk0 ⟨⟨wq0, hk0⟩, rfl⟩
    clear kk
    have s0 := hk0.size
    have l0 : w.heap.size < wk0.heap.size := by simp at s0; omega
    have b0 : Below w.heap.size w wk0 := (Below.alloc (Below.refl _ _) (Nat.le_refl _) _).trans (hk0.mono (by omega))
    have c0_0 : wk0.cell? ⟨w.heap.size, 0, none⟩ = some (.string ⟨#[226, 150, 136]⟩) := (hk0.cell (p := ⟨w.heap.size, 0, none⟩) (by show w.heap.size < _; omega)).trans (by simp [World.cell?_alloc_new])
    have c0_1 : wk0.cell? ⟨w.heap.size, 1, none⟩ = some (.string ⟨#[194, 183]⟩) := (hk0.cell (p := ⟨w.heap.size, 1, none⟩) (by show w.heap.size < _; omega)).trans (by simp [World.cell?_alloc_new])
    have c0_2 : wk0.cell? ⟨w.heap.size, 2, none⟩ = some (.string ⟨#[226, 151, 142]⟩) := (hk0.cell (p := ⟨w.heap.size, 2, none⟩) (by show w.heap.size < _; omega)).trans (by simp [World.cell?_alloc_new])
    have c0_3 : wk0.cell? ⟨w.heap.size, 3, none⟩ = some (.string ⟨#[10]⟩) := (hk0.cell (p := ⟨w.heap.size, 3, none⟩) (by show w.heap.size < _; omega)).trans (by simp [World.cell?_alloc_new])
    have B0 := Lib.hid b0
    clear hk0
    go_wp2
    clear f0
    (try clear g0)
    rw [rounds_succ]
    go_wp2
    have f1 := F1.out
    (try (have g1 := G1.out))
    refine wp_region_kin' wk0.heap.size (by kernel_rfl) (by kernel_rfl) (fun kk => ?_)
    repeat (first | go_big_quiet_step (fail) | quiet_step (fail))
    refine wpQuiet_nil ?_
    rintro wk1 ⟨⟨wq1, hk1⟩, rfl⟩
    clear kk
    have s1 := hk1.size
    have l1 : w.heap.size < wk1.heap.size := by omega
    have b1 : Below w.heap.size w wk1 := b0.trans (hk1.mono (by omega))
    have c1_0 : wk1.cell? ⟨w.heap.size, 0, none⟩ = some (.string ⟨#[226, 150, 136]⟩) := (hk1.cell (p := ⟨w.heap.size, 0, none⟩) (by show w.heap.size < _; omega)).trans c0_0
    have c1_1 : wk1.cell? ⟨w.heap.size, 1, none⟩ = some (.string ⟨#[194, 183]⟩) := (hk1.cell (p := ⟨w.heap.size, 1, none⟩) (by show w.heap.size < _; omega)).trans c0_1
    have c1_2 : wk1.cell? ⟨w.heap.size, 2, none⟩ = some (.string ⟨#[226, 151, 142]⟩) := (hk1.cell (p := ⟨w.heap.size, 2, none⟩) (by show w.heap.size < _; omega)).trans c0_2
    have c1_3 : wk1.cell? ⟨w.heap.size, 3, none⟩ = some (.string ⟨#[10]⟩) := (hk1.cell (p := ⟨w.heap.size, 3, none⟩) (by show w.heap.size < _; omega)).trans c0_3
    have B1 := Lib.hid b1
    clear hk1 c0_0 c0_1 c0_2 c0_3
    go_wp2
    go_ret2
    exact ⟨rfl, B1.out⟩
set_option maxRecDepth 100000 in
set_option maxHeartbeats 4000000 in
theorem rSign_spawn (S : ByteArray) (at_ : Nat) (w : World) (hS : S.size ≤ 100000) (h0 : at_ + 3 ≤ S.size → ((S.extract at_ (at_ + 3)).toList == [226, 150, 136]) = false) (h1 : at_ + 2 ≤ S.size → ((S.extract at_ (at_ + 2)).toList == [194, 183]) = false) (hl : at_ + 3 ≤ S.size) (h2 : ((S.extract at_ (at_ + 3)).toList == [226, 151, 142]) = true) :
    Calls Try.prog 96 #[.string S, .int .i64 (at_ : Nat)] w fun e w' => e = .returned (.tuple #[.int .i64 3, .int .i64 3]) ∧ Below w.heap.size w w' := by
  have f2 : decide ((at_ : Int) + 3 ≤ (S.size : Int)) = true := decide_eq_true (by omega)
  have k0 : decide ((at_ : Int) + 3 ≤ (S.size : Int)) = false ∨ decide ((at_ : Int) + 3 ≤ (S.size : Int)) = true ∧ ((S.extract at_ (at_ + 3)).toList == [226, 150, 136]) = false ∧ at_ + 3 ≤ S.size := by
    by_cases hh : at_ + 3 ≤ S.size
    · exact .inr ⟨decide_eq_true (by omega), h0 hh, hh⟩
    · exact .inl (decide_eq_false (by omega))
  have k1 : decide ((at_ : Int) + 2 ≤ (S.size : Int)) = false ∨ decide ((at_ : Int) + 2 ≤ (S.size : Int)) = true ∧ ((S.extract at_ (at_ + 2)).toList == [194, 183]) = false ∧ at_ + 2 ≤ S.size := by
    by_cases hh : at_ + 2 ≤ S.size
    · exact .inr ⟨decide_eq_true (by omega), h1 hh, hh⟩
    · exact .inl (decide_eq_false (by omega))
  have ix0 : (0 : Int) ≤ (at_ : Int) := by omega
  clear h0 h1
  have G2 := Lib.hid h2
  have F2 := Lib.hid f2
  clear h2 f2
  obtain f0 | ⟨f0, g0, hh0⟩ := k0
  all_goals
    obtain f1 | ⟨f1, g1, hh1⟩ := k1
    all_goals
      have F0 := Lib.hid f0
      clear f0
      (try (have G0 := Lib.hid g0))
      (try clear g0)
      have F1 := Lib.hid f1
      clear f1
      (try (have G1 := Lib.hid g1))
      (try clear g1)
      go_enter Try.func96, Try.ntmps96
      go_wp2
      refine wp_loop_rounds 3 ?_
      have lw : w.heap.size < w.heap.size + 1 := by omega
      rw [rounds_succ]
      go_wp2
      have f0 := F0.out
      (try (have g0 := G0.out))
      refine wp_region_kin' (w.heap.size + 1) (by kernel_rfl) (by kernel_rfl) (fun kk => ?_)
      repeat (first | go_big_quiet_step (fail) | quiet_step (fail))
      refine wpQuiet_nil ?_
      rintro wk0 ⟨⟨wq0, hk0⟩, rfl⟩
      clear kk
      have s0 := hk0.size
      have l0 : w.heap.size < wk0.heap.size := by simp at s0; omega
      have b0 : Below w.heap.size w wk0 := (Below.alloc (Below.refl _ _) (Nat.le_refl _) _).trans (hk0.mono (by omega))
      have c0_0 : wk0.cell? ⟨w.heap.size, 0, none⟩ = some (.string ⟨#[226, 150, 136]⟩) := (hk0.cell (p := ⟨w.heap.size, 0, none⟩) (by show w.heap.size < _; omega)).trans (by simp [World.cell?_alloc_new])
      have c0_1 : wk0.cell? ⟨w.heap.size, 1, none⟩ = some (.string ⟨#[194, 183]⟩) := (hk0.cell (p := ⟨w.heap.size, 1, none⟩) (by show w.heap.size < _; omega)).trans (by simp [World.cell?_alloc_new])
      have c0_2 : wk0.cell? ⟨w.heap.size, 2, none⟩ = some (.string ⟨#[226, 151, 142]⟩) := (hk0.cell (p := ⟨w.heap.size, 2, none⟩) (by show w.heap.size < _; omega)).trans (by simp [World.cell?_alloc_new])
      have c0_3 : wk0.cell? ⟨w.heap.size, 3, none⟩ = some (.string ⟨#[10]⟩) := (hk0.cell (p := ⟨w.heap.size, 3, none⟩) (by show w.heap.size < _; omega)).trans (by simp [World.cell?_alloc_new])
      have B0 := Lib.hid b0
      clear hk0
      go_wp2
      clear f0
      (try clear g0)
      rw [rounds_succ]
      go_wp2
      have f1 := F1.out
      (try (have g1 := G1.out))
      refine wp_region_kin' wk0.heap.size (by kernel_rfl) (by kernel_rfl) (fun kk => ?_)
      repeat (first | go_big_quiet_step (fail) | quiet_step (fail))
      refine wpQuiet_nil ?_
      rintro wk1 ⟨⟨wq1, hk1⟩, rfl⟩
      clear kk
      have s1 := hk1.size
      have l1 : w.heap.size < wk1.heap.size := by omega
      have b1 : Below w.heap.size w wk1 := b0.trans (hk1.mono (by omega))
      have c1_0 : wk1.cell? ⟨w.heap.size, 0, none⟩ = some (.string ⟨#[226, 150, 136]⟩) := (hk1.cell (p := ⟨w.heap.size, 0, none⟩) (by show w.heap.size < _; omega)).trans c0_0
      have c1_1 : wk1.cell? ⟨w.heap.size, 1, none⟩ = some (.string ⟨#[194, 183]⟩) := (hk1.cell (p := ⟨w.heap.size, 1, none⟩) (by show w.heap.size < _; omega)).trans c0_1
      have c1_2 : wk1.cell? ⟨w.heap.size, 2, none⟩ = some (.string ⟨#[226, 151, 142]⟩) := (hk1.cell (p := ⟨w.heap.size, 2, none⟩) (by show w.heap.size < _; omega)).trans c0_2
      have c1_3 : wk1.cell? ⟨w.heap.size, 3, none⟩ = some (.string ⟨#[10]⟩) := (hk1.cell (p := ⟨w.heap.size, 3, none⟩) (by show w.heap.size < _; omega)).trans c0_3
      have B1 := Lib.hid b1
      clear hk1 c0_0 c0_1 c0_2 c0_3
      go_wp2
      clear f1
      (try clear g1)
      rw [rounds_succ]
      go_wp2
      have f2 := F2.out
      (try (have g2 := G2.out))
      refine wp_region_kin' wk1.heap.size (by kernel_rfl) (by kernel_rfl) (fun kk => ?_)
      repeat (first | go_big_quiet_step (fail) | quiet_step (fail))
      refine wpQuiet_nil ?_
      rintro wk2 ⟨⟨wq2, hk2⟩, rfl⟩
      clear kk
      have s2 := hk2.size
      have l2 : w.heap.size < wk2.heap.size := by omega
      have b2 : Below w.heap.size w wk2 := b1.trans (hk2.mono (by omega))
      have c2_0 : wk2.cell? ⟨w.heap.size, 0, none⟩ = some (.string ⟨#[226, 150, 136]⟩) := (hk2.cell (p := ⟨w.heap.size, 0, none⟩) (by show w.heap.size < _; omega)).trans c1_0
      have c2_1 : wk2.cell? ⟨w.heap.size, 1, none⟩ = some (.string ⟨#[194, 183]⟩) := (hk2.cell (p := ⟨w.heap.size, 1, none⟩) (by show w.heap.size < _; omega)).trans c1_1
      have c2_2 : wk2.cell? ⟨w.heap.size, 2, none⟩ = some (.string ⟨#[226, 151, 142]⟩) := (hk2.cell (p := ⟨w.heap.size, 2, none⟩) (by show w.heap.size < _; omega)).trans c1_2
      have c2_3 : wk2.cell? ⟨w.heap.size, 3, none⟩ = some (.string ⟨#[10]⟩) := (hk2.cell (p := ⟨w.heap.size, 3, none⟩) (by show w.heap.size < _; omega)).trans c1_3
      have B2 := Lib.hid b2
      clear hk2 c1_0 c1_1 c1_2 c1_3
      go_wp2
      go_ret2
      exact ⟨rfl, B2.out⟩
set_option maxRecDepth 100000 in
set_option maxHeartbeats 4000000 in
theorem rSign_nl (S : ByteArray) (at_ : Nat) (w : World) (hS : S.size ≤ 100000) (h0 : at_ + 3 ≤ S.size → ((S.extract at_ (at_ + 3)).toList == [226, 150, 136]) = false) (h1 : at_ + 2 ≤ S.size → ((S.extract at_ (at_ + 2)).toList == [194, 183]) = false) (h2 : at_ + 3 ≤ S.size → ((S.extract at_ (at_ + 3)).toList == [226, 151, 142]) = false) (hl : at_ + 1 ≤ S.size) (h3 : ((S.extract at_ (at_ + 1)).toList == [10]) = true) :
    Calls Try.prog 96 #[.string S, .int .i64 (at_ : Nat)] w fun e w' => e = .returned (.tuple #[.int .i64 4, .int .i64 1]) ∧ Below w.heap.size w w' := by
  have f3 : decide ((at_ : Int) + 1 ≤ (S.size : Int)) = true := decide_eq_true (by omega)
  have k0 : decide ((at_ : Int) + 3 ≤ (S.size : Int)) = false ∨ decide ((at_ : Int) + 3 ≤ (S.size : Int)) = true ∧ ((S.extract at_ (at_ + 3)).toList == [226, 150, 136]) = false ∧ at_ + 3 ≤ S.size := by
    by_cases hh : at_ + 3 ≤ S.size
    · exact .inr ⟨decide_eq_true (by omega), h0 hh, hh⟩
    · exact .inl (decide_eq_false (by omega))
  have k1 : decide ((at_ : Int) + 2 ≤ (S.size : Int)) = false ∨ decide ((at_ : Int) + 2 ≤ (S.size : Int)) = true ∧ ((S.extract at_ (at_ + 2)).toList == [194, 183]) = false ∧ at_ + 2 ≤ S.size := by
    by_cases hh : at_ + 2 ≤ S.size
    · exact .inr ⟨decide_eq_true (by omega), h1 hh, hh⟩
    · exact .inl (decide_eq_false (by omega))
  have k2 : decide ((at_ : Int) + 3 ≤ (S.size : Int)) = false ∨ decide ((at_ : Int) + 3 ≤ (S.size : Int)) = true ∧ ((S.extract at_ (at_ + 3)).toList == [226, 151, 142]) = false ∧ at_ + 3 ≤ S.size := by
    by_cases hh : at_ + 3 ≤ S.size
    · exact .inr ⟨decide_eq_true (by omega), h2 hh, hh⟩
    · exact .inl (decide_eq_false (by omega))
  have ix0 : (0 : Int) ≤ (at_ : Int) := by omega
  clear h0 h1 h2
  have G3 := Lib.hid h3
  have F3 := Lib.hid f3
  clear h3 f3
  obtain f0 | ⟨f0, g0, hh0⟩ := k0
  all_goals
    obtain f1 | ⟨f1, g1, hh1⟩ := k1
    all_goals
      obtain f2 | ⟨f2, g2, hh2⟩ := k2
      all_goals
        have F0 := Lib.hid f0
        clear f0
        (try (have G0 := Lib.hid g0))
        (try clear g0)
        have F1 := Lib.hid f1
        clear f1
        (try (have G1 := Lib.hid g1))
        (try clear g1)
        have F2 := Lib.hid f2
        clear f2
        (try (have G2 := Lib.hid g2))
        (try clear g2)
        go_enter Try.func96, Try.ntmps96
        go_wp2
        refine wp_loop_rounds 4 ?_
        have lw : w.heap.size < w.heap.size + 1 := by omega
        rw [rounds_succ]
        go_wp2
        have f0 := F0.out
        (try (have g0 := G0.out))
        refine wp_region_kin' (w.heap.size + 1) (by kernel_rfl) (by kernel_rfl) (fun kk => ?_)
        repeat (first | go_big_quiet_step (fail) | quiet_step (fail))
        refine wpQuiet_nil ?_
        rintro wk0 ⟨⟨wq0, hk0⟩, rfl⟩
        clear kk
        have s0 := hk0.size
        have l0 : w.heap.size < wk0.heap.size := by simp at s0; omega
        have b0 : Below w.heap.size w wk0 := (Below.alloc (Below.refl _ _) (Nat.le_refl _) _).trans (hk0.mono (by omega))
        have c0_0 : wk0.cell? ⟨w.heap.size, 0, none⟩ = some (.string ⟨#[226, 150, 136]⟩) := (hk0.cell (p := ⟨w.heap.size, 0, none⟩) (by show w.heap.size < _; omega)).trans (by simp [World.cell?_alloc_new])
        have c0_1 : wk0.cell? ⟨w.heap.size, 1, none⟩ = some (.string ⟨#[194, 183]⟩) := (hk0.cell (p := ⟨w.heap.size, 1, none⟩) (by show w.heap.size < _; omega)).trans (by simp [World.cell?_alloc_new])
        have c0_2 : wk0.cell? ⟨w.heap.size, 2, none⟩ = some (.string ⟨#[226, 151, 142]⟩) := (hk0.cell (p := ⟨w.heap.size, 2, none⟩) (by show w.heap.size < _; omega)).trans (by simp [World.cell?_alloc_new])
        have c0_3 : wk0.cell? ⟨w.heap.size, 3, none⟩ = some (.string ⟨#[10]⟩) := (hk0.cell (p := ⟨w.heap.size, 3, none⟩) (by show w.heap.size < _; omega)).trans (by simp [World.cell?_alloc_new])
        have B0 := Lib.hid b0
        clear hk0
        go_wp2
        clear f0
        (try clear g0)
        rw [rounds_succ]
        go_wp2
        have f1 := F1.out
        (try (have g1 := G1.out))
        refine wp_region_kin' wk0.heap.size (by kernel_rfl) (by kernel_rfl) (fun kk => ?_)
        repeat (first | go_big_quiet_step (fail) | quiet_step (fail))
        refine wpQuiet_nil ?_
        rintro wk1 ⟨⟨wq1, hk1⟩, rfl⟩
        clear kk
        have s1 := hk1.size
        have l1 : w.heap.size < wk1.heap.size := by omega
        have b1 : Below w.heap.size w wk1 := b0.trans (hk1.mono (by omega))
        have c1_0 : wk1.cell? ⟨w.heap.size, 0, none⟩ = some (.string ⟨#[226, 150, 136]⟩) := (hk1.cell (p := ⟨w.heap.size, 0, none⟩) (by show w.heap.size < _; omega)).trans c0_0
        have c1_1 : wk1.cell? ⟨w.heap.size, 1, none⟩ = some (.string ⟨#[194, 183]⟩) := (hk1.cell (p := ⟨w.heap.size, 1, none⟩) (by show w.heap.size < _; omega)).trans c0_1
        have c1_2 : wk1.cell? ⟨w.heap.size, 2, none⟩ = some (.string ⟨#[226, 151, 142]⟩) := (hk1.cell (p := ⟨w.heap.size, 2, none⟩) (by show w.heap.size < _; omega)).trans c0_2
        have c1_3 : wk1.cell? ⟨w.heap.size, 3, none⟩ = some (.string ⟨#[10]⟩) := (hk1.cell (p := ⟨w.heap.size, 3, none⟩) (by show w.heap.size < _; omega)).trans c0_3
        have B1 := Lib.hid b1
        clear hk1 c0_0 c0_1 c0_2 c0_3
        go_wp2
        clear f1
        (try clear g1)
        rw [rounds_succ]
        go_wp2
        have f2 := F2.out
        (try (have g2 := G2.out))
        refine wp_region_kin' wk1.heap.size (by kernel_rfl) (by kernel_rfl) (fun kk => ?_)
        repeat (first | go_big_quiet_step (fail) | quiet_step (fail))
        refine wpQuiet_nil ?_
        rintro wk2 ⟨⟨wq2, hk2⟩, rfl⟩
        clear kk
        have s2 := hk2.size
        have l2 : w.heap.size < wk2.heap.size := by omega
        have b2 : Below w.heap.size w wk2 := b1.trans (hk2.mono (by omega))
        have c2_0 : wk2.cell? ⟨w.heap.size, 0, none⟩ = some (.string ⟨#[226, 150, 136]⟩) := (hk2.cell (p := ⟨w.heap.size, 0, none⟩) (by show w.heap.size < _; omega)).trans c1_0
        have c2_1 : wk2.cell? ⟨w.heap.size, 1, none⟩ = some (.string ⟨#[194, 183]⟩) := (hk2.cell (p := ⟨w.heap.size, 1, none⟩) (by show w.heap.size < _; omega)).trans c1_1
        have c2_2 : wk2.cell? ⟨w.heap.size, 2, none⟩ = some (.string ⟨#[226, 151, 142]⟩) := (hk2.cell (p := ⟨w.heap.size, 2, none⟩) (by show w.heap.size < _; omega)).trans c1_2
        have c2_3 : wk2.cell? ⟨w.heap.size, 3, none⟩ = some (.string ⟨#[10]⟩) := (hk2.cell (p := ⟨w.heap.size, 3, none⟩) (by show w.heap.size < _; omega)).trans c1_3
        have B2 := Lib.hid b2
        clear hk2 c1_0 c1_1 c1_2 c1_3
        go_wp2
        clear f2
        (try clear g2)
        rw [rounds_succ]
        go_wp2
        have f3 := F3.out
        (try (have g3 := G3.out))
        refine wp_region_kin' wk2.heap.size (by kernel_rfl) (by kernel_rfl) (fun kk => ?_)
        repeat (first | go_big_quiet_step (fail) | quiet_step (fail))
        refine wpQuiet_nil ?_
        rintro wk3 ⟨⟨wq3, hk3⟩, rfl⟩
        clear kk
        have s3 := hk3.size
        have l3 : w.heap.size < wk3.heap.size := by omega
        have b3 : Below w.heap.size w wk3 := b2.trans (hk3.mono (by omega))
        have c3_0 : wk3.cell? ⟨w.heap.size, 0, none⟩ = some (.string ⟨#[226, 150, 136]⟩) := (hk3.cell (p := ⟨w.heap.size, 0, none⟩) (by show w.heap.size < _; omega)).trans c2_0
        have c3_1 : wk3.cell? ⟨w.heap.size, 1, none⟩ = some (.string ⟨#[194, 183]⟩) := (hk3.cell (p := ⟨w.heap.size, 1, none⟩) (by show w.heap.size < _; omega)).trans c2_1
        have c3_2 : wk3.cell? ⟨w.heap.size, 2, none⟩ = some (.string ⟨#[226, 151, 142]⟩) := (hk3.cell (p := ⟨w.heap.size, 2, none⟩) (by show w.heap.size < _; omega)).trans c2_2
        have c3_3 : wk3.cell? ⟨w.heap.size, 3, none⟩ = some (.string ⟨#[10]⟩) := (hk3.cell (p := ⟨w.heap.size, 3, none⟩) (by show w.heap.size < _; omega)).trans c2_3
        have B3 := Lib.hid b3
        clear hk3 c2_0 c2_1 c2_2 c2_3
        go_wp2
        go_ret2
        exact ⟨rfl, B3.out⟩
theorem sign_no (pre post : List UInt8) (g : Sg) (S : ByteArray) (hS : S = ⟨(pre ++ (g.bytes ++ post)).toArray⟩) (w : World) (hn : S.size ≤ 100000) :
    Calls Try.prog 96 #[.string S, .int .i64 (pre.length : Nat)] w fun e w' => e = .returned (.tuple #[.int .i64 (g.no : Nat), .int .i64 (g.bytes.length : Nat)]) ∧ Below w.heap.size w w' := by
  have he := fun n => ex_list pre g.bytes post n
  rw [← hS] at he
  have hz : S.size = pre.length + (g.bytes.length + post.length) := by rw [hS, size_of_bytes]; simp
  cases g with
  | wall => exact rSign_wall S pre.length w hn (by rw [hz]; simp [Sg.bytes] <;> omega) (by rw [he]; simp [Sg.bytes])
  | floor => exact rSign_floor S pre.length w hn (fun _ => by rw [he]; simp [Sg.bytes]) (by rw [hz]; simp [Sg.bytes] <;> omega) (by rw [he]; simp [Sg.bytes])
  | spawn => exact rSign_spawn S pre.length w hn (fun _ => by rw [he]; simp [Sg.bytes]) (fun _ => by rw [he]; simp [Sg.bytes]) (by rw [hz]; simp [Sg.bytes] <;> omega) (by rw [he]; simp [Sg.bytes])
  | nl => exact rSign_nl S pre.length w hn (fun _ => by rw [he]; simp [Sg.bytes]) (fun _ => by rw [he]; simp [Sg.bytes]) (fun _ => by rw [he]; simp [Sg.bytes]) (by rw [hz]; simp [Sg.bytes] <;> omega) (by rw [he]; simp [Sg.bytes])
end Go.Proofs.Ythkgeeonhppliaa
