/- The reference's forms of entities and lists (layer 10): where all is well. -/
import Derived.Test.YthkgeeonhppliaaWMem
import Derived.Test.YthkgeeonhppliaaKin
set_option linter.unusedSimpArgs false
set_option linter.unusedVariables false
namespace Go.Proofs.Ythkgeeonhppliaa
open Go.RowKit
theorem rBetween (x a b : Int) (w : World) : Calls Try.prog 64 #[.int .i64 x, .int .i64 a, .int .i64 b] w fun e w' => e = .returned (.bool (decide (a ≤ x ∧ x ≤ b))) ∧ w = w' := by
  go_enter Try.func64, Try.ntmps64
  go_wp2
  all_goals
    go_ret
    refine ⟨ret_bool ?_, rfl⟩
    rw [Bool.eq_iff_iff]
    simp
    try omega
theorem rBetweenY (x a b : Int) (w : World) (h : a ≤ x ∧ x ≤ b) : Calls Try.prog 64 #[.int .i64 x, .int .i64 a, .int .i64 b] w fun e w' => e = .returned (.bool true) ∧ w = w' := by
  have := rBetween x a b w
  rwa [decide_eq_true h] at this
theorem rVecFormed (a : VecV) (w : World) (h : vecOk a = true) : Calls Try.prog 65 #[(.agg #[.int .i64 a.x, .int .i64 a.y])] w fun e w' => e = .returned (.bool true) ∧ Below w.heap.size w w' := by
  unfold vecOk at h
  simp only [decide_eq_true_eq] at h
  go_enter Try.func65, Try.ntmps65
  go_wp2
  all_goals
    go_ret
    refine ⟨ret_bool ?_, (by repeat (first | with_reducible exact Below.refl _ _ | with_reducible assumption | with_reducible refine Below.drew ?_ | with_reducible refine below_drews ?_ _ | with_reducible refine Below.alloc ?_ (by first | omega | (simp; done) | (simp; omega)) _ | with_reducible refine Below.setCell ?_ (by first | omega | (simp; done) | (simp; omega)) _))⟩
    simp
    try omega
theorem rFormedY (e : EntV) (w : World) (h : entOk e = true) : Calls Try.prog 35 #[(.agg #[.int .i64 e.id, .int .i64 e.kind, .int .i64 e.at_.x, .int .i64 e.at_.y, .int .i64 e.vel.x, .int .i64 e.vel.y, .int .i64 e.health, .int .i64 e.wait])] w fun e' w' => e' = .returned (.bool true) ∧ Below w.heap.size w w' := by
  have hv : vecOk e.at_ = true := by unfold entOk at h; simp only [Bool.and_eq_true] at h; exact h.1.1.1.2
  unfold entOk kindOk slowOk restOk at h
  simp only [Bool.and_eq_true, decide_eq_true_eq] at h
  obtain ⟨⟨⟨⟨⟨k1, k2, k3⟩, -⟩, sx⟩, sy⟩, r1, r2, r3, r4, r5⟩ := h
  have HV := Lib.hid hv
  clear hv
  obtain ⟨d1, h1⟩ : ∃ d, (e.kind == 1) = d := ⟨_, rfl⟩
  obtain ⟨d2, h2⟩ : ∃ d, (e.kind == 2) = d := ⟨_, rfl⟩
  obtain ⟨d3, h3⟩ : ∃ d, decide (0 < e.health) = d := ⟨_, rfl⟩
  obtain ⟨d4, h4⟩ : ∃ d, (e.wait == 0) = d := ⟨_, rfl⟩
  obtain ⟨d5, h5⟩ : ∃ d, (e.health == 0) = d := ⟨_, rfl⟩
  obtain ⟨d6, h6⟩ : ∃ d, decide (0 < e.wait) = d := ⟨_, rfl⟩
  obtain ⟨d7, h7⟩ : ∃ d, (e.health == 100) = d := ⟨_, rfl⟩
  have hc : (d1 = true ∧ d2 = false ∧ d3 = true ∧ d4 = true ∧ e.id ≤ 8) ∨ (d1 = true ∧ d2 = false ∧ d3 = false ∧ d5 = true ∧ d6 = true ∧ e.id ≤ 8) ∨ (d1 = false ∧ d2 = true ∧ d7 = true ∧ d4 = true ∧ 9 ≤ e.id) := by
    subst h1 h2 h3 h4 h5 h6 h7
    simp only [beq_iff_eq, beq_eq_false_iff_ne, decide_eq_true_eq, decide_eq_false_iff_not, ne_eq]
    omega
  clear k3 r5
  rcases hc with ⟨rfl, rfl, rfl, rfl, k3⟩ | ⟨rfl, rfl, rfl, rfl, rfl, k3⟩ | ⟨rfl, rfl, rfl, rfl, k3⟩
  all_goals
    go_enter Try.func35, Try.ntmps35
    go_wp2_with (first
      | (go_at_call 64; refine (rBetweenY _ _ _ _ (by omega)).mono ?_; rintro e w1 ⟨rfl, rfl⟩)
      | (go_at_call 65; refine (rVecFormed ⟨_, _⟩ _ HV.out).mono ?_; rintro e w1 ⟨rfl, hb1⟩; obtain ⟨hc1, hf1⟩ := bcell hb1; have hs1 := hb1.size; (try simp at hs1); have l1 : w.heap.size < w1.heap.size := (by omega); have B1 : Below w.heap.size w w1 := Below.trans (by repeat (first | with_reducible exact Below.refl _ _ | with_reducible assumption | with_reducible refine Below.drew ?_ | with_reducible refine below_drews ?_ _ | with_reducible refine Below.alloc ?_ (by first | omega | (simp; done) | (simp; omega)) _ | with_reducible refine Below.setCell ?_ (by first | omega | (simp; done) | (simp; omega)) _)) (hb1.mono (by (try simp) <;> omega))))
    all_goals
      go_ret
      exact ⟨rfl, (by repeat (first | with_reducible exact Below.refl _ _ | with_reducible assumption | with_reducible refine Below.drew ?_ | with_reducible refine below_drews ?_ _ | with_reducible refine Below.alloc ?_ (by first | omega | (simp; done) | (simp; omega)) _ | with_reducible refine Below.setCell ?_ (by first | omega | (simp; done) | (simp; omega)) _))⟩
set_option maxRecDepth 100000 in
set_option maxHeartbeats 4000000 in
theorem rListY (l : List EntV) (A : Option Addr) (n c : Nat) (w : World) (h : Reads w w.heap.size 8 A n (entsV l)) (hn : n ≤ 100000) (hok : ∀ e ∈ l, entOk e = true) (hr : ∀ (k : Nat) (a b : EntV), l[k]? = some a → l[k + 1]? = some b → a.id < b.id) :
    Calls Try.prog 26 #[.slice A n c] w fun e' w' => e' = .returned (.bool true) ∧ Below w.heap.size w w' := by
  have hll : l.length = n := by have := h.1; rw [entsV_length] at this; omega
  have HH := Lib.hid h
  have HOK := Lib.hid hok
  have HR := Lib.hid hr
  have HLL := Lib.hid hll
  clear h hok hr hll
  go_enter Try.func26, Try.ntmps26
  go_wp2
  go_loopw [3] (fun i wr => ∃ k : Nat, k ≤ n ∧ i = .int .i64 (k : Nat) ∧ Below w.heap.size w wr) (fun i _ => n - (intOf i).toNat)
  case atStart => exact ⟨0, Nat.zero_le _, rfl, Below.refl _ _⟩
  case round =>
    obtain ⟨k, hk, rfl, hbr⟩ := hrel
    have hbs := hbr.size
    by_cases hlt : k < n
    · obtain ⟨a, ha⟩ : ∃ a, l[k]? = some a := ⟨_, List.getElem?_eq_getElem (by have := HLL.out; omega)⟩
      obtain ⟨g, off, rfl, hg, hc⟩ := HH.out.flat (by omega) (by decide)
      have hf := fun W => rFormedY a W (HOK.out a (List.mem_of_getElem? ha))
      have hg2 : g < wr.heap.size := by omega
      have q0 : wr.cell? ⟨g, off + k * 8, none⟩ = some (.int .i64 a.id) := by exact (hbr.cell (p := ⟨g, off + (k * 8 + 0), none⟩) (by show g < _; omega)).trans (hc _ _ ((entsV_at ha 0 (by decide)).trans rfl))
      have q1 : wr.cell? ⟨g, off + k * 8 + 1, none⟩ = some (.int .i64 a.kind) := by rw [Nat.add_assoc]; exact (hbr.cell (p := ⟨g, off + (k * 8 + 1), none⟩) (by show g < _; omega)).trans (hc _ _ ((entsV_at ha 1 (by decide)).trans rfl))
      have q2 : wr.cell? ⟨g, off + k * 8 + 2, none⟩ = some (.int .i64 a.at_.x) := by rw [Nat.add_assoc]; exact (hbr.cell (p := ⟨g, off + (k * 8 + 2), none⟩) (by show g < _; omega)).trans (hc _ _ ((entsV_at ha 2 (by decide)).trans rfl))
      have q3 : wr.cell? ⟨g, off + k * 8 + 3, none⟩ = some (.int .i64 a.at_.y) := by rw [Nat.add_assoc]; exact (hbr.cell (p := ⟨g, off + (k * 8 + 3), none⟩) (by show g < _; omega)).trans (hc _ _ ((entsV_at ha 3 (by decide)).trans rfl))
      have q4 : wr.cell? ⟨g, off + k * 8 + 4, none⟩ = some (.int .i64 a.vel.x) := by rw [Nat.add_assoc]; exact (hbr.cell (p := ⟨g, off + (k * 8 + 4), none⟩) (by show g < _; omega)).trans (hc _ _ ((entsV_at ha 4 (by decide)).trans rfl))
      have q5 : wr.cell? ⟨g, off + k * 8 + 5, none⟩ = some (.int .i64 a.vel.y) := by rw [Nat.add_assoc]; exact (hbr.cell (p := ⟨g, off + (k * 8 + 5), none⟩) (by show g < _; omega)).trans (hc _ _ ((entsV_at ha 5 (by decide)).trans rfl))
      have q6 : wr.cell? ⟨g, off + k * 8 + 6, none⟩ = some (.int .i64 a.health) := by rw [Nat.add_assoc]; exact (hbr.cell (p := ⟨g, off + (k * 8 + 6), none⟩) (by show g < _; omega)).trans (hc _ _ ((entsV_at ha 6 (by decide)).trans rfl))
      have q7 : wr.cell? ⟨g, off + k * 8 + 7, none⟩ = some (.int .i64 a.wait) := by rw [Nat.add_assoc]; exact (hbr.cell (p := ⟨g, off + (k * 8 + 7), none⟩) (by show g < _; omega)).trans (hc _ _ ((entsV_at ha 7 (by decide)).trans rfl))
      have hmul : off + k * 8 + 8 ≤ off + n * 8 := by omega
      have HBR := Lib.hid hbr
      have HF := Lib.hid hf
      rcases Nat.eq_zero_or_pos k with h0 | h0
      · subst h0
        have d1 : decide ((0 : Int) < ((0 : Nat) : Int)) = false := by rfl
        simp only [Nat.zero_mul, Nat.add_zero] at q0 q1 q2 q3 q4 q5 q6 q7
        clear hbr hc HH hf ha HR HOK
        go_wp2
        refine wp_region_kin' wr.heap.size (by kernel_rfl) (by kernel_rfl) (fun kk => ?_)
        repeat (first
          | go_big_quiet_step ((go_at_call 35; exact kin_of (Nat.le_refl _) (HF.out _)))
          | quiet_step ((go_at_call 35; exact kin_of (Nat.le_refl _) (HF.out _))))
        refine wpQuiet_nil ?_
        rintro _ ⟨⟨wk, hwk⟩, rfl⟩
        go_wp2
        go_roundw
        case rel => exact ⟨0 + 1, by omega, by go_num, HBR.out.trans (hwk.mono hbs)⟩
        case measure => simp [intOf]; omega
      · obtain ⟨j, rfl⟩ : ∃ j, k = j + 1 := ⟨k - 1, by omega⟩
        obtain ⟨b, hb⟩ : ∃ b, l[j]? = some b := ⟨_, List.getElem?_eq_getElem (by have := HLL.out; omega)⟩
        have hid := HR.out j b a hb ha
        have q9 : wr.cell? ⟨g, off + j * 8, none⟩ = some (.int .i64 b.id) := by exact (hbr.cell (p := ⟨g, off + (j * 8 + 0), none⟩) (by show g < _; omega)).trans (hc _ _ ((entsV_at hb 0 (by decide)).trans rfl))
        have d1 : decide ((0 : Int) < ((j + 1 : Nat) : Int)) = true := decide_eq_true (by omega)
        have d2 : decide (a.id ≤ b.id) = false := decide_eq_false (by omega)
        clear hbr hc HH hf ha hb HR HOK
        go_wp2
        refine wp_region_kin' wr.heap.size (by kernel_rfl) (by kernel_rfl) (fun kk => ?_)
        repeat (first
          | go_big_quiet_step ((go_at_call 35; exact kin_of (Nat.le_refl _) (HF.out _)))
          | quiet_step ((go_at_call 35; exact kin_of (Nat.le_refl _) (HF.out _))))
        refine wpQuiet_nil ?_
        rintro _ ⟨⟨wk, hwk⟩, rfl⟩
        go_wp2
        go_roundw
        case rel => exact ⟨j + 1 + 1, by omega, by go_num, HBR.out.trans (hwk.mono hbs)⟩
        case measure => simp [intOf]; omega
    · go_wp2
      go_ret
      exact ⟨rfl, hbr⟩
end Go.Proofs.Ythkgeeonhppliaa
