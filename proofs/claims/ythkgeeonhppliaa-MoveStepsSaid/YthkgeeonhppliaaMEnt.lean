/- The reference's form of an entity, both ways. -/
import Derived.Test.YthkgeeonhppliaaMRef
import Derived.Test.YthkgeeonhppliaaWRef10
import Derived.Deep.DeepCutAuto
set_option linter.unusedSimpArgs false
set_option linter.unusedVariables false
namespace Go.Proofs.Ythkgeeonhppliaa
open Go.RowKit
def plB (e : EntV) : Bool := decide (e.kind = 1 ∧ (1 ≤ e.id ∧ e.id ≤ 8) ∧ ((0 < e.health ∧ e.wait = 0) ∨ (e.health = 0 ∧ 0 < e.wait)))
def baB (e : EntV) : Bool := decide (e.kind = 2 ∧ (9 ≤ e.id ∧ e.id ≤ 16) ∧ e.health = 100 ∧ e.wait = 0)
theorem entOk_ref (e : EntV) : entOk e = ((plB e || baB e) && vecOk e.at_ && decide (-65536 ≤ e.vel.x ∧ e.vel.x ≤ 65536) && decide (-65536 ≤ e.vel.y ∧ e.vel.y ≤ 65536) && decide (0 ≤ e.health ∧ e.health ≤ 100) && decide (0 ≤ e.wait ∧ e.wait ≤ 20)) := by
  rw [Bool.eq_iff_iff]
  unfold entOk kindOk slowOk restOk plB baB
  simp only [Bool.and_eq_true, Bool.or_eq_true, decide_eq_true_eq]
  constructor
  · rintro ⟨⟨⟨⟨a, b⟩, c⟩, d⟩, f⟩
    exact ⟨⟨⟨⟨⟨by omega, b⟩, c⟩, d⟩, by omega⟩, by omega⟩
  · rintro ⟨⟨⟨⟨⟨a, b⟩, c⟩, d⟩, f⟩, g⟩
    exact ⟨⟨⟨⟨by omega, b⟩, c⟩, d⟩, by omega⟩
set_option maxRecDepth 100000 in
set_option maxHeartbeats 8000000 in
theorem rFormedE (e : EntV) (w : World) : Calls Try.prog 35 #[(.agg #[.int .i64 e.id, .int .i64 e.kind, .int .i64 e.at_.x, .int .i64 e.at_.y, .int .i64 e.vel.x, .int .i64 e.vel.y, .int .i64 e.health, .int .i64 e.wait])] w fun r w' => r = .returned (.bool (entOk e)) ∧ Below w.heap.size w w' := by
  have HER := Lib.hid (entOk_ref e)
  have HBX := Lib.hid (Blk.new w 30 #[.int .i64 e.id, .int .i64 e.kind, .int .i64 e.at_.x, .int .i64 e.at_.y, .int .i64 e.vel.x, .int .i64 e.vel.y, .int .i64 e.health, .int .i64 e.wait])
  have hb1 := fun W => rBetween e.id 1 8 W
  have hb2 := fun W => rBetween e.id 9 16 W
  obtain ⟨i1, hi1⟩ : ∃ i, decide (1 ≤ e.id ∧ e.id ≤ 8) = i := ⟨_, rfl⟩
  obtain ⟨i2, hi2⟩ : ∃ i, decide (9 ≤ e.id ∧ e.id ≤ 16) = i := ⟨_, rfl⟩
  obtain ⟨d1, h1⟩ : ∃ d, (e.kind == 1) = d := ⟨_, rfl⟩
  obtain ⟨d2, h2⟩ : ∃ d, (e.kind == 2) = d := ⟨_, rfl⟩
  obtain ⟨d3, h3⟩ : ∃ d, decide (0 < e.health) = d := ⟨_, rfl⟩
  obtain ⟨d4, h4⟩ : ∃ d, (e.wait == 0) = d := ⟨_, rfl⟩
  obtain ⟨d5, h5⟩ : ∃ d, (e.health == 0) = d := ⟨_, rfl⟩
  obtain ⟨d6, h6⟩ : ∃ d, decide (0 < e.wait) = d := ⟨_, rfl⟩
  obtain ⟨d7, h7⟩ : ∃ d, (e.health == 100) = d := ⟨_, rfl⟩
  have hp : plB e = (d1 && (i1 && (d3 && d4 || d5 && d6))) := by
    rw [← hi1, ← h1, ← h3, ← h4, ← h5, ← h6]; unfold plB; rw [Bool.eq_iff_iff]; simp only [Bool.and_eq_true, Bool.or_eq_true, decide_eq_true_eq, beq_iff_eq]
  have hq : baB e = (d2 && (i2 && (d7 && d4))) := by
    rw [← hi2, ← h2, ← h4, ← h7]; unfold baB; rw [Bool.eq_iff_iff]; simp only [Bool.and_eq_true, Bool.or_eq_true, decide_eq_true_eq, beq_iff_eq]
  simp only [hi1] at hb1
  simp only [hi2] at hb2
  have HP := Lib.hid hp
  have HQ := Lib.hid hq
  have HB1 := Lib.hid hb1
  have HB2 := Lib.hid hb2
  clear hi1 hi2 hp hq hb1 hb2
  go_enter Try.func35, Try.ntmps35
  go_upto_region 1 with (fail)
  go_cut [3] (fun v wx => v = .bool (plB e) ∧ Blk wx w.heap.size 30 #[.int .i64 e.id, .int .i64 e.kind, .int .i64 e.at_.x, .int .i64 e.at_.y, .int .i64 e.vel.x, .int .i64 e.vel.y, .int .i64 e.health, .int .i64 e.wait] ∧ Below w.heap.size w wx)
  case first =>
    go_wp2_with (go_at_call 64; refine (HB1.out _).mono ?_; rintro r w1 ⟨rfl, rfl⟩)
    all_goals go_meet
    all_goals
      refine ⟨?_, HBX.out, (by repeat (first | with_reducible exact Below.refl _ _ | with_reducible assumption | with_reducible refine Below.drew ?_ | with_reducible refine below_drews ?_ _ | with_reducible refine Below.alloc ?_ (by first | omega | (simp; done) | (simp; omega)) _ | with_reducible refine Below.setCell ?_ (by first | omega | (simp; done) | (simp; omega)) _))⟩
      rw [HP.out]
      try (simp_all; done)
      try (simp_all; omega)
  case rest =>
    obtain ⟨rfl, b1, b2⟩ := hcut
    obtain ⟨wo, hwo⟩ : ∃ wo : World, wo = wc := ⟨_, rfl⟩
    subst hwo
    obtain ⟨pl, hpl⟩ : ∃ p, plB e = p := ⟨_, rfl⟩
    rw [hpl]
    have HPL := Lib.hid hpl
    have HX1 := Lib.hid b1
    have HX2 := Lib.hid b2
    have x0 : wo.cell? ⟨w.heap.size, 0, none⟩ = some (.int .i64 e.id) := b1.cell 0
    have x1 : wo.cell? ⟨w.heap.size, 1, none⟩ = some (.int .i64 e.kind) := b1.cell 1
    have x4 : wo.cell? ⟨w.heap.size, 6, none⟩ = some (.int .i64 e.health) := b1.cell 6
    have x5 : wo.cell? ⟨w.heap.size, 7, none⟩ = some (.int .i64 e.wait) := b1.cell 7
    clear hpl b1 b2
    go_upto_region 2 with (fail)
    go_cut [4] (fun v wx => v = .bool (baB e) ∧ Blk wx w.heap.size 30 #[.int .i64 e.id, .int .i64 e.kind, .int .i64 e.at_.x, .int .i64 e.at_.y, .int .i64 e.vel.x, .int .i64 e.vel.y, .int .i64 e.health, .int .i64 e.wait] ∧ Below w.heap.size w wx)
    case first =>
      go_wp2_with (go_at_call 64; refine (HB2.out _).mono ?_; rintro r w1 ⟨rfl, rfl⟩)
      all_goals go_meet
      all_goals
        refine ⟨?_, HX1.out, HX2.out⟩
        rw [HQ.out]
        try (simp_all; done)
        try (simp_all; omega)
    case rest =>
      obtain ⟨rfl, b1, b2⟩ := hcut
      obtain ⟨ba, hba⟩ : ∃ p, baB e = p := ⟨_, rfl⟩
      rw [hba]
      have HBA := Lib.hid hba
      have hs2 := b2.size
      have lb := b1.lt
      have HX3 := Lib.hid b1
      have HX4 := Lib.hid b2
      have y2 : wc.cell? ⟨w.heap.size, 2, none⟩ = some (.int .i64 e.at_.x) := b1.cell 2
      have y3 : wc.cell? ⟨w.heap.size, 3, none⟩ = some (.int .i64 e.at_.y) := b1.cell 3
      have y4 : wc.cell? ⟨w.heap.size, 4, none⟩ = some (.int .i64 e.vel.x) := b1.cell 4
      have y5 : wc.cell? ⟨w.heap.size, 5, none⟩ = some (.int .i64 e.vel.y) := b1.cell 5
      have y6 : wc.cell? ⟨w.heap.size, 6, none⟩ = some (.int .i64 e.health) := b1.cell 6
      have y7 : wc.cell? ⟨w.heap.size, 7, none⟩ = some (.int .i64 e.wait) := b1.cell 7
      clear hba b1 b2 x0 x1 x4 x5 h1 h2 h3 h4 h5 h6 h7
      have k1 := fun W => rBetween e.vel.x (-65536) 65536 W
      have k2 := fun W => rBetween e.vel.y (-65536) 65536 W
      have k3 := fun W => rBetween e.health 0 100 W
      have k4 := fun W => rBetween e.wait 0 20 W
      have k5 := fun W => rVecFormedB e.at_ W
      obtain ⟨s1, hs1⟩ : ∃ i, decide (-65536 ≤ e.vel.x ∧ e.vel.x ≤ 65536) = i := ⟨_, rfl⟩
      obtain ⟨s2, hs2'⟩ : ∃ i, decide (-65536 ≤ e.vel.y ∧ e.vel.y ≤ 65536) = i := ⟨_, rfl⟩
      obtain ⟨s3, hs3⟩ : ∃ i, decide (0 ≤ e.health ∧ e.health ≤ 100) = i := ⟨_, rfl⟩
      obtain ⟨s4, hs4⟩ : ∃ i, decide (0 ≤ e.wait ∧ e.wait ≤ 20) = i := ⟨_, rfl⟩
      obtain ⟨s5, hs5⟩ : ∃ i, vecOk e.at_ = i := ⟨_, rfl⟩
      simp only [hs1] at k1
      simp only [hs2'] at k2
      simp only [hs3] at k3
      simp only [hs4] at k4
      simp only [hs5] at k5
      have hfin : entOk e = ((pl || ba) && s5 && s1 && s2 && s3 && s4) := by rw [HER.out, HPL.out, HBA.out, hs1, hs2', hs3, hs4, hs5]
      have HFIN := Lib.hid hfin
      have K1 := Lib.hid k1
      have K2 := Lib.hid k2
      have K3 := Lib.hid k3
      have K4 := Lib.hid k4
      have K5 := Lib.hid k5
      clear hs1 hs2' hs3 hs4 hs5 hfin k1 k2 k3 k4 k5
      have hres : ∀ q : Bool, q = ((pl || ba) && s5 && s1 && s2 && s3 && s4) → Ending.returned (.bool q) = .returned (.bool (entOk e)) := fun q hq => by rw [HFIN.out, hq]
      have HRES := Lib.hid hres
      clear hres
      cases s5
      rotate_left
      cases s1
      rotate_left
      cases s2
      rotate_left
      cases s3
      rotate_left
      cases s4
      all_goals
        cases pl <;> cases ba
        all_goals
          go_wp2_with (first
            | (go_at_call 64; first | (with_reducible refine (K1.out _).mono ?_; rintro r w1 ⟨rfl, rfl⟩) | (with_reducible refine (K2.out _).mono ?_; rintro r w1 ⟨rfl, rfl⟩) | (with_reducible refine (K3.out _).mono ?_; rintro r w1 ⟨rfl, rfl⟩) | (with_reducible refine (K4.out _).mono ?_; rintro r w1 ⟨rfl, rfl⟩))
            | (go_at_call 65; refine (K5.out _).mono ?_; rintro r w1 ⟨rfl, hb1⟩; have Bw := HX4.out.trans (hb1.mono hs2); have b1 := HX3.out.below hb1 lb; have y4 : w1.cell? ⟨w.heap.size, 4, none⟩ = some (.int .i64 e.vel.x) := b1.cell 4; have y5 : w1.cell? ⟨w.heap.size, 5, none⟩ = some (.int .i64 e.vel.y) := b1.cell 5; have y6 : w1.cell? ⟨w.heap.size, 6, none⟩ = some (.int .i64 e.health) := b1.cell 6; have y7 : w1.cell? ⟨w.heap.size, 7, none⟩ = some (.int .i64 e.wait) := b1.cell 7; clear hb1 b1))
          go_ret
          exact ⟨HRES.out _ (by rfl), by first | exact Bw | exact HX4.out⟩
end Go.Proofs.Ythkgeeonhppliaa
