/- The walks of move.Walk and move.Roll. -/
import Derived.Test.YtojbijapdkohlaaGreatDoorMove
set_option linter.unusedSimpArgs false
set_option linter.unusedVariables false
namespace Go.Proofs.YtojbijapdkohlaaGreatDoor
open Go.RowKit
def walkNo (e : EntV) (mx my : Int) : Prop := entOk e = false ∨ e.kind ≠ 1 ∨ e.health = 0 ∨ mx = -128 ∨ my = -128
set_option maxRecDepth 100000 in
set_option maxHeartbeats 4000000 in
theorem mWalkNo (m : MapV) (s : MapS) (e : EntV) (mx my : Int) (w : World) (hno : walkNo e mx my) :
    Calls Tryz.prog 84 #[(.agg #[.int .i64 m.W, .int .i64 m.H, .slice s.A s.n s.c, .slice s.A2 s.n2 s.c2]), (.agg #[.int .i64 e.id, .int .i64 e.kind, .int .i64 e.at_.x, .int .i64 e.at_.y, .int .i64 e.vel.x, .int .i64 e.vel.y, .int .i64 e.health, .int .i64 e.wait]), .int .i8 mx, .int .i8 my] w fun r w' => r = .returned (.agg #[.int .i64 e.id, .int .i64 e.kind, .int .i64 e.at_.x, .int .i64 e.at_.y, .int .i64 e.vel.x, .int .i64 e.vel.y, .int .i64 e.health, .int .i64 e.wait]) ∧ Below w.heap.size w w' := by
  unfold walkNo at hno
  cases e1 : entOk e
  rotate_left
  · have hno' : e.kind ≠ 1 ∨ e.health = 0 ∨ mx = -128 ∨ my = -128 := by
      rcases hno with h1 | h1
      · rw [e1] at h1; cases h1
      · exact h1
    clear hno
    have hE := fun W => entFormed e W
    simp only [e1] at hE
    have HNO := Lib.hid hno'
    clear hno' e1
    by_cases k1 : e.kind = 1
    · have k1' : (e.kind != 1) = false := by rw [k1]; rfl
      have HN := Lib.hid k1
      clear k1
      by_cases k2 : e.health = 0
      · have k2' : (e.health == 0) = true := by rw [k2]; rfl
        have HN2 := Lib.hid k2
        clear k2
        go_enter Tryz.func84, Tryz.ntmps84
        go_wp2_with (go_at_call 150; refine (hE _).mono ?_; rintro r w1 ⟨rfl, hb1⟩; obtain ⟨hc1, hf1⟩ := bcell hb1; have hs1 := hb1.size; (try simp at hs1); have l1 : w.heap.size < w1.heap.size := (by omega); have l2 : w.heap.size + 1 < w1.heap.size := (by omega); have l3 : w.heap.size + 1 + 1 < w1.heap.size := (by omega); have B1 : Below w.heap.size w w1 := Below.trans (by repeat (first | with_reducible exact Below.refl _ _ | with_reducible assumption | with_reducible refine Below.drew ?_ | with_reducible refine below_drews ?_ _ | with_reducible refine Below.alloc ?_ (by first | omega | (simp; done) | (simp; omega)) _ | with_reducible refine Below.setCell ?_ (by first | omega | (simp; done) | (simp; omega)) _)) (hb1.mono (by (try simp) <;> omega)))
        exact bodyPost_ret (v := (.agg #[.int .i64 e.id, .int .i64 e.kind, .int .i64 e.at_.x, .int .i64 e.at_.y, .int .i64 e.vel.x, .int .i64 e.vel.y, .int .i64 e.health, .int .i64 e.wait])) (by simp [results, Tryz.results84, go_sem, hc1, hf1, l1, l2, l3]) rfl ⟨rfl, (by repeat (first | with_reducible exact Below.refl _ _ | with_reducible assumption | with_reducible refine Below.drew ?_ | with_reducible refine below_drews ?_ _ | with_reducible refine Below.alloc ?_ (by first | omega | (simp; done) | (simp; omega)) _ | with_reducible refine Below.setCell ?_ (by first | omega | (simp; done) | (simp; omega)) _))⟩
      · have k2' : (e.health == 0) = false := beq_eq_false_iff_ne.2 k2
        by_cases k3 : mx = -128
        · have k3' : (mx == -128) = true := by rw [k3]; rfl
          have HN3 := Lib.hid k3
          clear k3 k2
          go_enter Tryz.func84, Tryz.ntmps84
          go_wp2_with (go_at_call 150; refine (hE _).mono ?_; rintro r w1 ⟨rfl, hb1⟩; obtain ⟨hc1, hf1⟩ := bcell hb1; have hs1 := hb1.size; (try simp at hs1); have l1 : w.heap.size < w1.heap.size := (by omega); have l2 : w.heap.size + 1 < w1.heap.size := (by omega); have l3 : w.heap.size + 1 + 1 < w1.heap.size := (by omega); have B1 : Below w.heap.size w w1 := Below.trans (by repeat (first | with_reducible exact Below.refl _ _ | with_reducible assumption | with_reducible refine Below.drew ?_ | with_reducible refine below_drews ?_ _ | with_reducible refine Below.alloc ?_ (by first | omega | (simp; done) | (simp; omega)) _ | with_reducible refine Below.setCell ?_ (by first | omega | (simp; done) | (simp; omega)) _)) (hb1.mono (by (try simp) <;> omega)))
          exact bodyPost_ret (v := (.agg #[.int .i64 e.id, .int .i64 e.kind, .int .i64 e.at_.x, .int .i64 e.at_.y, .int .i64 e.vel.x, .int .i64 e.vel.y, .int .i64 e.health, .int .i64 e.wait])) (by simp [results, Tryz.results84, go_sem, hc1, hf1, l1, l2, l3]) rfl ⟨rfl, (by repeat (first | with_reducible exact Below.refl _ _ | with_reducible assumption | with_reducible refine Below.drew ?_ | with_reducible refine below_drews ?_ _ | with_reducible refine Below.alloc ?_ (by first | omega | (simp; done) | (simp; omega)) _ | with_reducible refine Below.setCell ?_ (by first | omega | (simp; done) | (simp; omega)) _))⟩
        · have k3' : (mx == -128) = false := beq_eq_false_iff_ne.2 k3
          have k4 : my = -128 := by
            rcases HNO.out with h | h | h | h
            · exact absurd HN.out h
            · exact absurd h k2
            · exact absurd h k3
            · exact h
          have k4' : (my == -128) = true := by rw [k4]; rfl
          have HN4 := Lib.hid k4
          clear k4 k3 k2
          go_enter Tryz.func84, Tryz.ntmps84
          go_wp2_with (go_at_call 150; refine (hE _).mono ?_; rintro r w1 ⟨rfl, hb1⟩; obtain ⟨hc1, hf1⟩ := bcell hb1; have hs1 := hb1.size; (try simp at hs1); have l1 : w.heap.size < w1.heap.size := (by omega); have l2 : w.heap.size + 1 < w1.heap.size := (by omega); have l3 : w.heap.size + 1 + 1 < w1.heap.size := (by omega); have B1 : Below w.heap.size w w1 := Below.trans (by repeat (first | with_reducible exact Below.refl _ _ | with_reducible assumption | with_reducible refine Below.drew ?_ | with_reducible refine below_drews ?_ _ | with_reducible refine Below.alloc ?_ (by first | omega | (simp; done) | (simp; omega)) _ | with_reducible refine Below.setCell ?_ (by first | omega | (simp; done) | (simp; omega)) _)) (hb1.mono (by (try simp) <;> omega)))
          exact bodyPost_ret (v := (.agg #[.int .i64 e.id, .int .i64 e.kind, .int .i64 e.at_.x, .int .i64 e.at_.y, .int .i64 e.vel.x, .int .i64 e.vel.y, .int .i64 e.health, .int .i64 e.wait])) (by simp [results, Tryz.results84, go_sem, hc1, hf1, l1, l2, l3]) rfl ⟨rfl, (by repeat (first | with_reducible exact Below.refl _ _ | with_reducible assumption | with_reducible refine Below.drew ?_ | with_reducible refine below_drews ?_ _ | with_reducible refine Below.alloc ?_ (by first | omega | (simp; done) | (simp; omega)) _ | with_reducible refine Below.setCell ?_ (by first | omega | (simp; done) | (simp; omega)) _))⟩
    · have k1' : (e.kind != 1) = true := bne_iff_ne.2 k1
      clear k1
      go_enter Tryz.func84, Tryz.ntmps84
      go_wp2_with (go_at_call 150; refine (hE _).mono ?_; rintro r w1 ⟨rfl, hb1⟩; obtain ⟨hc1, hf1⟩ := bcell hb1; have hs1 := hb1.size; (try simp at hs1); have l1 : w.heap.size < w1.heap.size := (by omega); have l2 : w.heap.size + 1 < w1.heap.size := (by omega); have l3 : w.heap.size + 1 + 1 < w1.heap.size := (by omega); have B1 : Below w.heap.size w w1 := Below.trans (by repeat (first | with_reducible exact Below.refl _ _ | with_reducible assumption | with_reducible refine Below.drew ?_ | with_reducible refine below_drews ?_ _ | with_reducible refine Below.alloc ?_ (by first | omega | (simp; done) | (simp; omega)) _ | with_reducible refine Below.setCell ?_ (by first | omega | (simp; done) | (simp; omega)) _)) (hb1.mono (by (try simp) <;> omega)))
      exact bodyPost_ret (v := (.agg #[.int .i64 e.id, .int .i64 e.kind, .int .i64 e.at_.x, .int .i64 e.at_.y, .int .i64 e.vel.x, .int .i64 e.vel.y, .int .i64 e.health, .int .i64 e.wait])) (by simp [results, Tryz.results84, go_sem, hc1, hf1, l1, l2, l3]) rfl ⟨rfl, (by repeat (first | with_reducible exact Below.refl _ _ | with_reducible assumption | with_reducible refine Below.drew ?_ | with_reducible refine below_drews ?_ _ | with_reducible refine Below.alloc ?_ (by first | omega | (simp; done) | (simp; omega)) _ | with_reducible refine Below.setCell ?_ (by first | omega | (simp; done) | (simp; omega)) _))⟩
  · have hE := fun W => entFormed e W
    simp only [e1] at hE
    clear hno e1
    go_enter Tryz.func84, Tryz.ntmps84
    go_wp2_with (go_at_call 150; refine (hE _).mono ?_; rintro r w1 ⟨rfl, hb1⟩; obtain ⟨hc1, hf1⟩ := bcell hb1; have hs1 := hb1.size; (try simp at hs1); have l1 : w.heap.size < w1.heap.size := (by omega); have l2 : w.heap.size + 1 < w1.heap.size := (by omega); have l3 : w.heap.size + 1 + 1 < w1.heap.size := (by omega); have B1 : Below w.heap.size w w1 := Below.trans (by repeat (first | with_reducible exact Below.refl _ _ | with_reducible assumption | with_reducible refine Below.drew ?_ | with_reducible refine below_drews ?_ _ | with_reducible refine Below.alloc ?_ (by first | omega | (simp; done) | (simp; omega)) _ | with_reducible refine Below.setCell ?_ (by first | omega | (simp; done) | (simp; omega)) _)) (hb1.mono (by (try simp) <;> omega)))
    exact bodyPost_ret (v := (.agg #[.int .i64 e.id, .int .i64 e.kind, .int .i64 e.at_.x, .int .i64 e.at_.y, .int .i64 e.vel.x, .int .i64 e.vel.y, .int .i64 e.health, .int .i64 e.wait])) (by simp [results, Tryz.results84, go_sem, hc1, hf1, l1, l2, l3]) rfl ⟨rfl, (by repeat (first | with_reducible exact Below.refl _ _ | with_reducible assumption | with_reducible refine Below.drew ?_ | with_reducible refine below_drews ?_ _ | with_reducible refine Below.alloc ?_ (by first | omega | (simp; done) | (simp; omega)) _ | with_reducible refine Below.setCell ?_ (by first | omega | (simp; done) | (simp; omega)) _))⟩
theorem ccell {W w1 : World} {be : Nat} (hc : Chg (fun g => g = be) W w1) : (∀ b o, b < W.heap.size → b ≠ be → w1.cell? ⟨b, o, none⟩ = W.cell? ⟨b, o, none⟩) ∧ (∀ b o, b < W.heap.size → b ≠ be → w1.frozen? ⟨b, o, none⟩ = W.frozen? ⟨b, o, none⟩) :=
  ⟨fun b o h hn => World.cell?_of_block (a := ⟨b, o, none⟩) (hc.block b h hn), fun b o h hn => World.frozen?_of_block (a := ⟨b, o, none⟩) (hc.block b h hn)⟩
theorem entOk_le {e : EntV} (h : entOk e = true) : -134217728 ≤ e.at_.x ∧ e.at_.x ≤ 134217728 ∧ -134217728 ≤ e.at_.y ∧ e.at_.y ≤ 134217728 ∧ -65536 ≤ e.vel.x ∧ e.vel.x ≤ 65536 ∧ -65536 ≤ e.vel.y ∧ e.vel.y ≤ 65536 := by
  unfold entOk vecOk slowOk at h
  simp only [Bool.and_eq_true, decide_eq_true_eq] at h
  omega
set_option maxRecDepth 100000 in
set_option maxHeartbeats 4000000 in
theorem mWalkYes (m : MapV) (s : MapS) (e : EntV) (mx my : Int) (w : World) (h : MapAt w w.heap.size m s) (e1 : entOk e = true) (k1 : e.kind = 1) (k2 : e.health ≠ 0) (x0 : -127 ≤ mx) (x1 : mx ≤ 127) (y0 : -127 ≤ my) (y1 : my ≤ 127) :
    Calls Tryz.prog 84 #[(.agg #[.int .i64 m.W, .int .i64 m.H, .slice s.A s.n s.c, .slice s.A2 s.n2 s.c2]), (.agg #[.int .i64 e.id, .int .i64 e.kind, .int .i64 e.at_.x, .int .i64 e.at_.y, .int .i64 e.vel.x, .int .i64 e.vel.y, .int .i64 e.health, .int .i64 e.wait]), .int .i8 mx, .int .i8 my] w fun r w' => r = .returned (.agg #[.int .i64 (stepped m ⟨e.id, e.kind, e.at_, ⟨partF mx, partF my⟩, e.health, e.wait⟩).1.id, .int .i64 (stepped m ⟨e.id, e.kind, e.at_, ⟨partF mx, partF my⟩, e.health, e.wait⟩).1.kind, .int .i64 (stepped m ⟨e.id, e.kind, e.at_, ⟨partF mx, partF my⟩, e.health, e.wait⟩).1.at_.x, .int .i64 (stepped m ⟨e.id, e.kind, e.at_, ⟨partF mx, partF my⟩, e.health, e.wait⟩).1.at_.y, .int .i64 (stepped m ⟨e.id, e.kind, e.at_, ⟨partF mx, partF my⟩, e.health, e.wait⟩).1.vel.x, .int .i64 (stepped m ⟨e.id, e.kind, e.at_, ⟨partF mx, partF my⟩, e.health, e.wait⟩).1.vel.y, .int .i64 (stepped m ⟨e.id, e.kind, e.at_, ⟨partF mx, partF my⟩, e.health, e.wait⟩).1.health, .int .i64 (stepped m ⟨e.id, e.kind, e.at_, ⟨partF mx, partF my⟩, e.health, e.wait⟩).1.wait]) ∧ Below w.heap.size w w' := by
  obtain ⟨a1, a2, a3, a4, -⟩ := entOk_le e1
  obtain ⟨v1, v2⟩ := partF_le mx x0 x1
  obtain ⟨v3, v4⟩ := partF_le my y0 y1
  have hE := fun W => entFormed e W
  simp only [e1] at hE
  have hP := fun W => movePart mx (by omega) (by omega) W
  have hQ := fun W => movePart my (by omega) (by omega) W
  obtain ⟨vx, hvx⟩ : ∃ vx, partF mx = vx := ⟨_, rfl⟩
  obtain ⟨vy, hvy⟩ : ∃ vy, partF my = vy := ⟨_, rfl⟩
  simp only [hvx] at hP
  simp only [hvy] at hQ
  rw [hvx] at v1 v2 ⊢
  rw [hvy] at v3 v4 ⊢
  have k1' : (e.kind != 1) = false := by rw [k1]; rfl
  have k2' : (e.health == 0) = false := beq_eq_false_iff_ne.2 k2
  have k3' : (mx == -128) = false := beq_eq_false_iff_ne.2 (by omega)
  have k4' : (my == -128) = false := beq_eq_false_iff_ne.2 (by omega)
  have HM := Lib.hid h
  have HS := fun W hM hB => mStep m s w.heap.size (w.heap.size + 1) ⟨e.id, e.kind, e.at_, ⟨vx, vy⟩, e.health, e.wait⟩ W hM (by omega) hB a1 a2 a3 a4 (by simp only; omega) (by simp only; omega) (by simp only; omega) (by simp only; omega)
  obtain ⟨S, hS⟩ : ∃ S, stepped m ⟨e.id, e.kind, e.at_, ⟨vx, vy⟩, e.health, e.wait⟩ = S := ⟨_, rfl⟩
  simp only [hS] at HS
  rw [hS]
  have HS' := Lib.hid HS
  have hbk0 : ∀ M R, Blk (((w.alloc M).alloc (.cells #[.int .i64 e.id, .int .i64 e.kind, .int .i64 e.at_.x, .int .i64 e.at_.y, .int .i64 e.vel.x, .int .i64 e.vel.y, .int .i64 e.health, .int .i64 e.wait] 55)).alloc R) (w.heap.size + 1) 55 #[.int .i64 e.id, .int .i64 e.kind, .int .i64 e.at_.x, .int .i64 e.at_.y, .int .i64 e.vel.x, .int .i64 e.vel.y, .int .i64 e.health, .int .i64 e.wait] := fun M R => by
    have := (Blk.new (w.alloc M) 55 #[.int .i64 e.id, .int .i64 e.kind, .int .i64 e.at_.x, .int .i64 e.at_.y, .int .i64 e.vel.x, .int .i64 e.vel.y, .int .i64 e.health, .int .i64 e.wait]).alloc R
    simpa using this
  have HBK := Lib.hid hbk0
  clear hbk0
  clear h k1 k2 e1 hvx hvy hS HS
  go_enter Tryz.func84, Tryz.ntmps84
  go_wp2_with (first
    | (go_at_call 150; refine (hE _).mono ?_; rintro r w1 ⟨rfl, hb1⟩; have hs1 := hb1.size; (try simp at hs1); have l1 : w.heap.size < w1.heap.size := (by omega); have l2 : w.heap.size + 1 < w1.heap.size := (by omega); have l3 : w.heap.size + 1 + 1 < w1.heap.size := (by omega); have B1 : Below w.heap.size w w1 := Below.trans (by repeat (first | with_reducible exact Below.refl _ _ | with_reducible assumption | with_reducible refine Below.drew ?_ | with_reducible refine below_drews ?_ _ | with_reducible refine Below.alloc ?_ (by first | omega | (simp; done) | (simp; omega)) _ | with_reducible refine Below.setCell ?_ (by first | omega | (simp; done) | (simp; omega)) _)) (hb1.mono (by (try simp) <;> omega)); have hbk : Blk w1 (w.heap.size + 1) 55 #[.int .i64 e.id, .int .i64 e.kind, .int .i64 e.at_.x, .int .i64 e.at_.y, .int .i64 e.vel.x, .int .i64 e.vel.y, .int .i64 e.health, .int .i64 e.wait] := Blk.below (HBK.out _ _) hb1 (by simp); obtain ⟨hc1, hf1⟩ := bcell hb1)
    | (go_at_call 151; (first | with_reducible refine (hP _).mono ?_ | with_reducible refine (hQ _).mono ?_); rintro r w9 ⟨rfl, rfl⟩))
  have hbk2 : Blk ((w1.setCell ⟨w.heap.size + 1, 4, none⟩ (.int .i64 vx)).setCell ⟨w.heap.size + 1, 5, none⟩ (.int .i64 vy)) (w.heap.size + 1) 55 #[.int .i64 e.id, .int .i64 e.kind, .int .i64 e.at_.x, .int .i64 e.at_.y, .int .i64 vx, .int .i64 vy, .int .i64 e.health, .int .i64 e.wait] := by
    have := (hbk.set_ 4 (.int .i64 vx)).set_ 5 (.int .i64 vy)
    simpa using this
  have B2 : Below w.heap.size w ((w1.setCell ⟨w.heap.size + 1, 4, none⟩ (.int .i64 vx)).setCell ⟨w.heap.size + 1, 5, none⟩ (.int .i64 vy)) := (by repeat (first | with_reducible exact Below.refl _ _ | with_reducible assumption | with_reducible refine Below.drew ?_ | with_reducible refine below_drews ?_ _ | with_reducible refine Below.alloc ?_ (by first | omega | (simp; done) | (simp; omega)) _ | with_reducible refine Below.setCell ?_ (by first | omega | (simp; done) | (simp; omega)) _))
  refine (HS'.out _ (HM.out.below B2) hbk2).mono ?_
  rintro r w2 ⟨rfl, hb2, hc2⟩
  have u0 : w2.cell? ⟨w.heap.size + 1, 0, none⟩ = some (.int .i64 S.1.id) := hb2.cell 0
  have u1 : w2.cell? ⟨w.heap.size + 1, 1, none⟩ = some (.int .i64 S.1.kind) := hb2.cell 1
  have u2 : w2.cell? ⟨w.heap.size + 1, 2, none⟩ = some (.int .i64 S.1.at_.x) := hb2.cell 2
  have u3 : w2.cell? ⟨w.heap.size + 1, 3, none⟩ = some (.int .i64 S.1.at_.y) := hb2.cell 3
  have u4 : w2.cell? ⟨w.heap.size + 1, 4, none⟩ = some (.int .i64 S.1.vel.x) := hb2.cell 4
  have u5 : w2.cell? ⟨w.heap.size + 1, 5, none⟩ = some (.int .i64 S.1.vel.y) := hb2.cell 5
  have u6 : w2.cell? ⟨w.heap.size + 1, 6, none⟩ = some (.int .i64 S.1.health) := hb2.cell 6
  have u7 : w2.cell? ⟨w.heap.size + 1, 7, none⟩ = some (.int .i64 S.1.wait) := hb2.cell 7
  obtain ⟨cc, cf⟩ := ccell hc2
  have hs2 := hc2.size
  simp at hs2
  have l4 : w.heap.size + 1 < w2.heap.size := by omega
  have l5 : w.heap.size + 1 + 1 < w2.heap.size := by omega
  have B3 : Below w.heap.size w w2 := B2.trans (hc2.to_below B2.size (fun g hg => by omega))
  clear hb2 hc2 hbk2 hbk
  go_wp2
  exact bodyPost_ret (v := (.agg #[.int .i64 S.1.id, .int .i64 S.1.kind, .int .i64 S.1.at_.x, .int .i64 S.1.at_.y, .int .i64 S.1.vel.x, .int .i64 S.1.vel.y, .int .i64 S.1.health, .int .i64 S.1.wait])) (by simp [results, Tryz.results84, go_sem, cc, cf, hc1, hf1, l1, l2, l3, l5]) rfl ⟨rfl, (by repeat (first | with_reducible exact Below.refl _ _ | with_reducible assumption | with_reducible refine Below.drew ?_ | with_reducible refine below_drews ?_ _ | with_reducible refine Below.alloc ?_ (by first | omega | (simp; done) | (simp; omega)) _ | with_reducible refine Below.setCell ?_ (by first | omega | (simp; done) | (simp; omega)) _))⟩
theorem mWalk (m : MapV) (s : MapS) (e : EntV) (mx my : Int) (w : World) (h : MapAt w w.heap.size m s) (x0 : -128 ≤ mx) (x1 : mx ≤ 127) (y0 : -128 ≤ my) (y1 : my ≤ 127) :
    Calls Tryz.prog 84 #[(.agg #[.int .i64 m.W, .int .i64 m.H, .slice s.A s.n s.c, .slice s.A2 s.n2 s.c2]), (.agg #[.int .i64 e.id, .int .i64 e.kind, .int .i64 e.at_.x, .int .i64 e.at_.y, .int .i64 e.vel.x, .int .i64 e.vel.y, .int .i64 e.health, .int .i64 e.wait]), .int .i8 mx, .int .i8 my] w fun r w' => r = .returned (.agg #[.int .i64 (walkF m e mx my).id, .int .i64 (walkF m e mx my).kind, .int .i64 (walkF m e mx my).at_.x, .int .i64 (walkF m e mx my).at_.y, .int .i64 (walkF m e mx my).vel.x, .int .i64 (walkF m e mx my).vel.y, .int .i64 (walkF m e mx my).health, .int .i64 (walkF m e mx my).wait]) ∧ Below w.heap.size w w' := by
  by_cases hno : walkNo e mx my
  · have e1 : walkF m e mx my = e := by unfold walkF; unfold walkNo at hno; rw [if_pos hno]
    rw [e1]
    exact mWalkNo m s e mx my w hno
  · have e1 : walkF m e mx my = (stepped m ⟨e.id, e.kind, e.at_, ⟨partF mx, partF my⟩, e.health, e.wait⟩).1 := by unfold walkF; unfold walkNo at hno; rw [if_neg hno]
    rw [e1]
    unfold walkNo at hno
    have q1 : entOk e = true := by cases hh : entOk e with | true => rfl | false => exact absurd (.inl hh) hno
    have q2 : e.kind = 1 := Decidable.byContradiction fun hh => hno (.inr (.inl hh))
    have q3 : e.health ≠ 0 := fun hh => hno (.inr (.inr (.inl hh)))
    have q4 : mx ≠ -128 := fun hh => hno (.inr (.inr (.inr (.inl hh))))
    have q5 : my ≠ -128 := fun hh => hno (.inr (.inr (.inr (.inr hh))))
    exact mWalkYes m s e mx my w h q1 q2 q3 (by omega) x1 (by omega) y1
end Go.Proofs.YtojbijapdkohlaaGreatDoor
