/- The walk of move.Roll. -/
import Derived.Test.YtojbijapdkohlaaGreatDoorWalk
set_option linter.unusedSimpArgs false
set_option linter.unusedVariables false
namespace Go.Proofs.YtojbijapdkohlaaGreatDoor
open Go.RowKit
set_option maxRecDepth 100000 in
set_option maxHeartbeats 4000000 in
theorem mRollNo (m : MapV) (s : MapS) (e : EntV) (w : World) (hno : entOk e = false ∨ e.kind ≠ 2) :
    Calls Tryz.prog 169 #[(.agg #[.int .i64 m.W, .int .i64 m.H, .slice s.A s.n s.c, .slice s.A2 s.n2 s.c2]), (.agg #[.int .i64 e.id, .int .i64 e.kind, .int .i64 e.at_.x, .int .i64 e.at_.y, .int .i64 e.vel.x, .int .i64 e.vel.y, .int .i64 e.health, .int .i64 e.wait])] w fun r w' => r = .returned (.agg #[.int .i64 e.id, .int .i64 e.kind, .int .i64 e.at_.x, .int .i64 e.at_.y, .int .i64 e.vel.x, .int .i64 e.vel.y, .int .i64 e.health, .int .i64 e.wait]) ∧ Below w.heap.size w w' := by
  have hE := fun W => entFormed e W
  have hbk0 : ∀ M R, Blk (((w.alloc M).alloc (.cells #[.int .i64 e.id, .int .i64 e.kind, .int .i64 e.at_.x, .int .i64 e.at_.y, .int .i64 e.vel.x, .int .i64 e.vel.y, .int .i64 e.health, .int .i64 e.wait] 55)).alloc R) (w.heap.size + 1) 55 #[.int .i64 e.id, .int .i64 e.kind, .int .i64 e.at_.x, .int .i64 e.at_.y, .int .i64 e.vel.x, .int .i64 e.vel.y, .int .i64 e.health, .int .i64 e.wait] := fun M R => by
    have := (Blk.new (w.alloc M) 55 #[.int .i64 e.id, .int .i64 e.kind, .int .i64 e.at_.x, .int .i64 e.at_.y, .int .i64 e.vel.x, .int .i64 e.vel.y, .int .i64 e.health, .int .i64 e.wait]).alloc R
    simpa using this
  have HBK := Lib.hid hbk0
  clear hbk0
  cases e1 : entOk e
  · simp only [e1] at hE
    clear hno e1
    go_enter Tryz.func169, Tryz.ntmps169
    go_wp2_with (go_at_call 150; refine (hE _).mono ?_; rintro r w1 ⟨rfl, hb1⟩; have hs1 := hb1.size; (try simp at hs1); have l1 : w.heap.size < w1.heap.size := (by omega); have l2 : w.heap.size + 1 < w1.heap.size := (by omega); have l3 : w.heap.size + 1 + 1 < w1.heap.size := (by omega); have B1 : Below w.heap.size w w1 := Below.trans (by repeat (first | with_reducible exact Below.refl _ _ | with_reducible assumption | with_reducible refine Below.drew ?_ | with_reducible refine below_drews ?_ _ | with_reducible refine Below.alloc ?_ (by first | omega | (simp; done) | (simp; omega)) _ | with_reducible refine Below.setCell ?_ (by first | omega | (simp; done) | (simp; omega)) _)) (hb1.mono (by (try simp) <;> omega)); have hbk : Blk w1 (w.heap.size + 1) 55 #[.int .i64 e.id, .int .i64 e.kind, .int .i64 e.at_.x, .int .i64 e.at_.y, .int .i64 e.vel.x, .int .i64 e.vel.y, .int .i64 e.health, .int .i64 e.wait] := Blk.below (HBK.out _ _) hb1 (by simp); obtain ⟨hc1, hf1⟩ := bcell hb1)
    exact bodyPost_ret (v := (.agg #[.int .i64 e.id, .int .i64 e.kind, .int .i64 e.at_.x, .int .i64 e.at_.y, .int .i64 e.vel.x, .int .i64 e.vel.y, .int .i64 e.health, .int .i64 e.wait])) (by simp [results, Tryz.results169, go_sem, hc1, hf1, l1, l2, l3]) rfl ⟨rfl, (by repeat (first | with_reducible exact Below.refl _ _ | with_reducible assumption | with_reducible refine Below.drew ?_ | with_reducible refine below_drews ?_ _ | with_reducible refine Below.alloc ?_ (by first | omega | (simp; done) | (simp; omega)) _ | with_reducible refine Below.setCell ?_ (by first | omega | (simp; done) | (simp; omega)) _))⟩
  · have k1 : e.kind ≠ 2 := hno.resolve_left (by rw [e1]; simp)
    have k1' : (e.kind != 2) = true := bne_iff_ne.2 k1
    simp only [e1] at hE
    clear hno e1 k1
    go_enter Tryz.func169, Tryz.ntmps169
    go_wp2_with (go_at_call 150; refine (hE _).mono ?_; rintro r w1 ⟨rfl, hb1⟩; have hs1 := hb1.size; (try simp at hs1); have l1 : w.heap.size < w1.heap.size := (by omega); have l2 : w.heap.size + 1 < w1.heap.size := (by omega); have l3 : w.heap.size + 1 + 1 < w1.heap.size := (by omega); have B1 : Below w.heap.size w w1 := Below.trans (by repeat (first | with_reducible exact Below.refl _ _ | with_reducible assumption | with_reducible refine Below.drew ?_ | with_reducible refine below_drews ?_ _ | with_reducible refine Below.alloc ?_ (by first | omega | (simp; done) | (simp; omega)) _ | with_reducible refine Below.setCell ?_ (by first | omega | (simp; done) | (simp; omega)) _)) (hb1.mono (by (try simp) <;> omega)); have hbk : Blk w1 (w.heap.size + 1) 55 #[.int .i64 e.id, .int .i64 e.kind, .int .i64 e.at_.x, .int .i64 e.at_.y, .int .i64 e.vel.x, .int .i64 e.vel.y, .int .i64 e.health, .int .i64 e.wait] := Blk.below (HBK.out _ _) hb1 (by simp); obtain ⟨hc1, hf1⟩ := bcell hb1)
    exact bodyPost_ret (v := (.agg #[.int .i64 e.id, .int .i64 e.kind, .int .i64 e.at_.x, .int .i64 e.at_.y, .int .i64 e.vel.x, .int .i64 e.vel.y, .int .i64 e.health, .int .i64 e.wait])) (by simp [results, Tryz.results169, go_sem, hc1, hf1, l1, l2, l3]) rfl ⟨rfl, (by repeat (first | with_reducible exact Below.refl _ _ | with_reducible assumption | with_reducible refine Below.drew ?_ | with_reducible refine below_drews ?_ _ | with_reducible refine Below.alloc ?_ (by first | omega | (simp; done) | (simp; omega)) _ | with_reducible refine Below.setCell ?_ (by first | omega | (simp; done) | (simp; omega)) _))⟩
set_option maxRecDepth 100000 in
set_option maxHeartbeats 4000000 in
theorem mRollYes (m : MapV) (s : MapS) (e : EntV) (w : World) (h : MapAt w w.heap.size m s) (e1 : entOk e = true) (k1 : e.kind = 2) :
    Calls Tryz.prog 169 #[(.agg #[.int .i64 m.W, .int .i64 m.H, .slice s.A s.n s.c, .slice s.A2 s.n2 s.c2]), (.agg #[.int .i64 e.id, .int .i64 e.kind, .int .i64 e.at_.x, .int .i64 e.at_.y, .int .i64 e.vel.x, .int .i64 e.vel.y, .int .i64 e.health, .int .i64 e.wait])] w fun r w' => r = .returned (.agg #[.int .i64 (rollF m e).id, .int .i64 (rollF m e).kind, .int .i64 (rollF m e).at_.x, .int .i64 (rollF m e).at_.y, .int .i64 (rollF m e).vel.x, .int .i64 (rollF m e).vel.y, .int .i64 (rollF m e).health, .int .i64 (rollF m e).wait]) ∧ Below w.heap.size w w' := by
  obtain ⟨a1, a2, a3, a4, a5, a6, a7, a8⟩ := entOk_le e1
  have hE := fun W => entFormed e W
  simp only [e1] at hE
  have k1' : (e.kind != 2) = false := by rw [k1]; rfl
  have HM := Lib.hid h
  have HS := fun W hM hB => mStep m s w.heap.size (w.heap.size + 1) e W hM (by omega) hB a1 a2 a3 a4 a5 a6 a7 a8
  have hroll : rollF m e = ⟨(stepped m e).1.id, (stepped m e).1.kind, (stepped m e).1.at_, ⟨if (stepped m e).2.1 then (stepped m e).1.vel.x else -(stepped m e).1.vel.x, if (stepped m e).2.2 then (stepped m e).1.vel.y else -(stepped m e).1.vel.y⟩, (stepped m e).1.health, (stepped m e).1.wait⟩ := by
    unfold rollF
    rw [if_neg (by rintro (hh | hh); · rw [e1] at hh; cases hh
                   · exact hh k1)]
    rfl
  have hv : (stepped m e).1.vel = e.vel := rfl
  have v1 : -65536 ≤ (stepped m e).1.vel.x ∧ (stepped m e).1.vel.x ≤ 65536 ∧ -65536 ≤ (stepped m e).1.vel.y ∧ (stepped m e).1.vel.y ≤ 65536 := by rw [hv]; exact ⟨a5, a6, a7, a8⟩
  obtain ⟨⟨S, ok, fine⟩, hS⟩ : ∃ S, stepped m e = S := ⟨_, rfl⟩
  simp only [hS] at HS v1
  simp only [hS] at hroll
  obtain ⟨b1, b2, b3, b4⟩ := v1
  rw [hroll]
  have HS' := Lib.hid HS
  have hbk0 : ∀ M R, Blk (((w.alloc M).alloc (.cells #[.int .i64 e.id, .int .i64 e.kind, .int .i64 e.at_.x, .int .i64 e.at_.y, .int .i64 e.vel.x, .int .i64 e.vel.y, .int .i64 e.health, .int .i64 e.wait] 55)).alloc R) (w.heap.size + 1) 55 #[.int .i64 e.id, .int .i64 e.kind, .int .i64 e.at_.x, .int .i64 e.at_.y, .int .i64 e.vel.x, .int .i64 e.vel.y, .int .i64 e.health, .int .i64 e.wait] := fun M R => by
    have := (Blk.new (w.alloc M) 55 #[.int .i64 e.id, .int .i64 e.kind, .int .i64 e.at_.x, .int .i64 e.at_.y, .int .i64 e.vel.x, .int .i64 e.vel.y, .int .i64 e.health, .int .i64 e.wait]).alloc R
    simpa using this
  have HBK := Lib.hid hbk0
  clear hbk0 h k1 e1 hS HS hv hroll
  cases ok <;> cases fine
  all_goals
    go_enter Tryz.func169, Tryz.ntmps169
    go_wp2_with (go_at_call 150; refine (hE _).mono ?_; rintro r w1 ⟨rfl, hb1⟩; have hs1 := hb1.size; (try simp at hs1); have l1 : w.heap.size < w1.heap.size := (by omega); have l2 : w.heap.size + 1 < w1.heap.size := (by omega); have l3 : w.heap.size + 1 + 1 < w1.heap.size := (by omega); have B1 : Below w.heap.size w w1 := Below.trans (by repeat (first | with_reducible exact Below.refl _ _ | with_reducible assumption | with_reducible refine Below.drew ?_ | with_reducible refine below_drews ?_ _ | with_reducible refine Below.alloc ?_ (by first | omega | (simp; done) | (simp; omega)) _ | with_reducible refine Below.setCell ?_ (by first | omega | (simp; done) | (simp; omega)) _)) (hb1.mono (by (try simp) <;> omega)); have hbk : Blk w1 (w.heap.size + 1) 55 #[.int .i64 e.id, .int .i64 e.kind, .int .i64 e.at_.x, .int .i64 e.at_.y, .int .i64 e.vel.x, .int .i64 e.vel.y, .int .i64 e.health, .int .i64 e.wait] := Blk.below (HBK.out _ _) hb1 (by simp); obtain ⟨hc1, hf1⟩ := bcell hb1)
    refine (HS'.out _ (HM.out.below B1) hbk).mono ?_
    rintro r w2 ⟨rfl, hb2, hc2⟩
    have u0 : w2.cell? ⟨w.heap.size + 1, 0, none⟩ = some (.int .i64 S.id) := hb2.cell 0
    have z0 := hb2.frozen 0
    have u1 : w2.cell? ⟨w.heap.size + 1, 1, none⟩ = some (.int .i64 S.kind) := hb2.cell 1
    have z1 := hb2.frozen 1
    have u2 : w2.cell? ⟨w.heap.size + 1, 2, none⟩ = some (.int .i64 S.at_.x) := hb2.cell 2
    have z2 := hb2.frozen 2
    have u3 : w2.cell? ⟨w.heap.size + 1, 3, none⟩ = some (.int .i64 S.at_.y) := hb2.cell 3
    have z3 := hb2.frozen 3
    have u4 : w2.cell? ⟨w.heap.size + 1, 4, none⟩ = some (.int .i64 S.vel.x) := hb2.cell 4
    have z4 := hb2.frozen 4
    have u5 : w2.cell? ⟨w.heap.size + 1, 5, none⟩ = some (.int .i64 S.vel.y) := hb2.cell 5
    have z5 := hb2.frozen 5
    have u6 : w2.cell? ⟨w.heap.size + 1, 6, none⟩ = some (.int .i64 S.health) := hb2.cell 6
    have z6 := hb2.frozen 6
    have u7 : w2.cell? ⟨w.heap.size + 1, 7, none⟩ = some (.int .i64 S.wait) := hb2.cell 7
    have z7 := hb2.frozen 7
    obtain ⟨cc, cf⟩ := ccell hc2
    have hs2 := hc2.size
    have l4 : w.heap.size + 1 < w2.heap.size := by omega
    have l5 : w.heap.size + 1 + 1 < w2.heap.size := by omega
    have B3 : Below w.heap.size w w2 := B1.trans (hc2.to_below B1.size (fun g hg => by omega))
    clear hb2 hc2 hbk
    go_wp2
    refine bodyPost_ret (v := .agg #[.int .i64 S.id, .int .i64 S.kind, .int .i64 S.at_.x, .int .i64 S.at_.y, .int .i64 _, .int .i64 _, .int .i64 S.health, .int .i64 S.wait]) (by simp [results, Tryz.results169, go_sem, cc, cf, hc1, hf1, l1, l2, l3, l5]) rfl ⟨rfl, (by repeat (first | with_reducible exact Below.refl _ _ | with_reducible assumption | with_reducible refine Below.drew ?_ | with_reducible refine below_drews ?_ _ | with_reducible refine Below.alloc ?_ (by first | omega | (simp; done) | (simp; omega)) _ | with_reducible refine Below.setCell ?_ (by first | omega | (simp; done) | (simp; omega)) _))⟩
theorem mRoll (m : MapV) (s : MapS) (e : EntV) (w : World) (h : MapAt w w.heap.size m s) : Calls Tryz.prog 169 #[(.agg #[.int .i64 m.W, .int .i64 m.H, .slice s.A s.n s.c, .slice s.A2 s.n2 s.c2]), (.agg #[.int .i64 e.id, .int .i64 e.kind, .int .i64 e.at_.x, .int .i64 e.at_.y, .int .i64 e.vel.x, .int .i64 e.vel.y, .int .i64 e.health, .int .i64 e.wait])] w fun r w' => r = .returned (.agg #[.int .i64 (rollF m e).id, .int .i64 (rollF m e).kind, .int .i64 (rollF m e).at_.x, .int .i64 (rollF m e).at_.y, .int .i64 (rollF m e).vel.x, .int .i64 (rollF m e).vel.y, .int .i64 (rollF m e).health, .int .i64 (rollF m e).wait]) ∧ Below w.heap.size w w' := by
  by_cases hno : entOk e = false ∨ e.kind ≠ 2
  · have e1 : rollF m e = e := by unfold rollF; rw [if_pos hno]
    rw [e1]
    exact mRollNo m s e w hno
  · have q1 : entOk e = true := by cases hh : entOk e with | true => rfl | false => exact absurd (.inl hh) hno
    have q2 : e.kind = 2 := Decidable.byContradiction fun hh => hno (.inr hh)
    exact mRollYes m s e w h q1 q2
end Go.Proofs.YtojbijapdkohlaaGreatDoor
