/- The walk of the reference's Walk, where one moves. (Printed by gen_mwalk2.py.) -/
import Derived.Test.YthkgeeonhppliaaMWalk
set_option linter.unusedSimpArgs false
set_option linter.unusedVariables false
namespace Go.Proofs.Ythkgeeonhppliaa
open Go.RowKit
set_option maxRecDepth 100000 in
set_option maxHeartbeats 16000000 in
theorem rWalkYes (m : MapV) (s : MapS) (e : EntV) (mx my : Int) (w : World) (h : MapAt w w.heap.size m s) (hn : s.n ≤ 100000) (hn2 : s.n2 ≤ 100000) (e1 : entOk e = true) (k1 : e.kind = 1) (k2 : e.health ≠ 0) (x0 : -127 ≤ mx) (x1 : mx ≤ 127) (y0 : -127 ≤ my) (y1 : my ≤ 127) :
    Calls Try.prog 18 #[(.agg #[.int .i64 m.W, .int .i64 m.H, .slice s.A s.n s.c, .slice s.A2 s.n2 s.c2]), (.agg #[.int .i64 e.id, .int .i64 e.kind, .int .i64 e.at_.x, .int .i64 e.at_.y, .int .i64 e.vel.x, .int .i64 e.vel.y, .int .i64 e.health, .int .i64 e.wait]), .int .i8 mx, .int .i8 my] w fun r w' => r = .returned (.agg #[.int .i64 (walkF m e mx my).id, .int .i64 (walkF m e mx my).kind, .int .i64 (walkF m e mx my).at_.x, .int .i64 (walkF m e mx my).at_.y, .int .i64 (walkF m e mx my).vel.x, .int .i64 (walkF m e mx my).vel.y, .int .i64 (walkF m e mx my).health, .int .i64 (walkF m e mx my).wait]) ∧ Below w.heap.size w w' := by
  have hF := fun W => rFormedE e W
  simp only [e1] at hF
  have hD1 := fun W => rDown mx (by omega) x1 W
  have hD2 := fun W => rDown my (by omega) y1 W
  obtain ⟨p1, p2⟩ := partF_le mx x0 x1
  obtain ⟨p3, p4⟩ := partF_le my y0 y1
  have hlim := entOk_le e1
  have hw : walkF m e mx my = (stepped m { e with vel := ⟨partF mx, partF my⟩ }).1 := by
    unfold walkF
    rw [if_neg]
    rintro (h | h | h | h | h)
    · rw [e1] at h; cases h
    · exact h k1
    · exact k2 h
    · omega
    · omega
  obtain ⟨vx, hvx⟩ : ∃ v, partF mx = v := ⟨_, rfl⟩
  obtain ⟨vy, hvy⟩ : ∃ v, partF my = v := ⟨_, rfl⟩
  simp only [hvx] at hD1 hw p1 p2
  simp only [hvy] at hD2 hw p3 p4
  obtain ⟨ok, hok⟩ : ∃ o, standsB m ⟨e.at_.x + vx, e.at_.y⟩ = o := ⟨_, rfl⟩
  obtain ⟨ax, hax⟩ : ∃ a, (if ok then e.at_.x + vx else e.at_.x) = a := ⟨_, rfl⟩
  obtain ⟨fine, hfine⟩ : ∃ o, standsB m ⟨ax, e.at_.y + vy⟩ = o := ⟨_, rfl⟩
  obtain ⟨ay, hay⟩ : ∃ a, (if fine then e.at_.y + vy else e.at_.y) = a := ⟨_, rfl⟩
  have hst : walkF m e mx my = ⟨e.id, e.kind, ⟨ax, ay⟩, ⟨vx, vy⟩, e.health, e.wait⟩ := by
    rw [hw]
    unfold stepped
    simp only [hok, hax, hfine, hay]
  have haxb : -134300000 ≤ ax ∧ ax ≤ 134300000 := by rw [← hax]; split <;> omega
  have HST := Lib.hid hst
  have HAX := Lib.hid hax
  have HAY := Lib.hid hay
  have HM := Lib.hid h
  have HS1 := Lib.hid (fun W (hW : Below w.heap.size w W) => show Calls Try.prog 21 #[(.agg #[.int .i64 m.W, .int .i64 m.H, .slice s.A s.n s.c, .slice s.A2 s.n2 s.c2]), (.agg #[.int .i64 (e.at_.x + vx), .int .i64 e.at_.y])] W fun r w' => r = .returned (.bool ok) ∧ Below W.heap.size W w' from by rw [← hok]; exact rStands m s (e.at_.x + vx) e.at_.y W ((h.below hW).upto hW.size) hn hn2)
  have HS2 := Lib.hid (fun W (hW : Below w.heap.size w W) => show Calls Try.prog 21 #[(.agg #[.int .i64 m.W, .int .i64 m.H, .slice s.A s.n s.c, .slice s.A2 s.n2 s.c2]), (.agg #[.int .i64 ax, .int .i64 (e.at_.y + vy)])] W fun r w' => r = .returned (.bool fine) ∧ Below W.heap.size W w' from by rw [← hfine]; exact rStands m s ax (e.at_.y + vy) W ((h.below hW).upto hW.size) hn hn2)
  have t1 : (e.kind != 1) = false := bne_eq_false_iff_eq.2 k1
  have t2 : (e.health == 0) = false := beq_eq_false_iff_ne.2 k2
  have t3 : (mx == -128) = false := beq_eq_false_iff_ne.2 (by omega)
  have t4 : (my == -128) = false := beq_eq_false_iff_ne.2 (by omega)
  have HF := Lib.hid hF
  have HD1 := Lib.hid hD1
  have HD2 := Lib.hid hD2
  have HX := Lib.hid (threeBoxes w #[.int .i64 m.W, .int .i64 m.H, .slice s.A s.n s.c, .slice s.A2 s.n2 s.c2] #[.int .i64 e.id, .int .i64 e.kind, .int .i64 e.at_.x, .int .i64 e.at_.y, .int .i64 e.vel.x, .int .i64 e.vel.y, .int .i64 e.health, .int .i64 e.wait] #[.int .i64 0, .int .i64 0, .int .i64 0, .int .i64 0, .int .i64 0, .int .i64 0, .int .i64 0, .int .i64 0] 45 30 30)
  clear hF hD1 hD2 hw hvx hvy hok hax hfine hay hst h e1 k1 k2
  go_enter Try.func18, Try.ntmps18
  go_wp2_with fail
  obtain ⟨B1, b1, b2, b3⟩ := HX.out
  generalize (((w.alloc (.cells #[.int .i64 m.W, .int .i64 m.H, .slice s.A s.n s.c, .slice s.A2 s.n2 s.c2] 45)).alloc (.cells #[.int .i64 e.id, .int .i64 e.kind, .int .i64 e.at_.x, .int .i64 e.at_.y, .int .i64 e.vel.x, .int .i64 e.vel.y, .int .i64 e.health, .int .i64 e.wait] 30)).alloc (.cells #[.int .i64 0, .int .i64 0, .int .i64 0, .int .i64 0, .int .i64 0, .int .i64 0, .int .i64 0, .int .i64 0] 30)) = wa at B1 b1 b2 b3 ⊢
  refine (HF.out wa).mono ?_
  rintro r wb ⟨rfl, hb1⟩
  have HB := Lib.hid (B1.trans (hb1.mono B1.size))
  have HMB := Lib.hid (b1.below hb1 b1.lt)
  have HEB := Lib.hid (b2.below hb1 b2.lt)
  have HRB := Lib.hid (b3.below hb1 b3.lt)
  have l1 := HEB.out.lt
  have l2 := HRB.out.lt
  clear hb1 b1 b2 b3 B1 HX HF
  have mm0 : wb.cell? ⟨w.heap.size, 0, none⟩ = some (.int .i64 m.W) := HMB.out.cell 0
  have mm1 : wb.cell? ⟨w.heap.size, 1, none⟩ = some (.int .i64 m.H) := HMB.out.cell 1
  have mm2 : wb.cell? ⟨w.heap.size, 2, none⟩ = some (.slice s.A s.n s.c) := HMB.out.cell 2
  have mm3 : wb.cell? ⟨w.heap.size, 3, none⟩ = some (.slice s.A2 s.n2 s.c2) := HMB.out.cell 3
  have ee0 : wb.cell? ⟨w.heap.size + 1, 0, none⟩ = some (.int .i64 e.id) := HEB.out.cell 0
  have ee1 : wb.cell? ⟨w.heap.size + 1, 1, none⟩ = some (.int .i64 e.kind) := HEB.out.cell 1
  have ee2 : wb.cell? ⟨w.heap.size + 1, 2, none⟩ = some (.int .i64 e.at_.x) := HEB.out.cell 2
  have ee3 : wb.cell? ⟨w.heap.size + 1, 3, none⟩ = some (.int .i64 e.at_.y) := HEB.out.cell 3
  have ee4 : wb.cell? ⟨w.heap.size + 1, 4, none⟩ = some (.int .i64 e.vel.x) := HEB.out.cell 4
  have ee5 : wb.cell? ⟨w.heap.size + 1, 5, none⟩ = some (.int .i64 e.vel.y) := HEB.out.cell 5
  have ee6 : wb.cell? ⟨w.heap.size + 1, 6, none⟩ = some (.int .i64 e.health) := HEB.out.cell 6
  have ee7 : wb.cell? ⟨w.heap.size + 1, 7, none⟩ = some (.int .i64 e.wait) := HEB.out.cell 7
  have qq : ∀ j, wb.frozen? ⟨w.heap.size + 1, j, none⟩ = false := HEB.out.frozen
  go_wp2_with fail
  refine (HD1.out wb).mono ?_
  rintro r w1 ⟨rfl, rfl⟩
  go_wp2_with fail
  refine (HD2.out _).mono ?_
  rintro r w1 ⟨rfl, rfl⟩
  go_upto_region 5 with (fail)
  have HMBq : Blk ((wb.setCell ⟨w.heap.size + 1, 4, none⟩ (.int .i64 vx)).setCell ⟨w.heap.size + 1, 5, none⟩ (.int .i64 vy)) w.heap.size 45 #[.int .i64 m.W, .int .i64 m.H, .slice s.A s.n s.c, .slice s.A2 s.n2 s.c2] := (Blk.far (p := ⟨w.heap.size + 1, 5, none⟩) (Blk.far (p := ⟨w.heap.size + 1, 4, none⟩) HMB.out (by show w.heap.size ≠ w.heap.size + 1; omega) _) (by show w.heap.size ≠ w.heap.size + 1; omega) _)
  have HEBq : Blk ((wb.setCell ⟨w.heap.size + 1, 4, none⟩ (.int .i64 vx)).setCell ⟨w.heap.size + 1, 5, none⟩ (.int .i64 vy)) (w.heap.size + 1) 30 #[.int .i64 e.id, .int .i64 e.kind, .int .i64 e.at_.x, .int .i64 e.at_.y, .int .i64 vx, .int .i64 vy, .int .i64 e.health, .int .i64 e.wait] := by have := ((HEB.out.set_ 4 (.int .i64 vx)).set_ 5 (.int .i64 vy)); simpa using this
  have HRBq : Blk ((wb.setCell ⟨w.heap.size + 1, 4, none⟩ (.int .i64 vx)).setCell ⟨w.heap.size + 1, 5, none⟩ (.int .i64 vy)) (w.heap.size + 2) 30 #[.int .i64 0, .int .i64 0, .int .i64 0, .int .i64 0, .int .i64 0, .int .i64 0, .int .i64 0, .int .i64 0] := (Blk.far (p := ⟨w.heap.size + 1, 5, none⟩) (Blk.far (p := ⟨w.heap.size + 1, 4, none⟩) HRB.out (by show w.heap.size + 2 ≠ w.heap.size + 1; omega) _) (by show w.heap.size + 2 ≠ w.heap.size + 1; omega) _)
  have HBq : Below w.heap.size w ((wb.setCell ⟨w.heap.size + 1, 4, none⟩ (.int .i64 vx)).setCell ⟨w.heap.size + 1, 5, none⟩ (.int .i64 vy)) := (Below.setCell (Below.setCell HB.out (p := ⟨w.heap.size + 1, 4, none⟩) (by show w.heap.size ≤ w.heap.size + 1; omega) _) (p := ⟨w.heap.size + 1, 5, none⟩) (by show w.heap.size ≤ w.heap.size + 1; omega) _)
  generalize ((wb.setCell ⟨w.heap.size + 1, 4, none⟩ (.int .i64 vx)).setCell ⟨w.heap.size + 1, 5, none⟩ (.int .i64 vy)) = wc at HMBq HEBq HRBq HBq ⊢
  have HMB := Lib.hid HMBq
  have HEB := Lib.hid HEBq
  have HRB := Lib.hid HRBq
  have HB := Lib.hid HBq
  clear HMBq HEBq HRBq HBq
  clear mm0 mm1 mm2 mm3 ee0 ee1 ee2 ee3 ee4 ee5 ee6 ee7 qq l1 l2
  have l1 := HEB.out.lt
  have l2 := HRB.out.lt
  have hB := HB.out.size
  have mm0 : wc.cell? ⟨w.heap.size, 0, none⟩ = some (.int .i64 m.W) := HMB.out.cell 0
  have mm1 : wc.cell? ⟨w.heap.size, 1, none⟩ = some (.int .i64 m.H) := HMB.out.cell 1
  have mm2 : wc.cell? ⟨w.heap.size, 2, none⟩ = some (.slice s.A s.n s.c) := HMB.out.cell 2
  have mm3 : wc.cell? ⟨w.heap.size, 3, none⟩ = some (.slice s.A2 s.n2 s.c2) := HMB.out.cell 3
  have ee0 : wc.cell? ⟨w.heap.size + 1, 0, none⟩ = some (.int .i64 e.id) := HEB.out.cell 0
  have ee1 : wc.cell? ⟨w.heap.size + 1, 1, none⟩ = some (.int .i64 e.kind) := HEB.out.cell 1
  have ee2 : wc.cell? ⟨w.heap.size + 1, 2, none⟩ = some (.int .i64 e.at_.x) := HEB.out.cell 2
  have ee3 : wc.cell? ⟨w.heap.size + 1, 3, none⟩ = some (.int .i64 e.at_.y) := HEB.out.cell 3
  have ee4 : wc.cell? ⟨w.heap.size + 1, 4, none⟩ = some (.int .i64 vx) := HEB.out.cell 4
  have ee5 : wc.cell? ⟨w.heap.size + 1, 5, none⟩ = some (.int .i64 vy) := HEB.out.cell 5
  have ee6 : wc.cell? ⟨w.heap.size + 1, 6, none⟩ = some (.int .i64 e.health) := HEB.out.cell 6
  have ee7 : wc.cell? ⟨w.heap.size + 1, 7, none⟩ = some (.int .i64 e.wait) := HEB.out.cell 7
  have qq : ∀ j, wc.frozen? ⟨w.heap.size + 1, j, none⟩ = false := HEB.out.frozen
  go_upto_region 6 with (fail)
  have HTB := Lib.hid (Blk.new wc 28 #[.int .i64 (e.at_.x + vx), .int .i64 e.at_.y])
  have HTBq : Blk (wc.alloc (.cells #[.int .i64 (e.at_.x + vx), .int .i64 e.at_.y] 28)) wc.heap.size 28 #[.int .i64 (e.at_.x + vx), .int .i64 e.at_.y] := HTB.out
  have HMBq : Blk (wc.alloc (.cells #[.int .i64 (e.at_.x + vx), .int .i64 e.at_.y] 28)) w.heap.size 45 #[.int .i64 m.W, .int .i64 m.H, .slice s.A s.n s.c, .slice s.A2 s.n2 s.c2] := HMB.out.alloc _
  have HEBq : Blk (wc.alloc (.cells #[.int .i64 (e.at_.x + vx), .int .i64 e.at_.y] 28)) (w.heap.size + 1) 30 #[.int .i64 e.id, .int .i64 e.kind, .int .i64 e.at_.x, .int .i64 e.at_.y, .int .i64 vx, .int .i64 vy, .int .i64 e.health, .int .i64 e.wait] := HEB.out.alloc _
  have HRBq : Blk (wc.alloc (.cells #[.int .i64 (e.at_.x + vx), .int .i64 e.at_.y] 28)) (w.heap.size + 2) 30 #[.int .i64 0, .int .i64 0, .int .i64 0, .int .i64 0, .int .i64 0, .int .i64 0, .int .i64 0, .int .i64 0] := HRB.out.alloc _
  have HBq : Below w.heap.size w (wc.alloc (.cells #[.int .i64 (e.at_.x + vx), .int .i64 e.at_.y] 28)) := HB.out.alloc HB.out.size _
  generalize (wc.alloc (.cells #[.int .i64 (e.at_.x + vx), .int .i64 e.at_.y] 28)) = wd at HTBq HMBq HEBq HRBq HBq ⊢
  have HTB := Lib.hid HTBq
  have HMB := Lib.hid HMBq
  have HEB := Lib.hid HEBq
  have HRB := Lib.hid HRBq
  have HB := Lib.hid HBq
  clear HTBq HMBq HEBq HRBq HBq
  obtain ⟨tb, htb⟩ : ∃ tb, wc.heap.size = tb := ⟨_, rfl⟩
  rw [htb] at HTB l1 l2 hB ⊢
  clear mm0 mm1 mm2 mm3 ee0 ee1 ee2 ee3 ee4 ee5 ee6 ee7 qq
  have mm0 : wd.cell? ⟨w.heap.size, 0, none⟩ = some (.int .i64 m.W) := HMB.out.cell 0
  have mm1 : wd.cell? ⟨w.heap.size, 1, none⟩ = some (.int .i64 m.H) := HMB.out.cell 1
  have mm2 : wd.cell? ⟨w.heap.size, 2, none⟩ = some (.slice s.A s.n s.c) := HMB.out.cell 2
  have mm3 : wd.cell? ⟨w.heap.size, 3, none⟩ = some (.slice s.A2 s.n2 s.c2) := HMB.out.cell 3
  have ee0 : wd.cell? ⟨w.heap.size + 1, 0, none⟩ = some (.int .i64 e.id) := HEB.out.cell 0
  have ee1 : wd.cell? ⟨w.heap.size + 1, 1, none⟩ = some (.int .i64 e.kind) := HEB.out.cell 1
  have ee2 : wd.cell? ⟨w.heap.size + 1, 2, none⟩ = some (.int .i64 e.at_.x) := HEB.out.cell 2
  have ee3 : wd.cell? ⟨w.heap.size + 1, 3, none⟩ = some (.int .i64 e.at_.y) := HEB.out.cell 3
  have ee4 : wd.cell? ⟨w.heap.size + 1, 4, none⟩ = some (.int .i64 vx) := HEB.out.cell 4
  have ee5 : wd.cell? ⟨w.heap.size + 1, 5, none⟩ = some (.int .i64 vy) := HEB.out.cell 5
  have ee6 : wd.cell? ⟨w.heap.size + 1, 6, none⟩ = some (.int .i64 e.health) := HEB.out.cell 6
  have ee7 : wd.cell? ⟨w.heap.size + 1, 7, none⟩ = some (.int .i64 e.wait) := HEB.out.cell 7
  have qq : ∀ j, wd.frozen? ⟨w.heap.size + 1, j, none⟩ = false := HEB.out.frozen
  have tt0 : wd.cell? ⟨tb, 0, none⟩ = some (.int .i64 (e.at_.x + vx)) := HTB.out.cell 0
  have tt1 : wd.cell? ⟨tb, 1, none⟩ = some (.int .i64 e.at_.y) := HTB.out.cell 1
  go_wp2_with fail
  refine (HS1.out wd HB.out).mono ?_
  rintro r we ⟨rfl, hb1⟩
  have HMB := Lib.hid (HMB.out.below hb1 HMB.out.lt)
  have HEB := Lib.hid (HEB.out.below hb1 HEB.out.lt)
  have HRB := Lib.hid (HRB.out.below hb1 HRB.out.lt)
  have HTB := Lib.hid (HTB.out.below hb1 HTB.out.lt)
  have HB := Lib.hid (HB.out.trans (hb1.mono HB.out.size))
  have lt0 := HTB.out.lt
  clear mm0 mm1 mm2 mm3 ee0 ee1 ee2 ee3 ee4 ee5 ee6 ee7 qq tt0 tt1 hb1 l1 l2 hB
  have l1 := HEB.out.lt
  have l2 := HRB.out.lt
  have hB := HB.out.size
  have mm0 : we.cell? ⟨w.heap.size, 0, none⟩ = some (.int .i64 m.W) := HMB.out.cell 0
  have mm1 : we.cell? ⟨w.heap.size, 1, none⟩ = some (.int .i64 m.H) := HMB.out.cell 1
  have mm2 : we.cell? ⟨w.heap.size, 2, none⟩ = some (.slice s.A s.n s.c) := HMB.out.cell 2
  have mm3 : we.cell? ⟨w.heap.size, 3, none⟩ = some (.slice s.A2 s.n2 s.c2) := HMB.out.cell 3
  have ee0 : we.cell? ⟨w.heap.size + 1, 0, none⟩ = some (.int .i64 e.id) := HEB.out.cell 0
  have ee1 : we.cell? ⟨w.heap.size + 1, 1, none⟩ = some (.int .i64 e.kind) := HEB.out.cell 1
  have ee2 : we.cell? ⟨w.heap.size + 1, 2, none⟩ = some (.int .i64 e.at_.x) := HEB.out.cell 2
  have ee3 : we.cell? ⟨w.heap.size + 1, 3, none⟩ = some (.int .i64 e.at_.y) := HEB.out.cell 3
  have ee4 : we.cell? ⟨w.heap.size + 1, 4, none⟩ = some (.int .i64 vx) := HEB.out.cell 4
  have ee5 : we.cell? ⟨w.heap.size + 1, 5, none⟩ = some (.int .i64 vy) := HEB.out.cell 5
  have ee6 : we.cell? ⟨w.heap.size + 1, 6, none⟩ = some (.int .i64 e.health) := HEB.out.cell 6
  have ee7 : we.cell? ⟨w.heap.size + 1, 7, none⟩ = some (.int .i64 e.wait) := HEB.out.cell 7
  have qq : ∀ j, we.frozen? ⟨w.heap.size + 1, j, none⟩ = false := HEB.out.frozen
  have tt0 : we.cell? ⟨tb, 0, none⟩ = some (.int .i64 (e.at_.x + vx)) := HTB.out.cell 0
  have tt1 : we.cell? ⟨tb, 1, none⟩ = some (.int .i64 e.at_.y) := HTB.out.cell 1
  go_upto_if 58 with (fail)
  go_cut [] (fun wx => Blk wx w.heap.size 45 #[.int .i64 m.W, .int .i64 m.H, .slice s.A s.n s.c, .slice s.A2 s.n2 s.c2] ∧ Blk wx (w.heap.size + 1) 30 #[.int .i64 e.id, .int .i64 e.kind, .int .i64 ax, .int .i64 e.at_.y, .int .i64 vx, .int .i64 vy, .int .i64 e.health, .int .i64 e.wait] ∧ Blk wx (w.heap.size + 2) 30 #[.int .i64 0, .int .i64 0, .int .i64 0, .int .i64 0, .int .i64 0, .int .i64 0, .int .i64 0, .int .i64 0] ∧ Below w.heap.size w wx)
  case first =>
    cases ok with
    | true =>
      have hx : e.at_.x + vx = ax := HAX.out
      go_wp2_with fail
      go_meet
      (try rw [hx])
      refine ⟨?_, ?_, ?_, ?_⟩
      · exact (Blk.far (p := ⟨w.heap.size + 1, 3, none⟩) (Blk.far (p := ⟨w.heap.size + 1, 2, none⟩) HMB.out (by show w.heap.size ≠ w.heap.size + 1; omega) _) (by show w.heap.size ≠ w.heap.size + 1; omega) _)
      · have := ((HEB.out.set_ 2 (.int .i64 ax)).set_ 3 (.int .i64 e.at_.y))
        simpa using this
      · exact (Blk.far (p := ⟨w.heap.size + 1, 3, none⟩) (Blk.far (p := ⟨w.heap.size + 1, 2, none⟩) HRB.out (by show w.heap.size + 2 ≠ w.heap.size + 1; omega) _) (by show w.heap.size + 2 ≠ w.heap.size + 1; omega) _)
      · exact (Below.setCell (Below.setCell HB.out (p := ⟨w.heap.size + 1, 2, none⟩) (by show w.heap.size ≤ w.heap.size + 1; omega) _) (p := ⟨w.heap.size + 1, 3, none⟩) (by show w.heap.size ≤ w.heap.size + 1; omega) _)
    | false =>
      have hx : e.at_.x = ax := HAX.out
      go_wp2_with fail
      go_meet
      refine ⟨HMB.out, ?_, HRB.out, HB.out⟩
      rw [← hx]
      exact HEB.out
  case rest =>
    obtain ⟨hm1, hm2, hm3, hm4⟩ := hcut
    obtain ⟨wf, hwf⟩ : ∃ wf : World, wf = wc := ⟨_, rfl⟩
    subst hwf
    clear HMB HEB HRB HTB HB l1 l2 hB lt0 tt0 tt1 mm0 mm1 mm2 mm3 ee0 ee1 ee2 ee3 ee4 ee5 ee6 ee7 qq
    have HMB := Lib.hid hm1
    have HEB := Lib.hid hm2
    have HRB := Lib.hid hm3
    have HB := Lib.hid hm4
    clear hm1 hm2 hm3 hm4
    have l1 := HEB.out.lt
    have l2 := HRB.out.lt
    have hB := HB.out.size
    have mm0 : wf.cell? ⟨w.heap.size, 0, none⟩ = some (.int .i64 m.W) := HMB.out.cell 0
    have mm1 : wf.cell? ⟨w.heap.size, 1, none⟩ = some (.int .i64 m.H) := HMB.out.cell 1
    have mm2 : wf.cell? ⟨w.heap.size, 2, none⟩ = some (.slice s.A s.n s.c) := HMB.out.cell 2
    have mm3 : wf.cell? ⟨w.heap.size, 3, none⟩ = some (.slice s.A2 s.n2 s.c2) := HMB.out.cell 3
    have ee0 : wf.cell? ⟨w.heap.size + 1, 0, none⟩ = some (.int .i64 e.id) := HEB.out.cell 0
    have ee1 : wf.cell? ⟨w.heap.size + 1, 1, none⟩ = some (.int .i64 e.kind) := HEB.out.cell 1
    have ee2 : wf.cell? ⟨w.heap.size + 1, 2, none⟩ = some (.int .i64 ax) := HEB.out.cell 2
    have ee3 : wf.cell? ⟨w.heap.size + 1, 3, none⟩ = some (.int .i64 e.at_.y) := HEB.out.cell 3
    have ee4 : wf.cell? ⟨w.heap.size + 1, 4, none⟩ = some (.int .i64 vx) := HEB.out.cell 4
    have ee5 : wf.cell? ⟨w.heap.size + 1, 5, none⟩ = some (.int .i64 vy) := HEB.out.cell 5
    have ee6 : wf.cell? ⟨w.heap.size + 1, 6, none⟩ = some (.int .i64 e.health) := HEB.out.cell 6
    have ee7 : wf.cell? ⟨w.heap.size + 1, 7, none⟩ = some (.int .i64 e.wait) := HEB.out.cell 7
    have qq : ∀ j, wf.frozen? ⟨w.heap.size + 1, j, none⟩ = false := HEB.out.frozen
    go_upto_region 9 with (fail)
    have HTB := Lib.hid (Blk.new wf 28 #[.int .i64 ax, .int .i64 (e.at_.y + vy)])
    have HTBq : Blk (wf.alloc (.cells #[.int .i64 ax, .int .i64 (e.at_.y + vy)] 28)) wf.heap.size 28 #[.int .i64 ax, .int .i64 (e.at_.y + vy)] := HTB.out
    have HMBq : Blk (wf.alloc (.cells #[.int .i64 ax, .int .i64 (e.at_.y + vy)] 28)) w.heap.size 45 #[.int .i64 m.W, .int .i64 m.H, .slice s.A s.n s.c, .slice s.A2 s.n2 s.c2] := HMB.out.alloc _
    have HEBq : Blk (wf.alloc (.cells #[.int .i64 ax, .int .i64 (e.at_.y + vy)] 28)) (w.heap.size + 1) 30 #[.int .i64 e.id, .int .i64 e.kind, .int .i64 ax, .int .i64 e.at_.y, .int .i64 vx, .int .i64 vy, .int .i64 e.health, .int .i64 e.wait] := HEB.out.alloc _
    have HRBq : Blk (wf.alloc (.cells #[.int .i64 ax, .int .i64 (e.at_.y + vy)] 28)) (w.heap.size + 2) 30 #[.int .i64 0, .int .i64 0, .int .i64 0, .int .i64 0, .int .i64 0, .int .i64 0, .int .i64 0, .int .i64 0] := HRB.out.alloc _
    have HBq : Below w.heap.size w (wf.alloc (.cells #[.int .i64 ax, .int .i64 (e.at_.y + vy)] 28)) := HB.out.alloc HB.out.size _
    generalize (wf.alloc (.cells #[.int .i64 ax, .int .i64 (e.at_.y + vy)] 28)) = wg at HTBq HMBq HEBq HRBq HBq ⊢
    have HTB := Lib.hid HTBq
    have HMB := Lib.hid HMBq
    have HEB := Lib.hid HEBq
    have HRB := Lib.hid HRBq
    have HB := Lib.hid HBq
    clear HTBq HMBq HEBq HRBq HBq
    obtain ⟨tb2, htb2⟩ : ∃ tb, wf.heap.size = tb := ⟨_, rfl⟩
    rw [htb2] at HTB l1 l2 hB ⊢
    clear mm0 mm1 mm2 mm3 ee0 ee1 ee2 ee3 ee4 ee5 ee6 ee7 qq
    have mm0 : wg.cell? ⟨w.heap.size, 0, none⟩ = some (.int .i64 m.W) := HMB.out.cell 0
    have mm1 : wg.cell? ⟨w.heap.size, 1, none⟩ = some (.int .i64 m.H) := HMB.out.cell 1
    have mm2 : wg.cell? ⟨w.heap.size, 2, none⟩ = some (.slice s.A s.n s.c) := HMB.out.cell 2
    have mm3 : wg.cell? ⟨w.heap.size, 3, none⟩ = some (.slice s.A2 s.n2 s.c2) := HMB.out.cell 3
    have ee0 : wg.cell? ⟨w.heap.size + 1, 0, none⟩ = some (.int .i64 e.id) := HEB.out.cell 0
    have ee1 : wg.cell? ⟨w.heap.size + 1, 1, none⟩ = some (.int .i64 e.kind) := HEB.out.cell 1
    have ee2 : wg.cell? ⟨w.heap.size + 1, 2, none⟩ = some (.int .i64 ax) := HEB.out.cell 2
    have ee3 : wg.cell? ⟨w.heap.size + 1, 3, none⟩ = some (.int .i64 e.at_.y) := HEB.out.cell 3
    have ee4 : wg.cell? ⟨w.heap.size + 1, 4, none⟩ = some (.int .i64 vx) := HEB.out.cell 4
    have ee5 : wg.cell? ⟨w.heap.size + 1, 5, none⟩ = some (.int .i64 vy) := HEB.out.cell 5
    have ee6 : wg.cell? ⟨w.heap.size + 1, 6, none⟩ = some (.int .i64 e.health) := HEB.out.cell 6
    have ee7 : wg.cell? ⟨w.heap.size + 1, 7, none⟩ = some (.int .i64 e.wait) := HEB.out.cell 7
    have qq : ∀ j, wg.frozen? ⟨w.heap.size + 1, j, none⟩ = false := HEB.out.frozen
    have tt0 : wg.cell? ⟨tb2, 0, none⟩ = some (.int .i64 ax) := HTB.out.cell 0
    have tt1 : wg.cell? ⟨tb2, 1, none⟩ = some (.int .i64 (e.at_.y + vy)) := HTB.out.cell 1
    go_wp2_with fail
    refine (HS2.out wg HB.out).mono ?_
    rintro r wh ⟨rfl, hb1⟩
    have HMB := Lib.hid (HMB.out.below hb1 HMB.out.lt)
    have HEB := Lib.hid (HEB.out.below hb1 HEB.out.lt)
    have HRB := Lib.hid (HRB.out.below hb1 HRB.out.lt)
    have HTB := Lib.hid (HTB.out.below hb1 HTB.out.lt)
    have HB := Lib.hid (HB.out.trans (hb1.mono HB.out.size))
    have lt0 := HTB.out.lt
    clear mm0 mm1 mm2 mm3 ee0 ee1 ee2 ee3 ee4 ee5 ee6 ee7 qq tt0 tt1 hb1 l1 l2 hB
    have l1 := HEB.out.lt
    have l2 := HRB.out.lt
    have hB := HB.out.size
    have mm0 : wh.cell? ⟨w.heap.size, 0, none⟩ = some (.int .i64 m.W) := HMB.out.cell 0
    have mm1 : wh.cell? ⟨w.heap.size, 1, none⟩ = some (.int .i64 m.H) := HMB.out.cell 1
    have mm2 : wh.cell? ⟨w.heap.size, 2, none⟩ = some (.slice s.A s.n s.c) := HMB.out.cell 2
    have mm3 : wh.cell? ⟨w.heap.size, 3, none⟩ = some (.slice s.A2 s.n2 s.c2) := HMB.out.cell 3
    have ee0 : wh.cell? ⟨w.heap.size + 1, 0, none⟩ = some (.int .i64 e.id) := HEB.out.cell 0
    have ee1 : wh.cell? ⟨w.heap.size + 1, 1, none⟩ = some (.int .i64 e.kind) := HEB.out.cell 1
    have ee2 : wh.cell? ⟨w.heap.size + 1, 2, none⟩ = some (.int .i64 ax) := HEB.out.cell 2
    have ee3 : wh.cell? ⟨w.heap.size + 1, 3, none⟩ = some (.int .i64 e.at_.y) := HEB.out.cell 3
    have ee4 : wh.cell? ⟨w.heap.size + 1, 4, none⟩ = some (.int .i64 vx) := HEB.out.cell 4
    have ee5 : wh.cell? ⟨w.heap.size + 1, 5, none⟩ = some (.int .i64 vy) := HEB.out.cell 5
    have ee6 : wh.cell? ⟨w.heap.size + 1, 6, none⟩ = some (.int .i64 e.health) := HEB.out.cell 6
    have ee7 : wh.cell? ⟨w.heap.size + 1, 7, none⟩ = some (.int .i64 e.wait) := HEB.out.cell 7
    have qq : ∀ j, wh.frozen? ⟨w.heap.size + 1, j, none⟩ = false := HEB.out.frozen
    have tt0 : wh.cell? ⟨tb2, 0, none⟩ = some (.int .i64 ax) := HTB.out.cell 0
    have tt1 : wh.cell? ⟨tb2, 1, none⟩ = some (.int .i64 (e.at_.y + vy)) := HTB.out.cell 1
    go_upto_if 74 with (fail)
    go_cut [] (fun wx => Blk wx (w.heap.size + 1) 30 #[.int .i64 e.id, .int .i64 e.kind, .int .i64 ax, .int .i64 ay, .int .i64 vx, .int .i64 vy, .int .i64 e.health, .int .i64 e.wait] ∧ Blk wx (w.heap.size + 2) 30 #[.int .i64 0, .int .i64 0, .int .i64 0, .int .i64 0, .int .i64 0, .int .i64 0, .int .i64 0, .int .i64 0] ∧ Below w.heap.size w wx)
    case first =>
      cases fine with
      | true =>
        have hx : e.at_.y + vy = ay := HAY.out
        go_wp2_with fail
        go_meet
        (try rw [hx])
        refine ⟨?_, ?_, ?_⟩
        · have := ((HEB.out.set_ 2 (.int .i64 ax)).set_ 3 (.int .i64 ay))
          simpa using this
        · exact (Blk.far (p := ⟨w.heap.size + 1, 3, none⟩) (Blk.far (p := ⟨w.heap.size + 1, 2, none⟩) HRB.out (by show w.heap.size + 2 ≠ w.heap.size + 1; omega) _) (by show w.heap.size + 2 ≠ w.heap.size + 1; omega) _)
        · exact (Below.setCell (Below.setCell HB.out (p := ⟨w.heap.size + 1, 2, none⟩) (by show w.heap.size ≤ w.heap.size + 1; omega) _) (p := ⟨w.heap.size + 1, 3, none⟩) (by show w.heap.size ≤ w.heap.size + 1; omega) _)
      | false =>
        have hx : e.at_.y = ay := HAY.out
        go_wp2_with fail
        go_meet
        refine ⟨?_, HRB.out, HB.out⟩
        rw [← hx]
        exact HEB.out
    case rest =>
      obtain ⟨hm2, hm3, hm4⟩ := hcut
      obtain ⟨wi, hwi⟩ : ∃ wi : World, wi = wc := ⟨_, rfl⟩
      subst hwi
      clear HMB HEB HRB HTB HB l1 l2 hB lt0 tt0 tt1 mm0 mm1 mm2 mm3 ee0 ee1 ee2 ee3 ee4 ee5 ee6 ee7 qq
      have HEB := Lib.hid hm2
      have HRB := Lib.hid hm3
      have HB := Lib.hid hm4
      clear hm2 hm3 hm4
      have l1 := HEB.out.lt
      have l2 := HRB.out.lt
      have hB := HB.out.size
      have ee0 : wi.cell? ⟨w.heap.size + 1, 0, none⟩ = some (.int .i64 e.id) := HEB.out.cell 0
      have ee1 : wi.cell? ⟨w.heap.size + 1, 1, none⟩ = some (.int .i64 e.kind) := HEB.out.cell 1
      have ee2 : wi.cell? ⟨w.heap.size + 1, 2, none⟩ = some (.int .i64 ax) := HEB.out.cell 2
      have ee3 : wi.cell? ⟨w.heap.size + 1, 3, none⟩ = some (.int .i64 ay) := HEB.out.cell 3
      have ee4 : wi.cell? ⟨w.heap.size + 1, 4, none⟩ = some (.int .i64 vx) := HEB.out.cell 4
      have ee5 : wi.cell? ⟨w.heap.size + 1, 5, none⟩ = some (.int .i64 vy) := HEB.out.cell 5
      have ee6 : wi.cell? ⟨w.heap.size + 1, 6, none⟩ = some (.int .i64 e.health) := HEB.out.cell 6
      have ee7 : wi.cell? ⟨w.heap.size + 1, 7, none⟩ = some (.int .i64 e.wait) := HEB.out.cell 7
      have rr0 : wi.cell? ⟨w.heap.size + 2, 0, none⟩ = some (.int .i64 0) := HRB.out.cell 0
      have rr1 : wi.cell? ⟨w.heap.size + 2, 1, none⟩ = some (.int .i64 0) := HRB.out.cell 1
      have rr2 : wi.cell? ⟨w.heap.size + 2, 2, none⟩ = some (.int .i64 0) := HRB.out.cell 2
      have rr3 : wi.cell? ⟨w.heap.size + 2, 3, none⟩ = some (.int .i64 0) := HRB.out.cell 3
      have rr4 : wi.cell? ⟨w.heap.size + 2, 4, none⟩ = some (.int .i64 0) := HRB.out.cell 4
      have rr5 : wi.cell? ⟨w.heap.size + 2, 5, none⟩ = some (.int .i64 0) := HRB.out.cell 5
      have rr6 : wi.cell? ⟨w.heap.size + 2, 6, none⟩ = some (.int .i64 0) := HRB.out.cell 6
      have rr7 : wi.cell? ⟨w.heap.size + 2, 7, none⟩ = some (.int .i64 0) := HRB.out.cell 7
      have qq : ∀ j, wi.frozen? ⟨w.heap.size + 2, j, none⟩ = false := HRB.out.frozen
      go_wp2
      have f0 : Blk ((((((((wi.setCell ⟨w.heap.size + 2, 0, none⟩ (.int .i64 e.id)).setCell ⟨w.heap.size + 2, 1, none⟩ (.int .i64 e.kind)).setCell ⟨w.heap.size + 2, 2, none⟩ (.int .i64 ax)).setCell ⟨w.heap.size + 2, 3, none⟩ (.int .i64 ay)).setCell ⟨w.heap.size + 2, 4, none⟩ (.int .i64 vx)).setCell ⟨w.heap.size + 2, 5, none⟩ (.int .i64 vy)).setCell ⟨w.heap.size + 2, 6, none⟩ (.int .i64 e.health)).setCell ⟨w.heap.size + 2, 7, none⟩ (.int .i64 e.wait)) (w.heap.size + 2) 30 #[.int .i64 e.id, .int .i64 e.kind, .int .i64 ax, .int .i64 ay, .int .i64 vx, .int .i64 vy, .int .i64 e.health, .int .i64 e.wait] := by
        have := ((((((((HRB.out.set_ 0 (.int .i64 e.id)).set_ 1 (.int .i64 e.kind)).set_ 2 (.int .i64 ax)).set_ 3 (.int .i64 ay)).set_ 4 (.int .i64 vx)).set_ 5 (.int .i64 vy)).set_ 6 (.int .i64 e.health)).set_ 7 (.int .i64 e.wait))
        simpa using this
      have f1 : Below w.heap.size w ((((((((wi.setCell ⟨w.heap.size + 2, 0, none⟩ (.int .i64 e.id)).setCell ⟨w.heap.size + 2, 1, none⟩ (.int .i64 e.kind)).setCell ⟨w.heap.size + 2, 2, none⟩ (.int .i64 ax)).setCell ⟨w.heap.size + 2, 3, none⟩ (.int .i64 ay)).setCell ⟨w.heap.size + 2, 4, none⟩ (.int .i64 vx)).setCell ⟨w.heap.size + 2, 5, none⟩ (.int .i64 vy)).setCell ⟨w.heap.size + 2, 6, none⟩ (.int .i64 e.health)).setCell ⟨w.heap.size + 2, 7, none⟩ (.int .i64 e.wait)) := (Below.setCell (Below.setCell (Below.setCell (Below.setCell (Below.setCell (Below.setCell (Below.setCell (Below.setCell HB.out (p := ⟨w.heap.size + 2, 0, none⟩) (by show w.heap.size ≤ w.heap.size + 2; omega) _) (p := ⟨w.heap.size + 2, 1, none⟩) (by show w.heap.size ≤ w.heap.size + 2; omega) _) (p := ⟨w.heap.size + 2, 2, none⟩) (by show w.heap.size ≤ w.heap.size + 2; omega) _) (p := ⟨w.heap.size + 2, 3, none⟩) (by show w.heap.size ≤ w.heap.size + 2; omega) _) (p := ⟨w.heap.size + 2, 4, none⟩) (by show w.heap.size ≤ w.heap.size + 2; omega) _) (p := ⟨w.heap.size + 2, 5, none⟩) (by show w.heap.size ≤ w.heap.size + 2; omega) _) (p := ⟨w.heap.size + 2, 6, none⟩) (by show w.heap.size ≤ w.heap.size + 2; omega) _) (p := ⟨w.heap.size + 2, 7, none⟩) (by show w.heap.size ≤ w.heap.size + 2; omega) _)
      generalize ((((((((wi.setCell ⟨w.heap.size + 2, 0, none⟩ (.int .i64 e.id)).setCell ⟨w.heap.size + 2, 1, none⟩ (.int .i64 e.kind)).setCell ⟨w.heap.size + 2, 2, none⟩ (.int .i64 ax)).setCell ⟨w.heap.size + 2, 3, none⟩ (.int .i64 ay)).setCell ⟨w.heap.size + 2, 4, none⟩ (.int .i64 vx)).setCell ⟨w.heap.size + 2, 5, none⟩ (.int .i64 vy)).setCell ⟨w.heap.size + 2, 6, none⟩ (.int .i64 e.health)).setCell ⟨w.heap.size + 2, 7, none⟩ (.int .i64 e.wait)) = wz at f0 f1 ⊢
      have r0 : wz.cell? ⟨w.heap.size + 2, 0, none⟩ = some (.int .i64 e.id) := f0.cell 0
      have r1 : wz.cell? ⟨w.heap.size + 2, 1, none⟩ = some (.int .i64 e.kind) := f0.cell 1
      have r2 : wz.cell? ⟨w.heap.size + 2, 2, none⟩ = some (.int .i64 ax) := f0.cell 2
      have r3 : wz.cell? ⟨w.heap.size + 2, 3, none⟩ = some (.int .i64 ay) := f0.cell 3
      have r4 : wz.cell? ⟨w.heap.size + 2, 4, none⟩ = some (.int .i64 vx) := f0.cell 4
      have r5 : wz.cell? ⟨w.heap.size + 2, 5, none⟩ = some (.int .i64 vy) := f0.cell 5
      have r6 : wz.cell? ⟨w.heap.size + 2, 6, none⟩ = some (.int .i64 e.health) := f0.cell 6
      have r7 : wz.cell? ⟨w.heap.size + 2, 7, none⟩ = some (.int .i64 e.wait) := f0.cell 7
      clear ee0 ee1 ee2 ee3 ee4 ee5 ee6 ee7 rr0 rr1 rr2 rr3 rr4 rr5 rr6 rr7 qq
      exact bodyPost_ret (v := .agg #[.int .i64 e.id, .int .i64 e.kind, .int .i64 ax, .int .i64 ay, .int .i64 vx, .int .i64 vy, .int .i64 e.health, .int .i64 e.wait]) (by simp [results, Try.results18, go_sem, r0, r1, r2, r3, r4, r5, r6, r7]) rfl ⟨by rw [HST.out], f1⟩
theorem rWalk (m : MapV) (s : MapS) (e : EntV) (mx my : Int) (w : World) (h : MapAt w w.heap.size m s) (hn : s.n ≤ 100000) (hn2 : s.n2 ≤ 100000) (x0 : -128 ≤ mx) (x1 : mx ≤ 127) (y0 : -128 ≤ my) (y1 : my ≤ 127) :
    Calls Try.prog 18 #[(.agg #[.int .i64 m.W, .int .i64 m.H, .slice s.A s.n s.c, .slice s.A2 s.n2 s.c2]), (.agg #[.int .i64 e.id, .int .i64 e.kind, .int .i64 e.at_.x, .int .i64 e.at_.y, .int .i64 e.vel.x, .int .i64 e.vel.y, .int .i64 e.health, .int .i64 e.wait]), .int .i8 mx, .int .i8 my] w fun r w' => r = .returned (.agg #[.int .i64 (walkF m e mx my).id, .int .i64 (walkF m e mx my).kind, .int .i64 (walkF m e mx my).at_.x, .int .i64 (walkF m e mx my).at_.y, .int .i64 (walkF m e mx my).vel.x, .int .i64 (walkF m e mx my).vel.y, .int .i64 (walkF m e mx my).health, .int .i64 (walkF m e mx my).wait]) ∧ Below w.heap.size w w' := by
  by_cases hno : refNo e mx my
  · have hw : walkF m e mx my = e := by unfold walkF; exact if_pos hno
    rw [hw]
    exact rWalkNo m s e mx my w hno
  · have e1 : entOk e = true := by
      cases he : entOk e
      · exact absurd (.inl he) hno
      · rfl
    have k1 : e.kind = 1 := by
      by_cases hk : e.kind = 1
      · exact hk
      · exact absurd (.inr (.inl hk)) hno
    have k2 : e.health ≠ 0 := fun hk => hno (.inr (.inr (.inl hk)))
    have m1 : mx ≠ -128 := fun hk => hno (.inr (.inr (.inr (.inl hk))))
    have m2 : my ≠ -128 := fun hk => hno (.inr (.inr (.inr (.inr hk))))
    exact rWalkYes m s e mx my w h hn hn2 e1 k1 k2 (by omega) x1 (by omega) y1
end Go.Proofs.Ythkgeeonhppliaa
