/- The walk of the reference's Roll. (Printed by gen_mroll.py.) -/
import Derived.Test.YthkgeeonhppliaaMWalk
import Derived.Test.YthkgeeonhppliaaRoll
set_option linter.unusedSimpArgs false
set_option linter.unusedVariables false
namespace Go.Proofs.Ythkgeeonhppliaa
open Go.RowKit
def refNoR (e : EntV) : Prop := entOk e = false ∨ e.kind ≠ 2
set_option maxRecDepth 100000 in
set_option maxHeartbeats 8000000 in
theorem rRollNo (m : MapV) (s : MapS) (e : EntV) (w : World) (hno : refNoR e) : Calls Try.prog 20 #[(.agg #[.int .i64 m.W, .int .i64 m.H, .slice s.A s.n s.c, .slice s.A2 s.n2 s.c2]), (.agg #[.int .i64 e.id, .int .i64 e.kind, .int .i64 e.at_.x, .int .i64 e.at_.y, .int .i64 e.vel.x, .int .i64 e.vel.y, .int .i64 e.health, .int .i64 e.wait])] w fun r w' => r = .returned (.agg #[.int .i64 e.id, .int .i64 e.kind, .int .i64 e.at_.x, .int .i64 e.at_.y, .int .i64 e.vel.x, .int .i64 e.vel.y, .int .i64 e.health, .int .i64 e.wait]) ∧ Below w.heap.size w w' := by
  have hF := fun W => rFormedE e W
  obtain ⟨f, hf⟩ : ∃ f, entOk e = f := ⟨_, rfl⟩
  obtain ⟨d1, h1⟩ : ∃ d, (e.kind != 2) = d := ⟨_, rfl⟩
  simp only [hf] at hF
  have hc : f = false ∨ f = true ∧ d1 = true := by
    unfold refNoR at hno
    rw [hf] at hno
    have e1 : e.kind ≠ 2 → d1 = true := fun h => by rw [← h1]; exact bne_iff_ne.2 h
    cases f with
    | false => exact .inl rfl
    | true => exact .inr ⟨rfl, hno.elim (fun h => by cases h) e1⟩
  have HF := Lib.hid hF
  have HX := Lib.hid (threeBoxes w #[.int .i64 m.W, .int .i64 m.H, .slice s.A s.n s.c, .slice s.A2 s.n2 s.c2] #[.int .i64 e.id, .int .i64 e.kind, .int .i64 e.at_.x, .int .i64 e.at_.y, .int .i64 e.vel.x, .int .i64 e.vel.y, .int .i64 e.health, .int .i64 e.wait] #[.int .i64 0, .int .i64 0, .int .i64 0, .int .i64 0, .int .i64 0, .int .i64 0, .int .i64 0, .int .i64 0] 45 30 30)
  clear hno hf hF
  rcases hc with rfl | ⟨rfl, rfl⟩
  all_goals
    go_enter Try.func20, Try.ntmps20
    go_wp2_with fail
    obtain ⟨B1, b1, b2, b3⟩ := HX.out
    generalize (((w.alloc (.cells #[.int .i64 m.W, .int .i64 m.H, .slice s.A s.n s.c, .slice s.A2 s.n2 s.c2] 45)).alloc (.cells #[.int .i64 e.id, .int .i64 e.kind, .int .i64 e.at_.x, .int .i64 e.at_.y, .int .i64 e.vel.x, .int .i64 e.vel.y, .int .i64 e.health, .int .i64 e.wait] 30)).alloc (.cells #[.int .i64 0, .int .i64 0, .int .i64 0, .int .i64 0, .int .i64 0, .int .i64 0, .int .i64 0, .int .i64 0] 30)) = wa at B1 b1 b2 b3 ⊢
    refine (HF.out wa).mono ?_
    rintro r w1 ⟨rfl, hb1⟩
    have B2 := Lib.hid (B1.trans (hb1.mono B1.size))
    have c2 := b2.below hb1 b2.lt
    have c3 := b3.below hb1 b3.lt
    have l1 := c2.lt
    have l2 := c3.lt
    have x0 : w1.cell? ⟨w.heap.size + 1, 0, none⟩ = some (.int .i64 e.id) := c2.cell 0
    have x1 : w1.cell? ⟨w.heap.size + 1, 1, none⟩ = some (.int .i64 e.kind) := c2.cell 1
    have x2 : w1.cell? ⟨w.heap.size + 1, 2, none⟩ = some (.int .i64 e.at_.x) := c2.cell 2
    have x3 : w1.cell? ⟨w.heap.size + 1, 3, none⟩ = some (.int .i64 e.at_.y) := c2.cell 3
    have x4 : w1.cell? ⟨w.heap.size + 1, 4, none⟩ = some (.int .i64 e.vel.x) := c2.cell 4
    have x5 : w1.cell? ⟨w.heap.size + 1, 5, none⟩ = some (.int .i64 e.vel.y) := c2.cell 5
    have x6 : w1.cell? ⟨w.heap.size + 1, 6, none⟩ = some (.int .i64 e.health) := c2.cell 6
    have x7 : w1.cell? ⟨w.heap.size + 1, 7, none⟩ = some (.int .i64 e.wait) := c2.cell 7
    have z0 := c3.cell 0
    have z1 := c3.cell 1
    have z2 := c3.cell 2
    have z3 := c3.cell 3
    have z4 := c3.cell 4
    have z5 := c3.cell 5
    have z6 := c3.cell 6
    have z7 := c3.cell 7
    have q : ∀ j, w1.frozen? ⟨w.heap.size + 2, j, none⟩ = false := c3.frozen
    simp only [List.getElem?_toArray, List.getElem?_cons_zero, List.getElem?_cons_succ] at z0 z1 z2 z3 z4 z5 z6 z7
    have C3 := Lib.hid c3
    clear hb1 b1 b2 b3 c2 c3 B1
    go_wp2
    have e0 : Blk ((((((((w1.setCell ⟨w.heap.size + 2, 0, none⟩ (.int .i64 e.id)).setCell ⟨w.heap.size + 2, 1, none⟩ (.int .i64 e.kind)).setCell ⟨w.heap.size + 2, 2, none⟩ (.int .i64 e.at_.x)).setCell ⟨w.heap.size + 2, 3, none⟩ (.int .i64 e.at_.y)).setCell ⟨w.heap.size + 2, 4, none⟩ (.int .i64 e.vel.x)).setCell ⟨w.heap.size + 2, 5, none⟩ (.int .i64 e.vel.y)).setCell ⟨w.heap.size + 2, 6, none⟩ (.int .i64 e.health)).setCell ⟨w.heap.size + 2, 7, none⟩ (.int .i64 e.wait)) (w.heap.size + 2) 30 #[.int .i64 e.id, .int .i64 e.kind, .int .i64 e.at_.x, .int .i64 e.at_.y, .int .i64 e.vel.x, .int .i64 e.vel.y, .int .i64 e.health, .int .i64 e.wait] := by
      have := ((((((((C3.out.set_ 0 (.int .i64 e.id)).set_ 1 (.int .i64 e.kind)).set_ 2 (.int .i64 e.at_.x)).set_ 3 (.int .i64 e.at_.y)).set_ 4 (.int .i64 e.vel.x)).set_ 5 (.int .i64 e.vel.y)).set_ 6 (.int .i64 e.health)).set_ 7 (.int .i64 e.wait))
      simpa using this
    have e1 : Below w.heap.size w ((((((((w1.setCell ⟨w.heap.size + 2, 0, none⟩ (.int .i64 e.id)).setCell ⟨w.heap.size + 2, 1, none⟩ (.int .i64 e.kind)).setCell ⟨w.heap.size + 2, 2, none⟩ (.int .i64 e.at_.x)).setCell ⟨w.heap.size + 2, 3, none⟩ (.int .i64 e.at_.y)).setCell ⟨w.heap.size + 2, 4, none⟩ (.int .i64 e.vel.x)).setCell ⟨w.heap.size + 2, 5, none⟩ (.int .i64 e.vel.y)).setCell ⟨w.heap.size + 2, 6, none⟩ (.int .i64 e.health)).setCell ⟨w.heap.size + 2, 7, none⟩ (.int .i64 e.wait)) := by have B2 := B2.out; exact (by repeat (first | with_reducible exact Below.refl _ _ | with_reducible assumption | with_reducible refine Below.drew ?_ | with_reducible refine below_drews ?_ _ | with_reducible refine Below.alloc ?_ (by first | omega | (simp; done) | (simp; omega)) _ | with_reducible refine Below.setCell ?_ (by first | omega | (simp; done) | (simp; omega)) _))
    generalize ((((((((w1.setCell ⟨w.heap.size + 2, 0, none⟩ (.int .i64 e.id)).setCell ⟨w.heap.size + 2, 1, none⟩ (.int .i64 e.kind)).setCell ⟨w.heap.size + 2, 2, none⟩ (.int .i64 e.at_.x)).setCell ⟨w.heap.size + 2, 3, none⟩ (.int .i64 e.at_.y)).setCell ⟨w.heap.size + 2, 4, none⟩ (.int .i64 e.vel.x)).setCell ⟨w.heap.size + 2, 5, none⟩ (.int .i64 e.vel.y)).setCell ⟨w.heap.size + 2, 6, none⟩ (.int .i64 e.health)).setCell ⟨w.heap.size + 2, 7, none⟩ (.int .i64 e.wait)) = wf at e0 e1 ⊢
    have r0 : wf.cell? ⟨w.heap.size + 2, 0, none⟩ = some (.int .i64 e.id) := e0.cell 0
    have r1 : wf.cell? ⟨w.heap.size + 2, 1, none⟩ = some (.int .i64 e.kind) := e0.cell 1
    have r2 : wf.cell? ⟨w.heap.size + 2, 2, none⟩ = some (.int .i64 e.at_.x) := e0.cell 2
    have r3 : wf.cell? ⟨w.heap.size + 2, 3, none⟩ = some (.int .i64 e.at_.y) := e0.cell 3
    have r4 : wf.cell? ⟨w.heap.size + 2, 4, none⟩ = some (.int .i64 e.vel.x) := e0.cell 4
    have r5 : wf.cell? ⟨w.heap.size + 2, 5, none⟩ = some (.int .i64 e.vel.y) := e0.cell 5
    have r6 : wf.cell? ⟨w.heap.size + 2, 6, none⟩ = some (.int .i64 e.health) := e0.cell 6
    have r7 : wf.cell? ⟨w.heap.size + 2, 7, none⟩ = some (.int .i64 e.wait) := e0.cell 7
    clear x0 x1 x2 x3 x4 x5 x6 x7 z0 z1 z2 z3 z4 z5 z6 z7 q
    exact bodyPost_ret (v := .agg #[.int .i64 e.id, .int .i64 e.kind, .int .i64 e.at_.x, .int .i64 e.at_.y, .int .i64 e.vel.x, .int .i64 e.vel.y, .int .i64 e.health, .int .i64 e.wait]) (by simp [results, Try.results20, go_sem, r0, r1, r2, r3, r4, r5, r6, r7]) rfl ⟨rfl, e1⟩
set_option maxRecDepth 100000 in
set_option maxHeartbeats 16000000 in
theorem rRollYes (m : MapV) (s : MapS) (e : EntV) (w : World) (h : MapAt w w.heap.size m s) (hn : s.n ≤ 100000) (hn2 : s.n2 ≤ 100000) (e1 : entOk e = true) (k1 : e.kind = 2) :
    Calls Try.prog 20 #[(.agg #[.int .i64 m.W, .int .i64 m.H, .slice s.A s.n s.c, .slice s.A2 s.n2 s.c2]), (.agg #[.int .i64 e.id, .int .i64 e.kind, .int .i64 e.at_.x, .int .i64 e.at_.y, .int .i64 e.vel.x, .int .i64 e.vel.y, .int .i64 e.health, .int .i64 e.wait])] w fun r w' => r = .returned (.agg #[.int .i64 (rollF m e).id, .int .i64 (rollF m e).kind, .int .i64 (rollF m e).at_.x, .int .i64 (rollF m e).at_.y, .int .i64 (rollF m e).vel.x, .int .i64 (rollF m e).vel.y, .int .i64 (rollF m e).health, .int .i64 (rollF m e).wait]) ∧ Below w.heap.size w w' := by
  have hF := fun W => rFormedE e W
  simp only [e1] at hF
  have hlim := entOk_le e1
  obtain ⟨ok, hok⟩ : ∃ o, standsB m ⟨e.at_.x + e.vel.x, e.at_.y⟩ = o := ⟨_, rfl⟩
  obtain ⟨ax, hax⟩ : ∃ a, (if ok then e.at_.x + e.vel.x else e.at_.x) = a := ⟨_, rfl⟩
  obtain ⟨vx, hvx⟩ : ∃ a, (if ok then e.vel.x else -e.vel.x) = a := ⟨_, rfl⟩
  obtain ⟨fine, hfine⟩ : ∃ o, standsB m ⟨ax, e.at_.y + e.vel.y⟩ = o := ⟨_, rfl⟩
  obtain ⟨ay, hay⟩ : ∃ a, (if fine then e.at_.y + e.vel.y else e.at_.y) = a := ⟨_, rfl⟩
  obtain ⟨vy, hvy⟩ : ∃ a, (if fine then e.vel.y else -e.vel.y) = a := ⟨_, rfl⟩
  have hst : rollF m e = ⟨e.id, e.kind, ⟨ax, ay⟩, ⟨vx, vy⟩, e.health, e.wait⟩ := by
    unfold rollF
    rw [if_neg]
    · unfold stepped
      simp only [hok, hax, hfine, hay, hvx, hvy]
    · rintro (h | h)
      · rw [e1] at h; cases h
      · exact h k1
  have haxb : -134300000 ≤ ax ∧ ax ≤ 134300000 := by rw [← hax]; split <;> omega
  have HST := Lib.hid hst
  have HAX := Lib.hid hax
  have HAY := Lib.hid hay
  have HVX := Lib.hid hvx
  have HVY := Lib.hid hvy
  have HS1 := Lib.hid (fun W (hW : Below w.heap.size w W) => show Calls Try.prog 21 #[(.agg #[.int .i64 m.W, .int .i64 m.H, .slice s.A s.n s.c, .slice s.A2 s.n2 s.c2]), (.agg #[.int .i64 (e.at_.x + e.vel.x), .int .i64 e.at_.y])] W fun r w' => r = .returned (.bool ok) ∧ Below W.heap.size W w' from by rw [← hok]; exact rStands m s (e.at_.x + e.vel.x) e.at_.y W ((h.below hW).upto hW.size) hn hn2)
  have HS2 := Lib.hid (fun W (hW : Below w.heap.size w W) => show Calls Try.prog 21 #[(.agg #[.int .i64 m.W, .int .i64 m.H, .slice s.A s.n s.c, .slice s.A2 s.n2 s.c2]), (.agg #[.int .i64 ax, .int .i64 (e.at_.y + e.vel.y)])] W fun r w' => r = .returned (.bool fine) ∧ Below W.heap.size W w' from by rw [← hfine]; exact rStands m s ax (e.at_.y + e.vel.y) W ((h.below hW).upto hW.size) hn hn2)
  have t1 : (e.kind != 2) = false := bne_eq_false_iff_eq.2 k1
  have HF := Lib.hid hF
  have HX := Lib.hid (threeBoxes w #[.int .i64 m.W, .int .i64 m.H, .slice s.A s.n s.c, .slice s.A2 s.n2 s.c2] #[.int .i64 e.id, .int .i64 e.kind, .int .i64 e.at_.x, .int .i64 e.at_.y, .int .i64 e.vel.x, .int .i64 e.vel.y, .int .i64 e.health, .int .i64 e.wait] #[.int .i64 0, .int .i64 0, .int .i64 0, .int .i64 0, .int .i64 0, .int .i64 0, .int .i64 0, .int .i64 0] 45 30 30)
  clear hF hok hax hfine hay hst h e1 k1 hvx hvy
  go_enter Try.func20, Try.ntmps20
  go_wp2_with fail
  obtain ⟨B1, b1, b2, b3⟩ := HX.out
  generalize (((w.alloc (.cells #[.int .i64 m.W, .int .i64 m.H, .slice s.A s.n s.c, .slice s.A2 s.n2 s.c2] 45)).alloc (.cells #[.int .i64 e.id, .int .i64 e.kind, .int .i64 e.at_.x, .int .i64 e.at_.y, .int .i64 e.vel.x, .int .i64 e.vel.y, .int .i64 e.health, .int .i64 e.wait] 30)).alloc (.cells #[.int .i64 0, .int .i64 0, .int .i64 0, .int .i64 0, .int .i64 0, .int .i64 0, .int .i64 0, .int .i64 0] 30)) = wa at B1 b1 b2 b3 ⊢
  refine (HF.out wa).mono ?_
  rintro r wc ⟨rfl, hb1⟩
  have HB := Lib.hid (B1.trans (hb1.mono B1.size))
  have HMB := Lib.hid (b1.below hb1 b1.lt)
  have HEB := Lib.hid (b2.below hb1 b2.lt)
  have HRB := Lib.hid (b3.below hb1 b3.lt)
  clear hb1 b1 b2 b3 B1 HX HF
  have l1 := HEB.out.lt
  have l2 := HRB.out.lt
  have hB := HB.out.size
  have mm0 : wc.cell? ⟨w.heap.size, 0, none⟩ = some (.int .i64 m.W) := HMB.out.cell 0
  have mm1 : wc.cell? ⟨w.heap.size, 1, none⟩ = some (.int .i64 m.H) := HMB.out.cell 1
  have mm2 : wc.cell? ⟨w.heap.size, 2, none⟩ = some (.slice s.A s.n s.c) := HMB.out.cell 2
  have mm3 : wc.cell? ⟨w.heap.size, 3, none⟩ = some (.slice s.A2 s.n2 s.c2) := HMB.out.cell 3
  have ee0 : wc.cell? ⟨w.heap.size + 1, 0, none⟩ = some (.int .i64 e.id) := HEB.out.cell 0
  have ee1 : wc.cell? ⟨w.heap.size + 1, 1, none⟩ = some (.int .i64 e.kind) := HEB.out.cell 1
  have ee2 : wc.cell? ⟨w.heap.size + 1, 2, none⟩ = some (.int .i64 e.at_.x) := HEB.out.cell 2
  have ee3 : wc.cell? ⟨w.heap.size + 1, 3, none⟩ = some (.int .i64 e.at_.y) := HEB.out.cell 3
  have ee4 : wc.cell? ⟨w.heap.size + 1, 4, none⟩ = some (.int .i64 e.vel.x) := HEB.out.cell 4
  have ee5 : wc.cell? ⟨w.heap.size + 1, 5, none⟩ = some (.int .i64 e.vel.y) := HEB.out.cell 5
  have ee6 : wc.cell? ⟨w.heap.size + 1, 6, none⟩ = some (.int .i64 e.health) := HEB.out.cell 6
  have ee7 : wc.cell? ⟨w.heap.size + 1, 7, none⟩ = some (.int .i64 e.wait) := HEB.out.cell 7
  have qq : ∀ j, wc.frozen? ⟨w.heap.size + 1, j, none⟩ = false := HEB.out.frozen
  go_upto_region 4 with (fail)
  have HTB := Lib.hid (Blk.new wc 28 #[.int .i64 (e.at_.x + e.vel.x), .int .i64 e.at_.y])
  have HTBq : Blk (wc.alloc (.cells #[.int .i64 (e.at_.x + e.vel.x), .int .i64 e.at_.y] 28)) wc.heap.size 28 #[.int .i64 (e.at_.x + e.vel.x), .int .i64 e.at_.y] := HTB.out
  have HMBq : Blk (wc.alloc (.cells #[.int .i64 (e.at_.x + e.vel.x), .int .i64 e.at_.y] 28)) w.heap.size 45 #[.int .i64 m.W, .int .i64 m.H, .slice s.A s.n s.c, .slice s.A2 s.n2 s.c2] := HMB.out.alloc _
  have HEBq : Blk (wc.alloc (.cells #[.int .i64 (e.at_.x + e.vel.x), .int .i64 e.at_.y] 28)) (w.heap.size + 1) 30 #[.int .i64 e.id, .int .i64 e.kind, .int .i64 e.at_.x, .int .i64 e.at_.y, .int .i64 e.vel.x, .int .i64 e.vel.y, .int .i64 e.health, .int .i64 e.wait] := HEB.out.alloc _
  have HRBq : Blk (wc.alloc (.cells #[.int .i64 (e.at_.x + e.vel.x), .int .i64 e.at_.y] 28)) (w.heap.size + 2) 30 #[.int .i64 0, .int .i64 0, .int .i64 0, .int .i64 0, .int .i64 0, .int .i64 0, .int .i64 0, .int .i64 0] := HRB.out.alloc _
  have HBq : Below w.heap.size w (wc.alloc (.cells #[.int .i64 (e.at_.x + e.vel.x), .int .i64 e.at_.y] 28)) := HB.out.alloc HB.out.size _
  generalize (wc.alloc (.cells #[.int .i64 (e.at_.x + e.vel.x), .int .i64 e.at_.y] 28)) = wd at HTBq HMBq HEBq HRBq HBq ⊢
  have HTB := Lib.hid HTBq
  have HMB := Lib.hid HMBq
  have HEB := Lib.hid HEBq
  have HRB := Lib.hid HRBq
  have HB := Lib.hid HBq
  clear HTBq HMBq HEBq HRBq HBq
  obtain ⟨tb, htb⟩ : ∃ tb, wc.heap.size = tb := ⟨_, rfl⟩
  rw [htb] at HTB l1 l2 hB ⊢
  clear mm0 mm1 mm2 mm3 ee0 ee1 ee2 ee3 ee4 ee5 ee6 ee7 qq
  have mm0 : wd.cell? ⟨w.heap.size, 0, none⟩ = some (.int .i64 m.W) := HMB.out.cell 0
  have mm1 : wd.cell? ⟨w.heap.size, 1, none⟩ = some (.int .i64 m.H) := HMB.out.cell 1
  have mm2 : wd.cell? ⟨w.heap.size, 2, none⟩ = some (.slice s.A s.n s.c) := HMB.out.cell 2
  have mm3 : wd.cell? ⟨w.heap.size, 3, none⟩ = some (.slice s.A2 s.n2 s.c2) := HMB.out.cell 3
  have ee0 : wd.cell? ⟨w.heap.size + 1, 0, none⟩ = some (.int .i64 e.id) := HEB.out.cell 0
  have ee1 : wd.cell? ⟨w.heap.size + 1, 1, none⟩ = some (.int .i64 e.kind) := HEB.out.cell 1
  have ee2 : wd.cell? ⟨w.heap.size + 1, 2, none⟩ = some (.int .i64 e.at_.x) := HEB.out.cell 2
  have ee3 : wd.cell? ⟨w.heap.size + 1, 3, none⟩ = some (.int .i64 e.at_.y) := HEB.out.cell 3
  have ee4 : wd.cell? ⟨w.heap.size + 1, 4, none⟩ = some (.int .i64 e.vel.x) := HEB.out.cell 4
  have ee5 : wd.cell? ⟨w.heap.size + 1, 5, none⟩ = some (.int .i64 e.vel.y) := HEB.out.cell 5
  have ee6 : wd.cell? ⟨w.heap.size + 1, 6, none⟩ = some (.int .i64 e.health) := HEB.out.cell 6
  have ee7 : wd.cell? ⟨w.heap.size + 1, 7, none⟩ = some (.int .i64 e.wait) := HEB.out.cell 7
  have qq : ∀ j, wd.frozen? ⟨w.heap.size + 1, j, none⟩ = false := HEB.out.frozen
  have tt0 : wd.cell? ⟨tb, 0, none⟩ = some (.int .i64 (e.at_.x + e.vel.x)) := HTB.out.cell 0
  have tt1 : wd.cell? ⟨tb, 1, none⟩ = some (.int .i64 e.at_.y) := HTB.out.cell 1
  go_wp2_with fail
  refine (HS1.out wd HB.out).mono ?_
  rintro r we ⟨rfl, hb1⟩
  have HMB := Lib.hid (HMB.out.below hb1 HMB.out.lt)
  have HEB := Lib.hid (HEB.out.below hb1 HEB.out.lt)
  have HRB := Lib.hid (HRB.out.below hb1 HRB.out.lt)
  have HTB := Lib.hid (HTB.out.below hb1 HTB.out.lt)
  have HB := Lib.hid (HB.out.trans (hb1.mono HB.out.size))
  have lt0 := HTB.out.lt
  clear mm0 mm1 mm2 mm3 ee0 ee1 ee2 ee3 ee4 ee5 ee6 ee7 qq tt0 tt1 hb1 l1 l2 hB
  have l1 := HEB.out.lt
  have l2 := HRB.out.lt
  have hB := HB.out.size
  have mm0 : we.cell? ⟨w.heap.size, 0, none⟩ = some (.int .i64 m.W) := HMB.out.cell 0
  have mm1 : we.cell? ⟨w.heap.size, 1, none⟩ = some (.int .i64 m.H) := HMB.out.cell 1
  have mm2 : we.cell? ⟨w.heap.size, 2, none⟩ = some (.slice s.A s.n s.c) := HMB.out.cell 2
  have mm3 : we.cell? ⟨w.heap.size, 3, none⟩ = some (.slice s.A2 s.n2 s.c2) := HMB.out.cell 3
  have ee0 : we.cell? ⟨w.heap.size + 1, 0, none⟩ = some (.int .i64 e.id) := HEB.out.cell 0
  have ee1 : we.cell? ⟨w.heap.size + 1, 1, none⟩ = some (.int .i64 e.kind) := HEB.out.cell 1
  have ee2 : we.cell? ⟨w.heap.size + 1, 2, none⟩ = some (.int .i64 e.at_.x) := HEB.out.cell 2
  have ee3 : we.cell? ⟨w.heap.size + 1, 3, none⟩ = some (.int .i64 e.at_.y) := HEB.out.cell 3
  have ee4 : we.cell? ⟨w.heap.size + 1, 4, none⟩ = some (.int .i64 e.vel.x) := HEB.out.cell 4
  have ee5 : we.cell? ⟨w.heap.size + 1, 5, none⟩ = some (.int .i64 e.vel.y) := HEB.out.cell 5
  have ee6 : we.cell? ⟨w.heap.size + 1, 6, none⟩ = some (.int .i64 e.health) := HEB.out.cell 6
  have ee7 : we.cell? ⟨w.heap.size + 1, 7, none⟩ = some (.int .i64 e.wait) := HEB.out.cell 7
  have qq : ∀ j, we.frozen? ⟨w.heap.size + 1, j, none⟩ = false := HEB.out.frozen
  have tt0 : we.cell? ⟨tb, 0, none⟩ = some (.int .i64 (e.at_.x + e.vel.x)) := HTB.out.cell 0
  have tt1 : we.cell? ⟨tb, 1, none⟩ = some (.int .i64 e.at_.y) := HTB.out.cell 1
  go_upto_if 29 with (fail)
  go_cut [] (fun wx => Blk wx w.heap.size 45 #[.int .i64 m.W, .int .i64 m.H, .slice s.A s.n s.c, .slice s.A2 s.n2 s.c2] ∧ Blk wx (w.heap.size + 1) 30 #[.int .i64 e.id, .int .i64 e.kind, .int .i64 ax, .int .i64 e.at_.y, .int .i64 vx, .int .i64 e.vel.y, .int .i64 e.health, .int .i64 e.wait] ∧ Blk wx (w.heap.size + 2) 30 #[.int .i64 0, .int .i64 0, .int .i64 0, .int .i64 0, .int .i64 0, .int .i64 0, .int .i64 0, .int .i64 0] ∧ Below w.heap.size w wx)
  case first =>
    cases ok with
    | true =>
      have hx : e.at_.x + e.vel.x = ax := HAX.out
      have hv : e.vel.x = vx := HVX.out
      have HV := Lib.hid hv
      clear hv
      go_wp2_with fail
      go_meet
      (try rw [hx])
      refine ⟨?_, ?_, ?_, ?_⟩
      · exact (Blk.far (p := ⟨w.heap.size + 1, 3, none⟩) (Blk.far (p := ⟨w.heap.size + 1, 2, none⟩) HMB.out (by show w.heap.size ≠ w.heap.size + 1; omega) _) (by show w.heap.size ≠ w.heap.size + 1; omega) _)
      · have := ((HEB.out.set_ 2 (.int .i64 ax)).set_ 3 (.int .i64 e.at_.y))
        rw [← HV.out]
        simpa using this
      · exact (Blk.far (p := ⟨w.heap.size + 1, 3, none⟩) (Blk.far (p := ⟨w.heap.size + 1, 2, none⟩) HRB.out (by show w.heap.size + 2 ≠ w.heap.size + 1; omega) _) (by show w.heap.size + 2 ≠ w.heap.size + 1; omega) _)
      · exact (Below.setCell (Below.setCell HB.out (p := ⟨w.heap.size + 1, 2, none⟩) (by show w.heap.size ≤ w.heap.size + 1; omega) _) (p := ⟨w.heap.size + 1, 3, none⟩) (by show w.heap.size ≤ w.heap.size + 1; omega) _)
    | false =>
      have hx : e.at_.x = ax := HAX.out
      have hv : -e.vel.x = vx := HVX.out
      have HXX := Lib.hid hx
      clear hx
      go_wp2_with fail
      go_meet
      (try rw [hv])
      refine ⟨(Blk.far (p := ⟨w.heap.size + 1, 4, none⟩) HMB.out (by show w.heap.size ≠ w.heap.size + 1; omega) _), ?_, (Blk.far (p := ⟨w.heap.size + 1, 4, none⟩) HRB.out (by show w.heap.size + 2 ≠ w.heap.size + 1; omega) _), (Below.setCell HB.out (p := ⟨w.heap.size + 1, 4, none⟩) (by show w.heap.size ≤ w.heap.size + 1; omega) _)⟩
      rw [← HXX.out]
      have := HEB.out.set_ 4 (.int .i64 vx)
      simpa using this
  case rest =>
    obtain ⟨hm1, hm2, hm3, hm4⟩ := hcut
    obtain ⟨wf, hwf⟩ : ∃ wf : World, wf = wc := ⟨_, rfl⟩
    subst hwf
    clear HMB HEB HRB HTB HB l1 l2 hB lt0 tt0 tt1 mm0 mm1 mm2 mm3 ee0 ee1 ee2 ee3 ee4 ee5 ee6 ee7 qq
    have HMB := Lib.hid hm1
    have HEB := Lib.hid hm2
    have HRB := Lib.hid hm3
    have HB := Lib.hid hm4
    clear hm1 hm2 hm3 hm4
    have l1 := HEB.out.lt
    have l2 := HRB.out.lt
    have hB := HB.out.size
    have mm0 : wf.cell? ⟨w.heap.size, 0, none⟩ = some (.int .i64 m.W) := HMB.out.cell 0
    have mm1 : wf.cell? ⟨w.heap.size, 1, none⟩ = some (.int .i64 m.H) := HMB.out.cell 1
    have mm2 : wf.cell? ⟨w.heap.size, 2, none⟩ = some (.slice s.A s.n s.c) := HMB.out.cell 2
    have mm3 : wf.cell? ⟨w.heap.size, 3, none⟩ = some (.slice s.A2 s.n2 s.c2) := HMB.out.cell 3
    have ee0 : wf.cell? ⟨w.heap.size + 1, 0, none⟩ = some (.int .i64 e.id) := HEB.out.cell 0
    have ee1 : wf.cell? ⟨w.heap.size + 1, 1, none⟩ = some (.int .i64 e.kind) := HEB.out.cell 1
    have ee2 : wf.cell? ⟨w.heap.size + 1, 2, none⟩ = some (.int .i64 ax) := HEB.out.cell 2
    have ee3 : wf.cell? ⟨w.heap.size + 1, 3, none⟩ = some (.int .i64 e.at_.y) := HEB.out.cell 3
    have ee4 : wf.cell? ⟨w.heap.size + 1, 4, none⟩ = some (.int .i64 vx) := HEB.out.cell 4
    have ee5 : wf.cell? ⟨w.heap.size + 1, 5, none⟩ = some (.int .i64 e.vel.y) := HEB.out.cell 5
    have ee6 : wf.cell? ⟨w.heap.size + 1, 6, none⟩ = some (.int .i64 e.health) := HEB.out.cell 6
    have ee7 : wf.cell? ⟨w.heap.size + 1, 7, none⟩ = some (.int .i64 e.wait) := HEB.out.cell 7
    have qq : ∀ j, wf.frozen? ⟨w.heap.size + 1, j, none⟩ = false := HEB.out.frozen
    go_upto_region 8 with (fail)
    have HTB := Lib.hid (Blk.new wf 28 #[.int .i64 ax, .int .i64 (e.at_.y + e.vel.y)])
    have HTBq : Blk (wf.alloc (.cells #[.int .i64 ax, .int .i64 (e.at_.y + e.vel.y)] 28)) wf.heap.size 28 #[.int .i64 ax, .int .i64 (e.at_.y + e.vel.y)] := HTB.out
    have HMBq : Blk (wf.alloc (.cells #[.int .i64 ax, .int .i64 (e.at_.y + e.vel.y)] 28)) w.heap.size 45 #[.int .i64 m.W, .int .i64 m.H, .slice s.A s.n s.c, .slice s.A2 s.n2 s.c2] := HMB.out.alloc _
    have HEBq : Blk (wf.alloc (.cells #[.int .i64 ax, .int .i64 (e.at_.y + e.vel.y)] 28)) (w.heap.size + 1) 30 #[.int .i64 e.id, .int .i64 e.kind, .int .i64 ax, .int .i64 e.at_.y, .int .i64 vx, .int .i64 e.vel.y, .int .i64 e.health, .int .i64 e.wait] := HEB.out.alloc _
    have HRBq : Blk (wf.alloc (.cells #[.int .i64 ax, .int .i64 (e.at_.y + e.vel.y)] 28)) (w.heap.size + 2) 30 #[.int .i64 0, .int .i64 0, .int .i64 0, .int .i64 0, .int .i64 0, .int .i64 0, .int .i64 0, .int .i64 0] := HRB.out.alloc _
    have HBq : Below w.heap.size w (wf.alloc (.cells #[.int .i64 ax, .int .i64 (e.at_.y + e.vel.y)] 28)) := HB.out.alloc HB.out.size _
    generalize (wf.alloc (.cells #[.int .i64 ax, .int .i64 (e.at_.y + e.vel.y)] 28)) = wg at HTBq HMBq HEBq HRBq HBq ⊢
    have HTB := Lib.hid HTBq
    have HMB := Lib.hid HMBq
    have HEB := Lib.hid HEBq
    have HRB := Lib.hid HRBq
    have HB := Lib.hid HBq
    clear HTBq HMBq HEBq HRBq HBq
    obtain ⟨tb2, htb2⟩ : ∃ tb, wf.heap.size = tb := ⟨_, rfl⟩
    rw [htb2] at HTB l1 l2 hB ⊢
    clear mm0 mm1 mm2 mm3 ee0 ee1 ee2 ee3 ee4 ee5 ee6 ee7 qq
    have mm0 : wg.cell? ⟨w.heap.size, 0, none⟩ = some (.int .i64 m.W) := HMB.out.cell 0
    have mm1 : wg.cell? ⟨w.heap.size, 1, none⟩ = some (.int .i64 m.H) := HMB.out.cell 1
    have mm2 : wg.cell? ⟨w.heap.size, 2, none⟩ = some (.slice s.A s.n s.c) := HMB.out.cell 2
    have mm3 : wg.cell? ⟨w.heap.size, 3, none⟩ = some (.slice s.A2 s.n2 s.c2) := HMB.out.cell 3
    have ee0 : wg.cell? ⟨w.heap.size + 1, 0, none⟩ = some (.int .i64 e.id) := HEB.out.cell 0
    have ee1 : wg.cell? ⟨w.heap.size + 1, 1, none⟩ = some (.int .i64 e.kind) := HEB.out.cell 1
    have ee2 : wg.cell? ⟨w.heap.size + 1, 2, none⟩ = some (.int .i64 ax) := HEB.out.cell 2
    have ee3 : wg.cell? ⟨w.heap.size + 1, 3, none⟩ = some (.int .i64 e.at_.y) := HEB.out.cell 3
    have ee4 : wg.cell? ⟨w.heap.size + 1, 4, none⟩ = some (.int .i64 vx) := HEB.out.cell 4
    have ee5 : wg.cell? ⟨w.heap.size + 1, 5, none⟩ = some (.int .i64 e.vel.y) := HEB.out.cell 5
    have ee6 : wg.cell? ⟨w.heap.size + 1, 6, none⟩ = some (.int .i64 e.health) := HEB.out.cell 6
    have ee7 : wg.cell? ⟨w.heap.size + 1, 7, none⟩ = some (.int .i64 e.wait) := HEB.out.cell 7
    have qq : ∀ j, wg.frozen? ⟨w.heap.size + 1, j, none⟩ = false := HEB.out.frozen
    have tt0 : wg.cell? ⟨tb2, 0, none⟩ = some (.int .i64 ax) := HTB.out.cell 0
    have tt1 : wg.cell? ⟨tb2, 1, none⟩ = some (.int .i64 (e.at_.y + e.vel.y)) := HTB.out.cell 1
    go_wp2_with fail
    refine (HS2.out wg HB.out).mono ?_
    rintro r wh ⟨rfl, hb1⟩
    have HMB := Lib.hid (HMB.out.below hb1 HMB.out.lt)
    have HEB := Lib.hid (HEB.out.below hb1 HEB.out.lt)
    have HRB := Lib.hid (HRB.out.below hb1 HRB.out.lt)
    have HTB := Lib.hid (HTB.out.below hb1 HTB.out.lt)
    have HB := Lib.hid (HB.out.trans (hb1.mono HB.out.size))
    have lt0 := HTB.out.lt
    clear mm0 mm1 mm2 mm3 ee0 ee1 ee2 ee3 ee4 ee5 ee6 ee7 qq tt0 tt1 hb1 l1 l2 hB
    have l1 := HEB.out.lt
    have l2 := HRB.out.lt
    have hB := HB.out.size
    have mm0 : wh.cell? ⟨w.heap.size, 0, none⟩ = some (.int .i64 m.W) := HMB.out.cell 0
    have mm1 : wh.cell? ⟨w.heap.size, 1, none⟩ = some (.int .i64 m.H) := HMB.out.cell 1
    have mm2 : wh.cell? ⟨w.heap.size, 2, none⟩ = some (.slice s.A s.n s.c) := HMB.out.cell 2
    have mm3 : wh.cell? ⟨w.heap.size, 3, none⟩ = some (.slice s.A2 s.n2 s.c2) := HMB.out.cell 3
    have ee0 : wh.cell? ⟨w.heap.size + 1, 0, none⟩ = some (.int .i64 e.id) := HEB.out.cell 0
    have ee1 : wh.cell? ⟨w.heap.size + 1, 1, none⟩ = some (.int .i64 e.kind) := HEB.out.cell 1
    have ee2 : wh.cell? ⟨w.heap.size + 1, 2, none⟩ = some (.int .i64 ax) := HEB.out.cell 2
    have ee3 : wh.cell? ⟨w.heap.size + 1, 3, none⟩ = some (.int .i64 e.at_.y) := HEB.out.cell 3
    have ee4 : wh.cell? ⟨w.heap.size + 1, 4, none⟩ = some (.int .i64 vx) := HEB.out.cell 4
    have ee5 : wh.cell? ⟨w.heap.size + 1, 5, none⟩ = some (.int .i64 e.vel.y) := HEB.out.cell 5
    have ee6 : wh.cell? ⟨w.heap.size + 1, 6, none⟩ = some (.int .i64 e.health) := HEB.out.cell 6
    have ee7 : wh.cell? ⟨w.heap.size + 1, 7, none⟩ = some (.int .i64 e.wait) := HEB.out.cell 7
    have qq : ∀ j, wh.frozen? ⟨w.heap.size + 1, j, none⟩ = false := HEB.out.frozen
    have tt0 : wh.cell? ⟨tb2, 0, none⟩ = some (.int .i64 ax) := HTB.out.cell 0
    have tt1 : wh.cell? ⟨tb2, 1, none⟩ = some (.int .i64 (e.at_.y + e.vel.y)) := HTB.out.cell 1
    go_upto_if 51 with (fail)
    go_cut [] (fun wx => Blk wx (w.heap.size + 1) 30 #[.int .i64 e.id, .int .i64 e.kind, .int .i64 ax, .int .i64 ay, .int .i64 vx, .int .i64 vy, .int .i64 e.health, .int .i64 e.wait] ∧ Blk wx (w.heap.size + 2) 30 #[.int .i64 0, .int .i64 0, .int .i64 0, .int .i64 0, .int .i64 0, .int .i64 0, .int .i64 0, .int .i64 0] ∧ Below w.heap.size w wx)
    case first =>
      cases fine with
      | true =>
        have hx : e.at_.y + e.vel.y = ay := HAY.out
        have hv : e.vel.y = vy := HVY.out
        have HV := Lib.hid hv
        clear hv
        go_wp2_with fail
        go_meet
        (try rw [hx])
        refine ⟨?_, ?_, ?_⟩
        · have := ((HEB.out.set_ 2 (.int .i64 ax)).set_ 3 (.int .i64 ay))
          rw [← HV.out]
          simpa using this
        · exact (Blk.far (p := ⟨w.heap.size + 1, 3, none⟩) (Blk.far (p := ⟨w.heap.size + 1, 2, none⟩) HRB.out (by show w.heap.size + 2 ≠ w.heap.size + 1; omega) _) (by show w.heap.size + 2 ≠ w.heap.size + 1; omega) _)
        · exact (Below.setCell (Below.setCell HB.out (p := ⟨w.heap.size + 1, 2, none⟩) (by show w.heap.size ≤ w.heap.size + 1; omega) _) (p := ⟨w.heap.size + 1, 3, none⟩) (by show w.heap.size ≤ w.heap.size + 1; omega) _)
      | false =>
        have hx : e.at_.y = ay := HAY.out
        have hv : -e.vel.y = vy := HVY.out
        have HXX := Lib.hid hx
        clear hx
        go_wp2_with fail
        go_meet
        (try rw [hv])
        refine ⟨?_, (Blk.far (p := ⟨w.heap.size + 1, 5, none⟩) HRB.out (by show w.heap.size + 2 ≠ w.heap.size + 1; omega) _), (Below.setCell HB.out (p := ⟨w.heap.size + 1, 5, none⟩) (by show w.heap.size ≤ w.heap.size + 1; omega) _)⟩
        rw [← HXX.out]
        have := HEB.out.set_ 5 (.int .i64 vy)
        simpa using this
    case rest =>
      obtain ⟨hm2, hm3, hm4⟩ := hcut
      obtain ⟨wi, hwi⟩ : ∃ wi : World, wi = wc := ⟨_, rfl⟩
      subst hwi
      clear HMB HEB HRB HTB HB l1 l2 hB lt0 tt0 tt1 mm0 mm1 mm2 mm3 ee0 ee1 ee2 ee3 ee4 ee5 ee6 ee7 qq
      have HEB := Lib.hid hm2
      have HRB := Lib.hid hm3
      have HB := Lib.hid hm4
      clear hm2 hm3 hm4
      have l1 := HEB.out.lt
      have l2 := HRB.out.lt
      have hB := HB.out.size
      have ee0 : wi.cell? ⟨w.heap.size + 1, 0, none⟩ = some (.int .i64 e.id) := HEB.out.cell 0
      have ee1 : wi.cell? ⟨w.heap.size + 1, 1, none⟩ = some (.int .i64 e.kind) := HEB.out.cell 1
      have ee2 : wi.cell? ⟨w.heap.size + 1, 2, none⟩ = some (.int .i64 ax) := HEB.out.cell 2
      have ee3 : wi.cell? ⟨w.heap.size + 1, 3, none⟩ = some (.int .i64 ay) := HEB.out.cell 3
      have ee4 : wi.cell? ⟨w.heap.size + 1, 4, none⟩ = some (.int .i64 vx) := HEB.out.cell 4
      have ee5 : wi.cell? ⟨w.heap.size + 1, 5, none⟩ = some (.int .i64 vy) := HEB.out.cell 5
      have ee6 : wi.cell? ⟨w.heap.size + 1, 6, none⟩ = some (.int .i64 e.health) := HEB.out.cell 6
      have ee7 : wi.cell? ⟨w.heap.size + 1, 7, none⟩ = some (.int .i64 e.wait) := HEB.out.cell 7
      have rr0 : wi.cell? ⟨w.heap.size + 2, 0, none⟩ = some (.int .i64 0) := HRB.out.cell 0
      have rr1 : wi.cell? ⟨w.heap.size + 2, 1, none⟩ = some (.int .i64 0) := HRB.out.cell 1
      have rr2 : wi.cell? ⟨w.heap.size + 2, 2, none⟩ = some (.int .i64 0) := HRB.out.cell 2
      have rr3 : wi.cell? ⟨w.heap.size + 2, 3, none⟩ = some (.int .i64 0) := HRB.out.cell 3
      have rr4 : wi.cell? ⟨w.heap.size + 2, 4, none⟩ = some (.int .i64 0) := HRB.out.cell 4
      have rr5 : wi.cell? ⟨w.heap.size + 2, 5, none⟩ = some (.int .i64 0) := HRB.out.cell 5
      have rr6 : wi.cell? ⟨w.heap.size + 2, 6, none⟩ = some (.int .i64 0) := HRB.out.cell 6
      have rr7 : wi.cell? ⟨w.heap.size + 2, 7, none⟩ = some (.int .i64 0) := HRB.out.cell 7
      have qq : ∀ j, wi.frozen? ⟨w.heap.size + 2, j, none⟩ = false := HRB.out.frozen
      go_wp2
      have f0 : Blk ((((((((wi.setCell ⟨w.heap.size + 2, 0, none⟩ (.int .i64 e.id)).setCell ⟨w.heap.size + 2, 1, none⟩ (.int .i64 e.kind)).setCell ⟨w.heap.size + 2, 2, none⟩ (.int .i64 ax)).setCell ⟨w.heap.size + 2, 3, none⟩ (.int .i64 ay)).setCell ⟨w.heap.size + 2, 4, none⟩ (.int .i64 vx)).setCell ⟨w.heap.size + 2, 5, none⟩ (.int .i64 vy)).setCell ⟨w.heap.size + 2, 6, none⟩ (.int .i64 e.health)).setCell ⟨w.heap.size + 2, 7, none⟩ (.int .i64 e.wait)) (w.heap.size + 2) 30 #[.int .i64 e.id, .int .i64 e.kind, .int .i64 ax, .int .i64 ay, .int .i64 vx, .int .i64 vy, .int .i64 e.health, .int .i64 e.wait] := by
        have := ((((((((HRB.out.set_ 0 (.int .i64 e.id)).set_ 1 (.int .i64 e.kind)).set_ 2 (.int .i64 ax)).set_ 3 (.int .i64 ay)).set_ 4 (.int .i64 vx)).set_ 5 (.int .i64 vy)).set_ 6 (.int .i64 e.health)).set_ 7 (.int .i64 e.wait))
        simpa using this
      have f1 : Below w.heap.size w ((((((((wi.setCell ⟨w.heap.size + 2, 0, none⟩ (.int .i64 e.id)).setCell ⟨w.heap.size + 2, 1, none⟩ (.int .i64 e.kind)).setCell ⟨w.heap.size + 2, 2, none⟩ (.int .i64 ax)).setCell ⟨w.heap.size + 2, 3, none⟩ (.int .i64 ay)).setCell ⟨w.heap.size + 2, 4, none⟩ (.int .i64 vx)).setCell ⟨w.heap.size + 2, 5, none⟩ (.int .i64 vy)).setCell ⟨w.heap.size + 2, 6, none⟩ (.int .i64 e.health)).setCell ⟨w.heap.size + 2, 7, none⟩ (.int .i64 e.wait)) := (Below.setCell (Below.setCell (Below.setCell (Below.setCell (Below.setCell (Below.setCell (Below.setCell (Below.setCell HB.out (p := ⟨w.heap.size + 2, 0, none⟩) (by show w.heap.size ≤ w.heap.size + 2; omega) _) (p := ⟨w.heap.size + 2, 1, none⟩) (by show w.heap.size ≤ w.heap.size + 2; omega) _) (p := ⟨w.heap.size + 2, 2, none⟩) (by show w.heap.size ≤ w.heap.size + 2; omega) _) (p := ⟨w.heap.size + 2, 3, none⟩) (by show w.heap.size ≤ w.heap.size + 2; omega) _) (p := ⟨w.heap.size + 2, 4, none⟩) (by show w.heap.size ≤ w.heap.size + 2; omega) _) (p := ⟨w.heap.size + 2, 5, none⟩) (by show w.heap.size ≤ w.heap.size + 2; omega) _) (p := ⟨w.heap.size + 2, 6, none⟩) (by show w.heap.size ≤ w.heap.size + 2; omega) _) (p := ⟨w.heap.size + 2, 7, none⟩) (by show w.heap.size ≤ w.heap.size + 2; omega) _)
      generalize ((((((((wi.setCell ⟨w.heap.size + 2, 0, none⟩ (.int .i64 e.id)).setCell ⟨w.heap.size + 2, 1, none⟩ (.int .i64 e.kind)).setCell ⟨w.heap.size + 2, 2, none⟩ (.int .i64 ax)).setCell ⟨w.heap.size + 2, 3, none⟩ (.int .i64 ay)).setCell ⟨w.heap.size + 2, 4, none⟩ (.int .i64 vx)).setCell ⟨w.heap.size + 2, 5, none⟩ (.int .i64 vy)).setCell ⟨w.heap.size + 2, 6, none⟩ (.int .i64 e.health)).setCell ⟨w.heap.size + 2, 7, none⟩ (.int .i64 e.wait)) = wz at f0 f1 ⊢
      have r0 : wz.cell? ⟨w.heap.size + 2, 0, none⟩ = some (.int .i64 e.id) := f0.cell 0
      have r1 : wz.cell? ⟨w.heap.size + 2, 1, none⟩ = some (.int .i64 e.kind) := f0.cell 1
      have r2 : wz.cell? ⟨w.heap.size + 2, 2, none⟩ = some (.int .i64 ax) := f0.cell 2
      have r3 : wz.cell? ⟨w.heap.size + 2, 3, none⟩ = some (.int .i64 ay) := f0.cell 3
      have r4 : wz.cell? ⟨w.heap.size + 2, 4, none⟩ = some (.int .i64 vx) := f0.cell 4
      have r5 : wz.cell? ⟨w.heap.size + 2, 5, none⟩ = some (.int .i64 vy) := f0.cell 5
      have r6 : wz.cell? ⟨w.heap.size + 2, 6, none⟩ = some (.int .i64 e.health) := f0.cell 6
      have r7 : wz.cell? ⟨w.heap.size + 2, 7, none⟩ = some (.int .i64 e.wait) := f0.cell 7
      clear ee0 ee1 ee2 ee3 ee4 ee5 ee6 ee7 rr0 rr1 rr2 rr3 rr4 rr5 rr6 rr7 qq
      exact bodyPost_ret (v := .agg #[.int .i64 e.id, .int .i64 e.kind, .int .i64 ax, .int .i64 ay, .int .i64 vx, .int .i64 vy, .int .i64 e.health, .int .i64 e.wait]) (by simp [results, Try.results20, go_sem, r0, r1, r2, r3, r4, r5, r6, r7]) rfl ⟨by rw [HST.out], f1⟩
theorem rRoll (m : MapV) (s : MapS) (e : EntV) (w : World) (h : MapAt w w.heap.size m s) (hn : s.n ≤ 100000) (hn2 : s.n2 ≤ 100000) :
    Calls Try.prog 20 #[(.agg #[.int .i64 m.W, .int .i64 m.H, .slice s.A s.n s.c, .slice s.A2 s.n2 s.c2]), (.agg #[.int .i64 e.id, .int .i64 e.kind, .int .i64 e.at_.x, .int .i64 e.at_.y, .int .i64 e.vel.x, .int .i64 e.vel.y, .int .i64 e.health, .int .i64 e.wait])] w fun r w' => r = .returned (.agg #[.int .i64 (rollF m e).id, .int .i64 (rollF m e).kind, .int .i64 (rollF m e).at_.x, .int .i64 (rollF m e).at_.y, .int .i64 (rollF m e).vel.x, .int .i64 (rollF m e).vel.y, .int .i64 (rollF m e).health, .int .i64 (rollF m e).wait]) ∧ Below w.heap.size w w' := by
  by_cases hno : refNoR e
  · have hw : rollF m e = e := by unfold rollF; exact if_pos hno
    rw [hw]
    exact rRollNo m s e w hno
  · have e1 : entOk e = true := by
      cases he : entOk e
      · exact absurd (.inl he) hno
      · rfl
    have k1 : e.kind = 2 := by
      by_cases hk : e.kind = 2
      · exact hk
      · exact absurd (.inr hk) hno
    exact rRollYes m s e w h hn hn2 e1 k1
end Go.Proofs.Ythkgeeonhppliaa
