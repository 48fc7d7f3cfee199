/- The walk of the law MoveSteps. (Printed by gen_msteps.py.) -/
import Derived.Test.YthkgeeonhppliaaMWalk2
import Derived.Test.YthkgeeonhppliaaMRoll
import Derived.Test.YthkgeeonhppliaaMoveAwake
set_option linter.unusedSimpArgs false
set_option linter.unusedVariables false
namespace Go.Proofs.Ythkgeeonhppliaa
open Go.RowKit
set_option maxRecDepth 100000 in
set_option maxHeartbeats 8000000 in
theorem lawMoveStepsNo (m : MapV) (s : MapS) (e : EntV) (px py : Int) (w : World) (hf : ¬ (s.n ≤ 1100 ∧ s.n2 ≤ 1100)) :
    Calls Try.prog 6 #[(.agg #[.int .i64 m.W, .int .i64 m.H, .slice s.A s.n s.c, .slice s.A2 s.n2 s.c2]), (.agg #[.int .i64 e.id, .int .i64 e.kind, .int .i64 e.at_.x, .int .i64 e.at_.y, .int .i64 e.vel.x, .int .i64 e.vel.y, .int .i64 e.health, .int .i64 e.wait]), .agg #[.int .i8 px, .int .i8 py]] w fun r w' => r = .returned (.bool true) ∧ Below w.heap.size w w' := by
  have HX := Lib.hid (threeBoxes w #[.int .i64 m.W, .int .i64 m.H, .slice s.A s.n s.c, .slice s.A2 s.n2 s.c2] #[.int .i64 e.id, .int .i64 e.kind, .int .i64 e.at_.x, .int .i64 e.at_.y, .int .i64 e.vel.x, .int .i64 e.vel.y, .int .i64 e.health, .int .i64 e.wait] #[.int .i8 px, .int .i8 py] 25 30 37)
  go_enter Try.func6, Try.ntmps6
  go_wp2_with fail
  obtain ⟨B1, b1, b2, b3⟩ := HX.out
  generalize (((w.alloc (.cells #[.int .i64 m.W, .int .i64 m.H, .slice s.A s.n s.c, .slice s.A2 s.n2 s.c2] 25)).alloc (.cells #[.int .i64 e.id, .int .i64 e.kind, .int .i64 e.at_.x, .int .i64 e.at_.y, .int .i64 e.vel.x, .int .i64 e.vel.y, .int .i64 e.health, .int .i64 e.wait] 30)).alloc (.cells #[.int .i8 px, .int .i8 py] 37)) = wa at B1 b1 b2 b3 ⊢
  refine (awake12 wa).mono ?_
  rintro r wb ⟨rfl, hb1⟩
  have HB := Lib.hid (B1.trans (hb1.mono B1.size))
  have HMB := Lib.hid (b1.below hb1 b1.lt)
  have HEB := Lib.hid (b2.below hb1 b2.lt)
  have HTB := Lib.hid (b3.below hb1 b3.lt)
  clear hb1 b1 b2 b3 B1 HX
  have mm0 : wb.cell? ⟨w.heap.size, 0, none⟩ = some (.int .i64 m.W) := HMB.out.cell 0
  have mm1 : wb.cell? ⟨w.heap.size, 1, none⟩ = some (.int .i64 m.H) := HMB.out.cell 1
  have mm2 : wb.cell? ⟨w.heap.size, 2, none⟩ = some (.slice s.A s.n s.c) := HMB.out.cell 2
  have mm3 : wb.cell? ⟨w.heap.size, 3, none⟩ = some (.slice s.A2 s.n2 s.c2) := HMB.out.cell 3
  go_wp2_with fail
  refine (few12 m s wb).mono ?_
  rw [decide_eq_false hf]
  rintro r wc ⟨rfl, hb1⟩
  have HB := Lib.hid (HB.out.trans (hb1.mono HB.out.size))
  have HMB := Lib.hid (HMB.out.below hb1 HMB.out.lt)
  have HEB := Lib.hid (HEB.out.below hb1 HEB.out.lt)
  have HTB := Lib.hid (HTB.out.below hb1 HTB.out.lt)
  have HF := Lib.hid hf
  clear hb1 mm0 mm1 mm2 mm3 hf
  go_wp2_with fail
  refine (awake12 wc).mono ?_
  rintro r wd ⟨rfl, hb1⟩
  have HB := Lib.hid (HB.out.trans (hb1.mono HB.out.size))
  clear hb1
  go_wp2
  go_ret
  exact ⟨rfl, HB.out⟩
set_option maxRecDepth 100000 in
set_option maxHeartbeats 16000000 in
theorem lawMoveStepsYes (m : MapV) (s : MapS) (e : EntV) (px py : Int) (w : World) (h : MapAt w w.heap.size m s) (hpx : -128 ≤ px ∧ px ≤ 127) (hpy : -128 ≤ py ∧ py ≤ 127) (hf : s.n ≤ 1100 ∧ s.n2 ≤ 1100) :
    Calls Try.prog 6 #[(.agg #[.int .i64 m.W, .int .i64 m.H, .slice s.A s.n s.c, .slice s.A2 s.n2 s.c2]), (.agg #[.int .i64 e.id, .int .i64 e.kind, .int .i64 e.at_.x, .int .i64 e.at_.y, .int .i64 e.vel.x, .int .i64 e.vel.y, .int .i64 e.health, .int .i64 e.wait]), .agg #[.int .i8 px, .int .i8 py]] w fun r w' => r = .returned (.bool true) ∧ Below w.heap.size w w' := by
  obtain ⟨X, hX⟩ : ∃ X, walkF m e px py = X := ⟨_, rfl⟩
  obtain ⟨Y, hY⟩ : ∃ Y, rollF m e = Y := ⟨_, rfl⟩
  obtain ⟨st, hst⟩ : ∃ st, standsB m e.at_ = st := ⟨_, rfl⟩
  have hw1 := fun W (hW : Below w.heap.size w W) => mWalk m s e px py W ((h.below hW).upto hW.size) hpx.1 hpx.2 hpy.1 hpy.2
  have hw2 := fun W (hW : Below w.heap.size w W) => rWalk m s e px py W ((h.below hW).upto hW.size) (by omega) (by omega) hpx.1 hpx.2 hpy.1 hpy.2
  have hr1 := fun W (hW : Below w.heap.size w W) => mRoll m s e W ((h.below hW).upto hW.size)
  have hr2 := fun W (hW : Below w.heap.size w W) => rRoll m s e W ((h.below hW).upto hW.size) (by omega) (by omega)
  have hs1 := fun W (hW : Below w.heap.size w W) => mStands m s e.at_.x e.at_.y W ((h.below hW).upto hW.size)
  have hs2 := fun W (hW : Below w.heap.size w W) => rStands m s e.at_.x e.at_.y W ((h.below hW).upto hW.size) (by omega) (by omega)
  have hat : (⟨e.at_.x, e.at_.y⟩ : VecV) = e.at_ := rfl
  simp only [hX] at hw1 hw2
  simp only [hY] at hr1 hr2
  simp only [hat, hst] at hs1 hs2
  have kX : ∀ W, (binOp .eql 30 (.agg #[.int .i64 X.id, .int .i64 X.kind, .int .i64 X.at_.x, .int .i64 X.at_.y, .int .i64 X.vel.x, .int .i64 X.vel.y, .int .i64 X.health, .int .i64 X.wait]) (.agg #[.int .i64 X.id, .int .i64 X.kind, .int .i64 X.at_.x, .int .i64 X.at_.y, .int .i64 X.vel.x, .int .i64 X.vel.y, .int .i64 X.health, .int .i64 X.wait])).run Try.prog W = .ok (.bool true) W := fun W => (eqlEnt X X W).trans (by simp)
  have kY : ∀ W, (binOp .eql 30 (.agg #[.int .i64 Y.id, .int .i64 Y.kind, .int .i64 Y.at_.x, .int .i64 Y.at_.y, .int .i64 Y.vel.x, .int .i64 Y.vel.y, .int .i64 Y.health, .int .i64 Y.wait]) (.agg #[.int .i64 Y.id, .int .i64 Y.kind, .int .i64 Y.at_.x, .int .i64 Y.at_.y, .int .i64 Y.vel.x, .int .i64 Y.vel.y, .int .i64 Y.health, .int .i64 Y.wait])).run Try.prog W = .ok (.bool true) W := fun W => (eqlEnt Y Y W).trans (by simp)
  have HW1 := Lib.hid hw1
  have HW2 := Lib.hid hw2
  have HR1 := Lib.hid hr1
  have HR2 := Lib.hid hr2
  have HS1 := Lib.hid hs1
  have HS2 := Lib.hid hs2
  clear hX hY hst hw1 hw2 hr1 hr2 hs1 hs2 hat h
  have HX := Lib.hid (threeBoxes w #[.int .i64 m.W, .int .i64 m.H, .slice s.A s.n s.c, .slice s.A2 s.n2 s.c2] #[.int .i64 e.id, .int .i64 e.kind, .int .i64 e.at_.x, .int .i64 e.at_.y, .int .i64 e.vel.x, .int .i64 e.vel.y, .int .i64 e.health, .int .i64 e.wait] #[.int .i8 px, .int .i8 py] 25 30 37)
  go_enter Try.func6, Try.ntmps6
  go_wp2_with fail
  obtain ⟨B1, b1, b2, b3⟩ := HX.out
  generalize (((w.alloc (.cells #[.int .i64 m.W, .int .i64 m.H, .slice s.A s.n s.c, .slice s.A2 s.n2 s.c2] 25)).alloc (.cells #[.int .i64 e.id, .int .i64 e.kind, .int .i64 e.at_.x, .int .i64 e.at_.y, .int .i64 e.vel.x, .int .i64 e.vel.y, .int .i64 e.health, .int .i64 e.wait] 30)).alloc (.cells #[.int .i8 px, .int .i8 py] 37)) = wa at B1 b1 b2 b3 ⊢
  refine (awake12 wa).mono ?_
  rintro r wb ⟨rfl, hb1⟩
  have HB := Lib.hid (B1.trans (hb1.mono B1.size))
  have HMB := Lib.hid (b1.below hb1 b1.lt)
  have HEB := Lib.hid (b2.below hb1 b2.lt)
  have HTB := Lib.hid (b3.below hb1 b3.lt)
  clear hb1 b1 b2 b3 B1 HX
  have mm0 : wb.cell? ⟨w.heap.size, 0, none⟩ = some (.int .i64 m.W) := HMB.out.cell 0
  have mm1 : wb.cell? ⟨w.heap.size, 1, none⟩ = some (.int .i64 m.H) := HMB.out.cell 1
  have mm2 : wb.cell? ⟨w.heap.size, 2, none⟩ = some (.slice s.A s.n s.c) := HMB.out.cell 2
  have mm3 : wb.cell? ⟨w.heap.size, 3, none⟩ = some (.slice s.A2 s.n2 s.c2) := HMB.out.cell 3
  go_wp2_with fail
  refine (few12 m s wb).mono ?_
  rw [decide_eq_true hf]
  rintro r wc ⟨rfl, hb1⟩
  have HB := Lib.hid (HB.out.trans (hb1.mono HB.out.size))
  have HMB := Lib.hid (HMB.out.below hb1 HMB.out.lt)
  have HEB := Lib.hid (HEB.out.below hb1 HEB.out.lt)
  have HTB := Lib.hid (HTB.out.below hb1 HTB.out.lt)
  have HF := Lib.hid hf
  clear hb1 mm0 mm1 mm2 mm3 hf
  have mm0 : wc.cell? ⟨w.heap.size, 0, none⟩ = some (.int .i64 m.W) := HMB.out.cell 0
  have mm1 : wc.cell? ⟨w.heap.size, 1, none⟩ = some (.int .i64 m.H) := HMB.out.cell 1
  have mm2 : wc.cell? ⟨w.heap.size, 2, none⟩ = some (.slice s.A s.n s.c) := HMB.out.cell 2
  have mm3 : wc.cell? ⟨w.heap.size, 3, none⟩ = some (.slice s.A2 s.n2 s.c2) := HMB.out.cell 3
  go_upto_region 4 with (fail)
  have HVB := Lib.hid (Blk.new wc 45 #[.int .i64 m.W, .int .i64 m.H, .slice s.A s.n s.c, .slice s.A2 s.n2 s.c2])
  have a1 := HMB.out.alloc (.cells #[.int .i64 m.W, .int .i64 m.H, .slice s.A s.n s.c, .slice s.A2 s.n2 s.c2] 45)
  have a2 := HEB.out.alloc (.cells #[.int .i64 m.W, .int .i64 m.H, .slice s.A s.n s.c, .slice s.A2 s.n2 s.c2] 45)
  have a3 := HTB.out.alloc (.cells #[.int .i64 m.W, .int .i64 m.H, .slice s.A s.n s.c, .slice s.A2 s.n2 s.c2] 45)
  have a4 := HB.out.alloc HB.out.size (.cells #[.int .i64 m.W, .int .i64 m.H, .slice s.A s.n s.c, .slice s.A2 s.n2 s.c2] 45)
  have a5 := HVB.out
  obtain ⟨vb, hvb⟩ : ∃ vb, wc.heap.size = vb := ⟨_, rfl⟩
  rw [hvb] at a5 ⊢
  clear mm0 mm1 mm2 mm3 HVB HMB HEB HTB HB
  generalize (wc.alloc (.cells #[.int .i64 m.W, .int .i64 m.H, .slice s.A s.n s.c, .slice s.A2 s.n2 s.c2] 45)) = wd at a1 a2 a3 a4 a5 ⊢
  have mm0 : wd.cell? ⟨w.heap.size, 0, none⟩ = some (.int .i64 m.W) := a1.cell 0
  have mm1 : wd.cell? ⟨w.heap.size, 1, none⟩ = some (.int .i64 m.H) := a1.cell 1
  have mm2 : wd.cell? ⟨w.heap.size, 2, none⟩ = some (.slice s.A s.n s.c) := a1.cell 2
  have mm3 : wd.cell? ⟨w.heap.size, 3, none⟩ = some (.slice s.A2 s.n2 s.c2) := a1.cell 3
  have ee0 : wd.cell? ⟨w.heap.size + 1, 0, none⟩ = some (.int .i64 e.id) := a2.cell 0
  have ee1 : wd.cell? ⟨w.heap.size + 1, 1, none⟩ = some (.int .i64 e.kind) := a2.cell 1
  have ee2 : wd.cell? ⟨w.heap.size + 1, 2, none⟩ = some (.int .i64 e.at_.x) := a2.cell 2
  have ee3 : wd.cell? ⟨w.heap.size + 1, 3, none⟩ = some (.int .i64 e.at_.y) := a2.cell 3
  have ee4 : wd.cell? ⟨w.heap.size + 1, 4, none⟩ = some (.int .i64 e.vel.x) := a2.cell 4
  have ee5 : wd.cell? ⟨w.heap.size + 1, 5, none⟩ = some (.int .i64 e.vel.y) := a2.cell 5
  have ee6 : wd.cell? ⟨w.heap.size + 1, 6, none⟩ = some (.int .i64 e.health) := a2.cell 6
  have ee7 : wd.cell? ⟨w.heap.size + 1, 7, none⟩ = some (.int .i64 e.wait) := a2.cell 7
  have pp0 : wd.cell? ⟨w.heap.size + 2, 0, none⟩ = some (.int .i8 px) := a3.cell 0
  have pp1 : wd.cell? ⟨w.heap.size + 2, 1, none⟩ = some (.int .i8 py) := a3.cell 1
  have vv0 : wd.cell? ⟨vb, 0, none⟩ = some (.int .i64 m.W) := a5.cell 0
  have vv1 : wd.cell? ⟨vb, 1, none⟩ = some (.int .i64 m.H) := a5.cell 1
  have vv2 : wd.cell? ⟨vb, 2, none⟩ = some (.slice s.A s.n s.c) := a5.cell 2
  have vv3 : wd.cell? ⟨vb, 3, none⟩ = some (.slice s.A2 s.n2 s.c2) := a5.cell 3
  have l0 := a1.lt
  have l1 := a2.lt
  have l2 := a3.lt
  have l3 := a5.lt
  have hsz := a4.size
  have HB := Lib.hid a4
  clear a1 a2 a3 a4 a5 hvb
  refine wp_region_kin' wd.heap.size (by kernel_rfl) (by kernel_rfl) (fun kk => ?_)
  repeat (first | go_big_quiet_step ((first | (go_at_call 15; exact kin_of (Nat.le_refl _) (HW1.out _ (HB.out.trans ((Kin.below _).mono hsz)))) | (go_at_call 18; exact kin_of (Nat.le_refl _) (HW2.out _ (HB.out.trans ((Kin.below _).mono hsz)))) | (go_at_call 19; exact kin_of (Nat.le_refl _) (HR1.out _ (HB.out.trans ((Kin.below _).mono hsz)))) | (go_at_call 20; exact kin_of (Nat.le_refl _) (HR2.out _ (HB.out.trans ((Kin.below _).mono hsz)))) | (go_at_call 14; exact kin_of (Nat.le_refl _) (HS1.out _ (HB.out.trans ((Kin.below _).mono hsz)))) | (go_at_call 21; exact kin_of (Nat.le_refl _) (HS2.out _ (HB.out.trans ((Kin.below _).mono hsz)))))) | quiet_step ((first | (go_at_call 15; exact kin_of (Nat.le_refl _) (HW1.out _ (HB.out.trans ((Kin.below _).mono hsz)))) | (go_at_call 18; exact kin_of (Nat.le_refl _) (HW2.out _ (HB.out.trans ((Kin.below _).mono hsz)))) | (go_at_call 19; exact kin_of (Nat.le_refl _) (HR1.out _ (HB.out.trans ((Kin.below _).mono hsz)))) | (go_at_call 20; exact kin_of (Nat.le_refl _) (HR2.out _ (HB.out.trans ((Kin.below _).mono hsz)))) | (go_at_call 14; exact kin_of (Nat.le_refl _) (HS1.out _ (HB.out.trans ((Kin.below _).mono hsz)))) | (go_at_call 21; exact kin_of (Nat.le_refl _) (HS2.out _ (HB.out.trans ((Kin.below _).mono hsz)))))))
  refine wpQuiet_nil ?_
  rintro wk ⟨⟨wk0, hwk⟩, rfl⟩
  go_wp2
  go_ret
  exact ⟨rfl, HB.out.trans (hwk.mono hsz)⟩
theorem lawMoveSteps (m : MapV) (s : MapS) (e : EntV) (px py : Int) (w : World) (h : MapAt w w.heap.size m s) (hpx : -128 ≤ px ∧ px ≤ 127) (hpy : -128 ≤ py ∧ py ≤ 127) :
    Calls Try.prog 6 #[(.agg #[.int .i64 m.W, .int .i64 m.H, .slice s.A s.n s.c, .slice s.A2 s.n2 s.c2]), (.agg #[.int .i64 e.id, .int .i64 e.kind, .int .i64 e.at_.x, .int .i64 e.at_.y, .int .i64 e.vel.x, .int .i64 e.vel.y, .int .i64 e.health, .int .i64 e.wait]), .agg #[.int .i8 px, .int .i8 py]] w fun r w' => r = .returned (.bool true) ∧ Below w.heap.size w w' := by
  by_cases hf : s.n ≤ 1100 ∧ s.n2 ≤ 1100
  · exact lawMoveStepsYes m s e px py w h hpx hpy hf
  · exact lawMoveStepsNo m s e px py w hf
end Go.Proofs.Ythkgeeonhppliaa
