/- The walk of the law MoveOpen. -/
import Derived.Test.YthkgeeonhppliaaMoveAwake
set_option linter.unusedSimpArgs false
set_option linter.unusedVariables false
namespace Go.Proofs.Ythkgeeonhppliaa
open Go.RowKit
def map33 : MapV := ⟨3, 3, [false, false, false, false, false, false, false, false, false], [⟨98304, 98304⟩]⟩
theorem read33 : readF [.floor, .floor, .floor, .nl, .floor, .spawn, .floor, .nl, .floor, .floor, .floor, .nl] = some map33 := by rfl
theorem stands33 (p : VecV) (h1 : 24576 ≤ p.x) (h2 : p.x ≤ 172032) (h3 : 24576 ≤ p.y) (h4 : p.y ≤ 172032) : standsB map33 p = true := by
  refine (standsB_iff _ _).2 ⟨by decide +kernel, h1, by show p.x + 24576 ≤ 3 * 65536; omega, h3, by show p.y + 24576 ≤ 3 * 65536; omega, fun y hy x hx hw => ?_⟩
  have : ∀ y, y < 3 → ∀ x, x < 3 → wallAt map33 x y = false := by decide
  rw [this y hy x hx] at hw
  cases hw
theorem walk33 (e : EntV) (mx my : Int) (he : entOk e = true) (hk : e.kind = 1) (hh : e.health ≠ 0) (x0 : -127 ≤ mx) (x1 : mx ≤ 127) (y0 : -127 ≤ my) (y1 : my ≤ 127) (a1 : 40960 ≤ e.at_.x) (a2 : e.at_.x ≤ 155648) (a3 : 40960 ≤ e.at_.y) (a4 : e.at_.y ≤ 155648) :
    walkF map33 e mx my = ⟨e.id, e.kind, ⟨e.at_.x + partF mx, e.at_.y + partF my⟩, ⟨partF mx, partF my⟩, e.health, e.wait⟩ := by
  obtain ⟨p1, p2⟩ := partF_le mx x0 x1
  obtain ⟨p3, p4⟩ := partF_le my y0 y1
  unfold walkF
  have hn : ¬ (entOk e = false ∨ e.kind ≠ 1 ∨ e.health = 0 ∨ mx = -128 ∨ my = -128) := by
    rintro (h | h | h | h | h)
    · rw [he] at h; cases h
    · exact h hk
    · exact hh h
    · omega
    · omega
  rw [if_neg hn]
  unfold stepped
  have s1 : standsB map33 ⟨e.at_.x + partF mx, e.at_.y⟩ = true := stands33 _ (by show _ ≤ e.at_.x + partF mx; omega) (by show e.at_.x + partF mx ≤ _; omega) (by show _ ≤ e.at_.y; omega) (by show e.at_.y ≤ _; omega)
  have s2 : standsB map33 ⟨e.at_.x + partF mx, e.at_.y + partF my⟩ = true := stands33 _ (by show _ ≤ e.at_.x + partF mx; omega) (by show e.at_.x + partF mx ≤ _; omega) (by show _ ≤ e.at_.y + partF my; omega) (by show e.at_.y + partF my ≤ _; omega)
  simp only [s1, if_true, s2]
theorem entAt (e : EntV) (w : World) : (Instr.field 30 (.agg #[.int .i64 e.id, .int .i64 e.kind, .int .i64 e.at_.x, .int .i64 e.at_.y, .int .i64 e.vel.x, .int .i64 e.vel.y, .int .i64 e.health, .int .i64 e.wait]) 2).run Try.prog w = .ok (.agg #[.int .i64 e.at_.x, .int .i64 e.at_.y]) w := by kernel_rfl
def P33 : EntV := ⟨5, 1, ⟨98304, 98304⟩, ⟨0, 0⟩, 1, 0⟩
theorem open33 (mx my : Int) (x0 : -127 ≤ mx) (x1 : mx ≤ 127) (y0 : -127 ≤ my) (y1 : my ≤ 127) :
    ∃ X Y Z : EntV, walkF map33 P33 mx my = X ∧ walkF map33 X (-mx) (-my) = Y ∧ walkF map33 X 0 0 = Z ∧ X.at_.x = 98304 + X.vel.x ∧ X.at_.y = 98304 + X.vel.y ∧ -16384 ≤ X.vel.x ∧ X.vel.x ≤ 16384 ∧ -16384 ≤ X.vel.y ∧ X.vel.y ≤ 16384 ∧
      (0 < X.vel.x ↔ 0 < mx) ∧ (X.vel.y < 0 ↔ my < 0) ∧ -1 ≤ Y.at_.x - 98304 ∧ Y.at_.x - 98304 ≤ 1 ∧ -1 ≤ Y.at_.y - 98304 ∧ Y.at_.y - 98304 ≤ 1 ∧ Z.at_ = X.at_ := by
  have hX := walk33 P33 mx my (by decide) rfl (by decide) x0 x1 y0 y1 (by decide) (by decide) (by decide) (by decide)
  obtain ⟨p1, p2⟩ := partF_le mx x0 x1
  obtain ⟨p3, p4⟩ := partF_le my y0 y1
  have q1 := partF_eq mx
  have q2 := partF_eq my
  have q3 := partF_eq (-mx)
  have q4 := partF_eq (-my)
  obtain ⟨a, ha⟩ : ∃ a, partF mx = a := ⟨_, rfl⟩
  obtain ⟨b, hb⟩ : ∃ b, partF my = b := ⟨_, rfl⟩
  rw [ha] at hX p1 p2 q1
  rw [hb] at hX p3 p4 q2
  have hX : walkF map33 P33 mx my = ⟨5, 1, ⟨98304 + a, 98304 + b⟩, ⟨a, b⟩, 1, 0⟩ := hX
  have he : entOk ⟨5, 1, ⟨98304 + a, 98304 + b⟩, ⟨a, b⟩, 1, 0⟩ = true := by
    simp [entOk, kindOk, vecOk, slowOk, restOk]
    omega
  have hY := walk33 ⟨5, 1, ⟨98304 + a, 98304 + b⟩, ⟨a, b⟩, 1, 0⟩ (-mx) (-my) he rfl (by show (1 : Int) ≠ 0; decide) (by omega) (by omega) (by omega) (by omega) (by show _ ≤ 98304 + a; omega) (by show 98304 + a ≤ _; omega) (by show _ ≤ 98304 + b; omega) (by show 98304 + b ≤ _; omega)
  have hZ := walk33 ⟨5, 1, ⟨98304 + a, 98304 + b⟩, ⟨a, b⟩, 1, 0⟩ 0 0 he rfl (by show (1 : Int) ≠ 0; decide) (by omega) (by omega) (by omega) (by omega) (by show _ ≤ 98304 + a; omega) (by show 98304 + a ≤ _; omega) (by show _ ≤ 98304 + b; omega) (by show 98304 + b ≤ _; omega)
  refine ⟨_, _, _, hX, hY, hZ, rfl, rfl, p1, p2, p3, p4, ?_, ?_, ?_, ?_, ?_, ?_, ?_⟩
  · show 0 < a ↔ 0 < mx; omega
  · show b < 0 ↔ my < 0; omega
  · show -1 ≤ 98304 + a + partF (-mx) - 98304; omega
  · show 98304 + a + partF (-mx) - 98304 ≤ 1; omega
  · show -1 ≤ 98304 + b + partF (-my) - 98304; omega
  · show 98304 + b + partF (-my) - 98304 ≤ 1; omega
  · show (⟨98304 + a + partF 0, 98304 + b + partF 0⟩ : VecV) = ⟨98304 + a, 98304 + b⟩
    rw [show partF 0 = 0 by decide, Int.add_zero, Int.add_zero]
theorem bytes33 : (⟨(sgBytes [.floor, .floor, .floor, .nl, .floor, .spawn, .floor, .nl, .floor, .floor, .floor, .nl]).toArray⟩ : ByteArray) = ⟨#[194, 183, 194, 183, 194, 183, 10, 194, 183, 226, 151, 142, 194, 183, 10, 194, 183, 194, 183, 194, 183, 10]⟩ := by rfl
set_option maxRecDepth 100000 in
set_option maxHeartbeats 4000000 in
theorem lawMoveOpenNo (mx my : Int) (hno : mx = -128 ∨ my = -128) (w : World) : Calls Try.prog 5 #[.int .i8 mx, .int .i8 my] w fun r w' => r = .returned (.bool true) ∧ Below w.heap.size w w' := by
  have hR := fun W => tRead _ _ read33 (by decide) W
  rw [bytes33] at hR
  simp only [map33] at hR
  by_cases k1 : mx = -128
  · have k1' : (mx == -128) = true := by rw [k1]; rfl
    have HK := Lib.hid k1
    clear k1 hno
    go_enter Try.func5, Try.ntmps5
    go_wp2_with fail
    refine (hR _).mono ?_
    rintro e w1 ⟨s, rfl, hmat, hb1⟩
    have HMT := Lib.hid hmat
    clear hmat
    have hs1 := hb1.size
    go_wp2_with fail
    refine (awake12 _).mono ?_
    rintro r wa ⟨rfl, hba⟩
    have Ba : Below w.heap.size w wa := (Below.alloc hb1 hs1 _).trans (hba.mono (by first | omega | (simp; done) | (simp; omega)))
    go_wp2_with fail
    refine (awake12 _).mono ?_
    rintro r wb ⟨rfl, hbb⟩
    have Bb : Below w.heap.size w wb := Ba.trans (hbb.mono Ba.size)
    go_wp2
    go_ret
    exact ⟨rfl, by assumption⟩
  · have k1' : (mx == -128) = false := beq_eq_false_iff_ne.2 k1
    have k2 : my = -128 := hno.resolve_left k1
    have k2' : (my == -128) = true := by rw [k2]; rfl
    have HK := Lib.hid k2
    clear k1 k2 hno
    go_enter Try.func5, Try.ntmps5
    go_wp2_with fail
    refine (hR _).mono ?_
    rintro e w1 ⟨s, rfl, hmat, hb1⟩
    have HMT := Lib.hid hmat
    clear hmat
    have hs1 := hb1.size
    go_wp2_with fail
    refine (awake12 _).mono ?_
    rintro r wa ⟨rfl, hba⟩
    have Ba : Below w.heap.size w wa := (Below.alloc hb1 hs1 _).trans (hba.mono (by first | omega | (simp; done) | (simp; omega)))
    go_wp2_with fail
    refine (awake12 _).mono ?_
    rintro r wb ⟨rfl, hbb⟩
    have Bb : Below w.heap.size w wb := Ba.trans (hbb.mono Ba.size)
    go_wp2
    go_ret
    exact ⟨rfl, by assumption⟩
theorem spawn33 {w1 : World} {s : MapS} (h : MapAt w1 w1.heap.size map33 s) : ∃ (g2 off2 n2 : Nat) (A : Option Addr) (n c c2 : Nat), s = ⟨A, n, c, some ⟨g2, off2, none⟩, n2, c2⟩ ∧ g2 < w1.heap.size ∧ w1.cell? ⟨g2, off2, none⟩ = some (.int .i64 98304) ∧ w1.cell? ⟨g2, off2 + 1, none⟩ = some (.int .i64 98304) := by
  have hl := h.len.2
  obtain ⟨A, n, c, A2, n2, c2⟩ := s
  have hsp : Reads w1 w1.heap.size 2 A2 n2 (vecsV map33.spawns) := h.spawns
  have hl : (1 : Nat) = n2 := hl
  obtain ⟨g2, off2, rfl, hg, hc⟩ := hsp.flat (by omega) (by decide)
  exact ⟨g2, off2, n2, A, n, c, c2, rfl, hg, hc 0 _ rfl, hc 1 _ rfl⟩
set_option maxRecDepth 100000 in
set_option maxHeartbeats 8000000 in
theorem lawMoveOpenYes (mx my : Int) (x0 : -127 ≤ mx) (x1 : mx ≤ 127) (y0 : -127 ≤ my) (y1 : my ≤ 127) (w : World) : Calls Try.prog 5 #[.int .i8 mx, .int .i8 my] w fun r w' => r = .returned (.bool true) ∧ Below w.heap.size w w' := by
  have hR := fun W => tRead _ _ read33 (by decide) W
  rw [bytes33] at hR
  simp only [map33] at hR
  have k1' : (mx == -128) = false := beq_eq_false_iff_ne.2 (by omega)
  have k2' : (my == -128) = false := beq_eq_false_iff_ne.2 (by omega)
  obtain ⟨X, Y, Z, hX, hY, hZ, f1, f2, f3, f4, f5, f6, f7, f8, f9, f10, f11, f12, f13⟩ := open33 mx my x0 x1 y0 y1
  have hWX := fun (s : MapS) W hM => mWalk map33 s P33 mx my W hM (by omega) x1 (by omega) y1
  have hWY := fun (s : MapS) W hM => mWalk map33 s X (-mx) (-my) W hM (by omega) (by omega) (by omega) (by omega)
  have hWZ := fun (s : MapS) W hM => mWalk map33 s X 0 0 W hM (by decide) (by decide) (by decide) (by decide)
  simp only [hX] at hWX
  simp only [hY] at hWY
  simp only [hZ] at hWZ
  have HWX := Lib.hid hWX
  have HWY := Lib.hid hWY
  have HWZ := Lib.hid hWZ
  have hs1 := fun W => size12 (Y.at_.x - 98304) (by omega) (by omega) W
  have hs2 := fun W => size12 (Y.at_.y - 98304) (by omega) (by omega) W
  obtain ⟨sx, hsx⟩ : ∃ sx, max (Y.at_.x - 98304) (-(Y.at_.x - 98304)) = sx := ⟨_, rfl⟩
  obtain ⟨sy, hsy⟩ : ∃ sy, max (Y.at_.y - 98304) (-(Y.at_.y - 98304)) = sy := ⟨_, rfl⟩
  simp only [hsx] at hs1
  simp only [hsy] at hs2
  have HS1 := Lib.hid hs1
  have HS2 := Lib.hid hs2
  have t1 : (X.at_.x != 98304 + X.vel.x) = false := by rw [bne_eq_false_iff_eq]; exact f1
  have t2 : (X.at_.y != 98304 + X.vel.y) = false := by rw [bne_eq_false_iff_eq]; exact f2
  have t3 : decide (1 < sx) = false := decide_eq_false (by omega)
  have t4 : decide (1 < sy) = false := decide_eq_false (by omega)
  have t5 : decide (0 < X.vel.x) = decide (0 < mx) := by rw [decide_eq_decide]; exact f7
  have t6 : decide (X.vel.y < 0) = decide (my < 0) := by rw [decide_eq_decide]; exact f8
  have keq : ∀ w, (binOp .eql 28 (.agg #[.int .i64 Z.at_.x, .int .i64 Z.at_.y]) (.agg #[.int .i64 X.at_.x, .int .i64 X.at_.y])).run Try.prog w = .ok (.bool true) w := fun w => by rw [eqlVec, decide_eq_true f13]
  clear hX hY hZ f1 f2 f7 f8 f13 hWX hWY hWZ hs1 hs2 hsx hsy
  go_enter Try.func5, Try.ntmps5
  go_wp2_with fail
  refine (hR _).mono ?_
  rintro e w1 ⟨s, rfl, hmat, hb1⟩
  obtain ⟨g2, off2, n2, A, n, c, c2, rfl, hg2, cx, cy⟩ := spawn33 hmat
  have HMT := Lib.hid hmat
  clear hmat hR
  have hs1 := hb1.size
  go_wp2_with fail
  refine (awake12 _).mono ?_
  rintro r wa ⟨rfl, hba⟩
  have Ba : Below w1.heap.size w1 wa := (Below.alloc (Below.refl _ _) (Nat.le_refl _) _).trans (hba.mono (by simp))
  obtain ⟨hca, hfa⟩ := bcell hba
  have hsa := hba.size
  simp at hsa
  have l1 : w1.heap.size < wa.heap.size := by omega
  have l2 : g2 < w1.heap.size + 1 := by omega
  have hn2 : (0 : Int) < (n2 : Int) := by
    have := HMT.out.len.2
    have : (1 : Nat) = n2 := this
    omega
  have hn2' : 0 < n2 := by omega
  go_wp2_with fail
  refine (HWX.out _ _ ((HMT.out.below (Below.alloc Ba (by omega) _)).upto (by simp; omega))).mono ?_
  rintro r wx ⟨rfl, hbx⟩
  have Bx : Below w1.heap.size w1 wx := (Below.alloc Ba (by omega) _).trans (hbx.mono (by simp; omega))
  obtain ⟨hcx, hfx⟩ := bcell hbx
  have hsx := hbx.size
  simp at hsx
  have l3 : w1.heap.size < wa.heap.size + 1 := by omega
  have l4 : wa.heap.size < wa.heap.size + 1 := by omega
  have l5 : w1.heap.size < wx.heap.size := by omega
  have l6 : wa.heap.size < wx.heap.size := by omega
  go_wp2_with fail
  refine (HWY.out _ _ ((HMT.out.below (Below.alloc Bx (by omega) _)).upto (by simp; omega))).mono ?_
  rintro r wy ⟨rfl, hby⟩
  have By : Below w1.heap.size w1 wy := (Below.alloc Bx (by omega) _).trans (hby.mono (by simp; omega))
  obtain ⟨hcy, hfy⟩ := bcell hby
  have hsy := hby.size
  simp at hsy
  have l7 : w1.heap.size < wx.heap.size + 1 := by omega
  have l8 : wa.heap.size < wx.heap.size + 1 := by omega
  have l9 : wx.heap.size < wx.heap.size + 1 := by omega
  have l10 : w1.heap.size < wy.heap.size := by omega
  have l11 : wa.heap.size < wy.heap.size := by omega
  have l12 : wx.heap.size < wy.heap.size := by omega
  go_wp2_with (go_at_call 16; (first | with_reducible refine (HS1.out _).mono ?_ | with_reducible refine (HS2.out _).mono ?_); rintro r w9 ⟨rfl, rfl⟩)
  have HWK := Lib.hid (fun W (hW : Below w1.heap.size w1 W) => HWZ.out ⟨A, n, c, some ⟨g2, off2, none⟩, n2, c2⟩ W ((HMT.out.below hW).upto hW.size))
  have HBY := Lib.hid (Below.alloc By (by omega) (.cells #[.int .i64 Y.id, .int .i64 Y.kind, .int .i64 Y.at_.x, .int .i64 Y.at_.y, .int .i64 Y.vel.x, .int .i64 Y.vel.y, .int .i64 Y.health, .int .i64 Y.wait] 30))
  have hfld := fun w => entAt Z w
  have tb1 : (decide (0 < mx) == decide (0 < mx)) = true := beq_self_eq_true _
  have tb2 : (decide (my < 0) == decide (my < 0)) = true := beq_self_eq_true _
  have l13 : w1.heap.size < wy.heap.size + 1 := by omega
  have l14 : wx.heap.size < wy.heap.size + 1 := by omega
  refine wp_region_kin' (wy.heap.size + 1) (by kernel_rfl) (by kernel_rfl) (fun kk => ?_)
  repeat (first | go_big_quiet_step ((go_at_call 15; exact kin_of (by simp) (HWK.out _ (HBY.out.trans ((Kin.below _).mono (by omega)))))) | quiet_step ((go_at_call 15; exact kin_of (by simp) (HWK.out _ (HBY.out.trans ((Kin.below _).mono (by omega)))))))
  refine wpQuiet_nil ?_
  rintro wk ⟨⟨_, hwk⟩, rfl⟩
  go_wp2
  go_ret
  exact ⟨rfl, (hb1.trans ((HBY.out.trans (hwk.mono (by omega))).mono hs1))⟩
theorem lawMoveOpen (mx my : Int) (x0 : -128 ≤ mx) (x1 : mx ≤ 127) (y0 : -128 ≤ my) (y1 : my ≤ 127) (w : World) : Calls Try.prog 5 #[.int .i8 mx, .int .i8 my] w fun r w' => r = .returned (.bool true) ∧ Below w.heap.size w w' := by
  by_cases h : mx = -128 ∨ my = -128
  · exact lawMoveOpenNo mx my h w
  · exact lawMoveOpenYes mx my (by omega) x1 (by omega) y1 w
end Go.Proofs.Ythkgeeonhppliaa
