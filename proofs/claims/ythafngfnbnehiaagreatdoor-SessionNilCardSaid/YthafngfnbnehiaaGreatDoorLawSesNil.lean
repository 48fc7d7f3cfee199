/- Layer 23's laws: awake, and the walk of the law SessionNil. (Printed by gen_sesaw.py.) -/
import Derived.Test.YthafngfnbnehiaaGreatDoorSesConn
import Derived.Test.YthafngfnbnehiaaGreatDoorSesNil
import Derived.Test.YthafngfnbnehiaaGreatDoorAwake21
set_option linter.unusedSimpArgs false
set_option linter.unusedVariables false
namespace Go.Proofs.YthafngfnbnehiaaGreatDoor
open Go.RowKit
theorem ok23 : cliOk map21 2 = true := by rfl
set_option maxRecDepth 100000 in
set_option maxHeartbeats 8000000 in
theorem awake23 (w : World) : Calls Tryz.prog 9 #[] w fun e w' => e = .returned (.bool true) ∧ Below w.heap.size w w' := by
  have hR := fun W => tRead _ _ read21 (by decide) W
  have hs : (⟨(sgBytes [.spawn, .spawn, .nl]).toArray⟩ : ByteArray) = ⟨#[226, 151, 142, 226, 151, 142, 10]⟩ := by rfl
  rw [hs] at hR
  obtain ⟨V, hV⟩ : ∃ V, newF map21 7 1 = V := ⟨_, rfl⟩
  have hl1 := len21
  have hf1 := find21
  have hms : (newF map21 7 1).map = map21 := rfl
  rw [hV] at hl1 hf1 hms
  have hN := fun (s : MapS) W hM => sesNewYes map21 s 7 1 V hV W hM formed21 (by decide) (by have := MapAt.len hM; simp [map21] at this; omega) (by have := MapAt.len hM; simp [map21] at this; omega) (by omega) (by omega)
  have HN := Lib.hid hN
  have HL1 := Lib.hid hl1
  have HF1 := Lib.hid hf1
  have HMS := Lib.hid hms
  have HM21 := Lib.hid (show map21.W = 2 ∧ map21.H = 1 from ⟨rfl, rfl⟩)
  clear hs hN hV hl1 hf1 hms
  go_enter Tryz.func9, Tryz.ntmps9
  go_wp2_with fail
  refine (hR _).mono ?_
  rintro e w1 ⟨s, rfl, hmat, hb1⟩
  have HMT := Lib.hid hmat
  have hs1 := hb1.size
  have HB1 := Lib.hid hb1
  clear hmat hb1 hR
  go_wp2_with fail
  refine (HN.out s _ ((HMT.out.below (Below.alloc (Below.refl _ _) (Nat.le_refl _) _)).upto (by simp))).mono ?_
  rintro e w2 ⟨b, S, A3, c3, mb, sb, s', rfl, hsb, hat, hse, hrm, hbb, hsbb, hb2⟩
  have HB2 := Lib.hid (HB1.out.trans ((Below.alloc (Below.refl _ _) (Nat.le_refl _) _).mono hs1) |>.trans (hb2.mono (by simp; omega)))
  have hbw : w.heap.size ≤ b := by simp at hbb; omega
  have hsw : w.heap.size ≤ sb := by simp at hsbb; omega
  have hn2 : S.ms.n2 = 2 := by have := hat.map.len.2; rw [HMS.out] at this; exact this.symm
  have hn1 : S.n = 1 := by have := hat.len; rw [HL1.out] at this; exact this.symm
  have HC := Lib.hid (sesDo1 map21 s' 7 V S A3 1 c3 (some mb) b sb w2 hsb hat (by omega) HF1.out (by omega) (by omega) hse hrm ok23)
  clear hsb hat hbb hsbb hb2 hn1 hn2 hse hrm
  go_wp2_with fail
  refine HC.out.mono ?_
  rintro e w3 ⟨rfl, V', S', pb, cb, hsb, hse, hch⟩
  have HB3 := Lib.hid (Chg.belS (F := fun q => q = b ∨ q = sb) HB2.out (Nat.le_refl _) hch (fun q hq => by rcases hq with h | h <;> omega))
  have HSB := Lib.hid hsb
  have HSE := Lib.hid hse
  have hs3 := HB3.out.size
  clear hsb hse hch HC
  go_wp2_with fail
  refine (sesClient2 map21 s' 7 b sb cb w3 HSE.out).mono ?_
  rintro e w4 ⟨rfl, rfl⟩
  go_wp2_with fail
  refine (sesServer map21 s' 7 b sb cb w3 HSE.out).mono ?_
  rintro e w4 ⟨rfl, rfl⟩
  go_wp2_with fail
  refine (srvConnected2 7 V' S' A3 1 c3 (some mb) pb b w3 HSB.out).mono ?_
  rintro e w4 ⟨rfl, rfl⟩
  go_wp2
  go_ret
  exact ⟨rfl, HB3.out⟩
set_option maxRecDepth 100000 in
set_option maxHeartbeats 8000000 in
theorem lawSesNil (x0 x1 x2 x3 x4 : Int) (x5 x6 : Bool) (x7 x8 : Int) (w : World) : Calls Tryz.prog 3 #[(.agg #[.int .i64 x0, .int .i64 x1, .int .i64 x2, .int .i8 x3, .int .i8 x4, .bool x5, .bool x6, .int .u8 x7, .int .u8 x8])] w fun r w' => r = .returned (.bool true) ∧ Below w.heap.size w w' := by
  go_enter Tryz.func3, Tryz.ntmps3
  go_wp2_with fail
  refine (awake23 _).mono ?_
  rintro e w1 ⟨rfl, hb1⟩
  have mi : Blk w1 w.heap.size 24 #[.int .i64 x0, .int .i64 x1, .int .i64 x2, .int .i8 x3, .int .i8 x4, .bool x5, .bool x6, .int .u8 x7, .int .u8 x8] := Blk.below (Blk.new _ _ _) hb1 (by simp)
  have z0 : w1.cell? ⟨w.heap.size, 0, none⟩ = some (.int .i64 x0) := mi.cell 0
  have z1 : w1.cell? ⟨w.heap.size, 1, none⟩ = some (.int .i64 x1) := mi.cell 1
  have z2 : w1.cell? ⟨w.heap.size, 2, none⟩ = some (.int .i64 x2) := mi.cell 2
  have z3 : w1.cell? ⟨w.heap.size, 3, none⟩ = some (.int .i8 x3) := mi.cell 3
  have z4 : w1.cell? ⟨w.heap.size, 4, none⟩ = some (.int .i8 x4) := mi.cell 4
  have z5 : w1.cell? ⟨w.heap.size, 5, none⟩ = some (.bool x5) := mi.cell 5
  have z6 : w1.cell? ⟨w.heap.size, 6, none⟩ = some (.bool x6) := mi.cell 6
  have z7 : w1.cell? ⟨w.heap.size, 7, none⟩ = some (.int .u8 x7) := mi.cell 7
  have z8 : w1.cell? ⟨w.heap.size, 8, none⟩ = some (.int .u8 x8) := mi.cell 8
  have HB := Lib.hid (show Below w.heap.size w w1 from (Below.alloc (Below.refl _ _) (Nat.le_refl _) _).trans (hb1.mono (by simp)))
  have hs1 := HB.out.size
  have lwi : w.heap.size < w1.heap.size := mi.lt
  clear hb1 mi
  go_wp2_with (first | (go_at_call 10; refine (nsBags _ _).mono ?_; rintro e wq ⟨rfl, rfl⟩) | (go_at_call 12; refine (nsServer _).mono ?_; rintro e wq ⟨rfl, rfl⟩) | (go_at_call 13; refine (nsClient _ _).mono ?_; rintro e wq ⟨rfl, rfl⟩) | (go_at_call 14; refine (nsFires _).mono ?_; rintro e wq ⟨rfl, rfl⟩) | (go_at_call 11; refine (nsDo _ _ _ _ _ _ _ _ _ _).mono ?_; rintro e w2 ⟨rfl, hb2⟩; have HB2 := Lib.hid (HB.out.trans (hb2.mono hs1)); have y1 : w2.cell? ⟨w.heap.size, 1, none⟩ = some (.int .i64 x1) := (hb2.cell (p := ⟨w.heap.size, 1, none⟩) lwi).trans z1;  clear hb2))
  go_ret
  exact ⟨rfl, HB2.out⟩
end Go.Proofs.YthafngfnbnehiaaGreatDoor
