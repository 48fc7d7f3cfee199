/- Two commands held against each other, as one Bool. -/
import Derived.Test.YtplclgkchiaijaaCmdRow
import Derived.Test.YtplclgkchiaijaaWEqStruct
set_option linter.unusedSimpArgs false
set_option linter.unusedVariables false
namespace Go.Proofs.Ytplclgkchiaijaa
open Go.RowKit Go.Proofs.YtplclgkchiaijaaW.PrintWords
theorem eqA58 (d : Nat) (w : World) (x0 y0 : Int) (x1 y1 : Int) (x2 y2 : Int) (x3 y3 : Bool) (x4 y4 : Int) (x5 y5 : Int) :
    (Op.equalIn (d + 2) 58 (.agg #[.int .u32 x0, .int .i8 x1, .int .i8 x2, .bool x3, .int .u32 x4, .int .u8 x5]) (.agg #[.int .u32 y0, .int .i8 y1, .int .i8 y2, .bool y3, .int .u32 y4, .int .u8 y5])).run Try.prog w = .ok (x0 == y0 && (x1 == y1 && (x2 == y2 && (x3 == y3 && (x4 == y4 && (x5 == y5)))))) w := by
  refine eqA_of Try.underlying58 (by kernel_rfl) ?_
  refine eqf_cons (by rfl) (by go_simp; rfl) (by go_simp; rfl) (by go_simp) ?_
  refine eqf_cons (by rfl) (by go_simp; rfl) (by go_simp; rfl) (by go_simp) ?_
  refine eqf_cons (by rfl) (by go_simp; rfl) (by go_simp; rfl) (by go_simp) ?_
  refine eqf_cons (by rfl) (by go_simp; rfl) (by go_simp; rfl) (by go_simp) ?_
  refine eqf_cons (by rfl) (by go_simp; rfl) (by go_simp; rfl) (by go_simp) ?_
  exact eqf_last (by rfl) (by go_simp; rfl) (by go_simp; rfl) (by go_simp)
theorem int8_beq (a b : Int8) : (a.toInt == b.toInt) = decide (a = b) := by
  rw [Bool.eq_iff_iff, beq_iff_eq, decide_eq_true_eq]
  exact ⟨fun h => Int8.toInt_inj.1 h, fun h => congrArg _ h⟩
theorem u8_beq (a b : UInt8) : ((a.toNat : Int) == (b.toNat : Int)) = decide (a = b) := by
  rw [Bool.eq_iff_iff, beq_iff_eq, decide_eq_true_eq]
  exact ⟨fun h => UInt8.toNat_inj.1 (by omega), fun h => by rw [h]⟩
theorem u32_beq (a b : BitVec 32) : ((a.toNat : Int) == (b.toNat : Int)) = decide (a = b) := by
  rw [Bool.eq_iff_iff, beq_iff_eq, decide_eq_true_eq]
  exact ⟨fun h => BitVec.eq_of_toNat_eq (by omega), fun h => by rw [h]⟩
instance : DecidableEq Cmd := fun a b => decidable_of_iff (a.number = b.number ∧ a.mx = b.mx ∧ a.my = b.my ∧ a.fire = b.fire ∧ a.view = b.view ∧ a.frac = b.frac) (by cases a; cases b; simp)
theorem neq58 (c d : Cmd) (w : World) : (binOp .neq 58 (.agg (cmdV c).toArray) (.agg (cmdV d).toArray)).run Try.prog w = .ok (.bool (!decide (c = d))) w := by
  obtain ⟨c0, c1, c2, c3, c4, c5⟩ := c
  obtain ⟨d0, d1, d2, d3, d4, d5⟩ := d
  have h := eqA58 9998 w c0.toNat d0.toNat c1.toInt d1.toInt c2.toInt d2.toInt c3 d3 c4.toNat d4.toNat c5.toNat d5.toNat
  have h3 : (c3 == d3) = decide (c3 = d3) := by cases c3 <;> cases d3 <;> rfl
  simp only [u32_beq, int8_beq, u8_beq, h3] at h
  simp only [binOp, cmdV]
  simp [Op.equal, Op.maxDepth, h]
theorem eql58 (c d : Cmd) (w : World) : (binOp .eql 58 (.agg (cmdV c).toArray) (.agg (cmdV d).toArray)).run Try.prog w = .ok (.bool (decide (c = d))) w := by
  obtain ⟨c0, c1, c2, c3, c4, c5⟩ := c
  obtain ⟨d0, d1, d2, d3, d4, d5⟩ := d
  have h := eqA58 9998 w c0.toNat d0.toNat c1.toInt d1.toInt c2.toInt d2.toInt c3 d3 c4.toNat d4.toNat c5.toNat d5.toNat
  have h3 : (c3 == d3) = decide (c3 = d3) := by cases c3 <;> cases d3 <;> rfl
  simp only [u32_beq, int8_beq, u8_beq, h3] at h
  simp only [binOp, cmdV]
  simp [Op.equal, Op.maxDepth, h]
end Go.Proofs.Ytplclgkchiaijaa
