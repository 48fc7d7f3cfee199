/- Four bytes held against zeros, as one Bool. -/
import Derived.Test.YtplclgkchiaijaaCrcLaw2
namespace Go.Proofs.Ytplclgkchiaijaa
open Go.RowKit
theorem u8_zero (b : UInt8) : ((b.toNat : Int) == 0) = decide (b = 0) := by
  by_cases h : b = 0
  · subst h; rfl
  · rw [decide_eq_false h, beq_eq_false_iff_ne]
    intro e
    exact h (UInt8.toNat_inj.1 (by simpa using e))
theorem hq4 (b0 b1 b2 b3 : UInt8) : ∀ w : World, (binOp .eql 30 (.agg #[.int .u8 (b0.toNat : Int), .int .u8 (b1.toNat : Int), .int .u8 (b2.toNat : Int), .int .u8 (b3.toNat : Int)]) (.agg #[.int .u8 0, .int .u8 0, .int .u8 0, .int .u8 0])).run Try.prog w = .ok (.bool (decide (b0 = 0 ∧ b1 = 0 ∧ b2 = 0 ∧ b3 = 0))) w := by
  intro w
  have h : ∀ d : Nat, (Op.equalIn (d + 2) 30 (.agg #[.int .u8 (b0.toNat : Int), .int .u8 (b1.toNat : Int), .int .u8 (b2.toNat : Int), .int .u8 (b3.toNat : Int)]) (.agg #[.int .u8 0, .int .u8 0, .int .u8 0, .int .u8 0])).run Try.prog w = .ok (decide (b0 = 0 ∧ b1 = 0 ∧ b2 = 0 ∧ b3 = 0)) w := by
    intro d
    have u8 : ∀ x y : Int, (Op.equalIn (d + 1) 5 (.int .u8 x) (.int .u8 y)).run Try.prog w = .ok (x == y) w := by
      intro x y
      simp [Op.equalIn, run_underlying Try.underlying5]
    unfold Op.equalIn
    simp only [Sem.run_bind, run_underlying Try.underlying30, Result.andThen_ok]
    simp only [Std.Legacy.Range.forIn_eq_forIn_range', Std.Legacy.Range.size]
    by_cases h0 : b0 = 0 <;> by_cases h1 : b1 = 0 <;> by_cases h2 : b2 = 0 <;> by_cases h3 : b3 = 0 <;>
    simp [go_sem, u8, u8_zero, h0, h1, h2, h3, show List.range' 0 4 = [0, 1, 2, 3] from rfl, List.forIn_cons, List.forIn_nil]
  simp only [binOp]
  simp [Op.equal, Op.maxDepth, h 9998]
end Go.Proofs.Ytplclgkchiaijaa
