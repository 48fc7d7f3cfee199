/- The walks of layer 9 that layer 19 asks for: formed commands, rows. -/
import Derived.Test.YtplclgkchiaijaaRow
import Derived.Test.YtplclgkchiaijaaProg
import Derived.WalkKit
import Derived.WalkSpells
import Derived.WalkLawsBesides
import Derived.Lib.Hide
namespace Go.Proofs.Ytplclgkchiaijaa
open Go.RowKit
/-- A command. -/
structure Cmd where
  number : BitVec 32
  mx : Int8
  my : Int8
  fire : Bool
  view : BitVec 32
  frac : UInt8
def cmdV (c : Cmd) : List Value := [.int .u32 (c.number.toNat : Int), .int .i8 c.mx.toInt, .int .i8 c.my.toInt, .bool c.fire, .int .u32 (c.view.toNat : Int), .int .u8 (c.frac.toNat : Int)]
def cmdsV (l : List Cmd) : List Value := l.flatMap cmdV
def formedB (c : Cmd) : Bool := decide (1 ≤ c.number.toNat ∧ c.number.toNat ≤ 2147483648 ∧ -127 ≤ c.mx.toInt ∧ -127 ≤ c.my.toInt ∧ ((c.fire = true ∧ c.view.toNat ≤ 2147483648) ∨ (c.fire = false ∧ c.view.toNat = 0 ∧ c.frac.toNat = 0)))
set_option maxHeartbeats 1000000 in
theorem cmdFormed (c : Cmd) (w : World) : Calls Try.prog 58 #[.agg (cmdV c).toArray] w fun e w' => e = .returned (.bool (formedB c)) ∧ Below w.heap.size w w' := by
  obtain ⟨number, mx, my, fire, view, frac⟩ := c
  unfold cmdV
  cases fire
  all_goals
    go_enter Try.func58, Try.ntmps58
    go_wp2
    all_goals
      go_ret
      refine ⟨ret_bool ?_, (Below.refl _ _).alloc (Nat.le_refl _) _⟩
      rw [Bool.eq_iff_iff]
      simp [formedB]
      try omega
end Go.Proofs.Ytplclgkchiaijaa
