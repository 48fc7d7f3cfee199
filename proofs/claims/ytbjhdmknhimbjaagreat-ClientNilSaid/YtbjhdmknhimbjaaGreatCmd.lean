/- Formed commands. -/
import Derived.Test.YtbjhdmknhimbjaaGreatFix
set_option linter.unusedSimpArgs false
set_option linter.unusedVariables false
namespace Go.Proofs.YtbjhdmknhimbjaaGreat
open Go.RowKit
structure CmdV where
  num : Int
  mx : Int
  my : Int
  fire : Bool
  view : Int
  frac : Int
def cmdOk (q : CmdV) : Bool := decide (1 ≤ q.num ∧ q.num ≤ 2147483648 ∧ -127 ≤ q.mx ∧ -127 ≤ q.my ∧ ((q.fire = true ∧ q.view ≤ 2147483648) ∨ (q.fire = false ∧ q.view = 0 ∧ q.frac = 0)))
set_option maxHeartbeats 4000000 in
theorem cmdFormed (q : CmdV) (w : World) : Calls Tryz.prog 149 #[.agg #[.int .u32 q.num, .int .i8 q.mx, .int .i8 q.my, .bool q.fire, .int .u32 q.view, .int .u8 q.frac]] w fun e w' => e = .returned (.bool (cmdOk q)) ∧ Below w.heap.size w w' := by
  obtain ⟨a, b, c, d, e, f⟩ := q
  cases d
  all_goals
    go_enter Tryz.func149, Tryz.ntmps149
    go_wp2
    all_goals
      go_ret
      refine ⟨ret_bool ?_, (by repeat (first | with_reducible exact Below.refl _ _ | with_reducible assumption | with_reducible refine Below.drew ?_ | with_reducible refine below_drews ?_ _ | with_reducible refine Below.alloc ?_ (by first | omega | (simp; done) | (simp; omega)) _ | with_reducible refine Below.setCell ?_ (by first | omega | (simp; done) | (simp; omega)) _))⟩
      rw [Bool.eq_iff_iff]
      simp [cmdOk]
      try omega
def cmdCells (c : CmdV) : List Value := [.int .u32 c.num, .int .i8 c.mx, .int .i8 c.my, .bool c.fire, .int .u32 c.view, .int .u8 c.frac]
def cmdsV (l : List CmdV) : List Value := l.flatMap cmdCells
theorem cmdCells_one (c : CmdV) : ∀ u ∈ cmdCells c, u.oneCell' = true := by
  intro u hu
  unfold cmdCells at hu
  simp only [List.mem_cons, List.not_mem_nil, or_false] at hu
  rcases hu with h | h | h | h | h | h <;> subst h <;> rfl
end Go.Proofs.YtbjhdmknhimbjaaGreat
