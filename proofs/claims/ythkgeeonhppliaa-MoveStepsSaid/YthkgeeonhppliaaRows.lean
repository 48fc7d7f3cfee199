/-
  No cell of these rows narrows 'for every input' (looked for: loops, veiled, ifaces, maps, wideKeys, modest, calm, conditions, laid).
  DERIVED. THE GIVEN ROWS OF THIS SEAT. 9 by the template 'for every input the law returns true; each argument reads behind the call as it read before'; 0 by the template 'total and deterministic' (their statements: YthkgeeonhppliaaTotals.lean).
  GIVEN WITH THE SEED: the statements are not yours to turn. If you find one false, say at which input.
  Laid BY PROGRAM, IN A SANDBOX (cutbox-rows.mjs): the forced cells as the released guide's own fill.sh prints them over the translation 4ea01840a3060ae4… (all of the seat's roots in one cut). By AI agents, Wed Nov 11 2026. No macro, syntax, notation, axiom, sorry.
-/
import Derived.Test.YthkgeeonhppliaaChecked
import GoSem.Claim
import GoSem.ClaimJoined
import GoSem.ClaimMapViews
import Derived.JoinedTies
import Derived.KernelRfl
namespace Go.Proofs.Ythkgeeonhppliaa
/- THE CELL 'sum', in the pinned program and in every row, IS THE sha256 OF THE DUMP (.gsa) THAT YthkgeeonhppliaaProg.lean LOADS. Nothing in Lean hashes anything: it is a label: what it is worth is what the hold of that sum in a sandbox is worth. -/
noncomputable def Try.pinned : Pinned := { name := "ythkgeeonhppliaa", sum := "4ea01840a3060ae4503e30447c15954f32786748eae7f23c86e5998434af20da", checked := Try.checked }
namespace Rows
def none {H : Type} : Left H := { results := [], args := [] }

/-- 'ricochetlaw12.MoveFree': WHATEVER THE INPUT: true; the input reads as it did. -/
def moveFreeSpec : ChangeSpec := { name := "moveFree", fn := fun _ => fun
  | [d1, d2, d3] => { results := [.lit (.bool true)], args := [d1, d2, d3] }
  | _ => none }
def moveFreeRow : OpenClaim := { program := "ythkgeeonhppliaa", sum := "4ea01840a3060ae4503e30447c15954f32786748eae7f23c86e5998434af20da", func := "ricochet/ricochetlaw12.MoveFree", spec := "moveFree", unfollowed := true, recurses := true, apart := false }
def MoveFreeSaid : Prop := moveFreeRow.holds Try.pinned (OpenSpec.ofChange moveFreeSpec)

/-- ITS FALSE NEIGHBOUR: 'it returns false'. Refute it at one input. -/
def moveFreeWrong : ChangeSpec := { name := "moveFree", fn := fun _ => fun
  | [d1, d2, d3] => { results := [.lit (.bool false)], args := [d1, d2, d3] }
  | _ => none }
def MoveFreeWrongFalsely : Prop := moveFreeRow.holds Try.pinned (OpenSpec.ofChange moveFreeWrong)

/-- 'ricochetlaw12.MoveStays': WHATEVER THE INPUT: true; the input reads as it did. -/
def moveStaysSpec : ChangeSpec := { name := "moveStays", fn := fun _ => fun
  | [d1, d2] => { results := [.lit (.bool true)], args := [d1, d2] }
  | _ => none }
def moveStaysRow : OpenClaim := { program := "ythkgeeonhppliaa", sum := "4ea01840a3060ae4503e30447c15954f32786748eae7f23c86e5998434af20da", func := "ricochet/ricochetlaw12.MoveStays", spec := "moveStays", unfollowed := true, recurses := true, apart := false }
def MoveStaysSaid : Prop := moveStaysRow.holds Try.pinned (OpenSpec.ofChange moveStaysSpec)

/-- ITS FALSE NEIGHBOUR: 'it returns false'. Refute it at one input. -/
def moveStaysWrong : ChangeSpec := { name := "moveStays", fn := fun _ => fun
  | [d1, d2] => { results := [.lit (.bool false)], args := [d1, d2] }
  | _ => none }
def MoveStaysWrongFalsely : Prop := moveStaysRow.holds Try.pinned (OpenSpec.ofChange moveStaysWrong)

/-- 'ricochetlaw12.MoveOpen': WHATEVER THE INPUT: true; the input reads as it did. -/
def moveOpenSpec : ChangeSpec := { name := "moveOpen", fn := fun _ => fun
  | [d1, d2] => { results := [.lit (.bool true)], args := [d1, d2] }
  | _ => none }
def moveOpenRow : OpenClaim := { program := "ythkgeeonhppliaa", sum := "4ea01840a3060ae4503e30447c15954f32786748eae7f23c86e5998434af20da", func := "ricochet/ricochetlaw12.MoveOpen", spec := "moveOpen", unfollowed := true, recurses := true, apart := false }
def MoveOpenSaid : Prop := moveOpenRow.holds Try.pinned (OpenSpec.ofChange moveOpenSpec)

/-- ITS FALSE NEIGHBOUR: 'it returns false'. Refute it at one input. -/
def moveOpenWrong : ChangeSpec := { name := "moveOpen", fn := fun _ => fun
  | [d1, d2] => { results := [.lit (.bool false)], args := [d1, d2] }
  | _ => none }
def MoveOpenWrongFalsely : Prop := moveOpenRow.holds Try.pinned (OpenSpec.ofChange moveOpenWrong)

/-- 'ricochetlaw12.MoveSteps': WHATEVER THE INPUT: true; the input reads as it did. -/
def moveStepsSpec : ChangeSpec := { name := "moveSteps", fn := fun _ => fun
  | [d1, d2, d3] => { results := [.lit (.bool true)], args := [d1, d2, d3] }
  | _ => none }
def moveStepsRow : OpenClaim := { program := "ythkgeeonhppliaa", sum := "4ea01840a3060ae4503e30447c15954f32786748eae7f23c86e5998434af20da", func := "ricochet/ricochetlaw12.MoveSteps", spec := "moveSteps", unfollowed := true, recurses := true, apart := false }
def MoveStepsSaid : Prop := moveStepsRow.holds Try.pinned (OpenSpec.ofChange moveStepsSpec)

/-- ITS FALSE NEIGHBOUR: 'it returns false'. Refute it at one input. -/
def moveStepsWrong : ChangeSpec := { name := "moveSteps", fn := fun _ => fun
  | [d1, d2, d3] => { results := [.lit (.bool false)], args := [d1, d2, d3] }
  | _ => none }
def MoveStepsWrongFalsely : Prop := moveStepsRow.holds Try.pinned (OpenSpec.ofChange moveStepsWrong)

/-- 'ricochetlaw12.MoveRolls': WHATEVER THE INPUT: true; the input reads as it did. -/
def moveRollsSpec : ChangeSpec := { name := "moveRolls", fn := fun _ => fun
  | [d1, d2, d3] => { results := [.lit (.bool true)], args := [d1, d2, d3] }
  | _ => none }
def moveRollsRow : OpenClaim := { program := "ythkgeeonhppliaa", sum := "4ea01840a3060ae4503e30447c15954f32786748eae7f23c86e5998434af20da", func := "ricochet/ricochetlaw12.MoveRolls", spec := "moveRolls", unfollowed := true, recurses := true, apart := false }
def MoveRollsSaid : Prop := moveRollsRow.holds Try.pinned (OpenSpec.ofChange moveRollsSpec)

/-- ITS FALSE NEIGHBOUR: 'it returns false'. Refute it at one input. -/
def moveRollsWrong : ChangeSpec := { name := "moveRolls", fn := fun _ => fun
  | [d1, d2, d3] => { results := [.lit (.bool false)], args := [d1, d2, d3] }
  | _ => none }
def MoveRollsWrongFalsely : Prop := moveRollsRow.holds Try.pinned (OpenSpec.ofChange moveRollsWrong)

/-- 'ricochetlaw13.WorldFormed': WHATEVER THE INPUT: true; the input reads as it did. -/
def worldFormedSpec : ChangeSpec := { name := "worldFormed", fn := fun _ => fun
  | [d1, d2, d3] => { results := [.lit (.bool true)], args := [d1, d2, d3] }
  | _ => none }
def worldFormedRow : OpenClaim := { program := "ythkgeeonhppliaa", sum := "4ea01840a3060ae4503e30447c15954f32786748eae7f23c86e5998434af20da", func := "ricochet/ricochetlaw13.WorldFormed", spec := "worldFormed", inPlace := ["slices.overlaps[ricochet/api.Entity]"], unfollowed := true, recurses := true, apart := false }
def WorldFormedSaid : Prop := worldFormedRow.holds Try.pinned (OpenSpec.ofChange worldFormedSpec)

/-- ITS FALSE NEIGHBOUR: 'it returns false'. Refute it at one input. -/
def worldFormedWrong : ChangeSpec := { name := "worldFormed", fn := fun _ => fun
  | [d1, d2, d3] => { results := [.lit (.bool false)], args := [d1, d2, d3] }
  | _ => none }
def WorldFormedWrongFalsely : Prop := worldFormedRow.holds Try.pinned (OpenSpec.ofChange worldFormedWrong)

/-- 'ricochetlaw13.WorldApart': WHATEVER THE INPUT: true; the input reads as it did. -/
def worldApartSpec : ChangeSpec := { name := "worldApart", fn := fun _ => fun
  | [d1, d2, d3] => { results := [.lit (.bool true)], args := [d1, d2, d3] }
  | _ => none }
def worldApartRow : OpenClaim := { program := "ythkgeeonhppliaa", sum := "4ea01840a3060ae4503e30447c15954f32786748eae7f23c86e5998434af20da", func := "ricochet/ricochetlaw13.WorldApart", spec := "worldApart", inPlace := ["slices.overlaps[ricochet/api.Entity]"], unfollowed := true, recurses := true, apart := false }
def WorldApartSaid : Prop := worldApartRow.holds Try.pinned (OpenSpec.ofChange worldApartSpec)

/-- ITS FALSE NEIGHBOUR: 'it returns false'. Refute it at one input. -/
def worldApartWrong : ChangeSpec := { name := "worldApart", fn := fun _ => fun
  | [d1, d2, d3] => { results := [.lit (.bool false)], args := [d1, d2, d3] }
  | _ => none }
def WorldApartWrongFalsely : Prop := worldApartRow.holds Try.pinned (OpenSpec.ofChange worldApartWrong)

/-- 'ricochetlaw13.WorldTicks': WHATEVER THE INPUT: true; the input reads as it did. -/
def worldTicksSpec : ChangeSpec := { name := "worldTicks", fn := fun _ => fun
  | [d1, d2, d3] => { results := [.lit (.bool true)], args := [d1, d2, d3] }
  | _ => none }
def worldTicksRow : OpenClaim := { program := "ythkgeeonhppliaa", sum := "4ea01840a3060ae4503e30447c15954f32786748eae7f23c86e5998434af20da", func := "ricochet/ricochetlaw13.WorldTicks", spec := "worldTicks", inPlace := ["slices.overlaps[ricochet/api.Entity]"], unfollowed := true, recurses := true, apart := false }
def WorldTicksSaid : Prop := worldTicksRow.holds Try.pinned (OpenSpec.ofChange worldTicksSpec)

/-- ITS FALSE NEIGHBOUR: 'it returns false'. Refute it at one input. -/
def worldTicksWrong : ChangeSpec := { name := "worldTicks", fn := fun _ => fun
  | [d1, d2, d3] => { results := [.lit (.bool false)], args := [d1, d2, d3] }
  | _ => none }
def WorldTicksWrongFalsely : Prop := worldTicksRow.holds Try.pinned (OpenSpec.ofChange worldTicksWrong)

/-- 'ricochetlaw13.WorldAgain': WHATEVER THE INPUT: true; the input reads as it did. -/
def worldAgainSpec : ChangeSpec := { name := "worldAgain", fn := fun _ => fun
  | [d1, d2, d3] => { results := [.lit (.bool true)], args := [d1, d2, d3] }
  | _ => none }
def worldAgainRow : OpenClaim := { program := "ythkgeeonhppliaa", sum := "4ea01840a3060ae4503e30447c15954f32786748eae7f23c86e5998434af20da", func := "ricochet/ricochetlaw13.WorldAgain", spec := "worldAgain", inPlace := ["slices.overlaps[ricochet/api.Entity]"], unfollowed := true, recurses := true, apart := false }
def WorldAgainSaid : Prop := worldAgainRow.holds Try.pinned (OpenSpec.ofChange worldAgainSpec)

/-- ITS FALSE NEIGHBOUR: 'it returns false'. Refute it at one input. -/
def worldAgainWrong : ChangeSpec := { name := "worldAgain", fn := fun _ => fun
  | [d1, d2, d3] => { results := [.lit (.bool false)], args := [d1, d2, d3] }
  | _ => none }
def WorldAgainWrongFalsely : Prop := worldAgainRow.holds Try.pinned (OpenSpec.ofChange worldAgainWrong)

/- THE SECOND FORM. 'bulk': how many values and letters a reading holds, each counted each time it is reached (what is shared counts as often as it is met; a slice's spare places count too). A statement '..UptoSaid' is the law's where the arguments, and the package variables that the reading takes, are together of bulk at most 1048576: NARROWER than '..Said'. Prove '..Said' where nothing that the law and all that it calls make is longer than what came in: it says more and counts as full. Else prove '..UptoSaid'. A law counts once. -/
mutual
def uptoBulk {H : Type} : DataW H → Nat
  | .lit (.string bytes) => bytes.length + 1
  | .lit _ => 1
  | .nil => 1
  | .ptr d => uptoBulk d + 1
  | .slice elems spare => uptoBulkAll elems + uptoBulkAll spare + 1
  | .agg parts => uptoBulkAll parts + 1
  | .iface _ d => uptoBulk d + 1
  | .map entries => uptoBulkEntries entries + 1
  | .held _ => 1
def uptoBulkAll {H : Type} : List (DataW H) → Nat
  | [] => 0
  | d :: r => uptoBulk d + uptoBulkAll r
def uptoBulkEntries {H : Type} : List (Lit × DataW H) → Nat
  | [] => 0
  | x :: r => uptoBulkEntry x + uptoBulkEntries r
def uptoBulkEntry {H : Type} : Lit × DataW H → Nat
  | (.string bytes, d) => bytes.length + uptoBulk d + 1
  | (_, d) => uptoBulk d + 1
 end
def uptoSmall : (H : Type) → List (DataW H) → Bool := fun _ ds => decide (uptoBulkAll ds ≤ 1048576)
def OpenSpec.upto (s : _root_.Go.ChangeSpec) : _root_.Go.OpenSpec := { _root_.Go.OpenSpec.ofChange s with cond := some uptoSmall }

/-- 'ricochetlaw12.MoveFree', WHERE WHAT IT READS IS OF BULK AT MOST 1048576: true; the input reads as it did. -/
def moveFreeUptoRow : OpenClaim := { program := "ythkgeeonhppliaa", sum := "4ea01840a3060ae4503e30447c15954f32786748eae7f23c86e5998434af20da", func := "ricochet/ricochetlaw12.MoveFree", spec := "moveFree", unfollowed := true, recurses := true, apart := false, narrowed := true }
def MoveFreeUptoSaid : Prop := moveFreeUptoRow.holds Try.pinned (OpenSpec.upto moveFreeSpec)

/-- 'ricochetlaw12.MoveStays', WHERE WHAT IT READS IS OF BULK AT MOST 1048576: true; the input reads as it did. -/
def moveStaysUptoRow : OpenClaim := { program := "ythkgeeonhppliaa", sum := "4ea01840a3060ae4503e30447c15954f32786748eae7f23c86e5998434af20da", func := "ricochet/ricochetlaw12.MoveStays", spec := "moveStays", unfollowed := true, recurses := true, apart := false, narrowed := true }
def MoveStaysUptoSaid : Prop := moveStaysUptoRow.holds Try.pinned (OpenSpec.upto moveStaysSpec)

/-- 'ricochetlaw12.MoveOpen', WHERE WHAT IT READS IS OF BULK AT MOST 1048576: true; the input reads as it did. -/
def moveOpenUptoRow : OpenClaim := { program := "ythkgeeonhppliaa", sum := "4ea01840a3060ae4503e30447c15954f32786748eae7f23c86e5998434af20da", func := "ricochet/ricochetlaw12.MoveOpen", spec := "moveOpen", unfollowed := true, recurses := true, apart := false, narrowed := true }
def MoveOpenUptoSaid : Prop := moveOpenUptoRow.holds Try.pinned (OpenSpec.upto moveOpenSpec)

/-- 'ricochetlaw12.MoveSteps', WHERE WHAT IT READS IS OF BULK AT MOST 1048576: true; the input reads as it did. -/
def moveStepsUptoRow : OpenClaim := { program := "ythkgeeonhppliaa", sum := "4ea01840a3060ae4503e30447c15954f32786748eae7f23c86e5998434af20da", func := "ricochet/ricochetlaw12.MoveSteps", spec := "moveSteps", unfollowed := true, recurses := true, apart := false, narrowed := true }
def MoveStepsUptoSaid : Prop := moveStepsUptoRow.holds Try.pinned (OpenSpec.upto moveStepsSpec)

/-- 'ricochetlaw12.MoveRolls', WHERE WHAT IT READS IS OF BULK AT MOST 1048576: true; the input reads as it did. -/
def moveRollsUptoRow : OpenClaim := { program := "ythkgeeonhppliaa", sum := "4ea01840a3060ae4503e30447c15954f32786748eae7f23c86e5998434af20da", func := "ricochet/ricochetlaw12.MoveRolls", spec := "moveRolls", unfollowed := true, recurses := true, apart := false, narrowed := true }
def MoveRollsUptoSaid : Prop := moveRollsUptoRow.holds Try.pinned (OpenSpec.upto moveRollsSpec)

/-- 'ricochetlaw13.WorldFormed', WHERE WHAT IT READS IS OF BULK AT MOST 1048576: true; the input reads as it did. -/
def worldFormedUptoRow : OpenClaim := { program := "ythkgeeonhppliaa", sum := "4ea01840a3060ae4503e30447c15954f32786748eae7f23c86e5998434af20da", func := "ricochet/ricochetlaw13.WorldFormed", spec := "worldFormed", inPlace := ["slices.overlaps[ricochet/api.Entity]"], unfollowed := true, recurses := true, apart := false, narrowed := true }
def WorldFormedUptoSaid : Prop := worldFormedUptoRow.holds Try.pinned (OpenSpec.upto worldFormedSpec)

/-- 'ricochetlaw13.WorldApart', WHERE WHAT IT READS IS OF BULK AT MOST 1048576: true; the input reads as it did. -/
def worldApartUptoRow : OpenClaim := { program := "ythkgeeonhppliaa", sum := "4ea01840a3060ae4503e30447c15954f32786748eae7f23c86e5998434af20da", func := "ricochet/ricochetlaw13.WorldApart", spec := "worldApart", inPlace := ["slices.overlaps[ricochet/api.Entity]"], unfollowed := true, recurses := true, apart := false, narrowed := true }
def WorldApartUptoSaid : Prop := worldApartUptoRow.holds Try.pinned (OpenSpec.upto worldApartSpec)

/-- 'ricochetlaw13.WorldTicks', WHERE WHAT IT READS IS OF BULK AT MOST 1048576: true; the input reads as it did. -/
def worldTicksUptoRow : OpenClaim := { program := "ythkgeeonhppliaa", sum := "4ea01840a3060ae4503e30447c15954f32786748eae7f23c86e5998434af20da", func := "ricochet/ricochetlaw13.WorldTicks", spec := "worldTicks", inPlace := ["slices.overlaps[ricochet/api.Entity]"], unfollowed := true, recurses := true, apart := false, narrowed := true }
def WorldTicksUptoSaid : Prop := worldTicksUptoRow.holds Try.pinned (OpenSpec.upto worldTicksSpec)

/-- 'ricochetlaw13.WorldAgain', WHERE WHAT IT READS IS OF BULK AT MOST 1048576: true; the input reads as it did. -/
def worldAgainUptoRow : OpenClaim := { program := "ythkgeeonhppliaa", sum := "4ea01840a3060ae4503e30447c15954f32786748eae7f23c86e5998434af20da", func := "ricochet/ricochetlaw13.WorldAgain", spec := "worldAgain", inPlace := ["slices.overlaps[ricochet/api.Entity]"], unfollowed := true, recurses := true, apart := false, narrowed := true }
def WorldAgainUptoSaid : Prop := worldAgainUptoRow.holds Try.pinned (OpenSpec.upto worldAgainSpec)

end Rows
end Go.Proofs.Ythkgeeonhppliaa
