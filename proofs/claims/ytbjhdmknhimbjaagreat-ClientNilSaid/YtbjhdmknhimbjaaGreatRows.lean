/-
  No cell of these rows narrows 'for every input' (looked for: loops, veiled, ifaces, maps, wideKeys, modest, calm, conditions, laid).
  DERIVED. THE GIVEN ROWS OF THIS SEAT. 4 by the template 'for every input the law returns true; each argument reads behind the call as it read before'; 0 by the template 'total and deterministic' (their statements: YtbjhdmknhimbjaaGreatTotals.lean).
  GIVEN WITH THE SEED: the statements are not yours to turn. If you find one false, say at which input.
  Laid BY PROGRAM, IN A SANDBOX (cutbox-rows.mjs): the forced cells as the released guide's own fill.sh prints them over the translation 43d48d3f944b26ad… (all of the seat's roots in one cut). By AI agents, Wed Nov 11 2026. No macro, syntax, notation, axiom, sorry.
-/
import Derived.Test.YtbjhdmknhimbjaaGreatChecked
import GoSem.Claim
import GoSem.ClaimJoined
import GoSem.ClaimMapViews
import Derived.JoinedTies
import Derived.KernelRfl
namespace Go.Proofs.YtbjhdmknhimbjaaGreat
/- THE CELL 'sum', in the pinned program and in every row, IS THE sha256 OF THE DUMP (.gsa) THAT YtbjhdmknhimbjaaGreatProg.lean LOADS. Nothing in Lean hashes anything: it is a label: what it is worth is what the hold of that sum in a sandbox is worth. -/
noncomputable def Tryz.pinned : Pinned := { name := "ytbjhdmknhimbjaagreat", sum := "43d48d3f944b26ad4409004e650f1780ed55dcdbc2b317b5fadb3981bb29fd2d", checked := Tryz.checked }
namespace Rows
def none {H : Type} : Left H := { results := [], args := [] }

/-- 'ricochetlaw22.ClientSends': WHATEVER THE INPUT: true; the input reads as it did. -/
def clientSendsSpec : ChangeSpec := { name := "clientSends", fn := fun _ => fun
  | [d1, d2, d3] => { results := [.lit (.bool true)], args := [d1, d2, d3] }
  | _ => none }
def clientSendsRow : OpenClaim := { program := "ytbjhdmknhimbjaagreat", sum := "43d48d3f944b26ad4409004e650f1780ed55dcdbc2b317b5fadb3981bb29fd2d", func := "ricochet/ricochetlaw22.ClientSends", spec := "clientSends", unfollowed := true, recurses := true, apart := false }
def ClientSendsSaid : Prop := clientSendsRow.holds Tryz.pinned (OpenSpec.ofChange clientSendsSpec)

/-- ITS FALSE NEIGHBOUR: 'it returns false'. Refute it at one input. -/
def clientSendsWrong : ChangeSpec := { name := "clientSends", fn := fun _ => fun
  | [d1, d2, d3] => { results := [.lit (.bool false)], args := [d1, d2, d3] }
  | _ => none }
def ClientSendsWrongFalsely : Prop := clientSendsRow.holds Tryz.pinned (OpenSpec.ofChange clientSendsWrong)

/-- 'ricochetlaw22.ClientAccepts': WHATEVER THE INPUT: true; the input reads as it did. -/
def clientAcceptsSpec : ChangeSpec := { name := "clientAccepts", fn := fun _ => fun
  | [d1, d2, d3] => { results := [.lit (.bool true)], args := [d1, d2, d3] }
  | _ => none }
def clientAcceptsRow : OpenClaim := { program := "ytbjhdmknhimbjaagreat", sum := "43d48d3f944b26ad4409004e650f1780ed55dcdbc2b317b5fadb3981bb29fd2d", func := "ricochet/ricochetlaw22.ClientAccepts", spec := "clientAccepts", unfollowed := true, recurses := true, apart := false }
def ClientAcceptsSaid : Prop := clientAcceptsRow.holds Tryz.pinned (OpenSpec.ofChange clientAcceptsSpec)

/-- ITS FALSE NEIGHBOUR: 'it returns false'. Refute it at one input. -/
def clientAcceptsWrong : ChangeSpec := { name := "clientAccepts", fn := fun _ => fun
  | [d1, d2, d3] => { results := [.lit (.bool false)], args := [d1, d2, d3] }
  | _ => none }
def ClientAcceptsWrongFalsely : Prop := clientAcceptsRow.holds Tryz.pinned (OpenSpec.ofChange clientAcceptsWrong)

/-- 'ricochetlaw22.ClientResync': WHATEVER THE INPUT: true; the input reads as it did. -/
def clientResyncSpec : ChangeSpec := { name := "clientResync", fn := fun _ => fun
  | [d1, d2, d3] => { results := [.lit (.bool true)], args := [d1, d2, d3] }
  | _ => none }
def clientResyncRow : OpenClaim := { program := "ytbjhdmknhimbjaagreat", sum := "43d48d3f944b26ad4409004e650f1780ed55dcdbc2b317b5fadb3981bb29fd2d", func := "ricochet/ricochetlaw22.ClientResync", spec := "clientResync", unfollowed := true, recurses := true, apart := false }
def ClientResyncSaid : Prop := clientResyncRow.holds Tryz.pinned (OpenSpec.ofChange clientResyncSpec)

/-- ITS FALSE NEIGHBOUR: 'it returns false'. Refute it at one input. -/
def clientResyncWrong : ChangeSpec := { name := "clientResync", fn := fun _ => fun
  | [d1, d2, d3] => { results := [.lit (.bool false)], args := [d1, d2, d3] }
  | _ => none }
def ClientResyncWrongFalsely : Prop := clientResyncRow.holds Tryz.pinned (OpenSpec.ofChange clientResyncWrong)

/-- 'ricochetlaw22.ClientNil': WHATEVER THE INPUT: true; the input reads as it did. -/
def clientNilSpec : ChangeSpec := { name := "clientNil", fn := fun _ => fun
  | [d1, d2, d3] => { results := [.lit (.bool true)], args := [d1, d2, d3] }
  | _ => none }
def clientNilRow : OpenClaim := { program := "ytbjhdmknhimbjaagreat", sum := "43d48d3f944b26ad4409004e650f1780ed55dcdbc2b317b5fadb3981bb29fd2d", func := "ricochet/ricochetlaw22.ClientNil", spec := "clientNil", unfollowed := true, recurses := true, apart := false }
def ClientNilSaid : Prop := clientNilRow.holds Tryz.pinned (OpenSpec.ofChange clientNilSpec)

/-- ITS FALSE NEIGHBOUR: 'it returns false'. Refute it at one input. -/
def clientNilWrong : ChangeSpec := { name := "clientNil", fn := fun _ => fun
  | [d1, d2, d3] => { results := [.lit (.bool false)], args := [d1, d2, d3] }
  | _ => none }
def ClientNilWrongFalsely : Prop := clientNilRow.holds Tryz.pinned (OpenSpec.ofChange clientNilWrong)

/- THE SECOND FORM. 'bulk': how many values and letters a reading holds, each counted each time it is reached (what is shared counts as often as it is met; a slice's spare places count too). A statement '..UptoSaid' is the law's where the arguments, and the package variables that the reading takes, are together of bulk at most 1048576: NARROWER than '..Said'. Prove '..Said' where nothing that the law and all that it calls make is longer than what came in: it says more and counts as full. Else prove '..UptoSaid'. A law counts once. -/
mutual
def uptoBulk {H : Type} : DataW H → Nat
  | .lit (.string bytes) => bytes.length + 1
  | .lit _ => 1
  | .nil => 1
  | .ptr d => uptoBulk d + 1
  | .slice elems spare => uptoBulkAll elems + uptoBulkAll spare + 1
  | .agg parts => uptoBulkAll parts + 1
  | .iface _ d => uptoBulk d + 1
  | .map entries => uptoBulkEntries entries + 1
  | .held _ => 1
def uptoBulkAll {H : Type} : List (DataW H) → Nat
  | [] => 0
  | d :: r => uptoBulk d + uptoBulkAll r
def uptoBulkEntries {H : Type} : List (Lit × DataW H) → Nat
  | [] => 0
  | x :: r => uptoBulkEntry x + uptoBulkEntries r
def uptoBulkEntry {H : Type} : Lit × DataW H → Nat
  | (.string bytes, d) => bytes.length + uptoBulk d + 1
  | (_, d) => uptoBulk d + 1
 end
def uptoSmall : (H : Type) → List (DataW H) → Bool := fun _ ds => decide (uptoBulkAll ds ≤ 1048576)
def OpenSpec.upto (s : _root_.Go.ChangeSpec) : _root_.Go.OpenSpec := { _root_.Go.OpenSpec.ofChange s with cond := some uptoSmall }

/-- 'ricochetlaw22.ClientSends', WHERE WHAT IT READS IS OF BULK AT MOST 1048576: true; the input reads as it did. -/
def clientSendsUptoRow : OpenClaim := { program := "ytbjhdmknhimbjaagreat", sum := "43d48d3f944b26ad4409004e650f1780ed55dcdbc2b317b5fadb3981bb29fd2d", func := "ricochet/ricochetlaw22.ClientSends", spec := "clientSends", unfollowed := true, recurses := true, apart := false, narrowed := true }
def ClientSendsUptoSaid : Prop := clientSendsUptoRow.holds Tryz.pinned (OpenSpec.upto clientSendsSpec)

/-- 'ricochetlaw22.ClientAccepts', WHERE WHAT IT READS IS OF BULK AT MOST 1048576: true; the input reads as it did. -/
def clientAcceptsUptoRow : OpenClaim := { program := "ytbjhdmknhimbjaagreat", sum := "43d48d3f944b26ad4409004e650f1780ed55dcdbc2b317b5fadb3981bb29fd2d", func := "ricochet/ricochetlaw22.ClientAccepts", spec := "clientAccepts", unfollowed := true, recurses := true, apart := false, narrowed := true }
def ClientAcceptsUptoSaid : Prop := clientAcceptsUptoRow.holds Tryz.pinned (OpenSpec.upto clientAcceptsSpec)

/-- 'ricochetlaw22.ClientResync', WHERE WHAT IT READS IS OF BULK AT MOST 1048576: true; the input reads as it did. -/
def clientResyncUptoRow : OpenClaim := { program := "ytbjhdmknhimbjaagreat", sum := "43d48d3f944b26ad4409004e650f1780ed55dcdbc2b317b5fadb3981bb29fd2d", func := "ricochet/ricochetlaw22.ClientResync", spec := "clientResync", unfollowed := true, recurses := true, apart := false, narrowed := true }
def ClientResyncUptoSaid : Prop := clientResyncUptoRow.holds Tryz.pinned (OpenSpec.upto clientResyncSpec)

/-- 'ricochetlaw22.ClientNil', WHERE WHAT IT READS IS OF BULK AT MOST 1048576: true; the input reads as it did. -/
def clientNilUptoRow : OpenClaim := { program := "ytbjhdmknhimbjaagreat", sum := "43d48d3f944b26ad4409004e650f1780ed55dcdbc2b317b5fadb3981bb29fd2d", func := "ricochet/ricochetlaw22.ClientNil", spec := "clientNil", unfollowed := true, recurses := true, apart := false, narrowed := true }
def ClientNilUptoSaid : Prop := clientNilUptoRow.holds Tryz.pinned (OpenSpec.upto clientNilSpec)

end Rows
end Go.Proofs.YtbjhdmknhimbjaaGreat
