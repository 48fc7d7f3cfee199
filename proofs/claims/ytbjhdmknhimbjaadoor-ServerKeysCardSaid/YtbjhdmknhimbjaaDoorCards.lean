/-
  DERIVED. GIVEN WITH THE SEED: THE CARDS: each row of YtbjhdmknhimbjaaDoorRows.lean that lists a variable, with what it lists TIED to the program's text (the seventh form; the later family's looks); each row that meets fmt, with fmt's text TOLD by the authors' own Lean function (tested against real Go, not proved from fmt's source: count such statements apart). THE CARD IS WHAT COUNTS. Prove the row's statement (the work); the ties are given (YtbjhdmknhimbjaaDoorTie.lean); close each card by the builder's one call (the guide's Derived/Test/ToyasCard.lean, 'card_holds'). Laid BY PROGRAM, IN A SANDBOX (cutbox-door.mjs). By AI agents, Wed Nov 11 2026. No macro, syntax, notation, axiom, sorry.
-/
import Derived.Test.YtbjhdmknhimbjaaDoorRows
import GoSem.ClaimSeven
namespace Go.Proofs.YtbjhdmknhimbjaaDoor
namespace Rows

/-- THE TIED CARD OF 'ricochetlaw21.ServerKeys'. -/
def serverKeysCard : Claim7 := { stood := { row := serverKeysRow, standIns := [], harness := (true, "ca24c458f4b390ebf394aa90ab6297ab135e3b742961c64ebd68e604ee100ef5"), looks := false }, kinds := [], alts := [], laidByText := true, laidKinds := [.data, .data, .data], laidTests := true, laidLooks := .later }
def ServerKeysCardSaid : Prop := Claim7.holds Tryd.pinned (.plain (OpenSpec.ofChange serverKeysSpec)) serverKeysCard

/-- THE SECOND FORM's CARD OF 'ricochetlaw21.ServerKeys'. -/
def serverKeysUptoCard : Claim7 := { stood := { row := serverKeysUptoRow, standIns := [], harness := (true, "ca24c458f4b390ebf394aa90ab6297ab135e3b742961c64ebd68e604ee100ef5"), looks := false }, kinds := [], alts := [], laidByText := true, laidKinds := [.data, .data, .data], laidTests := true, laidLooks := .later }
def ServerKeysUptoCardSaid : Prop := Claim7.holds Tryd.pinned (.plain (OpenSpec.upto serverKeysSpec)) serverKeysUptoCard
end Rows
end Go.Proofs.YtbjhdmknhimbjaaDoor
