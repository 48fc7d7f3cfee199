/-
  DERIVED. GIVEN WITH THE SEED: THE CARDS: each row of YtbjhdmknhimbjaaGreatDoorRows.lean that lists a variable, with what it lists TIED to the program's text (the seventh form; the later family's looks); each row that meets fmt, with fmt's text TOLD by the authors' own Lean function (tested against real Go, not proved from fmt's source: count such statements apart). THE CARD IS WHAT COUNTS. Prove the row's statement (the work); the ties are given (YtbjhdmknhimbjaaGreatDoorTie.lean); close each card by the builder's one call (the guide's Derived/Test/ToyasCard.lean, 'card_holds'). Laid BY PROGRAM, IN A SANDBOX (cutbox-door.mjs). By AI agents, Wed Nov 11 2026. No macro, syntax, notation, axiom, sorry.
-/
import Derived.Test.YtbjhdmknhimbjaaGreatDoorRows
import GoSem.ClaimSeven
namespace Go.Proofs.YtbjhdmknhimbjaaGreatDoor
namespace Rows

/-- THE TIED CARD OF 'ricochetlaw21.ServerSlots'. -/
def serverSlotsCard : Claim7 := { stood := { row := serverSlotsRow, standIns := [], harness := (true, "a8697a603dbcfec557e7aa698f27251a1ffc829ea82ffad24b4ad25080b6d485"), looks := false }, kinds := [], alts := [], laidByText := true, laidKinds := [.data, .data, .data], laidTests := true, laidLooks := .later }
def ServerSlotsCardSaid : Prop := Claim7.holds Tryz.pinned (.plain (OpenSpec.ofChange serverSlotsSpec)) serverSlotsCard

/-- THE TIED CARD OF 'ricochetlaw21.ServerSilent'. -/
def serverSilentCard : Claim7 := { stood := { row := serverSilentRow, standIns := [], harness := (true, "a8697a603dbcfec557e7aa698f27251a1ffc829ea82ffad24b4ad25080b6d485"), looks := false }, kinds := [], alts := [], laidByText := true, laidKinds := [.data, .data, .data], laidTests := true, laidLooks := .later }
def ServerSilentCardSaid : Prop := Claim7.holds Tryz.pinned (.plain (OpenSpec.ofChange serverSilentSpec)) serverSilentCard

/-- THE TIED CARD OF 'ricochetlaw21.ServerRun'. -/
def serverRunCard : Claim7 := { stood := { row := serverRunRow, standIns := [], harness := (true, "a8697a603dbcfec557e7aa698f27251a1ffc829ea82ffad24b4ad25080b6d485"), looks := false }, kinds := [], alts := [], laidByText := true, laidKinds := [.data, .data, .data], laidTests := true, laidLooks := .later }
def ServerRunCardSaid : Prop := Claim7.holds Tryz.pinned (.plain (OpenSpec.ofChange serverRunSpec)) serverRunCard

/-- THE TIED CARD OF 'ricochetlaw21.ServerRefuses'. -/
def serverRefusesCard : Claim7 := { stood := { row := serverRefusesRow, standIns := [], harness := (true, "a8697a603dbcfec557e7aa698f27251a1ffc829ea82ffad24b4ad25080b6d485"), looks := false }, kinds := [], alts := [], laidByText := true, laidKinds := [.data, .data, .data], laidTests := true, laidLooks := .later }
def ServerRefusesCardSaid : Prop := Claim7.holds Tryz.pinned (.plain (OpenSpec.ofChange serverRefusesSpec)) serverRefusesCard

/-- THE TIED CARD OF 'ricochetlaw21.ServerPlays'. -/
def serverPlaysCard : Claim7 := { stood := { row := serverPlaysRow, standIns := [], harness := (true, "a8697a603dbcfec557e7aa698f27251a1ffc829ea82ffad24b4ad25080b6d485"), looks := false }, kinds := [], alts := [], laidByText := true, laidKinds := [.data, .data, .data], laidTests := true, laidLooks := .later }
def ServerPlaysCardSaid : Prop := Claim7.holds Tryz.pinned (.plain (OpenSpec.ofChange serverPlaysSpec)) serverPlaysCard

/-- THE TIED CARD OF 'ricochetlaw21.ServerNil'. -/
def serverNilCard : Claim7 := { stood := { row := serverNilRow, standIns := [], harness := (true, "a8697a603dbcfec557e7aa698f27251a1ffc829ea82ffad24b4ad25080b6d485"), looks := false }, kinds := [], alts := [], laidByText := true, laidKinds := [.data, .data, .data], laidTests := true, laidLooks := .later }
def ServerNilCardSaid : Prop := Claim7.holds Tryz.pinned (.plain (OpenSpec.ofChange serverNilSpec)) serverNilCard

/-- THE SECOND FORM's CARD OF 'ricochetlaw21.ServerSlots'. -/
def serverSlotsUptoCard : Claim7 := { stood := { row := serverSlotsUptoRow, standIns := [], harness := (true, "a8697a603dbcfec557e7aa698f27251a1ffc829ea82ffad24b4ad25080b6d485"), looks := false }, kinds := [], alts := [], laidByText := true, laidKinds := [.data, .data, .data], laidTests := true, laidLooks := .later }
def ServerSlotsUptoCardSaid : Prop := Claim7.holds Tryz.pinned (.plain (OpenSpec.upto serverSlotsSpec)) serverSlotsUptoCard

/-- THE SECOND FORM's CARD OF 'ricochetlaw21.ServerSilent'. -/
def serverSilentUptoCard : Claim7 := { stood := { row := serverSilentUptoRow, standIns := [], harness := (true, "a8697a603dbcfec557e7aa698f27251a1ffc829ea82ffad24b4ad25080b6d485"), looks := false }, kinds := [], alts := [], laidByText := true, laidKinds := [.data, .data, .data], laidTests := true, laidLooks := .later }
def ServerSilentUptoCardSaid : Prop := Claim7.holds Tryz.pinned (.plain (OpenSpec.upto serverSilentSpec)) serverSilentUptoCard

/-- THE SECOND FORM's CARD OF 'ricochetlaw21.ServerRun'. -/
def serverRunUptoCard : Claim7 := { stood := { row := serverRunUptoRow, standIns := [], harness := (true, "a8697a603dbcfec557e7aa698f27251a1ffc829ea82ffad24b4ad25080b6d485"), looks := false }, kinds := [], alts := [], laidByText := true, laidKinds := [.data, .data, .data], laidTests := true, laidLooks := .later }
def ServerRunUptoCardSaid : Prop := Claim7.holds Tryz.pinned (.plain (OpenSpec.upto serverRunSpec)) serverRunUptoCard

/-- THE SECOND FORM's CARD OF 'ricochetlaw21.ServerRefuses'. -/
def serverRefusesUptoCard : Claim7 := { stood := { row := serverRefusesUptoRow, standIns := [], harness := (true, "a8697a603dbcfec557e7aa698f27251a1ffc829ea82ffad24b4ad25080b6d485"), looks := false }, kinds := [], alts := [], laidByText := true, laidKinds := [.data, .data, .data], laidTests := true, laidLooks := .later }
def ServerRefusesUptoCardSaid : Prop := Claim7.holds Tryz.pinned (.plain (OpenSpec.upto serverRefusesSpec)) serverRefusesUptoCard

/-- THE SECOND FORM's CARD OF 'ricochetlaw21.ServerPlays'. -/
def serverPlaysUptoCard : Claim7 := { stood := { row := serverPlaysUptoRow, standIns := [], harness := (true, "a8697a603dbcfec557e7aa698f27251a1ffc829ea82ffad24b4ad25080b6d485"), looks := false }, kinds := [], alts := [], laidByText := true, laidKinds := [.data, .data, .data], laidTests := true, laidLooks := .later }
def ServerPlaysUptoCardSaid : Prop := Claim7.holds Tryz.pinned (.plain (OpenSpec.upto serverPlaysSpec)) serverPlaysUptoCard

/-- THE SECOND FORM's CARD OF 'ricochetlaw21.ServerNil'. -/
def serverNilUptoCard : Claim7 := { stood := { row := serverNilUptoRow, standIns := [], harness := (true, "a8697a603dbcfec557e7aa698f27251a1ffc829ea82ffad24b4ad25080b6d485"), looks := false }, kinds := [], alts := [], laidByText := true, laidKinds := [.data, .data, .data], laidTests := true, laidLooks := .later }
def ServerNilUptoCardSaid : Prop := Claim7.holds Tryz.pinned (.plain (OpenSpec.upto serverNilSpec)) serverNilUptoCard
end Rows
end Go.Proofs.YtbjhdmknhimbjaaGreatDoor
