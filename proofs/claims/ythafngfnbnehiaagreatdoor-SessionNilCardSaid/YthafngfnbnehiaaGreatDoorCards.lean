/-
  DERIVED. GIVEN WITH THE SEED: THE CARDS: each row of YthafngfnbnehiaaGreatDoorRows.lean that lists a variable, with what it lists TIED to the program's text (the seventh form; the later family's looks); each row that meets fmt, with fmt's text TOLD by the authors' own Lean function (tested against real Go, not proved from fmt's source: count such statements apart). THE CARD IS WHAT COUNTS. Prove the row's statement (the work); the ties are given (YthafngfnbnehiaaGreatDoorTie.lean); close each card by the builder's one call (the guide's Derived/Test/ToyasCard.lean, 'card_holds'). Laid BY PROGRAM, IN A SANDBOX (cutbox-door.mjs). By AI agents, Wed Nov 11 2026. No macro, syntax, notation, axiom, sorry.
-/
import Derived.Test.YthafngfnbnehiaaGreatDoorRows
import GoSem.ClaimSeven
namespace Go.Proofs.YthafngfnbnehiaaGreatDoor
namespace Rows

/-- THE TIED CARD OF 'ricochetlaw23.SessionNil'. -/
def sessionNilCard : Claim7 := { stood := { row := sessionNilRow, standIns := [], harness := (true, "aefe1d60552102cac8ef1be6a27a149e56d4ffb07b583ca778b7a913b25036e5"), looks := false }, kinds := [], alts := [], laidByText := true, laidKinds := [.data, .data, .data], laidTests := true, laidLooks := .later }
def SessionNilCardSaid : Prop := Claim7.holds Tryz.pinned (.plain (OpenSpec.ofChange sessionNilSpec)) sessionNilCard

/-- THE TIED CARD OF 'ricochetlaw23.SessionBags'. -/
def sessionBagsCard : Claim7 := { stood := { row := sessionBagsRow, standIns := [], harness := (true, "aefe1d60552102cac8ef1be6a27a149e56d4ffb07b583ca778b7a913b25036e5"), looks := false }, kinds := [], alts := [], laidByText := true, laidKinds := [.data, .data, .data], laidTests := true, laidLooks := .later }
def SessionBagsCardSaid : Prop := Claim7.holds Tryz.pinned (.plain (OpenSpec.ofChange sessionBagsSpec)) sessionBagsCard

/-- THE TIED CARD OF 'ricochetlaw23.SessionShots'. -/
def sessionShotsCard : Claim7 := { stood := { row := sessionShotsRow, standIns := [], harness := (true, "aefe1d60552102cac8ef1be6a27a149e56d4ffb07b583ca778b7a913b25036e5"), looks := false }, kinds := [], alts := [], laidByText := true, laidKinds := [.data, .data, .data], laidTests := true, laidLooks := .later }
def SessionShotsCardSaid : Prop := Claim7.holds Tryz.pinned (.plain (OpenSpec.ofChange sessionShotsSpec)) sessionShotsCard

/-- THE TIED CARD OF 'ricochetlaw23.SessionSnapshots'. -/
def sessionSnapshotsCard : Claim7 := { stood := { row := sessionSnapshotsRow, standIns := [], harness := (true, "aefe1d60552102cac8ef1be6a27a149e56d4ffb07b583ca778b7a913b25036e5"), looks := false }, kinds := [], alts := [], laidByText := true, laidKinds := [.data, .data, .data], laidTests := true, laidLooks := .later }
def SessionSnapshotsCardSaid : Prop := Claim7.holds Tryz.pinned (.plain (OpenSpec.ofChange sessionSnapshotsSpec)) sessionSnapshotsCard

/-- THE TIED CARD OF 'ricochetlaw23.SessionPredicts'. -/
def sessionPredictsCard : Claim7 := { stood := { row := sessionPredictsRow, standIns := [], harness := (true, "aefe1d60552102cac8ef1be6a27a149e56d4ffb07b583ca778b7a913b25036e5"), looks := false }, kinds := [], alts := [], laidByText := true, laidKinds := [.data, .data, .data], laidTests := true, laidLooks := .later }
def SessionPredictsCardSaid : Prop := Claim7.holds Tryz.pinned (.plain (OpenSpec.ofChange sessionPredictsSpec)) sessionPredictsCard

/-- THE TIED CARD OF 'ricochetlaw23.SessionLive'. -/
def sessionLiveCard : Claim7 := { stood := { row := sessionLiveRow, standIns := [], harness := (true, "aefe1d60552102cac8ef1be6a27a149e56d4ffb07b583ca778b7a913b25036e5"), looks := false }, kinds := [], alts := [], laidByText := true, laidKinds := [.data, .data, .data], laidTests := true, laidLooks := .later }
def SessionLiveCardSaid : Prop := Claim7.holds Tryz.pinned (.plain (OpenSpec.ofChange sessionLiveSpec)) sessionLiveCard

/-- THE SECOND FORM's CARD OF 'ricochetlaw23.SessionNil'. -/
def sessionNilUptoCard : Claim7 := { stood := { row := sessionNilUptoRow, standIns := [], harness := (true, "aefe1d60552102cac8ef1be6a27a149e56d4ffb07b583ca778b7a913b25036e5"), looks := false }, kinds := [], alts := [], laidByText := true, laidKinds := [.data, .data, .data], laidTests := true, laidLooks := .later }
def SessionNilUptoCardSaid : Prop := Claim7.holds Tryz.pinned (.plain (OpenSpec.upto sessionNilSpec)) sessionNilUptoCard

/-- THE SECOND FORM's CARD OF 'ricochetlaw23.SessionBags'. -/
def sessionBagsUptoCard : Claim7 := { stood := { row := sessionBagsUptoRow, standIns := [], harness := (true, "aefe1d60552102cac8ef1be6a27a149e56d4ffb07b583ca778b7a913b25036e5"), looks := false }, kinds := [], alts := [], laidByText := true, laidKinds := [.data, .data, .data], laidTests := true, laidLooks := .later }
def SessionBagsUptoCardSaid : Prop := Claim7.holds Tryz.pinned (.plain (OpenSpec.upto sessionBagsSpec)) sessionBagsUptoCard

/-- THE SECOND FORM's CARD OF 'ricochetlaw23.SessionShots'. -/
def sessionShotsUptoCard : Claim7 := { stood := { row := sessionShotsUptoRow, standIns := [], harness := (true, "aefe1d60552102cac8ef1be6a27a149e56d4ffb07b583ca778b7a913b25036e5"), looks := false }, kinds := [], alts := [], laidByText := true, laidKinds := [.data, .data, .data], laidTests := true, laidLooks := .later }
def SessionShotsUptoCardSaid : Prop := Claim7.holds Tryz.pinned (.plain (OpenSpec.upto sessionShotsSpec)) sessionShotsUptoCard

/-- THE SECOND FORM's CARD OF 'ricochetlaw23.SessionSnapshots'. -/
def sessionSnapshotsUptoCard : Claim7 := { stood := { row := sessionSnapshotsUptoRow, standIns := [], harness := (true, "aefe1d60552102cac8ef1be6a27a149e56d4ffb07b583ca778b7a913b25036e5"), looks := false }, kinds := [], alts := [], laidByText := true, laidKinds := [.data, .data, .data], laidTests := true, laidLooks := .later }
def SessionSnapshotsUptoCardSaid : Prop := Claim7.holds Tryz.pinned (.plain (OpenSpec.upto sessionSnapshotsSpec)) sessionSnapshotsUptoCard

/-- THE SECOND FORM's CARD OF 'ricochetlaw23.SessionPredicts'. -/
def sessionPredictsUptoCard : Claim7 := { stood := { row := sessionPredictsUptoRow, standIns := [], harness := (true, "aefe1d60552102cac8ef1be6a27a149e56d4ffb07b583ca778b7a913b25036e5"), looks := false }, kinds := [], alts := [], laidByText := true, laidKinds := [.data, .data, .data], laidTests := true, laidLooks := .later }
def SessionPredictsUptoCardSaid : Prop := Claim7.holds Tryz.pinned (.plain (OpenSpec.upto sessionPredictsSpec)) sessionPredictsUptoCard

/-- THE SECOND FORM's CARD OF 'ricochetlaw23.SessionLive'. -/
def sessionLiveUptoCard : Claim7 := { stood := { row := sessionLiveUptoRow, standIns := [], harness := (true, "aefe1d60552102cac8ef1be6a27a149e56d4ffb07b583ca778b7a913b25036e5"), looks := false }, kinds := [], alts := [], laidByText := true, laidKinds := [.data, .data, .data], laidTests := true, laidLooks := .later }
def SessionLiveUptoCardSaid : Prop := Claim7.holds Tryz.pinned (.plain (OpenSpec.upto sessionLiveSpec)) sessionLiveUptoCard
end Rows
end Go.Proofs.YthafngfnbnehiaaGreatDoor
