/-
  DERIVED. GIVEN WITH THE SEED: THE CARDS: each row of YtojbijapdkohlaaGreatDoorRows.lean that lists a variable, with what it lists TIED to the program's text (the seventh form; the later family's looks); each row that meets fmt, with fmt's text TOLD by the authors' own Lean function (tested against real Go, not proved from fmt's source: count such statements apart). THE CARD IS WHAT COUNTS. Prove the row's statement (the work); the ties are given (YtojbijapdkohlaaGreatDoorTie.lean); close each card by the builder's one call (the guide's Derived/Test/ToyasCard.lean, 'card_holds'). Laid BY PROGRAM, IN A SANDBOX (cutbox-door.mjs). By AI agents, Wed Nov 11 2026. No macro, syntax, notation, axiom, sorry.
-/
import Derived.Test.YtojbijapdkohlaaGreatDoorRows
import GoSem.ClaimSeven
namespace Go.Proofs.YtojbijapdkohlaaGreatDoor
namespace Rows

/-- THE TIED CARD OF 'ricochettop.TopFrame'. -/
def topFrameCard : Claim7 := { stood := { row := topFrameRow, standIns := [], harness := (true, "73568d76dc7be0f5940cfdce14c94685554e187270c58d0c37f34876590ec005"), looks := false }, kinds := [], alts := [], laidByText := true, laidKinds := [.data, .data, .data], laidTests := true, laidLooks := .later }
def TopFrameCardSaid : Prop := Claim7.holds Tryz.pinned (.plain (OpenSpec.ofChange topFrameSpec)) topFrameCard

/-- THE TIED CARD OF 'ricochettop.TopPredict'. -/
def topPredictCard : Claim7 := { stood := { row := topPredictRow, standIns := [], harness := (true, "73568d76dc7be0f5940cfdce14c94685554e187270c58d0c37f34876590ec005"), looks := false }, kinds := [], alts := [], laidByText := true, laidKinds := [.data, .data, .data], laidTests := true, laidLooks := .later }
def TopPredictCardSaid : Prop := Claim7.holds Tryz.pinned (.plain (OpenSpec.ofChange topPredictSpec)) topPredictCard

/-- THE TIED CARD OF 'ricochettop.TopRefused'. -/
def topRefusedCard : Claim7 := { stood := { row := topRefusedRow, standIns := [], harness := (true, "73568d76dc7be0f5940cfdce14c94685554e187270c58d0c37f34876590ec005"), looks := false }, kinds := [], alts := [], laidByText := true, laidKinds := [.data, .data, .data], laidTests := true, laidLooks := .later }
def TopRefusedCardSaid : Prop := Claim7.holds Tryz.pinned (.plain (OpenSpec.ofChange topRefusedSpec)) topRefusedCard

/-- THE TIED CARD OF 'ricochetlaw21.ServerSlots'. -/
def serverSlotsCard : Claim7 := { stood := { row := serverSlotsRow, standIns := [], harness := (true, "73568d76dc7be0f5940cfdce14c94685554e187270c58d0c37f34876590ec005"), looks := false }, kinds := [], alts := [], laidByText := true, laidKinds := [.data, .data, .data], laidTests := true, laidLooks := .later }
def ServerSlotsCardSaid : Prop := Claim7.holds Tryz.pinned (.plain (OpenSpec.ofChange serverSlotsSpec)) serverSlotsCard

/-- THE TIED CARD OF 'ricochetlaw21.ServerSilent'. -/
def serverSilentCard : Claim7 := { stood := { row := serverSilentRow, standIns := [], harness := (true, "73568d76dc7be0f5940cfdce14c94685554e187270c58d0c37f34876590ec005"), looks := false }, kinds := [], alts := [], laidByText := true, laidKinds := [.data, .data, .data], laidTests := true, laidLooks := .later }
def ServerSilentCardSaid : Prop := Claim7.holds Tryz.pinned (.plain (OpenSpec.ofChange serverSilentSpec)) serverSilentCard

/-- THE TIED CARD OF 'ricochetlaw21.ServerRun'. -/
def serverRunCard : Claim7 := { stood := { row := serverRunRow, standIns := [], harness := (true, "73568d76dc7be0f5940cfdce14c94685554e187270c58d0c37f34876590ec005"), looks := false }, kinds := [], alts := [], laidByText := true, laidKinds := [.data, .data, .data], laidTests := true, laidLooks := .later }
def ServerRunCardSaid : Prop := Claim7.holds Tryz.pinned (.plain (OpenSpec.ofChange serverRunSpec)) serverRunCard

/-- THE TIED CARD OF 'ricochetlaw21.ServerRefuses'. -/
def serverRefusesCard : Claim7 := { stood := { row := serverRefusesRow, standIns := [], harness := (true, "73568d76dc7be0f5940cfdce14c94685554e187270c58d0c37f34876590ec005"), looks := false }, kinds := [], alts := [], laidByText := true, laidKinds := [.data, .data, .data], laidTests := true, laidLooks := .later }
def ServerRefusesCardSaid : Prop := Claim7.holds Tryz.pinned (.plain (OpenSpec.ofChange serverRefusesSpec)) serverRefusesCard

/-- THE TIED CARD OF 'ricochetlaw23.SessionBags'. -/
def sessionBagsCard : Claim7 := { stood := { row := sessionBagsRow, standIns := [], harness := (true, "73568d76dc7be0f5940cfdce14c94685554e187270c58d0c37f34876590ec005"), looks := false }, kinds := [], alts := [], laidByText := true, laidKinds := [.data, .data, .data], laidTests := true, laidLooks := .later }
def SessionBagsCardSaid : Prop := Claim7.holds Tryz.pinned (.plain (OpenSpec.ofChange sessionBagsSpec)) sessionBagsCard

/-- THE TIED CARD OF 'ricochetlaw23.SessionShots'. -/
def sessionShotsCard : Claim7 := { stood := { row := sessionShotsRow, standIns := [], harness := (true, "73568d76dc7be0f5940cfdce14c94685554e187270c58d0c37f34876590ec005"), looks := false }, kinds := [], alts := [], laidByText := true, laidKinds := [.data, .data, .data], laidTests := true, laidLooks := .later }
def SessionShotsCardSaid : Prop := Claim7.holds Tryz.pinned (.plain (OpenSpec.ofChange sessionShotsSpec)) sessionShotsCard

/-- THE TIED CARD OF 'ricochetlaw23.SessionSnapshots'. -/
def sessionSnapshotsCard : Claim7 := { stood := { row := sessionSnapshotsRow, standIns := [], harness := (true, "73568d76dc7be0f5940cfdce14c94685554e187270c58d0c37f34876590ec005"), looks := false }, kinds := [], alts := [], laidByText := true, laidKinds := [.data, .data, .data], laidTests := true, laidLooks := .later }
def SessionSnapshotsCardSaid : Prop := Claim7.holds Tryz.pinned (.plain (OpenSpec.ofChange sessionSnapshotsSpec)) sessionSnapshotsCard

/-- THE TIED CARD OF 'ricochetlaw23.SessionPredicts'. -/
def sessionPredictsCard : Claim7 := { stood := { row := sessionPredictsRow, standIns := [], harness := (true, "73568d76dc7be0f5940cfdce14c94685554e187270c58d0c37f34876590ec005"), looks := false }, kinds := [], alts := [], laidByText := true, laidKinds := [.data, .data, .data], laidTests := true, laidLooks := .later }
def SessionPredictsCardSaid : Prop := Claim7.holds Tryz.pinned (.plain (OpenSpec.ofChange sessionPredictsSpec)) sessionPredictsCard

/-- THE TIED CARD OF 'ricochetlaw23.SessionLive'. -/
def sessionLiveCard : Claim7 := { stood := { row := sessionLiveRow, standIns := [], harness := (true, "73568d76dc7be0f5940cfdce14c94685554e187270c58d0c37f34876590ec005"), looks := false }, kinds := [], alts := [], laidByText := true, laidKinds := [.data, .data, .data], laidTests := true, laidLooks := .later }
def SessionLiveCardSaid : Prop := Claim7.holds Tryz.pinned (.plain (OpenSpec.ofChange sessionLiveSpec)) sessionLiveCard

/-- THE TIED CARD OF 'ricochettop.TopAgain'. -/
def topAgainCard : Claim7 := { stood := { row := topAgainRow, standIns := [], harness := (true, "73568d76dc7be0f5940cfdce14c94685554e187270c58d0c37f34876590ec005"), looks := false }, kinds := [], alts := [], laidByText := true, laidKinds := [.data, .data, .data], laidTests := true, laidLooks := .later }
def TopAgainCardSaid : Prop := Claim7.holds Tryz.pinned (.plain (OpenSpec.ofChange topAgainSpec)) topAgainCard

/-- THE SECOND FORM's CARD OF 'ricochettop.TopFrame'. -/
def topFrameUptoCard : Claim7 := { stood := { row := topFrameUptoRow, standIns := [], harness := (true, "73568d76dc7be0f5940cfdce14c94685554e187270c58d0c37f34876590ec005"), looks := false }, kinds := [], alts := [], laidByText := true, laidKinds := [.data, .data, .data], laidTests := true, laidLooks := .later }
def TopFrameUptoCardSaid : Prop := Claim7.holds Tryz.pinned (.plain (OpenSpec.upto topFrameSpec)) topFrameUptoCard

/-- THE SECOND FORM's CARD OF 'ricochettop.TopPredict'. -/
def topPredictUptoCard : Claim7 := { stood := { row := topPredictUptoRow, standIns := [], harness := (true, "73568d76dc7be0f5940cfdce14c94685554e187270c58d0c37f34876590ec005"), looks := false }, kinds := [], alts := [], laidByText := true, laidKinds := [.data, .data, .data], laidTests := true, laidLooks := .later }
def TopPredictUptoCardSaid : Prop := Claim7.holds Tryz.pinned (.plain (OpenSpec.upto topPredictSpec)) topPredictUptoCard

/-- THE SECOND FORM's CARD OF 'ricochettop.TopRefused'. -/
def topRefusedUptoCard : Claim7 := { stood := { row := topRefusedUptoRow, standIns := [], harness := (true, "73568d76dc7be0f5940cfdce14c94685554e187270c58d0c37f34876590ec005"), looks := false }, kinds := [], alts := [], laidByText := true, laidKinds := [.data, .data, .data], laidTests := true, laidLooks := .later }
def TopRefusedUptoCardSaid : Prop := Claim7.holds Tryz.pinned (.plain (OpenSpec.upto topRefusedSpec)) topRefusedUptoCard

/-- THE SECOND FORM's CARD OF 'ricochetlaw21.ServerSlots'. -/
def serverSlotsUptoCard : Claim7 := { stood := { row := serverSlotsUptoRow, standIns := [], harness := (true, "73568d76dc7be0f5940cfdce14c94685554e187270c58d0c37f34876590ec005"), looks := false }, kinds := [], alts := [], laidByText := true, laidKinds := [.data, .data, .data], laidTests := true, laidLooks := .later }
def ServerSlotsUptoCardSaid : Prop := Claim7.holds Tryz.pinned (.plain (OpenSpec.upto serverSlotsSpec)) serverSlotsUptoCard

/-- THE SECOND FORM's CARD OF 'ricochetlaw21.ServerSilent'. -/
def serverSilentUptoCard : Claim7 := { stood := { row := serverSilentUptoRow, standIns := [], harness := (true, "73568d76dc7be0f5940cfdce14c94685554e187270c58d0c37f34876590ec005"), looks := false }, kinds := [], alts := [], laidByText := true, laidKinds := [.data, .data, .data], laidTests := true, laidLooks := .later }
def ServerSilentUptoCardSaid : Prop := Claim7.holds Tryz.pinned (.plain (OpenSpec.upto serverSilentSpec)) serverSilentUptoCard

/-- THE SECOND FORM's CARD OF 'ricochetlaw21.ServerRun'. -/
def serverRunUptoCard : Claim7 := { stood := { row := serverRunUptoRow, standIns := [], harness := (true, "73568d76dc7be0f5940cfdce14c94685554e187270c58d0c37f34876590ec005"), looks := false }, kinds := [], alts := [], laidByText := true, laidKinds := [.data, .data, .data], laidTests := true, laidLooks := .later }
def ServerRunUptoCardSaid : Prop := Claim7.holds Tryz.pinned (.plain (OpenSpec.upto serverRunSpec)) serverRunUptoCard

/-- THE SECOND FORM's CARD OF 'ricochetlaw21.ServerRefuses'. -/
def serverRefusesUptoCard : Claim7 := { stood := { row := serverRefusesUptoRow, standIns := [], harness := (true, "73568d76dc7be0f5940cfdce14c94685554e187270c58d0c37f34876590ec005"), looks := false }, kinds := [], alts := [], laidByText := true, laidKinds := [.data, .data, .data], laidTests := true, laidLooks := .later }
def ServerRefusesUptoCardSaid : Prop := Claim7.holds Tryz.pinned (.plain (OpenSpec.upto serverRefusesSpec)) serverRefusesUptoCard

/-- THE SECOND FORM's CARD OF 'ricochetlaw23.SessionBags'. -/
def sessionBagsUptoCard : Claim7 := { stood := { row := sessionBagsUptoRow, standIns := [], harness := (true, "73568d76dc7be0f5940cfdce14c94685554e187270c58d0c37f34876590ec005"), looks := false }, kinds := [], alts := [], laidByText := true, laidKinds := [.data, .data, .data], laidTests := true, laidLooks := .later }
def SessionBagsUptoCardSaid : Prop := Claim7.holds Tryz.pinned (.plain (OpenSpec.upto sessionBagsSpec)) sessionBagsUptoCard

/-- THE SECOND FORM's CARD OF 'ricochetlaw23.SessionShots'. -/
def sessionShotsUptoCard : Claim7 := { stood := { row := sessionShotsUptoRow, standIns := [], harness := (true, "73568d76dc7be0f5940cfdce14c94685554e187270c58d0c37f34876590ec005"), looks := false }, kinds := [], alts := [], laidByText := true, laidKinds := [.data, .data, .data], laidTests := true, laidLooks := .later }
def SessionShotsUptoCardSaid : Prop := Claim7.holds Tryz.pinned (.plain (OpenSpec.upto sessionShotsSpec)) sessionShotsUptoCard

/-- THE SECOND FORM's CARD OF 'ricochetlaw23.SessionSnapshots'. -/
def sessionSnapshotsUptoCard : Claim7 := { stood := { row := sessionSnapshotsUptoRow, standIns := [], harness := (true, "73568d76dc7be0f5940cfdce14c94685554e187270c58d0c37f34876590ec005"), looks := false }, kinds := [], alts := [], laidByText := true, laidKinds := [.data, .data, .data], laidTests := true, laidLooks := .later }
def SessionSnapshotsUptoCardSaid : Prop := Claim7.holds Tryz.pinned (.plain (OpenSpec.upto sessionSnapshotsSpec)) sessionSnapshotsUptoCard

/-- THE SECOND FORM's CARD OF 'ricochetlaw23.SessionPredicts'. -/
def sessionPredictsUptoCard : Claim7 := { stood := { row := sessionPredictsUptoRow, standIns := [], harness := (true, "73568d76dc7be0f5940cfdce14c94685554e187270c58d0c37f34876590ec005"), looks := false }, kinds := [], alts := [], laidByText := true, laidKinds := [.data, .data, .data], laidTests := true, laidLooks := .later }
def SessionPredictsUptoCardSaid : Prop := Claim7.holds Tryz.pinned (.plain (OpenSpec.upto sessionPredictsSpec)) sessionPredictsUptoCard

/-- THE SECOND FORM's CARD OF 'ricochetlaw23.SessionLive'. -/
def sessionLiveUptoCard : Claim7 := { stood := { row := sessionLiveUptoRow, standIns := [], harness := (true, "73568d76dc7be0f5940cfdce14c94685554e187270c58d0c37f34876590ec005"), looks := false }, kinds := [], alts := [], laidByText := true, laidKinds := [.data, .data, .data], laidTests := true, laidLooks := .later }
def SessionLiveUptoCardSaid : Prop := Claim7.holds Tryz.pinned (.plain (OpenSpec.upto sessionLiveSpec)) sessionLiveUptoCard

/-- THE SECOND FORM's CARD OF 'ricochettop.TopAgain'. -/
def topAgainUptoCard : Claim7 := { stood := { row := topAgainUptoRow, standIns := [], harness := (true, "73568d76dc7be0f5940cfdce14c94685554e187270c58d0c37f34876590ec005"), looks := false }, kinds := [], alts := [], laidByText := true, laidKinds := [.data, .data, .data], laidTests := true, laidLooks := .later }
def TopAgainUptoCardSaid : Prop := Claim7.holds Tryz.pinned (.plain (OpenSpec.upto topAgainSpec)) topAgainUptoCard
end Rows
end Go.Proofs.YtojbijapdkohlaaGreatDoor
