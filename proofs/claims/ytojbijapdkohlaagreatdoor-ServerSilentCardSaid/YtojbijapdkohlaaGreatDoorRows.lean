/-
  NARROWER THAN 'FOR EVERY INPUT', by the rows' own cells (each row's printed sentence says how): TopFrame: laid · TopPredict: laid · TopRefused: laid · ServerSlots: laid · ServerSilent: laid · ServerRun: laid · ServerRefuses: laid · SessionBags: laid · SessionShots: laid · SessionSnapshots: laid · SessionPredicts: laid · SessionLive: laid · TopAgain: laid.
  DERIVED. THE GIVEN ROWS OF THIS SEAT. 13 by the template 'for every input the law returns true; each argument reads behind the call as it read before'; 0 by the template 'total and deterministic' (their statements: YtojbijapdkohlaaGreatDoorTotals.lean).
  GIVEN WITH THE SEED: the statements are not yours to turn. If you find one false, say at which input.
  Laid BY PROGRAM, IN A SANDBOX (cutbox-rows.mjs): the forced cells as the released guide's own fill.sh prints them over the translation fdd2de69be871b44… (all of the seat's roots in one cut). By AI agents, Wed Nov 11 2026. No macro, syntax, notation, axiom, sorry.
-/
import Derived.Test.YtojbijapdkohlaaGreatDoorChecked
import GoSem.Claim
import GoSem.ClaimJoined
import GoSem.ClaimMapViews
import Derived.JoinedTies
import Derived.KernelRfl
namespace Go.Proofs.YtojbijapdkohlaaGreatDoor
/- THE CELL 'sum', in the pinned program and in every row, IS THE sha256 OF THE DUMP (.gsa) THAT YtojbijapdkohlaaGreatDoorProg.lean LOADS. Nothing in Lean hashes anything: it is a label: what it is worth is what the hold of that sum in a sandbox is worth. -/
noncomputable def Tryz.pinned : Pinned := { name := "ytojbijapdkohlaagreatdoor", sum := "fdd2de69be871b44b9bbd726c17b23b7f632730c7f3fe25baba46c07afb12358", checked := Tryz.checked }
namespace Rows
def none {H : Type} : Left H := { results := [], args := [] }

/- WHAT THE LISTED PACKAGE-LEVEL VARIABLES READ AS WHEN THE CALL BEGINS. Each datum BY PROGRAM (the guide's laid-datum.mjs) off the statement by which the dump's own 'gosem.cut.vars' lays the variable. In a bare row this is a premise. The card (YtojbijapdkohlaaGreatDoorCards.lean) ties it to the program's text. -/
def laid_math_bits_deBruijn32tab {H : Type} : DataW H := .agg [.lit (.int .u8 0), .lit (.int .u8 1), .lit (.int .u8 28), .lit (.int .u8 2), .lit (.int .u8 29), .lit (.int .u8 14), .lit (.int .u8 24), .lit (.int .u8 3), .lit (.int .u8 30), .lit (.int .u8 22), .lit (.int .u8 20), .lit (.int .u8 15), .lit (.int .u8 25), .lit (.int .u8 17), .lit (.int .u8 4), .lit (.int .u8 8), .lit (.int .u8 31), .lit (.int .u8 27), .lit (.int .u8 13), .lit (.int .u8 23), .lit (.int .u8 21), .lit (.int .u8 19), .lit (.int .u8 16), .lit (.int .u8 7), .lit (.int .u8 26), .lit (.int .u8 12), .lit (.int .u8 18), .lit (.int .u8 6), .lit (.int .u8 11), .lit (.int .u8 5), .lit (.int .u8 10), .lit (.int .u8 9)]
def laid_math_bits_deBruijn64tab {H : Type} : DataW H := .agg [.lit (.int .u8 0), .lit (.int .u8 1), .lit (.int .u8 56), .lit (.int .u8 2), .lit (.int .u8 57), .lit (.int .u8 49), .lit (.int .u8 28), .lit (.int .u8 3), .lit (.int .u8 61), .lit (.int .u8 58), .lit (.int .u8 42), .lit (.int .u8 50), .lit (.int .u8 38), .lit (.int .u8 29), .lit (.int .u8 17), .lit (.int .u8 4), .lit (.int .u8 62), .lit (.int .u8 47), .lit (.int .u8 59), .lit (.int .u8 36), .lit (.int .u8 45), .lit (.int .u8 43), .lit (.int .u8 51), .lit (.int .u8 22), .lit (.int .u8 53), .lit (.int .u8 39), .lit (.int .u8 33), .lit (.int .u8 30), .lit (.int .u8 24), .lit (.int .u8 18), .lit (.int .u8 12), .lit (.int .u8 5), .lit (.int .u8 63), .lit (.int .u8 55), .lit (.int .u8 48), .lit (.int .u8 27), .lit (.int .u8 60), .lit (.int .u8 41), .lit (.int .u8 37), .lit (.int .u8 16), .lit (.int .u8 46), .lit (.int .u8 35), .lit (.int .u8 44), .lit (.int .u8 21), .lit (.int .u8 52), .lit (.int .u8 32), .lit (.int .u8 23), .lit (.int .u8 11), .lit (.int .u8 54), .lit (.int .u8 26), .lit (.int .u8 40), .lit (.int .u8 15), .lit (.int .u8 34), .lit (.int .u8 20), .lit (.int .u8 31), .lit (.int .u8 10), .lit (.int .u8 25), .lit (.int .u8 14), .lit (.int .u8 19), .lit (.int .u8 9), .lit (.int .u8 13), .lit (.int .u8 8), .lit (.int .u8 7), .lit (.int .u8 6)]
def laid_internal_strconv_uint64pow10 {H : Type} : DataW H := .agg [.lit (.int .u64 1), .lit (.int .u64 10), .lit (.int .u64 100), .lit (.int .u64 1000), .lit (.int .u64 10000), .lit (.int .u64 100000), .lit (.int .u64 1000000), .lit (.int .u64 10000000), .lit (.int .u64 100000000), .lit (.int .u64 1000000000), .lit (.int .u64 10000000000), .lit (.int .u64 100000000000), .lit (.int .u64 1000000000000), .lit (.int .u64 10000000000000), .lit (.int .u64 100000000000000), .lit (.int .u64 1000000000000000), .lit (.int .u64 10000000000000000), .lit (.int .u64 100000000000000000), .lit (.int .u64 1000000000000000000), .lit (.int .u64 10000000000000000000)]

/-- 'ricochettop.TopFrame': WHATEVER THE INPUT: true; the input reads as it did. -/
def topFrameSpec : ChangeSpec := { name := "topFrame", fn := fun _ => fun
  | [d1, d2] => { results := [.lit (.bool true)], args := [d1, d2] }
  | _ => none }
def topFrameRow : OpenClaim := { program := "ytojbijapdkohlaagreatdoor", sum := "fdd2de69be871b44b9bbd726c17b23b7f632730c7f3fe25baba46c07afb12358", func := "ricochet/ricochettop.TopFrame", spec := "topFrame", inPlace := ["slices.overlaps[ricochet/api.Entity]"], unfollowed := true, recurses := true, named := ["internal/strconv.uint64pow10", "math/bits.deBruijn32tab", "math/bits.deBruijn64tab"], apart := false, laid := [("math/bits.deBruijn32tab", laid_math_bits_deBruijn32tab), ("math/bits.deBruijn64tab", laid_math_bits_deBruijn64tab), ("internal/strconv.uint64pow10", laid_internal_strconv_uint64pow10)] }
def TopFrameSaid : Prop := topFrameRow.holds Tryz.pinned (OpenSpec.ofChange topFrameSpec)

/-- ITS FALSE NEIGHBOUR: 'it returns false'. Refute it at one input. -/
def topFrameWrong : ChangeSpec := { name := "topFrame", fn := fun _ => fun
  | [d1, d2] => { results := [.lit (.bool false)], args := [d1, d2] }
  | _ => none }
def TopFrameWrongFalsely : Prop := topFrameRow.holds Tryz.pinned (OpenSpec.ofChange topFrameWrong)

/-- 'ricochettop.TopPredict': WHATEVER THE INPUT: true; the input reads as it did. -/
def topPredictSpec : ChangeSpec := { name := "topPredict", fn := fun _ => fun
  | [d1, d2, d3] => { results := [.lit (.bool true)], args := [d1, d2, d3] }
  | _ => none }
def topPredictRow : OpenClaim := { program := "ytojbijapdkohlaagreatdoor", sum := "fdd2de69be871b44b9bbd726c17b23b7f632730c7f3fe25baba46c07afb12358", func := "ricochet/ricochettop.TopPredict", spec := "topPredict", inPlace := ["slices.overlaps[ricochet/api.Entity]"], unfollowed := true, recurses := true, named := ["internal/strconv.uint64pow10", "math/bits.deBruijn32tab", "math/bits.deBruijn64tab"], apart := false, laid := [("math/bits.deBruijn32tab", laid_math_bits_deBruijn32tab), ("math/bits.deBruijn64tab", laid_math_bits_deBruijn64tab), ("internal/strconv.uint64pow10", laid_internal_strconv_uint64pow10)] }
def TopPredictSaid : Prop := topPredictRow.holds Tryz.pinned (OpenSpec.ofChange topPredictSpec)

/-- ITS FALSE NEIGHBOUR: 'it returns false'. Refute it at one input. -/
def topPredictWrong : ChangeSpec := { name := "topPredict", fn := fun _ => fun
  | [d1, d2, d3] => { results := [.lit (.bool false)], args := [d1, d2, d3] }
  | _ => none }
def TopPredictWrongFalsely : Prop := topPredictRow.holds Tryz.pinned (OpenSpec.ofChange topPredictWrong)

/-- 'ricochettop.TopRefused': WHATEVER THE INPUT: true; the input reads as it did. -/
def topRefusedSpec : ChangeSpec := { name := "topRefused", fn := fun _ => fun
  | [d1, d2, d3] => { results := [.lit (.bool true)], args := [d1, d2, d3] }
  | _ => none }
def topRefusedRow : OpenClaim := { program := "ytojbijapdkohlaagreatdoor", sum := "fdd2de69be871b44b9bbd726c17b23b7f632730c7f3fe25baba46c07afb12358", func := "ricochet/ricochettop.TopRefused", spec := "topRefused", inPlace := ["slices.overlaps[ricochet/api.Entity]"], unfollowed := true, recurses := true, named := ["internal/strconv.uint64pow10", "math/bits.deBruijn32tab", "math/bits.deBruijn64tab"], apart := false, laid := [("math/bits.deBruijn32tab", laid_math_bits_deBruijn32tab), ("math/bits.deBruijn64tab", laid_math_bits_deBruijn64tab), ("internal/strconv.uint64pow10", laid_internal_strconv_uint64pow10)] }
def TopRefusedSaid : Prop := topRefusedRow.holds Tryz.pinned (OpenSpec.ofChange topRefusedSpec)

/-- ITS FALSE NEIGHBOUR: 'it returns false'. Refute it at one input. -/
def topRefusedWrong : ChangeSpec := { name := "topRefused", fn := fun _ => fun
  | [d1, d2, d3] => { results := [.lit (.bool false)], args := [d1, d2, d3] }
  | _ => none }
def TopRefusedWrongFalsely : Prop := topRefusedRow.holds Tryz.pinned (OpenSpec.ofChange topRefusedWrong)

/-- 'ricochetlaw21.ServerSlots': WHATEVER THE INPUT: true; the input reads as it did. -/
def serverSlotsSpec : ChangeSpec := { name := "serverSlots", fn := fun _ => fun
  | [d1, d2] => { results := [.lit (.bool true)], args := [d1, d2] }
  | _ => none }
def serverSlotsRow : OpenClaim := { program := "ytojbijapdkohlaagreatdoor", sum := "fdd2de69be871b44b9bbd726c17b23b7f632730c7f3fe25baba46c07afb12358", func := "ricochet/ricochetlaw21.ServerSlots", spec := "serverSlots", inPlace := ["slices.overlaps[ricochet/api.Entity]"], unfollowed := true, recurses := true, named := ["internal/strconv.uint64pow10", "math/bits.deBruijn32tab", "math/bits.deBruijn64tab"], apart := false, laid := [("math/bits.deBruijn32tab", laid_math_bits_deBruijn32tab), ("math/bits.deBruijn64tab", laid_math_bits_deBruijn64tab), ("internal/strconv.uint64pow10", laid_internal_strconv_uint64pow10)] }
def ServerSlotsSaid : Prop := serverSlotsRow.holds Tryz.pinned (OpenSpec.ofChange serverSlotsSpec)

/-- ITS FALSE NEIGHBOUR: 'it returns false'. Refute it at one input. -/
def serverSlotsWrong : ChangeSpec := { name := "serverSlots", fn := fun _ => fun
  | [d1, d2] => { results := [.lit (.bool false)], args := [d1, d2] }
  | _ => none }
def ServerSlotsWrongFalsely : Prop := serverSlotsRow.holds Tryz.pinned (OpenSpec.ofChange serverSlotsWrong)

/-- 'ricochetlaw21.ServerSilent': WHATEVER THE INPUT: true; the input reads as it did. -/
def serverSilentSpec : ChangeSpec := { name := "serverSilent", fn := fun _ => fun
  | [d1, d2, d3] => { results := [.lit (.bool true)], args := [d1, d2, d3] }
  | _ => none }
def serverSilentRow : OpenClaim := { program := "ytojbijapdkohlaagreatdoor", sum := "fdd2de69be871b44b9bbd726c17b23b7f632730c7f3fe25baba46c07afb12358", func := "ricochet/ricochetlaw21.ServerSilent", spec := "serverSilent", inPlace := ["slices.overlaps[ricochet/api.Entity]"], unfollowed := true, recurses := true, named := ["internal/strconv.uint64pow10", "math/bits.deBruijn32tab", "math/bits.deBruijn64tab"], apart := false, laid := [("math/bits.deBruijn32tab", laid_math_bits_deBruijn32tab), ("math/bits.deBruijn64tab", laid_math_bits_deBruijn64tab), ("internal/strconv.uint64pow10", laid_internal_strconv_uint64pow10)] }
def ServerSilentSaid : Prop := serverSilentRow.holds Tryz.pinned (OpenSpec.ofChange serverSilentSpec)

/-- ITS FALSE NEIGHBOUR: 'it returns false'. Refute it at one input. -/
def serverSilentWrong : ChangeSpec := { name := "serverSilent", fn := fun _ => fun
  | [d1, d2, d3] => { results := [.lit (.bool false)], args := [d1, d2, d3] }
  | _ => none }
def ServerSilentWrongFalsely : Prop := serverSilentRow.holds Tryz.pinned (OpenSpec.ofChange serverSilentWrong)

/-- 'ricochetlaw21.ServerRun': WHATEVER THE INPUT: true; the input reads as it did. -/
def serverRunSpec : ChangeSpec := { name := "serverRun", fn := fun _ => fun
  | [d1, d2] => { results := [.lit (.bool true)], args := [d1, d2] }
  | _ => none }
def serverRunRow : OpenClaim := { program := "ytojbijapdkohlaagreatdoor", sum := "fdd2de69be871b44b9bbd726c17b23b7f632730c7f3fe25baba46c07afb12358", func := "ricochet/ricochetlaw21.ServerRun", spec := "serverRun", inPlace := ["slices.overlaps[ricochet/api.Entity]"], unfollowed := true, recurses := true, named := ["internal/strconv.uint64pow10", "math/bits.deBruijn32tab", "math/bits.deBruijn64tab"], apart := false, laid := [("math/bits.deBruijn32tab", laid_math_bits_deBruijn32tab), ("math/bits.deBruijn64tab", laid_math_bits_deBruijn64tab), ("internal/strconv.uint64pow10", laid_internal_strconv_uint64pow10)] }
def ServerRunSaid : Prop := serverRunRow.holds Tryz.pinned (OpenSpec.ofChange serverRunSpec)

/-- ITS FALSE NEIGHBOUR: 'it returns false'. Refute it at one input. -/
def serverRunWrong : ChangeSpec := { name := "serverRun", fn := fun _ => fun
  | [d1, d2] => { results := [.lit (.bool false)], args := [d1, d2] }
  | _ => none }
def ServerRunWrongFalsely : Prop := serverRunRow.holds Tryz.pinned (OpenSpec.ofChange serverRunWrong)

/-- 'ricochetlaw21.ServerRefuses': WHATEVER THE INPUT: true; the input reads as it did. -/
def serverRefusesSpec : ChangeSpec := { name := "serverRefuses", fn := fun _ => fun
  | [d1, d2, d3] => { results := [.lit (.bool true)], args := [d1, d2, d3] }
  | _ => none }
def serverRefusesRow : OpenClaim := { program := "ytojbijapdkohlaagreatdoor", sum := "fdd2de69be871b44b9bbd726c17b23b7f632730c7f3fe25baba46c07afb12358", func := "ricochet/ricochetlaw21.ServerRefuses", spec := "serverRefuses", inPlace := ["slices.overlaps[ricochet/api.Entity]"], unfollowed := true, recurses := true, named := ["internal/strconv.uint64pow10", "math/bits.deBruijn32tab", "math/bits.deBruijn64tab"], apart := false, laid := [("math/bits.deBruijn32tab", laid_math_bits_deBruijn32tab), ("math/bits.deBruijn64tab", laid_math_bits_deBruijn64tab), ("internal/strconv.uint64pow10", laid_internal_strconv_uint64pow10)] }
def ServerRefusesSaid : Prop := serverRefusesRow.holds Tryz.pinned (OpenSpec.ofChange serverRefusesSpec)

/-- ITS FALSE NEIGHBOUR: 'it returns false'. Refute it at one input. -/
def serverRefusesWrong : ChangeSpec := { name := "serverRefuses", fn := fun _ => fun
  | [d1, d2, d3] => { results := [.lit (.bool false)], args := [d1, d2, d3] }
  | _ => none }
def ServerRefusesWrongFalsely : Prop := serverRefusesRow.holds Tryz.pinned (OpenSpec.ofChange serverRefusesWrong)

/-- 'ricochetlaw23.SessionBags': WHATEVER THE INPUT: true; the input reads as it did. -/
def sessionBagsSpec : ChangeSpec := { name := "sessionBags", fn := fun _ => fun
  | [d1, d2, d3] => { results := [.lit (.bool true)], args := [d1, d2, d3] }
  | _ => none }
def sessionBagsRow : OpenClaim := { program := "ytojbijapdkohlaagreatdoor", sum := "fdd2de69be871b44b9bbd726c17b23b7f632730c7f3fe25baba46c07afb12358", func := "ricochet/ricochetlaw23.SessionBags", spec := "sessionBags", inPlace := ["slices.overlaps[ricochet/api.Entity]"], unfollowed := true, recurses := true, named := ["internal/strconv.uint64pow10", "math/bits.deBruijn32tab", "math/bits.deBruijn64tab"], apart := false, laid := [("math/bits.deBruijn32tab", laid_math_bits_deBruijn32tab), ("math/bits.deBruijn64tab", laid_math_bits_deBruijn64tab), ("internal/strconv.uint64pow10", laid_internal_strconv_uint64pow10)] }
def SessionBagsSaid : Prop := sessionBagsRow.holds Tryz.pinned (OpenSpec.ofChange sessionBagsSpec)

/-- ITS FALSE NEIGHBOUR: 'it returns false'. Refute it at one input. -/
def sessionBagsWrong : ChangeSpec := { name := "sessionBags", fn := fun _ => fun
  | [d1, d2, d3] => { results := [.lit (.bool false)], args := [d1, d2, d3] }
  | _ => none }
def SessionBagsWrongFalsely : Prop := sessionBagsRow.holds Tryz.pinned (OpenSpec.ofChange sessionBagsWrong)

/-- 'ricochetlaw23.SessionShots': WHATEVER THE INPUT: true; the input reads as it did. -/
def sessionShotsSpec : ChangeSpec := { name := "sessionShots", fn := fun _ => fun
  | [d1, d2, d3] => { results := [.lit (.bool true)], args := [d1, d2, d3] }
  | _ => none }
def sessionShotsRow : OpenClaim := { program := "ytojbijapdkohlaagreatdoor", sum := "fdd2de69be871b44b9bbd726c17b23b7f632730c7f3fe25baba46c07afb12358", func := "ricochet/ricochetlaw23.SessionShots", spec := "sessionShots", inPlace := ["slices.overlaps[ricochet/api.Entity]"], unfollowed := true, recurses := true, named := ["internal/strconv.uint64pow10", "math/bits.deBruijn32tab", "math/bits.deBruijn64tab"], apart := false, laid := [("math/bits.deBruijn32tab", laid_math_bits_deBruijn32tab), ("math/bits.deBruijn64tab", laid_math_bits_deBruijn64tab), ("internal/strconv.uint64pow10", laid_internal_strconv_uint64pow10)] }
def SessionShotsSaid : Prop := sessionShotsRow.holds Tryz.pinned (OpenSpec.ofChange sessionShotsSpec)

/-- ITS FALSE NEIGHBOUR: 'it returns false'. Refute it at one input. -/
def sessionShotsWrong : ChangeSpec := { name := "sessionShots", fn := fun _ => fun
  | [d1, d2, d3] => { results := [.lit (.bool false)], args := [d1, d2, d3] }
  | _ => none }
def SessionShotsWrongFalsely : Prop := sessionShotsRow.holds Tryz.pinned (OpenSpec.ofChange sessionShotsWrong)

/-- 'ricochetlaw23.SessionSnapshots': WHATEVER THE INPUT: true; the input reads as it did. -/
def sessionSnapshotsSpec : ChangeSpec := { name := "sessionSnapshots", fn := fun _ => fun
  | [d1, d2, d3] => { results := [.lit (.bool true)], args := [d1, d2, d3] }
  | _ => none }
def sessionSnapshotsRow : OpenClaim := { program := "ytojbijapdkohlaagreatdoor", sum := "fdd2de69be871b44b9bbd726c17b23b7f632730c7f3fe25baba46c07afb12358", func := "ricochet/ricochetlaw23.SessionSnapshots", spec := "sessionSnapshots", inPlace := ["slices.overlaps[ricochet/api.Entity]"], unfollowed := true, recurses := true, named := ["internal/strconv.uint64pow10", "math/bits.deBruijn32tab", "math/bits.deBruijn64tab"], apart := false, laid := [("math/bits.deBruijn32tab", laid_math_bits_deBruijn32tab), ("math/bits.deBruijn64tab", laid_math_bits_deBruijn64tab), ("internal/strconv.uint64pow10", laid_internal_strconv_uint64pow10)] }
def SessionSnapshotsSaid : Prop := sessionSnapshotsRow.holds Tryz.pinned (OpenSpec.ofChange sessionSnapshotsSpec)

/-- ITS FALSE NEIGHBOUR: 'it returns false'. Refute it at one input. -/
def sessionSnapshotsWrong : ChangeSpec := { name := "sessionSnapshots", fn := fun _ => fun
  | [d1, d2, d3] => { results := [.lit (.bool false)], args := [d1, d2, d3] }
  | _ => none }
def SessionSnapshotsWrongFalsely : Prop := sessionSnapshotsRow.holds Tryz.pinned (OpenSpec.ofChange sessionSnapshotsWrong)

/-- 'ricochetlaw23.SessionPredicts': WHATEVER THE INPUT: true; the input reads as it did. -/
def sessionPredictsSpec : ChangeSpec := { name := "sessionPredicts", fn := fun _ => fun
  | [d1, d2, d3] => { results := [.lit (.bool true)], args := [d1, d2, d3] }
  | _ => none }
def sessionPredictsRow : OpenClaim := { program := "ytojbijapdkohlaagreatdoor", sum := "fdd2de69be871b44b9bbd726c17b23b7f632730c7f3fe25baba46c07afb12358", func := "ricochet/ricochetlaw23.SessionPredicts", spec := "sessionPredicts", inPlace := ["slices.overlaps[ricochet/api.Entity]"], unfollowed := true, recurses := true, named := ["internal/strconv.uint64pow10", "math/bits.deBruijn32tab", "math/bits.deBruijn64tab"], apart := false, laid := [("math/bits.deBruijn32tab", laid_math_bits_deBruijn32tab), ("math/bits.deBruijn64tab", laid_math_bits_deBruijn64tab), ("internal/strconv.uint64pow10", laid_internal_strconv_uint64pow10)] }
def SessionPredictsSaid : Prop := sessionPredictsRow.holds Tryz.pinned (OpenSpec.ofChange sessionPredictsSpec)

/-- ITS FALSE NEIGHBOUR: 'it returns false'. Refute it at one input. -/
def sessionPredictsWrong : ChangeSpec := { name := "sessionPredicts", fn := fun _ => fun
  | [d1, d2, d3] => { results := [.lit (.bool false)], args := [d1, d2, d3] }
  | _ => none }
def SessionPredictsWrongFalsely : Prop := sessionPredictsRow.holds Tryz.pinned (OpenSpec.ofChange sessionPredictsWrong)

/-- 'ricochetlaw23.SessionLive': WHATEVER THE INPUT: true; the input reads as it did. -/
def sessionLiveSpec : ChangeSpec := { name := "sessionLive", fn := fun _ => fun
  | [d1, d2, d3] => { results := [.lit (.bool true)], args := [d1, d2, d3] }
  | _ => none }
def sessionLiveRow : OpenClaim := { program := "ytojbijapdkohlaagreatdoor", sum := "fdd2de69be871b44b9bbd726c17b23b7f632730c7f3fe25baba46c07afb12358", func := "ricochet/ricochetlaw23.SessionLive", spec := "sessionLive", inPlace := ["slices.overlaps[ricochet/api.Entity]"], unfollowed := true, recurses := true, named := ["internal/strconv.uint64pow10", "math/bits.deBruijn32tab", "math/bits.deBruijn64tab"], apart := false, laid := [("math/bits.deBruijn32tab", laid_math_bits_deBruijn32tab), ("math/bits.deBruijn64tab", laid_math_bits_deBruijn64tab), ("internal/strconv.uint64pow10", laid_internal_strconv_uint64pow10)] }
def SessionLiveSaid : Prop := sessionLiveRow.holds Tryz.pinned (OpenSpec.ofChange sessionLiveSpec)

/-- ITS FALSE NEIGHBOUR: 'it returns false'. Refute it at one input. -/
def sessionLiveWrong : ChangeSpec := { name := "sessionLive", fn := fun _ => fun
  | [d1, d2, d3] => { results := [.lit (.bool false)], args := [d1, d2, d3] }
  | _ => none }
def SessionLiveWrongFalsely : Prop := sessionLiveRow.holds Tryz.pinned (OpenSpec.ofChange sessionLiveWrong)

/-- 'ricochettop.TopAgain': WHATEVER THE INPUT: true; the input reads as it did. -/
def topAgainSpec : ChangeSpec := { name := "topAgain", fn := fun _ => fun
  | [d1, d2, d3] => { results := [.lit (.bool true)], args := [d1, d2, d3] }
  | _ => none }
def topAgainRow : OpenClaim := { program := "ytojbijapdkohlaagreatdoor", sum := "fdd2de69be871b44b9bbd726c17b23b7f632730c7f3fe25baba46c07afb12358", func := "ricochet/ricochettop.TopAgain", spec := "topAgain", inPlace := ["slices.overlaps[ricochet/api.Entity]"], unfollowed := true, recurses := true, named := ["internal/strconv.uint64pow10", "math/bits.deBruijn32tab", "math/bits.deBruijn64tab"], apart := false, laid := [("math/bits.deBruijn32tab", laid_math_bits_deBruijn32tab), ("math/bits.deBruijn64tab", laid_math_bits_deBruijn64tab), ("internal/strconv.uint64pow10", laid_internal_strconv_uint64pow10)] }
def TopAgainSaid : Prop := topAgainRow.holds Tryz.pinned (OpenSpec.ofChange topAgainSpec)

/-- ITS FALSE NEIGHBOUR: 'it returns false'. Refute it at one input. -/
def topAgainWrong : ChangeSpec := { name := "topAgain", fn := fun _ => fun
  | [d1, d2, d3] => { results := [.lit (.bool false)], args := [d1, d2, d3] }
  | _ => none }
def TopAgainWrongFalsely : Prop := topAgainRow.holds Tryz.pinned (OpenSpec.ofChange topAgainWrong)

/- THE SECOND FORM. 'bulk': how many values and letters a reading holds, each counted each time it is reached (what is shared counts as often as it is met; a slice's spare places count too). A statement '..UptoSaid' is the law's where the arguments, and the package variables that the reading takes, are together of bulk at most 1048576: NARROWER than '..Said'. Prove '..Said' where nothing that the law and all that it calls make is longer than what came in: it says more and counts as full. Else prove '..UptoSaid'. A law counts once. -/
mutual
def uptoBulk {H : Type} : DataW H → Nat
  | .lit (.string bytes) => bytes.length + 1
  | .lit _ => 1
  | .nil => 1
  | .ptr d => uptoBulk d + 1
  | .slice elems spare => uptoBulkAll elems + uptoBulkAll spare + 1
  | .agg parts => uptoBulkAll parts + 1
  | .iface _ d => uptoBulk d + 1
  | .map entries => uptoBulkEntries entries + 1
  | .held _ => 1
def uptoBulkAll {H : Type} : List (DataW H) → Nat
  | [] => 0
  | d :: r => uptoBulk d + uptoBulkAll r
def uptoBulkEntries {H : Type} : List (Lit × DataW H) → Nat
  | [] => 0
  | x :: r => uptoBulkEntry x + uptoBulkEntries r
def uptoBulkEntry {H : Type} : Lit × DataW H → Nat
  | (.string bytes, d) => bytes.length + uptoBulk d + 1
  | (_, d) => uptoBulk d + 1
 end
def uptoSmall : (H : Type) → List (DataW H) → Bool := fun _ ds => decide (uptoBulkAll ds ≤ 1048576)
def OpenSpec.upto (s : _root_.Go.ChangeSpec) : _root_.Go.OpenSpec := { _root_.Go.OpenSpec.ofChange s with cond := some uptoSmall }

/-- 'ricochettop.TopFrame', WHERE WHAT IT READS IS OF BULK AT MOST 1048576: true; the input reads as it did. -/
def topFrameUptoRow : OpenClaim := { program := "ytojbijapdkohlaagreatdoor", sum := "fdd2de69be871b44b9bbd726c17b23b7f632730c7f3fe25baba46c07afb12358", func := "ricochet/ricochettop.TopFrame", spec := "topFrame", inPlace := ["slices.overlaps[ricochet/api.Entity]"], unfollowed := true, recurses := true, named := ["internal/strconv.uint64pow10", "math/bits.deBruijn32tab", "math/bits.deBruijn64tab"], apart := false, laid := [("math/bits.deBruijn32tab", laid_math_bits_deBruijn32tab), ("math/bits.deBruijn64tab", laid_math_bits_deBruijn64tab), ("internal/strconv.uint64pow10", laid_internal_strconv_uint64pow10)], narrowed := true }
def TopFrameUptoSaid : Prop := topFrameUptoRow.holds Tryz.pinned (OpenSpec.upto topFrameSpec)

/-- 'ricochettop.TopPredict', WHERE WHAT IT READS IS OF BULK AT MOST 1048576: true; the input reads as it did. -/
def topPredictUptoRow : OpenClaim := { program := "ytojbijapdkohlaagreatdoor", sum := "fdd2de69be871b44b9bbd726c17b23b7f632730c7f3fe25baba46c07afb12358", func := "ricochet/ricochettop.TopPredict", spec := "topPredict", inPlace := ["slices.overlaps[ricochet/api.Entity]"], unfollowed := true, recurses := true, named := ["internal/strconv.uint64pow10", "math/bits.deBruijn32tab", "math/bits.deBruijn64tab"], apart := false, laid := [("math/bits.deBruijn32tab", laid_math_bits_deBruijn32tab), ("math/bits.deBruijn64tab", laid_math_bits_deBruijn64tab), ("internal/strconv.uint64pow10", laid_internal_strconv_uint64pow10)], narrowed := true }
def TopPredictUptoSaid : Prop := topPredictUptoRow.holds Tryz.pinned (OpenSpec.upto topPredictSpec)

/-- 'ricochettop.TopRefused', WHERE WHAT IT READS IS OF BULK AT MOST 1048576: true; the input reads as it did. -/
def topRefusedUptoRow : OpenClaim := { program := "ytojbijapdkohlaagreatdoor", sum := "fdd2de69be871b44b9bbd726c17b23b7f632730c7f3fe25baba46c07afb12358", func := "ricochet/ricochettop.TopRefused", spec := "topRefused", inPlace := ["slices.overlaps[ricochet/api.Entity]"], unfollowed := true, recurses := true, named := ["internal/strconv.uint64pow10", "math/bits.deBruijn32tab", "math/bits.deBruijn64tab"], apart := false, laid := [("math/bits.deBruijn32tab", laid_math_bits_deBruijn32tab), ("math/bits.deBruijn64tab", laid_math_bits_deBruijn64tab), ("internal/strconv.uint64pow10", laid_internal_strconv_uint64pow10)], narrowed := true }
def TopRefusedUptoSaid : Prop := topRefusedUptoRow.holds Tryz.pinned (OpenSpec.upto topRefusedSpec)

/-- 'ricochetlaw21.ServerSlots', WHERE WHAT IT READS IS OF BULK AT MOST 1048576: true; the input reads as it did. -/
def serverSlotsUptoRow : OpenClaim := { program := "ytojbijapdkohlaagreatdoor", sum := "fdd2de69be871b44b9bbd726c17b23b7f632730c7f3fe25baba46c07afb12358", func := "ricochet/ricochetlaw21.ServerSlots", spec := "serverSlots", inPlace := ["slices.overlaps[ricochet/api.Entity]"], unfollowed := true, recurses := true, named := ["internal/strconv.uint64pow10", "math/bits.deBruijn32tab", "math/bits.deBruijn64tab"], apart := false, laid := [("math/bits.deBruijn32tab", laid_math_bits_deBruijn32tab), ("math/bits.deBruijn64tab", laid_math_bits_deBruijn64tab), ("internal/strconv.uint64pow10", laid_internal_strconv_uint64pow10)], narrowed := true }
def ServerSlotsUptoSaid : Prop := serverSlotsUptoRow.holds Tryz.pinned (OpenSpec.upto serverSlotsSpec)

/-- 'ricochetlaw21.ServerSilent', WHERE WHAT IT READS IS OF BULK AT MOST 1048576: true; the input reads as it did. -/
def serverSilentUptoRow : OpenClaim := { program := "ytojbijapdkohlaagreatdoor", sum := "fdd2de69be871b44b9bbd726c17b23b7f632730c7f3fe25baba46c07afb12358", func := "ricochet/ricochetlaw21.ServerSilent", spec := "serverSilent", inPlace := ["slices.overlaps[ricochet/api.Entity]"], unfollowed := true, recurses := true, named := ["internal/strconv.uint64pow10", "math/bits.deBruijn32tab", "math/bits.deBruijn64tab"], apart := false, laid := [("math/bits.deBruijn32tab", laid_math_bits_deBruijn32tab), ("math/bits.deBruijn64tab", laid_math_bits_deBruijn64tab), ("internal/strconv.uint64pow10", laid_internal_strconv_uint64pow10)], narrowed := true }
def ServerSilentUptoSaid : Prop := serverSilentUptoRow.holds Tryz.pinned (OpenSpec.upto serverSilentSpec)

/-- 'ricochetlaw21.ServerRun', WHERE WHAT IT READS IS OF BULK AT MOST 1048576: true; the input reads as it did. -/
def serverRunUptoRow : OpenClaim := { program := "ytojbijapdkohlaagreatdoor", sum := "fdd2de69be871b44b9bbd726c17b23b7f632730c7f3fe25baba46c07afb12358", func := "ricochet/ricochetlaw21.ServerRun", spec := "serverRun", inPlace := ["slices.overlaps[ricochet/api.Entity]"], unfollowed := true, recurses := true, named := ["internal/strconv.uint64pow10", "math/bits.deBruijn32tab", "math/bits.deBruijn64tab"], apart := false, laid := [("math/bits.deBruijn32tab", laid_math_bits_deBruijn32tab), ("math/bits.deBruijn64tab", laid_math_bits_deBruijn64tab), ("internal/strconv.uint64pow10", laid_internal_strconv_uint64pow10)], narrowed := true }
def ServerRunUptoSaid : Prop := serverRunUptoRow.holds Tryz.pinned (OpenSpec.upto serverRunSpec)

/-- 'ricochetlaw21.ServerRefuses', WHERE WHAT IT READS IS OF BULK AT MOST 1048576: true; the input reads as it did. -/
def serverRefusesUptoRow : OpenClaim := { program := "ytojbijapdkohlaagreatdoor", sum := "fdd2de69be871b44b9bbd726c17b23b7f632730c7f3fe25baba46c07afb12358", func := "ricochet/ricochetlaw21.ServerRefuses", spec := "serverRefuses", inPlace := ["slices.overlaps[ricochet/api.Entity]"], unfollowed := true, recurses := true, named := ["internal/strconv.uint64pow10", "math/bits.deBruijn32tab", "math/bits.deBruijn64tab"], apart := false, laid := [("math/bits.deBruijn32tab", laid_math_bits_deBruijn32tab), ("math/bits.deBruijn64tab", laid_math_bits_deBruijn64tab), ("internal/strconv.uint64pow10", laid_internal_strconv_uint64pow10)], narrowed := true }
def ServerRefusesUptoSaid : Prop := serverRefusesUptoRow.holds Tryz.pinned (OpenSpec.upto serverRefusesSpec)

/-- 'ricochetlaw23.SessionBags', WHERE WHAT IT READS IS OF BULK AT MOST 1048576: true; the input reads as it did. -/
def sessionBagsUptoRow : OpenClaim := { program := "ytojbijapdkohlaagreatdoor", sum := "fdd2de69be871b44b9bbd726c17b23b7f632730c7f3fe25baba46c07afb12358", func := "ricochet/ricochetlaw23.SessionBags", spec := "sessionBags", inPlace := ["slices.overlaps[ricochet/api.Entity]"], unfollowed := true, recurses := true, named := ["internal/strconv.uint64pow10", "math/bits.deBruijn32tab", "math/bits.deBruijn64tab"], apart := false, laid := [("math/bits.deBruijn32tab", laid_math_bits_deBruijn32tab), ("math/bits.deBruijn64tab", laid_math_bits_deBruijn64tab), ("internal/strconv.uint64pow10", laid_internal_strconv_uint64pow10)], narrowed := true }
def SessionBagsUptoSaid : Prop := sessionBagsUptoRow.holds Tryz.pinned (OpenSpec.upto sessionBagsSpec)

/-- 'ricochetlaw23.SessionShots', WHERE WHAT IT READS IS OF BULK AT MOST 1048576: true; the input reads as it did. -/
def sessionShotsUptoRow : OpenClaim := { program := "ytojbijapdkohlaagreatdoor", sum := "fdd2de69be871b44b9bbd726c17b23b7f632730c7f3fe25baba46c07afb12358", func := "ricochet/ricochetlaw23.SessionShots", spec := "sessionShots", inPlace := ["slices.overlaps[ricochet/api.Entity]"], unfollowed := true, recurses := true, named := ["internal/strconv.uint64pow10", "math/bits.deBruijn32tab", "math/bits.deBruijn64tab"], apart := false, laid := [("math/bits.deBruijn32tab", laid_math_bits_deBruijn32tab), ("math/bits.deBruijn64tab", laid_math_bits_deBruijn64tab), ("internal/strconv.uint64pow10", laid_internal_strconv_uint64pow10)], narrowed := true }
def SessionShotsUptoSaid : Prop := sessionShotsUptoRow.holds Tryz.pinned (OpenSpec.upto sessionShotsSpec)

/-- 'ricochetlaw23.SessionSnapshots', WHERE WHAT IT READS IS OF BULK AT MOST 1048576: true; the input reads as it did. -/
def sessionSnapshotsUptoRow : OpenClaim := { program := "ytojbijapdkohlaagreatdoor", sum := "fdd2de69be871b44b9bbd726c17b23b7f632730c7f3fe25baba46c07afb12358", func := "ricochet/ricochetlaw23.SessionSnapshots", spec := "sessionSnapshots", inPlace := ["slices.overlaps[ricochet/api.Entity]"], unfollowed := true, recurses := true, named := ["internal/strconv.uint64pow10", "math/bits.deBruijn32tab", "math/bits.deBruijn64tab"], apart := false, laid := [("math/bits.deBruijn32tab", laid_math_bits_deBruijn32tab), ("math/bits.deBruijn64tab", laid_math_bits_deBruijn64tab), ("internal/strconv.uint64pow10", laid_internal_strconv_uint64pow10)], narrowed := true }
def SessionSnapshotsUptoSaid : Prop := sessionSnapshotsUptoRow.holds Tryz.pinned (OpenSpec.upto sessionSnapshotsSpec)

/-- 'ricochetlaw23.SessionPredicts', WHERE WHAT IT READS IS OF BULK AT MOST 1048576: true; the input reads as it did. -/
def sessionPredictsUptoRow : OpenClaim := { program := "ytojbijapdkohlaagreatdoor", sum := "fdd2de69be871b44b9bbd726c17b23b7f632730c7f3fe25baba46c07afb12358", func := "ricochet/ricochetlaw23.SessionPredicts", spec := "sessionPredicts", inPlace := ["slices.overlaps[ricochet/api.Entity]"], unfollowed := true, recurses := true, named := ["internal/strconv.uint64pow10", "math/bits.deBruijn32tab", "math/bits.deBruijn64tab"], apart := false, laid := [("math/bits.deBruijn32tab", laid_math_bits_deBruijn32tab), ("math/bits.deBruijn64tab", laid_math_bits_deBruijn64tab), ("internal/strconv.uint64pow10", laid_internal_strconv_uint64pow10)], narrowed := true }
def SessionPredictsUptoSaid : Prop := sessionPredictsUptoRow.holds Tryz.pinned (OpenSpec.upto sessionPredictsSpec)

/-- 'ricochetlaw23.SessionLive', WHERE WHAT IT READS IS OF BULK AT MOST 1048576: true; the input reads as it did. -/
def sessionLiveUptoRow : OpenClaim := { program := "ytojbijapdkohlaagreatdoor", sum := "fdd2de69be871b44b9bbd726c17b23b7f632730c7f3fe25baba46c07afb12358", func := "ricochet/ricochetlaw23.SessionLive", spec := "sessionLive", inPlace := ["slices.overlaps[ricochet/api.Entity]"], unfollowed := true, recurses := true, named := ["internal/strconv.uint64pow10", "math/bits.deBruijn32tab", "math/bits.deBruijn64tab"], apart := false, laid := [("math/bits.deBruijn32tab", laid_math_bits_deBruijn32tab), ("math/bits.deBruijn64tab", laid_math_bits_deBruijn64tab), ("internal/strconv.uint64pow10", laid_internal_strconv_uint64pow10)], narrowed := true }
def SessionLiveUptoSaid : Prop := sessionLiveUptoRow.holds Tryz.pinned (OpenSpec.upto sessionLiveSpec)

/-- 'ricochettop.TopAgain', WHERE WHAT IT READS IS OF BULK AT MOST 1048576: true; the input reads as it did. -/
def topAgainUptoRow : OpenClaim := { program := "ytojbijapdkohlaagreatdoor", sum := "fdd2de69be871b44b9bbd726c17b23b7f632730c7f3fe25baba46c07afb12358", func := "ricochet/ricochettop.TopAgain", spec := "topAgain", inPlace := ["slices.overlaps[ricochet/api.Entity]"], unfollowed := true, recurses := true, named := ["internal/strconv.uint64pow10", "math/bits.deBruijn32tab", "math/bits.deBruijn64tab"], apart := false, laid := [("math/bits.deBruijn32tab", laid_math_bits_deBruijn32tab), ("math/bits.deBruijn64tab", laid_math_bits_deBruijn64tab), ("internal/strconv.uint64pow10", laid_internal_strconv_uint64pow10)], narrowed := true }
def TopAgainUptoSaid : Prop := topAgainUptoRow.holds Tryz.pinned (OpenSpec.upto topAgainSpec)

end Rows
end Go.Proofs.YtojbijapdkohlaaGreatDoor
