/-
  No cell of these rows narrows 'for every input' (looked for: loops, veiled, ifaces, maps, wideKeys, modest, calm, conditions, laid).
  DERIVED. THE GIVEN ROWS OF THIS SEAT. 18 by the template 'for every input the law returns true; each argument reads behind the call as it read before'; 0 by the template 'total and deterministic' (their statements: YtplclgkchiaijaaTotals.lean).
  GIVEN WITH THE SEED: the statements are not yours to turn. If you find one false, say at which input.
  Laid BY PROGRAM, IN A SANDBOX (cutbox-rows.mjs): the forced cells as the released guide's own fill.sh prints them over the translation bb806f010f1bee2a… (all of the seat's roots in one cut). By AI agents, Wed Nov 11 2026. No macro, syntax, notation, axiom, sorry.
-/
import Derived.Test.YtplclgkchiaijaaChecked
import GoSem.Claim
import GoSem.ClaimJoined
import GoSem.ClaimMapViews
import Derived.JoinedTies
import Derived.KernelRfl
namespace Go.Proofs.Ytplclgkchiaijaa
/- THE CELL 'sum', in the pinned program and in every row, IS THE sha256 OF THE DUMP (.gsa) THAT YtplclgkchiaijaaProg.lean LOADS. Nothing in Lean hashes anything: it is a label: what it is worth is what the hold of that sum in a sandbox is worth. -/
noncomputable def Try.pinned : Pinned := { name := "ytplclgkchiaijaa", sum := "bb806f010f1bee2acde3e1854ebd79b2f54566220b5592f5b0ca98d7caad8ad9", checked := Try.checked }
namespace Rows
def none {H : Type} : Left H := { results := [], args := [] }

/-- 'ricochetlaw08.RandomOne': WHATEVER THE INPUT: true; the input reads as it did. -/
def randomOneSpec : ChangeSpec := { name := "randomOne", fn := fun _ => fun
  | [d1, d2] => { results := [.lit (.bool true)], args := [d1, d2] }
  | _ => none }
def randomOneRow : OpenClaim := { program := "ytplclgkchiaijaa", sum := "bb806f010f1bee2acde3e1854ebd79b2f54566220b5592f5b0ca98d7caad8ad9", func := "ricochet/ricochetlaw08.RandomOne", spec := "randomOne", apart := false }
def RandomOneSaid : Prop := randomOneRow.holds Try.pinned (OpenSpec.ofChange randomOneSpec)

/-- ITS FALSE NEIGHBOUR: 'it returns false'. Refute it at one input. -/
def randomOneWrong : ChangeSpec := { name := "randomOne", fn := fun _ => fun
  | [d1, d2] => { results := [.lit (.bool false)], args := [d1, d2] }
  | _ => none }
def RandomOneWrongFalsely : Prop := randomOneRow.holds Try.pinned (OpenSpec.ofChange randomOneWrong)

/-- 'ricochetlaw08.RandomRow': WHATEVER THE INPUT: true; the input reads as it did. -/
def randomRowSpec : ChangeSpec := { name := "randomRow", fn := fun _ => fun
  | [d1, d2] => { results := [.lit (.bool true)], args := [d1, d2] }
  | _ => none }
def randomRowRow : OpenClaim := { program := "ytplclgkchiaijaa", sum := "bb806f010f1bee2acde3e1854ebd79b2f54566220b5592f5b0ca98d7caad8ad9", func := "ricochet/ricochetlaw08.RandomRow", spec := "randomRow", apart := false }
def RandomRowSaid : Prop := randomRowRow.holds Try.pinned (OpenSpec.ofChange randomRowSpec)

/-- ITS FALSE NEIGHBOUR: 'it returns false'. Refute it at one input. -/
def randomRowWrong : ChangeSpec := { name := "randomRow", fn := fun _ => fun
  | [d1, d2] => { results := [.lit (.bool false)], args := [d1, d2] }
  | _ => none }
def RandomRowWrongFalsely : Prop := randomRowRow.holds Try.pinned (OpenSpec.ofChange randomRowWrong)

/-- 'ricochetlaw05.CrcTells': WHATEVER THE INPUT: true; the input reads as it did. -/
def crcTellsSpec : ChangeSpec := { name := "crcTells", fn := fun _ => fun
  | [d1, d2, d3] => { results := [.lit (.bool true)], args := [d1, d2, d3] }
  | _ => none }
def crcTellsRow : OpenClaim := { program := "ytplclgkchiaijaa", sum := "bb806f010f1bee2acde3e1854ebd79b2f54566220b5592f5b0ca98d7caad8ad9", func := "ricochet/ricochetlaw05.CrcTells", spec := "crcTells", apart := false }
def CrcTellsSaid : Prop := crcTellsRow.holds Try.pinned (OpenSpec.ofChange crcTellsSpec)

/-- ITS FALSE NEIGHBOUR: 'it returns false'. Refute it at one input. -/
def crcTellsWrong : ChangeSpec := { name := "crcTells", fn := fun _ => fun
  | [d1, d2, d3] => { results := [.lit (.bool false)], args := [d1, d2, d3] }
  | _ => none }
def CrcTellsWrongFalsely : Prop := crcTellsRow.holds Try.pinned (OpenSpec.ofChange crcTellsWrong)

/-- 'ricochetlaw05.CrcTurns': WHATEVER THE INPUT: true; the input reads as it did. -/
def crcTurnsSpec : ChangeSpec := { name := "crcTurns", fn := fun _ => fun
  | [d1, d2, d3] => { results := [.lit (.bool true)], args := [d1, d2, d3] }
  | _ => none }
def crcTurnsRow : OpenClaim := { program := "ytplclgkchiaijaa", sum := "bb806f010f1bee2acde3e1854ebd79b2f54566220b5592f5b0ca98d7caad8ad9", func := "ricochet/ricochetlaw05.CrcTurns", spec := "crcTurns", apart := false }
def CrcTurnsSaid : Prop := crcTurnsRow.holds Try.pinned (OpenSpec.ofChange crcTurnsSpec)

/-- ITS FALSE NEIGHBOUR: 'it returns false'. Refute it at one input. -/
def crcTurnsWrong : ChangeSpec := { name := "crcTurns", fn := fun _ => fun
  | [d1, d2, d3] => { results := [.lit (.bool false)], args := [d1, d2, d3] }
  | _ => none }
def CrcTurnsWrongFalsely : Prop := crcTurnsRow.holds Try.pinned (OpenSpec.ofChange crcTurnsWrong)

/-- 'ricochetlaw08.RandomNext': WHATEVER THE INPUT: true; the input reads as it did. -/
def randomNextSpec : ChangeSpec := { name := "randomNext", fn := fun _ => fun
  | [d1, d2] => { results := [.lit (.bool true)], args := [d1, d2] }
  | _ => none }
def randomNextRow : OpenClaim := { program := "ytplclgkchiaijaa", sum := "bb806f010f1bee2acde3e1854ebd79b2f54566220b5592f5b0ca98d7caad8ad9", func := "ricochet/ricochetlaw08.RandomNext", spec := "randomNext", apart := false }
def RandomNextSaid : Prop := randomNextRow.holds Try.pinned (OpenSpec.ofChange randomNextSpec)

/-- ITS FALSE NEIGHBOUR: 'it returns false'. Refute it at one input. -/
def randomNextWrong : ChangeSpec := { name := "randomNext", fn := fun _ => fun
  | [d1, d2] => { results := [.lit (.bool false)], args := [d1, d2] }
  | _ => none }
def RandomNextWrongFalsely : Prop := randomNextRow.holds Try.pinned (OpenSpec.ofChange randomNextWrong)

/-- 'ricochetlaw08.RandomBelow': WHATEVER THE INPUT: true; the input reads as it did. -/
def randomBelowSpec : ChangeSpec := { name := "randomBelow", fn := fun _ => fun
  | [d1, d2] => { results := [.lit (.bool true)], args := [d1, d2] }
  | _ => none }
def randomBelowRow : OpenClaim := { program := "ytplclgkchiaijaa", sum := "bb806f010f1bee2acde3e1854ebd79b2f54566220b5592f5b0ca98d7caad8ad9", func := "ricochet/ricochetlaw08.RandomBelow", spec := "randomBelow", apart := false }
def RandomBelowSaid : Prop := randomBelowRow.holds Try.pinned (OpenSpec.ofChange randomBelowSpec)

/-- ITS FALSE NEIGHBOUR: 'it returns false'. Refute it at one input. -/
def randomBelowWrong : ChangeSpec := { name := "randomBelow", fn := fun _ => fun
  | [d1, d2] => { results := [.lit (.bool false)], args := [d1, d2] }
  | _ => none }
def RandomBelowWrongFalsely : Prop := randomBelowRow.holds Try.pinned (OpenSpec.ofChange randomBelowWrong)

/-- 'ricochetlaw05.CrcSums': WHATEVER THE INPUT: true; the input reads as it did. -/
def crcSumsSpec : ChangeSpec := { name := "crcSums", fn := fun _ => fun
  | [d1, d2, d3] => { results := [.lit (.bool true)], args := [d1, d2, d3] }
  | _ => none }
def crcSumsRow : OpenClaim := { program := "ytplclgkchiaijaa", sum := "bb806f010f1bee2acde3e1854ebd79b2f54566220b5592f5b0ca98d7caad8ad9", func := "ricochet/ricochetlaw05.CrcSums", spec := "crcSums", apart := false }
def CrcSumsSaid : Prop := crcSumsRow.holds Try.pinned (OpenSpec.ofChange crcSumsSpec)

/-- ITS FALSE NEIGHBOUR: 'it returns false'. Refute it at one input. -/
def crcSumsWrong : ChangeSpec := { name := "crcSums", fn := fun _ => fun
  | [d1, d2, d3] => { results := [.lit (.bool false)], args := [d1, d2, d3] }
  | _ => none }
def CrcSumsWrongFalsely : Prop := crcSumsRow.holds Try.pinned (OpenSpec.ofChange crcSumsWrong)

/-- 'ricochetlaw05.CrcMixes': WHATEVER THE INPUT: true; the input reads as it did. -/
def crcMixesSpec : ChangeSpec := { name := "crcMixes", fn := fun _ => fun
  | [d1, d2, d3] => { results := [.lit (.bool true)], args := [d1, d2, d3] }
  | _ => none }
def crcMixesRow : OpenClaim := { program := "ytplclgkchiaijaa", sum := "bb806f010f1bee2acde3e1854ebd79b2f54566220b5592f5b0ca98d7caad8ad9", func := "ricochet/ricochetlaw05.CrcMixes", spec := "crcMixes", apart := false }
def CrcMixesSaid : Prop := crcMixesRow.holds Try.pinned (OpenSpec.ofChange crcMixesSpec)

/-- ITS FALSE NEIGHBOUR: 'it returns false'. Refute it at one input. -/
def crcMixesWrong : ChangeSpec := { name := "crcMixes", fn := fun _ => fun
  | [d1, d2, d3] => { results := [.lit (.bool false)], args := [d1, d2, d3] }
  | _ => none }
def CrcMixesWrongFalsely : Prop := crcMixesRow.holds Try.pinned (OpenSpec.ofChange crcMixesWrong)

/-- 'ricochetlaw07.FrameWraps': WHATEVER THE INPUT: true; the input reads as it did. -/
def frameWrapsSpec : ChangeSpec := { name := "frameWraps", fn := fun _ => fun
  | [d1, d2, d3] => { results := [.lit (.bool true)], args := [d1, d2, d3] }
  | _ => none }
def frameWrapsRow : OpenClaim := { program := "ytplclgkchiaijaa", sum := "bb806f010f1bee2acde3e1854ebd79b2f54566220b5592f5b0ca98d7caad8ad9", func := "ricochet/ricochetlaw07.FrameWraps", spec := "frameWraps", apart := false }
def FrameWrapsSaid : Prop := frameWrapsRow.holds Try.pinned (OpenSpec.ofChange frameWrapsSpec)

/-- ITS FALSE NEIGHBOUR: 'it returns false'. Refute it at one input. -/
def frameWrapsWrong : ChangeSpec := { name := "frameWraps", fn := fun _ => fun
  | [d1, d2, d3] => { results := [.lit (.bool false)], args := [d1, d2, d3] }
  | _ => none }
def FrameWrapsWrongFalsely : Prop := frameWrapsRow.holds Try.pinned (OpenSpec.ofChange frameWrapsWrong)

/-- 'ricochetlaw07.FrameBack': WHATEVER THE INPUT: true; the input reads as it did. -/
def frameBackSpec : ChangeSpec := { name := "frameBack", fn := fun _ => fun
  | [d1, d2, d3] => { results := [.lit (.bool true)], args := [d1, d2, d3] }
  | _ => none }
def frameBackRow : OpenClaim := { program := "ytplclgkchiaijaa", sum := "bb806f010f1bee2acde3e1854ebd79b2f54566220b5592f5b0ca98d7caad8ad9", func := "ricochet/ricochetlaw07.FrameBack", spec := "frameBack", apart := false }
def FrameBackSaid : Prop := frameBackRow.holds Try.pinned (OpenSpec.ofChange frameBackSpec)

/-- ITS FALSE NEIGHBOUR: 'it returns false'. Refute it at one input. -/
def frameBackWrong : ChangeSpec := { name := "frameBack", fn := fun _ => fun
  | [d1, d2, d3] => { results := [.lit (.bool false)], args := [d1, d2, d3] }
  | _ => none }
def FrameBackWrongFalsely : Prop := frameBackRow.holds Try.pinned (OpenSpec.ofChange frameBackWrong)

/-- 'ricochetlaw07.FrameTold': WHATEVER THE INPUT: true; the input reads as it did. -/
def frameToldSpec : ChangeSpec := { name := "frameTold", fn := fun _ => fun
  | [d1, d2, d3] => { results := [.lit (.bool true)], args := [d1, d2, d3] }
  | _ => none }
def frameToldRow : OpenClaim := { program := "ytplclgkchiaijaa", sum := "bb806f010f1bee2acde3e1854ebd79b2f54566220b5592f5b0ca98d7caad8ad9", func := "ricochet/ricochetlaw07.FrameTold", spec := "frameTold", apart := false }
def FrameToldSaid : Prop := frameToldRow.holds Try.pinned (OpenSpec.ofChange frameToldSpec)

/-- ITS FALSE NEIGHBOUR: 'it returns false'. Refute it at one input. -/
def frameToldWrong : ChangeSpec := { name := "frameTold", fn := fun _ => fun
  | [d1, d2, d3] => { results := [.lit (.bool false)], args := [d1, d2, d3] }
  | _ => none }
def FrameToldWrongFalsely : Prop := frameToldRow.holds Try.pinned (OpenSpec.ofChange frameToldWrong)

/-- 'ricochetlaw07.FrameCuts': WHATEVER THE INPUT: true; the input reads as it did. -/
def frameCutsSpec : ChangeSpec := { name := "frameCuts", fn := fun _ => fun
  | [d1, d2, d3] => { results := [.lit (.bool true)], args := [d1, d2, d3] }
  | _ => none }
def frameCutsRow : OpenClaim := { program := "ytplclgkchiaijaa", sum := "bb806f010f1bee2acde3e1854ebd79b2f54566220b5592f5b0ca98d7caad8ad9", func := "ricochet/ricochetlaw07.FrameCuts", spec := "frameCuts", apart := false }
def FrameCutsSaid : Prop := frameCutsRow.holds Try.pinned (OpenSpec.ofChange frameCutsSpec)

/-- ITS FALSE NEIGHBOUR: 'it returns false'. Refute it at one input. -/
def frameCutsWrong : ChangeSpec := { name := "frameCuts", fn := fun _ => fun
  | [d1, d2, d3] => { results := [.lit (.bool false)], args := [d1, d2, d3] }
  | _ => none }
def FrameCutsWrongFalsely : Prop := frameCutsRow.holds Try.pinned (OpenSpec.ofChange frameCutsWrong)

/-- 'ricochetlaw07.FrameSizes': WHATEVER THE INPUT: true; the input reads as it did. -/
def frameSizesSpec : ChangeSpec := { name := "frameSizes", fn := fun _ => fun
  | [d1, d2] => { results := [.lit (.bool true)], args := [d1, d2] }
  | _ => none }
def frameSizesRow : OpenClaim := { program := "ytplclgkchiaijaa", sum := "bb806f010f1bee2acde3e1854ebd79b2f54566220b5592f5b0ca98d7caad8ad9", func := "ricochet/ricochetlaw07.FrameSizes", spec := "frameSizes", apart := false }
def FrameSizesSaid : Prop := frameSizesRow.holds Try.pinned (OpenSpec.ofChange frameSizesSpec)

/-- ITS FALSE NEIGHBOUR: 'it returns false'. Refute it at one input. -/
def frameSizesWrong : ChangeSpec := { name := "frameSizes", fn := fun _ => fun
  | [d1, d2] => { results := [.lit (.bool false)], args := [d1, d2] }
  | _ => none }
def FrameSizesWrongFalsely : Prop := frameSizesRow.holds Try.pinned (OpenSpec.ofChange frameSizesWrong)

/-- 'ricochetlaw19.BucketAgain': WHATEVER THE INPUT: true; the input reads as it did. -/
def bucketAgainSpec : ChangeSpec := { name := "bucketAgain", fn := fun _ => fun
  | [d1, d2] => { results := [.lit (.bool true)], args := [d1, d2] }
  | _ => none }
def bucketAgainRow : OpenClaim := { program := "ytplclgkchiaijaa", sum := "bb806f010f1bee2acde3e1854ebd79b2f54566220b5592f5b0ca98d7caad8ad9", func := "ricochet/ricochetlaw19.BucketAgain", spec := "bucketAgain", apart := false }
def BucketAgainSaid : Prop := bucketAgainRow.holds Try.pinned (OpenSpec.ofChange bucketAgainSpec)

/-- ITS FALSE NEIGHBOUR: 'it returns false'. Refute it at one input. -/
def bucketAgainWrong : ChangeSpec := { name := "bucketAgain", fn := fun _ => fun
  | [d1, d2] => { results := [.lit (.bool false)], args := [d1, d2] }
  | _ => none }
def BucketAgainWrongFalsely : Prop := bucketAgainRow.holds Try.pinned (OpenSpec.ofChange bucketAgainWrong)

/-- 'ricochetlaw19.BucketPlays': WHATEVER THE INPUT: true; the input reads as it did. -/
def bucketPlaysSpec : ChangeSpec := { name := "bucketPlays", fn := fun _ => fun
  | [d] => { results := [.lit (.bool true)], args := [d] }
  | _ => none }
def bucketPlaysRow : OpenClaim := { program := "ytplclgkchiaijaa", sum := "bb806f010f1bee2acde3e1854ebd79b2f54566220b5592f5b0ca98d7caad8ad9", func := "ricochet/ricochetlaw19.BucketPlays", spec := "bucketPlays", apart := false }
def BucketPlaysSaid : Prop := bucketPlaysRow.holds Try.pinned (OpenSpec.ofChange bucketPlaysSpec)

/-- ITS FALSE NEIGHBOUR: 'it returns false'. Refute it at one input. -/
def bucketPlaysWrong : ChangeSpec := { name := "bucketPlays", fn := fun _ => fun
  | [d] => { results := [.lit (.bool false)], args := [d] }
  | _ => none }
def BucketPlaysWrongFalsely : Prop := bucketPlaysRow.holds Try.pinned (OpenSpec.ofChange bucketPlaysWrong)

/-- 'ricochetlaw19.BucketRises': WHATEVER THE INPUT: true; the input reads as it did. -/
def bucketRisesSpec : ChangeSpec := { name := "bucketRises", fn := fun _ => fun
  | [d] => { results := [.lit (.bool true)], args := [d] }
  | _ => none }
def bucketRisesRow : OpenClaim := { program := "ytplclgkchiaijaa", sum := "bb806f010f1bee2acde3e1854ebd79b2f54566220b5592f5b0ca98d7caad8ad9", func := "ricochet/ricochetlaw19.BucketRises", spec := "bucketRises", apart := false }
def BucketRisesSaid : Prop := bucketRisesRow.holds Try.pinned (OpenSpec.ofChange bucketRisesSpec)

/-- ITS FALSE NEIGHBOUR: 'it returns false'. Refute it at one input. -/
def bucketRisesWrong : ChangeSpec := { name := "bucketRises", fn := fun _ => fun
  | [d] => { results := [.lit (.bool false)], args := [d] }
  | _ => none }
def BucketRisesWrongFalsely : Prop := bucketRisesRow.holds Try.pinned (OpenSpec.ofChange bucketRisesWrong)

/-- 'ricochetlaw19.BucketNil': WHATEVER THE INPUT: true; the input reads as it did. -/
def bucketNilSpec : ChangeSpec := { name := "bucketNil", fn := fun _ => fun
  | [d1, d2] => { results := [.lit (.bool true)], args := [d1, d2] }
  | _ => none }
def bucketNilRow : OpenClaim := { program := "ytplclgkchiaijaa", sum := "bb806f010f1bee2acde3e1854ebd79b2f54566220b5592f5b0ca98d7caad8ad9", func := "ricochet/ricochetlaw19.BucketNil", spec := "bucketNil", apart := false }
def BucketNilSaid : Prop := bucketNilRow.holds Try.pinned (OpenSpec.ofChange bucketNilSpec)

/-- ITS FALSE NEIGHBOUR: 'it returns false'. Refute it at one input. -/
def bucketNilWrong : ChangeSpec := { name := "bucketNil", fn := fun _ => fun
  | [d1, d2] => { results := [.lit (.bool false)], args := [d1, d2] }
  | _ => none }
def BucketNilWrongFalsely : Prop := bucketNilRow.holds Try.pinned (OpenSpec.ofChange bucketNilWrong)

/-- 'ricochetlaw19.BucketCalm': WHATEVER THE INPUT: true; the input reads as it did. -/
def bucketCalmSpec : ChangeSpec := { name := "bucketCalm", fn := fun _ => fun
  | [d1, d2] => { results := [.lit (.bool true)], args := [d1, d2] }
  | _ => none }
def bucketCalmRow : OpenClaim := { program := "ytplclgkchiaijaa", sum := "bb806f010f1bee2acde3e1854ebd79b2f54566220b5592f5b0ca98d7caad8ad9", func := "ricochet/ricochetlaw19.BucketCalm", spec := "bucketCalm", apart := false }
def BucketCalmSaid : Prop := bucketCalmRow.holds Try.pinned (OpenSpec.ofChange bucketCalmSpec)

/-- ITS FALSE NEIGHBOUR: 'it returns false'. Refute it at one input. -/
def bucketCalmWrong : ChangeSpec := { name := "bucketCalm", fn := fun _ => fun
  | [d1, d2] => { results := [.lit (.bool false)], args := [d1, d2] }
  | _ => none }
def BucketCalmWrongFalsely : Prop := bucketCalmRow.holds Try.pinned (OpenSpec.ofChange bucketCalmWrong)

/- THE SECOND FORM. 'bulk': how many values and letters a reading holds, each counted each time it is reached (what is shared counts as often as it is met; a slice's spare places count too). A statement '..UptoSaid' is the law's where the arguments, and the package variables that the reading takes, are together of bulk at most 1048576: NARROWER than '..Said'. Prove '..Said' where nothing that the law and all that it calls make is longer than what came in: it says more and counts as full. Else prove '..UptoSaid'. A law counts once. -/
mutual
def uptoBulk {H : Type} : DataW H → Nat
  | .lit (.string bytes) => bytes.length + 1
  | .lit _ => 1
  | .nil => 1
  | .ptr d => uptoBulk d + 1
  | .slice elems spare => uptoBulkAll elems + uptoBulkAll spare + 1
  | .agg parts => uptoBulkAll parts + 1
  | .iface _ d => uptoBulk d + 1
  | .map entries => uptoBulkEntries entries + 1
  | .held _ => 1
def uptoBulkAll {H : Type} : List (DataW H) → Nat
  | [] => 0
  | d :: r => uptoBulk d + uptoBulkAll r
def uptoBulkEntries {H : Type} : List (Lit × DataW H) → Nat
  | [] => 0
  | x :: r => uptoBulkEntry x + uptoBulkEntries r
def uptoBulkEntry {H : Type} : Lit × DataW H → Nat
  | (.string bytes, d) => bytes.length + uptoBulk d + 1
  | (_, d) => uptoBulk d + 1
 end
def uptoSmall : (H : Type) → List (DataW H) → Bool := fun _ ds => decide (uptoBulkAll ds ≤ 1048576)
def OpenSpec.upto (s : _root_.Go.ChangeSpec) : _root_.Go.OpenSpec := { _root_.Go.OpenSpec.ofChange s with cond := some uptoSmall }

/-- 'ricochetlaw08.RandomOne', WHERE WHAT IT READS IS OF BULK AT MOST 1048576: true; the input reads as it did. -/
def randomOneUptoRow : OpenClaim := { program := "ytplclgkchiaijaa", sum := "bb806f010f1bee2acde3e1854ebd79b2f54566220b5592f5b0ca98d7caad8ad9", func := "ricochet/ricochetlaw08.RandomOne", spec := "randomOne", apart := false, narrowed := true }
def RandomOneUptoSaid : Prop := randomOneUptoRow.holds Try.pinned (OpenSpec.upto randomOneSpec)

/-- 'ricochetlaw08.RandomRow', WHERE WHAT IT READS IS OF BULK AT MOST 1048576: true; the input reads as it did. -/
def randomRowUptoRow : OpenClaim := { program := "ytplclgkchiaijaa", sum := "bb806f010f1bee2acde3e1854ebd79b2f54566220b5592f5b0ca98d7caad8ad9", func := "ricochet/ricochetlaw08.RandomRow", spec := "randomRow", apart := false, narrowed := true }
def RandomRowUptoSaid : Prop := randomRowUptoRow.holds Try.pinned (OpenSpec.upto randomRowSpec)

/-- 'ricochetlaw05.CrcTells', WHERE WHAT IT READS IS OF BULK AT MOST 1048576: true; the input reads as it did. -/
def crcTellsUptoRow : OpenClaim := { program := "ytplclgkchiaijaa", sum := "bb806f010f1bee2acde3e1854ebd79b2f54566220b5592f5b0ca98d7caad8ad9", func := "ricochet/ricochetlaw05.CrcTells", spec := "crcTells", apart := false, narrowed := true }
def CrcTellsUptoSaid : Prop := crcTellsUptoRow.holds Try.pinned (OpenSpec.upto crcTellsSpec)

/-- 'ricochetlaw05.CrcTurns', WHERE WHAT IT READS IS OF BULK AT MOST 1048576: true; the input reads as it did. -/
def crcTurnsUptoRow : OpenClaim := { program := "ytplclgkchiaijaa", sum := "bb806f010f1bee2acde3e1854ebd79b2f54566220b5592f5b0ca98d7caad8ad9", func := "ricochet/ricochetlaw05.CrcTurns", spec := "crcTurns", apart := false, narrowed := true }
def CrcTurnsUptoSaid : Prop := crcTurnsUptoRow.holds Try.pinned (OpenSpec.upto crcTurnsSpec)

/-- 'ricochetlaw08.RandomNext', WHERE WHAT IT READS IS OF BULK AT MOST 1048576: true; the input reads as it did. -/
def randomNextUptoRow : OpenClaim := { program := "ytplclgkchiaijaa", sum := "bb806f010f1bee2acde3e1854ebd79b2f54566220b5592f5b0ca98d7caad8ad9", func := "ricochet/ricochetlaw08.RandomNext", spec := "randomNext", apart := false, narrowed := true }
def RandomNextUptoSaid : Prop := randomNextUptoRow.holds Try.pinned (OpenSpec.upto randomNextSpec)

/-- 'ricochetlaw08.RandomBelow', WHERE WHAT IT READS IS OF BULK AT MOST 1048576: true; the input reads as it did. -/
def randomBelowUptoRow : OpenClaim := { program := "ytplclgkchiaijaa", sum := "bb806f010f1bee2acde3e1854ebd79b2f54566220b5592f5b0ca98d7caad8ad9", func := "ricochet/ricochetlaw08.RandomBelow", spec := "randomBelow", apart := false, narrowed := true }
def RandomBelowUptoSaid : Prop := randomBelowUptoRow.holds Try.pinned (OpenSpec.upto randomBelowSpec)

/-- 'ricochetlaw05.CrcSums', WHERE WHAT IT READS IS OF BULK AT MOST 1048576: true; the input reads as it did. -/
def crcSumsUptoRow : OpenClaim := { program := "ytplclgkchiaijaa", sum := "bb806f010f1bee2acde3e1854ebd79b2f54566220b5592f5b0ca98d7caad8ad9", func := "ricochet/ricochetlaw05.CrcSums", spec := "crcSums", apart := false, narrowed := true }
def CrcSumsUptoSaid : Prop := crcSumsUptoRow.holds Try.pinned (OpenSpec.upto crcSumsSpec)

/-- 'ricochetlaw05.CrcMixes', WHERE WHAT IT READS IS OF BULK AT MOST 1048576: true; the input reads as it did. -/
def crcMixesUptoRow : OpenClaim := { program := "ytplclgkchiaijaa", sum := "bb806f010f1bee2acde3e1854ebd79b2f54566220b5592f5b0ca98d7caad8ad9", func := "ricochet/ricochetlaw05.CrcMixes", spec := "crcMixes", apart := false, narrowed := true }
def CrcMixesUptoSaid : Prop := crcMixesUptoRow.holds Try.pinned (OpenSpec.upto crcMixesSpec)

/-- 'ricochetlaw07.FrameWraps', WHERE WHAT IT READS IS OF BULK AT MOST 1048576: true; the input reads as it did. -/
def frameWrapsUptoRow : OpenClaim := { program := "ytplclgkchiaijaa", sum := "bb806f010f1bee2acde3e1854ebd79b2f54566220b5592f5b0ca98d7caad8ad9", func := "ricochet/ricochetlaw07.FrameWraps", spec := "frameWraps", apart := false, narrowed := true }
def FrameWrapsUptoSaid : Prop := frameWrapsUptoRow.holds Try.pinned (OpenSpec.upto frameWrapsSpec)

/-- 'ricochetlaw07.FrameBack', WHERE WHAT IT READS IS OF BULK AT MOST 1048576: true; the input reads as it did. -/
def frameBackUptoRow : OpenClaim := { program := "ytplclgkchiaijaa", sum := "bb806f010f1bee2acde3e1854ebd79b2f54566220b5592f5b0ca98d7caad8ad9", func := "ricochet/ricochetlaw07.FrameBack", spec := "frameBack", apart := false, narrowed := true }
def FrameBackUptoSaid : Prop := frameBackUptoRow.holds Try.pinned (OpenSpec.upto frameBackSpec)

/-- 'ricochetlaw07.FrameTold', WHERE WHAT IT READS IS OF BULK AT MOST 1048576: true; the input reads as it did. -/
def frameToldUptoRow : OpenClaim := { program := "ytplclgkchiaijaa", sum := "bb806f010f1bee2acde3e1854ebd79b2f54566220b5592f5b0ca98d7caad8ad9", func := "ricochet/ricochetlaw07.FrameTold", spec := "frameTold", apart := false, narrowed := true }
def FrameToldUptoSaid : Prop := frameToldUptoRow.holds Try.pinned (OpenSpec.upto frameToldSpec)

/-- 'ricochetlaw07.FrameCuts', WHERE WHAT IT READS IS OF BULK AT MOST 1048576: true; the input reads as it did. -/
def frameCutsUptoRow : OpenClaim := { program := "ytplclgkchiaijaa", sum := "bb806f010f1bee2acde3e1854ebd79b2f54566220b5592f5b0ca98d7caad8ad9", func := "ricochet/ricochetlaw07.FrameCuts", spec := "frameCuts", apart := false, narrowed := true }
def FrameCutsUptoSaid : Prop := frameCutsUptoRow.holds Try.pinned (OpenSpec.upto frameCutsSpec)

/-- 'ricochetlaw07.FrameSizes', WHERE WHAT IT READS IS OF BULK AT MOST 1048576: true; the input reads as it did. -/
def frameSizesUptoRow : OpenClaim := { program := "ytplclgkchiaijaa", sum := "bb806f010f1bee2acde3e1854ebd79b2f54566220b5592f5b0ca98d7caad8ad9", func := "ricochet/ricochetlaw07.FrameSizes", spec := "frameSizes", apart := false, narrowed := true }
def FrameSizesUptoSaid : Prop := frameSizesUptoRow.holds Try.pinned (OpenSpec.upto frameSizesSpec)

/-- 'ricochetlaw19.BucketAgain', WHERE WHAT IT READS IS OF BULK AT MOST 1048576: true; the input reads as it did. -/
def bucketAgainUptoRow : OpenClaim := { program := "ytplclgkchiaijaa", sum := "bb806f010f1bee2acde3e1854ebd79b2f54566220b5592f5b0ca98d7caad8ad9", func := "ricochet/ricochetlaw19.BucketAgain", spec := "bucketAgain", apart := false, narrowed := true }
def BucketAgainUptoSaid : Prop := bucketAgainUptoRow.holds Try.pinned (OpenSpec.upto bucketAgainSpec)

/-- 'ricochetlaw19.BucketPlays', WHERE WHAT IT READS IS OF BULK AT MOST 1048576: true; the input reads as it did. -/
def bucketPlaysUptoRow : OpenClaim := { program := "ytplclgkchiaijaa", sum := "bb806f010f1bee2acde3e1854ebd79b2f54566220b5592f5b0ca98d7caad8ad9", func := "ricochet/ricochetlaw19.BucketPlays", spec := "bucketPlays", apart := false, narrowed := true }
def BucketPlaysUptoSaid : Prop := bucketPlaysUptoRow.holds Try.pinned (OpenSpec.upto bucketPlaysSpec)

/-- 'ricochetlaw19.BucketRises', WHERE WHAT IT READS IS OF BULK AT MOST 1048576: true; the input reads as it did. -/
def bucketRisesUptoRow : OpenClaim := { program := "ytplclgkchiaijaa", sum := "bb806f010f1bee2acde3e1854ebd79b2f54566220b5592f5b0ca98d7caad8ad9", func := "ricochet/ricochetlaw19.BucketRises", spec := "bucketRises", apart := false, narrowed := true }
def BucketRisesUptoSaid : Prop := bucketRisesUptoRow.holds Try.pinned (OpenSpec.upto bucketRisesSpec)

/-- 'ricochetlaw19.BucketNil', WHERE WHAT IT READS IS OF BULK AT MOST 1048576: true; the input reads as it did. -/
def bucketNilUptoRow : OpenClaim := { program := "ytplclgkchiaijaa", sum := "bb806f010f1bee2acde3e1854ebd79b2f54566220b5592f5b0ca98d7caad8ad9", func := "ricochet/ricochetlaw19.BucketNil", spec := "bucketNil", apart := false, narrowed := true }
def BucketNilUptoSaid : Prop := bucketNilUptoRow.holds Try.pinned (OpenSpec.upto bucketNilSpec)

/-- 'ricochetlaw19.BucketCalm', WHERE WHAT IT READS IS OF BULK AT MOST 1048576: true; the input reads as it did. -/
def bucketCalmUptoRow : OpenClaim := { program := "ytplclgkchiaijaa", sum := "bb806f010f1bee2acde3e1854ebd79b2f54566220b5592f5b0ca98d7caad8ad9", func := "ricochet/ricochetlaw19.BucketCalm", spec := "bucketCalm", apart := false, narrowed := true }
def BucketCalmUptoSaid : Prop := bucketCalmUptoRow.holds Try.pinned (OpenSpec.upto bucketCalmSpec)

end Rows
end Go.Proofs.Ytplclgkchiaijaa
