/- The walk of the law CrcSums. -/
import Derived.Test.YtplclgkchiaijaaCrcWalks4
namespace Go.Proofs.Ytplclgkchiaijaa
open Go.RowKit
set_option maxHeartbeats 1000000 in
theorem lawCrcSums (l : List UInt8) (a b : BitVec 32) (w : World) (A : Option Addr) (n c : Nat) (h : Reads w w.heap.size 1 A n (bytesV l)) (hn : n ≤ 9223372036854775807) :
    Calls Try.prog 9 #[.slice A n c, u32V a, u32V b] w fun e w' => e = .returned (.bool true) ∧ Below w.heap.size w w' := by
  by_cases hle : n ≤ 5000
  · go_enter Try.func9, Try.ntmps9
    go_wp2_with fail
    refine (crcAwake _).mono ?_
    rintro e w1 ⟨rfl, hb1⟩
    go_wp2_with fail
    refine (crcSum l _ _ A n c (h.below hb1) hn).mono ?_
    rintro e w2 ⟨rfl, rfl⟩
    go_wp2_with fail
    refine (refSum l _ _ A n c (h.below hb1) hn).mono ?_
    rintro e w2 ⟨rfl, rfl⟩
    unfold u32V
    go_wp2_with fail
    refine (crcMix a b _).mono ?_
    rintro e w2 ⟨rfl, hb2⟩
    go_wp2_with fail
    refine (refMix a b _).mono ?_
    rintro e w3 ⟨rfl, hb3⟩
    unfold u32V
    go_wp2
    go_ret
    exact ⟨rfl, (hb1.trans (hb2.mono hb1.size)).trans (hb3.mono (Nat.le_trans hb1.size hb2.size))⟩
  · go_enter Try.func9, Try.ntmps9
    go_wp2_with fail
    refine (crcAwake _).mono ?_
    rintro e w1 ⟨rfl, hb1⟩
    go_wp2_with fail
    refine (crcAwake _).mono ?_
    rintro e w2 ⟨rfl, hb2⟩
    go_wp2
    go_ret
    exact ⟨rfl, hb1.trans (hb2.mono hb1.size)⟩
end Go.Proofs.Ytplclgkchiaijaa
