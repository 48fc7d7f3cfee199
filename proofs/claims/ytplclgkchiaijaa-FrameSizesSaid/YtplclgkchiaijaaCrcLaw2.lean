/- The walk of the law CrcMixes. -/
import Derived.Test.YtplclgkchiaijaaCrcWalks4
namespace Go.Proofs.Ytplclgkchiaijaa
open Go.RowKit
theorem num4_inj {a b : BitVec 32} (h : num4 a = num4 b) : a = b := by
  simp only [num4, List.cons.injEq, and_true] at h
  obtain ⟨h0, h1, h2, h3⟩ := h
  have e : ∀ i, byteAt a i = byteAt b i → a.toNat / 256 ^ i % 256 = b.toNat / 256 ^ i % 256 := fun i hi => by rw [← byteAt_nat, ← byteAt_nat, hi]
  have h0 := e 0 h0
  have h1 := e 1 h1
  have h2 := e 2 h2
  have h3 := e 3 h3
  have ha := a.isLt
  have hb := b.isLt
  apply BitVec.eq_of_toNat_eq
  omega
theorem num4_length (a : BitVec 32) : (num4 a).length = 4 := rfl
theorem mixB_left {a b : BitVec 32} (c : BitVec 32) (h : mixB a c = mixB b c) : a = b := by
  have h' : Crc.sum ([] ++ num4 a ++ num4 c) = Crc.sum ([] ++ num4 b ++ num4 c) := h
  exact num4_inj ((Crc.sum_four (num4_length a) (num4_length b)).1 h')
theorem mixB_right {a b : BitVec 32} (c : BitVec 32) (h : mixB c a = mixB c b) : a = b := by
  have h' : Crc.sum (num4 c ++ num4 a ++ []) = Crc.sum (num4 c ++ num4 b ++ []) := by rw [List.append_nil, List.append_nil]; exact h
  exact num4_inj ((Crc.sum_four (num4_length a) (num4_length b)).1 h')
theorem u32_ne {x y : BitVec 32} (h : x ≠ y) : ((x.toNat : Int) == (y.toNat : Int)) = false := by
  rw [beq_eq_false_iff_ne]; intro e; exact h (BitVec.eq_of_toNat_eq (by omega))
set_option maxHeartbeats 1000000 in
theorem lawCrcMixes (a b c : BitVec 32) (w : World) : Calls Try.prog 10 #[u32V a, u32V b, u32V c] w fun e w' => e = .returned (.bool true) ∧ Below w.heap.size w w' := by
  unfold u32V
  by_cases hab : a = b
  · subst hab
    go_enter Try.func10, Try.ntmps10
    go_wp2_with fail
    refine (crcAwake _).mono ?_
    rintro e w1 ⟨rfl, hb1⟩
    go_wp2_with fail
    refine (crcMix a c _).mono ?_
    rintro e w2 ⟨rfl, hb2⟩
    go_wp2_with fail
    refine (crcMix a c _).mono ?_
    rintro e w3 ⟨rfl, hb3⟩
    unfold u32V
    go_wp2_with fail
    refine (crcMix c a _).mono ?_
    rintro e w4 ⟨rfl, hb4⟩
    go_wp2_with fail
    refine (crcMix c a _).mono ?_
    rintro e w5 ⟨rfl, hb5⟩
    unfold u32V
    go_wp2
    go_ret
    have s1 := hb1.size
    have s2 := hb2.size
    have s3 := hb3.size
    have s4 := hb4.size
    exact ⟨rfl, (((hb1.trans (hb2.mono (by omega))).trans (hb3.mono (by omega))).trans (hb4.mono (by omega))).trans (hb5.mono (by omega))⟩
  · have e1 := u32_ne (fun h => hab (mixB_left (a := a) (b := b) c h))
    have e2 := u32_ne (fun h => hab (mixB_right (a := a) (b := b) c h))
    have e3 := u32_ne hab
    clear hab
    go_enter Try.func10, Try.ntmps10
    go_wp2_with fail
    refine (crcAwake _).mono ?_
    rintro e w1 ⟨rfl, hb1⟩
    go_wp2_with fail
    refine (crcMix a c _).mono ?_
    rintro e w2 ⟨rfl, hb2⟩
    go_wp2_with fail
    refine (crcMix b c _).mono ?_
    rintro e w3 ⟨rfl, hb3⟩
    unfold u32V
    go_wp2_with fail
    refine (crcMix c a _).mono ?_
    rintro e w4 ⟨rfl, hb4⟩
    go_wp2_with fail
    refine (crcMix c b _).mono ?_
    rintro e w5 ⟨rfl, hb5⟩
    unfold u32V
    go_wp2
    go_ret
    have s1 := hb1.size
    have s2 := hb2.size
    have s3 := hb3.size
    have s4 := hb4.size
    exact ⟨rfl, (((hb1.trans (hb2.mono (by omega))).trans (hb3.mono (by omega))).trans (hb4.mono (by omega))).trans (hb5.mono (by omega))⟩
end Go.Proofs.Ytplclgkchiaijaa
