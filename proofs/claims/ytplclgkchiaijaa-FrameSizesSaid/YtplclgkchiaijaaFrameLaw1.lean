/- The walk of the law FrameWraps. -/
import Derived.Test.YtplclgkchiaijaaFrameRef2
namespace Go.Proofs.Ytplclgkchiaijaa
open Go.RowKit
theorem sameB_self (l : List UInt8) : sameB l l = true := decide_eq_true rfl
theorem wrapF_len (key : BitVec 32) (l : List UInt8) : (wrapF key l).1.length ≤ 1404 := by
  unfold wrapF
  split
  · simp [num4_length']; omega
  · simp
theorem openF_len (key : BitVec 32) (l : List UInt8) : (openF key l).1.length ≤ 1404 := by
  unfold openF
  split
  · simp
  · split
    · simp
    · split
      · simp; omega
      · simp
theorem bytes_len {w : World} {B n : Nat} {A : Option Addr} {l : List UInt8} (h : Reads w B 1 A n (bytesV l)) : n = l.length := by
  have := h.1; simpa [bytesV] using this.symm
set_option maxHeartbeats 1000000 in
theorem lawFrameWraps (key : BitVec 32) (p b : List UInt8) (w : World) (A A' : Option Addr) (n n' c c' : Nat) (h : Reads w w.heap.size 1 A n (bytesV p)) (hn : n ≤ 9223372036854775807)
    (h' : Reads w w.heap.size 1 A' n' (bytesV b)) (hn' : n' ≤ 9223372036854775807) (hc' : n' ≤ c') :
    Calls Try.prog 11 #[u32V key, .slice A n c, .slice A' n' c'] w fun e w' => e = .returned (.bool true) ∧ Below w.heap.size w w' := by
  by_cases h1 : n ≤ 2000
  · by_cases h2 : n' ≤ 2000
    · unfold u32V
      go_enter Try.func11, Try.ntmps11
      go_wp2_with fail
      refine (frameAwake _).mono ?_
      rintro e w1 ⟨rfl, hb1⟩
      have s1 := hb1.size
      go_wp2_with fail
      refine (frame_wrap key p _ A n c ((h.below hb1).more s1) hn).mono ?_
      rintro e w2 ⟨v2, n2, rfl, ho2, hb2⟩
      have b2 := hb1.trans (hb2.mono s1)
      have s2 := b2.size
      obtain ⟨A2, c2, rfl, r2⟩ := Reads.owned ho2
      clear ho2
      go_wp2_with fail
      refine (ref_wrap key p _ A n c ((h.below b2).more s2) hn).mono ?_
      rintro e w3 ⟨v3, n3, rfl, ho3, hb3⟩
      have b3 := b2.trans (hb3.mono s2)
      have s3 := b3.size
      obtain ⟨A3, c3, rfl, r3⟩ := Reads.owned ho3
      clear ho3
      go_wp2_with fail
      refine (frame_open key b _ A' n' c' ((h'.below b3).more s3) hn' hc').mono ?_
      rintro e w4 ⟨v4, n4, rfl, ho4, hb4⟩
      have b4 := b3.trans (hb4.mono s3)
      have s4 := b4.size
      obtain ⟨A4, c4, rfl, r4⟩ := Reads.owned ho4
      clear ho4
      go_wp2_with fail
      refine (ref_open key b _ A' n' c' ((h'.below b4).more s4) hn' hc').mono ?_
      rintro e w5 ⟨A5, n5, c5, rfl, r5, hb5, hn5⟩
      have b5 := b4.trans (hb5.mono s4)
      have t2 := hb3.size
      have t3 := hb4.size
      have t4 := hb5.size
      have q2 := ((r2.below hb3).below (hb4.mono t2)).below (hb5.mono (Nat.le_trans t2 t3))
      have q3 := ((r3.below hb4).below (hb5.mono t3))
      have q4 := r4.below hb5
      have e2 := wrapF_len key p
      have e4 := openF_len key b
      go_wp2_with fail
      refine (refSame (wrapF key p).1 (wrapF key p).1 _ _ _ A2 A3 n2 n3 c2 c3 q2 q3 (by rw [bytes_len q2]; omega) (by rw [bytes_len q3]; omega)).mono ?_
      rintro e w6 ⟨rfl, k6, rfl⟩
      rw [sameB_self]
      go_wp2_with fail
      refine (refSame (openF key b).1 (openF key b).1 _ _ _ A4 A5 n4 n5 c4 c5 (q4.drewN k6) (r5.drewN k6) (by rw [bytes_len q4]; omega) hn5).mono ?_
      rintro e w7 ⟨rfl, k7, rfl⟩
      rw [sameB_self]
      go_wp2
      go_ret
      exact ⟨rfl, below_drews b5 (k6 + k7)⟩
    · go_enter Try.func11, Try.ntmps11
      go_wp2_with fail
      refine (frameAwake _).mono ?_
      rintro e w1 ⟨rfl, hb1⟩
      go_wp2_with fail
      refine (frameAwake _).mono ?_
      rintro e w2 ⟨rfl, hb2⟩
      go_wp2
      go_ret
      exact ⟨rfl, hb1.trans (hb2.mono hb1.size)⟩
  · go_enter Try.func11, Try.ntmps11
    go_wp2_with fail
    refine (frameAwake _).mono ?_
    rintro e w1 ⟨rfl, hb1⟩
    go_wp2_with fail
    refine (frameAwake _).mono ?_
    rintro e w2 ⟨rfl, hb2⟩
    go_wp2
    go_ret
    exact ⟨rfl, hb1.trans (hb2.mono hb1.size)⟩
end Go.Proofs.Ytplclgkchiaijaa
