/- The walk of the law FrameBack. -/
import Derived.Test.YtplclgkchiaijaaFrameLaw1
import Derived.Test.YtplclgkchiaijaaCrcLaw2
namespace Go.Proofs.Ytplclgkchiaijaa
open Go.RowKit
theorem frameSum_inj {k k' : BitVec 32} (p : List UInt8) (h : frameSum k p = frameSum k' p) : k = k' := mixB_left _ (mixB_right _ h)
theorem open_wrap (k k' : BitVec 32) (p : List UInt8) (hp : p.length ≤ 1400) : openF k' (num4 (frameSum k p) ++ p) = if k = k' then (p, 0) else ([], 5) := by
  have hl : (num4 (frameSum k p) ++ p).length = 4 + p.length := by simp [num4_length']
  unfold openF
  rw [if_neg (by omega), if_neg (by omega), List.take_left' (num4_length' _), List.drop_left' (num4_length' _)]
  by_cases h : k = k'
  · subst h; rw [if_pos rfl, if_pos rfl]
  · rw [if_neg h, if_neg (fun e => h (frameSum_inj p (num4_inj e)))]
set_option maxHeartbeats 1000000 in
theorem lawFrameBack (key other : BitVec 32) (p : List UInt8) (w : World) (A : Option Addr) (n c : Nat) (h : Reads w w.heap.size 1 A n (bytesV p)) (hn : n ≤ 9223372036854775807) :
    Calls Try.prog 12 #[u32V key, u32V other, .slice A n c] w fun e w' => e = .returned (.bool true) ∧ Below w.heap.size w w' := by
  have hl := bytes_len h
  by_cases h1 : n ≤ 1400
  · have ew : wrapF key p = (num4 (frameSum key p) ++ p, 0) := by unfold wrapF; rw [if_pos (by omega)]
    have e1 := open_wrap key key p (by omega)
    have e2 := open_wrap key other p (by omega)
    rw [if_pos rfl] at e1
    have EW := Lib.hid ew
    have E1 := Lib.hid e1
    have HL := Lib.hid hl
    clear ew e1 hl
    obtain ⟨r, hr, hcase⟩ : ∃ r, openF other (num4 (frameSum key p) ++ p) = r ∧ ((key = other ∧ r = (p, 0)) ∨ (key ≠ other ∧ r = ([], 5))) := by
      refine ⟨_, rfl, ?_⟩
      rw [e2]
      by_cases hk : key = other
      · exact .inl ⟨hk, if_pos hk⟩
      · exact .inr ⟨hk, if_neg hk⟩
    have E2 := Lib.hid hr
    clear hr e2
    have ht : (((r.2 : Int) == 0) == ((key.toNat : Int) == (other.toNat : Int))) = true := by
      rcases hcase with ⟨rfl, rfl⟩ | ⟨hk, rfl⟩
      · simp
      · rw [u32_ne hk]; rfl
    clear hcase
    unfold u32V
    go_enter Try.func12, Try.ntmps12
    go_wp2_with fail
    refine (frameAwake _).mono ?_
    rintro e w1 ⟨rfl, hb1⟩
    have s1 := hb1.size
    go_wp2_with fail
    refine (frame_wrap key p _ A n c ((h.below hb1).more s1) hn).mono ?_
    rintro e w2 ⟨v2, n2, rfl, ho2, hb2⟩
    rw [EW.out] at ho2 ⊢
    have b2 := hb1.trans (hb2.mono s1)
    have s2 := b2.size
    obtain ⟨A2, c2, rfl, r2⟩ := Reads.owned ho2
    have hn2 : n2 ≤ c2 := by
      rcases ho2.2 with ⟨h, _⟩ | ⟨g, cap, cur, h, _, _, hc, _⟩
      · simp at h; omega
      · simp at h; omega
    clear ho2
    have l2 := bytes_len r2
    have L2 : Hid (n2 = 4 + n) := by have := HL.out; simp [num4_length'] at l2; show _ = _; omega
    clear l2
    go_wp2_with fail
    refine (frame_open key _ _ A2 n2 c2 r2 (by have := L2.out; omega) hn2).mono ?_
    rintro e w3 ⟨v3, n3, rfl, ho3, hb3⟩
    rw [E1.out] at ho3 ⊢
    have b3 := b2.trans (hb3.mono s2)
    have s3 := b3.size
    obtain ⟨A3, c3, rfl, r3⟩ := Reads.owned ho3
    clear ho3
    go_wp2_with fail
    refine (frame_open other _ _ A2 n2 c2 ((r2.below hb3).more hb3.size) (by have := L2.out; omega) hn2).mono ?_
    rintro e w4 ⟨v4, n4, rfl, ho4, hb4⟩
    rw [E2.out]
    have b4 := b3.trans (hb4.mono s3)
    go_wp2_with fail
    refine (refSame p p _ _ _ A A3 n n3 c c3 (h.below b4) (r3.below hb4) hn (by rw [bytes_len r3]; have := HL.out; omega)).mono ?_
    rintro e w5 ⟨rfl, k5, rfl⟩
    rw [sameB_self]
    go_wp2
    go_ret
    exact ⟨rfl, below_drews b4 k5⟩
  · clear hl
    go_enter Try.func12, Try.ntmps12
    go_wp2_with fail
    refine (frameAwake _).mono ?_
    rintro e w1 ⟨rfl, hb1⟩
    go_wp2_with fail
    refine (frameAwake _).mono ?_
    rintro e w2 ⟨rfl, hb2⟩
    go_wp2
    go_ret
    exact ⟨rfl, hb1.trans (hb2.mono hb1.size)⟩
end Go.Proofs.Ytplclgkchiaijaa
