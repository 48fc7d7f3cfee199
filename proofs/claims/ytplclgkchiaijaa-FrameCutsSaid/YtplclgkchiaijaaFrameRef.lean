/- The walks of layer 7: the reference's, and what is asked first. -/
import Derived.Test.YtplclgkchiaijaaFrameOpen
import Derived.Test.YtplclgkchiaijaaCrcWalks3
namespace Go.Proofs.Ytplclgkchiaijaa
open Go.RowKit
theorem refMixLen (key : BitVec 32) (n : Nat) (hn : n ≤ 4294967295) (w : World) : Calls Try.prog 30 #[.int .u32 (key.toNat : Int), .int .u32 (n : Int)] w fun e w' => e = .returned (u32V (mixB key (BitVec.ofNat 32 n))) ∧ Below w.heap.size w w' := by
  have h := refMix key (BitVec.ofNat 32 n) w
  unfold u32V at h
  rw [BitVec.toNat_ofNat, Nat.mod_eq_of_lt (show n < 2 ^ 32 by omega)] at h
  exact h
set_option maxHeartbeats 1000000 in
theorem ref_wrap (key : BitVec 32) (l : List UInt8) (w : World) (A : Option Addr) (n c : Nat) (h : Reads w w.heap.size 1 A n (bytesV l)) (hn : n ≤ 9223372036854775807) :
    Calls Try.prog 33 #[u32V key, .slice A n c] w (RetOwn w (wrapF key l).1 (wrapF key l).2) := by
  have hl : l.length = n := by have := h.1; simpa [bytesV] using this
  by_cases hle : n ≤ 1400
  · have e : wrapF key l = (num4 (frameSum key l) ++ l, 0) := by unfold wrapF; rw [if_pos (by omega)]
    have d0 : decide ((1400 : Int) < (n : Int)) = false := decide_eq_false (by omega)
    have HL := Lib.hid hl
    rw [e]
    clear hl e
    unfold u32V
    go_enter Try.func33, Try.ntmps33
    go_wp2_with fail
    refine (refSum l _ _ A n c h hn).mono ?_
    rintro e w1 ⟨rfl, rfl⟩
    go_wp2_with fail
    refine (refMixLen key n (by omega) _).mono ?_
    rintro e w1 ⟨rfl, hb1⟩
    unfold u32V
    go_wp2_with fail
    refine (refMix (Crc.sum l) (mixB key (BitVec.ofNat 32 n)) _).mono ?_
    rintro e w2 ⟨rfl, hb2⟩
    have hs : mixB (Crc.sum l) (mixB key (BitVec.ofNat 32 n)) = frameSum key l := by unfold frameSum; rw [HL.out]
    rw [hs]
    clear hs
    have hb := hb1.trans (hb2.mono hb1.size)
    clear hb1 hb2
    have hs := (frameSum key l).isLt
    unfold u32V
    go_wp2
    have h2 := h.below hb
    go_loopw [6, 7, 8] (fun x v i wr => ∃ k : Nat, k ≤ 4 ∧ i = .int .i64 k ∧ x = .int .u32 (((frameSum key l).toNat / 256 ^ k : Nat) : Int) ∧ wr.ownsRow w2.heap.size 5 1 v k (bytesV ((num4 (frameSum key l)).take k)) ∧ Below w2.heap.size w2 wr) (fun _ _ i _ => 4 - (intOf i).toNat)
    case atStart => exact ⟨0, by omega, rfl, by simp, World.ownsRow_nil _ _ _ _, Below.refl _ _⟩
    case round =>
      obtain ⟨k, hk, rfl, rfl, hown, hbel⟩ := hrel
      have hz := hbel.size
      by_cases hlt : k < 4
      · have hq : ((frameSum key l).toNat / 256 ^ k : Nat) < 4294967296 := Nat.lt_of_le_of_lt (Nat.div_le_self _ _) hs
        obtain ⟨q, hqq⟩ : ∃ q, q = (frameSum key l).toNat / 256 ^ k := ⟨_, rfl⟩
        rw [← hqq] at hq ⊢
        have HQ := Lib.hid hqq
        clear hqq h2 h
        have hr : Reads (wr.alloc (.cells #[.int .u8 ((q : Int) % 256)] 5)) (wr.heap.size + 1) 1 (some ⟨wr.heap.size, 0, none⟩) 1 [byteV (byteAt (frameSum key l) k)] := by
          rw [← byteV_at (frameSum key l) k ((q : Int) % 256) (by rw [HQ.out]; omega)]
          exact Reads.new (size := 1) (n := 1) (Nat.lt_succ_self _) rfl
        go_wp2_with (at_builtin; refine wpList_app _ rfl _ _ 29 rfl elt29 _ _ _ _ rfl (hown.alloc _) (wr.heap.size + 1) (some ⟨wr.heap.size, 0, none⟩) 1 1 [byteV (byteAt (frameSum key l) k)] rfl hr (oneCell_bytes [byteAt (frameSum key l) k]) (by omega) (by simp; omega) ?_; intro v' w' ho hg hb')
        have hbel' := below_own (hbel.alloc hz _) (hown.alloc _) hg (by simp; omega) (Nat.le_refl _)
        go_roundw
        case rel => exact ⟨k + 1, by omega, by go_num, by rw [HQ.out, Nat.pow_succ, ← Nat.div_div_eq_div_mul]; go_num, by rw [take4 (frameSum key l) k hlt, bytesV_append]; exact ho, hbel'⟩
        case measure => simp [intOf]; omega
      · have hown4 : wr.ownsRow w2.heap.size 5 1 u7 4 (bytesV (num4 (frameSum key l))) := by
          obtain rfl : k = 4 := by omega
          exact hown
        clear hown
        generalize (((frameSum key l).toNat / 256 ^ k : Nat) : Int) = x0
        have h3 := h2.below (hbel.mono hb.size)
        have s2 := hb.size
        go_wp2_with (at_builtin; refine wpList_app _ rfl _ _ 29 rfl elt29 _ _ _ _ rfl hown4 w.heap.size A n c (bytesV l) rfl h3 (oneCell_bytes l) (by omega) (by omega) ?_; intro v' w3 ho hg hb')
        have hbel' := below_own hbel hown4 hg hz (Nat.le_refl _)
        go_ret2
        exact ⟨v', 4 + n, rfl, by rw [bytesV_append]; exact own_mono ho hb.size, hb.trans (hbel'.mono hb.size)⟩
  · have e : wrapF key l = ([], 3) := by unfold wrapF; rw [if_neg (by omega)]
    rw [e]
    clear e hl
    go_enter Try.func33, Try.ntmps33
    go_wp2
    go_ret2
    exact ⟨_, 0, rfl, World.ownsRow_nil _ _ _ _, Below.refl _ _⟩
end Go.Proofs.Ytplclgkchiaijaa
