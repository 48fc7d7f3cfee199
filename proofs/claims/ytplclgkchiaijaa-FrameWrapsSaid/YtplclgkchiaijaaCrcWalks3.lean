/- The walks of layer 5: the reference's sum, two lists that are the same, and what is asked first. -/
import Derived.Test.YtplclgkchiaijaaCrcWalks2
import Derived.BigQuiet
import Derived.Deep.QuietTactic
namespace Go.Proofs.Ytplclgkchiaijaa
open Go.RowKit

theorem half_u32 (s : BitVec 32) : ((s.toNat : Int) / (2 : Int)) = ((s >>> 1).toNat : Int) := by
  rw [BitVec.toNat_ushiftRight, Nat.shiftRight_eq_div_pow]; omega
theorem stp_odd (s : BitVec 32) (h : (s.toNat : Int) % 2 = 1) : bits .xor .u32 ((s.toNat : Int) / (2 : Int)) 3988292384 = ((Crc.stp s).toNat : Int) := by
  have e : (3988292384 : Int) = ((3988292384#32 : BitVec 32).toNat : Int) := rfl
  rw [half_u32, e, bits_u32]
  unfold Crc.stp
  rw [BitVec.getLsbD, Nat.testBit_zero, decide_eq_true (show s.toNat % 2 = 1 by omega)]; rfl
theorem stp_even (s : BitVec 32) (h : ¬ (s.toNat : Int) % 2 = 1) : ((s.toNat : Int) / (2 : Int)) = ((Crc.stp s).toNat : Int) := by
  rw [half_u32]
  unfold Crc.stp
  rw [BitVec.getLsbD, Nat.testBit_zero, decide_eq_false (show ¬ s.toNat % 2 = 1 by omega)]
  simp
theorem not_sub (s : BitVec 32) : (4294967295 : Int) - (s.toNat : Int) = ((~~~ s).toNat : Int) := by
  have := s.isLt
  rw [BitVec.toNat_not]; omega

set_option maxHeartbeats 400000 in
theorem refSum (l : List UInt8) (w : World) (B : Nat) (A : Option Addr) (n c : Nat) (h : Reads w B 1 A n (bytesV l)) (hn : n ≤ 9223372036854775807) :
    Calls Try.prog 28 #[.slice A n c] w fun e w' => e = .returned (u32V (Crc.sum l)) ∧ w = w' := by
  have hl : l.length = n := by have := h.1; simpa [bytesV] using this
  have HL := Lib.hid hl
  clear hl
  go_enter Try.func28, Try.ntmps28
  go_wp2
  go_loop [3, 4] (fun s i => ∃ k : Nat, k ≤ n ∧ i = .int .i64 k ∧ s = .int .u32 ((Crc.run 4294967295#32 (l.take k)).toNat : Int)) (fun _ i => n - (intOf i).toNat)
  case atStart => exact ⟨0, Nat.zero_le _, rfl, rfl⟩
  case round =>
    obtain ⟨k, hk, rfl, rfl⟩ := hrel
    by_cases hlt : k < n
    · obtain ⟨ad, v, rfl, _, hx, hc⟩ := h.at_ hlt
      obtain ⟨b, hb, rfl⟩ := at_bytes hx
      have HB := Lib.hid hb
      clear hb hx h
      unfold byteV at hc
      go_wp2
      rw [wide_nat, bits_u32]
      go_loop [3, 5] (fun s j => ∃ m : Nat, m ≤ 8 ∧ j = .int .i64 m ∧ s = .int .u32 ((Crc.stpN m (Crc.run 4294967295#32 (l.take k) ^^^ Crc.wide b)).toNat : Int)) (fun _ j => 8 - (intOf j).toNat)
      case atStart => exact ⟨0, by omega, rfl, rfl⟩
      case round =>
        obtain ⟨m, hm, rfl, rfl⟩ := hrel
        by_cases hlm : m < 8
        · obtain ⟨z, hz⟩ : ∃ z, z = Crc.stpN m (Crc.run 4294967295#32 (l.take k) ^^^ Crc.wide b) := ⟨_, rfl⟩
          rw [← hz]
          have HZ := Lib.hid hz
          clear hz
          have := z.isLt
          by_cases hodd : (z.toNat : Int) % 2 = 1
          · have ho : ((z.toNat : Int) % 2 == 1) = true := beq_iff_eq.2 hodd
            have HO := Lib.hid hodd
            clear hodd
            go_wp2
            rw [stp_odd z HO.out]
            go_round
            case rel => exact ⟨m + 1, by omega, by go_num, by rw [stpN_succ, HZ.out]⟩
            case measure => simp [intOf]; omega
          · have ho : ((z.toNat : Int) % 2 == 1) = false := beq_eq_false_iff_ne.2 hodd
            have HO := Lib.hid hodd
            clear hodd
            go_wp2
            rw [stp_even z HO.out]
            go_round
            case rel => exact ⟨m + 1, by omega, by go_num, by rw [stpN_succ, HZ.out]⟩
            case measure => simp [intOf]; omega
        · go_wp2
          go_round
          case rel => exact ⟨k + 1, by omega, by go_num, by rw [run_snoc l k b HB.out, show m = 8 from by omega]⟩
          case measure => simp [intOf]; omega
    · have := (Crc.run 4294967295#32 (l.take k)).isLt
      go_wp2
      rw [not_sub]
      go_ret
      exact ⟨ret_u32 (by rw [List.take_of_length_le (by rw [HL.out]; omega)]; rfl), rfl⟩

theorem nine_cells : [Value.int .u8 49, .int .u8 50, .int .u8 51, .int .u8 52, .int .u8 53, .int .u8 54, .int .u8 55, .int .u8 56, .int .u8 57] = bytesV [49, 50, 51, 52, 53, 54, 55, 56, 57] := rfl
theorem nine_sum : Crc.sum [49, 50, 51, 52, 53, 54, 55, 56, 57] = 3421780262#32 := by decide +kernel
set_option maxHeartbeats 400000 in
theorem crcAwake (w : World) : Calls Try.prog 23 #[] w fun e w' => e = .returned (.bool true) ∧ Below w.heap.size w w' := by
  have kc := fun (w : World) (C : Array Value) (n c : Nat) => Lib.run_convert_bytes_const (P := Try.prog) w 29 5 C n c Try.underlying29 Try.underlying5
  go_enter Try.func23, Try.ntmps23
  go_wp2_with fail
  refine (crcSum [49, 50, 51, 52, 53, 54, 55, 56, 57] _ (w.heap.size + 1) (some ⟨w.heap.size, 0, none⟩) 9 9 ?_ (by omega)).mono ?_
  · rw [← nine_cells]
    exact Reads.new (size := 1) (n := 9) (Nat.lt_succ_self _) rfl
  · rintro e w' ⟨rfl, rfl⟩
    rw [nine_sum]
    unfold u32V
    go_wp2
    go_ret
    exact ⟨rfl, (Below.refl _ _).alloc (Nat.le_refl _) _⟩

/-- Two lists of bytes are the same. -/
def sameB (a b : List UInt8) : Bool := decide (a = b)
set_option maxHeartbeats 400000 in
theorem refSame (l m : List UInt8) (w : World) (B B' : Nat) (A A' : Option Addr) (n n' c c' : Nat) (h : Reads w B 1 A n (bytesV l)) (h' : Reads w B' 1 A' n' (bytesV m)) (hn : n ≤ 9223372036854775807) (hn' : n' ≤ 9223372036854775807) :
    Calls Try.prog 36 #[.slice A n c, .slice A' n' c'] w fun e w' => e = .returned (.bool (sameB l m)) ∧ Dr w w' := by
  have hl : l.length = n := by have := h.1; simpa [bytesV] using this
  have hm : m.length = n' := by have := h'.1; simpa [bytesV] using this
  have HL := Lib.hid hl
  have HM := Lib.hid hm
  clear hl hm
  by_cases hne : n = n'
  · subst hne
    have hb : ((n : Int) != (n : Int)) = false := by simp
    go_enter Try.func36, Try.ntmps36
    go_wp2
    go_loopw [5] (fun i wr => ∃ k : Nat, k ≤ n ∧ i = .int .i64 k ∧ l.take k = m.take k ∧ Dr w wr) (fun i _ => n - (intOf i).toNat)
    case atStart => exact ⟨0, Nat.zero_le _, rfl, rfl, Dr.refl _⟩
    case round =>
      obtain ⟨k, hk, rfl, heq, q, rfl⟩ := hrel
      have HE := Lib.hid heq
      clear heq
      by_cases hlt : k < n
      · obtain ⟨ad, v, rfl, _, hx, hc⟩ := h.at_ hlt
        obtain ⟨b, hb, rfl⟩ := at_bytes hx
        obtain ⟨ad', v', rfl, _, hx', hc'⟩ := h'.at_ hlt
        obtain ⟨b', hb', rfl⟩ := at_bytes hx'
        have HB := Lib.hid hb
        have HB' := Lib.hid hb'
        clear hb hx h hb' hx' h'
        unfold byteV at hc hc'
        by_cases hbb : b = b'
        · have ht : ((b.toNat : Int) != (b'.toNat : Int)) = false := by subst hbb; simp
          have HBB := Lib.hid hbb
          clear hbb
          go_wp2
          go_quiet (fail)
          go_wp2
          go_roundw
          case rel => exact ⟨k + 1, by omega, by go_num, by rw [List.take_add_one, List.take_add_one, HB.out, HB'.out, HE.out, HBB.out], by repeat (first | exact Dr.refl _ | apply Dr.drewN | apply Dr.drew)⟩
          case measure => simp [intOf]; omega
        · have ht : ((b.toNat : Int) != (b'.toNat : Int)) = true := by
            rw [bne_iff_ne]; intro e; exact hbb (UInt8.toNat_inj.1 (by omega))
          have HBB := Lib.hid hbb
          clear hbb
          go_wp2
          go_quiet (fail)
          go_wp2
          go_ret
          have : sameB l m = false := decide_eq_false (fun e => HBB.out (by have h1 := HB.out; have h2 := HB'.out; rw [e, h2] at h1; injection h1 with h1; exact h1.symm))
          exact ⟨ret_bool this.symm, by repeat (first | exact Dr.refl _ | apply Dr.drewN | apply Dr.drew)⟩
      · go_wp2
        go_ret
        have : sameB l m = true := decide_eq_true (by
          have h1 := HE.out
          rwa [List.take_of_length_le (by rw [HL.out]; omega), List.take_of_length_le (by rw [HM.out]; omega)] at h1)
        exact ⟨ret_bool this.symm, by repeat (first | exact Dr.refl _ | apply Dr.drewN | apply Dr.drew)⟩
  · have hb : ((n : Int) != (n' : Int)) = true := by rw [bne_iff_ne]; omega
    have HN := Lib.hid hne
    clear hne
    go_enter Try.func36, Try.ntmps36
    go_wp2
    go_ret
    have : sameB l m = false := decide_eq_false (fun e => HN.out (by rw [← HL.out, ← HM.out, e]))
    exact ⟨ret_bool this.symm, by repeat (first | exact Dr.refl _ | apply Dr.drewN | apply Dr.drew)⟩
end Go.Proofs.Ytplclgkchiaijaa
