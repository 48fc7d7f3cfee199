/- The walks of layer 5. -/
import Derived.Test.YtbjhdmknhimbjaaGreatDoorProg
import Derived.Test.YtbjhdmknhimbjaaGreatDoorMem
import Derived.Test.YtbjhdmknhimbjaaGreatDoorCrcPlain
import Derived.WalkKit
import Derived.WalkSpells
import Derived.WalkLawsBesides
import Derived.Laws.BitsAllLaws
import Derived.Lib.Hide
namespace Go.Proofs.YtbjhdmknhimbjaaGreatDoor
open Go.RowKit

def u32V (x : BitVec 32) : Value := .int .u32 (x.toNat : Int)
def byteV (c : UInt8) : Value := .int .u8 (c.toNat : Int)
def bytesV (l : List UInt8) : List Value := l.map byteV
attribute [go_sem] u32V byteV

theorem bits_u32 (a b : BitVec 32) : bits .xor .u32 (a.toNat : Int) (b.toNat : Int) = ((a ^^^ b).toNat : Int) := by
  rw [u32_xor_nat _ _ a.isLt b.isLt, BitVec.toNat_xor]
theorem and_u32 (a b : BitVec 32) : bits .and .u32 (a.toNat : Int) (b.toNat : Int) = ((a &&& b).toNat : Int) := by
  rw [u32_and_nat _ _ a.isLt b.isLt, BitVec.toNat_and]
theorem wide_nat (c : UInt8) : ((c.toNat : Int) % 4294967296) = ((Crc.wide c).toNat : Int) := by
  have h : (Crc.wide c).toNat = c.toNat := by
    unfold Crc.wide
    rw [BitVec.toNat_setWidth]
    exact Nat.mod_eq_of_lt (Nat.lt_of_lt_of_le c.toBitVec.isLt (by decide))
  have := c.toNat_lt
  rw [h]; omega
theorem stp_walk (s : BitVec 32) : bits .xor .u32 ((s.toNat : Int) / 2) (bits .and .u32 3988292384 (- bits .and .u32 (s.toNat : Int) 1 % 4294967296)) = ((Crc.stp s).toNat : Int) := by
  have e1 : ((s.toNat : Int) / (2 : Int)) = ((s >>> 1).toNat : Int) := by
    rw [BitVec.toNat_ushiftRight, Nat.shiftRight_eq_div_pow]; omega
  have e2 : bits .and .u32 (s.toNat : Int) 1 = ((s.toNat % 2 : Nat) : Int) := by
    have := u32_and_nat s.toNat 1 s.isLt (by decide)
    rw [show ((1 : Nat) : Int) = 1 from rfl] at this
    rw [this, Nat.and_one_is_mod]
  have hb : s.getLsbD 0 = decide (s.toNat % 2 = 1) := by
    rw [BitVec.getLsbD, Nat.testBit_zero]
  rw [e1, e2]
  unfold Crc.stp
  rw [hb]
  rcases Nat.mod_two_eq_zero_or_one s.toNat with h | h
  · rw [h]
    have : bits .and .u32 3988292384 (-((0 : Nat) : Int) % 4294967296) = ((0#32).toNat : Int) := by decide
    rw [this, bits_u32]; rfl
  · rw [h]
    have : bits .and .u32 3988292384 (-((1 : Nat) : Int) % 4294967296) = ((3988292384#32).toNat : Int) := by decide
    rw [this, bits_u32]; rfl
theorem stpN_succ (j : Nat) (s : BitVec 32) : Crc.stpN (j + 1) s = Crc.stp (Crc.stpN j s) := by rw [Crc.stpN_add]; rfl
theorem run_snoc (l : List UInt8) (k : Nat) (b : UInt8) (h : l[k]? = some b) (s : BitVec 32) : Crc.run s (l.take (k + 1)) = Crc.stpN 8 (Crc.run s (l.take k) ^^^ Crc.wide b) := by
  rw [List.take_add_one, h, Crc.run_append]; rfl
theorem not_u32 (s : BitVec 32) : bits .xor .u32 IntKind.u32.max (s.toNat : Int) = ((~~~ s).toNat : Int) := by
  have e : IntKind.u32.max = ((4294967295#32 : BitVec 32).toNat : Int) := by decide
  rw [e, bits_u32]
  congr 2
theorem ret_u32 {a b : Int} (h : a = b) : Ending.returned (.int .u32 a) = .returned (.int .u32 b) := by rw [h]
theorem at_bytes {l : List UInt8} {k : Nat} {v : Value} (hx : (bytesV l)[k]? = some v) : ∃ b, l[k]? = some b ∧ v = byteV b := by
  simp only [bytesV, List.getElem?_map, Option.map_eq_some_iff] at hx
  obtain ⟨b, h1, h2⟩ := hx
  exact ⟨b, h1, h2.symm⟩

set_option maxHeartbeats 400000 in
theorem crcSum (l : List UInt8) (w : World) (B : Nat) (A : Option Addr) (n c : Nat) (h : Reads w B 1 A n (bytesV l)) (hn : n ≤ 9223372036854775807) :
    Calls Tryz.prog 184 #[.slice A n c] w fun e w' => e = .returned (u32V (Crc.sum l)) ∧ w = w' := by
  have hl : l.length = n := by have := h.1; simpa [bytesV] using this
  have HL := Lib.hid hl
  clear hl
  go_enter Tryz.func184, Tryz.ntmps184
  go_wp2
  go_loop [3, 5, 8] (fun s _ i => ∃ k : Nat, k ≤ n ∧ i = .int .i64 k ∧ s = .int .u32 ((Crc.run 4294967295#32 (l.take k)).toNat : Int)) (fun _ _ i => n - (intOf i).toNat)
  case atStart => exact ⟨0, Nat.zero_le _, rfl, rfl⟩
  case round =>
    obtain ⟨k, hk, rfl, rfl⟩ := hrel
    by_cases hlt : k < n
    · obtain ⟨ad, v, rfl, _, hx, hc⟩ := h.at_ hlt
      obtain ⟨b, hb, rfl⟩ := at_bytes hx
      have HB := Lib.hid hb
      clear hb hx h
      unfold byteV at hc
      go_wp2
      rw [wide_nat, bits_u32]
      go_loop [3, 16] (fun s j => ∃ m : Nat, m ≤ 8 ∧ j = .int .i64 m ∧ s = .int .u32 ((Crc.stpN m (Crc.run 4294967295#32 (l.take k) ^^^ Crc.wide b)).toNat : Int)) (fun _ j => 8 - (intOf j).toNat)
      case atStart => exact ⟨0, by omega, rfl, rfl⟩
      case round =>
        obtain ⟨m, hm, rfl, rfl⟩ := hrel
        by_cases hlm : m < 8
        · go_wp2
          rw [stp_walk]
          go_round
          case rel => exact ⟨m + 1, by omega, by go_num, by rw [stpN_succ]⟩
          case measure => simp [intOf]; omega
        · go_wp2
          go_round
          case rel => exact ⟨k + 1, by omega, by go_num, by rw [run_snoc l k b HB.out, show m = 8 from by omega]⟩
          case measure => simp [intOf]; omega
    · go_wp2
      rw [not_u32]
      go_ret
      exact ⟨ret_u32 (by rw [List.take_of_length_le (by rw [HL.out]; omega)]; rfl), rfl⟩
end Go.Proofs.YtbjhdmknhimbjaaGreatDoor
