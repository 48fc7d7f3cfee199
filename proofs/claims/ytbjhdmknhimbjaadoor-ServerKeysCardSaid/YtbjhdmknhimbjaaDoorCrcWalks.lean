/- The walks of layer 5. -/
import Derived.Test.YtbjhdmknhimbjaaDoorProg
import Derived.Test.YtbjhdmknhimbjaaDoorMem
import Derived.Test.YtbjhdmknhimbjaaDoorCrcPlain
import Derived.WalkKit
import Derived.WalkSpells
import Derived.WalkLawsBesides
import Derived.Laws.BitsAllLaws
import Derived.Lib.Hide
namespace Go.Proofs.YtbjhdmknhimbjaaDoor
open Go.RowKit

def u32V (x : BitVec 32) : Value := .int .u32 (x.toNat : Int)
def byteV (c : UInt8) : Value := .int .u8 (c.toNat : Int)
def bytesV (l : List UInt8) : List Value := l.map byteV
attribute [go_sem] u32V byteV

theorem bits_u32 (a b : BitVec 32) : bits .xor .u32 (a.toNat : Int) (b.toNat : Int) = ((a ^^^ b).toNat : Int) := by
  rw [u32_xor_nat _ _ a.isLt b.isLt, BitVec.toNat_xor]
theorem and_u32 (a b : BitVec 32) : bits .and .u32 (a.toNat : Int) (b.toNat : Int) = ((a &&& b).toNat : Int) := by
  rw [u32_and_nat _ _ a.isLt b.isLt, BitVec.toNat_and]
theorem wide_nat (c : UInt8) : ((c.toNat : Int) % 4294967296) = ((Crc.wide c).toNat : Int) := by
  have h : (Crc.wide c).toNat = c.toNat := by
    unfold Crc.wide
    rw [BitVec.toNat_setWidth]
    exact Nat.mod_eq_of_lt (Nat.lt_of_lt_of_le c.toBitVec.isLt (by decide))
  have := c.toNat_lt
  rw [h]; omega
theorem stp_walk (s : BitVec 32) : bits .xor .u32 ((s.toNat : Int) / 2) (bits .and .u32 3988292384 (- bits .and .u32 (s.toNat : Int) 1 % 4294967296)) = ((Crc.stp s).toNat : Int) := by
  have e1 : ((s.toNat : Int) / (2 : Int)) = ((s >>> 1).toNat : Int) := by
    rw [BitVec.toNat_ushiftRight, Nat.shiftRight_eq_div_pow]; omega
  have e2 : bits .and .u32 (s.toNat : Int) 1 = ((s.toNat % 2 : Nat) : Int) := by
    have := u32_and_nat s.toNat 1 s.isLt (by decide)
    rw [show ((1 : Nat) : Int) = 1 from rfl] at this
    rw [this, Nat.and_one_is_mod]
  have hb : s.getLsbD 0 = decide (s.toNat % 2 = 1) := by
    rw [BitVec.getLsbD, Nat.testBit_zero]
  rw [e1, e2]
  unfold Crc.stp
  rw [hb]
  rcases Nat.mod_two_eq_zero_or_one s.toNat with h | h
  · rw [h]
    have : bits .and .u32 3988292384 (-((0 : Nat) : Int) % 4294967296) = ((0#32).toNat : Int) := by decide
    rw [this, bits_u32]; rfl
  · rw [h]
    have : bits .and .u32 3988292384 (-((1 : Nat) : Int) % 4294967296) = ((3988292384#32).toNat : Int) := by decide
    rw [this, bits_u32]; rfl
theorem stpN_succ (j : Nat) (s : BitVec 32) : Crc.stpN (j + 1) s = Crc.stp (Crc.stpN j s) := by rw [Crc.stpN_add]; rfl
theorem run_snoc (l : List UInt8) (k : Nat) (b : UInt8) (h : l[k]? = some b) (s : BitVec 32) : Crc.run s (l.take (k + 1)) = Crc.stpN 8 (Crc.run s (l.take k) ^^^ Crc.wide b) := by
  rw [List.take_add_one, h, Crc.run_append]; rfl
theorem not_u32 (s : BitVec 32) : bits .xor .u32 IntKind.u32.max (s.toNat : Int) = ((~~~ s).toNat : Int) := by
  have e : IntKind.u32.max = ((4294967295#32 : BitVec 32).toNat : Int) := by decide
  rw [e, bits_u32]
  congr 2
theorem ret_u32 {a b : Int} (h : a = b) : Ending.returned (.int .u32 a) = .returned (.int .u32 b) := by rw [h]
theorem at_bytes {l : List UInt8} {k : Nat} {v : Value} (hx : (bytesV l)[k]? = some v) : ∃ b, l[k]? = some b ∧ v = byteV b := by
  simp only [bytesV, List.getElem?_map, Option.map_eq_some_iff] at hx
  obtain ⟨b, h1, h2⟩ := hx
  exact ⟨b, h1, h2.symm⟩

end Go.Proofs.YtbjhdmknhimbjaaDoor
