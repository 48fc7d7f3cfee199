/- The walks of layer 5: the sums of two numbers, the reference's, and what is asked first. -/
import Derived.Test.YtbjhdmknhimbjaaGreatCrcWalks
import Derived.RegionTactic
import Derived.ChangeAlike
import Derived.Lib.SlBytesConst
namespace Go.Proofs.YtbjhdmknhimbjaaGreat
open Go.RowKit

set_option maxRecDepth 100000 in
theorem elt29 : Elt Tryz.prog 40 5 1 1 := Elt.mk' Tryz.underlying40 (.int .u8 0) (by kernel_rfl) rfl (by decide) (by decide)
/-- Byte i of a number. -/
def byteOf (a : BitVec 32) (i : Nat) : UInt8 := UInt8.ofNat (a.toNat / 256 ^ i)
theorem byteOf_nat (a : BitVec 32) (i : Nat) : (byteOf a i).toNat = a.toNat / 256 ^ i % 256 := by
  unfold byteOf; simp [UInt8.toNat_ofNat']
def num4 (a : BitVec 32) : List UInt8 := [byteOf a 0, byteOf a 1, byteOf a 2, byteOf a 3]
def mixL (a b : BitVec 32) : List UInt8 := num4 a ++ num4 b
def mixB (a b : BitVec 32) : BitVec 32 := Crc.sum (mixL a b)
theorem byteV_at (a : BitVec 32) (i : Nat) (x : Int) (h : x = ((a.toNat / 256 ^ i % 256 : Nat) : Int)) : Value.int .u8 x = byteV (byteOf a i) := by
  unfold byteV; rw [byteOf_nat, h]
theorem mixL_cells (a b : BitVec 32) : [Value.int .u8 (↑a.toNat % 256), .int .u8 (↑a.toNat / 256 % 256), .int .u8 (↑a.toNat / 65536 % 256), .int .u8 (↑a.toNat / 16777216),
    .int .u8 (↑b.toNat % 256), .int .u8 (↑b.toNat / 256 % 256), .int .u8 (↑b.toNat / 65536 % 256), .int .u8 (↑b.toNat / 16777216)] = bytesV (mixL a b) := by
  have ha := a.isLt
  have hb := b.isLt
  rw [byteV_at a 0 (↑a.toNat % 256) (by omega), byteV_at a 1 (↑a.toNat / 256 % 256) (by omega), byteV_at a 2 (↑a.toNat / 65536 % 256) (by omega), byteV_at a 3 (↑a.toNat / 16777216) (by omega),
    byteV_at b 0 (↑b.toNat % 256) (by omega), byteV_at b 1 (↑b.toNat / 256 % 256) (by omega), byteV_at b 2 (↑b.toNat / 65536 % 256) (by omega), byteV_at b 3 (↑b.toNat / 16777216) (by omega)]
  rfl

set_option maxHeartbeats 1000000 in
theorem crcMix (a b : BitVec 32) (w : World) : Calls Tryz.prog 150 #[u32V a, u32V b] w fun e w' => e = .returned (u32V (mixB a b)) ∧ Below w.heap.size w w' := by
  unfold u32V
  have hcells := mixL_cells a b
  have HC := Lib.hid hcells
  clear hcells
  go_enter Tryz.func150, Tryz.ntmps150
  go_wp2
  refine wp_loop_rounds 5 ?_
  rw [rounds_succ]
  go_wp2
  go_region
  go_wp2
  rw [rounds_succ]
  go_wp2
  go_region
  go_wp2
  rw [rounds_succ]
  go_wp2
  go_region
  go_wp2
  rw [rounds_succ]
  go_wp2
  go_region
  go_wp2
  rw [rounds_succ]
  go_wp2_with fail
  refine (crcSum (mixL a b) _ (w.heap.size + 1) (some ⟨w.heap.size, 0, none⟩) 8 8 ?_ (by omega)).mono ?_
  · rw [← HC.out]
    exact Reads.new (size := 1) (n := 8) (by omega) rfl
  · rintro e w' ⟨rfl, rfl⟩
    go_wp2
    go_ret
    exact ⟨rfl, below_drews ((Below.refl _ _).alloc (Nat.le_refl _) _) 4⟩
theorem oneCell_bytes (l : List UInt8) : ∀ u ∈ bytesV l, u.oneCell' = true := by
  intro u hu
  simp only [bytesV, List.mem_map] at hu
  obtain ⟨b, _, rfl⟩ := hu
  rfl
theorem bytesV_append (l m : List UInt8) : bytesV (l ++ m) = bytesV l ++ bytesV m := by simp [bytesV]
end Go.Proofs.YtbjhdmknhimbjaaGreat
