/- The walks of layer 7. -/
import Derived.Test.YtbjhdmknhimbjaaGreatCrcWalks2
namespace Go.Proofs.YtbjhdmknhimbjaaGreat
open Go.RowKit

def frameSum (key : BitVec 32) (l : List UInt8) : BitVec 32 := mixB (Crc.sum l) (mixB key (BitVec.ofNat 32 l.length))
/-- A call that gives out a list of bytes of its own, and an error. -/
def RetOwn (w : World) (out : List UInt8) (err : Int) (e : Ending) (w' : World) : Prop :=
  ∃ v n, e = .returned (.tuple #[v, .int .i64 err]) ∧ w'.ownsRow w.heap.size 5 1 v n (bytesV out) ∧ Below w.heap.size w w'
theorem ofNat_u32 (n : Nat) : ((n : Int) % 4294967296) = ((BitVec.ofNat 32 n).toNat : Int) := by rw [BitVec.toNat_ofNat]; omega
set_option maxHeartbeats 400000 in
theorem frame_sum (key : BitVec 32) (l : List UInt8) (w : World) (A : Option Addr) (n c : Nat) (h : Reads w w.heap.size 1 A n (bytesV l)) (hn : n ≤ 9223372036854775807) :
    Calls Tryz.prog 93 #[u32V key, .slice A n c] w fun e w' => e = .returned (u32V (frameSum key l)) ∧ Below w.heap.size w w' := by
  have hl : l.length = n := by have := h.1; simpa [bytesV] using this
  have HL := Lib.hid hl
  clear hl
  unfold u32V
  go_enter Tryz.func93, Tryz.ntmps93
  go_wp2_with fail
  refine (crcSum l _ _ A n c h hn).mono ?_
  rintro e w2 ⟨rfl, rfl⟩
  go_wp2_with fail
  rw [ofNat_u32]
  refine (crcMix key (BitVec.ofNat 32 n) _).mono ?_
  rintro e w2 ⟨rfl, hb2⟩
  unfold u32V
  go_wp2_with fail
  refine (crcMix (Crc.sum l) (mixB key (BitVec.ofNat 32 n)) _).mono ?_
  rintro e w3 ⟨rfl, hb3⟩
  unfold u32V
  go_wp2
  go_ret
  refine ⟨ret_u32 ?_, hb2.trans (hb3.mono hb2.size)⟩
  unfold frameSum
  rw [HL.out]
theorem num4_cells (a : BitVec 32) : [Value.int .u8 (↑a.toNat % 256), .int .u8 (↑a.toNat / 256 % 256), .int .u8 (↑a.toNat / 65536 % 256), .int .u8 (↑a.toNat / 16777216)] = bytesV (num4 a) := by
  have ha := a.isLt
  rw [byteV_at a 0 (↑a.toNat % 256) (by omega), byteV_at a 1 (↑a.toNat / 256 % 256) (by omega), byteV_at a 2 (↑a.toNat / 65536 % 256) (by omega), byteV_at a 3 (↑a.toNat / 16777216) (by omega)]
  rfl
def wrapF (key : BitVec 32) (l : List UInt8) : List UInt8 × Int := if l.length ≤ 1400 then (num4 (frameSum key l) ++ l, 0) else ([], 3)
set_option maxHeartbeats 400000 in
theorem frame_wrap (key : BitVec 32) (l : List UInt8) (w : World) (A : Option Addr) (n c : Nat) (h : Reads w w.heap.size 1 A n (bytesV l)) (hn : n ≤ 9223372036854775807) :
    Calls Tryz.prog 47 #[u32V key, .slice A n c] w (RetOwn w (wrapF key l).1 (wrapF key l).2) := by
  have hl : l.length = n := by have := h.1; simpa [bytesV] using this
  by_cases hle : n ≤ 1400
  · have e : wrapF key l = (num4 (frameSum key l) ++ l, 0) := by unfold wrapF; rw [if_pos (by omega)]
    have HE := Lib.hid e
    have HL := Lib.hid hl
    rw [e]
    clear hl e
    unfold u32V
    go_enter Tryz.func47, Tryz.ntmps47
    go_wp2_with fail
    refine (frame_sum key l _ A n c h hn).mono ?_
    rintro e w1 ⟨rfl, hb1⟩
    have h1 := h.below hb1
    unfold u32V
    have hc := num4_cells (frameSum key l)
    have HC := Lib.hid hc
    clear hc
    have := (frameSum key l).isLt
    have ho : (w1.alloc (.cells #[.int .u8 (↑(frameSum key l).toNat % 256), .int .u8 (↑(frameSum key l).toNat / 256 % 256), .int .u8 (↑(frameSum key l).toNat / 65536 % 256), .int .u8 (↑(frameSum key l).toNat / 16777216)] 5)).ownsRow w.heap.size 5 1 (.slice (some ⟨w1.heap.size, 0, none⟩) 4 4) 4 (bytesV (num4 (frameSum key l))) := by
      rw [← HC.out]
      exact World.ownsRow_lit (e := 5) (size := 1) w1 #[.int .u8 (↑(frameSum key l).toNat % 256), .int .u8 (↑(frameSum key l).toNat / 256 % 256), .int .u8 (↑(frameSum key l).toNat / 65536 % 256), .int .u8 (↑(frameSum key l).toNat / 16777216)] 4 hb1.size (by unfold maxLen; omega) rfl
    have hr := h1.alloc hb1.size (.cells #[.int .u8 (↑(frameSum key l).toNat % 256), .int .u8 (↑(frameSum key l).toNat / 256 % 256), .int .u8 (↑(frameSum key l).toNat / 65536 % 256), .int .u8 (↑(frameSum key l).toNat / 16777216)] 5)
    go_wp2_with (at_builtin; refine wpList_app _ rfl _ _ 40 rfl elt29 _ _ _ _ rfl ho w.heap.size A n c (bytesV l) rfl hr (oneCell_bytes l) (by omega) (by have := hb1.size; simp; omega) ?_; intro v' w2 ho2 hg hb')
    have hbel := below_own (hb1.alloc hb1.size (.cells #[.int .u8 (↑(frameSum key l).toNat % 256), .int .u8 (↑(frameSum key l).toNat / 256 % 256), .int .u8 (↑(frameSum key l).toNat / 65536 % 256), .int .u8 (↑(frameSum key l).toNat / 16777216)] 5)) ho hg (by have := hb1.size; simp; omega) (Nat.le_refl _)
    go_ret2
    exact ⟨v', 4 + n, rfl, by rw [bytesV_append]; exact ho2, hbel⟩
  · have e : wrapF key l = ([], 3) := by unfold wrapF; rw [if_neg (by omega)]
    rw [e]
    clear e hl
    go_enter Tryz.func47, Tryz.ntmps47
    go_wp2
    go_ret2
    exact ⟨_, 0, rfl, World.ownsRow_nil _ _ _ _, Below.refl _ _⟩
end Go.Proofs.YtbjhdmknhimbjaaGreat
