/- The walk of layer 5: the reference's sum of two numbers. -/
import Derived.Test.YtplclgkchiaijaaCrcWalks3
namespace Go.Proofs.Ytplclgkchiaijaa
open Go.RowKit
theorem oneCell_bytes (l : List UInt8) : ∀ u ∈ bytesV l, u.oneCell' = true := by
  intro u hu
  simp only [bytesV, List.mem_map] at hu
  obtain ⟨b, _, rfl⟩ := hu
  rfl
theorem bytesV_append (l m : List UInt8) : bytesV (l ++ m) = bytesV l ++ bytesV m := by simp [bytesV]
theorem take4 (a : BitVec 32) (k : Nat) (h : k < 4) : (num4 a).take (k + 1) = (num4 a).take k ++ [byteAt a k] := by
  match k, h with
  | 0, _ => rfl
  | 1, _ => rfl
  | 2, _ => rfl
  | 3, _ => rfl
set_option maxHeartbeats 1000000 in
theorem refMix (a b : BitVec 32) (w : World) : Calls Try.prog 30 #[u32V a, u32V b] w fun e w' => e = .returned (u32V (mixB a b)) ∧ Below w.heap.size w w' := by
  unfold u32V
  have ha := a.isLt
  have hb := b.isLt
  go_enter Try.func30, Try.ntmps30
  go_wp2
  go_loopw [0, 5, 6] (fun x v i wr => ∃ k : Nat, k ≤ 4 ∧ i = .int .i64 k ∧ x = .int .u32 ((a.toNat / 256 ^ k : Nat) : Int) ∧ wr.ownsRow w.heap.size 5 1 v k (bytesV ((num4 a).take k)) ∧ Below w.heap.size w wr) (fun _ _ i _ => 4 - (intOf i).toNat)
  case atStart => exact ⟨0, by omega, rfl, by simp, World.ownsRow_nil _ _ _ _, Below.refl _ _⟩
  case round =>
    obtain ⟨k, hk, rfl, rfl, hown, hbel⟩ := hrel
    have hz := hbel.size
    by_cases hlt : k < 4
    · have hq : (a.toNat / 256 ^ k : Nat) < 4294967296 := Nat.lt_of_le_of_lt (Nat.div_le_self _ _) ha
      obtain ⟨q, hqq⟩ : ∃ q, q = a.toNat / 256 ^ k := ⟨_, rfl⟩
      rw [← hqq] at hq ⊢
      have HQ := Lib.hid hqq
      clear hqq
      have hr : Reads (wr.alloc (.cells #[.int .u8 ((q : Int) % 256)] 5)) (wr.heap.size + 1) 1 (some ⟨wr.heap.size, 0, none⟩) 1 [byteV (byteAt a k)] := by
        rw [← byteV_at a k ((q : Int) % 256) (by rw [HQ.out]; omega)]
        exact Reads.new (size := 1) (n := 1) (Nat.lt_succ_self _) rfl
      go_wp2_with (at_builtin; refine wpList_app _ rfl _ _ 29 rfl elt29 _ _ _ _ rfl (hown.alloc _) (wr.heap.size + 1) (some ⟨wr.heap.size, 0, none⟩) 1 1 [byteV (byteAt a k)] rfl hr (oneCell_bytes [byteAt a k]) (by omega) (by simp; omega) ?_; intro v' w' ho hg hb')
      have hbel' := below_own (hbel.alloc hz _) (hown.alloc _) hg (by simp; omega) (Nat.le_refl _)
      go_roundw
      case rel => exact ⟨k + 1, by omega, by go_num, by rw [HQ.out, Nat.pow_succ, ← Nat.div_div_eq_div_mul]; go_num, by rw [take4 a k hlt, bytesV_append]; exact ho, hbel'⟩
      case measure => simp [intOf]; omega
    · have hown4 : wr.ownsRow w.heap.size 5 1 u5 4 (bytesV (num4 a)) := by
        obtain rfl : k = 4 := by omega
        exact hown
      clear hown
      have hown := hown4
      clear hown4
      generalize ((a.toNat / 256 ^ k : Nat) : Int) = x0
      go_wp2
      go_loopw [1, 5, 7] (fun x v i wr => ∃ k : Nat, k ≤ 4 ∧ i = .int .i64 k ∧ x = .int .u32 ((b.toNat / 256 ^ k : Nat) : Int) ∧ wr.ownsRow w.heap.size 5 1 v (4 + k) (bytesV (num4 a ++ (num4 b).take k)) ∧ Below w.heap.size w wr) (fun _ _ i _ => 4 - (intOf i).toNat)
      case atStart => exact ⟨0, by omega, rfl, by simp, by simpa using hown, hbel⟩
      case round =>
        clear hown hbel hz
        obtain ⟨k, hk, rfl, rfl, hown, hbel⟩ := hrel
        have hz := hbel.size
        by_cases hlt : k < 4
        · have hq : (b.toNat / 256 ^ k : Nat) < 4294967296 := Nat.lt_of_le_of_lt (Nat.div_le_self _ _) hb
          obtain ⟨q, hqq⟩ : ∃ q, q = b.toNat / 256 ^ k := ⟨_, rfl⟩
          rw [← hqq] at hq ⊢
          have HQ := Lib.hid hqq
          clear hqq
          have hr : Reads (wr.alloc (.cells #[.int .u8 ((q : Int) % 256)] 5)) (wr.heap.size + 1) 1 (some ⟨wr.heap.size, 0, none⟩) 1 [byteV (byteAt b k)] := by
            rw [← byteV_at b k ((q : Int) % 256) (by rw [HQ.out]; omega)]
            exact Reads.new (size := 1) (n := 1) (Nat.lt_succ_self _) rfl
          go_wp2_with (at_builtin; refine wpList_app _ rfl _ _ 29 rfl elt29 _ _ _ _ rfl (hown.alloc _) (wr.heap.size + 1) (some ⟨wr.heap.size, 0, none⟩) 1 1 [byteV (byteAt b k)] rfl hr (oneCell_bytes [byteAt b k]) (by omega) (by simp; omega) ?_; intro v' w' ho hg hb')
          have hbel' := below_own (hbel.alloc hz _) (hown.alloc _) hg (by simp; omega) (Nat.le_refl _)
          go_roundw
          case rel => exact ⟨k + 1, by omega, by go_num, by rw [HQ.out, Nat.pow_succ, ← Nat.div_div_eq_div_mul]; go_num, by rw [take4 b k hlt, ← List.append_assoc, bytesV_append _ [byteAt b k]]; exact ho, hbel'⟩
          case measure => simp [intOf]; omega
        · have hown4 : wr.ownsRow w.heap.size 5 1 u5 8 (bytesV (mixL a b)) := by
            obtain rfl : k = 4 := by omega
            exact hown
          clear hown
          have hown := hown4
          clear hown4
          obtain ⟨A, c, rfl, hr⟩ := Reads.owned hown
          go_wp2_with fail
          refine (refSum (mixL a b) _ _ A 8 c hr (by omega)).mono ?_
          rintro e w' ⟨rfl, rfl⟩
          go_wp2
          go_ret
          exact ⟨rfl, hbel⟩
end Go.Proofs.Ytplclgkchiaijaa
