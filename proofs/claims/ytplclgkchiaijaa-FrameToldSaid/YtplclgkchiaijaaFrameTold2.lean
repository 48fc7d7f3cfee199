/- The walk of the law FrameTold, its ways. -/
import Derived.Test.YtplclgkchiaijaaFrameTold
import Derived.Test.YtplclgkchiaijaaCrcPat
import Derived.Test.YtplclgkchiaijaaCrcLaw3
import Derived.BigRegion
namespace Go.Proofs.Ytplclgkchiaijaa
open Go.RowKit
theorem pat_at0 (l : List UInt8) (bs : List UInt8) (j : Nat) : (pat l 0 bs j)[j]? = l[j]? := by
  have := pat_at l 0 bs j
  rwa [Nat.zero_add] at this
theorem pat_succ0 (l : List UInt8) (bs : List UInt8) (j : Nat) (c b : UInt8) (hc : l[j]? = some c) (hb : bs[j]? = some b) : (pat l 0 bs j).set j (c ^^^ b) = pat l 0 bs (j + 1) := by
  have := pat_succ l 0 bs j c b (by rw [Nat.zero_add]; exact hc) hb
  rwa [Nat.zero_add] at this
set_option maxHeartbeats 2000000 in
theorem lawFrameToldNearB (key : BitVec 32) (p : List UInt8) (b0 b1 b2 b3 b4 b5 : UInt8) (w : World) (A : Option Addr) (n c : Nat) (h : Reads w w.heap.size 1 A n (bytesV p)) (hn : n ≤ 9223372036854775807)
    (h1 : n ≤ 1000) (hodd : b4.toNat % 2 ≠ 1) :
    Calls Try.prog 13 #[u32V key, .slice A n c, .agg #[byteV b0, byteV b1, byteV b2, byteV b3, byteV b4, byteV b5]] w fun e w' => e = .returned (.bool true) ∧ Below w.heap.size w w' := by
  have hl := bytes_len h
  have ew : wrapF key p = (num4 (frameSum key p) ++ p, 0) := by unfold wrapF; rw [if_pos (by omega)]
  have hb4 := b4.toNat_lt
  have t1 : ((b4.toNat : Int) % 2 == 1) = false := beq_eq_false_iff_ne.2 (by omega)
  have etold := told key p 0 b0 b1 b2 b3 (by omega) (.inl rfl)
  have d1 : decide ((1000 : Int) < (n : Int)) = false := decide_eq_false (by omega)
  have EW := Lib.hid ew
  have ET := Lib.hid etold
  have HL := Lib.hid hl
  clear ew hl etold
  unfold u32V byteV
  go_enter Try.func13, Try.ntmps13
  go_wp2_with fail
  refine (frameAwake _).mono ?_
  rintro e w1 ⟨rfl, hb1⟩
  have s1 := hb1.size
  simp at s1
  have HBOX : Hid (w1.heap[w.heap.size]? = some (.cells #[byteV b0, byteV b1, byteV b2, byteV b3, byteV b4, byteV b5] 47)) := (hb1.block w.heap.size (by simp)).trans (heap_alloc_new w _)
  have g1 := ((h.alloc (Nat.le_refl _) (.cells #[byteV b0, byteV b1, byteV b2, byteV b3, byteV b4, byteV b5] 47)).below (hb1.mono (by simp))).more (show w.heap.size ≤ w1.heap.size by omega)
  go_wp2_with fail
  refine (frame_wrap key p _ A n c g1 hn).mono ?_
  rintro e w2 ⟨v2, n2, rfl, ho2, hb2⟩
  rw [EW.out] at ho2 ⊢
  have s2 := hb2.size
  obtain ⟨g, cap, rfl, hgB, hncap⟩ : ∃ g cap, v2 = .slice (some ⟨g, 0, none⟩) n2 cap ∧ w1.heap.size ≤ g ∧ n2 ≤ cap := by
    rcases ho2.2 with ⟨hv, h0⟩ | ⟨g, cap, cur, hv, hg, _, hc, _⟩
    · have := ho2.1; simp [bytesV, num4_length'] at this; omega
    · exact ⟨g, cap, hv, hg, hc⟩
  have L2 : Hid (n2 = 4 + n) := by have := ho2.1; have := HL.out; simp [bytesV, num4_length'] at *; show _ = _; omega
  have hlen : Hid ((num4 (frameSum key p) ++ p).length = n2) := by have := ho2.1; show (num4 (frameSum key p) ++ p).length = n2; simpa [bytesV] using this
  have HBOX2 : Hid (w2.heap[w.heap.size]? = some (.cells #[byteV b0, byteV b1, byteV b2, byteV b3, byteV b4, byteV b5] 47)) := (hb2.block w.heap.size (by omega)).trans HBOX.out
  have c4 : w2.cell? ⟨w.heap.size, 4, none⟩ = some (.int .u8 (b4.toNat : Int)) := cell_of_row w2 _ 4 _ _ _ HBOX2.out
  have c5 : w2.cell? ⟨w.heap.size, 5, none⟩ = some (.int .u8 (b5.toNat : Int)) := cell_of_row w2 _ 5 _ _ _ HBOX2.out
  clear HBOX g1
  go_wp2
  clear c4 c5
  have hF4 : 0 + 4 ≤ 4 + n := by omega
  have hb2' : Hid (w2.heap[w.heap.size]? = w1.heap[w.heap.size]?) := hb2.block w.heap.size (by omega)
  go_loopw [11, 12] (fun v i wr => ∃ j : Nat, j ≤ 4 ∧ i = .int .i64 j ∧ v = .bool (chB [b0, b1, b2, b3] j) ∧ wr.ownsRow w1.heap.size 5 1 (.slice (some ⟨g, 0, none⟩) n2 cap) n2 (bytesV (pat (num4 (frameSum key p) ++ p) 0 [b0, b1, b2, b3] j)) ∧ Below w1.heap.size w1 wr) (fun _ i _ => 4 - (intOf i).toNat)
  case atStart => exact ⟨0, by omega, rfl, by rw [chB_zero], by rw [pat_zero]; exact ho2, hb2⟩
  case round =>
    clear ho2 hb2
    obtain ⟨j, hj, rfl, hch, hown, hbel⟩ := hrel
    by_cases hlt : j < 4
    · have hl2 := L2.out
      have hlen2 := hlen.out
      obtain ⟨x, hx⟩ : ∃ x, (num4 (frameSum key p) ++ p)[j]? = some x := ⟨_, List.getElem?_eq_getElem (by omega)⟩
      obtain ⟨y, hy⟩ : ∃ y, [b0, b1, b2, b3][j]? = some y := ⟨_, List.getElem?_eq_getElem hlt⟩
      have hFn : j < n2 := by omega
      have hc1 : wr.cell? ⟨g, j, none⟩ = some (.int .u8 (x.toNat : Int)) := by
        rw [hown.cellAt (j) (by omega)]
        simp only [bytesV, List.getElem?_map]
        rw [pat_at0, hx]; rfl
      have hf1 : wr.frozen? ⟨g, j, none⟩ = false := hown.frozenAt (j)
      have hc2 : wr.cell? ⟨w.heap.size, j, none⟩ = some (.int .u8 (y.toNat : Int)) := by
        have hb : wr.heap[w.heap.size]? = some (.cells #[byteV b0, byteV b1, byteV b2, byteV b3, byteV b4, byteV b5] 47) := by
          rw [hbel.block w.heap.size (by omega), ← HBOX2.out, ← hb2'.out]
        rw [cell_of_row wr w.heap.size j _ _ _ hb, six_at b0 b1 b2 b3 b4 b5 j hlt, hy]; rfl
      have hne : g ≠ w.heap.size := by omega
      have HX := Lib.hid hx
      have HY := Lib.hid hy
      clear hx hy hl2 hlen2
      have hs := hown.stored (j) (byteV (x ^^^ y))
      have hbel' := hbel.grown hs.2 hbel.size (fun q hq => by cases hq; exact hgB)
      have hown' : (wr.setCell ⟨g, j, none⟩ (byteV (x ^^^ y))).ownsRow w1.heap.size 5 1 (.slice (some ⟨g, 0, none⟩) n2 cap) n2 (bytesV (pat (num4 (frameSum key p) ++ p) 0 [b0, b1, b2, b3] (j + 1))) := by
        have h2 := hs.1
        unfold bytesV at h2
        rw [← List.map_set, pat_succ0 _ _ j x y HX.out HY.out] at h2
        exact h2
      have hch2 := chB_succ _ j y HY.out
      cases hcb : chB [b0, b1, b2, b3] j with
      | true =>
        rw [hcb] at hch hch2
        subst hch
        have HCH := Lib.hid hch2
        clear hcb hch2 hs
        go_wp2
        go_region
        go_wp2
        go_roundw
        case rel => exact ⟨j + 1, by omega, by go_num, by rw [HCH.out]; rfl, by rw [xor_u8]; exact hown', by rw [xor_u8]; exact below_drews hbel' 1⟩
        case measure => simp [intOf]; omega
      | false =>
        rw [hcb] at hch hch2
        subst hch
        have HCH := Lib.hid hch2
        clear hcb hch2 hs
        have hz : ((y.toNat : Int) != 0) = decide (y ≠ 0) := by
          rw [Bool.eq_iff_iff, bne_iff_ne, decide_eq_true_eq, ne_eq, ne_eq, not_congr]
          constructor
          · intro e; exact UInt8.toNat_inj.1 (by simpa using e)
          · rintro rfl; rfl
        have HZ := Lib.hid hz
        clear hz
        go_wp2
        go_region
        go_wp2
        go_roundw
        case rel => exact ⟨j + 1, by omega, by go_num, by rw [HCH.out, ← HZ.out]; rfl, by rw [xor_u8]; exact hown', by rw [xor_u8]; exact below_drews hbel' 1⟩
        case measure => simp [intOf]; omega
    · have hj4 : j = 4 := by omega
      have hch4 : chB [b0, b1, b2, b3] j = !decide (b0 = 0 ∧ b1 = 0 ∧ b2 = 0 ∧ b3 = 0) := by rw [hj4, chB_four]
      rw [hch4] at hch
      have ho4 : wr.ownsRow w1.heap.size 5 1 (.slice (some ⟨g, 0, none⟩) n2 cap) n2 (bytesV (pat (num4 (frameSum key p) ++ p) 0 [b0, b1, b2, b3] 4)) := by rw [show 4 = j from hj4.symm]; exact hown
      have r4 := Reads.of_own ho4
      clear hj4 hch4 hown ho4
      have sb := hbel.size
      have n2le : n2 ≤ 2000 := by have := L2.out; omega
      by_cases hZ : b0 = 0 ∧ b1 = 0 ∧ b2 = 0 ∧ b3 = 0
      · rw [decide_eq_true hZ] at hch
        subst hch
        have HZ := Lib.hid hZ
        clear hZ
        go_wp2_with fail
        refine (frame_open key _ _ _ n2 cap r4 (by omega) hncap).mono ?_
        rintro e w4 ⟨v4, n4, rfl, ho4, hb4⟩
        rw [ET.out, if_pos HZ.out]
        go_wp2
        go_ret
        exact ⟨rfl, ((Below.refl _ _).alloc (Nat.le_refl _) _).trans ((hb1.mono (by simp)).trans ((hbel.mono (by omega)).trans (hb4.mono (by omega))))⟩
      · rw [decide_eq_false hZ] at hch
        subst hch
        have HZ := Lib.hid hZ
        clear hZ
        go_wp2_with fail
        refine (frame_open key _ _ _ n2 cap r4 (by omega) hncap).mono ?_
        rintro e w4 ⟨v4, n4, rfl, ho4, hb4⟩
        rw [ET.out, if_neg HZ.out]
        go_wp2
        go_ret
        exact ⟨rfl, ((Below.refl _ _).alloc (Nat.le_refl _) _).trans ((hb1.mono (by simp)).trans ((hbel.mono (by omega)).trans (hb4.mono (by omega))))⟩
end Go.Proofs.Ytplclgkchiaijaa
