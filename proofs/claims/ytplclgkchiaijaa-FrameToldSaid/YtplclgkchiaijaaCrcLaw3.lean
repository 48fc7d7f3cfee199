/- The walk of the law CrcTells. -/
import Derived.Test.YtplclgkchiaijaaCrcLaw2
import Derived.Test.YtplclgkchiaijaaCrcPat
import Derived.Test.YtplclgkchiaijaaCrcEq
import Derived.BigRegion
import Derived.BigQuiet
import Derived.Deep.QuietTactic
namespace Go.Proofs.Ytplclgkchiaijaa
open Go.RowKit
theorem four_at (b0 b1 b2 b3 : UInt8) (j : Nat) (h : j < 4) : (#[byteV b0, byteV b1, byteV b2, byteV b3] : Array Value)[j]? = ([b0, b1, b2, b3][j]?).map byteV := by
  match j, h with
  | 0, _ => rfl
  | 1, _ => rfl
  | 2, _ => rfl
  | 3, _ => rfl
theorem xor_u8 (x y : UInt8) : Value.int .u8 (bits .xor .u8 (x.toNat : Int) (y.toNat : Int)) = byteV (x ^^^ y) := by
  unfold byteV
  rw [u8_xor_nat _ _ x.toNat_lt y.toNat_lt, UInt8.toNat_xor]
set_option maxHeartbeats 1000000 in
theorem lawCrcTells (l : List UInt8) (p : Int) (b0 b1 b2 b3 : UInt8) (w : World) (A : Option Addr) (n c : Nat) (h : Reads w w.heap.size 1 A n (bytesV l)) (hn : n ≤ 9223372036854775807) (hp0 : 0 ≤ p) (hp1 : p ≤ 65535) :
    Calls Try.prog 5 #[.slice A n c, .int .u16 p, .agg #[byteV b0, byteV b1, byteV b2, byteV b3]] w fun e w' => e = .returned (.bool true) ∧ Below w.heap.size w w' := by
  by_cases h4 : n < 4
  · unfold byteV
    go_enter Try.func5, Try.ntmps5
    go_wp2_with fail
    refine (crcAwake _).mono ?_
    rintro e w1 ⟨rfl, hb1⟩
    go_wp2_with fail
    refine (crcAwake _).mono ?_
    rintro e w2 ⟨rfl, hb2⟩
    go_wp2
    go_ret
    have s1 := hb1.size
    simp at s1
    exact ⟨rfl, ((Below.refl _ _).alloc (Nat.le_refl _) _).trans ((hb1.mono (by simp)).trans (hb2.mono (by omega)))⟩
  · by_cases hle : n ≤ 1000
    · unfold byteV
      go_enter Try.func5, Try.ntmps5
      go_wp2_with fail
      refine (crcAwake _).mono ?_
      rintro e w1 ⟨rfl, hb1⟩
      have hbox1 : w1.heap[w.heap.size]? = some (.cells #[byteV b0, byteV b1, byteV b2, byteV b3] 30) := (hb1.block w.heap.size (by simp)).trans (heap_alloc_new w _)
      have HBOX := Lib.hid hbox1
      clear hbox1
      have h1 := (h.alloc (Nat.le_refl _) (.cells #[byteV b0, byteV b1, byteV b2, byteV b3] 30)).below (hb1.mono (by simp))
      have s1 := hb1.size
      simp at s1
      go_wp2_with (at_builtin; refine wpList_app _ rfl _ _ 29 rfl elt29 _ _ _ _ rfl (World.ownsRow_nil w1 w1.heap.size 5 1) w.heap.size A n c (bytesV l) rfl h1 (oneCell_bytes l) (by omega) (Nat.le_refl _) ?_; intro v' w2 ho hg hb')
      obtain ⟨k, hk⟩ : ∃ k : Nat, p % ((n : Int) - 3) = (k : Int) := ⟨(p % ((n : Int) - 3)).toNat, by have := Int.emod_nonneg p (show (n : Int) - 3 ≠ 0 by omega); omega⟩
      have hk4 : k + 4 ≤ n := by have := Int.emod_lt_of_pos p (show 0 < (n : Int) - 3 by omega); omega
      rw [hk]
      clear hk
      obtain ⟨g, cap, rfl, hgB, hglt⟩ : ∃ g cap, v' = .slice (some ⟨g, 0, none⟩) n cap ∧ w1.heap.size ≤ g ∧ g < w2.heap.size := by
        have ho2 : w2.ownsRow w1.heap.size 5 1 v' n (bytesV l) := by simpa using ho
        obtain ⟨g, cap, hv, h1, h2⟩ := ho2.form (by omega)
        exact ⟨g, cap, hv, h1, h2⟩
      have ho2 : w2.ownsRow w1.heap.size 5 1 (.slice (some ⟨g, 0, none⟩) n cap) n (bytesV l) := by simpa using ho
      clear ho hb'
      have hbel2 : Below w1.heap.size w1 w2 := ⟨hg.os, hg.tape, hg.output, hg.size, fun i hi => hg.block i hi (by simp [Value.ownBlock, Act.eval])⟩
      clear hg
      go_loopw [9] (fun i wr => ∃ j : Nat, j ≤ 4 ∧ i = .int .i64 j ∧ wr.ownsRow w1.heap.size 5 1 (.slice (some ⟨g, 0, none⟩) n cap) n (bytesV (pat l k [b0, b1, b2, b3] j)) ∧ Below w1.heap.size w1 wr) (fun i _ => 4 - (intOf i).toNat)
      case atStart => exact ⟨0, by omega, rfl, by rw [pat_zero]; exact ho2, hbel2⟩
      case round =>
        clear ho2 hbel2
        obtain ⟨j, hj, rfl, hown, hbel⟩ := hrel
        by_cases hlt : j < 4
        · obtain ⟨x, hx⟩ : ∃ x, l[k + j]? = some x := ⟨_, List.getElem?_eq_getElem (by have := h.1; simp [bytesV] at this; omega)⟩
          obtain ⟨y, hy⟩ : ∃ y, [b0, b1, b2, b3][j]? = some y := ⟨_, List.getElem?_eq_getElem hlt⟩
          have hc1 : wr.cell? ⟨g, k + j, none⟩ = some (.int .u8 (x.toNat : Int)) := by
            rw [hown.cellAt (k + j) (by omega)]
            simp only [bytesV, List.getElem?_map]
            rw [pat_at, hx]; rfl
          have hf1 : wr.frozen? ⟨g, k + j, none⟩ = false := hown.frozenAt (k + j)
          have hc2 : wr.cell? ⟨w.heap.size, j, none⟩ = some (.int .u8 (y.toNat : Int)) := by
            have hb : wr.heap[w.heap.size]? = some (.cells #[byteV b0, byteV b1, byteV b2, byteV b3] 30) := (hbel.block w.heap.size (by omega)).trans HBOX.out
            rw [cell_of_row wr w.heap.size j _ _ _ hb]
            rw [four_at b0 b1 b2 b3 j hlt, hy]; rfl
          have HX := Lib.hid hx
          have HY := Lib.hid hy
          clear hx hy
          go_wp2
          go_region
          go_wp2
          have hs := hown.stored (k + j) (byteV (x ^^^ y))
          have hbel' := hbel.grown hs.2 hbel.size (fun q hq => by cases hq; exact hgB)
          go_roundw
          case rel =>
            refine ⟨j + 1, by omega, by go_num, ?_, ?_⟩
            · rw [xor_u8]
              have h2 := hs.1
              unfold bytesV at h2
              rw [← List.map_set, pat_succ l k _ j x y HX.out HY.out] at h2
              exact h2
            · rw [xor_u8]; exact below_drews hbel' 1
          case measure => simp [intOf]; omega
        · have hbox : wr.heap[w.heap.size]? = some (.cells #[byteV b0, byteV b1, byteV b2, byteV b3] 30) := (hbel.block w.heap.size (by omega)).trans HBOX.out
          have c0 : wr.cell? ⟨w.heap.size, 0, none⟩ = some (.int .u8 (b0.toNat : Int)) := cell_of_row wr _ 0 _ _ _ hbox
          have c1 : wr.cell? ⟨w.heap.size, 1, none⟩ = some (.int .u8 (b1.toNat : Int)) := cell_of_row wr _ 1 _ _ _ hbox
          have c2 : wr.cell? ⟨w.heap.size, 2, none⟩ = some (.int .u8 (b2.toNat : Int)) := cell_of_row wr _ 2 _ _ _ hbox
          have c3 : wr.cell? ⟨w.heap.size, 3, none⟩ = some (.int .u8 (b3.toNat : Int)) := cell_of_row wr _ 3 _ _ _ hbox
          clear hbox
          have q1 := fun q => crcSum (pat l k [b0, b1, b2, b3] 4) (wr.drewN q) _ _ n cap (Reads.drewN (Reads.of_own (show wr.ownsRow w1.heap.size 5 1 (.slice (some ⟨g, 0, none⟩) n cap) n (bytesV (pat l k [b0, b1, b2, b3] 4)) by rw [show 4 = j from by omega]; exact hown)) q) hn
          have q2 := fun q => crcSum l (wr.drewN q) _ _ n c (Reads.drewN ((h1.below (hbel.mono (by omega)))) q) hn
          have hq := hq4 b0 b1 b2 b3
          have hfin : (((Crc.sum (pat l k [b0, b1, b2, b3] 4)).toNat : Int) == ((Crc.sum l).toNat : Int)) = (decide (b0 = 0) && (decide (b1 = 0) && (decide (b2 = 0) && decide (b3 = 0)))) := by
            have hl : l.length = n := by have := h.1; simpa [bytesV] using this
            have hps := pat_sum l k b0 b1 b2 b3 (by omega)
            rw [Bool.eq_iff_iff]
            simp only [beq_iff_eq, Bool.and_eq_true, decide_eq_true_eq]
            rw [← hps]
            constructor
            · intro e; exact BitVec.eq_of_toNat_eq (by omega)
            · intro e; rw [e]
          have HF := Lib.hid hfin
          clear hfin
          go_wp2
          go_quiet ((go_at_call 24; first | (with_reducible exact quiet_left (q1 _)) | (with_reducible exact quiet_left (q2 _))))
          go_wp2
          go_ret
          have s2 := hbel.size
          refine ⟨ret_bool (by rw [HF.out]; simp), ?_⟩
          exact below_drews (((Below.refl _ _).alloc (Nat.le_refl _) _).trans ((hb1.mono (by simp)).trans (hbel.mono (by omega)))) nq
    · unfold byteV
      go_enter Try.func5, Try.ntmps5
      go_wp2_with fail
      refine (crcAwake _).mono ?_
      rintro e w1 ⟨rfl, hb1⟩
      go_wp2_with fail
      refine (crcAwake _).mono ?_
      rintro e w2 ⟨rfl, hb2⟩
      go_wp2
      go_ret
      have s1 := hb1.size
      simp at s1
      exact ⟨rfl, ((Below.refl _ _).alloc (Nat.le_refl _) _).trans ((hb1.mono (by simp)).trans (hb2.mono (by omega)))⟩
end Go.Proofs.Ytplclgkchiaijaa
