/- The walks of layer 7: what the reference opens, and what is asked first. -/
import Derived.Test.YtplclgkchiaijaaFrameRef
namespace Go.Proofs.Ytplclgkchiaijaa
open Go.RowKit
/-- A call that gives out a list of bytes to be read, and an error. -/
def RetReads (w : World) (out : List UInt8) (err : Int) (e : Ending) (w' : World) : Prop :=
  ∃ A n c, e = .returned (.tuple #[.slice A n c, .int .i64 err]) ∧ Reads w' w'.heap.size 1 A n (bytesV out) ∧ Below w.heap.size w w' ∧ n ≤ 9223372036854775807
theorem RetOwn.reads {w w' : World} {out : List UInt8} {err : Int} {e : Ending} (h : RetOwn w out err e w') (hl : out.length ≤ 9223372036854775807) : RetReads w out err e w' := by
  obtain ⟨v, n, he, ho, hb⟩ := h
  obtain ⟨A, c, rfl, hr⟩ := Reads.owned ho
  have : out.length = n := by have := hr.1; simpa [bytesV] using this
  exact ⟨A, n, c, he, hr, hb, by omega⟩
theorem num4_length' (a : BitVec 32) : (num4 a).length = 4 := rfl
theorem openF_ref (key : BitVec 32) (l : List UInt8) : openF key l = if l.length < 4 then ([], 4) else if (wrapF key (l.drop 4)).2 = 3 then ([], 3) else if sameB l (wrapF key (l.drop 4)).1 then (l.drop 4, 0) else ([], 5) := by
  unfold openF
  by_cases h4 : l.length < 4
  · rw [if_pos h4, if_pos h4]
  rw [if_neg h4, if_neg h4]
  by_cases hle : 1404 < l.length
  · have hw : wrapF key (l.drop 4) = ([], 3) := by unfold wrapF; rw [if_neg (by simp; omega)]
    rw [hw, if_pos hle, if_pos rfl]
  have hw : wrapF key (l.drop 4) = (num4 (frameSum key (l.drop 4)) ++ l.drop 4, 0) := by unfold wrapF; rw [if_pos (by simp; omega)]
  have h03 : ¬ ((0 : Int) = 3) := by decide
  rw [hw, if_neg hle, if_neg (c := (num4 (frameSum key (List.drop 4 l)) ++ List.drop 4 l, (0 : Int)).2 = 3) h03]
  unfold sameB
  have : l = num4 (frameSum key (l.drop 4)) ++ l.drop 4 ↔ l.take 4 = num4 (frameSum key (l.drop 4)) := by
    constructor
    · intro h
      have h2 := congrArg (List.take 4) h
      rw [h2, List.take_left' (num4_length' _)]
    · intro h
      rw [← h, List.take_append_drop]
  by_cases h : l.take 4 = num4 (frameSum key (l.drop 4))
  · rw [if_pos h, if_pos (decide_eq_true (this.2 h))]
  · rw [if_neg h, if_neg (by simpa using fun h' => h (this.1 h'))]
set_option maxHeartbeats 1000000 in
theorem ref_open (key : BitVec 32) (l : List UInt8) (w : World) (A : Option Addr) (n c : Nat) (h : Reads w w.heap.size 1 A n (bytesV l)) (hn : n ≤ 9223372036854775807) (hnc : n ≤ c) :
    Calls Try.prog 35 #[u32V key, .slice A n c] w (RetReads w (openF key l).1 (openF key l).2) := by
  have hl : l.length = n := by have := h.1; simpa [bytesV] using this
  rw [openF_ref]
  by_cases h4 : n < 4
  · have d0 : decide ((n : Int) < 4) = true := decide_eq_true (by omega)
    rw [if_pos (by omega)]
    clear hl
    go_enter Try.func35, Try.ntmps35
    go_wp2
    go_ret2
    exact ⟨_, _, _, rfl, Reads.none_, Below.refl _ _, by omega⟩
  have d0 : decide ((n : Int) < 4) = false := decide_eq_false (by omega)
  have kc := run_cut elt29 A n c .i64 4 (by omega) 4 rfl
  have hm : Reads w w.heap.size 1 (cutA A c 4 1) (n - 4) (bytesV (l.drop 4)) := by
    have := h.tail (k := 4) (c := c) (by omega) hnc
    simpa [bytesV] using this
  rw [if_neg (by omega)]
  have HL := Lib.hid hl
  clear hl
  by_cases h3 : (wrapF key (l.drop 4)).2 = 3
  · rw [if_pos h3]
    have H3 := Lib.hid h3
    clear h3
    unfold u32V
    go_enter Try.func35, Try.ntmps35
    go_wp2_with fail
    refine (ref_wrap key (l.drop 4) _ _ (n - 4) (c - 4) hm (by omega)).mono ?_
    rintro e w1 ⟨v, n1, rfl, ho, hb1⟩
    rw [H3.out]
    go_wp2
    go_ret2
    exact ⟨_, _, _, rfl, Reads.none_, hb1, by omega⟩
  · rw [if_neg h3]
    have h0 : (wrapF key (l.drop 4)).2 = 0 := by
      unfold wrapF at h3 ⊢
      split
      · rfl
      · next h => rw [if_neg h] at h3; exact absurd rfl h3
    have H0 := Lib.hid h0
    have hlen : (wrapF key (l.drop 4)).1.length = n := by
      unfold wrapF at h3 ⊢
      have := HL.out
      split
      · simp [num4_length']; omega
      · next h => rw [if_neg h] at h3; exact absurd rfl h3
    have HN := Lib.hid hlen
    clear h3 h0 hlen
    by_cases hs : sameB l (wrapF key (l.drop 4)).1 = true
    · rw [if_pos hs]
      have HS := Lib.hid hs
      clear hs
      unfold u32V
      go_enter Try.func35, Try.ntmps35
      go_wp2_with fail
      refine (ref_wrap key (l.drop 4) _ _ (n - 4) (c - 4) hm (by omega)).mono ?_
      rintro e w1 ⟨v, n1, rfl, ho, hb1⟩
      rw [H0.out]
      obtain ⟨A1, c1, rfl, hr1⟩ := Reads.owned ho
      have hn1 : n1 = n := by have := hr1.1; simp [bytesV] at this; have h2 := HN.out; omega
      subst hn1
      go_wp2_with fail
      refine (refSame l _ _ _ _ A A1 n1 n1 c c1 (h.below hb1) hr1 hn hn).mono ?_
      rintro e w2 ⟨rfl, hd⟩
      rw [HS.out]
      go_wp2
      go_ret2
      obtain ⟨q, rfl⟩ := hd
      exact ⟨_, _, _, rfl, ((hm.below hb1).more hb1.size).drewN q, below_drews hb1 q, by omega⟩
    · rw [if_neg hs]
      have hs' : sameB l (wrapF key (l.drop 4)).1 = false := by simpa using hs
      have HS := Lib.hid hs'
      clear hs hs'
      unfold u32V
      go_enter Try.func35, Try.ntmps35
      go_wp2_with fail
      refine (ref_wrap key (l.drop 4) _ _ (n - 4) (c - 4) hm (by omega)).mono ?_
      rintro e w1 ⟨v, n1, rfl, ho, hb1⟩
      rw [H0.out]
      obtain ⟨A1, c1, rfl, hr1⟩ := Reads.owned ho
      have hn1 : n1 = n := by have := hr1.1; simp [bytesV] at this; have h2 := HN.out; omega
      subst hn1
      go_wp2_with fail
      refine (refSame l _ _ _ _ A A1 n1 n1 c c1 (h.below hb1) hr1 hn hn).mono ?_
      rintro e w2 ⟨rfl, hd⟩
      rw [HS.out]
      go_wp2
      go_ret2
      obtain ⟨q, rfl⟩ := hd
      exact ⟨_, _, _, rfl, Reads.none_, below_drews hb1 q, by omega⟩
set_option maxHeartbeats 400000 in
theorem frameAwake (w : World) : Calls Try.prog 31 #[] w fun e w' => e = .returned (.bool true) ∧ Below w.heap.size w w' := by
  have hw : wrapF 0#32 [] = (num4 (frameSum 0#32 []), 0) := by unfold wrapF; rw [if_pos (by decide)]; simp
  have HW := Lib.hid hw
  clear hw
  go_enter Try.func31, Try.ntmps31
  go_wp2_with fail
  refine (frame_wrap 0#32 [] _ none 0 0 Reads.none_ (by omega)).mono ?_
  rintro e w1 ⟨v, n1, rfl, ho, hb1⟩
  rw [HW.out]
  rw [HW.out] at ho
  obtain ⟨A1, c1, rfl, hr1⟩ := Reads.owned ho
  have hn1 : n1 = 4 := by have := hr1.1; simp [bytesV, num4] at this; omega
  subst hn1
  go_wp2
  go_ret
  exact ⟨rfl, hb1⟩
end Go.Proofs.Ytplclgkchiaijaa
