/- The walks of the document's layer 9: formed commands, rows. -/
import Derived.Test.YtplclgkchiaijaaCmdRow
set_option linter.unusedSimpArgs false
set_option linter.unusedVariables false
namespace Go.Proofs.Ytplclgkchiaijaa
open Go.RowKit
set_option maxHeartbeats 2000000 in
theorem refFormed (c : Cmd) (w : World) : Calls Try.prog 57 #[.agg (cmdV c).toArray] w fun e w' => e = .returned (.bool (formedB c)) ∧ Below w.heap.size w w' := by
  obtain ⟨number, mx, my, fire, view, frac⟩ := c
  unfold cmdV
  have h1 := Int8.le_toInt mx
  have h2 := Int8.le_toInt my
  cases fire
  all_goals
    go_enter Try.func57, Try.ntmps57
    go_wp2
    all_goals
      go_ret
      refine ⟨ret_bool ?_, (Below.refl _ _).alloc (Nat.le_refl _) _⟩
      rw [Bool.eq_iff_iff]
      simp [formedB]
      try first | omega | (intros; simp only [beq_iff_eq] at *; omega)
/-- The document's row. -/
def refAt (l : List Cmd) (i : Nat) : Bool :=
  match l[i]?, l[0]? with
  | some c, some d => formedB c && decide (c.number.toNat = d.number.toNat + i)
  | _, _ => false
def refRowB (l : List Cmd) : Bool := (List.range l.length).all (refAt l) && decide (1 ≤ l.length) && decide (l.length ≤ 8)
theorem refAt_eq {l : List Cmd} {i : Nat} {x d : Cmd} (hx : l[i]? = some x) (hd : l[0]? = some d) : refAt l i = (formedB x && decide (x.number.toNat = d.number.toNat + i)) := by
  unfold refAt; rw [hx, hd]
theorem refRowB_false {l : List Cmd} {k : Nat} (hk : k < l.length) (h : refAt l k = false) : refRowB l = false := by
  unfold refRowB; rw [range_all_false _ _ _ hk h]; rfl
set_option maxHeartbeats 4000000 in
theorem refRow (l : List Cmd) (w : World) (A : Option Addr) (n c : Nat) (h : Reads w w.heap.size 6 A n (cmdsV l)) (hn : n ≤ 9223372036854775807) :
    Calls Try.prog 52 #[.slice A n c] w fun e w' => e = .returned (.bool (refRowB l)) ∧ Below w.heap.size w w' := by
  have hl := h.cmd_len
  have HL := Lib.hid hl
  clear hl
  cases h0 : decide ((n : Int) == 0) with
  | true =>
    have h0' : n = 0 := by simpa using h0
    clear h0
    subst h0'
    go_enter Try.func52, Try.ntmps52
    go_wp2
    go_ret
    refine ⟨ret_bool ?_, Below.refl _ _⟩
    unfold refRowB; rw [HL.out]; rfl
  | false =>
    have h0' : ((n : Int) == 0) = false := by simpa using h0
    have hn1 : 1 ≤ n := by have : ¬ (n : Int) = 0 := by simpa using h0'
                           omega
    clear h0
    cases h8 : decide (8 < (n : Int)) with
    | true =>
      have h8' : 8 < n := by have := of_decide_eq_true h8; omega
      go_enter Try.func52, Try.ntmps52
      go_wp2
      go_ret
      refine ⟨ret_bool ?_, Below.refl _ _⟩
      unfold refRowB; rw [HL.out, decide_eq_false (p := n ≤ 8) (by omega)]; simp
    | false =>
      have h8' : n ≤ 8 := by have := of_decide_eq_false h8; omega
      go_enter Try.func52, Try.ntmps52
      go_wp2
      go_loopw [3] (fun i wr => ∃ k : Nat, k ≤ n ∧ i = .int .i64 k ∧ (List.range k).all (refAt l) = true ∧ Below w.heap.size w wr) (fun i _ => n - (intOf i).toNat)
      case atStart => exact ⟨0, Nat.zero_le _, rfl, rfl, Below.refl _ _⟩
      case round =>
        obtain ⟨k, hk, rfl, hall, hbel⟩ := hrel
        have HA := Lib.hid hall
        clear hall
        have hz := hbel.size
        by_cases hlt : k < n
        · obtain ⟨g, off, x, rfl, hg, hx, c0, c1, c2, c3, c4, c5⟩ := (h.below hbel).cmdAt hlt
          obtain ⟨g', off', d, he, hg', hd, d0, -⟩ := (h.below hbel).cmdAt (k := 0) hn1
          obtain ⟨rfl, rfl⟩ : g = g' ∧ off = off' := by simpa using he
          clear he
          simp only [Nat.zero_mul, Nat.add_zero] at d0
          have HX := Lib.hid hx
          have HD := Lib.hid hd
          clear hx hd
          have hcf := fun W => refFormed x W
          unfold cmdV at hcf
          have hB1 : ∀ w1, Below wr.heap.size wr w1 → Below w.heap.size w w1 := fun w1 hb => hbel.trans (hb.mono hz)
          have HB := Lib.hid hB1
          clear hB1
          cases hf : formedB x with
          | false =>
            simp only [hf] at hcf
            have HF := Lib.hid hf
            clear hf
            go_wp2
            refine wp_region_kin wr.heap.size (by kernel_rfl) (by kernel_rfl) ?_
            have k0 : ∀ y : Kin wr.heap.size wr, y.w.cell? ⟨g, off + k * 6, none⟩ = some (.int .u32 (x.number.toNat : Int)) := fun y => (y.below.cell (show g < _ by omega)).trans c0
            have k1 : ∀ y : Kin wr.heap.size wr, y.w.cell? ⟨g, off + k * 6 + 1, none⟩ = some (.int .i8 x.mx.toInt) := fun y => (y.below.cell (show g < _ by omega)).trans c1
            have k2 : ∀ y : Kin wr.heap.size wr, y.w.cell? ⟨g, off + k * 6 + 2, none⟩ = some (.int .i8 x.my.toInt) := fun y => (y.below.cell (show g < _ by omega)).trans c2
            have k3 : ∀ y : Kin wr.heap.size wr, y.w.cell? ⟨g, off + k * 6 + 3, none⟩ = some (.bool x.fire) := fun y => (y.below.cell (show g < _ by omega)).trans c3
            have k4 : ∀ y : Kin wr.heap.size wr, y.w.cell? ⟨g, off + k * 6 + 4, none⟩ = some (.int .u32 (x.view.toNat : Int)) := fun y => (y.below.cell (show g < _ by omega)).trans c4
            have k5 : ∀ y : Kin wr.heap.size wr, y.w.cell? ⟨g, off + k * 6 + 5, none⟩ = some (.int .u8 (x.frac.toNat : Int)) := fun y => (y.below.cell (show g < _ by omega)).trans c5
            have b0 : ∀ y : Kin wr.heap.size wr, y.w.cell? ⟨g, off, none⟩ = some (.int .u32 (d.number.toNat : Int)) := fun y => (y.below.cell (show g < _ by omega)).trans d0
            repeat (first | go_big_quiet_step ((go_at_call 57; exact kin_of (Nat.le_refl _) (hcf _))) | quiet_step ((go_at_call 57; exact kin_of (Nat.le_refl _) (hcf _))))
            refine wpQuiet_nil ?_
            rintro _ ⟨⟨wk, hwk⟩, rfl⟩
            go_wp2
            go_ret
            exact ⟨ret_bool (refRowB_false (by rw [HL.out]; exact hlt) (by rw [refAt_eq HX.out HD.out, HF.out]; rfl)).symm, HB.out _ hwk⟩
          | true =>
            simp only [hf] at hcf
            have HF := Lib.hid hf
            clear hf
            cases hq : ((x.number.toNat : Int) != (d.number.toNat : Int) + (k : Int)) with
            | false =>
              have hq' := hq
              have HQ := Lib.hid hq'
              clear hq hq'
              go_wp2
              refine wp_region_kin wr.heap.size (by kernel_rfl) (by kernel_rfl) ?_
              have k0 : ∀ y : Kin wr.heap.size wr, y.w.cell? ⟨g, off + k * 6, none⟩ = some (.int .u32 (x.number.toNat : Int)) := fun y => (y.below.cell (show g < _ by omega)).trans c0
              have k1 : ∀ y : Kin wr.heap.size wr, y.w.cell? ⟨g, off + k * 6 + 1, none⟩ = some (.int .i8 x.mx.toInt) := fun y => (y.below.cell (show g < _ by omega)).trans c1
              have k2 : ∀ y : Kin wr.heap.size wr, y.w.cell? ⟨g, off + k * 6 + 2, none⟩ = some (.int .i8 x.my.toInt) := fun y => (y.below.cell (show g < _ by omega)).trans c2
              have k3 : ∀ y : Kin wr.heap.size wr, y.w.cell? ⟨g, off + k * 6 + 3, none⟩ = some (.bool x.fire) := fun y => (y.below.cell (show g < _ by omega)).trans c3
              have k4 : ∀ y : Kin wr.heap.size wr, y.w.cell? ⟨g, off + k * 6 + 4, none⟩ = some (.int .u32 (x.view.toNat : Int)) := fun y => (y.below.cell (show g < _ by omega)).trans c4
              have k5 : ∀ y : Kin wr.heap.size wr, y.w.cell? ⟨g, off + k * 6 + 5, none⟩ = some (.int .u8 (x.frac.toNat : Int)) := fun y => (y.below.cell (show g < _ by omega)).trans c5
              have b0 : ∀ y : Kin wr.heap.size wr, y.w.cell? ⟨g, off, none⟩ = some (.int .u32 (d.number.toNat : Int)) := fun y => (y.below.cell (show g < _ by omega)).trans d0
              have hq := HQ.out
              repeat (first | go_big_quiet_step ((go_at_call 57; exact kin_of (Nat.le_refl _) (hcf _))) | quiet_step ((go_at_call 57; exact kin_of (Nat.le_refl _) (hcf _))))
              refine wpQuiet_nil ?_
              rintro _ ⟨⟨wk, hwk⟩, rfl⟩
              go_wp2
              refine ⟨⟨k + 1, hlt, by go_num, ?_, HB.out _ hwk⟩, ?_⟩
              · rw [range_all_succ, HA.out, refAt_eq HX.out HD.out, HF.out]
                have := bne_eq_false_iff_eq.1 HQ.out
                simp; omega
              · simp [intOf]; omega
            | true =>
              have hq' := hq
              have HQ := Lib.hid hq'
              clear hq hq'
              go_wp2
              refine wp_region_kin wr.heap.size (by kernel_rfl) (by kernel_rfl) ?_
              have k0 : ∀ y : Kin wr.heap.size wr, y.w.cell? ⟨g, off + k * 6, none⟩ = some (.int .u32 (x.number.toNat : Int)) := fun y => (y.below.cell (show g < _ by omega)).trans c0
              have k1 : ∀ y : Kin wr.heap.size wr, y.w.cell? ⟨g, off + k * 6 + 1, none⟩ = some (.int .i8 x.mx.toInt) := fun y => (y.below.cell (show g < _ by omega)).trans c1
              have k2 : ∀ y : Kin wr.heap.size wr, y.w.cell? ⟨g, off + k * 6 + 2, none⟩ = some (.int .i8 x.my.toInt) := fun y => (y.below.cell (show g < _ by omega)).trans c2
              have k3 : ∀ y : Kin wr.heap.size wr, y.w.cell? ⟨g, off + k * 6 + 3, none⟩ = some (.bool x.fire) := fun y => (y.below.cell (show g < _ by omega)).trans c3
              have k4 : ∀ y : Kin wr.heap.size wr, y.w.cell? ⟨g, off + k * 6 + 4, none⟩ = some (.int .u32 (x.view.toNat : Int)) := fun y => (y.below.cell (show g < _ by omega)).trans c4
              have k5 : ∀ y : Kin wr.heap.size wr, y.w.cell? ⟨g, off + k * 6 + 5, none⟩ = some (.int .u8 (x.frac.toNat : Int)) := fun y => (y.below.cell (show g < _ by omega)).trans c5
              have b0 : ∀ y : Kin wr.heap.size wr, y.w.cell? ⟨g, off, none⟩ = some (.int .u32 (d.number.toNat : Int)) := fun y => (y.below.cell (show g < _ by omega)).trans d0
              have hq := HQ.out
              repeat (first | go_big_quiet_step ((go_at_call 57; exact kin_of (Nat.le_refl _) (hcf _))) | quiet_step ((go_at_call 57; exact kin_of (Nat.le_refl _) (hcf _))))
              refine wpQuiet_nil ?_
              rintro _ ⟨⟨wk, hwk⟩, rfl⟩
              go_wp2
              go_ret
              refine ⟨ret_bool (refRowB_false (by rw [HL.out]; exact hlt) ?_).symm, HB.out _ hwk⟩
              rw [refAt_eq HX.out HD.out, HF.out]
              have := bne_iff_ne.1 HQ.out
              simp; omega
        · have hkn : k = n := by omega
          subst hkn
          go_wp2
          go_ret
          refine ⟨ret_bool ?_, hbel⟩
          unfold refRowB
          rw [HL.out, HA.out]
          simp; omega
/-- The document's row is the program's. -/
theorem refRowB_eq (l : List Cmd) : refRowB l = rowB l := by
  unfold refRowB rowB
  suffices h : (List.range l.length).all (refAt l) = (List.range l.length).all (okAt l) by rw [h]
  rw [Bool.eq_iff_iff, List.all_eq_true, List.all_eq_true]
  simp only [List.mem_range]
  have get : ∀ k, k < l.length → ∃ x, l[k]? = some x := fun k hk => ⟨_, List.getElem?_eq_getElem hk⟩
  constructor
  · intro h k hk
    obtain ⟨x, hx⟩ := get k hk
    obtain ⟨d, hd⟩ := get 0 (by omega)
    have h1 := h k hk
    rw [refAt_eq hx hd] at h1
    simp only [Bool.and_eq_true, decide_eq_true_eq] at h1
    rcases Nat.eq_zero_or_pos k with h0 | h0
    · subst h0; exact okAt_zero hx h1.1
    · obtain ⟨y, hy⟩ := get (k - 1) (by omega)
      have h2 := h (k - 1) (by omega)
      rw [refAt_eq hy hd] at h2
      simp only [Bool.and_eq_true, decide_eq_true_eq] at h2
      rw [okAt_one hx h1.1 h0 hy, decide_eq_true_eq]
      apply BitVec.eq_of_toNat_eq
      have := x.number.isLt
      rw [BitVec.toNat_add]
      simp; omega
  · intro h k hk
    obtain ⟨d, hd⟩ := get 0 (by omega)
    induction k with
    | zero =>
      have h1 := h 0 hk
      rw [refAt_eq hd hd]
      unfold okAt at h1; rw [hd] at h1
      simp only [Bool.and_eq_true] at h1
      simp [h1.1]
    | succ k ih =>
      obtain ⟨x, hx⟩ := get (k + 1) hk
      obtain ⟨y, hy⟩ := get k (by omega)
      have h1 := ih (by omega)
      rw [refAt_eq hy hd] at h1
      simp only [Bool.and_eq_true, decide_eq_true_eq] at h1
      have h2 := h (k + 1) hk
      have hfx : formedB x = true := by
        unfold okAt at h2; rw [hx] at h2
        simp only [Bool.and_eq_true] at h2
        exact h2.1
      rw [okAt_one hx hfx (by omega) (by simpa using hy), decide_eq_true_eq] at h2
      rw [refAt_eq hx hd, hfx, Bool.true_and, decide_eq_true_eq, h2, BitVec.toNat_add]
      have hy31 : y.number.toNat ≤ 2147483648 := by
        have := of_decide_eq_true h1.1
        exact this.2.1
      simp; omega
end Go.Proofs.Ytplclgkchiaijaa
