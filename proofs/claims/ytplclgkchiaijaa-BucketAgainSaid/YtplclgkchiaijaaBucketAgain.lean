/- The walk of the law BucketAgain. -/
import Derived.Test.YtplclgkchiaijaaBucketNil
set_option linter.unusedSimpArgs false
set_option linter.unusedVariables false
namespace Go.Proofs.Ytplclgkchiaijaa
open Go.RowKit
/-- What an intake's last number is behind an offer. -/
theorem fold_all (s : Intk) (l : List Cmd) (cnt : Nat) (hlast : ∀ k x, l[k]? = some x → s.last.toNat + k < x.number.toNat) (hinc : ∀ k x y, l[k]? = some x → l[k + 1]? = some y → x.number.toNat < y.number.toNat) (hq : s.queue.length + l.length ≤ 32) :
    l.foldl offerStep (s, cnt) = (⟨(l.getLast?.map (·.number)).getD s.last, s.queue ++ l, s.tok⟩, cnt + l.length) := by
  induction l generalizing s cnt with
  | nil => cases s; simp
  | cons x l ih =>
    have h0 := hlast 0 x rfl
    have hst : offerStep (s, cnt) x = (⟨x.number, s.queue ++ [x], s.tok⟩, cnt + 1) := by
      simp only [List.length_cons] at hq
      unfold offerStep; rw [if_pos ⟨by simpa using h0, by show s.queue.length < 32; omega⟩]
    rw [List.foldl_cons, hst, ih ⟨x.number, s.queue ++ [x], s.tok⟩ (cnt + 1) ?_ (fun k a b ha hb => hinc (k + 1) a b ha hb) (by simp at hq ⊢; omega)]
    · cases l with
      | nil => simp
      | cons y l => simp [List.getLast?_cons]; omega
    · intro k y hk
      induction k generalizing y with
      | zero => have := hinc 0 x y rfl hk; simpa using this
      | succ k ihk =>
        obtain ⟨z, hz⟩ : ∃ z, l[k]? = some z := by
          have := (List.getElem?_eq_some_iff.1 hk).1
          exact ⟨_, List.getElem?_eq_getElem (by omega)⟩
        have h1 := ihk z hz
        have h2 := hinc (k + 1) z y hz hk
        show x.number.toNat + (k + 1) < y.number.toNat
        have h1' : x.number.toNat + k < z.number.toNat := h1
        omega
theorem row_facts {l : List Cmd} (h : rowB l = true) : (∀ (k : Nat) (x : Cmd), l[k]? = some x → formedB x = true) ∧ (∀ (k : Nat) (x y : Cmd), l[k]? = some x → l[k + 1]? = some y → y.number = x.number + 1) := by
  unfold rowB at h
  simp only [Bool.and_eq_true, List.all_eq_true, List.mem_range] at h
  have key : ∀ k, k < l.length → okAt l k = true := fun k hk => h.1.1 k hk
  refine ⟨fun k x hx => ?_, fun k x y hx hy => ?_⟩
  · have := key k (List.getElem?_eq_some_iff.1 hx).1
    unfold okAt at this; rw [hx] at this
    simp only [Bool.and_eq_true] at this
    exact this.1
  · have := key (k + 1) (List.getElem?_eq_some_iff.1 hy).1
    unfold okAt at this; rw [hy] at this
    simp only [Bool.and_eq_true, Nat.add_sub_cancel, hx] at this
    simpa using this.2
theorem formed_number {x : Cmd} (h : formedB x = true) : 1 ≤ x.number.toNat ∧ x.number.toNat ≤ 2147483648 := by
  unfold formedB at h
  have := of_decide_eq_true h
  exact ⟨this.1, this.2.1⟩
theorem row_inc {l : List Cmd} (h : rowB l = true) (k : Nat) (x y : Cmd) (hx : l[k]? = some x) (hy : l[k + 1]? = some y) : y.number.toNat = x.number.toNat + 1 := by
  rw [(row_facts h).2 k x y hx hy, BitVec.toNat_add]
  have := (formed_number ((row_facts h).1 k x hx)).2
  simp; omega
theorem row_from {l : List Cmd} (h : rowB l = true) (k : Nat) (x z : Cmd) (hx : l[k]? = some x) (hz : l[0]? = some z) : x.number.toNat = z.number.toNat + k := by
  induction k generalizing x with
  | zero => rw [hx] at hz; cases hz; rfl
  | succ k ih =>
    obtain ⟨y, hy⟩ : ∃ y, l[k]? = some y := ⟨_, List.getElem?_eq_getElem (by have := (List.getElem?_eq_some_iff.1 hx).1; omega)⟩
    rw [row_inc h k y x hy hx, ih y hy]; omega
theorem offer_new {l : List Cmd} (h : rowB l = true) : ∃ z, l.getLast? = some z ∧ offer ⟨0, [], 16⟩ l = (⟨z.number, l, 16⟩, l.length) := by
  have hl := rowB_length h
  obtain ⟨x0, hx0⟩ : ∃ x, l[0]? = some x := ⟨_, List.getElem?_eq_getElem (by omega)⟩
  obtain ⟨z, hz⟩ : ∃ z, l.getLast? = some z := by
    cases l with
    | nil => simp at hl
    | cons a l => exact ⟨_, List.getLast?_cons⟩
  refine ⟨z, hz, ?_⟩
  unfold offer
  rw [h, if_pos rfl, fold_all ⟨0, [], 16⟩ l 0 ?_ (fun k x y hx hy => by have := row_inc h k x y hx hy; omega) (by simp; omega)]
  · simp [hz]
  · intro k x hx
    have h1 := row_from h k x x0 hx hx0
    have h2 := (formed_number ((row_facts h).1 0 x0 hx0)).1
    show (0#32).toNat + k < _
    simp; omega
theorem fold_none (s : Intk) (l : List Cmd) (cnt : Nat) (h : ∀ x ∈ l, x.number.toNat ≤ s.last.toNat) : l.foldl offerStep (s, cnt) = (s, cnt) := by
  induction l generalizing cnt with
  | nil => rfl
  | cons x l ih =>
    have : offerStep (s, cnt) x = (s, cnt) := by
      unfold offerStep; rw [if_neg (by have := h x (by simp); show ¬ (s.last.toNat < _ ∧ _); omega)]
    rw [List.foldl_cons, this]
    exact ih cnt fun y hy => h y (by simp [hy])
theorem offer_again {l : List Cmd} (h : rowB l = true) {z : Cmd} (hz : l.getLast? = some z) (s : Intk) (hs : s.last = z.number) : offer s l = (s, 0) := by
  unfold offer
  rw [h, if_pos rfl, fold_none]
  intro x hx
  rw [hs]
  obtain ⟨k, hk, hkx⟩ := List.getElem_of_mem hx
  have hl := rowB_length h
  obtain ⟨x0, hx0⟩ : ∃ x, l[0]? = some x := ⟨_, List.getElem?_eq_getElem (by omega)⟩
  have h1 := row_from h k x x0 (by rw [List.getElem?_eq_getElem hk, hkx]) hx0
  rw [List.getLast?_eq_getElem?] at hz
  have h2 := row_from h _ z x0 hz hx0
  omega
theorem Reads.upto {w : World} {B B' size n : Nat} {A : Option Addr} {xs : List Value} (h : Reads w B size A n xs) (hB : B ≤ B') : Reads w B' size A n xs :=
  ⟨h.1, fun hn => by obtain ⟨a, h1, h2, h3⟩ := h.2 hn; exact ⟨a, h1, Nat.lt_of_lt_of_le h2 hB, h3⟩⟩
set_option maxHeartbeats 4000000 in
theorem walkBucketAgain (l : List Cmd) (w : World) (A : Option Addr) (n c : Nat) (x : UInt8) (hl : Reads w w.heap.size 6 A n (cmdsV l)) (hn : n ≤ 9223372036854775807) :
    Calls Try.prog 16 #[.slice A n c, .int .u8 (x.toNat : Int)] w fun e w' => e = .returned (.bool true) ∧ Below w.heap.size w w' := by
  have hll := hl.cmd_len
  have HL := Lib.hid hll
  clear hll
  have hx := x.toNat_lt
  cases hrow : rowB l with
  | false =>
    have hoff : ∀ s, offer s l = (s, 0) := fun s => by unfold offer; rw [hrow]; rfl
    have HO := Lib.hid hoff
    clear hoff
    go_enter Try.func16, Try.ntmps16
    go_wp2_with (first
      | (go_at_call 37; refine (newWalk w).mono ?_; rintro e w1 ⟨rfl, hb1, hh, hlt⟩
         have hO := offerWalk hh l A n c ((hl.below hb1).upto hb1.size) (fun h0 g hg => ⟨Nat.ne_of_lt (hl.blk_lt h0 hg), by simp [blkOf]⟩) hn (by simp)
         rw [HO.out] at hO)
      | (go_at_call 38; refine hO.mono ?_; rintro e w2 ⟨rfl, hc2, ⟨A2, c2, hh2, hb2⟩, -, -⟩
         have hT := takeWalk hh2 ((x.toNat % 20 : Nat) : Int) (by simp) (by simp) (by simp; try omega) (by omega))
      | (go_at_call 39; refine hT.mono ?_; rintro e w3 ⟨A3, c3, A4, c4, rfl, hr3, hf3, hc3, hh3, hb3⟩))
    have hs1 := hb1.size
    have hs2 := hc2.size
    have hs3 := hc3.size
    have hfw : Chg (fun g => w.heap.size ≤ g) w w3 := ((Chg.refl.below hb1 (Nat.le_refl _)).trans hc2 (fun g hg => .inr (hg.elim (fun e => Nat.le_of_eq e.symm) (fun e => by simp [blkOf] at e)))).trans hc3 (fun g hg => .inr (Nat.le_of_eq hg.symm))
    have hbw : Below w.heap.size w w3 := hfw.to_below (Nat.le_refl _) (fun g hg => hg)
    have HB := Lib.hid hbw
    have hA4 : 0 < n → ∀ g, blkOf A = some g → g ≠ w.heap.size ∧ blkOf A4 ≠ some g := fun h0 g hg => ⟨Nat.ne_of_lt (hl.blk_lt h0 hg), fun e => by
      rw [hb3] at e
      have h1 := hl.blk_lt h0 hg
      rcases hb2 g e with h2 | h2
      · simp [blkOf] at h2
      · omega⟩
    have h40 : ∀ y : Kin w3.heap.size w3, Calls Try.prog 40 #[] y.w fun e w' => e = .returned (.bool true) ∧ ∃ z : Kin w3.heap.size w3, w' = z.w := fun y => kin_of (Nat.le_refl _) (awake19 y.w)
    have h38 : ∀ y : Kin w3.heap.size w3, Calls Try.prog 38 #[.pointer (some ⟨w.heap.size, 0, none⟩), .slice A n c] y.w fun e w' => e = .returned (.int .i64 0) ∧ ∃ z : Kin w3.heap.size w3, w' = z.w := fun y => by
      refine kin_of (Nat.le_refl _) ?_
      have hO2 := offerWalk (hh3.below y.below) l A n c ((hl.below (HB.out.trans (y.below.mono (HB.out).size))).upto (Nat.le_trans HB.out.size y.below.size)) hA4 hn (by simp [takeS])
      rw [HO.out] at hO2
      exact hO2.mono fun e w' ⟨h1, h2, h3, h4, h5⟩ => ⟨h1, (h5 rfl).2⟩
    clear hfw hbw
    refine wp_region_kin w3.heap.size (by kernel_rfl) (by kernel_rfl) ?_
    repeat (first | go_big_quiet_step ((first | (go_at_call 40; exact h40 _) | (go_at_call 38; exact h38 _))) | quiet_step ((first | (go_at_call 40; exact h40 _) | (go_at_call 38; exact h38 _))))
    refine wpQuiet_nil ?_
    rintro _ ⟨⟨wk, hwk⟩, rfl⟩
    go_wp2
    go_ret
    exact ⟨rfl, HB.out.trans (hwk.mono HB.out.size)⟩
  | true =>
    obtain ⟨z, hz, hoff⟩ := offer_new hrow
    rw [HL.out] at hoff
    have HO := Lib.hid hoff
    have hag := offer_again hrow hz
    have HG := Lib.hid hag
    clear hoff hag
    have hlen := rowB_length hrow
    have hl8 := hlen.2
    rw [HL.out] at hlen
    obtain ⟨m, rfl⟩ : ∃ m, n = m + 1 := ⟨n - 1, by omega⟩
    obtain ⟨g0, off0, d, rfl, hg0, hd0, d0, -⟩ := hl.cmdAt (k := m) (by omega)
    have hdz : d = z := by
      rw [List.getLast?_eq_getElem?, HL.out] at hz
      simp at hz
      rw [hd0] at hz; cases hz; rfl
    subst hdz
    go_enter Try.func16, Try.ntmps16
    go_wp2_with (first
      | (go_at_call 37; refine (newWalk w).mono ?_; rintro e w1 ⟨rfl, hb1, hh, hlt⟩
         have hO := offerWalk hh l _ _ c ((hl.below hb1).upto hb1.size) (fun h0 g hg => ⟨Nat.ne_of_lt (hl.blk_lt h0 hg), by simp [blkOf]⟩) hn (by simp)
         rw [HO.out] at hO)
      | (go_at_call 38; refine hO.mono ?_; rintro e w2 ⟨rfl, hc2, ⟨A2, c2, hh2, hb2⟩, -, -⟩
         have hT := takeWalk hh2 ((x.toNat % 20 : Nat) : Int) (by simp) (by simp) (by simp; try omega) (by omega))
      | (go_at_call 39; refine hT.mono ?_; rintro e w3 ⟨A3, c3, A4, c4, rfl, hr3, hf3, hc3, hh3, hb3⟩))
    have hs1 := hb1.size
    have hs2 := hc2.size
    have hs3 := hc3.size
    have hfw : Chg (fun g => w.heap.size ≤ g) w w3 := ((Chg.refl.below hb1 (Nat.le_refl _)).trans hc2 (fun g hg => .inr (hg.elim (fun e => Nat.le_of_eq e.symm) (fun e => by simp [blkOf] at e)))).trans hc3 (fun g hg => .inr (Nat.le_of_eq hg.symm))
    have hbw : Below w.heap.size w w3 := hfw.to_below (Nat.le_refl _) (fun g hg => hg)
    have HB := Lib.hid hbw
    have hA4 : 0 < m + 1 → ∀ g, blkOf (some (⟨g0, off0, none⟩ : Addr)) = some g → g ≠ w.heap.size ∧ blkOf A4 ≠ some g := fun h0 g hg => ⟨Nat.ne_of_lt (hl.blk_lt h0 hg), fun e => by
      rw [hb3] at e
      have h1 := hl.blk_lt h0 hg
      rcases hb2 g e with h2 | h2
      · simp [blkOf] at h2
      · omega⟩
    have h40 : ∀ y : Kin w3.heap.size w3, Calls Try.prog 40 #[] y.w fun e w' => e = .returned (.bool true) ∧ ∃ z : Kin w3.heap.size w3, w' = z.w := fun y => kin_of (Nat.le_refl _) (awake19 y.w)
    have h38 : ∀ y : Kin w3.heap.size w3, Calls Try.prog 38 #[.pointer (some ⟨w.heap.size, 0, none⟩), .slice (some ⟨g0, off0, none⟩) (m + 1) c] y.w fun e w' => e = .returned (.int .i64 0) ∧ ∃ z : Kin w3.heap.size w3, w' = z.w := fun y => by
      refine kin_of (Nat.le_refl _) ?_
      have hO2 := offerWalk (hh3.below y.below) l _ _ c ((hl.below (HB.out.trans (y.below.mono (HB.out).size))).upto (Nat.le_trans HB.out.size y.below.size)) hA4 hn (by simp [takeS]; omega)
      rw [HG.out _ rfl] at hO2
      exact hO2.mono fun e w' ⟨h1, h2, h3, h4, h5⟩ => ⟨h1, (h5 rfl).2⟩
    clear hfw hbw
    have h41 : ∀ y : Kin w3.heap.size w3, Calls Try.prog 41 #[.pointer (some ⟨w.heap.size, 0, none⟩)] y.w fun e w' => e = .returned (.int .u32 (d.number.toNat : Int)) ∧ ∃ z : Kin w3.heap.size w3, w' = z.w := fun y => kin_left (lastWalk (hh3.below y.below))
    have k0 : ∀ y : Kin w3.heap.size w3, y.w.cell? ⟨g0, off0 + m * 6, none⟩ = some (.int .u32 (d.number.toNat : Int)) := fun y => (y.below.cell (show g0 < _ by have := HB.out.size; omega)).trans ((HB.out.cell hg0).trans d0)
    have hm0 : ((m : Int) + 1 == 0) = false := by rw [beq_eq_false_iff_ne]; omega
    have hm8 : m < 8 := by omega
    refine wp_region_kin w3.heap.size (by kernel_rfl) (by kernel_rfl) ?_
    repeat (first | go_big_quiet_step ((first | (go_at_call 40; exact h40 _) | (go_at_call 38; exact h38 _) | (go_at_call 41; exact h41 _))) | quiet_step ((first | (go_at_call 40; exact h40 _) | (go_at_call 38; exact h38 _) | (go_at_call 41; exact h41 _))))
    refine wpQuiet_nil ?_
    rintro _ ⟨⟨wk, hwk⟩, rfl⟩
    go_wp2
    go_ret
    exact ⟨ret_bool (decide_eq_true (by omega)), HB.out.trans (hwk.mono HB.out.size)⟩
end Go.Proofs.Ytplclgkchiaijaa
