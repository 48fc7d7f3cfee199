/- Rows of commands, told and formed (layer 9). -/
import Derived.Test.YtojbijapdkohlaaGreatDoorQ04SrvTell
import Derived.Test.YtojbijapdkohlaaGreatDoorQ01Steps
set_option linter.unusedSimpArgs false
set_option linter.unusedVariables false
namespace Go.Proofs.YtojbijapdkohlaaGreatDoor
open Go.RowKit
theorem cmdsV_length (l : List CmdV) : (cmdsV l).length = l.length * 6 := by
  induction l with
  | nil => rfl
  | cons c l ih => simp only [cmdsV, List.flatMap_cons, List.length_append, List.length_cons] at ih ⊢; rw [ih]; simp [cmdCells]; omega
theorem cmdsV_at (l : List CmdV) (k j : Nat) (c : CmdV) (h : l[k]? = some c) (hj : j < 6) : (cmdsV l)[k * 6 + j]? = (cmdCells c)[j]? := by
  induction l generalizing k with
  | nil => simp at h
  | cons d l ih =>
    simp only [cmdsV, List.flatMap_cons]
    match k with
    | 0 =>
      simp at h; subst h
      rw [Nat.zero_mul, Nat.zero_add, List.getElem?_append_left (by simpa [cmdCells] using hj)]
    | k + 1 =>
      rw [List.getElem?_append_right (by simp [cmdCells]; omega)]
      have := ih k (by simpa using h)
      rw [← this]
      congr 1
      simp [cmdCells]; omega
theorem Reads.cmd_len {w : World} {B n : Nat} {A : Option Addr} {l : List CmdV} (h : Reads w B 6 A n (cmdsV l)) : l.length = n := by
  have := h.1; rw [cmdsV_length] at this; omega
theorem Reads.cmdAt {w : World} {B n : Nat} {A : Option Addr} {l : List CmdV} (h : Reads w B 6 A n (cmdsV l)) {k : Nat} (hk : k < n) :
    ∃ g off c, A = some ⟨g, off, none⟩ ∧ g < B ∧ l[k]? = some c ∧ w.cell? ⟨g, off + k * 6, none⟩ = some (.int .u32 c.num) ∧ w.cell? ⟨g, off + k * 6 + 1, none⟩ = some (.int .i8 c.mx) ∧
      w.cell? ⟨g, off + k * 6 + 2, none⟩ = some (.int .i8 c.my) ∧ w.cell? ⟨g, off + k * 6 + 3, none⟩ = some (.bool c.fire) ∧ w.cell? ⟨g, off + k * 6 + 4, none⟩ = some (.int .u32 c.view) ∧ w.cell? ⟨g, off + k * 6 + 5, none⟩ = some (.int .u8 c.frac) := by
  have hl := h.cmd_len
  obtain ⟨c, hc⟩ : ∃ c, l[k]? = some c := ⟨_, List.getElem?_eq_getElem (by omega)⟩
  obtain ⟨⟨g, off, sp⟩, rfl, hb, hcell⟩ := h.2 (by omega)
  have hsp : sp = none := by
    have h0 := hcell 0 _ (List.getElem?_eq_getElem (by rw [cmdsV_length]; omega))
    simpa [Addr.add] using World.cell?_spot h0
  subst hsp
  simp only [add_none] at hcell
  have g0 : ∀ j v, (cmdCells c)[j]? = some v → w.cell? ⟨g, off + k * 6 + j, none⟩ = some v := fun j v hv => by
    have hj : j < 6 := by have := (List.getElem?_eq_some_iff.1 hv).1; simpa [cmdCells] using this
    have := hcell (k * 6 + j) v (by rw [cmdsV_at l k j c hc hj, hv])
    rwa [← Nat.add_assoc] at this
  exact ⟨g, off, c, rfl, hb, hc, g0 0 _ rfl, g0 1 _ rfl, g0 2 _ rfl, g0 3 _ rfl, g0 4 _ rfl, g0 5 _ rfl⟩
def okAt (l : List CmdV) (i : Nat) : Bool :=
  match l[i]? with
  | none => false
  | some c => cmdOk c && (i == 0 || match l[i - 1]? with | some d => decide (c.num = (d.num + 1) % 4294967296) | none => false)
def rowB (l : List CmdV) : Bool := (List.range l.length).all (okAt l) && decide (1 ≤ l.length) && decide (l.length ≤ 8)
theorem range_all_succ (f : Nat → Bool) (k : Nat) : (List.range (k + 1)).all f = ((List.range k).all f && f k) := by
  rw [List.range_succ, List.all_append]; simp
theorem range_all_false (f : Nat → Bool) (n k : Nat) (hk : k < n) (h : f k = false) : (List.range n).all f = false := by
  rw [List.all_eq_false]
  exact ⟨k, by simpa using hk, by simp [h]⟩
theorem okAt_one {l : List CmdV} {i : Nat} {x d : CmdV} (hx : l[i]? = some x) (hf : cmdOk x = true) (h0 : 0 < i) (hd : l[i - 1]? = some d) : okAt l i = decide (x.num = (d.num + 1) % 4294967296) := by
  unfold okAt; rw [hx, hd]; simp [hf, Nat.ne_of_gt h0]
theorem okAt_zero {l : List CmdV} {x : CmdV} (hx : l[0]? = some x) (hf : cmdOk x = true) : okAt l 0 = true := by
  unfold okAt; rw [hx]; simp [hf]
theorem okAt_unformed {l : List CmdV} {i : Nat} {x : CmdV} (hx : l[i]? = some x) (hf : cmdOk x = false) : okAt l i = false := by
  unfold okAt; rw [hx]; simp [hf]
theorem rowB_false {l : List CmdV} {k : Nat} (hk : k < l.length) (h : okAt l k = false) : rowB l = false := by
  unfold rowB; rw [range_all_false _ _ _ hk h]; rfl
set_option maxHeartbeats 2000000 in
theorem cmdRow (l : List CmdV) (w : World) (A : Option Addr) (n c : Nat) (h : Reads w w.heap.size 6 A n (cmdsV l)) (hn : n ≤ 9223372036854775807) :
    Calls Tryz.prog 176 #[.slice A n c] w fun e w' => e = .returned (.bool (rowB l)) ∧ Below w.heap.size w w' := by
  have hl := h.cmd_len
  have HL := Lib.hid hl
  clear hl
  go_enter Tryz.func176, Tryz.ntmps176
  go_wp2
  go_loopw [7] (fun i wr => ∃ k : Nat, k ≤ n ∧ i = .int .i64 k ∧ (List.range k).all (okAt l) = true ∧ Below w.heap.size w wr) (fun i _ => n - (intOf i).toNat)
  case atStart => exact ⟨0, Nat.zero_le _, rfl, rfl, Below.refl _ _⟩
  case round =>
    obtain ⟨k, hk, rfl, hall, hbel⟩ := hrel
    have HA := Lib.hid hall
    clear hall
    have hz := hbel.size
    by_cases hlt : k < n
    · obtain ⟨g, off, x, rfl, hg, hx, c0, c1, c2, c3, c4, c5⟩ := (h.below hbel).cmdAt hlt
      have HX := Lib.hid hx
      clear hx
      have hcf := fun W => cmdFormed x W
      have hB1 : ∀ w1, Below (wr.heap.size + 1) (wr.alloc (.cells #[.int .u32 x.num, .int .i8 x.mx, .int .i8 x.my, .bool x.fire, .int .u32 x.view, .int .u8 x.frac] 121)) w1 → Below w.heap.size w w1 := fun w1 hb => (hbel.alloc hz _).trans (hb.mono (by omega))
      have HB := Lib.hid hB1
      clear hB1
      cases hf : cmdOk x with
      | false =>
        simp only [hf] at hcf
        have HF := Lib.hid hf
        clear hf
        go_wp2
        refine wp_region_kin (wr.heap.size + 1) (by kernel_rfl) (by kernel_rfl) ?_
        have k0 : ∀ y : Kin (wr.heap.size + 1) (wr.alloc (.cells #[.int .u32 x.num, .int .i8 x.mx, .int .i8 x.my, .bool x.fire, .int .u32 x.view, .int .u8 x.frac] 121)), y.w.cell? ⟨wr.heap.size, 0, none⟩ = some (.int .u32 x.num) := fun y => y.cell (by simp) (by simp)
        have k1 : ∀ y : Kin (wr.heap.size + 1) (wr.alloc (.cells #[.int .u32 x.num, .int .i8 x.mx, .int .i8 x.my, .bool x.fire, .int .u32 x.view, .int .u8 x.frac] 121)), y.w.cell? ⟨wr.heap.size, 1, none⟩ = some (.int .i8 x.mx) := fun y => y.cell (by simp) (by simp)
        have k2 : ∀ y : Kin (wr.heap.size + 1) (wr.alloc (.cells #[.int .u32 x.num, .int .i8 x.mx, .int .i8 x.my, .bool x.fire, .int .u32 x.view, .int .u8 x.frac] 121)), y.w.cell? ⟨wr.heap.size, 2, none⟩ = some (.int .i8 x.my) := fun y => y.cell (by simp) (by simp)
        have k3 : ∀ y : Kin (wr.heap.size + 1) (wr.alloc (.cells #[.int .u32 x.num, .int .i8 x.mx, .int .i8 x.my, .bool x.fire, .int .u32 x.view, .int .u8 x.frac] 121)), y.w.cell? ⟨wr.heap.size, 3, none⟩ = some (.bool x.fire) := fun y => y.cell (by simp) (by simp)
        have k4 : ∀ y : Kin (wr.heap.size + 1) (wr.alloc (.cells #[.int .u32 x.num, .int .i8 x.mx, .int .i8 x.my, .bool x.fire, .int .u32 x.view, .int .u8 x.frac] 121)), y.w.cell? ⟨wr.heap.size, 4, none⟩ = some (.int .u32 x.view) := fun y => y.cell (by simp) (by simp)
        have k5 : ∀ y : Kin (wr.heap.size + 1) (wr.alloc (.cells #[.int .u32 x.num, .int .i8 x.mx, .int .i8 x.my, .bool x.fire, .int .u32 x.view, .int .u8 x.frac] 121)), y.w.cell? ⟨wr.heap.size, 5, none⟩ = some (.int .u8 x.frac) := fun y => y.cell (by simp) (by simp)
        repeat (first | go_big_quiet_step ((go_at_call 164; exact kin_of (by simp) (hcf _))) | quiet_step ((go_at_call 164; exact kin_of (by simp) (hcf _))))
        refine wpQuiet_nil ?_
        rintro _ ⟨⟨wk, hwk⟩, rfl⟩
        go_wp2
        go_ret
        exact ⟨ret_bool (rowB_false (by rw [HL.out]; exact hlt) (okAt_unformed HX.out HF.out)).symm, HB.out _ hwk⟩
      | true =>
        simp only [hf] at hcf
        have HF := Lib.hid hf
        clear hf
        have hfin : okAt l k = true → (List.range (k + 1)).all (okAt l) = true := fun h => by rw [range_all_succ, HA.out, h]; rfl
        have HN := Lib.hid hfin
        clear hfin
        cases k with
        | zero =>
          simp only [Nat.zero_mul, Nat.add_zero] at c0 c1 c2 c3 c4 c5
          go_wp2
          refine wp_region_kin (wr.heap.size + 1) (by kernel_rfl) (by kernel_rfl) ?_
          have k0 : ∀ y : Kin (wr.heap.size + 1) (wr.alloc (.cells #[.int .u32 x.num, .int .i8 x.mx, .int .i8 x.my, .bool x.fire, .int .u32 x.view, .int .u8 x.frac] 121)), y.w.cell? ⟨wr.heap.size, 0, none⟩ = some (.int .u32 x.num) := fun y => y.cell (by simp) (by simp)
          have k1 : ∀ y : Kin (wr.heap.size + 1) (wr.alloc (.cells #[.int .u32 x.num, .int .i8 x.mx, .int .i8 x.my, .bool x.fire, .int .u32 x.view, .int .u8 x.frac] 121)), y.w.cell? ⟨wr.heap.size, 1, none⟩ = some (.int .i8 x.mx) := fun y => y.cell (by simp) (by simp)
          have k2 : ∀ y : Kin (wr.heap.size + 1) (wr.alloc (.cells #[.int .u32 x.num, .int .i8 x.mx, .int .i8 x.my, .bool x.fire, .int .u32 x.view, .int .u8 x.frac] 121)), y.w.cell? ⟨wr.heap.size, 2, none⟩ = some (.int .i8 x.my) := fun y => y.cell (by simp) (by simp)
          have k3 : ∀ y : Kin (wr.heap.size + 1) (wr.alloc (.cells #[.int .u32 x.num, .int .i8 x.mx, .int .i8 x.my, .bool x.fire, .int .u32 x.view, .int .u8 x.frac] 121)), y.w.cell? ⟨wr.heap.size, 3, none⟩ = some (.bool x.fire) := fun y => y.cell (by simp) (by simp)
          have k4 : ∀ y : Kin (wr.heap.size + 1) (wr.alloc (.cells #[.int .u32 x.num, .int .i8 x.mx, .int .i8 x.my, .bool x.fire, .int .u32 x.view, .int .u8 x.frac] 121)), y.w.cell? ⟨wr.heap.size, 4, none⟩ = some (.int .u32 x.view) := fun y => y.cell (by simp) (by simp)
          have k5 : ∀ y : Kin (wr.heap.size + 1) (wr.alloc (.cells #[.int .u32 x.num, .int .i8 x.mx, .int .i8 x.my, .bool x.fire, .int .u32 x.view, .int .u8 x.frac] 121)), y.w.cell? ⟨wr.heap.size, 5, none⟩ = some (.int .u8 x.frac) := fun y => y.cell (by simp) (by simp)
          repeat (first | go_big_quiet_step ((go_at_call 164; exact kin_of (by simp) (hcf _))) | quiet_step ((go_at_call 164; exact kin_of (by simp) (hcf _))))
          refine wpQuiet_nil ?_
          rintro _ ⟨⟨wk, hwk⟩, rfl⟩
          go_wp2
          exact ⟨⟨1, hlt, rfl, HN.out (okAt_zero HX.out HF.out), HB.out _ hwk⟩, show n - 1 < n - 0 by omega⟩
        | succ j =>
          obtain ⟨g', off', d, he, hg', hd, d0, -⟩ := (h.below hbel).cmdAt (k := j) (by omega)
          obtain ⟨rfl, rfl⟩ : g = g' ∧ off = off' := by simpa using he
          have HD := Lib.hid hd
          clear hd
          clear he
          have b0 : ∀ y : Kin (wr.heap.size + 1) (wr.alloc (.cells #[.int .u32 x.num, .int .i8 x.mx, .int .i8 x.my, .bool x.fire, .int .u32 x.view, .int .u8 x.frac] 121)), y.w.cell? ⟨g, off + j * 6, none⟩ = some (.int .u32 d.num) := fun y => (y.below.cell (by show g < _; omega)).trans ((((Below.refl wr.heap.size wr).alloc (Nat.le_refl _) _).cell (by show g < _; omega)).trans d0)
          have hj0 : 0 < j + 1 := by omega
          have hj1 : j < n := by omega
          by_cases hnum : x.num = (d.num + 1) % 4294967296
          · have HM := Lib.hid hnum
            clear hnum
            go_wp2
            refine wp_region_kin (wr.heap.size + 1) (by kernel_rfl) (by kernel_rfl) ?_
            have k0 : ∀ y : Kin (wr.heap.size + 1) (wr.alloc (.cells #[.int .u32 x.num, .int .i8 x.mx, .int .i8 x.my, .bool x.fire, .int .u32 x.view, .int .u8 x.frac] 121)), y.w.cell? ⟨wr.heap.size, 0, none⟩ = some (.int .u32 x.num) := fun y => y.cell (by simp) (by simp)
            have k1 : ∀ y : Kin (wr.heap.size + 1) (wr.alloc (.cells #[.int .u32 x.num, .int .i8 x.mx, .int .i8 x.my, .bool x.fire, .int .u32 x.view, .int .u8 x.frac] 121)), y.w.cell? ⟨wr.heap.size, 1, none⟩ = some (.int .i8 x.mx) := fun y => y.cell (by simp) (by simp)
            have k2 : ∀ y : Kin (wr.heap.size + 1) (wr.alloc (.cells #[.int .u32 x.num, .int .i8 x.mx, .int .i8 x.my, .bool x.fire, .int .u32 x.view, .int .u8 x.frac] 121)), y.w.cell? ⟨wr.heap.size, 2, none⟩ = some (.int .i8 x.my) := fun y => y.cell (by simp) (by simp)
            have k3 : ∀ y : Kin (wr.heap.size + 1) (wr.alloc (.cells #[.int .u32 x.num, .int .i8 x.mx, .int .i8 x.my, .bool x.fire, .int .u32 x.view, .int .u8 x.frac] 121)), y.w.cell? ⟨wr.heap.size, 3, none⟩ = some (.bool x.fire) := fun y => y.cell (by simp) (by simp)
            have k4 : ∀ y : Kin (wr.heap.size + 1) (wr.alloc (.cells #[.int .u32 x.num, .int .i8 x.mx, .int .i8 x.my, .bool x.fire, .int .u32 x.view, .int .u8 x.frac] 121)), y.w.cell? ⟨wr.heap.size, 4, none⟩ = some (.int .u32 x.view) := fun y => y.cell (by simp) (by simp)
            have k5 : ∀ y : Kin (wr.heap.size + 1) (wr.alloc (.cells #[.int .u32 x.num, .int .i8 x.mx, .int .i8 x.my, .bool x.fire, .int .u32 x.view, .int .u8 x.frac] 121)), y.w.cell? ⟨wr.heap.size, 5, none⟩ = some (.int .u8 x.frac) := fun y => y.cell (by simp) (by simp)
            have hq : (x.num != (d.num + 1) % 4294967296) = false := bne_eq_false_iff_eq.2 HM.out
            repeat (first | go_big_quiet_step ((go_at_call 164; exact kin_of (by simp) (hcf _))) | quiet_step ((go_at_call 164; exact kin_of (by simp) (hcf _))))
            refine wpQuiet_nil ?_
            rintro _ ⟨⟨wk, hwk⟩, rfl⟩
            go_wp2
            refine ⟨⟨j + 1 + 1, hlt, rfl, HN.out ?_, HB.out _ hwk⟩, show n - (j + 1 + 1) < n - (j + 1) by omega⟩
            rw [okAt_one HX.out HF.out (by omega) HD.out, decide_eq_true_eq]
            exact HM.out
          · have HM := Lib.hid hnum
            clear hnum
            go_wp2
            refine wp_region_kin (wr.heap.size + 1) (by kernel_rfl) (by kernel_rfl) ?_
            have k0 : ∀ y : Kin (wr.heap.size + 1) (wr.alloc (.cells #[.int .u32 x.num, .int .i8 x.mx, .int .i8 x.my, .bool x.fire, .int .u32 x.view, .int .u8 x.frac] 121)), y.w.cell? ⟨wr.heap.size, 0, none⟩ = some (.int .u32 x.num) := fun y => y.cell (by simp) (by simp)
            have k1 : ∀ y : Kin (wr.heap.size + 1) (wr.alloc (.cells #[.int .u32 x.num, .int .i8 x.mx, .int .i8 x.my, .bool x.fire, .int .u32 x.view, .int .u8 x.frac] 121)), y.w.cell? ⟨wr.heap.size, 1, none⟩ = some (.int .i8 x.mx) := fun y => y.cell (by simp) (by simp)
            have k2 : ∀ y : Kin (wr.heap.size + 1) (wr.alloc (.cells #[.int .u32 x.num, .int .i8 x.mx, .int .i8 x.my, .bool x.fire, .int .u32 x.view, .int .u8 x.frac] 121)), y.w.cell? ⟨wr.heap.size, 2, none⟩ = some (.int .i8 x.my) := fun y => y.cell (by simp) (by simp)
            have k3 : ∀ y : Kin (wr.heap.size + 1) (wr.alloc (.cells #[.int .u32 x.num, .int .i8 x.mx, .int .i8 x.my, .bool x.fire, .int .u32 x.view, .int .u8 x.frac] 121)), y.w.cell? ⟨wr.heap.size, 3, none⟩ = some (.bool x.fire) := fun y => y.cell (by simp) (by simp)
            have k4 : ∀ y : Kin (wr.heap.size + 1) (wr.alloc (.cells #[.int .u32 x.num, .int .i8 x.mx, .int .i8 x.my, .bool x.fire, .int .u32 x.view, .int .u8 x.frac] 121)), y.w.cell? ⟨wr.heap.size, 4, none⟩ = some (.int .u32 x.view) := fun y => y.cell (by simp) (by simp)
            have k5 : ∀ y : Kin (wr.heap.size + 1) (wr.alloc (.cells #[.int .u32 x.num, .int .i8 x.mx, .int .i8 x.my, .bool x.fire, .int .u32 x.view, .int .u8 x.frac] 121)), y.w.cell? ⟨wr.heap.size, 5, none⟩ = some (.int .u8 x.frac) := fun y => y.cell (by simp) (by simp)
            have hq : (x.num != (d.num + 1) % 4294967296) = true := bne_iff_ne.2 HM.out
            repeat (first | go_big_quiet_step ((go_at_call 164; exact kin_of (by simp) (hcf _))) | quiet_step ((go_at_call 164; exact kin_of (by simp) (hcf _))))
            refine wpQuiet_nil ?_
            rintro _ ⟨⟨wk, hwk⟩, rfl⟩
            go_wp2
            go_ret
            refine ⟨ret_bool (rowB_false (by rw [HL.out]; exact hlt) ?_).symm, HB.out _ hwk⟩
            rw [okAt_one HX.out HF.out (by omega) HD.out, decide_eq_false_iff_not]
            exact HM.out
    · have hkn : k = n := by omega
      subst hkn
      go_wp2
      all_goals
        go_ret
        refine ⟨ret_bool ?_, hbel⟩
        unfold rowB
        rw [HL.out, HA.out, Bool.eq_iff_iff]
        simp
        try omega
end Go.Proofs.YtojbijapdkohlaaGreatDoor
