/- The walks of layer 19: an intake. -/
import Derived.Test.YtplclgkchiaijaaCmdRow
set_option linter.unusedSimpArgs false
set_option linter.unusedVariables false
namespace Go.Proofs.Ytplclgkchiaijaa
open Go.RowKit
theorem elt50 : Elt Try.prog 50 58 6 16 := Elt.mk' Try.underlying50 (.agg #[.int .u32 0, .int .i8 0, .int .i8 0, .bool false, .int .u32 0, .int .u8 0]) (by kernel_rfl) rfl (by decide) (by decide)
theorem oneCell_cmds (l : List Cmd) : ∀ u ∈ cmdsV l, u.oneCell' = true := by
  intro u hu
  simp only [cmdsV, List.mem_flatMap, cmdV] at hu
  obtain ⟨c, _, hc⟩ := hu
  simp at hc
  rcases hc with rfl | rfl | rfl | rfl | rfl | rfl <;> rfl
theorem run_cut_to {P : Program} {t e : TypeId} {size bytes : Nat} (E : Elt P t e size bytes) (A : Option Addr) (n c : Nat) (kd : IntKind) (k : Nat) (hk : k ≤ c) (j : Int) (hj : j = (k : Int)) (w : World) (hA : A = none → c = 0) :
    (Instr.slice t (.slice A n c) none (some (.int kd j)) none).run P w = .ok (.slice A k c) w := by
  subst hj
  obtain ⟨i, z, hi, _, hsz, _, _⟩ := E.hi
  have h1 : (Instr.sliceBounds true n c none (some (.int kd (k : Int))) none).run P w = .ok (0, k, c) w := by
    have hnk : ¬ c < k := by omega
    simp [Instr.sliceBounds, Instr.sliceBound, asIntOf, hnk]
  simp only [Instr.slice, Sem.run_bind, run_underlying E.ht, Result.andThen_ok, h1]
  have h0 : ∀ a : Addr, a.add 0 = a := fun a => by unfold Addr.add; split <;> (cases a; simp_all)
  rcases A with _ | a <;> simp [sizeOf, typeInfo, hi, hsz, h0]
/-- An object of three cells. -/
def Obj3 (w : World) (b : Nat) (t : TypeId) (v0 v1 v2 : Value) : Prop := w.heap[b]? = some (.cells #[v0, v1, v2] t (0, 0))
section
variable {w : World} {b : Nat} {t : TypeId} {v0 v1 v2 : Value}
theorem Obj3.c0 (h : Obj3 w b t v0 v1 v2) : w.cell? ⟨b, 0, none⟩ = some v0 := cell_of_row w b 0 _ t (0, 0) h
theorem Obj3.c1 (h : Obj3 w b t v0 v1 v2) : w.cell? ⟨b, 1, none⟩ = some v1 := cell_of_row w b 1 _ t (0, 0) h
theorem Obj3.c2 (h : Obj3 w b t v0 v1 v2) : w.cell? ⟨b, 2, none⟩ = some v2 := cell_of_row w b 2 _ t (0, 0) h
theorem Obj3.z (h : Obj3 w b t v0 v1 v2) (j : Nat) : w.frozen? ⟨b, j, none⟩ = false := frozen_of_row w b j _ t h
theorem Obj3.s0 (h : Obj3 w b t v0 v1 v2) (u : Value) : Obj3 (w.setCell ⟨b, 0, none⟩ u) b t u v1 v2 := heap_setCell_same w b 0 _ t u h
theorem Obj3.s1 (h : Obj3 w b t v0 v1 v2) (u : Value) : Obj3 (w.setCell ⟨b, 1, none⟩ u) b t v0 u v2 := heap_setCell_same w b 1 _ t u h
theorem Obj3.s2 (h : Obj3 w b t v0 v1 v2) (u : Value) : Obj3 (w.setCell ⟨b, 2, none⟩ u) b t v0 v1 u := heap_setCell_same w b 2 _ t u h
theorem Obj3.lt (h : Obj3 w b t v0 v1 v2) : b < w.heap.size := by
  rcases Nat.lt_or_ge b w.heap.size with hlt | hge
  · exact hlt
  · unfold Obj3 at h; rw [Array.getElem?_eq_none hge] at h; cases h
theorem Obj3.keep {w' : World} (h : Obj3 w b t v0 v1 v2) (hk : w'.heap[b]? = w.heap[b]?) : Obj3 w' b t v0 v1 v2 := hk.trans h
end
theorem Row.none_cap {w : World} {e : TypeId} {size n c : Nat} {A : Option Addr} {xs : List Value} (h : Row w e size A n c xs) : A = none → c = 0 := by
  rcases h.2.2.2 with ⟨_, h2⟩ | ⟨g, o, cur, h1, _⟩
  · exact fun _ => h2
  · intro e; rw [e] at h1; cases h1
/-- An intake. -/
structure Intk where
  last : BitVec 32
  queue : List Cmd
  tok : Int
/-- An intake that stands in block b, its queue in the slice (A, n, c). -/
structure Has (w : World) (b : Nat) (A : Option Addr) (c : Nat) (s : Intk) : Prop where
  obj : Obj3 w b 79 (.int .u32 (s.last.toNat : Int)) (.slice A s.queue.length c) (.int .i64 s.tok)
  row : Row w 58 6 A s.queue.length c (cmdsV s.queue)
  apart : blkOf A ≠ some b
theorem newWalk (w : World) : Calls Try.prog 37 #[] w fun e w' => e = .returned (.pointer (some ⟨w.heap.size, 0, none⟩)) ∧ Below w.heap.size w w' ∧ Has w' w.heap.size none 0 ⟨0, [], 16⟩ ∧ w.heap.size < w'.heap.size := by
  go_enter Try.func37, Try.ntmps37
  go_wp2
  go_ret
  exact ⟨rfl, (Below.refl _ _).alloc (Nat.le_refl _) _, ⟨heap_alloc_new w _, Row.nil_, by simp [blkOf]⟩, by simp⟩
section
variable {w : World} {b : Nat} {A : Option Addr} {c : Nat} {s : Intk}
theorem Has.set2 (h : Has w b A c s) (t : Int) : Has (w.setCell ⟨b, 2, none⟩ (.int .i64 t)) b A c ⟨s.last, s.queue, t⟩ :=
  ⟨h.obj.s2 _, h.row.keep fun g hg => Below.heap_setCell w _ _ g (fun e => h.apart (hg.trans (congrArg some e))), h.apart⟩
theorem lastWalk (h : Has w b A c s) : Calls Try.prog 41 #[.pointer (some ⟨b, 0, none⟩)] w fun e w' => e = .returned (.int .u32 (s.last.toNat : Int)) ∧ w = w' := by
  have f0 := h.obj.c0
  go_enter Try.func41, Try.ntmps41
  go_wp2
  go_ret
  exact ⟨rfl, rfl⟩
theorem waitsWalk (h : Has w b A c s) : Calls Try.prog 50 #[.pointer (some ⟨b, 0, none⟩)] w fun e w' => e = .returned (.int .i64 (s.queue.length : Int)) ∧ w = w' := by
  have f0 := h.obj.c1
  go_enter Try.func50, Try.ntmps50
  go_wp2
  go_ret
  exact ⟨rfl, rfl⟩
theorem tokensWalk (h : Has w b A c s) : Calls Try.prog 51 #[.pointer (some ⟨b, 0, none⟩)] w fun e w' => e = .returned (.int .i64 s.tok) ∧ w = w' := by
  have f0 := h.obj.c2
  go_enter Try.func51, Try.ntmps51
  go_wp2
  go_ret
  exact ⟨rfl, rfl⟩
theorem lastNil (w : World) : Calls Try.prog 41 #[.pointer none] w fun e w' => e = .returned (.int .u32 0) ∧ w = w' := by
  go_enter Try.func41, Try.ntmps41
  go_wp2
  go_ret
  exact ⟨rfl, rfl⟩
theorem waitsNil (w : World) : Calls Try.prog 50 #[.pointer none] w fun e w' => e = .returned (.int .i64 0) ∧ w = w' := by
  go_enter Try.func50, Try.ntmps50
  go_wp2
  go_ret
  exact ⟨rfl, rfl⟩
theorem tokensNil (w : World) : Calls Try.prog 51 #[.pointer none] w fun e w' => e = .returned (.int .i64 0) ∧ w = w' := by
  go_enter Try.func51, Try.ntmps51
  go_wp2
  go_ret
  exact ⟨rfl, rfl⟩
theorem fillNil (w : World) (n : Int) : Calls Try.prog 45 #[.pointer none, .int .i64 n] w fun e w' => e = .returned undef ∧ w = w' := by
  go_enter Try.func45, Try.ntmps45
  go_wp2
  go_end0
  exact ⟨rfl, rfl⟩
theorem offerNil (w : World) (v : Value) : Calls Try.prog 38 #[.pointer none, v] w fun e w' => e = .returned (.int .i64 0) ∧ w = w' := by
  go_enter Try.func38, Try.ntmps38
  go_wp2
  go_ret
  exact ⟨rfl, rfl⟩
theorem takeNil (w : World) (n : Int) : Calls Try.prog 39 #[.pointer none, .int .i64 n] w fun e w' => e = .returned (.slice none 0 0) ∧ Dr w w' := by
  have hcw : ∀ W : World, Calls Try.prog 50 #[.pointer none] W fun e w' => e = .returned (.int .i64 0) ∧ W = w' := fun W => waitsNil W
  have hct : ∀ W : World, Calls Try.prog 51 #[.pointer none] W fun e w' => e = .returned (.int .i64 0) ∧ W = w' := fun W => tokensNil W
  go_enter Try.func39, Try.ntmps39
  go_wp2_with (first
    | (go_at_call 50; refine (hcw _).mono ?_; rintro e w1 ⟨rfl, rfl⟩)
    | (go_at_call 51; refine (hct _).mono ?_; rintro e w1 ⟨rfl, rfl⟩))
  all_goals (go_ret; exact ⟨rfl, Dr.refl _⟩)
def fill (s : Intk) (n : Int) : Intk := if 0 < n then { s with tok := s.tok + min n (16 - s.tok) } else s
theorem fillWalk (h : Has w b A c s) (n : Int) (h0 : 0 ≤ s.tok) (h1 : s.tok ≤ 16) (hn : -9223372036854775808 ≤ n ∧ n < 9223372036854775808) :
    Calls Try.prog 45 #[.pointer (some ⟨b, 0, none⟩), .int .i64 n] w fun e w' => e = .returned undef ∧ Chg (fun g => g = b) w w' ∧ Has w' b A c (fill s n) := by
  have f2 := h.obj.c2
  have z2 := h.obj.z 2
  by_cases hp : 0 < n
  · go_enter Try.func45, Try.ntmps45
    go_wp2
    go_region
    all_goals
      go_end0
      refine ⟨rfl, (Chg.setCell (F := fun g => g = b) Chg.refl (.inl rfl) _).drewN 1, ?_⟩
      have h3 := h.set2 (if 0 < n then s.tok + min n (16 - s.tok) else s.tok)
      unfold fill
      rw [if_pos hp] at h3 ⊢
      have e : (s.tok + if 16 - s.tok < n then 16 - s.tok else n) = s.tok + min n (16 - s.tok) := by split <;> omega
      rw [e]
      exact ⟨h3.obj, h3.row, h3.apart⟩
  · go_enter Try.func45, Try.ntmps45
    go_wp2
    go_end0
    refine ⟨rfl, Chg.refl, ?_⟩
    unfold fill; rw [if_neg (by omega)]; exact h
end
set_option maxHeartbeats 400000 in
theorem cloneCmds (l : List Cmd) (w : World) (A : Option Addr) (n c : Nat) (h : Reads w w.heap.size 6 A n (cmdsV l)) (hn : n ≤ 1000000000) :
    Calls Try.prog 56 #[.slice A n c] w fun e w' => ∃ A' c', e = .returned (.slice A' n c') ∧ Row w' 58 6 A' n c' (cmdsV l) ∧ Below w.heap.size w w' ∧ (∀ g, blkOf A' = some g → w.heap.size ≤ g) := by
  have hl := h.cmd_len
  have keq := fun w => Lib.run_eql_slice_nil (P := Try.prog) w 50 58 A n c 0 0 Try.underlying50
  rcases A with _ | ad
  · have hnil : l = [] := by
      have := h.2
      rcases Nat.eq_zero_or_pos n with h0 | h0
      · exact List.eq_nil_of_length_eq_zero (by omega)
      · obtain ⟨_, h1, _⟩ := this h0; cases h1
    subst hnil
    obtain rfl : n = 0 := by simpa using hl.symm
    go_enter Try.func56, Try.ntmps56
    go_wp2
    go_ret
    exact ⟨none, 0, rfl, Row.nil_, Below.refl _ _, by simp [blkOf]⟩
  · clear hl
    have ho : (w.alloc (.cells #[] 58)).ownsRow w.heap.size 58 6 (.slice (some ⟨w.heap.size, 0, none⟩) 0 0) 0 [] := World.ownsRow_lit (e := 58) (size := 6) w #[] 0 (Nat.le_refl _) (by unfold maxLen; omega) rfl
    have hr := h.alloc (Nat.le_refl _) (.cells #[] 58)
    go_enter Try.func56, Try.ntmps56
    go_wp2_with (at_builtin; refine wpList_app _ rfl _ _ 50 rfl elt50 _ _ _ _ rfl ho w.heap.size (some ad) n c (cmdsV l) rfl hr (oneCell_cmds l) (by omega) (by simp) ?_; intro v' w2 ho2 hg hb')
    have hbel := below_own ((Below.refl _ _).alloc (Nat.le_refl _) (.cells #[] 58)) ho hg (by simp) (Nat.le_refl _)
    go_ret
    obtain ⟨A', c', rfl, hr', hb⟩ := Row.of_own ho2
    exact ⟨A', c', by simp, by simpa using hr', hbel, hb⟩
theorem cmdsV_take (l : List Cmd) (k : Nat) : (cmdsV l).take (k * 6) = cmdsV (l.take k) := by
  induction l generalizing k with
  | nil => simp [cmdsV]
  | cons c l ih =>
    cases k with
    | zero => simp [cmdsV]
    | succ k =>
      have e : (k + 1) * 6 = (cmdV c).length + k * 6 := by simp [cmdV]; omega
      simp only [cmdsV, List.flatMap_cons, List.take_succ_cons] at ih ⊢
      rw [e, List.take_length_add_append, ih]
theorem cmdsV_drop (l : List Cmd) (k : Nat) : (cmdsV l).drop (k * 6) = cmdsV (l.drop k) := by
  induction l generalizing k with
  | nil => simp [cmdsV]
  | cons c l ih =>
    cases k with
    | zero => simp [cmdsV]
    | succ k =>
      have e : (k + 1) * 6 = (cmdV c).length + k * 6 := by simp [cmdV]; omega
      simp only [cmdsV, List.flatMap_cons, List.drop_succ_cons] at ih ⊢
      rw [e, List.drop_length_add_append, ih]
/-- How many are taken. -/
def takes (s : Intk) (n : Int) : Nat := (min (min n s.tok) s.queue.length).toNat
def takeS (s : Intk) (n : Int) : Intk := ⟨s.last, s.queue.drop (takes s n), s.tok - takes s n⟩
set_option maxHeartbeats 2000000 in
theorem takeWalk {w : World} {b : Nat} {A : Option Addr} {c : Nat} {s : Intk} (h : Has w b A c s) (n : Int) (h0 : 0 ≤ s.tok) (h1 : s.tok ≤ 16) (hq : s.queue.length ≤ 1000000000) (hn : -9223372036854775808 ≤ n ∧ n < 9223372036854775808) :
    Calls Try.prog 39 #[.pointer (some ⟨b, 0, none⟩), .int .i64 n] w fun e w' => ∃ A1 c1 A' c', e = .returned (.slice A1 (takes s n) c1) ∧ Row w' 58 6 A1 (takes s n) c1 (cmdsV (s.queue.take (takes s n))) ∧
      (∀ g, blkOf A1 = some g → w.heap.size ≤ g) ∧ Chg (fun g => g = b) w w' ∧ Has w' b A' c' (takeS s n) ∧ blkOf A' = blkOf A := by
  obtain ⟨a, ha⟩ : ∃ a, (if s.tok < n then s.tok else n) = a := ⟨_, rfl⟩
  obtain ⟨d, hd⟩ : ∃ d, (if (s.queue.length : Int) < a then (s.queue.length : Int) else a) = d := ⟨_, rfl⟩
  obtain ⟨k, hk⟩ : ∃ k, takes s n = k := ⟨_, rfl⟩
  have hkk : (if d < 0 then 0 else d) = (k : Int) := by
    unfold takes at hk
    split at ha <;> split at hd <;> split <;> omega
  have hkq : k ≤ s.queue.length := by unfold takes at hk; omega
  have hkt : (k : Int) ≤ s.tok := by unfold takes at hk; omega
  rw [hk]
  have HK := Lib.hid hk
  clear hk
  have hct : ∀ W : World, W = w → Calls Try.prog 51 #[.pointer (some ⟨b, 0, none⟩)] W fun e w' => e = .returned (.int .i64 s.tok) ∧ W = w' := fun W e => e ▸ tokensWalk h
  have hcw : ∀ W : World, W = w → Calls Try.prog 50 #[.pointer (some ⟨b, 0, none⟩)] W fun e w' => e = .returned (.int .i64 (s.queue.length : Int)) ∧ W = w' := fun W e => e ▸ waitsWalk h
  have hT := h.row.take hkq
  rw [cmdsV_take] at hT
  have hD := h.row.drop hkq
  rw [cmdsV_drop] at hD
  cases hz : decide (k = 0) with
  | true =>
    obtain rfl : k = 0 := of_decide_eq_true hz
    clear hz
    go_enter Try.func39, Try.ntmps39
    go_wp2_with (first
      | (go_at_call 50; refine (hcw _ rfl).mono ?_; rintro e w1 ⟨rfl, rfl⟩)
      | (go_at_call 51; refine (hct _ rfl).mono ?_; rintro e w1 ⟨rfl, rfl⟩))
    go_ret
    have e : takeS s n = s := by unfold takeS; rw [HK.out]; cases s; simp
    exact ⟨none, 0, A, c, rfl, Row.nil_, by simp [blkOf], Chg.refl, by rw [e]; exact h, rfl⟩
  | false =>
    have hk0 : 0 < k := by have := of_decide_eq_false hz; omega
    clear hz
    obtain rfl : d = (k : Int) := by split at hkk <;> omega
    clear hkk
    have hk1 : ((k : Int) == 0) = false := by rw [beq_eq_false_iff_ne]; omega
    have f1 := h.obj.c1
    have kto := fun w => run_cut_to elt50 A s.queue.length c .i64 k (by have := h.row.2.1; omega) k rfl w h.row.none_cap
    have kfrom := run_cut elt50 A s.queue.length c .i64 k hkq k rfl
    have hcl := cloneCmds _ w A k c (hT.reads (by decide)) (by omega)
    obtain ⟨A', hA'⟩ : ∃ A', cutA A c k 6 = A' := ⟨_, rfl⟩
    rw [hA'] at hD kfrom
    have hblk : blkOf A' = blkOf A := by rw [← hA', cutA_blk]
    clear hA'
    go_enter Try.func39, Try.ntmps39
    go_wp2_with (first
      | (go_at_call 50; refine (hcw _ rfl).mono ?_; rintro e w1 ⟨rfl, rfl⟩)
      | (go_at_call 51; refine (hct _ rfl).mono ?_; rintro e w1 ⟨rfl, rfl⟩)
      | (go_at_call 56; refine hcl.mono ?_; rintro e w1 ⟨A1, c1, rfl, hr1, hb1, hf1⟩
         have ob := h.obj.keep (hb1.block b h.obj.lt)
         have g1 := ob.c1
         have y1 := ob.z 1
         have g2 := (ob.s1 (.slice A' (s.queue.length - k) (c - k))).c2
         have y2 := (ob.s1 (.slice A' (s.queue.length - k) (c - k))).z 2))
    go_ret
    have hbb := h.obj.lt
    have hset : ∀ g : Nat, g ≠ b → ((w1.setCell ⟨b, 1, none⟩ (.slice A' (s.queue.length - k) (c - k))).setCell ⟨b, 2, none⟩ (.int .i64 (s.tok - k))).heap[g]? = w1.heap[g]? := fun g hg =>
      (Below.heap_setCell _ _ _ g hg).trans (Below.heap_setCell _ _ _ g hg)
    have e : takeS s n = ⟨s.last, s.queue.drop k, s.tok - k⟩ := by unfold takeS; rw [HK.out]
    refine ⟨A1, c1, A', c - k, rfl, hr1.keep fun g hg => hset g ?_, hf1, Chg.setCell (Chg.setCell (F := fun g => g = b) (Chg.refl.below hb1 (Nat.le_refl _)) (.inl rfl) _) (.inl rfl) _, ?_, hblk⟩
    · have := hf1 g hg; omega
    · rw [e]
      refine ⟨?_, ?_, ?_⟩
      · have := (ob.s1 (.slice A' (s.queue.length - k) (c - k))).s2 (.int .i64 (s.tok - k))
        simpa using this
      · have := (hD.keep (w' := w1) (fun g hg => hb1.block g (h.row.lt (hblk ▸ hg)))).keep (fun g hg => hset g (fun e => h.apart (by rw [← hblk, hg, e])))
        simpa using this
      · rw [hblk]; exact h.apart
end Go.Proofs.Ytplclgkchiaijaa
