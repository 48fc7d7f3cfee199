/- The plain law BucketRises: what is taken rises, was offered, and is paid for. -/
import Derived.Test.YtplclgkchiaijaaOffer
import Derived.Test.YtplclgkchiaijaaRefCmd
set_option linter.unusedSimpArgs false
set_option linter.unusedVariables false
namespace Go.Proofs.Ytplclgkchiaijaa
structure RInv (s : Intk) (off : List Cmd) (last : BitVec 32) (filled taken : Int) (k : Nat) : Prop where
  q32 : s.queue.length ≤ 32
  tok0 : 0 ≤ s.tok
  tok16 : s.tok ≤ 16
  bal : s.tok + taken ≤ filled
  taken0 : 0 ≤ taken
  filled0 : filled ≤ 16 + 16 * k
  mem : ∀ x ∈ s.queue, x ∈ off
  inc : s.queue.Pairwise (fun x y => x.number.toNat < y.number.toNat)
  gt : ∀ x ∈ s.queue, last.toNat < x.number.toNat
  top : ∀ x ∈ s.queue, x.number.toNat ≤ s.last.toNat
  lastle : last.toNat ≤ s.last.toNat
  offlen : off.length ≤ 8 * k
theorem RInv.start : RInv ⟨0, [], 16⟩ [] 0 16 0 0 :=
  ⟨by simp, by decide, by decide, by decide, by decide, by decide, by simp, List.Pairwise.nil, by simp, by simp, Nat.le_refl _, by simp⟩
theorem RInv.step {s : Intk} {off : List Cmd} {last : BitVec 32} {filled taken : Int} {k : Nat} (h : RInv s off last filled taken k) (x : Cmd) (hx : x ∈ off) (cnt : Nat) :
    RInv (offerStep (s, cnt) x).1 off last filled taken k := by
  unfold offerStep
  split
  · rename_i hc
    obtain ⟨h1, h2⟩ := hc
    have h1 : s.last.toNat < x.number.toNat := h1
    have h2 : s.queue.length < 32 := h2
    refine ⟨by simp; omega, h.tok0, h.tok16, h.bal, h.taken0, h.filled0, ?_, ?_, ?_, ?_, by have := h.lastle; show _ ≤ x.number.toNat; omega, h.offlen⟩
    · intro y hy
      rcases List.mem_append.1 hy with hy | hy
      · exact h.mem y hy
      · rw [List.mem_singleton.1 hy]; exact hx
    · refine List.pairwise_append.2 ⟨h.inc, List.pairwise_singleton _ _, fun a ha c hc => ?_⟩
      rw [List.mem_singleton.1 hc]
      have := h.top a ha
      omega
    · intro y hy
      rcases List.mem_append.1 hy with hy | hy
      · exact h.gt y hy
      · rw [List.mem_singleton.1 hy]; have := h.lastle; omega
    · intro y hy
      show y.number.toNat ≤ x.number.toNat
      rcases List.mem_append.1 hy with hy | hy
      · have := h.top y hy; omega
      · rw [List.mem_singleton.1 hy]; exact Nat.le_refl _
  · exact h
theorem RInv.fold {off : List Cmd} {last : BitVec 32} {filled taken : Int} {k : Nat} (l : List Cmd) (hl : ∀ x ∈ l, x ∈ off) (s : Intk) (cnt : Nat) (h : RInv s off last filled taken k) :
    RInv (l.foldl offerStep (s, cnt)).1 off last filled taken k := by
  induction l generalizing s cnt with
  | nil => exact h
  | cons x l ih =>
    rw [List.foldl_cons]
    exact ih (fun y hy => hl y (by simp [hy])) _ _ (h.step x (hl x (by simp)) cnt)
theorem RInv.more {s : Intk} {off : List Cmd} {last : BitVec 32} {filled taken : Int} {k : Nat} (h : RInv s off last filled taken k) : RInv s off last filled taken (k + 1) :=
  { h with filled0 := by have := h.filled0; omega, offlen := by have := h.offlen; omega }
theorem RInv.offer_row {s : Intk} {off l : List Cmd} {last : BitVec 32} {filled taken : Int} {k : Nat} (h : RInv s off last filled taken k) (hr : rowB l = true) : RInv (offer s l).1 (off ++ l) last filled taken (k + 1) := by
  unfold offer
  rw [hr, if_pos rfl]
  have hl := rowB_length hr
  refine RInv.fold l (fun x hx => by simp [hx]) s 0 { h.more with mem := fun x hx => by simp [h.mem x hx], offlen := by have := h.offlen; simp; omega }
theorem RInv.offer_none {s : Intk} {off l : List Cmd} {last : BitVec 32} {filled taken : Int} {k : Nat} (h : RInv s off last filled taken k) (hr : rowB l = false) : RInv (offer s l).1 off last filled taken (k + 1) := by
  unfold offer
  rw [hr]
  exact h.more
theorem RInv.fill {s : Intk} {off : List Cmd} {last : BitVec 32} {filled taken : Int} {k : Nat} (h : RInv s off last filled taken k) (n : Int) :
    RInv (Ytplclgkchiaijaa.fill s n) off last (if 0 < n then filled + min n 16 else filled) taken (k + 1) := by
  have h1 := h.more
  have t0 := h.tok0
  have t1 := h.tok16
  have hb := h.bal
  have hf := h.filled0
  unfold Ytplclgkchiaijaa.fill
  split
  · exact ⟨h1.q32, by show 0 ≤ s.tok + min n (16 - s.tok); omega, by show s.tok + min n (16 - s.tok) ≤ 16; omega, by show s.tok + min n (16 - s.tok) + taken ≤ _; omega, h1.taken0, by omega, h1.mem, h1.inc, h1.gt, h1.top, h1.lastle, h1.offlen⟩
  · exact h1
/-- The last number behind j commands taken. -/
def lastAt (last : BitVec 32) (q : List Cmd) (j : Nat) : BitVec 32 := ((q.take j).getLast?.map (·.number)).getD last
theorem lastAt_zero (last : BitVec 32) (q : List Cmd) : lastAt last q 0 = last := by simp [lastAt]
theorem lastAt_succ (last : BitVec 32) (q : List Cmd) (j : Nat) (x : Cmd) (hx : q[j]? = some x) : lastAt last q (j + 1) = x.number := by
  unfold lastAt; rw [take_snoc q j x hx]; simp
theorem RInv.at_ {s : Intk} {off : List Cmd} {last : BitVec 32} {filled taken : Int} {k : Nat} (h : RInv s off last filled taken k) {j : Nat} {x : Cmd} (hx : s.queue[j]? = some x) :
    x ∈ off ∧ (lastAt last s.queue j).toNat < x.number.toNat := by
  have hm := List.mem_of_getElem? hx
  refine ⟨h.mem x hm, ?_⟩
  cases j with
  | zero => rw [lastAt_zero]; exact h.gt x hm
  | succ j =>
    obtain ⟨y, hy⟩ : ∃ y, s.queue[j]? = some y := ⟨_, List.getElem?_eq_getElem (by have := (List.getElem?_eq_some_iff.1 hx).1; omega)⟩
    rw [lastAt_succ _ _ _ _ hy]
    obtain ⟨h1, e1⟩ := List.getElem?_eq_some_iff.1 hy
    obtain ⟨h2, e2⟩ := List.getElem?_eq_some_iff.1 hx
    have := List.pairwise_iff_getElem.1 h.inc j (j + 1) h1 h2 (Nat.lt_succ_self _)
    rwa [e1, e2] at this
theorem RInv.take {s : Intk} {off : List Cmd} {last : BitVec 32} {filled taken : Int} {k : Nat} (h : RInv s off last filled taken k) (n : Int) :
    RInv (takeS s n) off (lastAt last s.queue (takes s n)) filled (taken + takes s n) (k + 1) := by
  have hm : takes s n ≤ s.queue.length := by unfold takes; omega
  have ht : (takes s n : Int) ≤ s.tok := by have := h.tok0; unfold takes; omega
  generalize hk : takes s n = m at *
  have hsub : ∀ x ∈ s.queue.drop m, x ∈ s.queue := fun x hx => List.mem_of_mem_drop hx
  have e : takeS s n = ⟨s.last, s.queue.drop m, s.tok - m⟩ := by unfold takeS; rw [hk]
  rw [e]
  have h1 := h.more
  have hlast : (lastAt last s.queue m).toNat ≤ s.last.toNat := by
    cases m with
    | zero => rw [lastAt_zero]; exact h.lastle
    | succ m =>
      obtain ⟨y, hy⟩ : ∃ y, s.queue[m]? = some y := ⟨_, List.getElem?_eq_getElem (by omega)⟩
      rw [lastAt_succ _ _ _ _ hy]
      exact h.top y (List.mem_of_getElem? hy)
  refine ⟨by have := h.q32; simp; omega, by show 0 ≤ s.tok - m; omega, by have := h.tok16; show s.tok - m ≤ 16; omega, by have := h.bal; show s.tok - m + (taken + m) ≤ filled; omega, by have := h.taken0; omega, h1.filled0, fun x hx => h.mem x (hsub x hx), ?_, ?_, fun x hx => h.top x (hsub x hx), hlast, h1.offlen⟩
  · exact h.inc.sublist (List.drop_sublist _ _)
  · intro x hx
    obtain ⟨i, hi, hix⟩ := List.getElem_of_mem hx
    have hx' : s.queue[m + i]? = some x := by
      rw [List.getElem_drop] at hix
      rw [List.getElem?_eq_getElem (by simp at hi; omega), hix]
    cases m with
    | zero => rw [lastAt_zero]; exact h.gt x (hsub x hx)
    | succ m =>
      obtain ⟨y, hy⟩ : ∃ y, s.queue[m]? = some y := ⟨_, List.getElem?_eq_getElem (by omega)⟩
      rw [lastAt_succ _ _ _ _ hy]
      obtain ⟨h2, e2⟩ := List.getElem?_eq_some_iff.1 hy
      obtain ⟨h3, e3⟩ := List.getElem?_eq_some_iff.1 hx'
      have := List.pairwise_iff_getElem.1 h.inc m (m + 1 + i) h2 h3 (by omega)
      rwa [e2, e3] at this
end Go.Proofs.Ytplclgkchiaijaa
