/- The plain law BucketPlays: the intake and the document's intake answer alike. -/
import Derived.Test.YtplclgkchiaijaaRefOffer
import Derived.Test.YtplclgkchiaijaaRefTake
import Derived.Test.YtplclgkchiaijaaRisesPlain
set_option linter.unusedSimpArgs false
set_option linter.unusedVariables false
namespace Go.Proofs.Ytplclgkchiaijaa
structure PInv (s : Intk) (v : RIntk) (k : Nat) : Prop where
  gone : v.gone ≤ v.all.length
  queue : v.all.drop v.gone = s.queue
  last : lastOf v.all = s.last
  tok : v.tok = s.tok
  tok0 : 0 ≤ s.tok
  tok16 : s.tok ≤ 16
  q32 : s.queue.length ≤ 32
  len : v.all.length ≤ 8 * k
theorem PInv.start : PInv ⟨0, [], 16⟩ ⟨[], 0, 16⟩ 0 := ⟨by simp, rfl, rfl, rfl, by decide, by decide, by simp, by simp⟩
theorem PInv.qlen {s : Intk} {v : RIntk} {k : Nat} (h : PInv s v k) : s.queue.length = v.all.length - v.gone := by rw [← h.queue, List.length_drop]
theorem PInv.step {s : Intk} {v : RIntk} {k : Nat} (h : PInv s v k) (x : Cmd) (cnt : Nat) :
    (offerStep (s, cnt) x).2 = (rStep (v, cnt) x).2 ∧ ∃ k', PInv (offerStep (s, cnt) x).1 (rStep (v, cnt) x).1 k' := by
  have hq := h.qlen
  have hg := h.gone
  have hi : (s.last.toNat < x.number.toNat ∧ s.queue.length < 32) ↔ ((lastOf v.all).toNat < x.number.toNat ∧ v.all.length < v.gone + 32) := by
    rw [h.last]
    constructor
    · rintro ⟨a, b⟩; exact ⟨a, by omega⟩
    · rintro ⟨a, b⟩; exact ⟨a, by omega⟩
  unfold offerStep rStep
  by_cases hc : s.last.toNat < x.number.toNat ∧ s.queue.length < 32
  · rw [if_pos hc, if_pos (hi.1 hc)]
    refine ⟨rfl, v.all.length + 1, by simp; omega, ?_, ?_, h.tok, h.tok0, h.tok16, by have := hc.2; simp; omega, by simp; omega⟩
    · show (v.all ++ [x]).drop v.gone = s.queue ++ [x]
      rw [List.drop_append_of_le_length hg, h.queue]
    · show lastOf (v.all ++ [x]) = x.number
      simp [lastOf]
  · rw [if_neg hc, if_neg (fun e => hc (hi.2 e))]
    exact ⟨rfl, k, h⟩
theorem PInv.fold (l : List Cmd) (s : Intk) (v : RIntk) (k cnt : Nat) (h : PInv s v k) :
    (l.foldl offerStep (s, cnt)).2 = (l.foldl rStep (v, cnt)).2 ∧ ∃ k', PInv (l.foldl offerStep (s, cnt)).1 (l.foldl rStep (v, cnt)).1 k' := by
  induction l generalizing s v k cnt with
  | nil => exact ⟨rfl, k, h⟩
  | cons x l ih =>
    obtain ⟨h1, k', h2⟩ := h.step x cnt
    rw [List.foldl_cons, List.foldl_cons]
    generalize offerStep (s, cnt) x = a at *
    generalize rStep (v, cnt) x = b at *
    obtain ⟨a1, a2⟩ := a
    obtain ⟨b1, b2⟩ := b
    obtain rfl : a2 = b2 := h1
    exact ih _ _ _ _ h2
theorem PInv.len_of {s : Intk} {v : RIntk} {k m : Nat} (h : PInv s v k) (hl : v.all.length ≤ 8 * m) : PInv s v m := { h with len := hl }
theorem PInv.offer {s : Intk} {v : RIntk} {k : Nat} (h : PInv s v k) (l : List Cmd) (hl : (rOffer v l).1.all.length ≤ v.all.length + 8) :
    (Ytplclgkchiaijaa.offer s l).2 = (rOffer v l).2 ∧ PInv (Ytplclgkchiaijaa.offer s l).1 (rOffer v l).1 (k + 1) := by
  have h3 := h.len
  unfold rOffer at hl ⊢
  unfold Ytplclgkchiaijaa.offer
  cases hr : rowB l with
  | false => exact ⟨rfl, h.len_of (by show v.all.length ≤ _; omega)⟩
  | true =>
    rw [hr] at hl
    obtain ⟨h1, k', h2⟩ := PInv.fold l s v k 0 h
    exact ⟨h1, h2.len_of (by have hl : (l.foldl rStep (v, 0)).1.all.length ≤ v.all.length + 8 := hl; show (l.foldl rStep (v, 0)).1.all.length ≤ _; omega)⟩
theorem PInv.fill {s : Intk} {v : RIntk} {k : Nat} (h : PInv s v k) (n : Int) : PInv (Ytplclgkchiaijaa.fill s n) (refFillS v (min n 100)) (k + 1) := by
  have t0 := h.tok0
  have t1 := h.tok16
  have tt := h.tok
  have h3 := h.len
  unfold Ytplclgkchiaijaa.fill refFillS
  split
  · exact ⟨h.gone, h.queue, h.last, by show v.tok + max 0 (min (min n 100) (16 - v.tok)) = s.tok + min n (16 - s.tok); omega, by show 0 ≤ s.tok + min n (16 - s.tok); omega, by show s.tok + min n (16 - s.tok) ≤ 16; omega, h.q32, by show v.all.length ≤ _; omega⟩
  · exact ⟨h.gone, h.queue, h.last, by show v.tok + max 0 (min (min n 100) (16 - v.tok)) = s.tok; omega, t0, t1, h.q32, by show v.all.length ≤ _; omega⟩
theorem PInv.takes_eq {s : Intk} {v : RIntk} {k : Nat} (h : PInv s v k) (n : Int) : rtakes v n = takes s n := by
  unfold rtakes takes
  rw [h.tok, h.qlen]
theorem PInv.take {s : Intk} {v : RIntk} {k : Nat} (h : PInv s v k) (n : Int) : PInv (takeS s n) (rtakeS v n) (k + 1) ∧ (v.all.drop v.gone).take (rtakes v n) = s.queue.take (takes s n) := by
  have he := h.takes_eq n
  have hq := h.qlen
  have hg := h.gone
  have h3 := h.len
  have h4 := h.q32
  have t0 := h.tok0
  have t1 := h.tok16
  have hm : takes s n ≤ s.queue.length ∧ (takes s n : Int) ≤ s.tok := by unfold takes; omega
  refine ⟨?_, by rw [he, h.queue]⟩
  unfold takeS rtakeS
  rw [he]
  exact ⟨by show v.gone + takes s n ≤ v.all.length; omega, by show v.all.drop (v.gone + takes s n) = s.queue.drop (takes s n); rw [← List.drop_drop, h.queue], h.last, by show v.tok - _ = s.tok - _; rw [h.tok], by show 0 ≤ s.tok - (takes s n : Int); omega, by show s.tok - (takes s n : Int) ≤ 16; omega, by show (s.queue.drop _).length ≤ 32; rw [List.length_drop]; omega, by show v.all.length ≤ _; omega⟩
theorem PInv.more {s : Intk} {v : RIntk} {k : Nat} (h : PInv s v k) : PInv s v (k + 1) := h.len_of (by have := h.len; omega)
end Go.Proofs.Ytplclgkchiaijaa
