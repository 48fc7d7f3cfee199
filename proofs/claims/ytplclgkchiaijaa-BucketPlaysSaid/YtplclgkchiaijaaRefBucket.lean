/- The walks of the document's layer 19: an intake that keeps all. -/
import Derived.Test.YtplclgkchiaijaaOffer
import Derived.Test.YtplclgkchiaijaaRefCmd
import Derived.Test.YtplclgkchiaijaaCmdEq
import Derived.BigQuiet
import Derived.Deep.QuietTactic
set_option linter.unusedSimpArgs false
set_option linter.unusedVariables false
namespace Go.Proofs.Ytplclgkchiaijaa
open Go.RowKit
structure RIntk where
  all : List Cmd
  gone : Nat
  tok : Int
structure RHas (w : World) (b : Nat) (A : Option Addr) (c : Nat) (v : RIntk) : Prop where
  obj : Obj3 w b 70 (.slice A v.all.length c) (.int .i64 (v.gone : Int)) (.int .i64 v.tok)
  row : Row w 58 6 A v.all.length c (cmdsV v.all)
  apart : blkOf A ≠ some b
theorem refNew (w : World) : Calls Try.prog 43 #[] w fun e w' => e = .returned (.pointer (some ⟨w.heap.size, 0, none⟩)) ∧ Below w.heap.size w w' ∧ RHas w' w.heap.size none 0 ⟨[], 0, 16⟩ ∧ w.heap.size < w'.heap.size := by
  go_enter Try.func43, Try.ntmps43
  go_wp2
  go_ret
  exact ⟨rfl, (Below.refl _ _).alloc (Nat.le_refl _) _, ⟨heap_alloc_new w _, Row.nil_, by simp [blkOf]⟩, by simp⟩
def lastOf (l : List Cmd) : BitVec 32 := (l.getLast?.map (·.number)).getD 0
section
variable {w w' : World} {b : Nat} {A : Option Addr} {c : Nat} {v : RIntk}
theorem RHas.keep (h : RHas w b A c v) (hb : w'.heap[b]? = w.heap[b]?) (hA : ∀ g, blkOf A = some g → w'.heap[g]? = w.heap[g]?) : RHas w' b A c v :=
  ⟨h.obj.keep hb, h.row.keep hA, h.apart⟩
theorem RHas.below (h : RHas w b A c v) (hb : Below w.heap.size w w') : RHas w' b A c v :=
  h.keep (hb.block _ h.obj.lt) (fun g hg => hb.block g (h.row.lt hg))
theorem RHas.set2 (h : RHas w b A c v) (t : Int) : RHas (w.setCell ⟨b, 2, none⟩ (.int .i64 t)) b A c ⟨v.all, v.gone, t⟩ :=
  ⟨h.obj.s2 _, h.row.keep fun g hg => Below.heap_setCell w _ _ g (fun e => h.apart (hg.trans (congrArg some e))), h.apart⟩
theorem refLast (h : RHas w b A c v) : Calls Try.prog 49 #[.pointer (some ⟨b, 0, none⟩)] w fun e w' => e = .returned (.int .u32 ((lastOf v.all).toNat : Int)) ∧ Dr w w' := by
  have f0 := h.obj.c0
  have hr := h.row
  obtain ⟨all, gone, tok⟩ := v
  rcases Nat.eq_zero_or_pos all.length with hz | hz
  · obtain rfl : all = [] := List.eq_nil_of_length_eq_zero hz
    clear hz
    go_enter Try.func49, Try.ntmps49
    go_wp2
    go_ret
    exact ⟨rfl, Dr.refl _⟩
  · obtain ⟨m, hm⟩ : ∃ m, all.length = m + 1 := ⟨all.length - 1, by omega⟩
    obtain ⟨g, off, x, hA, hg, hx, x0, -⟩ := (hr.reads (by decide)).cmdAt (k := m) (by show m < all.length; omega)
    subst hA
    have hl : lastOf all = x.number := by
      unfold lastOf
      rw [List.getLast?_eq_getElem?, hm, Nat.add_sub_cancel, hx]; rfl
    show Calls Try.prog 49 _ w fun e w' => e = .returned (.int .u32 ((lastOf all).toNat : Int)) ∧ Dr w w'
    rw [hl]
    have f1 : w.cell? ⟨b, 0, none⟩ = some (.slice (some ⟨g, off, none⟩) (m + 1) c) := by rw [← hm]; exact f0
    clear f0
    have hm0 : ((m : Int) + 1 == 0) = false := by rw [beq_eq_false_iff_ne]; omega
    have hmb : m < 9223372036854775807 := by
      have h5 : all.length ≤ c := hr.2.1
      have h6 : c ≤ maxLen := hr.2.2.1
      unfold maxLen at h6; omega
    clear hr hl hm hz hx
    go_enter Try.func49, Try.ntmps49
    go_wp2
    go_quiet (fail)
    go_wp2
    go_ret
    exact ⟨rfl, (Dr.refl _).drewN nq⟩
def refFillS (v : RIntk) (n : Int) : RIntk := ⟨v.all, v.gone, v.tok + max 0 (min n (16 - v.tok))⟩
set_option maxHeartbeats 1000000 in
theorem refFill (h : RHas w b A c v) (n : Int) (h0 : 0 ≤ v.tok) (h1 : v.tok ≤ 16) (hn : -9223372036854775808 ≤ n ∧ n ≤ 9223372036854775807) :
    Calls Try.prog 46 #[.pointer (some ⟨b, 0, none⟩), .int .i64 n] w fun e w' => e = .returned undef ∧ Chg (fun g => g = b) w w' ∧ RHas w' b A c (refFillS v n) := by
  obtain ⟨all, gone, tok⟩ := v
  have h0 : 0 ≤ tok := h0
  have h1 : tok ≤ 16 := h1
  go_enter Try.func46, Try.ntmps46
  go_wp2
  go_loopw [4] (fun i wr => ∃ k : Nat, i = .int .i64 (k : Nat) ∧ tok + k ≤ 16 ∧ ((k : Int) ≤ n ∨ k = 0) ∧ Chg (fun g => g = b) w wr ∧ RHas wr b A c ⟨all, gone, tok + k⟩) (fun i _ => 20 - (intOf i).toNat)
  case atStart => exact ⟨0, rfl, by omega, .inr rfl, Chg.refl, by simpa using h⟩
  case round =>
    obtain ⟨k, rfl, hk, hkn, hc, hh⟩ := hrel
    have f2 := hh.obj.c2
    have z2 := hh.obj.z 2
    have HC := Lib.hid hc
    have HH := Lib.hid hh
    clear hc hh
    by_cases hlt : (k : Int) < n
    · by_cases h16 : tok + (k : Int) < 16
      · go_wp2
        refine ⟨⟨k + 1, by go_num, by omega, .inl (by omega), Chg.setCell HC.out (.inl rfl) _, ?_⟩, by simp [intOf]; omega⟩
        have := HH.out.set2 (tok + ((k + 1 : Nat) : Int))
        have e : tok + ((k + 1 : Nat) : Int) = tok + (k : Int) + 1 := by omega
        rw [e] at this ⊢
        exact this
      · go_wp2
        go_end0
        refine ⟨rfl, HC.out, ?_⟩
        have e : refFillS ⟨all, gone, tok⟩ n = ⟨all, gone, tok + (k : Int)⟩ := by
          unfold refFillS
          have : tok + max 0 (min n (16 - tok)) = tok + (k : Int) := by omega
          simp only [this]
        rw [e]; exact HH.out
    · go_wp2
      go_end0
      refine ⟨rfl, HC.out, ?_⟩
      have e : refFillS ⟨all, gone, tok⟩ n = ⟨all, gone, tok + (k : Int)⟩ := by
        unfold refFillS
        have : tok + max 0 (min n (16 - tok)) = tok + (k : Int) := by omega
        simp only [this]
      rw [e]; exact HH.out
end
end Go.Proofs.Ytplclgkchiaijaa
