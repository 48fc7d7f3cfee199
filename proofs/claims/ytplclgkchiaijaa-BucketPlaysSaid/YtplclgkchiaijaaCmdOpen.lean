/- How an argument of commands is read: a list of commands. -/
import Derived.Test.YtplclgkchiaijaaOpen
import Derived.Test.YtplclgkchiaijaaCmdRow
import Derived.Deep.Slices
import Derived.ChangeArms
set_option linter.unusedSimpArgs false
set_option linter.unusedVariables false
namespace Go.Proofs.Ytplclgkchiaijaa
open Go.RowKit Go.ChangeShapes Go.WideShapes Go.Deep
theorem wf_i8 {x : Int} (h : (Lit.int .i8 x).wf = true) : ∃ c : Int8, x = c.toInt := by
  have h' : -128 ≤ x ∧ x ≤ 127 := by simpa [Lit.wf, IntKind.min, IntKind.max, IntKind.signed, IntKind.bits] using h
  exact ⟨Int8.ofInt x, by rw [Int8.toInt_ofInt_of_le (by omega) (by omega)]⟩
theorem list_of {α : Type} {p : Nat → α → Prop} : ∀ n : Nat, (∀ i, i < n → ∃ c, p i c) → ∃ l : List α, l.length = n ∧ ∀ i c, l[i]? = some c → p i c
  | 0, _ => ⟨[], rfl, fun i c h => by simp at h⟩
  | n + 1, h => by
    obtain ⟨l, hl, hp⟩ := list_of n (fun i hi => h i (by omega))
    obtain ⟨c, hc⟩ := h n (by omega)
    refine ⟨l ++ [c], by simp [hl], fun i d hd => ?_⟩
    rcases Nat.lt_trichotomy i n with h1 | h1 | h1
    · rw [List.getElem?_append_left (by omega)] at hd; exact hp i d hd
    · subst h1
      rw [List.getElem?_append_right (by omega), hl, Nat.sub_self] at hd
      simp at hd; subst hd; exact hc
    · rw [List.getElem?_eq_none (by simp; omega)] at hd; cases hd
section
variable {H : Type} {enc : TypeId × Value → H} {W : World} {base : Nat} {sp : Nat → Bool} {held : Bool}
theorem open_cmd {fuel : Nat} {cs : List Value} {x : DataW H × List MemPlace} (h : DataW.trod enc Try.prog W base sp held fuel 58 cs = some x) : ∃ c : Cmd, cs = cmdV c := by
  obtain ⟨xs, m, _, _, hlen, hxs, hf⟩ := DataW.trod_struct Try.underlying58 h
  have hc : cs.length = 6 := hlen.trans (by kernel_rfl)
  obtain ⟨a, b, c, d, e, f, rfl⟩ := len6 hc
  obtain ⟨x0, x1, x2, x3, x4, x5, rfl⟩ := len6 (hxs.trans (by rfl))
  have e31 : Try.prog.cellsOf 31 = 1 := by kernel_rfl
  have e56 : Try.prog.cellsOf 56 = 1 := by kernel_rfl
  have e4 : Try.prog.cellsOf 4 = 1 := by kernel_rfl
  have e5 : Try.prog.cellsOf 5 = 1 := by kernel_rfl
  have f0 : DataW.trod enc Try.prog W base sp held m 31 [a] = some x0 := by have := hf 0 _ rfl; simpa [e31] using this
  have f1 : DataW.trod enc Try.prog W base sp held m 56 [b] = some x1 := by have := hf 1 _ rfl; simpa [e56] using this
  have f2 : DataW.trod enc Try.prog W base sp held m 56 [c] = some x2 := by have := hf 2 _ rfl; simpa [e56] using this
  have f3 : DataW.trod enc Try.prog W base sp held m 4 [d] = some x3 := by have := hf 3 _ rfl; simpa [e4] using this
  have f4 : DataW.trod enc Try.prog W base sp held m 31 [e] = some x4 := by have := hf 4 _ rfl; simpa [e31] using this
  have f5 : DataW.trod enc Try.prog W base sp held m 5 [f] = some x5 := by have := hf 5 _ rfl; simpa [e5] using this
  obtain ⟨n0, h0, _, w0⟩ := DataW.trod_int Try.underlying31 f0
  obtain ⟨n1, h1, _, w1⟩ := DataW.trod_int Try.underlying56 f1
  obtain ⟨n2, h2, _, w2⟩ := DataW.trod_int Try.underlying56 f2
  obtain ⟨n3, h3, _⟩ := DataW.trod_bool Try.underlying4 f3
  obtain ⟨n4, h4, _, w4⟩ := DataW.trod_int Try.underlying31 f4
  obtain ⟨n5, h5, _, w5⟩ := DataW.trod_int Try.underlying5 f5
  simp only [List.cons.injEq, and_true] at h0 h1 h2 h3 h4 h5
  obtain ⟨y0, rfl⟩ := wf_u32 w0
  obtain ⟨y1, rfl⟩ := wf_i8 w1
  obtain ⟨y2, rfl⟩ := wf_i8 w2
  obtain ⟨y4, rfl⟩ := wf_u32 w4
  obtain ⟨y5, rfl⟩ := wf_u8 w5
  exact ⟨⟨y0, y1, y2, n3, y4, y5⟩, by simp only [cmdV, h0, h1, h2, h3, h4, h5]⟩
theorem open_cmds_trod {fuel : Nat} {cs : List Value} {x : DataW H × List MemPlace} (h : DataW.trod enc Try.prog W base sp held fuel 50 cs = some x) :
    ∃ A n c l, cs = [.slice A n c] ∧ Reads W W.heap.size 6 A n (cmdsV l) ∧ n ≤ 9223372036854775807 ∧ n ≤ c := by
  have e58 : Try.prog.cellsOf 58 = 6 := by kernel_rfl
  rcases open_slice Try.underlying50 h with ⟨rfl, _⟩ | ⟨a, len, cap, m, k, D, Pl, rfl, _, hlc, hcm, hm, _, hel⟩
  · exact ⟨_, _, _, [], rfl, Reads.none_, by omega, by omega⟩
  · rw [e58] at hel
    have hlm : len ≤ m := by rw [hm]; split <;> omega
    obtain ⟨l, hl, hp⟩ := list_of (p := fun i c => ∀ j u, (cmdV c)[j]? = some u → W.cell? (a.add (i * 6 + j)) = some u) len (fun i hi => by
      obtain ⟨cs', hc, ht⟩ := hel i (by omega)
      obtain ⟨c, rfl⟩ := open_cmd ht
      obtain ⟨_, _, hat⟩ := World.cells?_some hc
      refine ⟨c, fun j u hu => ?_⟩
      have hj : j < 6 := (List.getElem?_eq_some_iff.1 hu).1
      rw [← Go.Deep.add_add, hat j hj, hu])
    unfold maxLen at hcm
    refine ⟨_, _, _, l, rfl, ?_, by omega, hlc⟩
    have hcell : ∀ j u, (cmdsV l)[j]? = some u → W.cell? (a.add j) = some u := fun j u hu => by
      have hj : j < len * 6 := by have := (List.getElem?_eq_some_iff.1 hu).1; rw [cmdsV_length, hl] at this; exact this
      obtain ⟨c, hc⟩ : ∃ c, l[j / 6]? = some c := ⟨_, List.getElem?_eq_getElem (by omega)⟩
      have h1 := cmdsV_at l (j / 6) (j % 6) c hc (Nat.mod_lt _ (by decide))
      have e : j / 6 * 6 + j % 6 = j := by omega
      rw [e] at h1
      have := hp _ _ hc (j % 6) u (by rw [← h1, hu])
      rwa [e] at this
    refine ⟨by rw [cmdsV_length, hl], fun hn => ⟨a, rfl, ?_, hcell⟩⟩
    have h0 := hcell 0 _ (List.getElem?_eq_getElem (by rw [cmdsV_length, hl]; omega))
    have := cell_lt h0
    rwa [block_of_add] at this
theorem open_cmds {v : Value} {d : DataW H} {p : List MemPlace} {base' b : Nat} (hok : Value.okWide Try.prog W .any base' 50 v) (h : DataW.Trod enc Try.prog W b (fun _ => true) true 50 v d p) :
    ∃ A n c l, v = .slice A n c ∧ Reads W W.heap.size 6 A n (cmdsV l) ∧ n ≤ 9223372036854775807 ∧ n ≤ c := by
  obtain ⟨a, len, cap, rfl⟩ := okWide_slice Try.underlying50 hok
  obtain ⟨fuel, hf⟩ := h
  obtain ⟨A, n, c, l, h1, h2⟩ := open_cmds_trod hf
  simp [Value.cells] at h1
  obtain ⟨rfl, rfl, rfl⟩ := h1
  exact ⟨_, _, _, l, rfl, h2⟩
end
end Go.Proofs.Ytplclgkchiaijaa
