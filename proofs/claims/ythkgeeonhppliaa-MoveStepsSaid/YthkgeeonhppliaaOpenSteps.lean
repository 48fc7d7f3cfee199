/- How rows of steps are read as arguments. -/
import Derived.Test.YthkgeeonhppliaaOpenM
set_option linter.unusedSimpArgs false
set_option linter.unusedVariables false
namespace Go.Proofs.Ythkgeeonhppliaa
open Go.RowKit Go.ChangeShapes Go.WideShapes Go.Deep
section
variable {H : Type} {enc : TypeId × Value → H} {P : Program} {W : World} {base : Nat} {sp : Nat → Bool} {held : Bool}
theorem open_step {fuel : Nat} {cs : List Value} {x : DataW H × List MemPlace} (h : DataW.trod enc Try.prog W base sp held fuel 37 cs = some x) : ∃ p : Int × Int, cs = [.int .i8 p.1, .int .i8 p.2] ∧ ((-128 ≤ p.1 ∧ p.1 ≤ 127) ∧ (-128 ≤ p.2 ∧ p.2 ≤ 127)) := by
  obtain ⟨xs, m, _, _, hlen, hxs, hf⟩ := DataW.trod_array Try.underlying37 h
  obtain ⟨a, b, rfl⟩ := len2 (hlen.trans (by kernel_rfl))
  obtain ⟨x0, x1, rfl⟩ := len2 hxs
  have e36 : Try.prog.cellsOf 36 = 1 := by kernel_rfl
  have f0 : DataW.trod enc Try.prog W base sp held m 36 [a] = some x0 := by have := hf 0 (by decide); simpa [e36] using this
  have f1 : DataW.trod enc Try.prog W base sp held m 36 [b] = some x1 := by have := hf 1 (by decide); simpa [e36] using this
  obtain ⟨n0, h0, _, w0⟩ := DataW.trod_int Try.underlying36 f0
  obtain ⟨n1, h1, _, w1⟩ := DataW.trod_int Try.underlying36 f1
  simp only [List.cons.injEq, and_true] at h0 h1
  exact ⟨⟨n0, n1⟩, by simp only [h0, h1], wf_i8 w0, wf_i8 w1⟩
set_option maxRecDepth 20000 in
theorem open_steps {v : Value} {d : DataW H} {p : List MemPlace} {base' b : Nat} (hok : Value.okWide Try.prog W .any base' 31 v) (h : DataW.Trod enc Try.prog W b (fun _ => true) true 31 v d p) :
    ∃ (A : Option Addr) (n c : Nat) (l : List (Int × Int)), v = .slice A n c ∧ Reads W W.heap.size 2 A n (stepsV l) ∧ (∀ p ∈ l, (-128 ≤ p.1 ∧ p.1 ≤ 127) ∧ (-128 ≤ p.2 ∧ p.2 ≤ 127)) ∧ n ≤ c ∧ c ≤ 9223372036854775807 := by
  obtain ⟨a, len, cap, rfl⟩ := okWide_slice Try.underlying31 hok
  obtain ⟨fuel, hf⟩ := h
  obtain ⟨A, n, c, l, h1, h2, h3⟩ := open_seq 2 (fun p : Int × Int => [.int .i8 p.1, .int .i8 p.2]) _ Try.underlying31 (by kernel_rfl) (fun _ => rfl) (by decide) (fun _ _ _ h => open_step h) hf
  simp [Value.cells] at h1
  obtain ⟨rfl, rfl, rfl⟩ := h1
  exact ⟨_, _, _, l, rfl, h2, h3⟩
theorem okWide_arr {P : Program} {w : World} {r : Reach} {base n : Nat} {t e : TypeId} {v : Value} (ht : P.underlying t = some (.array n e)) (h : Value.okWide P w r base t v) : ∃ cs, v = .agg cs ∧ cs.size = P.cellsOf t := by
  simp only [Value.okWide, ht] at h
  obtain ⟨cs, h1, h2, _⟩ := h
  exact ⟨cs, h1, h2⟩
set_option maxRecDepth 20000 in
theorem open_two {v : Value} {d : DataW H} {p : List MemPlace} {base' b : Nat} (hok : Value.okWide Try.prog W .any base' 37 v) (h : DataW.Trod enc Try.prog W b (fun _ => true) true 37 v d p) :
    ∃ px py : Int, v = .agg #[.int .i8 px, .int .i8 py] ∧ (-128 ≤ px ∧ px ≤ 127) ∧ (-128 ≤ py ∧ py ≤ 127) := by
  obtain ⟨cs, rfl, hsz⟩ := okWide_arr Try.underlying37 hok
  obtain ⟨fuel, hf⟩ := h
  obtain ⟨l, rfl⟩ : ∃ l : List Value, cs = l.toArray := ⟨cs.toList, by simp⟩
  obtain ⟨q, hq, hb⟩ := open_step hf
  simp only [Value.cells] at hq
  exact ⟨q.1, q.2, by rw [hq], hb⟩
end
end Go.Proofs.Ythkgeeonhppliaa
