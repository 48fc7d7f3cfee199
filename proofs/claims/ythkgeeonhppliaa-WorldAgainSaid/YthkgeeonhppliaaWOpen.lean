/- How the arguments of the laws of layer 13 are read: a start, rows of ops. -/
import Derived.Test.YthkgeeonhppliaaWAct
import Derived.Test.YthkgeeonhppliaaOpenM
set_option linter.unusedSimpArgs false
set_option linter.unusedVariables false
namespace Go.Proofs.Ythkgeeonhppliaa
open Go.RowKit Go.ChangeShapes Go.WideShapes Go.Deep
def opCells (o : OpV) : List Value := [.int .i64 o.kind, .int .i64 o.id, .int .i64 o.by_, .int .u32 o.c.num, .int .i8 o.c.mx, .int .i8 o.c.my, .bool o.c.fire, .int .u32 o.c.view, .int .u8 o.c.frac]
def opsV (l : List OpV) : List Value := l.flatMap opCells
theorem opsV_length (l : List OpV) : (opsV l).length = l.length * 9 := flat_length (f := opCells) (size := 9) (fun _ => rfl) l
theorem opsV_at {l : List OpV} {k : Nat} {o : OpV} (h : l[k]? = some o) (j : Nat) (hj : j < 9) : (opsV l)[k * 9 + j]? = (opCells o)[j]? := flat_at (f := opCells) (size := 9) (fun _ => rfl) l k j o h hj
def OpFine (o : OpV) : Prop := OpOk o ∧ -128 ≤ o.c.mx ∧ -128 ≤ o.c.my
section
variable {H : Type} {enc : TypeId × Value → H} {W : World} {base : Nat} {sp : Nat → Bool} {held : Bool}
theorem len9 {α : Type} {l : List α} (h : l.length = 9) : ∃ a b c d e f g i j, l = [a, b, c, d, e, f, g, i, j] := by
  match l, h with
  | [a, b, c, d, e, f, g, i, j], _ => exact ⟨a, b, c, d, e, f, g, i, j, rfl⟩
set_option maxRecDepth 20000 in
theorem open_cmd {fuel : Nat} {cs : List Value} {x : DataW H × List MemPlace} (h : DataW.trod enc Try.prog W base sp held fuel 64 cs = some x) :
    ∃ c : CmdV, cs = [.int .u32 c.num, .int .i8 c.mx, .int .i8 c.my, .bool c.fire, .int .u32 c.view, .int .u8 c.frac] ∧ (-128 ≤ c.mx ∧ c.mx ≤ 127) ∧ (-128 ≤ c.my ∧ c.my ≤ 127) := by
  obtain ⟨xs, m, _, _, hlen, hxs, hf⟩ := DataW.trod_struct Try.underlying64 h
  obtain ⟨a, b, c, d, e, f, rfl⟩ := len6 (hlen.trans (by kernel_rfl))
  obtain ⟨x0, x1, x2, x3, x4, x5, rfl⟩ := len6 (hxs.trans (by rfl))
  have e0 : Try.prog.cellsOf 62 = 1 := by kernel_rfl
  have e1 : Try.prog.cellsOf 36 = 1 := by kernel_rfl
  have e2 : Try.prog.cellsOf 4 = 1 := by kernel_rfl
  have e3 : Try.prog.cellsOf 5 = 1 := by kernel_rfl
  have f0 : DataW.trod enc Try.prog W base sp held m 62 [a] = some x0 := by have := hf 0 _ rfl; simpa [e0] using this
  have f1 : DataW.trod enc Try.prog W base sp held m 36 [b] = some x1 := by have := hf 1 _ rfl; simpa [e1] using this
  have f2 : DataW.trod enc Try.prog W base sp held m 36 [c] = some x2 := by have := hf 2 _ rfl; simpa [e1] using this
  have f3 : DataW.trod enc Try.prog W base sp held m 4 [d] = some x3 := by have := hf 3 _ rfl; simpa [e2] using this
  have f4 : DataW.trod enc Try.prog W base sp held m 62 [e] = some x4 := by have := hf 4 _ rfl; simpa [e0] using this
  have f5 : DataW.trod enc Try.prog W base sp held m 5 [f] = some x5 := by have := hf 5 _ rfl; simpa [e3] using this
  obtain ⟨n0, h0, _, w0⟩ := DataW.trod_int Try.underlying62 f0
  obtain ⟨n1, h1, _, w1⟩ := DataW.trod_int Try.underlying36 f1
  obtain ⟨n2, h2, _, w2⟩ := DataW.trod_int Try.underlying36 f2
  obtain ⟨n3, h3, _⟩ := DataW.trod_bool Try.underlying4 f3
  obtain ⟨n4, h4, _, w4⟩ := DataW.trod_int Try.underlying62 f4
  obtain ⟨n5, h5, _, w5⟩ := DataW.trod_int Try.underlying5 f5
  simp only [List.cons.injEq, and_true] at h0 h1 h2 h3 h4 h5
  exact ⟨⟨n0, n1, n2, n3, n4, n5⟩, by simp only [h0, h1, h2, h3, h4, h5], wf_i8 w1, wf_i8 w2⟩
set_option maxRecDepth 20000 in
theorem open_op {fuel : Nat} {cs : List Value} {x : DataW H × List MemPlace} (h : DataW.trod enc Try.prog W base sp held fuel 66 cs = some x) : ∃ o : OpV, cs = opCells o ∧ OpFine o := by
  obtain ⟨xs, m, _, _, hlen, hxs, hf⟩ := DataW.trod_struct Try.underlying66 h
  obtain ⟨a, b, c, d, e, f, g, i, j, rfl⟩ := len9 (hlen.trans (by kernel_rfl))
  obtain ⟨x0, x1, x2, x3, rfl⟩ := len4 (hxs.trans (by rfl))
  have e3 : Try.prog.cellsOf 3 = 1 := by kernel_rfl
  have e6 : Try.prog.cellsOf 64 = 6 := by kernel_rfl
  have f0 : DataW.trod enc Try.prog W base sp held m 3 [a] = some x0 := by have := hf 0 _ rfl; simpa [e3] using this
  have f1 : DataW.trod enc Try.prog W base sp held m 3 [b] = some x1 := by have := hf 1 _ rfl; simpa [e3] using this
  have f2 : DataW.trod enc Try.prog W base sp held m 3 [c] = some x2 := by have := hf 2 _ rfl; simpa [e3] using this
  have f3 : DataW.trod enc Try.prog W base sp held m 64 [d, e, f, g, i, j] = some x3 := by have := hf 3 _ rfl; simpa [e3, e6] using this
  obtain ⟨n0, h0, _, w0⟩ := DataW.trod_int Try.underlying3 f0
  obtain ⟨n1, h1, _, w1⟩ := DataW.trod_int Try.underlying3 f1
  obtain ⟨n2, h2, _, w2⟩ := DataW.trod_int Try.underlying3 f2
  obtain ⟨q, h3, q1, q2⟩ := open_cmd f3
  simp only [List.cons.injEq, and_true] at h0 h1 h2 h3
  obtain ⟨rfl, rfl, rfl, rfl, rfl, rfl⟩ := h3
  exact ⟨⟨n0, n1, n2, q⟩, by simp only [opCells, h0, h1, h2], ⟨(wf_i64 w2).2, q1.2, q2.2⟩, q1.1, q2.1⟩
set_option maxRecDepth 20000 in
theorem open_ops {v : Value} {d : DataW H} {p : List MemPlace} {base' b : Nat} (hok : Value.okWide Try.prog W .any base' 55 v) (h : DataW.Trod enc Try.prog W b (fun _ => true) true 55 v d p) :
    ∃ (A : Option Addr) (n c : Nat) (l : List OpV), v = .slice A n c ∧ Reads W W.heap.size 9 A n (opsV l) ∧ (∀ p ∈ l, OpFine p) ∧ n ≤ c ∧ c ≤ 9223372036854775807 := by
  obtain ⟨a, len, cap, rfl⟩ := okWide_slice Try.underlying55 hok
  obtain ⟨fuel, hf⟩ := h
  obtain ⟨A, n, c, l, h1, h2, h3⟩ := open_seq 9 opCells _ Try.underlying55 (by kernel_rfl) (fun _ => rfl) (by decide) (fun _ _ _ h => open_op h) hf
  simp [Value.cells] at h1
  obtain ⟨rfl, rfl, rfl⟩ := h1
  exact ⟨_, _, _, l, rfl, h2, h3⟩
set_option maxRecDepth 20000 in
theorem open_start {v : Value} {d : DataW H} {p : List MemPlace} {base' b : Nat} (hok : Value.okWide Try.prog W .any base' 54 v) (h : DataW.Trod enc Try.prog W b (fun _ => true) true 54 v d p) :
    ∃ x y : Int, v = .agg #[.int .u64 x, .int .i64 y] := by
  obtain ⟨cs, rfl, hcs⟩ := okWide_struct Try.underlying54 hok
  obtain ⟨fuel, hf⟩ := h
  obtain ⟨xs, m, _, _, hlen, hxs, hf⟩ := DataW.trod_struct Try.underlying54 hf
  obtain ⟨l, rfl⟩ : ∃ l : List Value, cs = l.toArray := ⟨cs.toList, by simp⟩
  simp only [Value.cells] at hlen hf
  obtain ⟨a, c, rfl⟩ := len2 (hlen.trans (by kernel_rfl))
  obtain ⟨x0, x1, rfl⟩ := len2 (hxs.trans (by rfl))
  have e3 : Try.prog.cellsOf 3 = 1 := by kernel_rfl
  have e4 : Try.prog.cellsOf 52 = 1 := by kernel_rfl
  have f0 : DataW.trod enc Try.prog W b (fun _ => true) true m 52 [a] = some x0 := by have := hf 0 _ rfl; simpa [e4] using this
  have f1 : DataW.trod enc Try.prog W b (fun _ => true) true m 3 [c] = some x1 := by have := hf 1 _ rfl; simpa [e3, e4] using this
  obtain ⟨n0, h0, _, w0⟩ := DataW.trod_int Try.underlying52 f0
  obtain ⟨n1, h1, _, w1⟩ := DataW.trod_int Try.underlying3 f1
  simp only [List.cons.injEq, and_true] at h0 h1
  exact ⟨n0, n1, by simp only [h0, h1]⟩
end
end Go.Proofs.Ythkgeeonhppliaa
