/- How an item of layer 23 is read as an argument. (Printed by gen_openitem.py.) -/
import Derived.Test.YthafngfnbnehiaaGreatDoorOpenM
set_option linter.unusedSimpArgs false
set_option linter.unusedVariables false
namespace Go.Proofs.YthafngfnbnehiaaGreatDoor
open Go.RowKit Go.ChangeShapes Go.WideShapes Go.Deep
theorem len9 {α : Type} {l : List α} (h : l.length = 9) : ∃ a0 a1 a2 a3 a4 a5 a6 a7 a8, l = [a0, a1, a2, a3, a4, a5, a6, a7, a8] := by
  match l, h with
  | [a0, a1, a2, a3, a4, a5, a6, a7, a8], _ => exact ⟨a0, a1, a2, a3, a4, a5, a6, a7, a8, rfl⟩
section
variable {H : Type} {enc : TypeId × Value → H} {P : Program} {W : World} {base : Nat} {sp : Nat → Bool} {held : Bool}
set_option maxRecDepth 20000 in
theorem open_item {v : Value} {d : DataW H} {p : List MemPlace} {base' b : Nat} (hok : Value.okWide Tryz.prog W .any base' 24 v) (h : DataW.Trod enc Tryz.prog W b (fun _ => true) true 24 v d p) :
    ∃ (n0 n1 n2 n3 n4 : Int) (n5 n6 : Bool) (n7 n8 : Int), v = .agg #[.int .i64 n0, .int .i64 n1, .int .i64 n2, .int .i8 n3, .int .i8 n4, .bool n5, .bool n6, .int .u8 n7, .int .u8 n8] := by
  obtain ⟨cs, rfl, hcs⟩ := okWide_struct Tryz.underlying24 hok
  obtain ⟨fuel, hf⟩ := h
  obtain ⟨xs, m, _, _, hlen, hxs, hf⟩ := DataW.trod_struct Tryz.underlying24 hf
  obtain ⟨l, rfl⟩ : ∃ l : List Value, cs = l.toArray := ⟨cs.toList, by simp⟩
  simp only [Value.cells] at hlen hf
  obtain ⟨a0, a1, a2, a3, a4, a5, a6, a7, a8, rfl⟩ := len9 (hlen.trans (by kernel_rfl))
  obtain ⟨x0, x1, x2, x3, x4, x5, x6, x7, x8, rfl⟩ := len9 (hxs.trans (by rfl))
  have eint : Tryz.prog.cellsOf 3 = 1 := by kernel_rfl
  have eint8 : Tryz.prog.cellsOf 22 = 1 := by kernel_rfl
  have ebool : Tryz.prog.cellsOf 4 = 1 := by kernel_rfl
  have euint8 : Tryz.prog.cellsOf 5 = 1 := by kernel_rfl
  have f0 : DataW.trod enc Tryz.prog W b (fun _ => true) true m 3 [a0] = some x0 := by have := hf 0 _ rfl; simpa [eint] using this
  have f1 : DataW.trod enc Tryz.prog W b (fun _ => true) true m 3 [a1] = some x1 := by have := hf 1 _ rfl; simpa [eint] using this
  have f2 : DataW.trod enc Tryz.prog W b (fun _ => true) true m 3 [a2] = some x2 := by have := hf 2 _ rfl; simpa [eint] using this
  have f3 : DataW.trod enc Tryz.prog W b (fun _ => true) true m 22 [a3] = some x3 := by have := hf 3 _ rfl; simpa [eint8] using this
  have f4 : DataW.trod enc Tryz.prog W b (fun _ => true) true m 22 [a4] = some x4 := by have := hf 4 _ rfl; simpa [eint8] using this
  have f5 : DataW.trod enc Tryz.prog W b (fun _ => true) true m 4 [a5] = some x5 := by have := hf 5 _ rfl; simpa [ebool] using this
  have f6 : DataW.trod enc Tryz.prog W b (fun _ => true) true m 4 [a6] = some x6 := by have := hf 6 _ rfl; simpa [ebool] using this
  have f7 : DataW.trod enc Tryz.prog W b (fun _ => true) true m 5 [a7] = some x7 := by have := hf 7 _ rfl; simpa [euint8] using this
  have f8 : DataW.trod enc Tryz.prog W b (fun _ => true) true m 5 [a8] = some x8 := by have := hf 8 _ rfl; simpa [euint8] using this
  obtain ⟨n0, h0, _, w0⟩ := DataW.trod_int Tryz.underlying3 f0
  obtain ⟨n1, h1, _, w1⟩ := DataW.trod_int Tryz.underlying3 f1
  obtain ⟨n2, h2, _, w2⟩ := DataW.trod_int Tryz.underlying3 f2
  obtain ⟨n3, h3, _, w3⟩ := DataW.trod_int Tryz.underlying22 f3
  obtain ⟨n4, h4, _, w4⟩ := DataW.trod_int Tryz.underlying22 f4
  obtain ⟨n5, h5, _⟩ := DataW.trod_bool Tryz.underlying4 f5
  obtain ⟨n6, h6, _⟩ := DataW.trod_bool Tryz.underlying4 f6
  obtain ⟨n7, h7, _, w7⟩ := DataW.trod_int Tryz.underlying5 f7
  obtain ⟨n8, h8, _, w8⟩ := DataW.trod_int Tryz.underlying5 f8
  simp only [List.cons.injEq, and_true] at h0 h1 h2 h3 h4 h5 h6 h7 h8
  exact ⟨n0, n1, n2, n3, n4, n5, n6, n7, n8, by simp only [h0, h1, h2, h3, h4, h5, h6, h7, h8]⟩
end
end Go.Proofs.YthafngfnbnehiaaGreatDoor
