/- How bytes are read as an argument. How rows of ops of layer 21 are read as arguments: with their rows of commands and their bytes. (Printed by gen_open21.py.) Layer 21's laws: few. -/
import Derived.Test.YtojbijapdkohlaaGreatDoorQ03SrvPut
import Derived.Test.YtojbijapdkohlaaGreatDoorQ37FrameOpen
import Derived.Test.YtojbijapdkohlaaGreatDoorQ04SrvTell
import Derived.WalkKit
set_option linter.unusedSimpArgs false
set_option linter.unusedVariables false
namespace Go.Proofs.YtojbijapdkohlaaGreatDoor
open Go.RowKit Go.ChangeShapes Go.WideShapes
theorem wf_u8 {x : Int} (h : (Lit.int .u8 x).wf = true) : ∃ c : UInt8, x = (c.toNat : Int) := by
  have h' : 0 ≤ x ∧ x ≤ 255 := by simpa [Lit.wf, IntKind.min, IntKind.max, IntKind.signed, IntKind.bits] using h
  exact ⟨UInt8.ofNat x.toNat, by rw [UInt8.toNat_ofNat']; omega⟩
theorem ints_bytes : ∀ zs : List Int, (∀ n ∈ zs, (Lit.int .u8 n).wf = true) → ∃ l : List UInt8, zs.map (Value.int .u8) = bytesV l
  | [], _ => ⟨[], rfl⟩
  | z :: zs, h => by
    obtain ⟨c, rfl⟩ := wf_u8 (h z (by simp))
    obtain ⟨l, hl⟩ := ints_bytes zs (fun n hn => h n (by simp [hn]))
    exact ⟨c :: l, by simp [bytesV, byteV, hl]⟩
section
variable {H : Type} {enc : TypeId × Value → H} {P : Program} {W : World}
theorem open_bytes {t e : TypeId} (ht : P.underlying t = some (.slice e)) (he : P.underlying e = some (.int .u8)) (hc : P.cellsOf e = 1) {v : Value} {d : DataW H} {p : List MemPlace} {base b : Nat}
    (hok : Value.okWide P W .any base t v) (h : DataW.Trod enc P W b (fun _ => true) true t v d p) :
    ∃ A n c l, v = .slice A n c ∧ Reads W W.heap.size 1 A n (bytesV l) ∧ n ≤ 9223372036854775807 ∧ n ≤ c := by
  obtain ⟨a, len, cap, rfl⟩ := okWide_slice ht hok
  obtain ⟨fuel, hf⟩ := h
  rcases open_ints ht he hc hf with ⟨hcs, _⟩ | ⟨x, l, c, zs, hcs, _, hl, hm, hz, _, hcell, hwz⟩
  · simp [Value.cells] at hcs
    obtain ⟨rfl, rfl, rfl⟩ := hcs
    exact ⟨_, _, _, [], rfl, Reads.none_, by omega, by omega⟩
  · simp [Value.cells] at hcs
    obtain ⟨rfl, rfl, rfl⟩ := hcs
    simp only [if_true] at hz
    obtain ⟨bs, hbs⟩ := ints_bytes (zs.take len) (fun n hn => hwz n (List.mem_of_mem_take hn))
    unfold maxLen at hm
    refine ⟨_, _, _, bs, rfl, ?_, by omega, by omega⟩
    rw [← hbs]
    refine ⟨by simp; omega, fun hn => ⟨x, rfl, ?_, fun j u hu => ?_⟩⟩
    · have := cell_lt (hcell 0 (by omega))
      rwa [block_of_add] at this
    · have hj : j < len := by
        have := (List.getElem?_eq_some_iff.1 hu).1
        simp at this; omega
      rw [hcell j (by omega)]
      rw [List.getElem?_map, List.getElem?_take, if_pos hj] at hu
      rw [← hu, List.getD_eq_getElem?_getD, List.getElem?_eq_getElem (by omega : j < zs.length)]
      rfl
end
end Go.Proofs.YtojbijapdkohlaaGreatDoor
set_option linter.unusedSimpArgs false
set_option linter.unusedVariables false
namespace Go.Proofs.YtojbijapdkohlaaGreatDoor
open Go.RowKit Go.ChangeShapes Go.WideShapes Go.Deep
structure Op21 where
  kind : Int
  slot : Int
  hn : Int
  hany : Bool
  hack : Int
  hmask : Int
  wants : Int
  tick : Int
  rA : Option Addr
  rN : Nat
  rC : Nat
  turn : Int
  by_ : Int
  bA : Option Addr
  bN : Nat
  bC : Nat
  row : List CmdV
  b : List UInt8
def op21Cells (o : Op21) : List Value := [.int .i64 o.kind, .int .i64 o.slot, .int .u16 o.hn, .bool o.hany, .int .u16 o.hack, .int .u32 o.hmask, .int .u32 o.wants, .int .i32 o.tick, .slice o.rA o.rN o.rC, .int .u16 o.turn, .int .u8 o.by_, .slice o.bA o.bN o.bC]
def ops21V (l : List Op21) : List Value := l.flatMap op21Cells
theorem ops21V_length (l : List Op21) : (ops21V l).length = l.length * 12 := flat_length (f := op21Cells) (size := 12) (fun _ => rfl) l
theorem ops21V_at {l : List Op21} {k : Nat} {o : Op21} (h : l[k]? = some o) (j : Nat) (hj : j < 12) : (ops21V l)[k * 12 + j]? = (op21Cells o)[j]? := flat_at (f := op21Cells) (size := 12) (fun _ => rfl) l k j o h hj
/-- A command's numbers are such as its kinds have. -/
def CmdW (c : CmdV) : Prop := (0 ≤ c.num ∧ c.num ≤ 4294967295) ∧ (-128 ≤ c.mx ∧ c.mx ≤ 127) ∧ (-128 ≤ c.my ∧ c.my ≤ 127) ∧ (0 ≤ c.view ∧ c.view ≤ 4294967295) ∧ (0 ≤ c.frac ∧ c.frac ≤ 255)
/-- What stands in the world of an op. -/
structure Op21At (w : World) (B : Nat) (o : Op21) : Prop where
  kind : -9223372036854775808 ≤ o.kind ∧ o.kind ≤ 9223372036854775807
  slot : -9223372036854775808 ≤ o.slot ∧ o.slot ≤ 9223372036854775807
  hn : 0 ≤ o.hn ∧ o.hn ≤ 65535
  hack : 0 ≤ o.hack ∧ o.hack ≤ 65535
  hmask : 0 ≤ o.hmask ∧ o.hmask ≤ 4294967295
  wants : 0 ≤ o.wants ∧ o.wants ≤ 4294967295
  tick : -2147483648 ≤ o.tick ∧ o.tick ≤ 2147483647
  turn : 0 ≤ o.turn ∧ o.turn ≤ 65535
  by_ : 0 ≤ o.by_ ∧ o.by_ ≤ 255
  row : Reads w B 6 o.rA o.rN (cmdsV o.row)
  cmds : ∀ c ∈ o.row, CmdW c
  b : Reads w B 1 o.bA o.bN (bytesV o.b)
  rc : o.rN ≤ o.rC ∧ o.rC ≤ 9223372036854775807
  bc : o.bN ≤ o.bC ∧ o.bC ≤ 9223372036854775807
theorem wf_u16 {x : Int} (h : (Lit.int .u16 x).wf = true) : 0 ≤ x ∧ x ≤ 65535 := by simpa [Lit.wf, IntKind.min, IntKind.max, IntKind.signed, IntKind.bits] using h
theorem wf_u32 {x : Int} (h : (Lit.int .u32 x).wf = true) : 0 ≤ x ∧ x ≤ 4294967295 := by simpa [Lit.wf, IntKind.min, IntKind.max, IntKind.signed, IntKind.bits] using h
theorem wf_i32 {x : Int} (h : (Lit.int .i32 x).wf = true) : -2147483648 ≤ x ∧ x ≤ 2147483647 := by simpa [Lit.wf, IntKind.min, IntKind.max, IntKind.signed, IntKind.bits] using h
theorem wf_u8b {x : Int} (h : (Lit.int .u8 x).wf = true) : 0 ≤ x ∧ x ≤ 255 := by simpa [Lit.wf, IntKind.min, IntKind.max, IntKind.signed, IntKind.bits] using h
theorem lenN4 {α : Type} {l : List α} (h : l.length = 4) : ∃ a0 a1 a2 a3, l = [a0, a1, a2, a3] := by
  match l, h with
  | [a0, a1, a2, a3], _ => exact ⟨a0, a1, a2, a3, rfl⟩
theorem lenN6 {α : Type} {l : List α} (h : l.length = 6) : ∃ a0 a1 a2 a3 a4 a5, l = [a0, a1, a2, a3, a4, a5] := by
  match l, h with
  | [a0, a1, a2, a3, a4, a5], _ => exact ⟨a0, a1, a2, a3, a4, a5, rfl⟩
theorem lenN9 {α : Type} {l : List α} (h : l.length = 9) : ∃ a0 a1 a2 a3 a4 a5 a6 a7 a8, l = [a0, a1, a2, a3, a4, a5, a6, a7, a8] := by
  match l, h with
  | [a0, a1, a2, a3, a4, a5, a6, a7, a8], _ => exact ⟨a0, a1, a2, a3, a4, a5, a6, a7, a8, rfl⟩
theorem lenN12 {α : Type} {l : List α} (h : l.length = 12) : ∃ a0 a1 a2 a3 a4 a5 a6 a7 a8 a9 a10 a11, l = [a0, a1, a2, a3, a4, a5, a6, a7, a8, a9, a10, a11] := by
  match l, h with
  | [a0, a1, a2, a3, a4, a5, a6, a7, a8, a9, a10, a11], _ => exact ⟨a0, a1, a2, a3, a4, a5, a6, a7, a8, a9, a10, a11, rfl⟩
section
variable {H : Type} {enc : TypeId × Value → H} {W : World} {base : Nat} {sp : Nat → Bool} {held : Bool}
theorem open_byte1 {fuel : Nat} {cs : List Value} {x : DataW H × List MemPlace} (h : DataW.trod enc Tryz.prog W base sp held fuel 5 cs = some x) : ∃ c : UInt8, cs = [byteV c] ∧ True := by
  obtain ⟨n0, h0, _, w0⟩ := DataW.trod_int Tryz.underlying5 h
  obtain ⟨c, hc⟩ := wf_u8 w0
  exact ⟨c, by rw [h0, hc]; rfl, trivial⟩
theorem bytesV_flat (l : List UInt8) : l.flatMap (fun c : UInt8 => [byteV c]) = bytesV l := by
  unfold bytesV
  induction l with
  | nil => rfl
  | cons a l ih => rw [List.flatMap_cons, ih]; rfl
set_option maxRecDepth 20000 in
theorem open_cmdW {fuel : Nat} {cs : List Value} {x : DataW H × List MemPlace} (h : DataW.trod enc Tryz.prog W base sp held fuel 121 cs = some x) : ∃ c : CmdV, cs = cmdCells c ∧ CmdW c := by
  obtain ⟨xs, m, _, _, hlen, hxs, hf⟩ := DataW.trod_struct Tryz.underlying121 h
  obtain ⟨a0, a1, a2, a3, a4, a5, rfl⟩ := lenN6 (hlen.trans (by kernel_rfl))
  obtain ⟨x0, x1, x2, x3, x4, x5, rfl⟩ := lenN6 (hxs.trans (by rfl))
  have e0 : Tryz.prog.cellsOf 96 = 1 := by kernel_rfl
  have e1 : Tryz.prog.cellsOf 32 = 1 := by kernel_rfl
  have e2 : Tryz.prog.cellsOf 4 = 1 := by kernel_rfl
  have e3 : Tryz.prog.cellsOf 5 = 1 := by kernel_rfl
  have f0 : DataW.trod enc Tryz.prog W base sp held m 96 [a0] = some x0 := by have := hf 0 _ rfl; simpa [e0, e1, e2, e3] using this
  have f1 : DataW.trod enc Tryz.prog W base sp held m 32 [a1] = some x1 := by have := hf 1 _ rfl; simpa [e0, e1, e2, e3] using this
  have f2 : DataW.trod enc Tryz.prog W base sp held m 32 [a2] = some x2 := by have := hf 2 _ rfl; simpa [e0, e1, e2, e3] using this
  have f3 : DataW.trod enc Tryz.prog W base sp held m 4 [a3] = some x3 := by have := hf 3 _ rfl; simpa [e0, e1, e2, e3] using this
  have f4 : DataW.trod enc Tryz.prog W base sp held m 96 [a4] = some x4 := by have := hf 4 _ rfl; simpa [e0, e1, e2, e3] using this
  have f5 : DataW.trod enc Tryz.prog W base sp held m 5 [a5] = some x5 := by have := hf 5 _ rfl; simpa [e0, e1, e2, e3] using this
  obtain ⟨n0, h0, _, w0⟩ := DataW.trod_int Tryz.underlying96 f0
  obtain ⟨n1, h1, _, w1⟩ := DataW.trod_int Tryz.underlying32 f1
  obtain ⟨n2, h2, _, w2⟩ := DataW.trod_int Tryz.underlying32 f2
  obtain ⟨n3, h3, _⟩ := DataW.trod_bool Tryz.underlying4 f3
  obtain ⟨n4, h4, _, w4⟩ := DataW.trod_int Tryz.underlying96 f4
  obtain ⟨n5, h5, _, w5⟩ := DataW.trod_int Tryz.underlying5 f5
  simp only [List.cons.injEq, and_true] at h0 h1 h2 h3 h4 h5
  exact ⟨⟨n0, n1, n2, n3, n4, n5⟩, by simp only [cmdCells, h0, h1, h2, h3, h4, h5], wf_u32 w0, wf_i8 w1, wf_i8 w2, wf_u32 w4, wf_u8b w5⟩
set_option maxRecDepth 20000 in
theorem open_hdr14 {fuel : Nat} {cs : List Value} {x : DataW H × List MemPlace} (h : DataW.trod enc Tryz.prog W base sp held fuel 98 cs = some x) : ∃ (n0 : Int) (n1 : Bool) (n2 n3 : Int), cs = [.int .u16 n0, .bool n1, .int .u16 n2, .int .u32 n3] ∧ (0 ≤ n0 ∧ n0 ≤ 65535) ∧ (0 ≤ n2 ∧ n2 ≤ 65535) ∧ (0 ≤ n3 ∧ n3 ≤ 4294967295) := by
  obtain ⟨xs, m, _, _, hlen, hxs, hf⟩ := DataW.trod_struct Tryz.underlying98 h
  obtain ⟨a0, a1, a2, a3, rfl⟩ := lenN4 (hlen.trans (by kernel_rfl))
  obtain ⟨x0, x1, x2, x3, rfl⟩ := lenN4 (hxs.trans (by rfl))
  have e0 : Tryz.prog.cellsOf 95 = 1 := by kernel_rfl
  have e1 : Tryz.prog.cellsOf 4 = 1 := by kernel_rfl
  have e2 : Tryz.prog.cellsOf 96 = 1 := by kernel_rfl
  have f0 : DataW.trod enc Tryz.prog W base sp held m 95 [a0] = some x0 := by have := hf 0 _ rfl; simpa [e0, e1, e2] using this
  have f1 : DataW.trod enc Tryz.prog W base sp held m 4 [a1] = some x1 := by have := hf 1 _ rfl; simpa [e0, e1, e2] using this
  have f2 : DataW.trod enc Tryz.prog W base sp held m 95 [a2] = some x2 := by have := hf 2 _ rfl; simpa [e0, e1, e2] using this
  have f3 : DataW.trod enc Tryz.prog W base sp held m 96 [a3] = some x3 := by have := hf 3 _ rfl; simpa [e0, e1, e2] using this
  obtain ⟨n0, h0, _, w0⟩ := DataW.trod_int Tryz.underlying95 f0
  obtain ⟨n1, h1, _⟩ := DataW.trod_bool Tryz.underlying4 f1
  obtain ⟨n2, h2, _, w2⟩ := DataW.trod_int Tryz.underlying95 f2
  obtain ⟨n3, h3, _, w3⟩ := DataW.trod_int Tryz.underlying96 f3
  simp only [List.cons.injEq, and_true] at h0 h1 h2 h3
  exact ⟨n0, n1, n2, n3, by simp only [h0, h1, h2, h3], wf_u16 w0, wf_u16 w2, wf_u32 w3⟩
set_option maxRecDepth 20000 in
set_option maxHeartbeats 2000000 in
theorem open_op21 {fuel : Nat} {cs : List Value} {x : DataW H × List MemPlace} (h : DataW.trod enc Tryz.prog W base sp held fuel 102 cs = some x) : ∃ o : Op21, cs = op21Cells o ∧ Op21At W W.heap.size o := by
  obtain ⟨xs, m, _, _, hlen, hxs, hf⟩ := DataW.trod_struct Tryz.underlying102 h
  obtain ⟨a0, a1, a2, a3, a4, a5, a6, a7, a8, a9, a10, a11, rfl⟩ := lenN12 (hlen.trans (by kernel_rfl))
  obtain ⟨x0, x1, x2, x3, x4, x5, x6, x7, x8, rfl⟩ := lenN9 (hxs.trans (by rfl))
  have e0 : Tryz.prog.cellsOf 3 = 1 := by kernel_rfl
  have e1 : Tryz.prog.cellsOf 98 = 4 := by kernel_rfl
  have e2 : Tryz.prog.cellsOf 96 = 1 := by kernel_rfl
  have e3 : Tryz.prog.cellsOf 21 = 1 := by kernel_rfl
  have e4 : Tryz.prog.cellsOf 99 = 1 := by kernel_rfl
  have e5 : Tryz.prog.cellsOf 95 = 1 := by kernel_rfl
  have e6 : Tryz.prog.cellsOf 5 = 1 := by kernel_rfl
  have e7 : Tryz.prog.cellsOf 100 = 1 := by kernel_rfl
  have f0 : DataW.trod enc Tryz.prog W base sp held m 3 [a0] = some x0 := by have := hf 0 _ rfl; simpa [e0, e1, e2, e3, e4, e5, e6, e7] using this
  have f1 : DataW.trod enc Tryz.prog W base sp held m 3 [a1] = some x1 := by have := hf 1 _ rfl; simpa [e0, e1, e2, e3, e4, e5, e6, e7] using this
  have f2 : DataW.trod enc Tryz.prog W base sp held m 98 [a2, a3, a4, a5] = some x2 := by have := hf 2 _ rfl; simpa [e0, e1, e2, e3, e4, e5, e6, e7] using this
  have f3 : DataW.trod enc Tryz.prog W base sp held m 96 [a6] = some x3 := by have := hf 3 _ rfl; simpa [e0, e1, e2, e3, e4, e5, e6, e7] using this
  have f4 : DataW.trod enc Tryz.prog W base sp held m 21 [a7] = some x4 := by have := hf 4 _ rfl; simpa [e0, e1, e2, e3, e4, e5, e6, e7] using this
  have f5 : DataW.trod enc Tryz.prog W base sp held m 99 [a8] = some x5 := by have := hf 5 _ rfl; simpa [e0, e1, e2, e3, e4, e5, e6, e7] using this
  have f6 : DataW.trod enc Tryz.prog W base sp held m 95 [a9] = some x6 := by have := hf 6 _ rfl; simpa [e0, e1, e2, e3, e4, e5, e6, e7] using this
  have f7 : DataW.trod enc Tryz.prog W base sp held m 5 [a10] = some x7 := by have := hf 7 _ rfl; simpa [e0, e1, e2, e3, e4, e5, e6, e7] using this
  have f8 : DataW.trod enc Tryz.prog W base sp held m 100 [a11] = some x8 := by have := hf 8 _ rfl; simpa [e0, e1, e2, e3, e4, e5, e6, e7] using this
  obtain ⟨n0, h0, _, w0⟩ := DataW.trod_int Tryz.underlying3 f0
  obtain ⟨n1, h1, _, w1⟩ := DataW.trod_int Tryz.underlying3 f1
  obtain ⟨p0, p1, p2, p3, h2, v0, v2, v3⟩ := open_hdr14 f2
  obtain ⟨n3, h3, _, w3⟩ := DataW.trod_int Tryz.underlying96 f3
  obtain ⟨n4, h4, _, w4⟩ := DataW.trod_int Tryz.underlying21 f4
  obtain ⟨A, n, c, l, h5, r5, q5, z5, y5⟩ := open_seq 6 cmdCells CmdW Tryz.underlying99 (by kernel_rfl) (fun _ => rfl) (by decide) (fun _ _ _ h => open_cmdW h) f5
  obtain ⟨n6, h6, _, w6⟩ := DataW.trod_int Tryz.underlying95 f6
  obtain ⟨n7, h7, _, w7⟩ := DataW.trod_int Tryz.underlying5 f7
  obtain ⟨A2, n2, c2, l2, h8, r8, -, z8, y8⟩ := open_seq 1 (fun c : UInt8 => [byteV c]) (fun _ => True) Tryz.underlying100 (by kernel_rfl) (fun _ => rfl) (by decide) (fun _ _ _ h => open_byte1 h) f8
  simp only [List.cons.injEq, and_true] at h0 h1 h2 h3 h4 h5 h6 h7 h8
  obtain ⟨rfl, rfl, rfl, rfl⟩ := h2
  subst h0 h1 h3 h4 h5 h6 h7 h8
  rw [bytesV_flat] at r8
  exact ⟨⟨n0, n1, p0, p1, p2, p3, n3, n4, A, n, c, n6, n7, A2, n2, c2, l, l2⟩, rfl, ⟨wf_i64 w0, wf_i64 w1, v0, v2, v3, wf_u32 w3, wf_i32 w4, wf_u16 w6, wf_u8b w7, r5, q5, r8, ⟨z5, y5⟩, ⟨z8, y8⟩⟩⟩
set_option maxRecDepth 20000 in
theorem open_ops21 {v : Value} {d : DataW H} {p : List MemPlace} {base' b : Nat} (hok : Value.okWide Tryz.prog W .any base' 89 v) (h : DataW.Trod enc Tryz.prog W b (fun _ => true) true 89 v d p) :
    ∃ (A : Option Addr) (n c : Nat) (l : List Op21), v = .slice A n c ∧ Reads W W.heap.size 12 A n (ops21V l) ∧ (∀ p ∈ l, Op21At W W.heap.size p) ∧ n ≤ c ∧ c ≤ 9223372036854775807 := by
  obtain ⟨a, len, cap, rfl⟩ := okWide_slice Tryz.underlying89 hok
  obtain ⟨fuel, hf⟩ := h
  obtain ⟨A, n, c, l, h1, h2, h3⟩ := open_seq 12 op21Cells (Op21At W W.heap.size) Tryz.underlying89 (by kernel_rfl) (fun _ => rfl) (by decide) (fun _ _ _ h => open_op21 h) hf
  simp [Value.cells] at h1
  obtain ⟨rfl, rfl, rfl⟩ := h1
  exact ⟨_, _, _, l, rfl, h2, h3⟩
end
end Go.Proofs.YtojbijapdkohlaaGreatDoor
set_option linter.unusedSimpArgs false
set_option linter.unusedVariables false
namespace Go.Proofs.YtojbijapdkohlaaGreatDoor
open Go.RowKit
def fewO (o : Op21) : Bool := decide (o.rN ≤ 20) && decide (o.bN ≤ 300)
def fewL (l : List Op21) : Bool := (l.take 160).all fewO
theorem fewL_no {l : List Op21} {k : Nat} {x : Op21} (hx : l[k]? = some x) (hk : k < 160) (h : fewO x = false) : fewL l = false := by
  unfold fewL
  rw [List.all_eq_false]
  refine ⟨x, ?_, by rw [h]; decide⟩
  have h1 : (l.take 160)[k]? = some x := by rw [List.getElem?_take, if_pos hk, hx]
  exact List.mem_of_getElem? h1
theorem fewL_step {l : List Op21} {k : Nat} {x : Op21} (hx : l[k]? = some x) (h : fewO x = true) (ha : (l.take k).all fewO = true) : (l.take (k + 1)).all fewO = true := by
  have hk : k < l.length := (List.getElem?_eq_some_iff.1 hx).1
  have he : l[k] = x := (List.getElem?_eq_some_iff.1 hx).2
  rw [List.take_succ_eq_append_getElem hk, List.all_append, ha, he]
  simp [h]
theorem fewL_end {l : List Op21} {k : Nat} (ha : (l.take k).all fewO = true) (hk : l.length ≤ k ∨ 160 ≤ k) : fewL l = true := by
  unfold fewL
  rcases hk with h | h
  · rw [List.take_of_length_le h] at ha
    rw [List.all_eq_true] at ha ⊢
    exact fun x hx => ha x (List.mem_of_mem_take hx)
  · rw [List.all_eq_true] at ha ⊢
    exact fun x hx => ha x ((List.take_subset_take_left l h) hx)
set_option maxRecDepth 100000 in
set_option maxHeartbeats 4000000 in
theorem few21 (m : MapV) (s : MapS) (l : List Op21) (A : Option Addr) (n c : Nat) (w : World) (h : Reads w w.heap.size 12 A n (ops21V l)) (hn : n ≤ 9223372036854775807) :
    Calls Tryz.prog 43 #[(.agg #[.int .i64 m.W, .int .i64 m.H, .slice s.A s.n s.c, .slice s.A2 s.n2 s.c2]), .slice A n c] w fun e w' => e = .returned (.bool (fewL l && decide (s.n ≤ 200 ∧ s.n2 ≤ 200 ∧ n ≤ 150))) ∧ Below w.heap.size w w' := by
  have hl : l.length = n := by have := h.1; rw [ops21V_length] at this; omega
  have HL := Lib.hid hl
  have HR := Lib.hid h
  clear h hl
  go_enter Tryz.func43, Tryz.ntmps43
  go_wp2
  go_loop [5] (fun i => ∃ k : Nat, k ≤ n ∧ k ≤ 160 ∧ i = .int .i64 k ∧ (l.take k).all fewO = true) (fun i => 161 - (intOf i).toNat)
  case atStart => exact ⟨0, Nat.zero_le _, Nat.zero_le _, rfl, rfl⟩
  case round =>
    obtain ⟨k, hk, hk160, rfl, hok⟩ := hrel
    have HOK := Lib.hid hok
    clear hok
    by_cases hlt : k < n
    · have t0 : decide ((k : Int) < (n : Int)) = true := decide_eq_true (by omega)
      have t0n : decide (k < n) = true := decide_eq_true hlt
      by_cases h160 : k < 160
      · have t1 : decide ((k : Int) < 160) = true := decide_eq_true (by omega)
        have t1n : decide (k < 160) = true := decide_eq_true h160
        obtain ⟨g, off, rfl, hg, hc⟩ := HR.out.flat (by omega) (by decide)
        obtain ⟨x, hx⟩ : ∃ x, l[k]? = some x := ⟨_, List.getElem?_eq_getElem (by rw [HL.out]; exact hlt)⟩
        have c8 : w.cell? ⟨g, off + k * 12 + 8, none⟩ = some (.slice x.rA x.rN x.rC) := by rw [Nat.add_assoc]; exact hc _ _ ((ops21V_at hx 8 (by decide)).trans rfl)
        have c11 : w.cell? ⟨g, off + k * 12 + 11, none⟩ = some (.slice x.bA x.bN x.bC) := by rw [Nat.add_assoc]; exact hc _ _ ((ops21V_at hx 11 (by decide)).trans rfl)
        have HX := Lib.hid hx
        clear hx hc
        by_cases hr : x.rN ≤ 20
        · have t2 : decide ((20 : Int) < (x.rN : Int)) = false := decide_eq_false (by omega)
          have t2n : decide (20 < x.rN) = false := decide_eq_false (by omega)
          by_cases hb : x.bN ≤ 300
          · have t3 : decide ((300 : Int) < (x.bN : Int)) = false := decide_eq_false (by omega)
            have t3n : decide (300 < x.bN) = false := decide_eq_false (by omega)
            have hO : fewO x = true := by unfold fewO; rw [decide_eq_true hr, decide_eq_true hb]; rfl
            have HO := Lib.hid (fewL_step HX.out hO HOK.out)
            clear hO
            go_wp2
            exact ⟨⟨k + 1, by omega, by omega, by go_num, HO.out⟩, by simp [intOf]; omega⟩
          · have t3 : decide ((300 : Int) < (x.bN : Int)) = true := decide_eq_true (by omega)
            have t3n : decide (300 < x.bN) = true := decide_eq_true (by omega)
            have hO : fewO x = false := by unfold fewO; rw [decide_eq_false hb]; simp
            have HO := Lib.hid (fewL_no HX.out h160 hO)
            clear hO
            go_wp2
            go_ret
            exact ⟨by rw [HO.out]; rfl, (by repeat (first | with_reducible exact Below.refl _ _ | with_reducible assumption | with_reducible refine Below.drew ?_ | with_reducible refine below_drews ?_ _ | with_reducible refine Below.alloc ?_ (by first | omega | (simp; done) | (simp; omega)) _ | with_reducible refine Below.setCell ?_ (by first | omega | (simp; done) | (simp; omega)) _))⟩
        · have t2 : decide ((20 : Int) < (x.rN : Int)) = true := decide_eq_true (by omega)
          have t2n : decide (20 < x.rN) = true := decide_eq_true (by omega)
          have hO : fewO x = false := by unfold fewO; rw [decide_eq_false hr]; simp
          have HO := Lib.hid (fewL_no HX.out h160 hO)
          clear hO
          go_wp2
          go_ret
          exact ⟨by rw [HO.out]; rfl, (by repeat (first | with_reducible exact Below.refl _ _ | with_reducible assumption | with_reducible refine Below.drew ?_ | with_reducible refine below_drews ?_ _ | with_reducible refine Below.alloc ?_ (by first | omega | (simp; done) | (simp; omega)) _ | with_reducible refine Below.setCell ?_ (by first | omega | (simp; done) | (simp; omega)) _))⟩
      · have t1 : decide ((k : Int) < 160) = false := decide_eq_false (by omega)
        have t1n : decide (k < 160) = false := decide_eq_false h160
        have HE := Lib.hid (fewL_end HOK.out (.inr (by omega)))
        go_wp2
        all_goals
          go_ret
          refine ⟨ret_bool ?_, (by repeat (first | with_reducible exact Below.refl _ _ | with_reducible assumption | with_reducible refine Below.drew ?_ | with_reducible refine below_drews ?_ _ | with_reducible refine Below.alloc ?_ (by first | omega | (simp; done) | (simp; omega)) _ | with_reducible refine Below.setCell ?_ (by first | omega | (simp; done) | (simp; omega)) _))⟩
          rw [HE.out, Bool.eq_iff_iff]
          simp
          try omega
    · have t0 : decide ((k : Int) < (n : Int)) = false := decide_eq_false (by omega)
      have t0n : decide (k < n) = false := decide_eq_false hlt
      have HE := Lib.hid (fewL_end HOK.out (.inl (by rw [HL.out]; omega)))
      go_wp2
      all_goals
        go_ret
        refine ⟨ret_bool ?_, (by repeat (first | with_reducible exact Below.refl _ _ | with_reducible assumption | with_reducible refine Below.drew ?_ | with_reducible refine below_drews ?_ _ | with_reducible refine Below.alloc ?_ (by first | omega | (simp; done) | (simp; omega)) _ | with_reducible refine Below.setCell ?_ (by first | omega | (simp; done) | (simp; omega)) _))⟩
        rw [HE.out, Bool.eq_iff_iff]
        simp
        try omega
end Go.Proofs.YtojbijapdkohlaaGreatDoor
