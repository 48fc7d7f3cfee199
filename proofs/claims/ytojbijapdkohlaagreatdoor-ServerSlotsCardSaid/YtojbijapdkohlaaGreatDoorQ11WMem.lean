/- Rows of steps, as cells. How a map, an entity and rows of steps are read as arguments. Rows of entities; clones of rows. Words for worlds: what a world is, how it lies in memory; clones of rows. -/
import Derived.Test.YtojbijapdkohlaaGreatDoorQ05Map
import Derived.Test.YtojbijapdkohlaaGreatDoorMapF
import Derived.ProofKit
import Derived.OpenShut
import Derived.Deep.Slices
import Derived.ChangeArms
import Derived.Lib.SliceRun
import Derived.Lib.OthersKept
import Derived.Deep.RegionLaw
import Derived.Deep.RegionHeld3
import Derived.Test.YtojbijapdkohlaaGreatDoorRoll
set_option linter.unusedSimpArgs false
set_option linter.unusedVariables false
namespace Go.Proofs.YtojbijapdkohlaaGreatDoor
open Go.RowKit
def stepsV (l : List (Int × Int)) : List Value := l.flatMap fun p => [.int .i8 p.1, .int .i8 p.2]
theorem stepsV_at (l : List (Int × Int)) (k : Nat) (v : Int × Int) (h : l[k]? = some v) : (stepsV l)[k * 2]? = some (.int .i8 v.1) ∧ (stepsV l)[k * 2 + 1]? = some (.int .i8 v.2) := by
  unfold stepsV
  induction l generalizing k with
  | nil => simp at h
  | cons a l ih =>
    cases k with
    | zero => simp at h; subst h; simp [List.flatMap_cons]
    | succ k =>
      have := ih k (by simpa using h)
      rw [show (k + 1) * 2 = k * 2 + 2 by omega]
      simpa [List.flatMap_cons] using this
theorem stepsV_length (l : List (Int × Int)) : (stepsV l).length = l.length * 2 := by
  unfold stepsV
  induction l with
  | nil => rfl
  | cons a l ih => simp [List.flatMap_cons, ih]; omega
end Go.Proofs.YtojbijapdkohlaaGreatDoor
set_option linter.unusedSimpArgs false
set_option linter.unusedVariables false
namespace Go.Proofs.YtojbijapdkohlaaGreatDoor
open Go.RowKit Go.ChangeShapes Go.WideShapes Go.Deep
theorem cell_lt {w : World} {a : Addr} {v : Value} (h : w.cell? a = some v) : a.block < w.heap.size := World.block_lt_of_cell? w a h
theorem wf_i64 {x : Int} (h : (Lit.int .i64 x).wf = true) : -9223372036854775808 ≤ x ∧ x ≤ 9223372036854775807 := by simpa [Lit.wf, IntKind.min, IntKind.max, IntKind.signed, IntKind.bits] using h
theorem wf_i8 {x : Int} (h : (Lit.int .i8 x).wf = true) : -128 ≤ x ∧ x ≤ 127 := by simpa [Lit.wf, IntKind.min, IntKind.max, IntKind.signed, IntKind.bits] using h
theorem list_of {α : Type} {p : Nat → α → Prop} : ∀ n : Nat, (∀ i, i < n → ∃ c, p i c) → ∃ l : List α, l.length = n ∧ ∀ i c, l[i]? = some c → p i c
  | 0, _ => ⟨[], rfl, fun i c h => by simp at h⟩
  | n + 1, h => by
    obtain ⟨l, hl, hp⟩ := list_of n (fun i hi => h i (by omega))
    obtain ⟨c, hc⟩ := h n (by omega)
    refine ⟨l ++ [c], by simp [hl], fun i d hd => ?_⟩
    rcases Nat.lt_trichotomy i n with h1 | h1 | h1
    · rw [List.getElem?_append_left (by omega)] at hd; exact hp i d hd
    · subst h1
      rw [List.getElem?_append_right (by omega), hl, Nat.sub_self] at hd
      simp at hd; subst hd; exact hc
    · rw [List.getElem?_eq_none (by simp; omega)] at hd; cases hd
theorem len2 {α : Type} {l : List α} (h : l.length = 2) : ∃ a b, l = [a, b] := by
  match l, h with
  | [a, b], _ => exact ⟨a, b, rfl⟩
theorem len4 {α : Type} {l : List α} (h : l.length = 4) : ∃ a b c d, l = [a, b, c, d] := by
  match l, h with
  | [a, b, c, d], _ => exact ⟨a, b, c, d, rfl⟩
theorem len6 {α : Type} {l : List α} (h : l.length = 6) : ∃ a b c d e f, l = [a, b, c, d, e, f] := by
  match l, h with
  | [a, b, c, d, e, f], _ => exact ⟨a, b, c, d, e, f, rfl⟩
theorem len8 {α : Type} {l : List α} (h : l.length = 8) : ∃ a b c d e f g i, l = [a, b, c, d, e, f, g, i] := by
  match l, h with
  | [a, b, c, d, e, f, g, i], _ => exact ⟨a, b, c, d, e, f, g, i, rfl⟩
theorem boolsV_flat (l : List Bool) : l.flatMap (fun b : Bool => [Value.bool b]) = boolsV l := by
  unfold boolsV
  induction l with
  | nil => rfl
  | cons a l ih => rw [List.flatMap_cons, ih]; rfl
theorem flat_length {α : Type} {f : α → List Value} {size : Nat} (hs : ∀ a, (f a).length = size) (l : List α) : (l.flatMap f).length = l.length * size := by
  induction l with
  | nil => simp
  | cons a l ih => simp [List.flatMap_cons, hs, ih, Nat.add_mul]; omega
theorem flat_at {α : Type} {f : α → List Value} {size : Nat} (hs : ∀ a, (f a).length = size) (l : List α) (k j : Nat) (a : α) (h : l[k]? = some a) (hj : j < size) : (l.flatMap f)[k * size + j]? = (f a)[j]? := by
  induction l generalizing k with
  | nil => simp at h
  | cons b l ih =>
    cases k with
    | zero =>
      simp at h; subst h
      rw [List.flatMap_cons, Nat.zero_mul, Nat.zero_add, List.getElem?_append_left (by rw [hs]; exact hj)]
    | succ k =>
      rw [List.flatMap_cons, List.getElem?_append_right (by rw [hs, Nat.add_mul]; omega), hs, show (k + 1) * size + j - size = k * size + j by rw [Nat.add_mul]; omega]
      exact ih k (by simpa using h)
section
variable {H : Type} {enc : TypeId × Value → H} {P : Program} {W : World} {base : Nat} {sp : Nat → Bool} {held : Bool}
theorem open_seq {α : Type} (size : Nat) (f : α → List Value) (Q : α → Prop) {T e : TypeId} (ht : P.underlying T = some (.slice e)) (he : P.cellsOf e = size) (hs : ∀ a, (f a).length = size) (h0 : 0 < size)
    (hel : ∀ fuel cs x, DataW.trod enc P W base sp held fuel e cs = some x → ∃ a, cs = f a ∧ Q a) {fuel : Nat} {cs : List Value} {x : DataW H × List MemPlace} (h : DataW.trod enc P W base sp held fuel T cs = some x) :
    ∃ (A : Option Addr) (n c : Nat) (l : List α), cs = [.slice A n c] ∧ Reads W W.heap.size size A n (l.flatMap f) ∧ (∀ a ∈ l, Q a) ∧ n ≤ c ∧ c ≤ 9223372036854775807 := by
  rcases open_slice ht h with ⟨rfl, _⟩ | ⟨a, len, cap, m, k, D, Pl, rfl, _, hlc, hcm, hm, _, hel2⟩
  · exact ⟨none, 0, 0, [], rfl, Reads.none_, (fun a ha => by simp at ha), Nat.le_refl _, by omega⟩
  · rw [he] at hel2
    have hlm : len ≤ m := by rw [hm]; split <;> omega
    obtain ⟨l, hl, hp⟩ := list_of (p := fun i c => (∀ j u, (f c)[j]? = some u → W.cell? (a.add (i * size + j)) = some u) ∧ Q c) len (fun i hi => by
      obtain ⟨cs', hc, ht'⟩ := hel2 i (by omega)
      obtain ⟨c, rfl, hq⟩ := hel _ _ _ ht'
      obtain ⟨_, _, hat⟩ := World.cells?_some hc
      refine ⟨c, fun j u hu => ?_, hq⟩
      have hj : j < size := by have := (List.getElem?_eq_some_iff.1 hu).1; rwa [hs] at this
      rw [← Go.Deep.add_add, hat j hj, hu])
    unfold maxLen at hcm
    refine ⟨_, _, _, l, rfl, ?_, fun c hc => ?_, hlc, by omega⟩
    · have hcell : ∀ j u, (l.flatMap f)[j]? = some u → W.cell? (a.add j) = some u := fun j u hu => by
        have hj : j < len * size := by have := (List.getElem?_eq_some_iff.1 hu).1; rw [flat_length hs, hl] at this; exact this
        have hq : j / size < len := Nat.div_lt_of_lt_mul (by rw [Nat.mul_comm]; exact hj)
        obtain ⟨c, hc⟩ : ∃ c, l[j / size]? = some c := ⟨_, List.getElem?_eq_getElem (by omega)⟩
        have h1 := flat_at hs l (j / size) (j % size) c hc (Nat.mod_lt _ h0)
        have e : j / size * size + j % size = j := by rw [Nat.mul_comm]; exact Nat.div_add_mod j size
        rw [e] at h1
        have := (hp _ _ hc).1 (j % size) u (by rw [← h1, hu])
        rwa [e] at this
      refine ⟨by rw [flat_length hs, hl], fun hn => ⟨a, rfl, ?_, hcell⟩⟩
      have h00 := hcell 0 _ (List.getElem?_eq_getElem (by rw [flat_length hs, hl]; exact Nat.mul_pos hn h0))
      have := cell_lt h00
      rwa [block_of_add] at this
    · obtain ⟨j, hj, hjo⟩ := List.getElem_of_mem hc
      exact (hp j c (by rw [List.getElem?_eq_getElem hj, hjo])).2
theorem open_vec {fuel : Nat} {cs : List Value} {x : DataW H × List MemPlace} (h : DataW.trod enc Tryz.prog W base sp held fuel 53 cs = some x) : ∃ v : VecV, cs = [.int .i64 v.x, .int .i64 v.y] ∧ True := by
  obtain ⟨xs, m, _, _, hlen, hxs, hf⟩ := DataW.trod_struct Tryz.underlying53 h
  have hc : cs.length = 2 := hlen.trans (by kernel_rfl)
  obtain ⟨a, b, rfl⟩ := len2 hc
  obtain ⟨x0, x1, rfl⟩ := len2 (hxs.trans (by rfl))
  · · have e26 : Tryz.prog.cellsOf 51 = 1 := by kernel_rfl
      have f0 : DataW.trod enc Tryz.prog W base sp held m 51 [a] = some x0 := by have := hf 0 _ rfl; simpa [e26] using this
      have f1 : DataW.trod enc Tryz.prog W base sp held m 51 [b] = some x1 := by have := hf 1 _ rfl; simpa [e26] using this
      obtain ⟨n0, h0, _, w0⟩ := DataW.trod_int Tryz.underlying51 f0
      obtain ⟨n1, h1, _, w1⟩ := DataW.trod_int Tryz.underlying51 f1
      simp only [List.cons.injEq, and_true] at h0 h1
      exact ⟨⟨n0, n1⟩, by simp only [h0, h1], trivial⟩
theorem open_bool1 {fuel : Nat} {cs : List Value} {x : DataW H × List MemPlace} (h : DataW.trod enc Tryz.prog W base sp held fuel 4 cs = some x) : ∃ b : Bool, cs = [.bool b] ∧ True := by
  obtain ⟨n3, h3, _⟩ := DataW.trod_bool Tryz.underlying4 h
  exact ⟨n3, h3, trivial⟩
set_option maxRecDepth 20000 in
theorem open_map {v : Value} {d : DataW H} {p : List MemPlace} {base' b : Nat} (hok : Value.okWide Tryz.prog W .any base' 25 v) (h : DataW.Trod enc Tryz.prog W b (fun _ => true) true 25 v d p) :
    ∃ (m : MapV) (s : MapS), v = (.agg #[.int .i64 m.W, .int .i64 m.H, .slice s.A s.n s.c, .slice s.A2 s.n2 s.c2]) ∧ MapAt W W.heap.size m s := by
  obtain ⟨cs, rfl, hcs⟩ := okWide_struct Tryz.underlying25 hok
  obtain ⟨fuel, hf⟩ := h
  obtain ⟨xs, m, _, _, hlen, hxs, hf⟩ := DataW.trod_struct Tryz.underlying25 hf
  obtain ⟨l, rfl⟩ : ∃ l : List Value, cs = l.toArray := ⟨cs.toList, by simp⟩
  simp only [Value.cells] at hlen hf
  obtain ⟨a, b', c, d', rfl⟩ := len4 (hlen.trans (by kernel_rfl))
  obtain ⟨x0, x1, x2, x3, rfl⟩ := len4 (hxs.trans (by rfl))
  have e3 : Tryz.prog.cellsOf 3 = 1 := by kernel_rfl
  have e22 : Tryz.prog.cellsOf 22 = 1 := by kernel_rfl
  have e23 : Tryz.prog.cellsOf 23 = 1 := by kernel_rfl
  have f0 : DataW.trod enc Tryz.prog W b (fun _ => true) true m 3 [a] = some x0 := by have := hf 0 _ rfl; simpa [e3] using this
  have f1 : DataW.trod enc Tryz.prog W b (fun _ => true) true m 3 [b'] = some x1 := by have := hf 1 _ rfl; simpa [e3] using this
  have f2 : DataW.trod enc Tryz.prog W b (fun _ => true) true m 22 [c] = some x2 := by have := hf 2 _ rfl; simpa [e22] using this
  have f3 : DataW.trod enc Tryz.prog W b (fun _ => true) true m 23 [d'] = some x3 := by have := hf 3 _ rfl; simpa [e23] using this
  obtain ⟨n0, h0, _, w0⟩ := DataW.trod_int Tryz.underlying3 f0
  obtain ⟨n1, h1, _, w1⟩ := DataW.trod_int Tryz.underlying3 f1
  obtain ⟨A, n, c1, l1, h2, r1, -, q1, q2⟩ := open_seq 1 (fun b : Bool => [.bool b]) (fun _ => True) Tryz.underlying22 (by kernel_rfl) (fun _ => rfl) (by decide) (fun _ _ _ h => open_bool1 h) f2
  obtain ⟨A2, n2, c2, l2, h3, r2, -, q3, q4⟩ := open_seq 2 (fun v : VecV => [.int .i64 v.x, .int .i64 v.y]) (fun _ => True) Tryz.underlying23 (by kernel_rfl) (fun _ => rfl) (by decide) (fun _ _ _ h => open_vec h) f3
  simp only [List.cons.injEq, and_true] at h0 h1 h2 h3
  subst h0 h1 h2 h3
  refine ⟨⟨n0, n1, l1, l2⟩, ⟨A, n, c1, A2, n2, c2⟩, rfl, ?_, r2, q1, q2, Nat.le_trans q3 q4⟩
  rw [boolsV_flat] at r1
  exact r1
set_option maxRecDepth 20000 in
theorem open_ent {v : Value} {d : DataW H} {p : List MemPlace} {base' b : Nat} (hok : Value.okWide Tryz.prog W .any base' 55 v) (h : DataW.Trod enc Tryz.prog W b (fun _ => true) true 55 v d p) :
    ∃ e : EntV, v = (.agg #[.int .i64 e.id, .int .i64 e.kind, .int .i64 e.at_.x, .int .i64 e.at_.y, .int .i64 e.vel.x, .int .i64 e.vel.y, .int .i64 e.health, .int .i64 e.wait]) := by
  obtain ⟨cs, rfl, hcs⟩ := okWide_struct Tryz.underlying55 hok
  obtain ⟨fuel, hf⟩ := h
  obtain ⟨xs, m, _, _, hlen, hxs, hf⟩ := DataW.trod_struct Tryz.underlying55 hf
  obtain ⟨l, rfl⟩ : ∃ l : List Value, cs = l.toArray := ⟨cs.toList, by simp⟩
  simp only [Value.cells] at hlen hf
  obtain ⟨a, b', c, d', e, f, g, i, rfl⟩ := len8 (hlen.trans (by kernel_rfl))
  obtain ⟨x0, x1, x2, x3, x4, x5, rfl⟩ := len6 (hxs.trans (by rfl))
  have e3 : Tryz.prog.cellsOf 3 = 1 := by kernel_rfl
  have e28 : Tryz.prog.cellsOf 53 = 2 := by kernel_rfl
  have f0 : DataW.trod enc Tryz.prog W b (fun _ => true) true m 3 [a] = some x0 := by have := hf 0 _ rfl; simpa [e3] using this
  have f1 : DataW.trod enc Tryz.prog W b (fun _ => true) true m 3 [b'] = some x1 := by have := hf 1 _ rfl; simpa [e3] using this
  have f2 : DataW.trod enc Tryz.prog W b (fun _ => true) true m 53 [c, d'] = some x2 := by have := hf 2 _ rfl; simpa [e28] using this
  have f3 : DataW.trod enc Tryz.prog W b (fun _ => true) true m 53 [e, f] = some x3 := by have := hf 3 _ rfl; simpa [e28] using this
  have f4 : DataW.trod enc Tryz.prog W b (fun _ => true) true m 3 [g] = some x4 := by have := hf 4 _ rfl; simpa [e3] using this
  have f5 : DataW.trod enc Tryz.prog W b (fun _ => true) true m 3 [i] = some x5 := by have := hf 5 _ rfl; simpa [e3] using this
  obtain ⟨n0, h0, _, w0⟩ := DataW.trod_int Tryz.underlying3 f0
  obtain ⟨n1, h1, _, w1⟩ := DataW.trod_int Tryz.underlying3 f1
  obtain ⟨v2, h2, -⟩ := open_vec f2
  obtain ⟨v3, h3, -⟩ := open_vec f3
  obtain ⟨n4, h4, _, w4⟩ := DataW.trod_int Tryz.underlying3 f4
  obtain ⟨n5, h5, _, w5⟩ := DataW.trod_int Tryz.underlying3 f5
  simp only [List.cons.injEq, and_true] at h0 h1 h2 h3 h4 h5
  exact ⟨⟨n0, n1, v2, v3, n4, n5⟩, by simp only [h0, h1, h2.1, h2.2, h3.1, h3.2, h4, h5]⟩
end
end Go.Proofs.YtojbijapdkohlaaGreatDoor
set_option linter.unusedSimpArgs false
set_option linter.unusedVariables false
namespace Go.Proofs.YtojbijapdkohlaaGreatDoor
open Go.RowKit
def entCells (e : EntV) : List Value := [.int .i64 e.id, .int .i64 e.kind, .int .i64 e.at_.x, .int .i64 e.at_.y, .int .i64 e.vel.x, .int .i64 e.vel.y, .int .i64 e.health, .int .i64 e.wait]
def entsV (l : List EntV) : List Value := l.flatMap entCells
theorem entsV_length (l : List EntV) : (entsV l).length = l.length * 8 := flat_length (f := entCells) (size := 8) (fun _ => rfl) l
theorem entsV_at {l : List EntV} {k : Nat} {e : EntV} (h : l[k]? = some e) (j : Nat) (hj : j < 8) : (entsV l)[k * 8 + j]? = (entCells e)[j]? := flat_at (f := entCells) (size := 8) (fun _ => rfl) l k j e h hj
theorem entsV_one (l : List EntV) : ∀ u ∈ entsV l, u.oneCell' = true := by
  intro u hu
  unfold entsV entCells at hu
  simp only [List.mem_flatMap, List.mem_cons, List.not_mem_nil, or_false] at hu
  obtain ⟨e, _, h⟩ := hu
  rcases h with h | h | h | h | h | h | h | h <;> subst h <;> rfl
theorem boolsV_one (l : List Bool) : ∀ u ∈ boolsV l, u.oneCell' = true := by
  intro u hu
  unfold boolsV at hu
  simp only [List.mem_map] at hu
  obtain ⟨e, _, rfl⟩ := hu
  rfl
theorem vecsV_one (l : List VecV) : ∀ u ∈ vecsV l, u.oneCell' = true := by
  intro u hu
  unfold vecsV at hu
  simp only [List.mem_flatMap, List.mem_cons, List.not_mem_nil, or_false] at hu
  obtain ⟨e, _, h⟩ := hu
  rcases h with h | h <;> subst h <;> rfl
theorem elt56 : Elt Tryz.prog 44 55 8 64 := Elt.mk' Tryz.underlying44 (.agg #[.int .i64 0, .int .i64 0, .int .i64 0, .int .i64 0, .int .i64 0, .int .i64 0, .int .i64 0, .int .i64 0]) (by kernel_rfl) rfl (by decide) (by decide)
/-- What is handed back is a row of one's own. -/
def Fresh (w w' : World) (e : TypeId) (size : Nat) (A : Option Addr) (n c : Nat) (xs : List Value) : Prop :=
  Row w' e size A n c xs ∧ (∀ g, blkOf A = some g → w.heap.size ≤ g) ∧ Below w.heap.size w w'

set_option maxRecDepth 100000 in
set_option maxHeartbeats 4000000 in
theorem cloneB (l : List Bool) (w : World) (A : Option Addr) (n c : Nat) (h : Reads w w.heap.size 1 A n (boolsV l)) (hn : n ≤ 100000) :
    Calls Tryz.prog 128 #[.slice A n c] w fun e w' => ∃ A' c', e = .returned (.slice A' n c') ∧ Fresh w w' 4 1 A' n c' (boolsV l) := by
  have keq := fun w => Lib.run_eql_slice_nil (P := Tryz.prog) w 22 4 A n c 0 0 Tryz.underlying22
  rcases A with _ | ad
  · have hn0 : n = 0 := by
      rcases Nat.eq_zero_or_pos n with h0 | h0
      · exact h0
      · obtain ⟨ad, h1, _⟩ := h.2 h0
        cases h1
    subst hn0
    have hx : boolsV l = [] := List.eq_nil_of_length_eq_zero (by simpa using h.1)
    have HX := Lib.hid hx
    clear h hx
    go_enter Tryz.func128, Tryz.ntmps128
    go_wp2
    go_ret
    exact ⟨none, 0, rfl, by rw [HX.out]; exact Row.nil_, (fun g hg => nomatch hg), (by repeat (first | with_reducible exact Below.refl _ _ | with_reducible assumption | with_reducible refine Below.drew ?_ | with_reducible refine below_drews ?_ _ | with_reducible refine Below.alloc ?_ (by first | omega | (simp; done) | (simp; omega)) _ | with_reducible refine Below.setCell ?_ (by first | omega | (simp; done) | (simp; omega)) _))⟩
  · have ho : (w.alloc (.cells #[] 4)).ownsRow w.heap.size 4 1 (.slice (some ⟨w.heap.size, 0, none⟩) 0 0) 0 [] := World.ownsRow_lit (e := 4) (size := 1) w #[] 0 (Nat.le_refl _) (by unfold maxLen; omega) rfl
    have hr := h.alloc (Nat.le_refl _) (.cells #[] 4)
    go_enter Tryz.func128, Tryz.ntmps128
    go_wp2_with (at_builtin; refine wpList_app _ rfl _ _ 22 rfl elt22 _ _ _ _ rfl ho w.heap.size (some ad) n c (boolsV l) rfl hr (boolsV_one l) (by omega) (by simp) ?_; intro v' w2 ho2 hg hb')
    have hbel := below_own ((Below.refl _ _).alloc (Nat.le_refl _) (.cells #[] 4)) ho hg (by simp) (Nat.le_refl _)
    go_ret
    obtain ⟨A', c', rfl, hr', hb⟩ := Row.of_own ho2
    exact ⟨A', c', by simp, by simpa using hr', hb, hbel⟩

set_option maxRecDepth 100000 in
set_option maxHeartbeats 4000000 in
theorem cloneV (l : List VecV) (w : World) (A : Option Addr) (n c : Nat) (h : Reads w w.heap.size 2 A n (vecsV l)) (hn : n ≤ 100000) :
    Calls Tryz.prog 129 #[.slice A n c] w fun e w' => ∃ A' c', e = .returned (.slice A' n c') ∧ Fresh w w' 53 2 A' n c' (vecsV l) := by
  have keq := fun w => Lib.run_eql_slice_nil (P := Tryz.prog) w 23 53 A n c 0 0 Tryz.underlying23
  rcases A with _ | ad
  · have hn0 : n = 0 := by
      rcases Nat.eq_zero_or_pos n with h0 | h0
      · exact h0
      · obtain ⟨ad, h1, _⟩ := h.2 h0
        cases h1
    subst hn0
    have hx : vecsV l = [] := List.eq_nil_of_length_eq_zero (by simpa using h.1)
    have HX := Lib.hid hx
    clear h hx
    go_enter Tryz.func129, Tryz.ntmps129
    go_wp2
    go_ret
    exact ⟨none, 0, rfl, by rw [HX.out]; exact Row.nil_, (fun g hg => nomatch hg), (by repeat (first | with_reducible exact Below.refl _ _ | with_reducible assumption | with_reducible refine Below.drew ?_ | with_reducible refine below_drews ?_ _ | with_reducible refine Below.alloc ?_ (by first | omega | (simp; done) | (simp; omega)) _ | with_reducible refine Below.setCell ?_ (by first | omega | (simp; done) | (simp; omega)) _))⟩
  · have ho : (w.alloc (.cells #[] 53)).ownsRow w.heap.size 53 2 (.slice (some ⟨w.heap.size, 0, none⟩) 0 0) 0 [] := World.ownsRow_lit (e := 53) (size := 2) w #[] 0 (Nat.le_refl _) (by unfold maxLen; omega) rfl
    have hr := h.alloc (Nat.le_refl _) (.cells #[] 53)
    go_enter Tryz.func129, Tryz.ntmps129
    go_wp2_with (at_builtin; refine wpList_app _ rfl _ _ 23 rfl elt23 _ _ _ _ rfl ho w.heap.size (some ad) n c (vecsV l) rfl hr (vecsV_one l) (by omega) (by simp) ?_; intro v' w2 ho2 hg hb')
    have hbel := below_own ((Below.refl _ _).alloc (Nat.le_refl _) (.cells #[] 53)) ho hg (by simp) (Nat.le_refl _)
    go_ret
    obtain ⟨A', c', rfl, hr', hb⟩ := Row.of_own ho2
    exact ⟨A', c', by simp, by simpa using hr', hb, hbel⟩

set_option maxRecDepth 100000 in
set_option maxHeartbeats 4000000 in
theorem cloneE (l : List EntV) (w : World) (A : Option Addr) (n c : Nat) (h : Reads w w.heap.size 8 A n (entsV l)) (hn : n ≤ 100000) :
    Calls Tryz.prog 71 #[.slice A n c] w fun e w' => ∃ A' c', e = .returned (.slice A' n c') ∧ Fresh w w' 55 8 A' n c' (entsV l) := by
  have keq := fun w => Lib.run_eql_slice_nil (P := Tryz.prog) w 44 55 A n c 0 0 Tryz.underlying44
  rcases A with _ | ad
  · have hn0 : n = 0 := by
      rcases Nat.eq_zero_or_pos n with h0 | h0
      · exact h0
      · obtain ⟨ad, h1, _⟩ := h.2 h0
        cases h1
    subst hn0
    have hx : entsV l = [] := List.eq_nil_of_length_eq_zero (by simpa using h.1)
    have HX := Lib.hid hx
    clear h hx
    go_enter Tryz.func71, Tryz.ntmps71
    go_wp2
    go_ret
    exact ⟨none, 0, rfl, by rw [HX.out]; exact Row.nil_, (fun g hg => nomatch hg), (by repeat (first | with_reducible exact Below.refl _ _ | with_reducible assumption | with_reducible refine Below.drew ?_ | with_reducible refine below_drews ?_ _ | with_reducible refine Below.alloc ?_ (by first | omega | (simp; done) | (simp; omega)) _ | with_reducible refine Below.setCell ?_ (by first | omega | (simp; done) | (simp; omega)) _))⟩
  · have ho : (w.alloc (.cells #[] 55)).ownsRow w.heap.size 55 8 (.slice (some ⟨w.heap.size, 0, none⟩) 0 0) 0 [] := World.ownsRow_lit (e := 55) (size := 8) w #[] 0 (Nat.le_refl _) (by unfold maxLen; omega) rfl
    have hr := h.alloc (Nat.le_refl _) (.cells #[] 55)
    go_enter Tryz.func71, Tryz.ntmps71
    go_wp2_with (at_builtin; refine wpList_app _ rfl _ _ 44 rfl elt56 _ _ _ _ rfl ho w.heap.size (some ad) n c (entsV l) rfl hr (entsV_one l) (by omega) (by simp) ?_; intro v' w2 ho2 hg hb')
    have hbel := below_own ((Below.refl _ _).alloc (Nat.le_refl _) (.cells #[] 55)) ho hg (by simp) (Nat.le_refl _)
    go_ret
    obtain ⟨A', c', rfl, hr', hb⟩ := Row.of_own ho2
    exact ⟨A', c', by simp, by simpa using hr', hb, hbel⟩

end Go.Proofs.YtojbijapdkohlaaGreatDoor
set_option linter.unusedSimpArgs false
set_option linter.unusedVariables false
namespace Go.Proofs.YtojbijapdkohlaaGreatDoor
open Go.RowKit
structure WorldV where
  map : MapV
  st : Int
  tick : Int
  l : List EntV
structure WorldS where
  ms : MapS
  A : Option Addr
  n : Nat
  c : Nat
/-- A world's slices, told. -/
structure WorldAt (w : World) (B : Nat) (v : WorldV) (s : WorldS) : Prop where
  map : MapAt w B v.map s.ms
  l : Reads w B 8 s.A s.n (entsV v.l)
  nc : s.n ≤ s.c
theorem WorldAt.below {w w' : World} {B : Nat} {v : WorldV} {s : WorldS} (h : WorldAt w B v s) (hb : Below B w w') : WorldAt w' B v s := ⟨h.map.below hb, h.l.below hb, h.nc⟩
theorem WorldAt.upto {w : World} {B B' : Nat} {v : WorldV} {s : WorldS} (h : WorldAt w B v s) (hB : B ≤ B') : WorldAt w B' v s := ⟨h.map.upto hB, h.l.upto hB, h.nc⟩
theorem WorldAt.len {w : World} {B : Nat} {v : WorldV} {s : WorldS} (h : WorldAt w B v s) : v.l.length = s.n := by
  have := h.l.1
  rw [entsV_length] at this
  omega
end Go.Proofs.YtojbijapdkohlaaGreatDoor
