/- How a map, an entity and rows of steps are read as arguments. Rows of entities; clones of rows. Maps of whole-number keys: what lies in them, told by a list; look-up, store, delete, len. A region that draws its order: its first operations read, or call what makes memory alone; behind them a tail in one order. One walk in the order of the text serves every order. (The law of the kit for tails, at a class of worlds.) Layer 18: what is read of a ring. Layer 18: the first list that a ring keeps. -/
import Derived.Test.YtojbijapdkohlaaGreatDoorQ01Steps
import Derived.Test.YtojbijapdkohlaaGreatDoorMapF
import Derived.ProofKit
import Derived.OpenShut
import Derived.Deep.Slices
import Derived.ChangeArms
import Derived.Lib.SliceRun
import Derived.Lib.OthersKept
import Derived.Deep.RegionLaw
import Derived.Deep.RegionHeld3
import Derived.Test.YtojbijapdkohlaaGreatDoorQ00Row
import Derived.MapKept
import Derived.Maps.OwnOps
import Derived.StillTail
import Derived.WalkSpells
import Derived.Deep.DeepCutAuto
set_option linter.unusedSimpArgs false
set_option linter.unusedVariables false
namespace Go.Proofs.YtojbijapdkohlaaGreatDoor
open Go.RowKit Go.ChangeShapes Go.WideShapes Go.Deep
theorem cell_lt {w : World} {a : Addr} {v : Value} (h : w.cell? a = some v) : a.block < w.heap.size := World.block_lt_of_cell? w a h
theorem wf_i64 {x : Int} (h : (Lit.int .i64 x).wf = true) : -9223372036854775808 ≤ x ∧ x ≤ 9223372036854775807 := by simpa [Lit.wf, IntKind.min, IntKind.max, IntKind.signed, IntKind.bits] using h
theorem wf_i8 {x : Int} (h : (Lit.int .i8 x).wf = true) : -128 ≤ x ∧ x ≤ 127 := by simpa [Lit.wf, IntKind.min, IntKind.max, IntKind.signed, IntKind.bits] using h
theorem list_of {α : Type} {p : Nat → α → Prop} : ∀ n : Nat, (∀ i, i < n → ∃ c, p i c) → ∃ l : List α, l.length = n ∧ ∀ i c, l[i]? = some c → p i c
  | 0, _ => ⟨[], rfl, fun i c h => by simp at h⟩
  | n + 1, h => by
    obtain ⟨l, hl, hp⟩ := list_of n (fun i hi => h i (by omega))
    obtain ⟨c, hc⟩ := h n (by omega)
    refine ⟨l ++ [c], by simp [hl], fun i d hd => ?_⟩
    rcases Nat.lt_trichotomy i n with h1 | h1 | h1
    · rw [List.getElem?_append_left (by omega)] at hd; exact hp i d hd
    · subst h1
      rw [List.getElem?_append_right (by omega), hl, Nat.sub_self] at hd
      simp at hd; subst hd; exact hc
    · rw [List.getElem?_eq_none (by simp; omega)] at hd; cases hd
theorem len2 {α : Type} {l : List α} (h : l.length = 2) : ∃ a b, l = [a, b] := by
  match l, h with
  | [a, b], _ => exact ⟨a, b, rfl⟩
theorem len4 {α : Type} {l : List α} (h : l.length = 4) : ∃ a b c d, l = [a, b, c, d] := by
  match l, h with
  | [a, b, c, d], _ => exact ⟨a, b, c, d, rfl⟩
theorem len6 {α : Type} {l : List α} (h : l.length = 6) : ∃ a b c d e f, l = [a, b, c, d, e, f] := by
  match l, h with
  | [a, b, c, d, e, f], _ => exact ⟨a, b, c, d, e, f, rfl⟩
theorem len8 {α : Type} {l : List α} (h : l.length = 8) : ∃ a b c d e f g i, l = [a, b, c, d, e, f, g, i] := by
  match l, h with
  | [a, b, c, d, e, f, g, i], _ => exact ⟨a, b, c, d, e, f, g, i, rfl⟩
theorem boolsV_flat (l : List Bool) : l.flatMap (fun b : Bool => [Value.bool b]) = boolsV l := by
  unfold boolsV
  induction l with
  | nil => rfl
  | cons a l ih => rw [List.flatMap_cons, ih]; rfl
theorem flat_length {α : Type} {f : α → List Value} {size : Nat} (hs : ∀ a, (f a).length = size) (l : List α) : (l.flatMap f).length = l.length * size := by
  induction l with
  | nil => simp
  | cons a l ih => simp [List.flatMap_cons, hs, ih, Nat.add_mul]; omega
theorem flat_at {α : Type} {f : α → List Value} {size : Nat} (hs : ∀ a, (f a).length = size) (l : List α) (k j : Nat) (a : α) (h : l[k]? = some a) (hj : j < size) : (l.flatMap f)[k * size + j]? = (f a)[j]? := by
  induction l generalizing k with
  | nil => simp at h
  | cons b l ih =>
    cases k with
    | zero =>
      simp at h; subst h
      rw [List.flatMap_cons, Nat.zero_mul, Nat.zero_add, List.getElem?_append_left (by rw [hs]; exact hj)]
    | succ k =>
      rw [List.flatMap_cons, List.getElem?_append_right (by rw [hs, Nat.add_mul]; omega), hs, show (k + 1) * size + j - size = k * size + j by rw [Nat.add_mul]; omega]
      exact ih k (by simpa using h)
section
variable {H : Type} {enc : TypeId × Value → H} {P : Program} {W : World} {base : Nat} {sp : Nat → Bool} {held : Bool}
theorem open_seq {α : Type} (size : Nat) (f : α → List Value) (Q : α → Prop) {T e : TypeId} (ht : P.underlying T = some (.slice e)) (he : P.cellsOf e = size) (hs : ∀ a, (f a).length = size) (h0 : 0 < size)
    (hel : ∀ fuel cs x, DataW.trod enc P W base sp held fuel e cs = some x → ∃ a, cs = f a ∧ Q a) {fuel : Nat} {cs : List Value} {x : DataW H × List MemPlace} (h : DataW.trod enc P W base sp held fuel T cs = some x) :
    ∃ (A : Option Addr) (n c : Nat) (l : List α), cs = [.slice A n c] ∧ Reads W W.heap.size size A n (l.flatMap f) ∧ (∀ a ∈ l, Q a) ∧ n ≤ c ∧ c ≤ 9223372036854775807 := by
  rcases open_slice ht h with ⟨rfl, _⟩ | ⟨a, len, cap, m, k, D, Pl, rfl, _, hlc, hcm, hm, _, hel2⟩
  · exact ⟨none, 0, 0, [], rfl, Reads.none_, (fun a ha => by simp at ha), Nat.le_refl _, by omega⟩
  · rw [he] at hel2
    have hlm : len ≤ m := by rw [hm]; split <;> omega
    obtain ⟨l, hl, hp⟩ := list_of (p := fun i c => (∀ j u, (f c)[j]? = some u → W.cell? (a.add (i * size + j)) = some u) ∧ Q c) len (fun i hi => by
      obtain ⟨cs', hc, ht'⟩ := hel2 i (by omega)
      obtain ⟨c, rfl, hq⟩ := hel _ _ _ ht'
      obtain ⟨_, _, hat⟩ := World.cells?_some hc
      refine ⟨c, fun j u hu => ?_, hq⟩
      have hj : j < size := by have := (List.getElem?_eq_some_iff.1 hu).1; rwa [hs] at this
      rw [← Go.Deep.add_add, hat j hj, hu])
    unfold maxLen at hcm
    refine ⟨_, _, _, l, rfl, ?_, fun c hc => ?_, hlc, by omega⟩
    · have hcell : ∀ j u, (l.flatMap f)[j]? = some u → W.cell? (a.add j) = some u := fun j u hu => by
        have hj : j < len * size := by have := (List.getElem?_eq_some_iff.1 hu).1; rw [flat_length hs, hl] at this; exact this
        have hq : j / size < len := Nat.div_lt_of_lt_mul (by rw [Nat.mul_comm]; exact hj)
        obtain ⟨c, hc⟩ : ∃ c, l[j / size]? = some c := ⟨_, List.getElem?_eq_getElem (by omega)⟩
        have h1 := flat_at hs l (j / size) (j % size) c hc (Nat.mod_lt _ h0)
        have e : j / size * size + j % size = j := by rw [Nat.mul_comm]; exact Nat.div_add_mod j size
        rw [e] at h1
        have := (hp _ _ hc).1 (j % size) u (by rw [← h1, hu])
        rwa [e] at this
      refine ⟨by rw [flat_length hs, hl], fun hn => ⟨a, rfl, ?_, hcell⟩⟩
      have h00 := hcell 0 _ (List.getElem?_eq_getElem (by rw [flat_length hs, hl]; exact Nat.mul_pos hn h0))
      have := cell_lt h00
      rwa [block_of_add] at this
    · obtain ⟨j, hj, hjo⟩ := List.getElem_of_mem hc
      exact (hp j c (by rw [List.getElem?_eq_getElem hj, hjo])).2
theorem open_vec {fuel : Nat} {cs : List Value} {x : DataW H × List MemPlace} (h : DataW.trod enc Tryz.prog W base sp held fuel 53 cs = some x) : ∃ v : VecV, cs = [.int .i64 v.x, .int .i64 v.y] ∧ True := by
  obtain ⟨xs, m, _, _, hlen, hxs, hf⟩ := DataW.trod_struct Tryz.underlying53 h
  have hc : cs.length = 2 := hlen.trans (by kernel_rfl)
  obtain ⟨a, b, rfl⟩ := len2 hc
  obtain ⟨x0, x1, rfl⟩ := len2 (hxs.trans (by rfl))
  · · have e26 : Tryz.prog.cellsOf 51 = 1 := by kernel_rfl
      have f0 : DataW.trod enc Tryz.prog W base sp held m 51 [a] = some x0 := by have := hf 0 _ rfl; simpa [e26] using this
      have f1 : DataW.trod enc Tryz.prog W base sp held m 51 [b] = some x1 := by have := hf 1 _ rfl; simpa [e26] using this
      obtain ⟨n0, h0, _, w0⟩ := DataW.trod_int Tryz.underlying51 f0
      obtain ⟨n1, h1, _, w1⟩ := DataW.trod_int Tryz.underlying51 f1
      simp only [List.cons.injEq, and_true] at h0 h1
      exact ⟨⟨n0, n1⟩, by simp only [h0, h1], trivial⟩
theorem open_bool1 {fuel : Nat} {cs : List Value} {x : DataW H × List MemPlace} (h : DataW.trod enc Tryz.prog W base sp held fuel 4 cs = some x) : ∃ b : Bool, cs = [.bool b] ∧ True := by
  obtain ⟨n3, h3, _⟩ := DataW.trod_bool Tryz.underlying4 h
  exact ⟨n3, h3, trivial⟩
set_option maxRecDepth 20000 in
theorem open_map {v : Value} {d : DataW H} {p : List MemPlace} {base' b : Nat} (hok : Value.okWide Tryz.prog W .any base' 25 v) (h : DataW.Trod enc Tryz.prog W b (fun _ => true) true 25 v d p) :
    ∃ (m : MapV) (s : MapS), v = (.agg #[.int .i64 m.W, .int .i64 m.H, .slice s.A s.n s.c, .slice s.A2 s.n2 s.c2]) ∧ MapAt W W.heap.size m s := by
  obtain ⟨cs, rfl, hcs⟩ := okWide_struct Tryz.underlying25 hok
  obtain ⟨fuel, hf⟩ := h
  obtain ⟨xs, m, _, _, hlen, hxs, hf⟩ := DataW.trod_struct Tryz.underlying25 hf
  obtain ⟨l, rfl⟩ : ∃ l : List Value, cs = l.toArray := ⟨cs.toList, by simp⟩
  simp only [Value.cells] at hlen hf
  obtain ⟨a, b', c, d', rfl⟩ := len4 (hlen.trans (by kernel_rfl))
  obtain ⟨x0, x1, x2, x3, rfl⟩ := len4 (hxs.trans (by rfl))
  have e3 : Tryz.prog.cellsOf 3 = 1 := by kernel_rfl
  have e22 : Tryz.prog.cellsOf 22 = 1 := by kernel_rfl
  have e23 : Tryz.prog.cellsOf 23 = 1 := by kernel_rfl
  have f0 : DataW.trod enc Tryz.prog W b (fun _ => true) true m 3 [a] = some x0 := by have := hf 0 _ rfl; simpa [e3] using this
  have f1 : DataW.trod enc Tryz.prog W b (fun _ => true) true m 3 [b'] = some x1 := by have := hf 1 _ rfl; simpa [e3] using this
  have f2 : DataW.trod enc Tryz.prog W b (fun _ => true) true m 22 [c] = some x2 := by have := hf 2 _ rfl; simpa [e22] using this
  have f3 : DataW.trod enc Tryz.prog W b (fun _ => true) true m 23 [d'] = some x3 := by have := hf 3 _ rfl; simpa [e23] using this
  obtain ⟨n0, h0, _, w0⟩ := DataW.trod_int Tryz.underlying3 f0
  obtain ⟨n1, h1, _, w1⟩ := DataW.trod_int Tryz.underlying3 f1
  obtain ⟨A, n, c1, l1, h2, r1, -, q1, q2⟩ := open_seq 1 (fun b : Bool => [.bool b]) (fun _ => True) Tryz.underlying22 (by kernel_rfl) (fun _ => rfl) (by decide) (fun _ _ _ h => open_bool1 h) f2
  obtain ⟨A2, n2, c2, l2, h3, r2, -, q3, q4⟩ := open_seq 2 (fun v : VecV => [.int .i64 v.x, .int .i64 v.y]) (fun _ => True) Tryz.underlying23 (by kernel_rfl) (fun _ => rfl) (by decide) (fun _ _ _ h => open_vec h) f3
  simp only [List.cons.injEq, and_true] at h0 h1 h2 h3
  subst h0 h1 h2 h3
  refine ⟨⟨n0, n1, l1, l2⟩, ⟨A, n, c1, A2, n2, c2⟩, rfl, ?_, r2, q1, q2, Nat.le_trans q3 q4⟩
  rw [boolsV_flat] at r1
  exact r1
set_option maxRecDepth 20000 in
theorem open_ent {v : Value} {d : DataW H} {p : List MemPlace} {base' b : Nat} (hok : Value.okWide Tryz.prog W .any base' 55 v) (h : DataW.Trod enc Tryz.prog W b (fun _ => true) true 55 v d p) :
    ∃ e : EntV, v = (.agg #[.int .i64 e.id, .int .i64 e.kind, .int .i64 e.at_.x, .int .i64 e.at_.y, .int .i64 e.vel.x, .int .i64 e.vel.y, .int .i64 e.health, .int .i64 e.wait]) := by
  obtain ⟨cs, rfl, hcs⟩ := okWide_struct Tryz.underlying55 hok
  obtain ⟨fuel, hf⟩ := h
  obtain ⟨xs, m, _, _, hlen, hxs, hf⟩ := DataW.trod_struct Tryz.underlying55 hf
  obtain ⟨l, rfl⟩ : ∃ l : List Value, cs = l.toArray := ⟨cs.toList, by simp⟩
  simp only [Value.cells] at hlen hf
  obtain ⟨a, b', c, d', e, f, g, i, rfl⟩ := len8 (hlen.trans (by kernel_rfl))
  obtain ⟨x0, x1, x2, x3, x4, x5, rfl⟩ := len6 (hxs.trans (by rfl))
  have e3 : Tryz.prog.cellsOf 3 = 1 := by kernel_rfl
  have e28 : Tryz.prog.cellsOf 53 = 2 := by kernel_rfl
  have f0 : DataW.trod enc Tryz.prog W b (fun _ => true) true m 3 [a] = some x0 := by have := hf 0 _ rfl; simpa [e3] using this
  have f1 : DataW.trod enc Tryz.prog W b (fun _ => true) true m 3 [b'] = some x1 := by have := hf 1 _ rfl; simpa [e3] using this
  have f2 : DataW.trod enc Tryz.prog W b (fun _ => true) true m 53 [c, d'] = some x2 := by have := hf 2 _ rfl; simpa [e28] using this
  have f3 : DataW.trod enc Tryz.prog W b (fun _ => true) true m 53 [e, f] = some x3 := by have := hf 3 _ rfl; simpa [e28] using this
  have f4 : DataW.trod enc Tryz.prog W b (fun _ => true) true m 3 [g] = some x4 := by have := hf 4 _ rfl; simpa [e3] using this
  have f5 : DataW.trod enc Tryz.prog W b (fun _ => true) true m 3 [i] = some x5 := by have := hf 5 _ rfl; simpa [e3] using this
  obtain ⟨n0, h0, _, w0⟩ := DataW.trod_int Tryz.underlying3 f0
  obtain ⟨n1, h1, _, w1⟩ := DataW.trod_int Tryz.underlying3 f1
  obtain ⟨v2, h2, -⟩ := open_vec f2
  obtain ⟨v3, h3, -⟩ := open_vec f3
  obtain ⟨n4, h4, _, w4⟩ := DataW.trod_int Tryz.underlying3 f4
  obtain ⟨n5, h5, _, w5⟩ := DataW.trod_int Tryz.underlying3 f5
  simp only [List.cons.injEq, and_true] at h0 h1 h2 h3 h4 h5
  exact ⟨⟨n0, n1, v2, v3, n4, n5⟩, by simp only [h0, h1, h2.1, h2.2, h3.1, h3.2, h4, h5]⟩
end
end Go.Proofs.YtojbijapdkohlaaGreatDoor
set_option linter.unusedSimpArgs false
set_option linter.unusedVariables false
namespace Go.Proofs.YtojbijapdkohlaaGreatDoor
open Go.RowKit
def entCells (e : EntV) : List Value := [.int .i64 e.id, .int .i64 e.kind, .int .i64 e.at_.x, .int .i64 e.at_.y, .int .i64 e.vel.x, .int .i64 e.vel.y, .int .i64 e.health, .int .i64 e.wait]
def entsV (l : List EntV) : List Value := l.flatMap entCells
theorem entsV_length (l : List EntV) : (entsV l).length = l.length * 8 := flat_length (f := entCells) (size := 8) (fun _ => rfl) l
theorem entsV_at {l : List EntV} {k : Nat} {e : EntV} (h : l[k]? = some e) (j : Nat) (hj : j < 8) : (entsV l)[k * 8 + j]? = (entCells e)[j]? := flat_at (f := entCells) (size := 8) (fun _ => rfl) l k j e h hj
theorem entsV_one (l : List EntV) : ∀ u ∈ entsV l, u.oneCell' = true := by
  intro u hu
  unfold entsV entCells at hu
  simp only [List.mem_flatMap, List.mem_cons, List.not_mem_nil, or_false] at hu
  obtain ⟨e, _, h⟩ := hu
  rcases h with h | h | h | h | h | h | h | h <;> subst h <;> rfl
theorem boolsV_one (l : List Bool) : ∀ u ∈ boolsV l, u.oneCell' = true := by
  intro u hu
  unfold boolsV at hu
  simp only [List.mem_map] at hu
  obtain ⟨e, _, rfl⟩ := hu
  rfl
theorem vecsV_one (l : List VecV) : ∀ u ∈ vecsV l, u.oneCell' = true := by
  intro u hu
  unfold vecsV at hu
  simp only [List.mem_flatMap, List.mem_cons, List.not_mem_nil, or_false] at hu
  obtain ⟨e, _, h⟩ := hu
  rcases h with h | h <;> subst h <;> rfl
theorem elt56 : Elt Tryz.prog 44 55 8 64 := Elt.mk' Tryz.underlying44 (.agg #[.int .i64 0, .int .i64 0, .int .i64 0, .int .i64 0, .int .i64 0, .int .i64 0, .int .i64 0, .int .i64 0]) (by kernel_rfl) rfl (by decide) (by decide)
/-- What is handed back is a row of one's own. -/
def Fresh (w w' : World) (e : TypeId) (size : Nat) (A : Option Addr) (n c : Nat) (xs : List Value) : Prop :=
  Row w' e size A n c xs ∧ (∀ g, blkOf A = some g → w.heap.size ≤ g) ∧ Below w.heap.size w w'

set_option maxRecDepth 100000 in
set_option maxHeartbeats 4000000 in
theorem cloneB (l : List Bool) (w : World) (A : Option Addr) (n c : Nat) (h : Reads w w.heap.size 1 A n (boolsV l)) (hn : n ≤ 100000) :
    Calls Tryz.prog 128 #[.slice A n c] w fun e w' => ∃ A' c', e = .returned (.slice A' n c') ∧ Fresh w w' 4 1 A' n c' (boolsV l) := by
  have keq := fun w => Lib.run_eql_slice_nil (P := Tryz.prog) w 22 4 A n c 0 0 Tryz.underlying22
  rcases A with _ | ad
  · have hn0 : n = 0 := by
      rcases Nat.eq_zero_or_pos n with h0 | h0
      · exact h0
      · obtain ⟨ad, h1, _⟩ := h.2 h0
        cases h1
    subst hn0
    have hx : boolsV l = [] := List.eq_nil_of_length_eq_zero (by simpa using h.1)
    have HX := Lib.hid hx
    clear h hx
    go_enter Tryz.func128, Tryz.ntmps128
    go_wp2
    go_ret
    exact ⟨none, 0, rfl, by rw [HX.out]; exact Row.nil_, (fun g hg => nomatch hg), (by repeat (first | with_reducible exact Below.refl _ _ | with_reducible assumption | with_reducible refine Below.drew ?_ | with_reducible refine below_drews ?_ _ | with_reducible refine Below.alloc ?_ (by first | omega | (simp; done) | (simp; omega)) _ | with_reducible refine Below.setCell ?_ (by first | omega | (simp; done) | (simp; omega)) _))⟩
  · have ho : (w.alloc (.cells #[] 4)).ownsRow w.heap.size 4 1 (.slice (some ⟨w.heap.size, 0, none⟩) 0 0) 0 [] := World.ownsRow_lit (e := 4) (size := 1) w #[] 0 (Nat.le_refl _) (by unfold maxLen; omega) rfl
    have hr := h.alloc (Nat.le_refl _) (.cells #[] 4)
    go_enter Tryz.func128, Tryz.ntmps128
    go_wp2_with (at_builtin; refine wpList_app _ rfl _ _ 22 rfl elt22 _ _ _ _ rfl ho w.heap.size (some ad) n c (boolsV l) rfl hr (boolsV_one l) (by omega) (by simp) ?_; intro v' w2 ho2 hg hb')
    have hbel := below_own ((Below.refl _ _).alloc (Nat.le_refl _) (.cells #[] 4)) ho hg (by simp) (Nat.le_refl _)
    go_ret
    obtain ⟨A', c', rfl, hr', hb⟩ := Row.of_own ho2
    exact ⟨A', c', by simp, by simpa using hr', hb, hbel⟩

set_option maxRecDepth 100000 in
set_option maxHeartbeats 4000000 in
theorem cloneV (l : List VecV) (w : World) (A : Option Addr) (n c : Nat) (h : Reads w w.heap.size 2 A n (vecsV l)) (hn : n ≤ 100000) :
    Calls Tryz.prog 129 #[.slice A n c] w fun e w' => ∃ A' c', e = .returned (.slice A' n c') ∧ Fresh w w' 53 2 A' n c' (vecsV l) := by
  have keq := fun w => Lib.run_eql_slice_nil (P := Tryz.prog) w 23 53 A n c 0 0 Tryz.underlying23
  rcases A with _ | ad
  · have hn0 : n = 0 := by
      rcases Nat.eq_zero_or_pos n with h0 | h0
      · exact h0
      · obtain ⟨ad, h1, _⟩ := h.2 h0
        cases h1
    subst hn0
    have hx : vecsV l = [] := List.eq_nil_of_length_eq_zero (by simpa using h.1)
    have HX := Lib.hid hx
    clear h hx
    go_enter Tryz.func129, Tryz.ntmps129
    go_wp2
    go_ret
    exact ⟨none, 0, rfl, by rw [HX.out]; exact Row.nil_, (fun g hg => nomatch hg), (by repeat (first | with_reducible exact Below.refl _ _ | with_reducible assumption | with_reducible refine Below.drew ?_ | with_reducible refine below_drews ?_ _ | with_reducible refine Below.alloc ?_ (by first | omega | (simp; done) | (simp; omega)) _ | with_reducible refine Below.setCell ?_ (by first | omega | (simp; done) | (simp; omega)) _))⟩
  · have ho : (w.alloc (.cells #[] 53)).ownsRow w.heap.size 53 2 (.slice (some ⟨w.heap.size, 0, none⟩) 0 0) 0 [] := World.ownsRow_lit (e := 53) (size := 2) w #[] 0 (Nat.le_refl _) (by unfold maxLen; omega) rfl
    have hr := h.alloc (Nat.le_refl _) (.cells #[] 53)
    go_enter Tryz.func129, Tryz.ntmps129
    go_wp2_with (at_builtin; refine wpList_app _ rfl _ _ 23 rfl elt23 _ _ _ _ rfl ho w.heap.size (some ad) n c (vecsV l) rfl hr (vecsV_one l) (by omega) (by simp) ?_; intro v' w2 ho2 hg hb')
    have hbel := below_own ((Below.refl _ _).alloc (Nat.le_refl _) (.cells #[] 53)) ho hg (by simp) (Nat.le_refl _)
    go_ret
    obtain ⟨A', c', rfl, hr', hb⟩ := Row.of_own ho2
    exact ⟨A', c', by simp, by simpa using hr', hb, hbel⟩

set_option maxRecDepth 100000 in
set_option maxHeartbeats 4000000 in
theorem cloneE (l : List EntV) (w : World) (A : Option Addr) (n c : Nat) (h : Reads w w.heap.size 8 A n (entsV l)) (hn : n ≤ 100000) :
    Calls Tryz.prog 71 #[.slice A n c] w fun e w' => ∃ A' c', e = .returned (.slice A' n c') ∧ Fresh w w' 55 8 A' n c' (entsV l) := by
  have keq := fun w => Lib.run_eql_slice_nil (P := Tryz.prog) w 44 55 A n c 0 0 Tryz.underlying44
  rcases A with _ | ad
  · have hn0 : n = 0 := by
      rcases Nat.eq_zero_or_pos n with h0 | h0
      · exact h0
      · obtain ⟨ad, h1, _⟩ := h.2 h0
        cases h1
    subst hn0
    have hx : entsV l = [] := List.eq_nil_of_length_eq_zero (by simpa using h.1)
    have HX := Lib.hid hx
    clear h hx
    go_enter Tryz.func71, Tryz.ntmps71
    go_wp2
    go_ret
    exact ⟨none, 0, rfl, by rw [HX.out]; exact Row.nil_, (fun g hg => nomatch hg), (by repeat (first | with_reducible exact Below.refl _ _ | with_reducible assumption | with_reducible refine Below.drew ?_ | with_reducible refine below_drews ?_ _ | with_reducible refine Below.alloc ?_ (by first | omega | (simp; done) | (simp; omega)) _ | with_reducible refine Below.setCell ?_ (by first | omega | (simp; done) | (simp; omega)) _))⟩
  · have ho : (w.alloc (.cells #[] 55)).ownsRow w.heap.size 55 8 (.slice (some ⟨w.heap.size, 0, none⟩) 0 0) 0 [] := World.ownsRow_lit (e := 55) (size := 8) w #[] 0 (Nat.le_refl _) (by unfold maxLen; omega) rfl
    have hr := h.alloc (Nat.le_refl _) (.cells #[] 55)
    go_enter Tryz.func71, Tryz.ntmps71
    go_wp2_with (at_builtin; refine wpList_app _ rfl _ _ 44 rfl elt56 _ _ _ _ rfl ho w.heap.size (some ad) n c (entsV l) rfl hr (entsV_one l) (by omega) (by simp) ?_; intro v' w2 ho2 hg hb')
    have hbel := below_own ((Below.refl _ _).alloc (Nat.le_refl _) (.cells #[] 55)) ho hg (by simp) (Nat.le_refl _)
    go_ret
    obtain ⟨A', c', rfl, hr', hb⟩ := Row.of_own ho2
    exact ⟨A', c', by simp, by simpa using hr', hb, hbel⟩

end Go.Proofs.YtojbijapdkohlaaGreatDoor
set_option linter.unusedSimpArgs false
set_option linter.unusedVariables false
namespace Go.Proofs.YtojbijapdkohlaaGreatDoor
open Go.RowKit Go.MapKept
def kvs (l : List (Int × Value)) : List (Value × Value) := l.map fun p => (.int .i64 p.1, p.2)
def IMap (w : World) (b : Nat) (l : List (Int × Value)) : Prop := ∃ es clock, w.heap[b]? = some (.map es clock) ∧ es.toList.map (fun e => (e.key, e.val)) = kvs l
def lkI (k : Int) : List (Int × Value) → Nat → Option (Nat × Value)
  | [], _ => none
  | p :: ps, i => if p.1 = k then some (i, p.2) else lkI k ps (i + 1)
section
variable {P : Program} {w w' : World} {b : Nat} {l : List (Int × Value)} {T K E : TypeId}
theorem findNow_i64 (k : Int) : ∀ (es : List MapEntry) (l : List (Int × Value)) (i : Nat), es.map (fun e => (e.key, e.val)) = kvs l → Instr.findNow (.int .i64) (.int .i64 k) es i = some (lkI k l i)
  | [], l, i, h => by
    cases l with
    | nil => rfl
    | cons p ps => simp [kvs] at h
  | e :: es, l, i, h => by
    cases l with
    | nil => simp [kvs] at h
    | cons p ps =>
      simp only [kvs, List.map_cons, List.cons.injEq, Prod.mk.injEq] at h
      obtain ⟨⟨h1, h2⟩, h3⟩ := h
      unfold Instr.findNow lkI
      rw [h1]
      by_cases hk : p.1 = k
      · simp [Instr.sameNow, hk, h2]
      · have : (k == p.1) = false := beq_eq_false_iff_ne.2 (Ne.symm hk)
        simp [Instr.sameNow, hk, this]
        exact findNow_i64 k es ps (i + 1) h3
theorem IMap.lt (h : IMap w b l) : b < w.heap.size := by
  obtain ⟨es, clock, h1, -⟩ := h
  rcases Nat.lt_or_ge b w.heap.size with hlt | hge
  · exact hlt
  · rw [Array.getElem?_eq_none hge] at h1; cases h1
theorem IMap.keep (h : IMap w b l) (hk : w'.heap[b]? = w.heap[b]?) : IMap w' b l := by
  obtain ⟨es, clock, h1, h2⟩ := h
  exact ⟨es, clock, hk.trans h1, h2⟩
theorem IMap.new (w : World) : IMap (w.alloc (.map #[] 0)) w.heap.size [] := ⟨#[], 0, heap_alloc_new w _, rfl⟩
def lkV (k : Int) (l : List (Int × Value)) (z : Value) : Value := ((lkI k l 0).map (·.2)).getD z
def lkB (k : Int) (l : List (Int × Value)) : Bool := (lkI k l 0).isSome
theorem run_getObj_at {es : Array MapEntry} {clock : Nat} (hb : w.heap[b]? = some (.map es clock)) : (getObj b).run P w = .ok (.map es clock) w := by simp [getObj, Sem.run, hb]
theorem run_lookup_imap (ht : P.underlying T = some (.map K E)) (hk : P.underlying K = some (.int .i64)) (h : IMap w b l) {z : Value} (hz : (zeroValue E).run P w = .ok z w) (k : Int) :
    (Instr.lookup T (.map (some b)) (.int .i64 k) false).run P w = .ok (lkV k l z) w := by
  obtain ⟨es, clock, h1, h2⟩ := h
  have hf := run_findKey (P := P) (w := w) (kt := K) hk (findNow_i64 k es.toList l 0 h2)
  unfold lkV
  cases hl : lkI k l 0 with
  | none =>
    rw [hl] at hf
    simp [Instr.lookup, run_underlying ht, Result.andThen, run_getObj_at h1, run_checkKey hk (k := .int .i64 k) rfl, hf, hz]
  | some r =>
    rw [hl] at hf
    obtain ⟨i, v⟩ := r
    simp [Instr.lookup, run_underlying ht, Result.andThen, run_getObj_at h1, run_checkKey hk (k := .int .i64 k) rfl, hf, hz]
theorem run_lookup_nil_ok (ht : P.underlying T = some (.map K E)) (hk : P.underlying K = some (.int .i64)) {z : Value} (hz : (zeroValue E).run P w = .ok z w) (k : Int) :
    (Instr.lookup T (.map none) (.int .i64 k) true).run P w = .ok (.tuple #[z, .bool false]) w := by
  have hf := run_findKey (P := P) (w := w) (kt := K) hk (findNow_i64 k [] [] 0 rfl)
  simp only [lkI] at hf
  simp [Instr.lookup, run_underlying ht, Result.andThen, run_checkKey hk (k := .int .i64 k) rfl, hf, hz]
theorem run_lookup_imap_ok (ht : P.underlying T = some (.map K E)) (hk : P.underlying K = some (.int .i64)) (h : IMap w b l) {z : Value} (hz : (zeroValue E).run P w = .ok z w) (k : Int) :
    (Instr.lookup T (.map (some b)) (.int .i64 k) true).run P w = .ok (.tuple #[lkV k l z, .bool (lkB k l)]) w := by
  obtain ⟨es, clock, h1, h2⟩ := h
  have hf := run_findKey (P := P) (w := w) (kt := K) hk (findNow_i64 k es.toList l 0 h2)
  unfold lkV lkB
  cases hl : lkI k l 0 with
  | none =>
    rw [hl] at hf
    simp [Instr.lookup, run_underlying ht, Result.andThen, run_getObj_at h1, run_checkKey hk (k := .int .i64 k) rfl, hf, hz]
  | some r =>
    rw [hl] at hf
    obtain ⟨i, v⟩ := r
    simp [Instr.lookup, run_underlying ht, Result.andThen, run_getObj_at h1, run_checkKey hk (k := .int .i64 k) rfl, hf, hz]
def putI (k : Int) (v : Value) (l : List (Int × Value)) : List (Int × Value) := match lkI k l 0 with
  | some (i, _) => l.set i (k, v)
  | none => l ++ [(k, v)]
def delI (k : Int) (l : List (Int × Value)) : List (Int × Value) := match lkI k l 0 with
  | some (i, _) => l.eraseIdx i
  | none => l
theorem lkI_spec (k : Int) : ∀ (l : List (Int × Value)) (i : Nat), (lkI k l i = none ∧ ∀ p ∈ l, p.1 ≠ k) ∨ ∃ (j : Nat) (v : Value), lkI k l i = some (i + j, v) ∧ l[j]? = some (k, v) ∧ ∀ (j' : Nat) (p : Int × Value), j' < j → l[j']? = some p → p.1 ≠ k
  | [], i => .inl ⟨rfl, by simp⟩
  | p :: ps, i => by
    unfold lkI
    by_cases h : p.1 = k
    · rw [if_pos h]
      exact .inr ⟨0, p.2, rfl, by rw [← h]; rfl, fun j' _ hj => absurd hj (by omega)⟩
    · rw [if_neg h]
      rcases lkI_spec k ps (i + 1) with ⟨h1, h2⟩ | ⟨j, v, h1, h2, h3⟩
      · exact .inl ⟨h1, fun q hq => by rcases List.mem_cons.1 hq with rfl | hq; exact h; exact h2 q hq⟩
      · refine .inr ⟨j + 1, v, by rw [h1]; congr 2; omega, by simpa using h2, fun j' q hj hq => ?_⟩
        rcases j' with _ | j'
        · simp at hq; subst hq; exact h
        · exact h3 j' q (by omega) (by simpa using hq)
theorem kvs_length (l : List (Int × Value)) : (kvs l).length = l.length := by simp [kvs]
theorem run_mapUpdate_imap (ht : P.underlying T = some (.map K E)) (hk : P.underlying K = some (.int .i64)) (h : IMap w b l) (k : Int) (v : Value) :
    ∃ w', (Instr.mapUpdate T (.map (some b)) (.int .i64 k) v).run P w = .ok () w' ∧ IMap w' b (putI k v l) ∧ w.grownBy w' (some b) := by
  obtain ⟨es, clock, h1, h2⟩ := h
  have hf := run_findKey (P := P) (w := w) (kt := K) hk (findNow_i64 k es.toList l 0 h2)
  have hgrow : ∀ o : Obj, w.grownBy { w with heap := w.heap.setIfInBounds b o } (some b) := fun o => ⟨rfl, rfl, rfl, by simp, fun i _ hi => (heap_set (o' := o) h1).2 i (fun e => hi (by rw [e]))⟩
  have hlen : es.size = l.length := by have := congrArg List.length h2; simpa [kvs] using this
  unfold putI
  rcases lkI_spec k l 0 with ⟨h3, _⟩ | ⟨j, u, h3, h4, _⟩
  · rw [h3] at hf ⊢
    refine ⟨_, ?_, ⟨es.push { key := .int .i64 k, val := v, born := clock }, clock + 1, (heap_set h1).1, ?_⟩, hgrow _⟩
    · simp [Instr.mapUpdate, run_underlying ht, Result.andThen, run_getObj_at h1, run_checkKey hk (k := .int .i64 k) rfl, hf, run_setObj_map _ h1]
    · simp [kvs] at h2 ⊢
      exact h2
  · rw [Nat.zero_add] at h3
    rw [h3] at hf ⊢
    have hj : j < es.size := by have := (List.getElem?_eq_some_iff.1 h4).1; omega
    have hkey : es[j].key = .int .i64 k := by
      have e1 : (es.toList.map (fun e => (e.key, e.val)))[j]? = some (es[j].key, es[j].val) := by simp [hj]
      rw [h2] at e1
      simp only [kvs, List.getElem?_map, h4, Option.map_some, Option.some.injEq, Prod.mk.injEq] at e1
      exact e1.1.symm
    refine ⟨_, ?_, ⟨es.modify j fun e => { e with key := .int .i64 k, val := v }, clock, (heap_set h1).1, ?_⟩, hgrow _⟩
    · simp [Instr.mapUpdate, run_underlying ht, Result.andThen, run_getObj_at h1, run_checkKey hk (k := .int .i64 k) rfl, hf, run_setObj_map _ h1, hj, hkey, Instr.keyThatStays, Instr.sameBits]
    · apply List.ext_getElem?
      intro i
      have e0 := congrArg (·[i]?) h2
      simp only [kvs, List.getElem?_map, Array.getElem?_toList] at e0 ⊢
      rw [Array.getElem?_modify, List.getElem?_set]
      by_cases hij : j = i
      · subst hij
        simp [hj, (List.getElem?_eq_some_iff.1 h4).1]
      · simp only [if_neg hij]
        exact e0
theorem run_delete_imap (ht : P.underlying T = some (.map K E)) (hk : P.underlying K = some (.int .i64)) (h : IMap w b l) (k : Int) (T2 T3 : TypeId) :
    ∃ w', (Builtin.delete_ #[T, T2] T3 #[.map (some b), .int .i64 k]).run P w = .ok (.tuple #[]) w' ∧ IMap w' b (delI k l) ∧ w.grownBy w' (some b) := by
  obtain ⟨es, clock, h1, h2⟩ := h
  have hf := run_findKey (P := P) (w := w) (kt := K) hk (findNow_i64 k es.toList l 0 h2)
  have hgrow : ∀ o : Obj, w.grownBy { w with heap := w.heap.setIfInBounds b o } (some b) := fun o => ⟨rfl, rfl, rfl, by simp, fun i _ hi => (heap_set (o' := o) h1).2 i (fun e => hi (by rw [e]))⟩
  have hlen : es.size = l.length := by have := congrArg List.length h2; simpa [kvs] using this
  unfold delI
  rcases lkI_spec k l 0 with ⟨h3, _⟩ | ⟨j, u, h3, h4, _⟩
  · rw [h3] at hf ⊢
    refine ⟨_, ?_, ⟨es, clock, (heap_set h1).1, h2⟩, hgrow _⟩
    simp [Builtin.delete_, run_underlying ht, Result.andThen, run_getObj_at h1, run_checkKey hk (k := .int .i64 k) rfl, hf, run_setObj_map _ h1]
  · rw [Nat.zero_add] at h3
    rw [h3] at hf ⊢
    refine ⟨_, ?_, ⟨es.eraseIdxIfInBounds j, clock, (heap_set h1).1, ?_⟩, hgrow _⟩
    · simp [Builtin.delete_, run_underlying ht, Result.andThen, run_getObj_at h1, run_checkKey hk (k := .int .i64 k) rfl, hf, run_setObj_map _ h1]
    · have hj : j < es.size := by have := (List.getElem?_eq_some_iff.1 h4).1; omega
      have e1 : (es.eraseIdxIfInBounds j).toList = es.toList.eraseIdx j := by
        unfold Array.eraseIdxIfInBounds
        simp [hj]
      rw [e1]
      simp only [kvs] at h2 ⊢
      apply List.ext_getElem?
      intro i
      have e0 := congrArg (·[i]?) h2
      have e2 := congrArg (·[i + 1]?) h2
      simp only [List.getElem?_map] at e0 e2
      simp only [List.getElem?_map, List.getElem?_eraseIdx]
      split
      · exact e0
      · exact e2
end
end Go.Proofs.YtojbijapdkohlaaGreatDoor
set_option linter.unusedSimpArgs false
set_option linter.unusedVariables false
namespace Go.Proofs.YtojbijapdkohlaaGreatDoor
open Go.RowKit
section
variable {P : Program} {ops : Array Oper} {md : Region.Mode} {C : World → Prop}
def headQ (P : Program) (md : Region.Mode) (ops : Array Oper) (C : World → Prop) (n : Nat) (L : Array Bool → Act → Prop) : Nat → Array Bool → Act → Prop
  | 0, listed, a => L listed a
  | f + 1, listed, a => Region.ready md ops listed ≠ [] ∧ ∀ i ∈ Region.ready md ops listed, i < n ∧ qOp P ops C i (headQ P md ops C n L f (listed.setIfInBounds i true)) a
theorem any_of_headQ {n g : Nat} {L : Array Bool → Act → Prop} {Q' : Exit → Act → World → Prop} (hL : ∀ listed a w, C w → L listed a → wpAny P md ops Q' g listed a w) :
    ∀ (f : Nat) (listed : Array Bool) (a : Act) (w : World), C w → headQ P md ops C n L f listed a → wpAny P md ops Q' (f + g) listed a w
  | 0, listed, a, w, hw, h => by rw [Nat.zero_add]; exact hL _ _ _ hw h
  | f + 1, listed, a, w, hw, h => by
    rw [show f + 1 + g = (f + g) + 1 by omega]
    exact ⟨fun h0 => absurd h0 h.1, fun i hi => wpOp_of_qOp hw (fun a' w' hw' h' => any_of_headQ hL f _ a' w' hw' h') (h.2 i hi).2⟩
theorem headQ_first {n i : Nat} {oi : Oper} {v : Value} {L : Array Bool → Act → Prop} (hi : ops[i]? = some oi) (hsel : ∀ (j : Nat) (o : Oper) cs b, ops[j]? = some o → o.op ≠ .select cs b)
    (hs : Region.sinkB md ops n = true) (hc : Region.chainB md ops n = true) (hn : n < ops.size) (hin : i < n) (hdone : ∀ listed a, L listed a → ∀ j ∈ Region.ready md ops listed, n ≤ j) (f : Nat) :
    ∀ (listed : Array Bool) (a : Act), HeadInv md ops n listed →
      (∀ j oj, ops[j]? = some oj → j ≠ i → listed.getD j true = false → (∀ e ∈ oj.after, Region.binds md e = true → e.on ≠ i) → oi.apart ops oj = true) →
      i ∈ Region.ready md ops listed → YieldsIn P ops C oi v a → headQ P md ops C n L f (listed.setIfInBounds i true) (a.put oi.dst v) → headQ P md ops C n L (f + 1) listed a := by
  induction f with
  | zero =>
    intro listed a inv _ hr hy H
    have hun := (mem_ready.1 hr).1
    refine ⟨fun h => (by rw [h] at hr; cases hr), fun j hj => ?_⟩
    have hjn : j < n := Decidable.byContradiction fun h => absurd hj (tail_waits hs hc hn inv _ i rfl hin hun j (by omega))
    refine ⟨hjn, ?_⟩
    by_cases hji : j = i
    · subst hji; exact hy.qOp hi H
    · have := hdone _ _ H j (ready_mono hj hji)
      omega
  | succ f ih =>
    intro listed a inv hfree hr hy H
    have hun := (mem_ready.1 hr).1
    refine ⟨fun h => (by rw [h] at hr; cases hr), fun j hj => ?_⟩
    have hjn : j < n := Decidable.byContradiction fun h => absurd hj (tail_waits hs hc hn inv _ i rfl hin hun j (by omega))
    refine ⟨hjn, ?_⟩
    by_cases hji : j = i
    · subst hji; exact hy.qOp hi H
    · have h1 := (H.2 j (ready_mono hj hji)).2
      obtain ⟨hjun, oj, hoj, hall⟩ := mem_ready.1 hj
      have hnot : ∀ e ∈ oj.after, Region.binds md e = true → e.on ≠ i := fun e he hb heq => by
        have h1 := hall e he hb
        rw [heq, getD_both hun] at h1
        cases h1
      have h2 := qOp_put hoj (hfree j oj hoj hji hjun hnot) (fun cs b => hsel i oi cs b hi) (fun cs b => hsel j oj cs b hoj) hy h1
      refine qOp_mono (fun a' h3 => ih (listed.setIfInBounds j true) a' (inv.set hj hjn) (fun k ok hk hki hun' hno => ?_) (ready_mono hr (Ne.symm hji)) h3.1 (by rw [Array.setIfInBounds_comm _ _ hji]; exact h3.2)) h2
      refine hfree k ok hk hki ?_ hno
      by_cases hjk : j = k
      · subst hjk; exact hjun
      · rw [getD_set_ne true hjk] at hun'; exact hun'
theorem headQ_lex {n g : Nat} {Lq : Act → Prop} (hsel : Region.noSelect ops = true) (hs : Region.sinkB md ops n = true) (hc : Region.chainB md ops n = true) (hn : n < ops.size) :
    ∀ (l : List Oper) (k : Nat) (listed : Array Bool) (a : Act), (∀ j, j < l.length → l[j]? = ops[k + j]?) → k + l.length = n → HeadInv md ops n listed →
    Region.lexHead md ops g l.length k listed = true → wpQuiet P ops C Lq l a → headQ P md ops C n (fun listed' a' => Region.seqB md ops g n listed' = true ∧ Lq a') l.length listed a
  | [], k, listed, a, _, hk, _, hB, h => by
    have : k = n := by simpa using hk
    subst this
    exact ⟨by simpa [Region.lexHead] using hB, h⟩
  | o :: l, k, listed, a, hl, hk, inv, hB, h => by
    have h0 : ops[k]? = some o := by simpa using (hl 0 (by simp)).symm
    simp only [List.length_cons, Region.lexHead, Bool.and_eq_true] at hB
    obtain ⟨⟨hr, hf⟩, hB'⟩ := hB
    have hkn : k < n := by simp only [List.length_cons] at hk; omega
    have hr' : k ∈ Region.ready md ops listed := by simpa using hr
    have hst : qOp P ops C k (wpQuiet P ops C Lq l) a := by unfold qOp; simp only [h0]; exact h
    obtain ⟨v, hy, hK⟩ := yieldsIn_of_qOp h0 hst
    exact headQ_first h0 (Region.noSelect_spec hsel) hs hc hn hkn (fun listed' a' hL => seqB_ready hL.1) l.length listed a inv (Region.free_spec h0 hf) hr' hy
      (headQ_lex hsel hs hc hn l (k + 1) _ _ (fun j hj => by have := hl (j + 1) (by simp; omega); simpa [Nat.add_assoc, Nat.add_comm 1 j] using this) (by simp only [List.length_cons] at hk; omega) (inv.set hr' hkn) hB' hK)
theorem wp_region_class_tail {id : Nat} {Q : Exit → Act → World → Prop} {a : Act} {w : World} {l : List Oper} (n : Nat) (hm : P.follows .mixedOrders = true) (hB : Region.lexTailB .any l.toArray n = true) (hC : C { w with drawn := w.drawn + 1 })
    (h : wpQuiet P l.toArray C (fun a' => ∀ w', C w' → wpList P l.toArray Q (l.drop n) a' w') (l.take n) a) : (Code.region id l.toArray true).wp P Q a w := by
  simp only [Region.lexTailB, Bool.and_eq_true, decide_eq_true_eq] at hB
  obtain ⟨⟨⟨⟨hsel, hn⟩, hs⟩, hc⟩, hlex⟩ := hB
  have hn' : n < l.length := by simpa using hn
  have htl : (l.take n).length = n := by simp; omega
  have hdl : (l.drop n).length = l.toArray.size - n := by simp
  have inv0 : HeadInv .any l.toArray n (Array.replicate l.toArray.size false) :=
    ⟨by simp, fun j oj _ hl => (by rw [getD_replicate_false] at hl; cases hl), fun t _ ht => getD_in (by simpa using ht) (getD_replicate_false _ _)⟩
  have H := headQ_lex (P := P) (C := C) (md := .any) (g := l.toArray.size - n) hsel hs hc hn (l.take n) 0 _ a (fun j hj => by
    have hj' : j < n := by rw [htl] at hj; exact hj
    simp [hj']) (by simpa using htl) inv0 (by rw [htl]; exact hlex) h
  refine wp_region_any hm ?_
  have := any_of_headQ (Q' := Q) (g := l.toArray.size - n) (fun listed a' w' hw' hL => by
    have := wpAny_of_seq (md := .any) (Q' := Q) (l.drop n) n listed a' w' (fun j => by simp [List.getElem?_drop]) (by rw [hdl]; exact hL.1) (hL.2 w' hw')
    rwa [hdl] at this) _ _ _ _ hC H
  rw [htl, show n + (l.toArray.size - n) = l.toArray.size by omega] at this
  exact this
end
/-- At worlds that are as W below B, what the cells below B read laid at hand. -/
theorem wp_region_kin_tail {P : Program} {id : Nat} {Q : Exit → Act → World → Prop} {a : Act} {w : World} {l : List Oper} (n B : Nat) (hm : P.follows .mixedOrders = true) (hB : Region.lexTailB .any l.toArray n = true)
    (h : (∀ (x : Kin B w) (b o : Nat), b < B → x.w.cell? ⟨b, o, none⟩ = w.cell? ⟨b, o, none⟩) → wpQuiet P l.toArray (fun w' => ∃ x : Kin B w, w' = x.w) (fun a' => ∀ w', (∃ x : Kin B w, w' = x.w) → wpList P l.toArray Q (l.drop n) a' w') (l.take n) a) : (Code.region id l.toArray true).wp P Q a w :=
  wp_region_class_tail (C := fun w' => ∃ x : Kin B w, w' = x.w) n hm hB ⟨⟨w.drew, (Below.refl B w).drew⟩, rfl⟩ (h fun x b o hb => x.below.cell (p := ⟨b, o, none⟩) hb)
end Go.Proofs.YtojbijapdkohlaaGreatDoor
set_option linter.unusedSimpArgs false
set_option linter.unusedVariables false
namespace Go.Proofs.YtojbijapdkohlaaGreatDoor
open Go.RowKit
def intsV (l : List Int) : List Value := l.map (Value.int .i64)
theorem intsV_length (l : List Int) : (intsV l).length = l.length := by simp [intsV]
theorem intsV_at {l : List Int} {k : Nat} {x : Int} (h : l[k]? = some x) : (intsV l)[k]? = some (.int .i64 x) := by unfold intsV; rw [List.getElem?_map, h]; rfl
def lastI (l : List Int) : Int := (l[l.length - 1]?).getD (-1)
def firstI (l : List Int) : Int := (l[0]?).getD (-1)
set_option maxRecDepth 100000 in
set_option maxHeartbeats 2000000 in
theorem ringLast (ts : List Int) (b o : Nat) (A : Option Addr) (n c : Nat) (w : World) (h0 : w.cell? ⟨b, o, none⟩ = some (.slice A n c)) (hr : Reads w w.heap.size 1 A n (intsV ts)) (hn : n ≤ 100000) :
    Calls Tryz.prog 85 #[.pointer (some ⟨b, o, none⟩)] w fun e w' => e = .returned (.int .i64 (lastI ts)) ∧ Below w.heap.size w w' := by
  have hl : ts.length = n := by have := hr.1; rw [intsV_length] at this; omega
  have hb := World.block_lt_of_cell? w _ h0
  rcases n with _ | k
  · have ht : ts = [] := List.eq_nil_of_length_eq_zero hl
    subst ht
    clear hr hl
    go_enter Tryz.func85, Tryz.ntmps85
    go_wp2
    go_ret
    exact ⟨rfl, (by repeat (first | with_reducible exact Below.refl _ _ | with_reducible assumption | with_reducible refine Below.drew ?_ | with_reducible refine below_drews ?_ _ | with_reducible refine Below.alloc ?_ (by first | omega | (simp; done) | (simp; omega)) _ | with_reducible refine Below.setCell ?_ (by first | omega | (simp; done) | (simp; omega)) _))⟩
  · obtain ⟨x, hx⟩ : ∃ x, ts[k]? = some x := ⟨_, List.getElem?_eq_getElem (by omega)⟩
    have hlast : lastI ts = x := by unfold lastI; rw [hl, Nat.add_sub_cancel, hx]; rfl
    rw [hlast]
    obtain ⟨g, off, rfl, hg, hc⟩ := hr.flat (by omega) (by decide)
    have h1 : w.cell? ⟨g, off + k, none⟩ = some (.int .i64 x) := hc k _ (intsV_at hx)
    have hz : (((k + 1 : Nat) : Int) == 0) = false := beq_eq_false_iff_ne.2 (by omega)
    have hz2 : ((k : Int) + 1 == 0) = false := beq_eq_false_iff_ne.2 (by omega)
    have hz3 : (k : Int) + 1 - 1 = (k : Int) := by omega
    have hg2 : g < w.heap.size := hg
    have hb2 : b < w.heap.size := hb
    clear hr hl hc hx hlast
    go_enter Tryz.func85, Tryz.ntmps85
    go_wp2
    refine wp_region_kin' w.heap.size (by kernel_rfl) (by kernel_rfl) (fun kk => ?_)
    repeat (first | go_big_quiet_step (fail) | quiet_step (fail))
    refine wpQuiet_nil ?_
    rintro _ ⟨⟨wk, hwk⟩, rfl⟩
    go_wp2
    go_ret
    exact ⟨rfl, hwk⟩
set_option maxRecDepth 100000 in
set_option maxHeartbeats 2000000 in
theorem ringFirst (ts : List Int) (b o : Nat) (A : Option Addr) (n c : Nat) (w : World) (h0 : w.cell? ⟨b, o, none⟩ = some (.slice A n c)) (hr : Reads w w.heap.size 1 A n (intsV ts)) (hn : n ≤ 100000) :
    Calls Tryz.prog 202 #[.pointer (some ⟨b, o, none⟩)] w fun e w' => e = .returned (.int .i64 (firstI ts)) ∧ Below w.heap.size w w' := by
  have hl : ts.length = n := by have := hr.1; rw [intsV_length] at this; omega
  rcases n with _ | k
  · have ht : ts = [] := List.eq_nil_of_length_eq_zero hl
    subst ht
    clear hr hl
    go_enter Tryz.func202, Tryz.ntmps202
    go_wp2
    go_ret
    exact ⟨rfl, (by repeat (first | with_reducible exact Below.refl _ _ | with_reducible assumption | with_reducible refine Below.drew ?_ | with_reducible refine below_drews ?_ _ | with_reducible refine Below.alloc ?_ (by first | omega | (simp; done) | (simp; omega)) _ | with_reducible refine Below.setCell ?_ (by first | omega | (simp; done) | (simp; omega)) _))⟩
  · obtain ⟨x, hx⟩ : ∃ x, ts[0]? = some x := ⟨_, List.getElem?_eq_getElem (by omega)⟩
    have hfirst : firstI ts = x := by unfold firstI; rw [hx]; rfl
    rw [hfirst]
    obtain ⟨g, off, rfl, hg, hc⟩ := hr.flat (by omega) (by decide)
    have h1 : w.cell? ⟨g, off, none⟩ = some (.int .i64 x) := hc 0 _ (intsV_at hx)
    have hz : (((k + 1 : Nat) : Int) == 0) = false := beq_eq_false_iff_ne.2 (by omega)
    have hz2 : ((k : Int) + 1 == 0) = false := beq_eq_false_iff_ne.2 (by omega)
    clear hr hl hc hx hfirst
    go_enter Tryz.func202, Tryz.ntmps202
    go_wp2
    go_ret
    exact ⟨rfl, (by repeat (first | with_reducible exact Below.refl _ _ | with_reducible assumption | with_reducible refine Below.drew ?_ | with_reducible refine below_drews ?_ _ | with_reducible refine Below.alloc ?_ (by first | omega | (simp; done) | (simp; omega)) _ | with_reducible refine Below.setCell ?_ (by first | omega | (simp; done) | (simp; omega)) _))⟩
def heldI (ts : List Int) (view : Int) : Int := if lastI ts = -1 then -1 else min (max view (firstI ts)) (lastI ts)
set_option maxRecDepth 100000 in
set_option maxHeartbeats 2000000 in
theorem rewHeld (ts : List Int) (view : Int) (b o : Nat) (A : Option Addr) (n c : Nat) (w : World) (h0 : w.cell? ⟨b, o, none⟩ = some (.slice A n c)) (hr : Reads w w.heap.size 1 A n (intsV ts)) (hn : n ≤ 100000) :
    Calls Tryz.prog 143 #[.pointer (some ⟨b, o, none⟩), .int .i64 view] w fun e w' => e = .returned (.int .i64 (heldI ts view)) ∧ Below w.heap.size w w' := by
  have hb := World.block_lt_of_cell? w _ h0
  have hL := Lib.hid (fun W (hW : Below w.heap.size w W) => ringLast ts b o A n c W ((hW.cell (p := ⟨b, o, none⟩) hb).trans h0) ((hr.below hW).upto hW.size) hn)
  have hF := Lib.hid (fun W (hW : Below w.heap.size w W) => ringFirst ts b o A n c W ((hW.cell (p := ⟨b, o, none⟩) hb).trans h0) ((hr.below hW).upto hW.size) hn)
  clear hr
  unfold heldI
  by_cases hl : lastI ts = -1
  · rw [if_pos hl]
    rw [hl] at hL
    have hz : ((-1 : Int) == -1) = true := rfl
    clear hl
    go_enter Tryz.func143, Tryz.ntmps143
    go_wp2_with fail
    refine (hL.out _ (Below.refl _ _)).mono ?_
    rintro e w1 ⟨rfl, hb1⟩
    go_wp2_with fail
    go_ret
    exact ⟨rfl, hb1⟩
  · rw [if_neg hl]
    have hz : (lastI ts == -1) = false := beq_eq_false_iff_ne.2 hl
    generalize lastI ts = x at hL hz ⊢
    generalize firstI ts = y at hF ⊢
    clear hl
    obtain ⟨m, hm⟩ : ∃ m, max view y = m := ⟨_, rfl⟩
    obtain ⟨m2, hm2⟩ : ∃ m2, min m x = m2 := ⟨_, rfl⟩
    have e1 : (if view < y then y else view) = m := by rw [← hm]; split <;> omega
    have e2 : (if x < m then x else m) = m2 := by rw [← hm2]; split <;> omega
    have e3 : (if m < x then m else x) = m2 := by rw [← hm2]; split <;> omega
    rw [hm, hm2]
    clear hm hm2
    go_enter Tryz.func143, Tryz.ntmps143
    go_wp2_with fail
    refine (hL.out _ (Below.refl _ _)).mono ?_
    rintro e w1 ⟨rfl, hb1⟩
    go_wp2_with fail
    refine (hF.out _ hb1).mono ?_
    rintro e w2 ⟨rfl, hb2⟩
    have B2 : Below w.heap.size w w2 := hb1.trans (hb2.mono hb1.size)
    go_wp2_with fail
    refine (hL.out _ B2).mono ?_
    rintro e w3 ⟨rfl, hb3⟩
    go_wp2_with fail
    go_ret
    exact ⟨ret_int (by first | rfl | assumption | simp_all), B2.trans (hb3.mono B2.size)⟩
end Go.Proofs.YtojbijapdkohlaaGreatDoor
set_option linter.unusedSimpArgs false
set_option linter.unusedVariables false
namespace Go.Proofs.YtojbijapdkohlaaGreatDoor
open Go.RowKit
set_option maxRecDepth 100000 in
theorem eltI : Elt Tryz.prog 158 3 1 8 := Elt.mk' Tryz.underlying158 (.int .i64 0) (by kernel_rfl) rfl (by decide) (by decide)
set_option maxRecDepth 100000 in
theorem eql_map_nil (w : World) : (binOp .eql 159 (.map none) (.map none)).run Tryz.prog w = .ok (.bool true) w := by kernel_rfl
theorem Row.ne_blkR {w : World} {e t : TypeId} {size n c g : Nat} {A : Option Addr} {xs : List Value} {cs : Array Value} (h : Row w e size A n c xs) (hb : Blk w g t cs) (hne : e ≠ t) : ∀ q, blkOf A = some q → q ≠ g := by
  intro q hq
  rcases h.2.2.2 with ⟨h3, -⟩ | ⟨g', off, cur, h3, h4, -, -⟩
  · rw [h3] at hq; cases hq
  · rw [h3] at hq
    have : g' = q := by simpa [blkOf] using hq
    subst this
    exact Blk.ne_ (t := e) h4 hb hne
theorem Chg.cellF {F : Nat → Prop} {w w' : World} (h : Chg F w w') {p : Addr} (hp : p.block < w.heap.size) (hF : ¬ F p.block) : w'.cell? p = w.cell? p := by
  unfold World.cell?
  rw [h.block p.block hp hF]
theorem Reads.keepA {w w' : World} {B size n : Nat} {A : Option Addr} {xs : List Value} (h : Reads w B size A n xs) (hk : ∀ p : Addr, blkOf A = some p.block → p.block < B → w'.cell? p = w.cell? p) : Reads w' B size A n xs :=
  ⟨h.1, fun hn => by
    obtain ⟨ad, hA, hb, hc⟩ := h.2 hn
    exact ⟨ad, hA, hb, fun j u hu => (hk (ad.add j) (by rw [hA, block_of_add]; rfl) (by rw [block_of_add]; exact hb)).trans (hc j u hu)⟩⟩
def PutNew (b : Nat) (t : TypeId) (cs : Array Value) (tick : Int) (w : World) (e : Ending) (w' : World) : Prop :=
  e = .returned (.int .i64 0) ∧ ∃ (A' : Option Addr) (c' mb : Nat), Blk w' b t ((cs.setIfInBounds 9 (.map (some mb))).setIfInBounds 8 (.slice A' 1 c')) ∧ Row w' 3 1 A' 1 c' (intsV [tick]) ∧ (∀ q, blkOf A' = some q → w.heap.size ≤ q) ∧ w.heap.size ≤ mb ∧ Chg (fun q => q = b) w w'
set_option maxRecDepth 100000 in
set_option maxHeartbeats 8000000 in
theorem ringPutNew (b : Nat) (t : TypeId) (cs : Array Value) (tick : Int) (l : List EntV) (A : Option Addr) (n c : Nat) (w : World) (hb : Blk w b t cs) (hti : 3 ≠ t) (k8 : cs[8]? = some (.slice none 0 0)) (k9 : cs[9]? = some (.map none)) (hl : Reads w w.heap.size 8 A n (entsV l)) (hlb : ∀ q, blkOf A = some q → q ≠ b) (hn : n ≤ 100000) (h0 : 0 ≤ tick) (h1 : tick ≤ 4294967296) :
    Calls Tryz.prog 90 #[.pointer (some ⟨b, 8, none⟩), .int .i64 tick, .slice A n c] w (PutNew b t cs tick w) := by
  have z8 : w.cell? ⟨b, 8, none⟩ = some (.slice none 0 0) := (hb.cell 8).trans k8
  have lb := hb.lt
  have hL := ringLast [] b 8 none 0 0 w z8 Reads.none_ (by omega)
  have hla : lastI [] = -1 := rfl
  rw [hla] at hL
  have d1 : decide (tick ≤ -1) = false := decide_eq_false (by omega)
  have HB := Lib.hid hb
  have HL := Lib.hid hl
  have HLB := Lib.hid hlb
  have K := Lib.hid (show _ ∧ _ from ⟨k8, k9⟩)
  clear hb hl k8 k9 hla hlb z8
  go_enter Tryz.func90, Tryz.ntmps90
  go_wp2_with fail
  refine hL.mono ?_
  rintro e w1 ⟨rfl, hb1⟩
  have HB1 := Lib.hid (HB.out.below hb1 lb)
  have z8 : w1.cell? ⟨b, 8, none⟩ = some (.slice none 0 0) := (HB1.out.cell 8).trans K.out.1
  have z9 : w1.cell? ⟨b, 9, none⟩ = some (.map none) := (HB1.out.cell 9).trans K.out.2
  have f8 : w1.frozen? ⟨b, 8, none⟩ = false := HB1.out.frozen 8
  have f9 : w1.frozen? ⟨b, 9, none⟩ = false := HB1.out.frozen 9
  have lb1 := HB1.out.lt
  have HBE := Lib.hid hb1
  have kmap := fun w => eql_map_nil w
  clear hL hb1
  have kmk := fun w => run_makeMap (P := Tryz.prog) 159 w
  go_upto_if 19 with (fail)
  go_cut [] (fun wx => ∃ mb, Blk wx b t (cs.setIfInBounds 9 (.map (some mb))) ∧ IMap wx mb [] ∧ w.heap.size ≤ mb ∧ mb ≠ b ∧ Chg (fun q => q = b) w wx)
  case first =>
    go_wp2_with fail
    go_meet
    have hs := HBE.out.size
    have e0 : Blk ((w1.setCell ⟨b, 9, none⟩ (.map (some w1.heap.size))).alloc (.map #[] 0)) b t (cs.setIfInBounds 9 (.map (some w1.heap.size))) := (HB1.out.set_ 9 _).alloc _
    have e1 : IMap ((w1.setCell ⟨b, 9, none⟩ (.map (some w1.heap.size))).alloc (.map #[] 0)) w1.heap.size [] := by
      have := IMap.new (w1.setCell ⟨b, 9, none⟩ (.map (some w1.heap.size)))
      simpa using this
    have e2 : Chg (fun q => q = b) w ((w1.setCell ⟨b, 9, none⟩ (.map (some w1.heap.size))).alloc (.map #[] 0)) := Chg.alloc (Chg.setCell (F := fun q => q = b) (Chg.below (Chg.refl (w := w)) HBE.out (Nat.le_refl _)) (p := ⟨b, 9, none⟩) (.inl rfl) _) _
    exact ⟨w1.heap.size, e0, e1, hs, by omega, e2⟩
  case rest =>
    obtain ⟨mb, h0', h1', h2', h3', h4'⟩ := hcut
    have z8' : wc.cell? ⟨b, 8, none⟩ = some (.slice none 0 0) := (h0'.cell 8).trans ((Array.getElem?_setIfInBounds_ne (by decide)).trans K.out.1)
    have f8' : wc.frozen? ⟨b, 8, none⟩ = false := h0'.frozen 8
    have lbc := h0'.lt
    have C0 := Lib.hid h0'
    have C1 := Lib.hid h1'
    have C4 := Lib.hid h4'
    have lmb := h1'.lt
    have hsz := h4'.size
    clear h0' h1' h4' z8 z9 f8 f9 kmap kmk HB1 HBE lb1
    go_upto_region 8 with (at_builtin; refine wpList_row rfl (.tmp 28) (.tmp 30) rfl eltI none 0 0 [] rfl Row.nil_ (wc.heap.size + 1) (some ⟨wc.heap.size, 0, none⟩) 1 1 [.int .i64 tick] rfl (Reads.blk (size := 1) (n := 1) (g := wc.heap.size) (heap_alloc_new wc (.cells #[.int .i64 tick] 3)) (by omega) rfl) (by simp [Value.oneCell']) (by omega) ?_; intro A3 c3 w3 hr3 hg3 hb3; have mb3 := (C0.out.alloc (.cells #[.int .i64 tick] 3)).grown hg3 (by simp [blkOf]); have s8 : w3.cell? ⟨b, 8, none⟩ = some (.slice none 0 0) := (mb3.cell 8).trans ((Array.getElem?_setIfInBounds_ne (by decide)).trans K.out.1); have t8 : w3.frozen? ⟨b, 8, none⟩ = false := mb3.frozen 8)
    have hneb := hr3.ne_blkR mb3 hti
    have E0 : Blk (w3.setCell ⟨b, 8, none⟩ (.slice A3 1 c3)) b t ((cs.setIfInBounds 9 (.map (some mb))).setIfInBounds 8 (.slice A3 1 c3)) := mb3.set_ 8 _
    have E1 : IMap (w3.setCell ⟨b, 8, none⟩ (.slice A3 1 c3)) mb [] := C1.out.keep ((Below.heap_setCell _ _ _ mb h3').trans ((hg3.block mb (by simp; omega) (by simp [blkOf])).trans (Below.heap_alloc wc _ mb lmb)))
    have E3 : Row (w3.setCell ⟨b, 8, none⟩ (.slice A3 1 c3)) 3 1 A3 1 c3 (intsV [tick]) := by
      have := hr3.keep (w' := w3.setCell ⟨b, 8, none⟩ (.slice A3 1 c3)) (fun q hq => Below.heap_setCell _ _ _ q (hneb q hq))
      simpa [intsV] using this
    have E4 : Chg (fun q => q = b) w (w3.setCell ⟨b, 8, none⟩ (.slice A3 1 c3)) := Chg.setCell (F := fun q => q = b) (Chg.grown (Chg.alloc C4.out _) hg3 (fun k hk => by simp [blkOf] at hk)) (p := ⟨b, 8, none⟩) (.inl rfl) _
    have E5 : ∀ q, blkOf A3 = some q → w.heap.size ≤ q := by
      intro q hq
      rcases hb3 with h | h
      · rw [h] at hq; simp [blkOf] at hq
      · rw [h] at hq; simp at hq; omega
    have E6 : mb < (w3.setCell ⟨b, 8, none⟩ (.slice A3 1 c3)).heap.size := E1.lt
    clear hr3 hg3 hb3 mb3 s8 t8 hneb C0 C1 C4 z8' f8'
    generalize w3.setCell ⟨b, 8, none⟩ (.slice A3 1 c3) = w4 at E0 E1 E3 E4 E5 E6 ⊢
    have hk8 : 8 < cs.size := (Array.getElem?_eq_some_iff.1 K.out.1).1
    have hk9 : 9 < cs.size := (Array.getElem?_eq_some_iff.1 K.out.2).1
    have z9 : w4.cell? ⟨b, 9, none⟩ = some (.map (some mb)) := (E0.cell 9).trans ((Array.getElem?_setIfInBounds_ne (by decide)).trans (Array.getElem?_setIfInBounds_self_of_lt hk9))
    have z8 : w4.cell? ⟨b, 8, none⟩ = some (.slice A3 1 c3) := (E0.cell 8).trans (Array.getElem?_setIfInBounds_self_of_lt (by simpa using hk8))
    have lb4 := E0.lt
    have sz4 := E4.size
    have HRD := Lib.hid ((HL.out.keepA (w' := w4) (fun p hp hpb => E4.cellF hpb (fun e => HLB.out _ hp e))).upto sz4)
    have HC := Lib.hid (fun W (hW : Below w4.heap.size w4 W) => cloneE l W A n c ((HRD.out.below hW).upto hW.size) hn)
    have G0 := Lib.hid E0
    have G1 := Lib.hid E1
    have G3 := Lib.hid E3
    have G4 := Lib.hid E4
    have G5 := Lib.hid E5
    clear E0 E1 E3 E4 E5
    go_cut [] (fun wx => Blk wx b t ((cs.setIfInBounds 9 (.map (some mb))).setIfInBounds 8 (.slice A3 1 c3)) ∧ Row wx 3 1 A3 1 c3 (intsV [tick]) ∧ Chg (fun q => q = b) w wx)
    case first =>
      go_region_law (go_simp; go_at_call 71; refine (HC.out _ (by repeat (first | with_reducible exact Below.refl _ _ | with_reducible assumption | with_reducible refine Below.drew ?_ | with_reducible refine below_drews ?_ _ | with_reducible refine Below.alloc ?_ (by first | omega | (simp; done) | (simp; omega)) _ | with_reducible refine Below.setCell ?_ (by first | omega | (simp; done) | (simp; omega)) _))).mono ?_; rintro r wv ⟨Av, cv, rfl, hrv, hfv, hbv⟩; have BV : Below w4.heap.size w4 wv := (by refine Below.trans (by repeat (first | with_reducible exact Below.refl _ _ | with_reducible assumption | with_reducible refine Below.drew ?_ | with_reducible refine below_drews ?_ _ | with_reducible refine Below.alloc ?_ (by first | omega | (simp; done) | (simp; omega)) _ | with_reducible refine Below.setCell ?_ (by first | omega | (simp; done) | (simp; omega)) _)) (hbv.mono ?_); simp); have zv9 : wv.cell? ⟨b, 9, none⟩ = some (.map (some mb)) := (BV.cell (p := ⟨b, 9, none⟩) lb4).trans z9; obtain ⟨wm, hrun, hmap, hgr⟩ := run_mapUpdate_imap (P := Tryz.prog) Tryz.underlying159 Tryz.underlying3 (G1.out.keep (BV.block mb E6)) tick (.slice Av n cv))
      all_goals go_wp2_with fail
      all_goals go_meet
      all_goals
        have hne3 : ∀ q, blkOf A3 = some q → q ≠ mb := by
          intro q hq e
          subst e
          obtain ⟨es, ck, hm, -⟩ := G1.out
          rcases G3.out.2.2.2 with ⟨h5, -⟩ | ⟨g5, off5, cur5, h5, h6, -, -⟩
          · rw [h5] at hq; cases hq
          · rw [h5] at hq
            have : g5 = q := by simpa [blkOf] using hq
            subst this
            rw [h6] at hm
            cases hm
        have y0 := (G0.out.below BV lb4).grown hgr (fun e => h3' (Option.some.inj e).symm)
        have y1 : Row wm 3 1 A3 1 c3 (intsV [tick]) := G3.out.keep (fun q hq => (hgr.block q (Nat.lt_of_lt_of_le (G3.out.lt hq) BV.size) (fun e => hne3 q hq (Option.some.inj e))).trans (BV.block q (G3.out.lt hq)))
        have y2 : Chg (fun q => q = b) w wm := (G4.out.below BV sz4).grown hgr (fun k hk => .inr (by cases hk; exact h2'))
        exact ⟨y0, y1, y2⟩
    case rest =>
      obtain ⟨y0, y1, y2⟩ := hcut
      have z8' : wc.cell? ⟨b, 8, none⟩ = some (.slice A3 1 c3) := (y0.cell 8).trans (Array.getElem?_setIfInBounds_self_of_lt (by simpa using hk8))
      have Y := Lib.hid (show _ ∧ _ ∧ _ from ⟨y0, y1, y2⟩)
      clear y0 y1 y2
      go_wp2
      go_ret
      exact ⟨rfl, A3, c3, mb, Y.out.1, Y.out.2.1, G5.out, h2', Y.out.2.2⟩
end Go.Proofs.YtojbijapdkohlaaGreatDoor
