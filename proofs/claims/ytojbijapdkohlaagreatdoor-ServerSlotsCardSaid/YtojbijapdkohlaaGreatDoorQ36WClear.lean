/- The little functions of the laws of layer 13. Worlds whose slices keep clear of the box of the variable that holds them. -/
import Derived.Test.YtojbijapdkohlaaGreatDoorQ27SlotsP
import Derived.Test.YtojbijapdkohlaaGreatDoorRead
import Derived.Test.YtojbijapdkohlaaGreatDoorQ34ReadPlain
set_option linter.unusedSimpArgs false
set_option linter.unusedVariables false
namespace Go.Proofs.YtojbijapdkohlaaGreatDoor
open Go.RowKit
theorem ballsF_len (m : MapV) (k : Nat) (st : Int) : (ballsF m k st).2.length = k := by
  induction k with
  | zero => rfl
  | succ k ih => show ((ballsF m k st).2 ++ [_]).length = _; simp [ih]
theorem ballsF_ok (m : MapV) (k : Nat) (st : Int) : ∀ e ∈ (ballsF m k st).2, okE e := by
  induction k with
  | zero => intro e he; cases he
  | succ k ih =>
    intro e he
    have he : e ∈ (ballsF m k st).2 ++ [_] := he
    simp only [List.mem_append, List.mem_singleton] at he
    rcases he with he | rfl
    · exact ih e he
    · exact ⟨by show (0 : Int) ≤ 100; omega, by show (100 : Int) ≤ 100; omega, by show (0 : Int) ≤ 0; omega, by show (0 : Int) ≤ 20; omega⟩
theorem tickAt (a b st t : Int) (A A2 A3 : Option Addr) (n c n2 c2 n3 c3 : Nat) (W : World) : (Instr.field 46 (.agg #[.int .i64 a, .int .i64 b, .slice A n c, .slice A2 n2 c2, .int .u64 st, .int .i64 t, .slice A3 n3 c3]) 2).run Tryz.prog W = .ok (.int .i64 t) W := by kernel_rfl
def map13 : MapV := ⟨2, 1, [false, false], [⟨32768, 32768⟩, ⟨98304, 32768⟩]⟩
theorem read13 : readF [.spawn, .spawn, .nl] = some map13 := by rfl
theorem formed13 : formedB map13 = true := by rfl
end Go.Proofs.YtojbijapdkohlaaGreatDoor
set_option linter.unusedSimpArgs false
set_option linter.unusedVariables false
namespace Go.Proofs.YtojbijapdkohlaaGreatDoor
open Go.RowKit
theorem Reads.uniq {w : World} {B B' size n : Nat} {A : Option Addr} {xs ys : List Value} (h : Reads w B size A n xs) (h' : Reads w B' size A n ys) : xs = ys := by
  have hl := h.1
  have hl' := h'.1
  rcases Nat.eq_zero_or_pos n with h0 | h0
  · subst h0
    have e1 : xs = [] := List.eq_nil_of_length_eq_zero (by simpa using hl)
    have e2 : ys = [] := List.eq_nil_of_length_eq_zero (by simpa using hl')
    rw [e1, e2]
  · obtain ⟨ad, ha, _, hc⟩ := h.2 h0
    obtain ⟨ad', ha', _, hc'⟩ := h'.2 h0
    rw [ha] at ha'
    injection ha' with ha'
    subst ha'
    apply List.ext_getElem?
    intro j
    by_cases hj : j < n * size
    · have e1 := hc j _ (List.getElem?_eq_getElem (by omega))
      have e2 := hc' j _ (List.getElem?_eq_getElem (by omega))
      rw [List.getElem?_eq_getElem (by omega), List.getElem?_eq_getElem (by omega), ← e1, ← e2]
    · rw [List.getElem?_eq_none (by omega), List.getElem?_eq_none (by omega)]
/-- A world whose slices keep clear of the block b (the box of the variable that holds it). -/
structure Clear (b : Nat) (w : World) (v : WorldV) (s : WorldS) : Prop where
  map : MapAt w b v.map s.ms
  l : (Reads w b 8 s.A s.n (entsV v.l) ∨ (∃ c0, Row w 55 8 s.A s.n c0 (entsV v.l)) ∧ ∀ q, blkOf s.A = some q → b < q)
  nc : s.n ≤ s.c
theorem Clear.at_ {b : Nat} {w : World} {v : WorldV} {s : WorldS} (h : Clear b w v s) (hb : b ≤ w.heap.size) : WorldAt w w.heap.size v s :=
  ⟨h.map.upto hb, h.l.elim (fun h => h.more hb) (fun h => h.1.elim fun _ h => h.reads (by decide)), h.nc⟩
theorem Clear.new {b : Nat} {w : World} {v : WorldV} {s : WorldS} (h : WorldAt w b v s) : Clear b w v s := ⟨h.map, .inl h.l, h.nc⟩
theorem Clear.below {b B : Nat} {w w' : World} {v : WorldV} {s : WorldS} (h : Clear b w v s) (hb : Below B w w') (hB : w.heap.size ≤ B) (hbB : b ≤ B) : Clear b w' v s :=
  ⟨h.map.below (hb.mono hbB), h.l.elim (fun h => .inl (h.below (hb.mono hbB))) (fun h => .inr ⟨h.1.elim fun c0 h1 => ⟨c0, h1.keep (fun g hg => hb.block g (by have := h1.lt hg; omega))⟩, h.2⟩), h.nc⟩
/-- Behind a store to the box itself. -/
theorem Clear.box {b : Nat} {w w' : World} {v : WorldV} {s : WorldS} (h : Clear b w v s) (hz : ∀ j : Nat, j ≠ b → w'.heap[j]? = w.heap[j]?) : Clear b w' v s := by
  have hc : ∀ p : Addr, p.block < b → w'.cell? p = w.cell? p := fun p hp => by
    unfold World.cell?
    rw [hz _ (by omega)]
  refine ⟨{ h.map with walls := h.map.walls.keep hc, spawns := h.map.spawns.keep hc }, ?_, h.nc⟩
  rcases h.l with h | ⟨⟨c0, h⟩, h2⟩
  · exact .inl (h.keep hc)
  · exact .inr ⟨⟨c0, h.keep (fun g hg => hz g (by have := h2 g hg; omega))⟩, h2⟩
/-- What a function of world hands back. -/
theorem Clear.held {b : Nat} {W w' : World} {v v' : WorldV} {s s' : WorldS} (h : Clear b W v s) (hat : WorldAt w' w'.heap.size v' s') (hms : s'.ms = s.ms) (hm : v'.map = v.map) (hk : Held W w' s s' v'.l) (hB : Below W.heap.size W w') (hb : b < W.heap.size) : Clear b w' v' s' := by
  have hmap : MapAt w' b v'.map s'.ms := by rw [hms, hm]; exact h.map.below (hB.mono (by omega))
  refine ⟨hmap, ?_, hat.nc⟩
  rcases hk with ⟨h1, h2⟩ | ⟨h1, h2⟩
  · rcases h.l with h3 | ⟨⟨c0, h3⟩, h4⟩
    · refine .inl ⟨hat.l.1, fun hn => ?_⟩
      obtain ⟨ad, ha, _, hcc⟩ := hat.l.2 hn
      obtain ⟨ad', ha', hc', _⟩ := h3.2 (by omega)
      have : ad = ad' := by rw [h1, ha'] at ha; injection ha with ha; exact ha.symm
      subst this
      exact ⟨ad, ha, hc', hcc⟩
    · have h5 : Row w' 55 8 s.A s.n c0 (entsV v.l) := h3.keep (fun g hg => hB.block g (h3.lt hg))
      have h6 : entsV v'.l = entsV v.l := Reads.uniq (by rw [← h1, ← h2]; exact hat.l) (h5.reads (by decide))
      exact .inr ⟨⟨c0, by rw [h1, h2, h6]; exact h5⟩, fun q hq => h4 q (h1 ▸ hq)⟩
  · exact .inr ⟨⟨_, h1⟩, fun q hq => by have := h2 q hq; omega⟩
theorem cell_far7 {w : World} {g : Nat} {p : Addr} (h : p.block ≠ g) (u0 u1 u2 u3 u4 u5 u6 : Value) : (((((((w.setCell ⟨g, 0, none⟩ u0).setCell ⟨g, 1, none⟩ u1).setCell ⟨g, 2, none⟩ u2).setCell ⟨g, 3, none⟩ u3).setCell ⟨g, 4, none⟩ u4).setCell ⟨g, 5, none⟩ u5).setCell ⟨g, 6, none⟩ u6).cell? p = w.cell? p := by
  exact (World.cell?_setCell_far _ _ _ _ (Ne.symm h)).trans ((World.cell?_setCell_far _ _ _ _ (Ne.symm h)).trans ((World.cell?_setCell_far _ _ _ _ (Ne.symm h)).trans ((World.cell?_setCell_far _ _ _ _ (Ne.symm h)).trans ((World.cell?_setCell_far _ _ _ _ (Ne.symm h)).trans ((World.cell?_setCell_far _ _ _ _ (Ne.symm h)).trans (World.cell?_setCell_far _ _ _ _ (Ne.symm h)))))))
/-- The same, behind stores to a block of one's own. -/
theorem Clear.heldFar {b g : Nat} {w0 W w' wf : World} {v v' : WorldV} {s s' : WorldS} (h : Clear b w0 v s) (hW : Below w0.heap.size w0 W) (hat : WorldAt w' w'.heap.size v' s') (hms : s'.ms = s.ms) (hm : v'.map = v.map) (hk : Held W w' s s' v'.l) (hB : Below W.heap.size W w') (hb : b < w0.heap.size)
    (hz : ∀ j : Nat, j < w'.heap.size → j ≠ g → wf.heap[j]? = w'.heap[j]?) (hg : w0.heap.size ≤ g) (hg2 : g < W.heap.size ∨ w'.heap.size ≤ g) : Clear b wf v' s' := by
  have hs1 := hW.size
  have hs2 := hB.size
  have hB0 : Below w0.heap.size w0 w' := hW.trans (hB.mono hs1)
  have hc : ∀ p : Addr, p.block < b → wf.cell? p = w'.cell? p := fun p hp => by
    unfold World.cell?
    rw [hz _ (by omega) (by omega)]
  have hmap : MapAt wf b v'.map s'.ms := by
    rw [hms, hm]
    have := h.map.below (hB0.mono (Nat.le_of_lt hb))
    exact { this with walls := this.walls.keep hc, spawns := this.spawns.keep hc }
  refine ⟨hmap, ?_, hat.nc⟩
  rcases hk with ⟨h1, h2⟩ | ⟨h1, h2⟩
  · rcases h.l with h3 | ⟨⟨c0, h3⟩, h4⟩
    · refine .inl (Reads.keep ⟨hat.l.1, fun hn => ?_⟩ hc)
      obtain ⟨ad, ha, _, hcc⟩ := hat.l.2 hn
      obtain ⟨ad', ha', hc', _⟩ := h3.2 (by omega)
      have : ad = ad' := by rw [h1, ha'] at ha; injection ha with ha; exact ha.symm
      subst this
      exact ⟨ad, ha, hc', hcc⟩
    · have h5 : Row w' 55 8 s.A s.n c0 (entsV v.l) := h3.keep (fun q hq => hB0.block q (h3.lt hq))
      have h6 : entsV v'.l = entsV v.l := Reads.uniq (by rw [← h1, ← h2]; exact hat.l) (h5.reads (by decide))
      have h7 : Row wf 55 8 s.A s.n c0 (entsV v.l) := h5.keep (fun q hq => hz q (h5.lt hq) (by have := h3.lt hq; omega))
      exact .inr ⟨⟨c0, by rw [h1, h2, h6]; exact h7⟩, fun q hq => h4 q (h1 ▸ hq)⟩
  · exact .inr ⟨⟨_, h1.keep (fun q hq => hz q (h1.lt hq) (by have := h2 q hq; have := h1.lt hq; omega))⟩, fun q hq => by have := h2 q hq; omega⟩
end Go.Proofs.YtojbijapdkohlaaGreatDoor
