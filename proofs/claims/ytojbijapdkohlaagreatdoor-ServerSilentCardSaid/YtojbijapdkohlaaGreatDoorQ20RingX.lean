/- The little functions of the laws of layer 13. Worlds whose slices keep clear of the box of the variable that holds them. Layer 18: what a ring's map holds, told; a list is kept, by any ring. -/
import Derived.Test.YtojbijapdkohlaaGreatDoorQ18ReadPlain
import Derived.Test.YtojbijapdkohlaaGreatDoorRead
import Derived.Test.YtojbijapdkohlaaGreatDoorQ03SrvPut
import Derived.Deep.DeepCutAuto
set_option linter.unusedSimpArgs false
set_option linter.unusedVariables false
namespace Go.Proofs.YtojbijapdkohlaaGreatDoor
open Go.RowKit
theorem ballsF_len (m : MapV) (k : Nat) (st : Int) : (ballsF m k st).2.length = k := by
  induction k with
  | zero => rfl
  | succ k ih => show ((ballsF m k st).2 ++ [_]).length = _; simp [ih]
theorem ballsF_ok (m : MapV) (k : Nat) (st : Int) : ∀ e ∈ (ballsF m k st).2, okE e := by
  induction k with
  | zero => intro e he; cases he
  | succ k ih =>
    intro e he
    have he : e ∈ (ballsF m k st).2 ++ [_] := he
    simp only [List.mem_append, List.mem_singleton] at he
    rcases he with he | rfl
    · exact ih e he
    · exact ⟨by show (0 : Int) ≤ 100; omega, by show (100 : Int) ≤ 100; omega, by show (0 : Int) ≤ 0; omega, by show (0 : Int) ≤ 20; omega⟩
theorem tickAt (a b st t : Int) (A A2 A3 : Option Addr) (n c n2 c2 n3 c3 : Nat) (W : World) : (Instr.field 46 (.agg #[.int .i64 a, .int .i64 b, .slice A n c, .slice A2 n2 c2, .int .u64 st, .int .i64 t, .slice A3 n3 c3]) 2).run Tryz.prog W = .ok (.int .i64 t) W := by kernel_rfl
def map13 : MapV := ⟨2, 1, [false, false], [⟨32768, 32768⟩, ⟨98304, 32768⟩]⟩
theorem read13 : readF [.spawn, .spawn, .nl] = some map13 := by rfl
theorem formed13 : formedB map13 = true := by rfl
end Go.Proofs.YtojbijapdkohlaaGreatDoor
set_option linter.unusedSimpArgs false
set_option linter.unusedVariables false
namespace Go.Proofs.YtojbijapdkohlaaGreatDoor
open Go.RowKit
theorem Reads.uniq {w : World} {B B' size n : Nat} {A : Option Addr} {xs ys : List Value} (h : Reads w B size A n xs) (h' : Reads w B' size A n ys) : xs = ys := by
  have hl := h.1
  have hl' := h'.1
  rcases Nat.eq_zero_or_pos n with h0 | h0
  · subst h0
    have e1 : xs = [] := List.eq_nil_of_length_eq_zero (by simpa using hl)
    have e2 : ys = [] := List.eq_nil_of_length_eq_zero (by simpa using hl')
    rw [e1, e2]
  · obtain ⟨ad, ha, _, hc⟩ := h.2 h0
    obtain ⟨ad', ha', _, hc'⟩ := h'.2 h0
    rw [ha] at ha'
    injection ha' with ha'
    subst ha'
    apply List.ext_getElem?
    intro j
    by_cases hj : j < n * size
    · have e1 := hc j _ (List.getElem?_eq_getElem (by omega))
      have e2 := hc' j _ (List.getElem?_eq_getElem (by omega))
      rw [List.getElem?_eq_getElem (by omega), List.getElem?_eq_getElem (by omega), ← e1, ← e2]
    · rw [List.getElem?_eq_none (by omega), List.getElem?_eq_none (by omega)]
/-- A world whose slices keep clear of the block b (the box of the variable that holds it). -/
structure Clear (b : Nat) (w : World) (v : WorldV) (s : WorldS) : Prop where
  map : MapAt w b v.map s.ms
  l : (Reads w b 8 s.A s.n (entsV v.l) ∨ (∃ c0, Row w 55 8 s.A s.n c0 (entsV v.l)) ∧ ∀ q, blkOf s.A = some q → b < q)
  nc : s.n ≤ s.c
theorem Clear.at_ {b : Nat} {w : World} {v : WorldV} {s : WorldS} (h : Clear b w v s) (hb : b ≤ w.heap.size) : WorldAt w w.heap.size v s :=
  ⟨h.map.upto hb, h.l.elim (fun h => h.more hb) (fun h => h.1.elim fun _ h => h.reads (by decide)), h.nc⟩
theorem Clear.new {b : Nat} {w : World} {v : WorldV} {s : WorldS} (h : WorldAt w b v s) : Clear b w v s := ⟨h.map, .inl h.l, h.nc⟩
theorem Clear.below {b B : Nat} {w w' : World} {v : WorldV} {s : WorldS} (h : Clear b w v s) (hb : Below B w w') (hB : w.heap.size ≤ B) (hbB : b ≤ B) : Clear b w' v s :=
  ⟨h.map.below (hb.mono hbB), h.l.elim (fun h => .inl (h.below (hb.mono hbB))) (fun h => .inr ⟨h.1.elim fun c0 h1 => ⟨c0, h1.keep (fun g hg => hb.block g (by have := h1.lt hg; omega))⟩, h.2⟩), h.nc⟩
/-- Behind a store to the box itself. -/
theorem Clear.box {b : Nat} {w w' : World} {v : WorldV} {s : WorldS} (h : Clear b w v s) (hz : ∀ j : Nat, j ≠ b → w'.heap[j]? = w.heap[j]?) : Clear b w' v s := by
  have hc : ∀ p : Addr, p.block < b → w'.cell? p = w.cell? p := fun p hp => by
    unfold World.cell?
    rw [hz _ (by omega)]
  refine ⟨{ h.map with walls := h.map.walls.keep hc, spawns := h.map.spawns.keep hc }, ?_, h.nc⟩
  rcases h.l with h | ⟨⟨c0, h⟩, h2⟩
  · exact .inl (h.keep hc)
  · exact .inr ⟨⟨c0, h.keep (fun g hg => hz g (by have := h2 g hg; omega))⟩, h2⟩
/-- What a function of world hands back. -/
theorem Clear.held {b : Nat} {W w' : World} {v v' : WorldV} {s s' : WorldS} (h : Clear b W v s) (hat : WorldAt w' w'.heap.size v' s') (hms : s'.ms = s.ms) (hm : v'.map = v.map) (hk : Held W w' s s' v'.l) (hB : Below W.heap.size W w') (hb : b < W.heap.size) : Clear b w' v' s' := by
  have hmap : MapAt w' b v'.map s'.ms := by rw [hms, hm]; exact h.map.below (hB.mono (by omega))
  refine ⟨hmap, ?_, hat.nc⟩
  rcases hk with ⟨h1, h2⟩ | ⟨h1, h2⟩
  · rcases h.l with h3 | ⟨⟨c0, h3⟩, h4⟩
    · refine .inl ⟨hat.l.1, fun hn => ?_⟩
      obtain ⟨ad, ha, _, hcc⟩ := hat.l.2 hn
      obtain ⟨ad', ha', hc', _⟩ := h3.2 (by omega)
      have : ad = ad' := by rw [h1, ha'] at ha; injection ha with ha; exact ha.symm
      subst this
      exact ⟨ad, ha, hc', hcc⟩
    · have h5 : Row w' 55 8 s.A s.n c0 (entsV v.l) := h3.keep (fun g hg => hB.block g (h3.lt hg))
      have h6 : entsV v'.l = entsV v.l := Reads.uniq (by rw [← h1, ← h2]; exact hat.l) (h5.reads (by decide))
      exact .inr ⟨⟨c0, by rw [h1, h2, h6]; exact h5⟩, fun q hq => h4 q (h1 ▸ hq)⟩
  · exact .inr ⟨⟨_, h1⟩, fun q hq => by have := h2 q hq; omega⟩
theorem cell_far7 {w : World} {g : Nat} {p : Addr} (h : p.block ≠ g) (u0 u1 u2 u3 u4 u5 u6 : Value) : (((((((w.setCell ⟨g, 0, none⟩ u0).setCell ⟨g, 1, none⟩ u1).setCell ⟨g, 2, none⟩ u2).setCell ⟨g, 3, none⟩ u3).setCell ⟨g, 4, none⟩ u4).setCell ⟨g, 5, none⟩ u5).setCell ⟨g, 6, none⟩ u6).cell? p = w.cell? p := by
  exact (World.cell?_setCell_far _ _ _ _ (Ne.symm h)).trans ((World.cell?_setCell_far _ _ _ _ (Ne.symm h)).trans ((World.cell?_setCell_far _ _ _ _ (Ne.symm h)).trans ((World.cell?_setCell_far _ _ _ _ (Ne.symm h)).trans ((World.cell?_setCell_far _ _ _ _ (Ne.symm h)).trans ((World.cell?_setCell_far _ _ _ _ (Ne.symm h)).trans (World.cell?_setCell_far _ _ _ _ (Ne.symm h)))))))
/-- The same, behind stores to a block of one's own. -/
theorem Clear.heldFar {b g : Nat} {w0 W w' wf : World} {v v' : WorldV} {s s' : WorldS} (h : Clear b w0 v s) (hW : Below w0.heap.size w0 W) (hat : WorldAt w' w'.heap.size v' s') (hms : s'.ms = s.ms) (hm : v'.map = v.map) (hk : Held W w' s s' v'.l) (hB : Below W.heap.size W w') (hb : b < w0.heap.size)
    (hz : ∀ j : Nat, j < w'.heap.size → j ≠ g → wf.heap[j]? = w'.heap[j]?) (hg : w0.heap.size ≤ g) (hg2 : g < W.heap.size ∨ w'.heap.size ≤ g) : Clear b wf v' s' := by
  have hs1 := hW.size
  have hs2 := hB.size
  have hB0 : Below w0.heap.size w0 w' := hW.trans (hB.mono hs1)
  have hc : ∀ p : Addr, p.block < b → wf.cell? p = w'.cell? p := fun p hp => by
    unfold World.cell?
    rw [hz _ (by omega) (by omega)]
  have hmap : MapAt wf b v'.map s'.ms := by
    rw [hms, hm]
    have := h.map.below (hB0.mono (Nat.le_of_lt hb))
    exact { this with walls := this.walls.keep hc, spawns := this.spawns.keep hc }
  refine ⟨hmap, ?_, hat.nc⟩
  rcases hk with ⟨h1, h2⟩ | ⟨h1, h2⟩
  · rcases h.l with h3 | ⟨⟨c0, h3⟩, h4⟩
    · refine .inl (Reads.keep ⟨hat.l.1, fun hn => ?_⟩ hc)
      obtain ⟨ad, ha, _, hcc⟩ := hat.l.2 hn
      obtain ⟨ad', ha', hc', _⟩ := h3.2 (by omega)
      have : ad = ad' := by rw [h1, ha'] at ha; injection ha with ha; exact ha.symm
      subst this
      exact ⟨ad, ha, hc', hcc⟩
    · have h5 : Row w' 55 8 s.A s.n c0 (entsV v.l) := h3.keep (fun q hq => hB0.block q (h3.lt hq))
      have h6 : entsV v'.l = entsV v.l := Reads.uniq (by rw [← h1, ← h2]; exact hat.l) (h5.reads (by decide))
      have h7 : Row wf 55 8 s.A s.n c0 (entsV v.l) := h5.keep (fun q hq => hz q (h5.lt hq) (by have := h3.lt hq; omega))
      exact .inr ⟨⟨c0, by rw [h1, h2, h6]; exact h7⟩, fun q hq => h4 q (h1 ▸ hq)⟩
  · exact .inr ⟨⟨_, h1.keep (fun q hq => hz q (h1.lt hq) (by have := h2 q hq; have := h1.lt hq; omega))⟩, fun q hq => by have := h2 q hq; omega⟩
end Go.Proofs.YtojbijapdkohlaaGreatDoor
set_option linter.unusedSimpArgs false
set_option linter.unusedVariables false
namespace Go.Proofs.YtojbijapdkohlaaGreatDoor
open Go.RowKit
def clsOf (w : World) (q : Nat) : Option TypeId := match w.heap[q]? with | some (.cells _ t _) => some t | _ => none
theorem Blk.cls {w : World} {g : Nat} {t : TypeId} {cs : Array Value} (h : Blk w g t cs) : clsOf w g = some t := by
  unfold clsOf
  rw [show w.heap[g]? = _ from h]
theorem Row.hasB {w : World} {e : TypeId} {size n c q : Nat} {A : Option Addr} {xs : List Value} (h : Row w e size A n c xs) (hq : blkOf A = some q) : ∃ cur, Blk w q e cur := by
  rcases h.2.2.2 with ⟨rfl, _⟩ | ⟨g, off, cur, rfl, hg, -, -⟩
  · cases hq
  · have : g = q := by simpa [blkOf] using hq
    subst this
    exact ⟨cur, hg⟩
theorem Row.cls {w : World} {e : TypeId} {size n c q : Nat} {A : Option Addr} {xs : List Value} (h : Row w e size A n c xs) (hq : blkOf A = some q) : clsOf w q = some e := by
  obtain ⟨cur, h1⟩ := h.hasB hq
  exact h1.cls
theorem IMap.cls {w : World} {b : Nat} {l : List (Int × Value)} (h : IMap w b l) : clsOf w b = none := by
  obtain ⟨es, clock, h1, -⟩ := h
  unfold clsOf
  rw [h1]
theorem clsOf_lt {w : World} {q : Nat} {t : TypeId} (h : clsOf w q = some t) : q < w.heap.size := by
  rcases Nat.lt_or_ge q w.heap.size with hlt | hge
  · exact hlt
  · unfold clsOf at h; rw [Array.getElem?_eq_none hge] at h; cases h
def lkF (t : Int) : List (Int × List EntV) → Option (List EntV)
  | [] => none
  | p :: ps => if p.1 = t then some p.2 else lkF t ps
/-- A list is kept; of more than 64 the first one goes. -/
def keepH (hs : List (Int × List EntV)) (t : Int) (l : List EntV) : List (Int × List EntV) := if 64 < (hs ++ [(t, l)]).length then (hs ++ [(t, l)]).tail else hs ++ [(t, l)]
theorem lk_both (t : Int) : ∀ (ml : List (Int × Value)) (hs : List (Int × List EntV)) (i : Nat), ml.map (·.1) = hs.map (·.1) →
    (lkI t ml i = none ∧ lkF t hs = none) ∨ ∃ (j : Nat) (v : Value) (l : List EntV), lkI t ml i = some (i + j, v) ∧ lkF t hs = some l ∧ ml[j]? = some (t, v) ∧ hs[j]? = some (t, l)
  | [], [], i, _ => .inl ⟨rfl, rfl⟩
  | [], _ :: _, _, h => by cases h
  | _ :: _, [], _, h => by cases h
  | p :: ps, q :: qs, i, h => by
    simp only [List.map_cons, List.cons.injEq] at h
    unfold lkI lkF
    rw [h.1]
    by_cases ht : q.1 = t
    · rw [if_pos ht, if_pos ht]
      exact .inr ⟨0, p.2, q.2, rfl, rfl, by rw [← ht, ← h.1]; rfl, by rw [← ht]; rfl⟩
    · rw [if_neg ht, if_neg ht]
      rcases lk_both t ps qs (i + 1) h.2 with h1 | ⟨j, v, l, h1, h2, h3, h4⟩
      · exact .inl h1
      · exact .inr ⟨j + 1, v, l, by rw [h1]; congr 2; omega, h2, by simpa using h3, by simpa using h4⟩
theorem lkI_new (t : Int) (ml : List (Int × Value)) (h : ∀ p ∈ ml, p.1 ≠ t) : lkI t ml 0 = none := by
  rcases lkI_spec t ml 0 with h1 | ⟨j, v, h1, h2, -⟩
  · exact h1.1
  · exact absurd rfl (h (t, v) (List.mem_of_getElem? h2))
theorem putI_new (t : Int) (v : Value) (ml : List (Int × Value)) (h : ∀ p ∈ ml, p.1 ≠ t) : putI t v ml = ml ++ [(t, v)] := by
  unfold putI
  rw [lkI_new t ml h]
theorem delI_head (t : Int) (v : Value) (ml : List (Int × Value)) : delI t ((t, v) :: ml) = ml := by
  unfold delI lkI
  rw [if_pos rfl]
  rfl
/-- What the ring's map holds: of each tick that is kept the list, in rows of its own. -/
structure PastAt (w : World) (ml : List (Int × Value)) (hs : List (Int × List EntV)) : Prop where
  keys : ml.map (·.1) = hs.map (·.1)
  each : ∀ (i : Nat) (t : Int) (v : Value) (l : List EntV), ml[i]? = some (t, v) → hs[i]? = some (t, l) → ∃ A n c, v = .slice A n c ∧ Row w 55 8 A n c (entsV l)
  up : (hs.map (·.1)).Pairwise (· < ·)
  most : hs.length ≤ 64
theorem PastAt.keep {w w' : World} {ml : List (Int × Value)} {hs : List (Int × List EntV)} (h : PastAt w ml hs) (hk : ∀ q, clsOf w q = some 55 → w'.heap[q]? = w.heap[q]?) : PastAt w' ml hs :=
  ⟨h.keys, fun i t v l h1 h2 => by
    obtain ⟨A, n, c, h3, h4⟩ := h.each i t v l h1 h2
    exact ⟨A, n, c, h3, h4.keep fun g hg => hk g (h4.cls hg)⟩, h.up, h.most⟩
theorem PastAt.get {w : World} {ml : List (Int × Value)} {hs : List (Int × List EntV)} (h : PastAt w ml hs) (t : Int) :
    (lkF t hs = none ∧ lkB t ml = false ∧ ∀ z, lkV t ml z = z) ∨ ∃ (l : List EntV) (A : Option Addr) (n c : Nat), lkF t hs = some l ∧ lkB t ml = true ∧ (∀ z, lkV t ml z = .slice A n c) ∧ Row w 55 8 A n c (entsV l) := by
  unfold lkB lkV
  rcases lk_both t ml hs 0 h.keys with ⟨h1, h2⟩ | ⟨j, v, l, h1, h2, h3, h4⟩
  · exact .inl ⟨h2, by rw [h1]; rfl, fun z => by rw [h1]; rfl⟩
  · obtain ⟨A, n, c, rfl, hr⟩ := h.each j t v l h3 h4
    exact .inr ⟨l, A, n, c, h2, by rw [h1]; rfl, fun z => by rw [h1]; rfl, hr⟩
theorem lastI_map (hs : List (Int × List EntV)) (t : Int) (l : List EntV) : lastI ((hs ++ [(t, l)]).map (·.1)) = t := by
  unfold lastI
  simp
theorem lastI_le {ts : List Int} (h : ts.Pairwise (· < ·)) : ∀ t ∈ ts, t ≤ lastI ts := by
  intro t ht
  obtain ⟨i, hi, he⟩ := List.mem_iff_getElem.1 ht
  unfold lastI
  have hl : ts.length - 1 < ts.length := by omega
  rw [List.getElem?_eq_getElem hl, Option.getD_some, ← he]
  rcases Nat.lt_or_ge i (ts.length - 1) with h1 | h1
  · exact Int.le_of_lt (List.pairwise_iff_getElem.1 h i (ts.length - 1) hi hl h1)
  · have : i = ts.length - 1 := by omega
    subst this
    exact Int.le_refl _
theorem PastAt.nil (w : World) : PastAt w [] [] := ⟨rfl, fun i t v l h => (by simp at h), List.Pairwise.nil, by decide⟩
/-- One more is kept. -/
theorem PastAt.put {w w' : World} {ml : List (Int × Value)} {hs : List (Int × List EntV)} (h : PastAt w ml hs) (hk : ∀ q, clsOf w q = some 55 → w'.heap[q]? = w.heap[q]?) (t : Int) (ht : lastI (hs.map (·.1)) < t) (l : List EntV) (A : Option Addr) (n c : Nat) (hr : Row w' 55 8 A n c (entsV l)) :
    (hs.length < 64 → PastAt w' (putI t (.slice A n c) ml) (keepH hs t l) ∧ keepH hs t l = hs ++ [(t, l)]) ∧
    (hs.length = 64 → ∃ t0 v0 m0, putI t (.slice A n c) ml = (t0, v0) :: m0 ∧ (hs.map (·.1))[0]? = some t0 ∧ PastAt w' m0 (keepH hs t l) ∧ (keepH hs t l).map (·.1) = (hs.map (·.1) ++ [t]).drop 1) := by
  have hne : ∀ p ∈ ml, p.1 ≠ t := by
    intro p hp he
    have : p.1 ∈ hs.map (·.1) := by rw [← h.keys]; exact List.mem_map_of_mem hp
    have := lastI_le h.up p.1 this
    omega
  have hlen : ml.length = hs.length := by have := congrArg List.length h.keys; simpa using this
  have e1 := putI_new t (.slice A n c) ml hne
  have e2 : (ml ++ [(t, Value.slice A n c)]).map (·.1) = (hs ++ [(t, l)]).map (·.1) := by rw [List.map_append, List.map_append, h.keys]; rfl
  have e3 : ((hs ++ [(t, l)]).map (·.1)).Pairwise (· < ·) := by
    rw [List.map_append, List.pairwise_append]
    refine ⟨h.up, List.pairwise_singleton _ _, fun a ha b hb => ?_⟩
    have hb : b = t := by simpa using hb
    have := lastI_le h.up a ha
    omega
  have e4 : ∀ (i : Nat) (t' : Int) (v : Value) (l' : List EntV), (ml ++ [(t, Value.slice A n c)])[i]? = some (t', v) → (hs ++ [(t, l)])[i]? = some (t', l') → ∃ A n c, v = .slice A n c ∧ Row w' 55 8 A n c (entsV l') := by
    intro i t' v l' h1 h2
    rcases Nat.lt_or_ge i ml.length with h3 | h3
    · rw [List.getElem?_append_left h3] at h1
      rw [List.getElem?_append_left (by omega)] at h2
      obtain ⟨A', n', c', h4, h5⟩ := h.each i t' v l' h1 h2
      exact ⟨A', n', c', h4, h5.keep fun g hg => hk g (h5.cls hg)⟩
    · rw [List.getElem?_append_right h3] at h1
      rw [List.getElem?_append_right (by omega)] at h2
      have hi : i - ml.length = 0 := by
        have := (List.getElem?_eq_some_iff.1 h1).1
        simp at this
        omega
      rw [hi] at h1
      rw [show i - hs.length = 0 by omega] at h2
      simp only [List.getElem?_cons_zero, Option.some.injEq, Prod.mk.injEq] at h1 h2
      obtain ⟨-, rfl⟩ := h1
      obtain ⟨-, rfl⟩ := h2
      exact ⟨A, n, c, rfl, hr⟩
  have hl1 : (hs ++ [(t, l)]).length = hs.length + 1 := by simp
  rw [e1]
  constructor
  · intro hlt
    have hk1 : keepH hs t l = hs ++ [(t, l)] := by unfold keepH; rw [if_neg (by omega)]
    refine ⟨?_, hk1⟩
    rw [hk1]
    exact ⟨e2, e4, e3, by omega⟩
  · intro heq
    have hk1 : keepH hs t l = (hs ++ [(t, l)]).tail := by unfold keepH; rw [if_pos (by omega)]
    rw [hk1]
    cases hs with
    | nil => simp at heq
    | cons q qs =>
      cases ml with
      | nil => simp at hlen
      | cons p ps =>
        simp only [List.map_cons, List.cons_append, List.cons.injEq, List.pairwise_cons] at e2 e3
        refine ⟨p.1, p.2, ps ++ [(t, .slice A n c)], rfl, by rw [e2.1]; rfl, ⟨e2.2, fun i t' v l' h1 h2 => e4 (i + 1) t' v l' (by simpa using h1) (by simpa using h2), e3.2, ?_⟩, ?_⟩
        · simp at heq ⊢
          omega
        · simp
set_option maxRecDepth 100000 in
theorem eql_map_opt (m3 : Option Nat) (w : World) : (binOp .eql 159 (.map m3) (.map none)).run Tryz.prog w = .ok (.bool m3.isNone) w := by
  cases m3 <;> kernel_rfl
/-- What a ring is when it has kept one more list. -/
def PutX (b o : Nat) (t : TypeId) (cs : Array Value) (tick : Int) (A3 : Option Addr) (m3 : Option Nat) (hs : List (Int × List EntV)) (l : List EntV) (w : World) (e : Ending) (w' : World) : Prop :=
  e = .returned (.int .i64 0) ∧ ∃ (A' : Option Addr) (n' c' mb : Nat) (ml : List (Int × Value)), Blk w' b t ((cs.setIfInBounds (o + 1) (.map (some mb))).setIfInBounds o (.slice A' n' c')) ∧ Row w' 3 1 A' n' c' (intsV ((keepH hs tick l).map (·.1))) ∧ IMap w' mb ml ∧ PastAt w' ml (keepH hs tick l) ∧
    (∀ q, blkOf A' = some q → blkOf A3 = some q ∨ w.heap.size ≤ q) ∧ (m3 = some mb ∨ w.heap.size ≤ mb) ∧ Chg (fun q => q = b ∨ blkOf A3 = some q ∨ m3 = some q) w w'
theorem set_sameX {cs : Array Value} {o : Nat} {v : Value} (h : cs[o]? = some v) : cs.setIfInBounds o v = cs := by
  apply Array.ext_getElem?
  intro i
  by_cases hi : o = i
  · subst hi
    rw [Array.getElem?_setIfInBounds_self_of_lt (Array.getElem?_eq_some_iff.1 h).1, h]
  · rw [Array.getElem?_setIfInBounds_ne hi]
set_option maxRecDepth 100000 in
set_option maxHeartbeats 16000000 in
theorem ringPutX (b o : Nat) (t : TypeId) (cs : Array Value) (tick : Int) (A3 : Option Addr) (n3 c3 : Nat) (m3 : Option Nat) (ml : List (Int × Value)) (hs : List (Int × List EntV)) (l : List EntV) (A : Option Addr) (n c : Nat) (w : World) (hb : Blk w b t cs) (hti : 3 ≠ t) (k0 : cs[o]? = some (.slice A3 n3 c3)) (k1 : cs[o + 1]? = some (.map m3))
    (hr : Row w 3 1 A3 n3 c3 (intsV (hs.map (·.1)))) (hm : ∀ mb, m3 = some mb → IMap w mb ml) (hm0 : m3 = none → ml = []) (hp : PastAt w ml hs) (hl : Reads w w.heap.size 8 A n (entsV l)) (hlb : 0 < n → ∀ q, blkOf A = some q → q ≠ b ∧ blkOf A3 ≠ some q ∧ m3 ≠ some q) (hn : n ≤ 100000) (hlast : lastI (hs.map (·.1)) < tick) (htick : tick ≤ 4294967296) (hm1 : -1 ≤ lastI (hs.map (·.1))) (hte : 55 ≠ t) :
    Calls Tryz.prog 90 #[.pointer (some ⟨b, o, none⟩), .int .i64 tick, .slice A n c] w (PutX b o t cs tick A3 m3 hs l w) := by
  have z8 : w.cell? ⟨b, o, none⟩ = some (.slice A3 n3 c3) := (hb.cell o).trans k0
  have z9 : w.cell? ⟨b, o + 1, none⟩ = some (.map m3) := (hb.cell (o + 1)).trans k1
  have lb := hb.lt
  have hlen : hs.length = n3 := by have := hr.1; rw [intsV_length, List.length_map] at this; omega
  have h64 : n3 ≤ 64 := by have := hp.most; omega
  have hL := ringLast (hs.map (·.1)) b o A3 n3 c3 w z8 (hr.reads (by decide)) (by omega)
  have d1 : decide (tick ≤ lastI (hs.map (·.1))) = false := decide_eq_false (by omega)
  have hneb : ∀ q, blkOf A3 = some q → q ≠ b := hr.ne_blkR hb hti
  have hcb := hb.cls
  have hc3 := fun q (hq : blkOf A3 = some q) => hr.cls hq
  have hcm : ∀ mb, m3 = some mb → clsOf w mb = none ∧ mb < w.heap.size := fun mb h => ⟨(hm mb h).cls, (hm mb h).lt⟩
  have hko : o < cs.size := (Array.getElem?_eq_some_iff.1 k0).1
  have hko1 : o + 1 < cs.size := (Array.getElem?_eq_some_iff.1 k1).1
  obtain ⟨la, hla⟩ : ∃ la, lastI (hs.map (·.1)) = la := ⟨_, rfl⟩
  rw [hla] at hL d1
  have HLA := Lib.hid (show lastI (hs.map (·.1)) < tick from hlast)
  have HB := Lib.hid hb
  have HR := Lib.hid hr
  have HM := Lib.hid hm
  have HM0 := Lib.hid hm0
  have HP := Lib.hid hp
  have HL := Lib.hid hl
  have HLB := Lib.hid hlb
  have K := Lib.hid (show _ ∧ _ ∧ _ ∧ _ from ⟨k0, k1, hko, hko1⟩)
  have HN := Lib.hid (show _ ∧ _ ∧ _ ∧ _ from ⟨hneb, hcb, hc3, hcm⟩)
  have HLEN := Lib.hid (show _ ∧ _ from ⟨hlen, h64⟩)
  clear hb hl k0 k1 hlb hr hm hm0 hp hneb hcb hc3 hcm hlast hm1 hlen hla h64 hko hko1
  go_enter Tryz.func90, Tryz.ntmps90
  go_wp2_with fail
  refine hL.mono ?_
  rintro e w1 ⟨rfl, hb1⟩
  have HB1 := Lib.hid (HB.out.below hb1 lb)
  have z8' : w1.cell? ⟨b, o, none⟩ = some (.slice A3 n3 c3) := (hb1.cell (p := ⟨b, o, none⟩) lb).trans z8
  have z9' : w1.cell? ⟨b, o + 1, none⟩ = some (.map m3) := (hb1.cell (p := ⟨b, o + 1, none⟩) lb).trans z9
  have f8 : w1.frozen? ⟨b, o, none⟩ = false := HB1.out.frozen o
  have f9 : w1.frozen? ⟨b, o + 1, none⟩ = false := HB1.out.frozen (o + 1)
  have lb1 := HB1.out.lt
  have HBE := Lib.hid hb1
  have kmap := fun w => eql_map_opt m3 w
  obtain ⟨qn, hqn⟩ : ∃ qn, m3.isNone = qn := ⟨_, rfl⟩
  simp only [hqn] at kmap
  have HQN := Lib.hid hqn
  have HR1 := Lib.hid (HR.out.keep (fun q hq => hb1.block q (HR.out.lt hq)))
  clear hL hb1 z8 z9 hqn
  have kmk := fun w => run_makeMap (P := Tryz.prog) 159 w
  go_upto_if 19 with (fail)
  go_cut [] (fun wx => ∃ mb, Blk wx b t (cs.setIfInBounds (o + 1) (.map (some mb))) ∧ IMap wx mb ml ∧ (m3 = some mb ∨ w.heap.size ≤ mb) ∧ mb ≠ b ∧ Chg (fun q => q = b) w wx)
  case first =>
    cases qn with
    | true =>
      have hnone : m3 = none := by have := HQN.out; cases m3; rfl; cases this
      have hs1 := HBE.out.size
      go_wp2_with fail
      go_meet
      have e0 : Blk ((w1.setCell ⟨b, o + 1, none⟩ (.map (some w1.heap.size))).alloc (.map #[] 0)) b t (cs.setIfInBounds (o + 1) (.map (some w1.heap.size))) := (HB1.out.set_ (o + 1) _).alloc _
      have e1 : IMap ((w1.setCell ⟨b, o + 1, none⟩ (.map (some w1.heap.size))).alloc (.map #[] 0)) w1.heap.size ml := by
        rw [HM0.out hnone]
        have := IMap.new (w1.setCell ⟨b, o + 1, none⟩ (.map (some w1.heap.size)))
        simpa using this
      have e2 : Chg (fun q => q = b) w ((w1.setCell ⟨b, o + 1, none⟩ (.map (some w1.heap.size))).alloc (.map #[] 0)) := Chg.alloc (Chg.setCell (F := fun q => q = b) (Chg.below (Chg.refl (w := w)) HBE.out (Nat.le_refl _)) (p := ⟨b, o + 1, none⟩) (.inl rfl) _) _
      exact ⟨w1.heap.size, e0, e1, .inr hs1, by omega, e2⟩
    | false =>
      obtain ⟨mb, hmb⟩ : ∃ mb, m3 = some mb := by have := HQN.out; cases m3 with | none => cases this | some mb => exact ⟨mb, rfl⟩
      have HMB := Lib.hid hmb
      clear hmb
      go_wp2_with fail
      go_meet
      have e0 : Blk w1 b t (cs.setIfInBounds (o + 1) (.map (some mb))) := by rw [← HMB.out, set_sameX K.out.2.1]; exact HB1.out
      have hmm := HM.out mb HMB.out
      have hne : mb ≠ b := by
        rintro rfl
        have h1 := hmm.cls
        rw [HN.out.2.1] at h1
        cases h1
      exact ⟨mb, e0, hmm.keep (HBE.out.block mb hmm.lt), .inl HMB.out, hne, Chg.below Chg.refl HBE.out (Nat.le_refl _)⟩
  case rest =>
    obtain ⟨mb, h0', h1', h2', h3', h4'⟩ := hcut
    have z8' : wc.cell? ⟨b, o, none⟩ = some (.slice A3 n3 c3) := (h0'.cell o).trans ((Array.getElem?_setIfInBounds_ne (by omega)).trans K.out.1)
    have f8' : wc.frozen? ⟨b, o, none⟩ = false := h0'.frozen o
    have lbc := h0'.lt
    have hsz := h4'.size
    have HRC := HR.out.keep (w' := wc) (fun q hq => h4'.block q (HR.out.lt hq) (HN.out.1 q hq))
    have HRW := Lib.hid (HRC.keep (w' := wc.alloc (.cells #[.int .i64 tick] 3)) (fun q hq => Below.heap_alloc _ _ q (HRC.lt hq)))
    have hne3 : ∀ q, blkOf A3 = some q → q ≠ mb := by
      rintro q hq rfl
      have h5 := h1'.cls
      rw [HRC.cls hq] at h5
      cases h5
    have C0 := Lib.hid h0'
    have C1 := Lib.hid h1'
    have C2 := Lib.hid (show _ ∧ _ ∧ _ from ⟨h2', h3', hne3⟩)
    have C4 := Lib.hid h4'
    have lmb := h1'.lt
    have hmbb : mb ≠ b := h3'
    clear h0' h1' h2' h3' h4' hne3 f8 f9 kmap kmk HB1 HBE lb1 HRC HR1
    obtain ⟨m4, hm4⟩ : ∃ m4, n3 + 1 = m4 := ⟨_, rfl⟩
    have hm4i : (n3 : Int) + 1 = (m4 : Int) := by omega
    have HM4 := Lib.hid (show _ ∧ _ from ⟨hm4, hm4i⟩)
    have hn64 := HLEN.out.2
    clear hm4 hm4i
    go_upto_region 8 with (at_builtin; refine wpList_row rfl (.tmp 28) (.tmp 30) rfl eltI A3 n3 c3 (intsV (hs.map (·.1))) rfl HRW.out (wc.heap.size + 1) (some ⟨wc.heap.size, 0, none⟩) 1 1 [.int .i64 tick] rfl (Reads.blk (size := 1) (n := 1) (g := wc.heap.size) (heap_alloc_new wc (.cells #[.int .i64 tick] 3)) (by omega) rfl) (by simp [Value.oneCell']) (by omega) ?_; intro A4 c4 w4 hr4 hg4 hb4; have mb4 := (C0.out.alloc (.cells #[.int .i64 tick] 3)).grown hg4 (fun e => HN.out.1 b e.symm rfl); have s8 : w4.cell? ⟨b, o, none⟩ = some (.slice A3 n3 c3) := (mb4.cell o).trans ((Array.getElem?_setIfInBounds_ne (by omega)).trans K.out.1); have t8 : w4.frozen? ⟨b, o, none⟩ = false := mb4.frozen o)
    have hnb4 := hr4.ne_blkR mb4 hti
    have E0 : Blk (w4.setCell ⟨b, o, none⟩ (.slice A4 (n3 + 1) c4)) b t ((cs.setIfInBounds (o + 1) (.map (some mb))).setIfInBounds o (.slice A4 (n3 + 1) c4)) := mb4.set_ o _
    have E1 : IMap (w4.setCell ⟨b, o, none⟩ (.slice A4 (n3 + 1) c4)) mb ml := C1.out.keep ((Below.heap_setCell _ _ _ mb hmbb).trans ((hg4.block mb (by simp; omega) (fun e => C2.out.2.2 mb e.symm rfl)).trans (Below.heap_alloc wc _ mb lmb)))
    have E3 : Row (w4.setCell ⟨b, o, none⟩ (.slice A4 (n3 + 1) c4)) 3 1 A4 (n3 + 1) c4 (intsV (hs.map (·.1) ++ [tick])) := by
      have := hr4.keep (w' := w4.setCell ⟨b, o, none⟩ (.slice A4 (n3 + 1) c4)) (fun q hq => Below.heap_setCell _ _ _ q (hnb4 q hq))
      simpa [intsV] using this
    have E4 : Chg (fun q => q = b ∨ blkOf A3 = some q ∨ m3 = some q) w (w4.setCell ⟨b, o, none⟩ (.slice A4 (n3 + 1) c4)) := Chg.setCell (F := fun q => q = b ∨ blkOf A3 = some q ∨ m3 = some q) (Chg.grown (Chg.alloc (C4.out.mono (fun q hq => .inl hq)) _) hg4 (fun k hk => .inl (.inr (.inl hk)))) (p := ⟨b, o, none⟩) (.inl (.inl rfl)) _
    have E5 : ∀ q, blkOf A4 = some q → blkOf A3 = some q ∨ w.heap.size ≤ q := by
      intro q hq
      rcases hb4 with h | h
      · exact .inl (h.symm.trans hq)
      · rw [h] at hq; simp at hq; exact .inr (by omega)
    rw [HM4.out.1] at E0 E1 E3 E4 ⊢
    have hlt8 : o < (cs.setIfInBounds (o + 1) (.map (some mb))).size := by simpa using K.out.2.2.1
    have hlt9 : o + 1 < cs.size := K.out.2.2.2
    clear hr4 hg4 hb4 mb4 s8 t8 hnb4 z8' z9' f8' HRW
    generalize w4.setCell ⟨b, o, none⟩ (.slice A4 m4 c4) = w5 at E0 E1 E3 E4 ⊢
    have z9 : w5.cell? ⟨b, o + 1, none⟩ = some (.map (some mb)) := (E0.cell (o + 1)).trans ((Array.getElem?_setIfInBounds_ne (by omega)).trans (Array.getElem?_setIfInBounds_self_of_lt hlt9))
    have lb5 := E0.lt
    have sz5 := E4.size
    have E6 : mb < w5.heap.size := E1.lt
    have hrd : Reads w5 w5.heap.size 8 A n (entsV l) := by
      rcases Nat.eq_zero_or_pos n with h0 | h0
      · exact ⟨HL.out.1, fun hh => absurd hh (by omega)⟩
      · exact (HL.out.keepA (w' := w5) (fun p hp hpb => E4.cellF hpb (fun e => e.elim (HLB.out h0 _ hp).1 (fun e => e.elim (HLB.out h0 _ hp).2.1 (HLB.out h0 _ hp).2.2)))).upto sz5
    have HRD := Lib.hid hrd
    clear hrd
    have HC := Lib.hid (fun W (hW : Below w5.heap.size w5 W) => cloneE l W A n c ((HRD.out.below hW).upto hW.size) hn)
    have G0 := Lib.hid E0
    have G1 := Lib.hid E1
    have G3 := Lib.hid E3
    have G4 := Lib.hid E4
    have G5 := Lib.hid E5
    clear E0 E1 E3 E4 E5
    go_cut [] (fun wx => Blk wx b t ((cs.setIfInBounds (o + 1) (.map (some mb))).setIfInBounds o (.slice A4 m4 c4)) ∧ Row wx 3 1 A4 m4 c4 (intsV (hs.map (·.1) ++ [tick])) ∧ (∃ Av cv, IMap wx mb (putI tick (.slice Av n cv) ml) ∧ Row wx 55 8 Av n cv (entsV l)) ∧ Chg (fun q => q = b ∨ blkOf A3 = some q ∨ m3 = some q) w wx)
    case first =>
      go_region_law (go_simp; go_at_call 71; refine (HC.out _ (by repeat (first | with_reducible exact Below.refl _ _ | with_reducible assumption | with_reducible refine Below.drew ?_ | with_reducible refine below_drews ?_ _ | with_reducible refine Below.alloc ?_ (by first | omega | (simp; done) | (simp; omega)) _ | with_reducible refine Below.setCell ?_ (by first | omega | (simp; done) | (simp; omega)) _))).mono ?_; rintro r wv ⟨Av, cv, rfl, hrv, hfv, hbv⟩; have BV : Below w5.heap.size w5 wv := (by refine Below.trans (by repeat (first | with_reducible exact Below.refl _ _ | with_reducible assumption | with_reducible refine Below.drew ?_ | with_reducible refine below_drews ?_ _ | with_reducible refine Below.alloc ?_ (by first | omega | (simp; done) | (simp; omega)) _ | with_reducible refine Below.setCell ?_ (by first | omega | (simp; done) | (simp; omega)) _)) (hbv.mono ?_); simp); have zv9 : wv.cell? ⟨b, o + 1, none⟩ = some (.map (some mb)) := (BV.cell (p := ⟨b, o + 1, none⟩) lb5).trans z9; obtain ⟨wm, hrun, hmap, hgr⟩ := run_mapUpdate_imap (P := Tryz.prog) Tryz.underlying159 Tryz.underlying3 (G1.out.keep (BV.block mb E6)) tick (.slice Av n cv))
      all_goals go_wp2_with fail
      all_goals go_meet
      all_goals
        have hne4 : ∀ q, blkOf A4 = some q → q ≠ mb := by
          rintro q hq rfl
          have h5 := G1.out.cls
          rw [G3.out.cls hq] at h5
          cases h5
        have y0 := (G0.out.below BV lb5).grown hgr (fun e => hmbb (Option.some.inj e).symm)
        have y1 : Row wm 3 1 A4 m4 c4 (intsV (hs.map (·.1) ++ [tick])) := G3.out.keep (fun q hq => (hgr.block q (Nat.lt_of_lt_of_le (G3.out.lt hq) BV.size) (fun e => hne4 q hq (Option.some.inj e))).trans (BV.block q (G3.out.lt hq)))
        have hmF : (fun q => q = b ∨ blkOf A3 = some q ∨ m3 = some q) mb ∨ w.heap.size ≤ mb := C2.out.1.elim (fun h => .inl (.inr (.inr h))) .inr
        have y2 : Chg (fun q => q = b ∨ blkOf A3 = some q ∨ m3 = some q) w wm := (G4.out.below BV sz5).grown hgr (fun k hk => by cases hk; exact hmF)
        have y3 : Row wm 55 8 Av n cv (entsV l) := hrv.keep (fun q hq => hgr.block q (hrv.lt hq) (fun e => by
          have h5 := (G1.out.keep (BV.block mb E6)).cls
          have h6 := hrv.cls hq
          rw [Option.some.inj e] at h6
          rw [h5] at h6
          cases h6))
        exact ⟨y0, y1, ⟨Av, cv, hmap, y3⟩, y2⟩
    case rest =>
      obtain ⟨y0, y1, ⟨Av, cv, y3, y4⟩, y2⟩ := hcut
      have hkE : ∀ q, clsOf w q = some 55 → wc.heap[q]? = w.heap[q]? := fun q hq => y2.block q (clsOf_lt hq) (fun hh => by
        rcases hh with rfl | hh | hh
        · rw [HN.out.2.1] at hq; exact hte (Option.some.inj hq).symm
        · rw [HN.out.2.2.1 q hh] at hq; exact absurd (Option.some.inj hq) (by decide)
        · rw [(HN.out.2.2.2 q hh).1] at hq; cases hq)
      have hput := HP.out.put hkE tick HLA.out l Av n cv y4
      have hsz2 := y2.size
      have z8 : wc.cell? ⟨b, o, none⟩ = some (.slice A4 m4 c4) := (y0.cell o).trans (Array.getElem?_setIfInBounds_self_of_lt hlt8)
      have Y := Lib.hid (show _ ∧ _ ∧ _ ∧ _ ∧ _ from ⟨y0, y1, y3, y2, y4⟩)
      have HPUT := Lib.hid hput
      clear y1 y2 y3 y4 hkE hput
      by_cases h64 : m4 ≤ 64
      · have t1 : decide ((64 : Int) < (m4 : Int)) = false := decide_eq_false (by omega)
        have t1n : decide (64 < m4) = false := decide_eq_false (by omega)
        have H64 := Lib.hid h64
        clear y0 h64
        go_wp2
        go_ret
        have hlt : hs.length < 64 := by have := HLEN.out.1; have := HM4.out.1; have := H64.out; omega
        obtain ⟨p1, p2⟩ := HPUT.out.1 hlt
        refine ⟨rfl, A4, m4, c4, mb, _, Y.out.1, ?_, Y.out.2.2.1, p1, G5.out, C2.out.1, Y.out.2.2.2.1⟩
        rw [p2, List.map_append]
        exact Y.out.2.1
      · have t1 : decide ((64 : Int) < (m4 : Int)) = true := decide_eq_true (by omega)
        have t1n : decide (64 < m4) = true := decide_eq_true (by omega)
        have heq : hs.length = 64 := by have := HLEN.out; have := HM4.out.1; omega
        obtain ⟨t0, v0, m0, q1, q2, q3, q4⟩ := HPUT.out.2 heq
        have z9 : wc.cell? ⟨b, o + 1, none⟩ = some (.map (some mb)) := (y0.cell (o + 1)).trans ((Array.getElem?_setIfInBounds_ne (by omega)).trans (Array.getElem?_setIfInBounds_self_of_lt hlt9))
        have f8 : wc.frozen? ⟨b, o, none⟩ = false := y0.frozen o
        have lbc2 := y0.lt
        obtain ⟨g, off, hA4, hg, hcl⟩ := Y.out.2.1.cells (by omega)
        have hcl0 : wc.cell? ⟨g, off, none⟩ = some (.int .i64 t0) := by
          rw [show off = off + 0 from rfl, (hcl 0 (by omega)).1]
          have : (hs.map (·.1) ++ [tick])[0]? = some t0 := by
            rw [List.getElem?_append_left (by simp; omega)]
            exact q2
          exact intsV_at this
        have hmap : IMap wc mb ((t0, v0) :: m0) := by rw [← q1]; exact Y.out.2.2.1
        have hdl := fun T3 => run_delete_imap (P := Tryz.prog) (w := wc.drew) Tryz.underlying159 Tryz.underlying3 (hmap.keep (w' := wc.drew) rfl) t0 3 T3
        rw [delI_head] at hdl
        have hct := fun w => run_cut (P := Tryz.prog) eltI A4 m4 c4 .i64 1 (by omega) 1 rfl w
        subst hA4
        have hgb : g ≠ b := Y.out.2.1.ne_blkR y0 hti g rfl
        have hgm : g ≠ mb := by
          rintro rfl
          have h5 := hmap.cls
          rw [Y.out.2.1.cls rfl] at h5
          cases h5
        have Q := Lib.hid (show _ ∧ _ from ⟨q3, q4⟩)
        have i1 : 0 < m4 := by omega
        have i2 : (0 : Int) < (m4 : Int) := by omega
        have HD := Lib.hid hdl
        clear y0 hcl heq q1 q2 q3 q4 hdl hmap h64
        go_wp2
        go_still_tail 10, (by kernel_rfl)
        change wpList _ _ _ _ _ wc.drew
        obtain ⟨wm, hrun, hmap, hgr⟩ := HD.out 0
        have mbm := Blk.grown (show Blk wc.drew b t _ from Y.out.1) hgr (fun e => hmbb (Option.some.inj e).symm)
        have s8 : wm.cell? ⟨b, o, none⟩ = some (.slice (some ⟨g, off, none⟩) m4 c4) := (mbm.cell o).trans (Array.getElem?_setIfInBounds_self_of_lt hlt8)
        have t8 : wm.frozen? ⟨b, o, none⟩ = false := mbm.frozen o
        have hrm : Row wm 3 1 (some ⟨g, off, none⟩) m4 c4 (intsV (hs.map (·.1) ++ [tick])) := Y.out.2.1.keep (fun q hq => hgr.block q (Y.out.2.1.lt hq) (fun e => by cases hq; exact hgm (Option.some.inj e)))
        have hrd := hrm.drop (k := 1) (by omega)
        have hck : Chg (fun q => q = b ∨ blkOf A3 = some q ∨ m3 = some q) w wm := Chg.grown (show Chg _ w wc.drew from ⟨Y.out.2.2.2.1.os, Y.out.2.2.2.1.tape, Y.out.2.2.2.1.output, Y.out.2.2.2.1.size, Y.out.2.2.2.1.block⟩) hgr (fun k hk => by cases hk; exact C2.out.1.elim (fun h => .inl (.inr (.inr h))) .inr)
        have hmne : ∀ q, clsOf wc q = some 55 → wm.heap[q]? = wc.heap[q]? := fun q hq => hgr.block q (clsOf_lt hq) (fun e => by rw [Option.some.inj e, Y.out.2.2.1.cls] at hq; cases hq)
        have Z := Lib.hid (show _ ∧ _ ∧ _ ∧ _ ∧ _ from ⟨mbm, hrd, hck, hmap, hmne⟩)
        clear mbm hrm hrd hck hmap hmne hgr hcl0
        go_wp2
        go_ret
        obtain ⟨x1, x2, x3, x4, x5⟩ := Z.out
        have hne : ∀ q, blkOf (cutA (some ⟨g, off, none⟩) c4 1 1) = some q → q ≠ b := fun q hq => by
          rw [cutA_blk] at hq
          cases hq
          exact hgb
        refine ⟨rfl, cutA (some ⟨g, off, none⟩) c4 1 1, m4 - 1, c4 - 1, mb, m0, ?_, ?_, ?_, ?_, ?_, C2.out.1, Chg.setCell x3 (p := ⟨b, o, none⟩) (.inl (.inl rfl)) _⟩
        · have := x1.set_ o (.slice (cutA (some ⟨g, off, none⟩) c4 1 1) (m4 - 1) (c4 - 1))
          simpa using this
        · rw [Q.out.2]
          have := x2.keep (w' := wm.setCell ⟨b, o, none⟩ (.slice (cutA (some ⟨g, off, none⟩) c4 1 1) (m4 - 1) (c4 - 1))) (fun q hq => Below.heap_setCell _ _ _ q (hne q hq))
          simpa [intsV] using this
        · exact x4.keep (Below.heap_setCell _ _ _ mb hmbb)
        · refine Q.out.1.keep fun q hq => ?_
          exact (Below.heap_setCell _ _ _ q (fun e => by rw [e, Y.out.1.cls] at hq; exact hte (Option.some.inj hq).symm)).trans (x5 q hq)
        · intro q hq
          rw [cutA_blk] at hq
          exact G5.out q hq
end Go.Proofs.YtojbijapdkohlaaGreatDoor
