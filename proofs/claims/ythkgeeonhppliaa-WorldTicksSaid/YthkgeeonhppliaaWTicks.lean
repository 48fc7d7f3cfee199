/- The walk of the law WorldTicks. -/
import Derived.Test.YthkgeeonhppliaaWOpen
import Derived.Test.YthkgeeonhppliaaW13
import Derived.Deep.DeepCutAuto
set_option linter.unusedSimpArgs false
set_option linter.unusedVariables false
namespace Go.Proofs.Ythkgeeonhppliaa
open Go.RowKit
set_option maxRecDepth 100000 in
set_option maxHeartbeats 4000000 in
theorem lawTicksNo (m : MapV) (s : MapS) (seed balls : Int) (A : Option Addr) (n c : Nat) (w : World) (h : MapAt w w.heap.size m s) (hno : ¬ (s.n ≤ 400 ∧ s.n2 ≤ 400) ∨ 100 < n) :
    Calls Try.prog 10 #[(.agg #[.int .i64 m.W, .int .i64 m.H, .slice s.A s.n s.c, .slice s.A2 s.n2 s.c2]), .agg #[.int .u64 seed, .int .i64 balls], .slice A n c] w fun r w' => r = .returned (.bool true) ∧ Below w.heap.size w w' := by
  have hF := fun W => few13 m s W
  obtain ⟨f, hf⟩ : ∃ f, decide (s.n ≤ 400 ∧ s.n2 ≤ 400) = f := ⟨_, rfl⟩
  obtain ⟨d, hd⟩ : ∃ d, decide ((100 : Int) < (n : Int)) = d := ⟨_, rfl⟩
  simp only [hf] at hF
  have hno' : f = false ∨ d = true := by
    rcases hno with h1 | h1
    · exact .inl (by rw [← hf]; exact decide_eq_false h1)
    · exact .inr (by rw [← hd]; exact decide_eq_true (by omega))
  have HN := Lib.hid hno'
  clear hno hno' h hf
  go_enter Try.func10, Try.ntmps10
  cases f
  rotate_left
  cases d
  · exact absurd HN.out (by simp)
  all_goals
    go_wp2_with (first
      | (go_at_call 22; refine (awake13 _).mono ?_; rintro e w1 ⟨rfl, hb1⟩; obtain ⟨hc1, hf1⟩ := bcell hb1; have hs1 := hb1.size; (try simp at hs1); have l1 : w.heap.size < w1.heap.size := (by omega); have l2 : w.heap.size + 1 < w1.heap.size := (by omega); have B1 : Below w.heap.size w w1 := Below.trans (by repeat (first | with_reducible exact Below.refl _ _ | with_reducible assumption | with_reducible refine Below.drew ?_ | with_reducible refine below_drews ?_ _ | with_reducible refine Below.alloc ?_ (by first | omega | (simp; done) | (simp; omega)) _ | with_reducible refine Below.setCell ?_ (by first | omega | (simp; done) | (simp; omega)) _)) (hb1.mono (by (try simp) <;> omega)))
      | (go_at_call 23; refine (hF _).mono ?_; rintro e w1 ⟨rfl, hb1⟩; obtain ⟨hc1, hf1⟩ := bcell hb1; have hs1 := hb1.size; (try simp at hs1); have l1 : w.heap.size < w1.heap.size := (by omega); have l2 : w.heap.size + 1 < w1.heap.size := (by omega); have B1 : Below w.heap.size w w1 := Below.trans (by repeat (first | with_reducible exact Below.refl _ _ | with_reducible assumption | with_reducible refine Below.drew ?_ | with_reducible refine below_drews ?_ _ | with_reducible refine Below.alloc ?_ (by first | omega | (simp; done) | (simp; omega)) _ | with_reducible refine Below.setCell ?_ (by first | omega | (simp; done) | (simp; omega)) _)) (hb1.mono (by (try simp) <;> omega))))
    go_ret
    exact ⟨rfl, (by repeat (first | with_reducible exact Below.refl _ _ | with_reducible assumption | with_reducible refine Below.drew ?_ | with_reducible refine below_drews ?_ _ | with_reducible refine Below.alloc ?_ (by first | omega | (simp; done) | (simp; omega)) _ | with_reducible refine Below.setCell ?_ (by first | omega | (simp; done) | (simp; omega)) _))⟩
set_option maxRecDepth 100000 in
set_option maxHeartbeats 4000000 in
theorem lawTicksErr (m : MapV) (s : MapS) (seed balls : Int) (A : Option Addr) (n c : Nat) (w : World) (h : MapAt w w.heap.size m s) (hf : s.n ≤ 400 ∧ s.n2 ≤ 400) (hn : n ≤ 100) (hno : newOk m balls = false) :
    Calls Try.prog 10 #[(.agg #[.int .i64 m.W, .int .i64 m.H, .slice s.A s.n s.c, .slice s.A2 s.n2 s.c2]), .agg #[.int .u64 seed, .int .i64 balls], .slice A n c] w fun r w' => r = .returned (.bool true) ∧ Below w.heap.size w w' := by
  have hF := fun W => few13 m s W
  have hd : decide ((100 : Int) < (n : Int)) = false := decide_eq_false (by omega)
  simp only [decide_eq_true hf] at hF
  have hNew := fun W (hW : Below w.heap.size w W) => wNewNo m s seed balls W ((h.below hW).upto hW.size) hno
  have HNEW := Lib.hid hNew
  clear h hf hn hno hNew
  go_enter Try.func10, Try.ntmps10
  go_wp2_with (first
    | (go_at_call 22; refine (awake13 _).mono ?_; rintro e w1 ⟨rfl, hb1⟩; obtain ⟨hc1, hf1⟩ := bcell hb1; have hs1 := hb1.size; (try simp at hs1); have l1 : w.heap.size < w1.heap.size := (by omega); have l2 : w.heap.size + 1 < w1.heap.size := (by omega); have B1 : Below w.heap.size w w1 := Below.trans (by repeat (first | with_reducible exact Below.refl _ _ | with_reducible assumption | with_reducible refine Below.drew ?_ | with_reducible refine below_drews ?_ _ | with_reducible refine Below.alloc ?_ (by first | omega | (simp; done) | (simp; omega)) _ | with_reducible refine Below.setCell ?_ (by first | omega | (simp; done) | (simp; omega)) _)) (hb1.mono (by (try simp) <;> omega)))
    | (go_at_call 23; refine (hF _).mono ?_; rintro e w1 ⟨rfl, hb1⟩; obtain ⟨hc1, hf1⟩ := bcell hb1; have hs1 := hb1.size; (try simp at hs1); have l1 : w.heap.size < w1.heap.size := (by omega); have l2 : w.heap.size + 1 < w1.heap.size := (by omega); have B1 : Below w.heap.size w w1 := Below.trans (by repeat (first | with_reducible exact Below.refl _ _ | with_reducible assumption | with_reducible refine Below.drew ?_ | with_reducible refine below_drews ?_ _ | with_reducible refine Below.alloc ?_ (by first | omega | (simp; done) | (simp; omega)) _ | with_reducible refine Below.setCell ?_ (by first | omega | (simp; done) | (simp; omega)) _)) (hb1.mono (by (try simp) <;> omega)))
    | (go_at_call 24; refine (HNEW.out _ (by first | assumption | exact B1)).mono ?_; rintro r w2 ⟨⟨v, s2, rfl⟩, hb2⟩; have B2 : Below w.heap.size w w2 := B1.trans (hb2.mono B1.size); have hs2 := B2.size))
  go_ret
  exact ⟨rfl, (by repeat (first | with_reducible exact Below.refl _ _ | with_reducible assumption | with_reducible refine Below.drew ?_ | with_reducible refine below_drews ?_ _ | with_reducible refine Below.alloc ?_ (by first | omega | (simp; done) | (simp; omega)) _ | with_reducible refine Below.setCell ?_ (by first | omega | (simp; done) | (simp; omega)) _))⟩
theorem Reads.uniq {w : World} {B B' size n : Nat} {A : Option Addr} {xs ys : List Value} (h : Reads w B size A n xs) (h' : Reads w B' size A n ys) : xs = ys := by
  have hl := h.1
  have hl' := h'.1
  rcases Nat.eq_zero_or_pos n with h0 | h0
  · subst h0
    have e1 : xs = [] := List.eq_nil_of_length_eq_zero (by simpa using hl)
    have e2 : ys = [] := List.eq_nil_of_length_eq_zero (by simpa using hl')
    rw [e1, e2]
  · obtain ⟨ad, ha, _, hc⟩ := h.2 h0
    obtain ⟨ad', ha', _, hc'⟩ := h'.2 h0
    rw [ha] at ha'
    injection ha' with ha'
    subst ha'
    apply List.ext_getElem?
    intro j
    by_cases hj : j < n * size
    · have e1 := hc j _ (List.getElem?_eq_getElem (by omega))
      have e2 := hc' j _ (List.getElem?_eq_getElem (by omega))
      rw [List.getElem?_eq_getElem (by omega), List.getElem?_eq_getElem (by omega), ← e1, ← e2]
    · rw [List.getElem?_eq_none (by omega), List.getElem?_eq_none (by omega)]
/-- A world whose slices keep clear of the block b (the box of the variable that holds it). -/
structure Clear (b : Nat) (w : World) (v : WorldV) (s : WorldS) : Prop where
  map : MapAt w b v.map s.ms
  l : (Reads w b 8 s.A s.n (entsV v.l) ∨ (∃ c0, Row w 30 8 s.A s.n c0 (entsV v.l)) ∧ ∀ q, blkOf s.A = some q → b < q)
  nc : s.n ≤ s.c
theorem Clear.at_ {b : Nat} {w : World} {v : WorldV} {s : WorldS} (h : Clear b w v s) (hb : b ≤ w.heap.size) : WorldAt w w.heap.size v s :=
  ⟨h.map.upto hb, h.l.elim (fun h => h.more hb) (fun h => h.1.elim fun _ h => h.reads (by decide)), h.nc⟩
theorem Clear.new {b : Nat} {w : World} {v : WorldV} {s : WorldS} (h : WorldAt w b v s) : Clear b w v s := ⟨h.map, .inl h.l, h.nc⟩
theorem Clear.below {b B : Nat} {w w' : World} {v : WorldV} {s : WorldS} (h : Clear b w v s) (hb : Below B w w') (hB : w.heap.size ≤ B) (hbB : b ≤ B) : Clear b w' v s :=
  ⟨h.map.below (hb.mono hbB), h.l.elim (fun h => .inl (h.below (hb.mono hbB))) (fun h => .inr ⟨h.1.elim fun c0 h1 => ⟨c0, h1.keep (fun g hg => hb.block g (by have := h1.lt hg; omega))⟩, h.2⟩), h.nc⟩
/-- Behind a store to the box itself. -/
theorem Clear.box {b : Nat} {w w' : World} {v : WorldV} {s : WorldS} (h : Clear b w v s) (hz : ∀ j : Nat, j ≠ b → w'.heap[j]? = w.heap[j]?) : Clear b w' v s := by
  have hc : ∀ p : Addr, p.block < b → w'.cell? p = w.cell? p := fun p hp => by
    unfold World.cell?
    rw [hz _ (by omega)]
  refine ⟨{ h.map with walls := h.map.walls.keep hc, spawns := h.map.spawns.keep hc }, ?_, h.nc⟩
  rcases h.l with h | ⟨⟨c0, h⟩, h2⟩
  · exact .inl (h.keep hc)
  · exact .inr ⟨⟨c0, h.keep (fun g hg => hz g (by have := h2 g hg; omega))⟩, h2⟩
/-- What a function of world hands back. -/
theorem Clear.held {b : Nat} {W w' : World} {v v' : WorldV} {s s' : WorldS} (h : Clear b W v s) (hat : WorldAt w' w'.heap.size v' s') (hms : s'.ms = s.ms) (hm : v'.map = v.map) (hk : Held W w' s s' v'.l) (hB : Below W.heap.size W w') (hb : b < W.heap.size) : Clear b w' v' s' := by
  have hmap : MapAt w' b v'.map s'.ms := by rw [hms, hm]; exact h.map.below (hB.mono (by omega))
  refine ⟨hmap, ?_, hat.nc⟩
  rcases hk with ⟨h1, h2⟩ | ⟨h1, h2⟩
  · rcases h.l with h3 | ⟨⟨c0, h3⟩, h4⟩
    · refine .inl ⟨hat.l.1, fun hn => ?_⟩
      obtain ⟨ad, ha, _, hcc⟩ := hat.l.2 hn
      obtain ⟨ad', ha', hc', _⟩ := h3.2 (by omega)
      have : ad = ad' := by rw [h1, ha'] at ha; injection ha with ha; exact ha.symm
      subst this
      exact ⟨ad, ha, hc', hcc⟩
    · have h5 : Row w' 30 8 s.A s.n c0 (entsV v.l) := h3.keep (fun g hg => hB.block g (h3.lt hg))
      have h6 : entsV v'.l = entsV v.l := Reads.uniq (by rw [← h1, ← h2]; exact hat.l) (h5.reads (by decide))
      exact .inr ⟨⟨c0, by rw [h1, h2, h6]; exact h5⟩, fun q hq => h4 q (h1 ▸ hq)⟩
  · exact .inr ⟨⟨_, h1⟩, fun q hq => by have := h2 q hq; omega⟩
theorem cell_far7 {w : World} {g : Nat} {p : Addr} (h : p.block ≠ g) (u0 u1 u2 u3 u4 u5 u6 : Value) : (((((((w.setCell ⟨g, 0, none⟩ u0).setCell ⟨g, 1, none⟩ u1).setCell ⟨g, 2, none⟩ u2).setCell ⟨g, 3, none⟩ u3).setCell ⟨g, 4, none⟩ u4).setCell ⟨g, 5, none⟩ u5).setCell ⟨g, 6, none⟩ u6).cell? p = w.cell? p := by
  exact (World.cell?_setCell_far _ _ _ _ (Ne.symm h)).trans ((World.cell?_setCell_far _ _ _ _ (Ne.symm h)).trans ((World.cell?_setCell_far _ _ _ _ (Ne.symm h)).trans ((World.cell?_setCell_far _ _ _ _ (Ne.symm h)).trans ((World.cell?_setCell_far _ _ _ _ (Ne.symm h)).trans ((World.cell?_setCell_far _ _ _ _ (Ne.symm h)).trans (World.cell?_setCell_far _ _ _ _ (Ne.symm h)))))))
/-- The same, behind stores to a block of one's own. -/
theorem Clear.heldFar {b g : Nat} {w0 W w' wf : World} {v v' : WorldV} {s s' : WorldS} (h : Clear b w0 v s) (hW : Below w0.heap.size w0 W) (hat : WorldAt w' w'.heap.size v' s') (hms : s'.ms = s.ms) (hm : v'.map = v.map) (hk : Held W w' s s' v'.l) (hB : Below W.heap.size W w') (hb : b < w0.heap.size)
    (hz : ∀ j : Nat, j < w'.heap.size → j ≠ g → wf.heap[j]? = w'.heap[j]?) (hg : w0.heap.size ≤ g) (hg2 : g < W.heap.size ∨ w'.heap.size ≤ g) : Clear b wf v' s' := by
  have hs1 := hW.size
  have hs2 := hB.size
  have hB0 : Below w0.heap.size w0 w' := hW.trans (hB.mono hs1)
  have hc : ∀ p : Addr, p.block < b → wf.cell? p = w'.cell? p := fun p hp => by
    unfold World.cell?
    rw [hz _ (by omega) (by omega)]
  have hmap : MapAt wf b v'.map s'.ms := by
    rw [hms, hm]
    have := h.map.below (hB0.mono (Nat.le_of_lt hb))
    exact { this with walls := this.walls.keep hc, spawns := this.spawns.keep hc }
  refine ⟨hmap, ?_, hat.nc⟩
  rcases hk with ⟨h1, h2⟩ | ⟨h1, h2⟩
  · rcases h.l with h3 | ⟨⟨c0, h3⟩, h4⟩
    · refine .inl (Reads.keep ⟨hat.l.1, fun hn => ?_⟩ hc)
      obtain ⟨ad, ha, _, hcc⟩ := hat.l.2 hn
      obtain ⟨ad', ha', hc', _⟩ := h3.2 (by omega)
      have : ad = ad' := by rw [h1, ha'] at ha; injection ha with ha; exact ha.symm
      subst this
      exact ⟨ad, ha, hc', hcc⟩
    · have h5 : Row w' 30 8 s.A s.n c0 (entsV v.l) := h3.keep (fun q hq => hB0.block q (h3.lt hq))
      have h6 : entsV v'.l = entsV v.l := Reads.uniq (by rw [← h1, ← h2]; exact hat.l) (h5.reads (by decide))
      have h7 : Row wf 30 8 s.A s.n c0 (entsV v.l) := h5.keep (fun q hq => hz q (h5.lt hq) (by have := h3.lt hq; omega))
      exact .inr ⟨⟨c0, by rw [h1, h2, h6]; exact h7⟩, fun q hq => h4 q (h1 ▸ hq)⟩
  · exact .inr ⟨⟨_, h1.keep (fun q hq => hz q (h1.lt hq) (by have := h2 q hq; have := h1.lt hq; omega))⟩, fun q hq => by have := h2 q hq; omega⟩
set_option maxRecDepth 100000 in
set_option maxHeartbeats 16000000 in
theorem lawTicksYes (m : MapV) (s0 : MapS) (seed : Int) (balls : Nat) (l : List OpV) (A : Option Addr) (n c : Nat) (w : World) (h : MapAt w w.heap.size m s0) (hl : Reads w w.heap.size 9 A n (opsV l)) (hlo : ∀ o ∈ l, OpOk o) (hf : s0.n ≤ 400 ∧ s0.n2 ≤ 400) (hn : n ≤ 100) (hfm : formedB m = true) (hb : balls ≤ 8) :
    Calls Try.prog 10 #[(.agg #[.int .i64 m.W, .int .i64 m.H, .slice s0.A s0.n s0.c, .slice s0.A2 s0.n2 s0.c2]), .agg #[.int .u64 seed, .int .i64 balls], .slice A n c] w fun r w' => r = .returned (.bool true) ∧ Below w.heap.size w w' := by
  have hF := fun W => few13 m s0 W
  have hd : decide ((100 : Int) < (n : Int)) = false := decide_eq_false (by omega)
  simp only [decide_eq_true hf] at hF
  have hNew := fun W (hW : Below w.heap.size w W) => wNewYes m s0 seed balls W ((h.below hW).upto hW.size) hfm hb (by omega) (by omega)
  have hsp : 1 ≤ m.spawns.length ∧ m.spawns.length ≤ 100000 := by
    have h1 := h.len.2
    have h2 := hfm
    unfold formedB sizeOk at h2
    simp only [Bool.and_eq_true, decide_eq_true_eq] at h2
    omega
  have HNEW := Lib.hid hNew
  have HSP := Lib.hid hsp
  have HL := Lib.hid hl
  have HLO := Lib.hid hlo
  have hll : l.length = n := by have := hl.1; rw [opsV_length] at this; omega
  have HLL := Lib.hid hll
  clear h hf hNew hsp hl hlo hll hfm
  go_enter Try.func10, Try.ntmps10
  go_wp2_with (first
    | (go_at_call 22; refine (awake13 _).mono ?_; rintro e w1 ⟨rfl, hb1⟩; obtain ⟨hc1, hf1⟩ := bcell hb1; have hs1 := hb1.size; (try simp at hs1); have l1 : w.heap.size < w1.heap.size := (by omega); have l2 : w.heap.size + 1 < w1.heap.size := (by omega); have B1 : Below w.heap.size w w1 := Below.trans (by repeat (first | with_reducible exact Below.refl _ _ | with_reducible assumption | with_reducible refine Below.drew ?_ | with_reducible refine below_drews ?_ _ | with_reducible refine Below.alloc ?_ (by first | omega | (simp; done) | (simp; omega)) _ | with_reducible refine Below.setCell ?_ (by first | omega | (simp; done) | (simp; omega)) _)) (hb1.mono (by (try simp) <;> omega)))
    | (go_at_call 23; refine (hF _).mono ?_; rintro e w1 ⟨rfl, hb1⟩; obtain ⟨hc1, hf1⟩ := bcell hb1; have hs1 := hb1.size; (try simp at hs1); have l1 : w.heap.size < w1.heap.size := (by omega); have l2 : w.heap.size + 1 < w1.heap.size := (by omega); have B1 : Below w.heap.size w w1 := Below.trans (by repeat (first | with_reducible exact Below.refl _ _ | with_reducible assumption | with_reducible refine Below.drew ?_ | with_reducible refine below_drews ?_ _ | with_reducible refine Below.alloc ?_ (by first | omega | (simp; done) | (simp; omega)) _ | with_reducible refine Below.setCell ?_ (by first | omega | (simp; done) | (simp; omega)) _)) (hb1.mono (by (try simp) <;> omega)))
    | (go_at_call 24; refine (HNEW.out _ (by first | assumption | exact B1)).mono ?_; rintro r w2 ⟨s2, rfl, hat, hb2⟩; have B2 : Below w.heap.size w w2 := B1.trans (hb2.mono B1.size); have hs2 := B2.size))
  have cl : Clear w2.heap.size (w2.alloc (.cells #[.int .i64 (newF m seed balls).map.W, .int .i64 (newF m seed balls).map.H, .slice s2.ms.A s2.ms.n s2.ms.c, .slice s2.ms.A2 s2.ms.n2 s2.ms.c2, .int .u64 (newF m seed balls).st, .int .i64 (newF m seed balls).tick, .slice s2.A s2.n s2.c] 58)) (newF m seed balls) s2 := (Clear.new hat).below ((Below.refl w2.heap.size w2).alloc (Nat.le_refl _) _) (Nat.le_refl _) (Nat.le_refl _)
  have bk : Blk (w2.alloc (.cells #[.int .i64 (newF m seed balls).map.W, .int .i64 (newF m seed balls).map.H, .slice s2.ms.A s2.ms.n s2.ms.c, .slice s2.ms.A2 s2.ms.n2 s2.ms.c2, .int .u64 (newF m seed balls).st, .int .i64 (newF m seed balls).tick, .slice s2.A s2.n s2.c] 58)) w2.heap.size 58 #[.int .i64 (newF m seed balls).map.W, .int .i64 (newF m seed balls).map.H, .slice s2.ms.A s2.ms.n s2.ms.c, .slice s2.ms.A2 s2.ms.n2 s2.ms.c2, .int .u64 (newF m seed balls).st, .int .i64 (newF m seed balls).tick, .slice s2.A s2.n s2.c] := Blk.new _ _ _
  have B3 : Below w.heap.size w (w2.alloc (.cells #[.int .i64 (newF m seed balls).map.W, .int .i64 (newF m seed balls).map.H, .slice s2.ms.A s2.ms.n s2.ms.c, .slice s2.ms.A2 s2.ms.n2 s2.ms.c2, .int .u64 (newF m seed balls).st, .int .i64 (newF m seed balls).tick, .slice s2.A s2.n s2.c] 58)) := B2.alloc hs2 _
  have hv0 : (newF m seed balls).l.length ≤ 8 := by have := ballsF_len m balls seed; show (ballsF m balls seed).2.length ≤ 8; omega
  have hv1 : ∀ e ∈ (newF m seed balls).l, okE e := ballsF_ok m balls seed
  have hvm : (newF m seed balls).map = m := rfl
  generalize newF m seed balls = v0 at cl bk B3 hv0 hv1 hvm ⊢
  generalize (w2.alloc (.cells #[.int .i64 v0.map.W, .int .i64 v0.map.H, .slice s2.ms.A s2.ms.n s2.ms.c, .slice s2.ms.A2 s2.ms.n2 s2.ms.c2, .int .u64 v0.st, .int .i64 v0.tick, .slice s2.A s2.n s2.c] 58)) = W3 at cl bk B3 ⊢
  have hbw : w.heap.size ≤ w2.heap.size := hs2
  generalize w2.heap.size = b7 at cl bk hbw ⊢
  have HCL := Lib.hid cl
  have HBK := Lib.hid bk
  have HB3 := Lib.hid B3
  have HV0 := Lib.hid hv0
  have HV1 := Lib.hid hv1
  have HVM := Lib.hid hvm
  clear cl bk B3 hv0 hv1 hvm hat hb2 B2 hs2 B1 hb1 hc1 hf1 hs1 l1 l2 hF HNEW
  (try clear hb1)
  (try clear hc1)
  (try clear hf1)
  (try clear hs1)
  (try clear B1)
  (try clear l1)
  (try clear l2)
  go_loopw [9] (fun i wr => ∃ (k : Nat) (v : WorldV) (s : WorldS), k ≤ n ∧ i = .int .i64 (k : Nat) ∧ Blk wr b7 58 #[.int .i64 v.map.W, .int .i64 v.map.H, .slice s.ms.A s.ms.n s.ms.c, .slice s.ms.A2 s.ms.n2 s.ms.c2, .int .u64 v.st, .int .i64 v.tick, .slice s.A s.n s.c] ∧ Clear b7 wr v s ∧ v.l.length ≤ 8 + k ∧ (∀ e ∈ v.l, okE e) ∧ v.map = m ∧ Below w.heap.size w wr) (fun i _ => n - (intOf i).toNat)
  case atStart => exact ⟨0, v0, s2, Nat.zero_le _, rfl, HBK.out, HCL.out, HV0.out, HV1.out, HVM.out, HB3.out⟩
  case round =>
    obtain ⟨k, v, s, hk, rfl, hbk, hcl, hvl, hvo, hvm, hbr⟩ := hrel
    have hbl := hbk.lt
    by_cases hlt : k < n
    · have hat := hcl.at_ (Nat.le_of_lt hbl)
      have hlen := hat.len
      have hn2 : 1 ≤ s.ms.n2 ∧ s.ms.n2 ≤ 100000 := by have := hat.map.len.2; rw [hvm] at this; have := HSP.out; omega
      have hT := wTick v s wr hat (by omega) hn2.1 hn2.2 hvo
      have htl := tickF_len v
      have htk : (tickF v).tick = wrap64 (v.tick + 1) := rfl
      have y0 : wr.cell? ⟨b7, 0, none⟩ = some (.int .i64 v.map.W) := hbk.cell 0
      have y1 : wr.cell? ⟨b7, 1, none⟩ = some (.int .i64 v.map.H) := hbk.cell 1
      have y2 : wr.cell? ⟨b7, 2, none⟩ = some (.slice s.ms.A s.ms.n s.ms.c) := hbk.cell 2
      have y3 : wr.cell? ⟨b7, 3, none⟩ = some (.slice s.ms.A2 s.ms.n2 s.ms.c2) := hbk.cell 3
      have y4 : wr.cell? ⟨b7, 4, none⟩ = some (.int .u64 v.st) := hbk.cell 4
      have y5 : wr.cell? ⟨b7, 5, none⟩ = some (.int .i64 v.tick) := hbk.cell 5
      have y6 : wr.cell? ⟨b7, 6, none⟩ = some (.slice s.A s.n s.c) := hbk.cell 6
      have HT := Lib.hid hT
      have HBKR := Lib.hid hbk
      have HCLR := Lib.hid hcl
      have HVLR := Lib.hid hvl
      have HVOR := Lib.hid hvo
      have HVMR := Lib.hid hvm
      have HBR := Lib.hid hbr
      have HTL := Lib.hid htl
      have HTK := Lib.hid htk
      have HLEN := Lib.hid hlen
      have HN2 := Lib.hid hn2
      clear hbk hcl hvl hvo hvm hbr hat hT htl htk hlen hn2
      go_wp2_with fail
      refine HT.out.mono ?_
      rintro r w3 ⟨s3, rfl, hat3, hms3, hk3, hb3⟩
      have hs3 := hb3.size
      have hn3 : s3.n = s.n := by have := hat3.len; have := HTL.out; have := HLEN.out; omega
      have htk := HTK.out
      have hmap3 : (tickF v).map = v.map := rfl
      have hone := fun (j : Nat) (a b : EntV) (ha : v.l[j]? = some a) (hb : (tickF v).l[j]? = some b) => tick_one v j a b (HVOR.out a (List.mem_of_getElem? ha)) ha hb
      have htl2 := HTL.out
      have HMS3 := Lib.hid hms3
      have HHT := Lib.hid (show actV v ⟨5, 0, 0, ⟨0, 0, 0, false, 0, 0⟩⟩ = (tickF v, 0) from rfl)
      generalize tickF v = X at hat3 hk3 htk hmap3 hone htl2 HHT ⊢
      have hbk3 := Blk.below HBKR.out hb3 hbl
      have z0 : w3.cell? ⟨b7, 0, none⟩ = some (.int .i64 v.map.W) := hbk3.cell 0
      have z1 : w3.cell? ⟨b7, 1, none⟩ = some (.int .i64 v.map.H) := hbk3.cell 1
      have z2 : w3.cell? ⟨b7, 2, none⟩ = some (.slice s.ms.A s.ms.n s.ms.c) := hbk3.cell 2
      have z3 : w3.cell? ⟨b7, 3, none⟩ = some (.slice s.ms.A2 s.ms.n2 s.ms.c2) := hbk3.cell 3
      have z4 : w3.cell? ⟨b7, 4, none⟩ = some (.int .u64 v.st) := hbk3.cell 4
      have z5 : w3.cell? ⟨b7, 5, none⟩ = some (.int .i64 v.tick) := hbk3.cell 5
      have z6 : w3.cell? ⟨b7, 6, none⟩ = some (.slice s.A s.n s.c) := hbk3.cell 6
      have l7 : b7 < w3.heap.size := by omega
      have hn3' : s3.n = s.n := hn3
      have HAT3 := Lib.hid hat3
      have HB3R := Lib.hid hb3
      have HBK3 := Lib.hid hbk3
      have HONE := Lib.hid hone
      have HTL2 := Lib.hid htl2
      have HN3 := Lib.hid hn3
      have tt1 : (wrap64 (v.tick + 1) != wrap64 (v.tick + 1)) = false := bne_self_eq_false _
      have tt2 : ((s.n : Int) != (s.n : Int)) = false := bne_self_eq_false _
      clear hat3 hk3 hb3 hbk3 hone htl2 hmap3 hms3 y0 y1 y2 y3 y4 y5 y6
      go_wp2
      have bk7 : Blk (w3.alloc (.cells #[.int .i64 X.map.W, .int .i64 X.map.H, .slice s3.ms.A s3.ms.n s3.ms.c, .slice s3.ms.A2 s3.ms.n2 s3.ms.c2, .int .u64 X.st, .int .i64 (wrap64 (v.tick + 1)), .slice s3.A s.n s3.c] 58)) b7 58 #[.int .i64 v.map.W, .int .i64 v.map.H, .slice s.ms.A s.ms.n s.ms.c, .slice s.ms.A2 s.ms.n2 s.ms.c2, .int .u64 v.st, .int .i64 v.tick, .slice s.A s.n s.c] := HBK3.out.alloc _
      have bk10 : Blk (w3.alloc (.cells #[.int .i64 X.map.W, .int .i64 X.map.H, .slice s3.ms.A s3.ms.n s3.ms.c, .slice s3.ms.A2 s3.ms.n2 s3.ms.c2, .int .u64 X.st, .int .i64 (wrap64 (v.tick + 1)), .slice s3.A s.n s3.c] 58)) w3.heap.size 58 #[.int .i64 X.map.W, .int .i64 X.map.H, .slice s3.ms.A s3.ms.n s3.ms.c, .slice s3.ms.A2 s3.ms.n2 s3.ms.c2, .int .u64 X.st, .int .i64 (wrap64 (v.tick + 1)), .slice s3.A s.n s3.c] := Blk.new _ _ _
      have la : Reads (w3.alloc (.cells #[.int .i64 X.map.W, .int .i64 X.map.H, .slice s3.ms.A s3.ms.n s3.ms.c, .slice s3.ms.A2 s3.ms.n2 s3.ms.c2, .int .u64 X.st, .int .i64 (wrap64 (v.tick + 1)), .slice s3.A s.n s3.c] 58)) w3.heap.size 8 s.A s.n (entsV v.l) := (((HCLR.out.at_ (Nat.le_of_lt hbl)).l.below HB3R.out).more hs3).alloc (Nat.le_refl _) _
      have lb : Reads (w3.alloc (.cells #[.int .i64 X.map.W, .int .i64 X.map.H, .slice s3.ms.A s3.ms.n s3.ms.c, .slice s3.ms.A2 s3.ms.n2 s3.ms.c2, .int .u64 X.st, .int .i64 (wrap64 (v.tick + 1)), .slice s3.A s.n s3.c] 58)) w3.heap.size 8 s3.A s.n (entsV X.l) := by
        have := HAT3.out.l
        rw [HN3.out] at this
        exact this.alloc (Nat.le_refl _) _
      have B4 : Below wr.heap.size wr (w3.alloc (.cells #[.int .i64 X.map.W, .int .i64 X.map.H, .slice s3.ms.A s3.ms.n s3.ms.c, .slice s3.ms.A2 s3.ms.n2 s3.ms.c2, .int .u64 X.st, .int .i64 (wrap64 (v.tick + 1)), .slice s3.A s.n s3.c] 58)) := HB3R.out.alloc hs3 _
      generalize (w3.alloc (.cells #[.int .i64 X.map.W, .int .i64 X.map.H, .slice s3.ms.A s3.ms.n s3.ms.c, .slice s3.ms.A2 s3.ms.n2 s3.ms.c2, .int .u64 X.st, .int .i64 (wrap64 (v.tick + 1)), .slice s3.A s.n s3.c] 58)) = W4 at bk7 bk10 la lb B4 ⊢
      generalize w3.heap.size = b10 at bk10 la lb l7 ⊢
      have BK7 := Lib.hid bk7
      have BK10 := Lib.hid bk10
      have LA := Lib.hid la
      have LB := Lib.hid lb
      have BB4 := Lib.hid B4
      have l10 := bk10.lt
      clear bk7 bk10 la lb B4 z0 z1 z2 z3 z4 z5 z6 hs3 hn3 hn3'
      obtain ⟨wo, rfl⟩ : ∃ wo : World, wo = wr := ⟨_, rfl⟩
      go_loopw [11] (fun i wq => ∃ (j : Nat), j ≤ s.n ∧ i = .int .i64 (j : Nat) ∧ Below W4.heap.size W4 wq) (fun i _ => s.n - (intOf i).toNat)
      case atStart => exact ⟨0, Nat.zero_le _, rfl, Below.refl _ _⟩
      case round =>
        obtain ⟨j, hj, rfl, hbq⟩ := hrel
        have hsq := hbq.size
        have hsn : s.n ≤ 999 := by have := HVLR.out; have := HLEN.out; omega
        by_cases hlt2 : j < s.n
        · have hvl : v.l.length = s.n := HLEN.out
          obtain ⟨a, ha⟩ : ∃ a, v.l[j]? = some a := ⟨_, List.getElem?_eq_getElem (by omega)⟩
          obtain ⟨b, hb2⟩ : ∃ b, X.l[j]? = some b := ⟨_, List.getElem?_eq_getElem (by have := HTL2.out; omega)⟩
          obtain ⟨i1, i2, i3, i4⟩ := HONE.out j a b ha hb2
          obtain ⟨ga, oa, hA, hga, hca⟩ := LA.out.flat (by omega) (by decide)
          obtain ⟨gb, ob, hB, hgb, hcb⟩ := LB.out.flat (by omega) (by decide)
          have p0 : wr.drew.cell? ⟨b7, 6, none⟩ = some (.slice (some ⟨ga, oa, none⟩) s.n s.c) := by rw [← hA]; exact (hbq.cell (p := ⟨b7, 6, none⟩) (by show b7 < _; omega)).trans (BK7.out.cell 6)
          have p1 : wr.drew.cell? ⟨b10, 6, none⟩ = some (.slice (some ⟨gb, ob, none⟩) s.n s3.c) := by rw [← hB]; exact (hbq.cell (p := ⟨b10, 6, none⟩) (by show b10 < _; omega)).trans (BK10.out.cell 6)
          have q0 : wr.drew.cell? ⟨ga, oa + j * 8, none⟩ = some (.int .i64 a.id) := by exact (hbq.cell (p := ⟨ga, oa + (j * 8 + 0), none⟩) (by show ga < _; omega)).trans (hca _ _ ((entsV_at ha 0 (by decide)).trans rfl))
          have r0 : wr.drew.cell? ⟨gb, ob + j * 8, none⟩ = some (.int .i64 b.id) := by exact (hbq.cell (p := ⟨gb, ob + (j * 8 + 0), none⟩) (by show gb < _; omega)).trans (hcb _ _ ((entsV_at hb2 0 (by decide)).trans rfl))
          have q1 : wr.drew.cell? ⟨ga, oa + j * 8 + 1, none⟩ = some (.int .i64 a.kind) := by rw [Nat.add_assoc]; exact (hbq.cell (p := ⟨ga, oa + (j * 8 + 1), none⟩) (by show ga < _; omega)).trans (hca _ _ ((entsV_at ha 1 (by decide)).trans rfl))
          have r1 : wr.drew.cell? ⟨gb, ob + j * 8 + 1, none⟩ = some (.int .i64 b.kind) := by rw [Nat.add_assoc]; exact (hbq.cell (p := ⟨gb, ob + (j * 8 + 1), none⟩) (by show gb < _; omega)).trans (hcb _ _ ((entsV_at hb2 1 (by decide)).trans rfl))
          have q2 : wr.drew.cell? ⟨ga, oa + j * 8 + 2, none⟩ = some (.int .i64 a.at_.x) := by rw [Nat.add_assoc]; exact (hbq.cell (p := ⟨ga, oa + (j * 8 + 2), none⟩) (by show ga < _; omega)).trans (hca _ _ ((entsV_at ha 2 (by decide)).trans rfl))
          have r2 : wr.drew.cell? ⟨gb, ob + j * 8 + 2, none⟩ = some (.int .i64 b.at_.x) := by rw [Nat.add_assoc]; exact (hbq.cell (p := ⟨gb, ob + (j * 8 + 2), none⟩) (by show gb < _; omega)).trans (hcb _ _ ((entsV_at hb2 2 (by decide)).trans rfl))
          have q3 : wr.drew.cell? ⟨ga, oa + j * 8 + 3, none⟩ = some (.int .i64 a.at_.y) := by rw [Nat.add_assoc]; exact (hbq.cell (p := ⟨ga, oa + (j * 8 + 3), none⟩) (by show ga < _; omega)).trans (hca _ _ ((entsV_at ha 3 (by decide)).trans rfl))
          have r3 : wr.drew.cell? ⟨gb, ob + j * 8 + 3, none⟩ = some (.int .i64 b.at_.y) := by rw [Nat.add_assoc]; exact (hbq.cell (p := ⟨gb, ob + (j * 8 + 3), none⟩) (by show gb < _; omega)).trans (hcb _ _ ((entsV_at hb2 3 (by decide)).trans rfl))
          have q4 : wr.drew.cell? ⟨ga, oa + j * 8 + 4, none⟩ = some (.int .i64 a.vel.x) := by rw [Nat.add_assoc]; exact (hbq.cell (p := ⟨ga, oa + (j * 8 + 4), none⟩) (by show ga < _; omega)).trans (hca _ _ ((entsV_at ha 4 (by decide)).trans rfl))
          have r4 : wr.drew.cell? ⟨gb, ob + j * 8 + 4, none⟩ = some (.int .i64 b.vel.x) := by rw [Nat.add_assoc]; exact (hbq.cell (p := ⟨gb, ob + (j * 8 + 4), none⟩) (by show gb < _; omega)).trans (hcb _ _ ((entsV_at hb2 4 (by decide)).trans rfl))
          have q5 : wr.drew.cell? ⟨ga, oa + j * 8 + 5, none⟩ = some (.int .i64 a.vel.y) := by rw [Nat.add_assoc]; exact (hbq.cell (p := ⟨ga, oa + (j * 8 + 5), none⟩) (by show ga < _; omega)).trans (hca _ _ ((entsV_at ha 5 (by decide)).trans rfl))
          have r5 : wr.drew.cell? ⟨gb, ob + j * 8 + 5, none⟩ = some (.int .i64 b.vel.y) := by rw [Nat.add_assoc]; exact (hbq.cell (p := ⟨gb, ob + (j * 8 + 5), none⟩) (by show gb < _; omega)).trans (hcb _ _ ((entsV_at hb2 5 (by decide)).trans rfl))
          have q6 : wr.drew.cell? ⟨ga, oa + j * 8 + 6, none⟩ = some (.int .i64 a.health) := by rw [Nat.add_assoc]; exact (hbq.cell (p := ⟨ga, oa + (j * 8 + 6), none⟩) (by show ga < _; omega)).trans (hca _ _ ((entsV_at ha 6 (by decide)).trans rfl))
          have r6 : wr.drew.cell? ⟨gb, ob + j * 8 + 6, none⟩ = some (.int .i64 b.health) := by rw [Nat.add_assoc]; exact (hbq.cell (p := ⟨gb, ob + (j * 8 + 6), none⟩) (by show gb < _; omega)).trans (hcb _ _ ((entsV_at hb2 6 (by decide)).trans rfl))
          have q7 : wr.drew.cell? ⟨ga, oa + j * 8 + 7, none⟩ = some (.int .i64 a.wait) := by rw [Nat.add_assoc]; exact (hbq.cell (p := ⟨ga, oa + (j * 8 + 7), none⟩) (by show ga < _; omega)).trans (hca _ _ ((entsV_at ha 7 (by decide)).trans rfl))
          have r7 : wr.drew.cell? ⟨gb, ob + j * 8 + 7, none⟩ = some (.int .i64 b.wait) := by rw [Nat.add_assoc]; exact (hbq.cell (p := ⟨gb, ob + (j * 8 + 7), none⟩) (by show gb < _; omega)).trans (hcb _ _ ((entsV_at hb2 7 (by decide)).trans rfl))
          have m1 : b7 < wr.heap.size := by omega
          have m2 : b10 < wr.heap.size := by omega
          have m3 : ga < wr.heap.size := by omega
          have m4 : gb < wr.heap.size := by omega
          have h6 : wr.cell? ⟨b10, 6, none⟩ = some (.slice (some ⟨gb, ob, none⟩) s.n s3.c) := p1
          have Ap0 : ∀ o, (wr.alloc o).drew.cell? ⟨b7, 6, none⟩ = some (.slice (some ⟨ga, oa, none⟩) s.n s.c) := fun o => (World.cell?_alloc_lt wr o ⟨b7, 6, none⟩ m1).trans p0
          have Bp0 : ∀ o o', ((wr.alloc o).alloc o').drew.cell? ⟨b7, 6, none⟩ = some (.slice (some ⟨ga, oa, none⟩) s.n s.c) := fun o o' => (World.cell?_alloc_lt (wr.alloc o) o' ⟨b7, 6, none⟩ (by simp; omega)).trans (Ap0 o)
          have Ap1 : ∀ o, (wr.alloc o).drew.cell? ⟨b10, 6, none⟩ = some (.slice (some ⟨gb, ob, none⟩) s.n s3.c) := fun o => (World.cell?_alloc_lt wr o ⟨b10, 6, none⟩ m2).trans p1
          have Bp1 : ∀ o o', ((wr.alloc o).alloc o').drew.cell? ⟨b10, 6, none⟩ = some (.slice (some ⟨gb, ob, none⟩) s.n s3.c) := fun o o' => (World.cell?_alloc_lt (wr.alloc o) o' ⟨b10, 6, none⟩ (by simp; omega)).trans (Ap1 o)
          have Aq0 : ∀ o, (wr.alloc o).drew.cell? ⟨ga, oa + j * 8, none⟩ = some (.int .i64 a.id) := fun o => (World.cell?_alloc_lt wr o ⟨ga, oa + j * 8, none⟩ m3).trans q0
          have Bq0 : ∀ o o', ((wr.alloc o).alloc o').drew.cell? ⟨ga, oa + j * 8, none⟩ = some (.int .i64 a.id) := fun o o' => (World.cell?_alloc_lt (wr.alloc o) o' ⟨ga, oa + j * 8, none⟩ (by simp; omega)).trans (Aq0 o)
          have Ar0 : ∀ o, (wr.alloc o).drew.cell? ⟨gb, ob + j * 8, none⟩ = some (.int .i64 b.id) := fun o => (World.cell?_alloc_lt wr o ⟨gb, ob + j * 8, none⟩ m4).trans r0
          have Br0 : ∀ o o', ((wr.alloc o).alloc o').drew.cell? ⟨gb, ob + j * 8, none⟩ = some (.int .i64 b.id) := fun o o' => (World.cell?_alloc_lt (wr.alloc o) o' ⟨gb, ob + j * 8, none⟩ (by simp; omega)).trans (Ar0 o)
          have Aq1 : ∀ o, (wr.alloc o).drew.cell? ⟨ga, oa + j * 8 + 1, none⟩ = some (.int .i64 a.kind) := fun o => (World.cell?_alloc_lt wr o ⟨ga, oa + j * 8 + 1, none⟩ m3).trans q1
          have Bq1 : ∀ o o', ((wr.alloc o).alloc o').drew.cell? ⟨ga, oa + j * 8 + 1, none⟩ = some (.int .i64 a.kind) := fun o o' => (World.cell?_alloc_lt (wr.alloc o) o' ⟨ga, oa + j * 8 + 1, none⟩ (by simp; omega)).trans (Aq1 o)
          have Ar1 : ∀ o, (wr.alloc o).drew.cell? ⟨gb, ob + j * 8 + 1, none⟩ = some (.int .i64 b.kind) := fun o => (World.cell?_alloc_lt wr o ⟨gb, ob + j * 8 + 1, none⟩ m4).trans r1
          have Br1 : ∀ o o', ((wr.alloc o).alloc o').drew.cell? ⟨gb, ob + j * 8 + 1, none⟩ = some (.int .i64 b.kind) := fun o o' => (World.cell?_alloc_lt (wr.alloc o) o' ⟨gb, ob + j * 8 + 1, none⟩ (by simp; omega)).trans (Ar1 o)
          have Aq2 : ∀ o, (wr.alloc o).drew.cell? ⟨ga, oa + j * 8 + 2, none⟩ = some (.int .i64 a.at_.x) := fun o => (World.cell?_alloc_lt wr o ⟨ga, oa + j * 8 + 2, none⟩ m3).trans q2
          have Bq2 : ∀ o o', ((wr.alloc o).alloc o').drew.cell? ⟨ga, oa + j * 8 + 2, none⟩ = some (.int .i64 a.at_.x) := fun o o' => (World.cell?_alloc_lt (wr.alloc o) o' ⟨ga, oa + j * 8 + 2, none⟩ (by simp; omega)).trans (Aq2 o)
          have Ar2 : ∀ o, (wr.alloc o).drew.cell? ⟨gb, ob + j * 8 + 2, none⟩ = some (.int .i64 b.at_.x) := fun o => (World.cell?_alloc_lt wr o ⟨gb, ob + j * 8 + 2, none⟩ m4).trans r2
          have Br2 : ∀ o o', ((wr.alloc o).alloc o').drew.cell? ⟨gb, ob + j * 8 + 2, none⟩ = some (.int .i64 b.at_.x) := fun o o' => (World.cell?_alloc_lt (wr.alloc o) o' ⟨gb, ob + j * 8 + 2, none⟩ (by simp; omega)).trans (Ar2 o)
          have Aq3 : ∀ o, (wr.alloc o).drew.cell? ⟨ga, oa + j * 8 + 3, none⟩ = some (.int .i64 a.at_.y) := fun o => (World.cell?_alloc_lt wr o ⟨ga, oa + j * 8 + 3, none⟩ m3).trans q3
          have Bq3 : ∀ o o', ((wr.alloc o).alloc o').drew.cell? ⟨ga, oa + j * 8 + 3, none⟩ = some (.int .i64 a.at_.y) := fun o o' => (World.cell?_alloc_lt (wr.alloc o) o' ⟨ga, oa + j * 8 + 3, none⟩ (by simp; omega)).trans (Aq3 o)
          have Ar3 : ∀ o, (wr.alloc o).drew.cell? ⟨gb, ob + j * 8 + 3, none⟩ = some (.int .i64 b.at_.y) := fun o => (World.cell?_alloc_lt wr o ⟨gb, ob + j * 8 + 3, none⟩ m4).trans r3
          have Br3 : ∀ o o', ((wr.alloc o).alloc o').drew.cell? ⟨gb, ob + j * 8 + 3, none⟩ = some (.int .i64 b.at_.y) := fun o o' => (World.cell?_alloc_lt (wr.alloc o) o' ⟨gb, ob + j * 8 + 3, none⟩ (by simp; omega)).trans (Ar3 o)
          have Aq4 : ∀ o, (wr.alloc o).drew.cell? ⟨ga, oa + j * 8 + 4, none⟩ = some (.int .i64 a.vel.x) := fun o => (World.cell?_alloc_lt wr o ⟨ga, oa + j * 8 + 4, none⟩ m3).trans q4
          have Bq4 : ∀ o o', ((wr.alloc o).alloc o').drew.cell? ⟨ga, oa + j * 8 + 4, none⟩ = some (.int .i64 a.vel.x) := fun o o' => (World.cell?_alloc_lt (wr.alloc o) o' ⟨ga, oa + j * 8 + 4, none⟩ (by simp; omega)).trans (Aq4 o)
          have Ar4 : ∀ o, (wr.alloc o).drew.cell? ⟨gb, ob + j * 8 + 4, none⟩ = some (.int .i64 b.vel.x) := fun o => (World.cell?_alloc_lt wr o ⟨gb, ob + j * 8 + 4, none⟩ m4).trans r4
          have Br4 : ∀ o o', ((wr.alloc o).alloc o').drew.cell? ⟨gb, ob + j * 8 + 4, none⟩ = some (.int .i64 b.vel.x) := fun o o' => (World.cell?_alloc_lt (wr.alloc o) o' ⟨gb, ob + j * 8 + 4, none⟩ (by simp; omega)).trans (Ar4 o)
          have Aq5 : ∀ o, (wr.alloc o).drew.cell? ⟨ga, oa + j * 8 + 5, none⟩ = some (.int .i64 a.vel.y) := fun o => (World.cell?_alloc_lt wr o ⟨ga, oa + j * 8 + 5, none⟩ m3).trans q5
          have Bq5 : ∀ o o', ((wr.alloc o).alloc o').drew.cell? ⟨ga, oa + j * 8 + 5, none⟩ = some (.int .i64 a.vel.y) := fun o o' => (World.cell?_alloc_lt (wr.alloc o) o' ⟨ga, oa + j * 8 + 5, none⟩ (by simp; omega)).trans (Aq5 o)
          have Ar5 : ∀ o, (wr.alloc o).drew.cell? ⟨gb, ob + j * 8 + 5, none⟩ = some (.int .i64 b.vel.y) := fun o => (World.cell?_alloc_lt wr o ⟨gb, ob + j * 8 + 5, none⟩ m4).trans r5
          have Br5 : ∀ o o', ((wr.alloc o).alloc o').drew.cell? ⟨gb, ob + j * 8 + 5, none⟩ = some (.int .i64 b.vel.y) := fun o o' => (World.cell?_alloc_lt (wr.alloc o) o' ⟨gb, ob + j * 8 + 5, none⟩ (by simp; omega)).trans (Ar5 o)
          have Aq6 : ∀ o, (wr.alloc o).drew.cell? ⟨ga, oa + j * 8 + 6, none⟩ = some (.int .i64 a.health) := fun o => (World.cell?_alloc_lt wr o ⟨ga, oa + j * 8 + 6, none⟩ m3).trans q6
          have Bq6 : ∀ o o', ((wr.alloc o).alloc o').drew.cell? ⟨ga, oa + j * 8 + 6, none⟩ = some (.int .i64 a.health) := fun o o' => (World.cell?_alloc_lt (wr.alloc o) o' ⟨ga, oa + j * 8 + 6, none⟩ (by simp; omega)).trans (Aq6 o)
          have Ar6 : ∀ o, (wr.alloc o).drew.cell? ⟨gb, ob + j * 8 + 6, none⟩ = some (.int .i64 b.health) := fun o => (World.cell?_alloc_lt wr o ⟨gb, ob + j * 8 + 6, none⟩ m4).trans r6
          have Br6 : ∀ o o', ((wr.alloc o).alloc o').drew.cell? ⟨gb, ob + j * 8 + 6, none⟩ = some (.int .i64 b.health) := fun o o' => (World.cell?_alloc_lt (wr.alloc o) o' ⟨gb, ob + j * 8 + 6, none⟩ (by simp; omega)).trans (Ar6 o)
          have Aq7 : ∀ o, (wr.alloc o).drew.cell? ⟨ga, oa + j * 8 + 7, none⟩ = some (.int .i64 a.wait) := fun o => (World.cell?_alloc_lt wr o ⟨ga, oa + j * 8 + 7, none⟩ m3).trans q7
          have Bq7 : ∀ o o', ((wr.alloc o).alloc o').drew.cell? ⟨ga, oa + j * 8 + 7, none⟩ = some (.int .i64 a.wait) := fun o o' => (World.cell?_alloc_lt (wr.alloc o) o' ⟨ga, oa + j * 8 + 7, none⟩ (by simp; omega)).trans (Aq7 o)
          have Ar7 : ∀ o, (wr.alloc o).drew.cell? ⟨gb, ob + j * 8 + 7, none⟩ = some (.int .i64 b.wait) := fun o => (World.cell?_alloc_lt wr o ⟨gb, ob + j * 8 + 7, none⟩ m4).trans r7
          have Br7 : ∀ o o', ((wr.alloc o).alloc o').drew.cell? ⟨gb, ob + j * 8 + 7, none⟩ = some (.int .i64 b.wait) := fun o o' => (World.cell?_alloc_lt (wr.alloc o) o' ⟨gb, ob + j * 8 + 7, none⟩ (by simp; omega)).trans (Ar7 o)
          clear hca hcb hA hB
          have HBQ := Lib.hid hbq
          have HI3 := Lib.hid i3
          have HI4 := Lib.hid i4
          have HI2 := Lib.hid i2
          clear hbq i3 i4
          go_upto_region 15 with (fail)
          clear h6
          go_cut [12, 13] (fun s12 s13 wx => ∃ g h : Nat, s12 = .pointer (some ⟨g, 0, none⟩) ∧ s13 = .pointer (some ⟨h, 0, none⟩) ∧ Blk wx g 30 #[.int .i64 b.id, .int .i64 b.kind, .int .i64 a.at_.x, .int .i64 a.at_.y, .int .i64 a.vel.x, .int .i64 a.vel.y, .int .i64 a.health, .int .i64 a.wait] ∧ Blk wx h 30 #[.int .i64 b.id, .int .i64 b.kind, .int .i64 b.at_.x, .int .i64 b.at_.y, .int .i64 b.vel.x, .int .i64 b.vel.y, .int .i64 b.health, .int .i64 b.wait] ∧ Below wr.heap.size wr wx)
          case first =>
            go_region_held3 (fun w' => w'.cell? ⟨b7, 6, none⟩ = some (.slice (some ⟨ga, oa, none⟩) s.n s.c) ∧ w'.cell? ⟨b10, 6, none⟩ = some (.slice (some ⟨gb, ob, none⟩) s.n s3.c) ∧ w'.cell? ⟨ga, oa + j * 8, none⟩ = some (.int .i64 a.id) ∧ w'.cell? ⟨gb, ob + j * 8, none⟩ = some (.int .i64 b.id) ∧ w'.cell? ⟨ga, oa + j * 8 + 1, none⟩ = some (.int .i64 a.kind) ∧ w'.cell? ⟨gb, ob + j * 8 + 1, none⟩ = some (.int .i64 b.kind) ∧ w'.cell? ⟨ga, oa + j * 8 + 2, none⟩ = some (.int .i64 a.at_.x) ∧ w'.cell? ⟨gb, ob + j * 8 + 2, none⟩ = some (.int .i64 b.at_.x) ∧ w'.cell? ⟨ga, oa + j * 8 + 3, none⟩ = some (.int .i64 a.at_.y) ∧ w'.cell? ⟨gb, ob + j * 8 + 3, none⟩ = some (.int .i64 b.at_.y) ∧ w'.cell? ⟨ga, oa + j * 8 + 4, none⟩ = some (.int .i64 a.vel.x) ∧ w'.cell? ⟨gb, ob + j * 8 + 4, none⟩ = some (.int .i64 b.vel.x) ∧ w'.cell? ⟨ga, oa + j * 8 + 5, none⟩ = some (.int .i64 a.vel.y) ∧ w'.cell? ⟨gb, ob + j * 8 + 5, none⟩ = some (.int .i64 b.vel.y) ∧ w'.cell? ⟨ga, oa + j * 8 + 6, none⟩ = some (.int .i64 a.health) ∧ w'.cell? ⟨gb, ob + j * 8 + 6, none⟩ = some (.int .i64 b.health) ∧ w'.cell? ⟨ga, oa + j * 8 + 7, none⟩ = some (.int .i64 a.wait) ∧ w'.cell? ⟨gb, ob + j * 8 + 7, none⟩ = some (.int .i64 b.wait)) (first | (with_reducible exact ⟨Ap0 _, Ap1 _, Aq0 _, Ar0 _, Aq1 _, Ar1 _, Aq2 _, Ar2 _, Aq3 _, Ar3 _, Aq4 _, Ar4 _, Aq5 _, Ar5 _, Aq6 _, Ar6 _, Aq7 _, Ar7 _⟩) | (with_reducible exact ⟨Bp0 _ _, Bp1 _ _, Bq0 _ _, Br0 _ _, Bq1 _ _, Br1 _ _, Bq2 _ _, Br2 _ _, Bq3 _ _, Br3 _ _, Bq4 _ _, Br4 _ _, Bq5 _ _, Br5 _ _, Bq6 _ _, Br6 _ _, Bq7 _ _, Br7 _ _⟩) | (with_reducible exact ⟨p0, p1, q0, r0, q1, r1, q2, r2, q3, r3, q4, r4, q5, r5, q6, r6, q7, r7⟩) | go_keep) (fail)
            all_goals (go_wp2_with fail; go_meet)
            · exact ⟨wr.heap.size, wr.heap.size + 1, rfl, rfl, ((Blk.new _ _ _).alloc _).drew, by have := Blk.new (wr.alloc (.cells #[.int .i64 b.id, .int .i64 b.kind, .int .i64 a.at_.x, .int .i64 a.at_.y, .int .i64 a.vel.x, .int .i64 a.vel.y, .int .i64 a.health, .int .i64 a.wait] 30)) 30 #[.int .i64 b.id, .int .i64 b.kind, .int .i64 b.at_.x, .int .i64 b.at_.y, .int .i64 b.vel.x, .int .i64 b.vel.y, .int .i64 b.health, .int .i64 b.wait]; simp at this; exact this.drew, (by repeat (first | with_reducible exact Below.refl _ _ | with_reducible assumption | with_reducible refine Below.drew ?_ | with_reducible refine below_drews ?_ _ | with_reducible refine Below.alloc ?_ (by first | omega | (simp; done) | (simp; omega)) _ | with_reducible refine Below.setCell ?_ (by first | omega | (simp; done) | (simp; omega)) _))⟩
            · exact ⟨wr.heap.size + 1, wr.heap.size, rfl, rfl, by have := Blk.new (wr.alloc (.cells #[.int .i64 b.id, .int .i64 b.kind, .int .i64 b.at_.x, .int .i64 b.at_.y, .int .i64 b.vel.x, .int .i64 b.vel.y, .int .i64 b.health, .int .i64 b.wait] 30)) 30 #[.int .i64 b.id, .int .i64 b.kind, .int .i64 a.at_.x, .int .i64 a.at_.y, .int .i64 a.vel.x, .int .i64 a.vel.y, .int .i64 a.health, .int .i64 a.wait]; simp at this; exact this.drew, ((Blk.new _ _ _).alloc _).drew, (by repeat (first | with_reducible exact Below.refl _ _ | with_reducible assumption | with_reducible refine Below.drew ?_ | with_reducible refine below_drews ?_ _ | with_reducible refine Below.alloc ?_ (by first | omega | (simp; done) | (simp; omega)) _ | with_reducible refine Below.setCell ?_ (by first | omega | (simp; done) | (simp; omega)) _))⟩
          case rest =>
            obtain ⟨g, h, rfl, rfl, hg, hh, hbx⟩ := hcut
            have c0 : wc.cell? ⟨g, 0, none⟩ = some (.int .i64 b.id) := hg.cell 0
            have d0 : wc.cell? ⟨h, 0, none⟩ = some (.int .i64 b.id) := hh.cell 0
            have c1 : wc.cell? ⟨g, 1, none⟩ = some (.int .i64 b.kind) := hg.cell 1
            have d1 : wc.cell? ⟨h, 1, none⟩ = some (.int .i64 b.kind) := hh.cell 1
            have c2 : wc.cell? ⟨g, 2, none⟩ = some (.int .i64 a.at_.x) := hg.cell 2
            have d2 : wc.cell? ⟨h, 2, none⟩ = some (.int .i64 b.at_.x) := hh.cell 2
            have c3 : wc.cell? ⟨g, 3, none⟩ = some (.int .i64 a.at_.y) := hg.cell 3
            have d3 : wc.cell? ⟨h, 3, none⟩ = some (.int .i64 b.at_.y) := hh.cell 3
            have c6 : wc.cell? ⟨g, 6, none⟩ = some (.int .i64 a.health) := hg.cell 6
            have d6 : wc.cell? ⟨h, 6, none⟩ = some (.int .i64 b.health) := hh.cell 6
            have c7 : wc.cell? ⟨g, 7, none⟩ = some (.int .i64 a.wait) := hg.cell 7
            have d7 : wc.cell? ⟨h, 7, none⟩ = some (.int .i64 b.wait) := hh.cell 7
            clear p0 p1 q0 q1 q2 q3 q4 q5 q6 q7 r0 r1 r2 r3 r4 r5 r6 r7 Ap0 Ap1 Bp0 Bp1 Aq0 Aq1 Aq2 Aq3 Aq4 Aq5 Aq6 Aq7 Ar0 Ar1 Ar2 Ar3 Ar4 Ar5 Ar6 Ar7 Bq0 Bq1 Bq2 Bq3 Bq4 Bq5 Bq6 Bq7 Br0 Br1 Br2 Br3 Br4 Br5 Br6 Br7 hg hh ha hb2 i1 i2
            have HBX := Lib.hid hbx
            clear hbx
            obtain ⟨x1, hx1⟩ : ∃ x, (a.health == 0) = x := ⟨_, rfl⟩
            obtain ⟨x2, hx2⟩ : ∃ x, (a.wait == 1) = x := ⟨_, rfl⟩
            obtain ⟨x3, hx3⟩ : ∃ x, (b.health == 100) = x := ⟨_, rfl⟩
            go_upto_region 16 with (fail)
            go_cut [14] (fun s14 wx => s14 = .bool (x1 && (x2 && x3)) ∧ wx = wc)
            case first =>
              go_wp2_with fail
              all_goals (go_meet; exact ⟨by simp_all, rfl⟩)
            case rest =>
              obtain ⟨rfl, hwx⟩ := hcut
              subst hwx
              obtain ⟨cm, hcm⟩ : ∃ cm, (x1 && (x2 && x3)) = cm := ⟨_, rfl⟩
              rw [hcm]
              have hnq := fun W => neqVec b.at_ a.at_ W
              obtain ⟨dv, hdv⟩ : ∃ dv, (!decide (b.at_ = a.at_)) = dv := ⟨_, rfl⟩
              simp only [hdv] at hnq
              obtain ⟨x4, hx4⟩ : ∃ x, decide (a.health < b.health) = x := ⟨_, rfl⟩
              obtain ⟨x5, hx5⟩ : ∃ x, (b.kind == 1) = x := ⟨_, rfl⟩
              obtain ⟨x6, hx6⟩ : ∃ x, decide (0 < a.health) = x := ⟨_, rfl⟩
              obtain ⟨x8, hx8⟩ : ∃ x, decide (0 < b.health) = x := ⟨_, rfl⟩
              have z1 : (b.id != b.id) = false := bne_self_eq_false _
              have z2 : (b.kind != b.kind) = false := bne_self_eq_false _
              have K1 : x4 = false ∨ cm = true ∧ x6 = false := by
                have i3 := HI3.out
                subst hcm hx1 hx2 hx3 hx4 hx6
                by_cases hg : a.health < b.health
                · obtain ⟨e1, e2, e3⟩ := i3 hg
                  exact .inr ⟨by rw [e1, e2, e3]; rfl, decide_eq_false (by omega)⟩
                · exact .inl (decide_eq_false hg)
              have K2 : x5 = false ∨ x6 = false ∨ x8 = false ∨ dv = false := by
                have i4 := HI4.out
                have i2 := HI2.out
                subst hx5 hx6 hx8 hdv
                by_cases e1 : b.kind = 1
                · by_cases e2 : 0 < a.health
                  · by_cases e3 : 0 < b.health
                    · have := i4 (by omega) e2 e3
                      exact .inr (.inr (.inr (by rw [decide_eq_true this]; rfl)))
                    · exact .inr (.inr (.inl (decide_eq_false e3)))
                  · exact .inr (.inl (decide_eq_false e2))
                · exact .inl (beq_eq_false_iff_ne.2 e1)
              clear hdv hcm hx1 hx2 hx3
              rcases K1 with rfl | ⟨rfl, rfl⟩ <;> rcases K2 with h5 | h5 | h5 | h5
              all_goals
                (try subst h5)
                (try clear h5)
                go_wp2_with fail
              all_goals
                refine ⟨⟨j + 1, hlt2, by go_num, ?_⟩, by simp [intOf]; omega⟩
                exact (HBQ.out.trans (HBX.out.mono (by have := HBQ.out.size; omega)))
        · have hlk : l.length = n := HLL.out
          obtain ⟨o, ho⟩ : ∃ o, l[k]? = some o := ⟨_, List.getElem?_eq_getElem (by omega)⟩
          have hbqo : Below wo.heap.size wo wr := BB4.out.trans (hbq.mono BB4.out.size)
          have hbqw : Below w.heap.size w wr := HBR.out.trans (hbqo.mono HBR.out.size)
          have h6 : wr.cell? ⟨b10, 6, none⟩ = some (.slice s3.A s.n s3.c) := (hbq.cell (p := ⟨b10, 6, none⟩) (by show b10 < _; omega)).trans (BK10.out.cell 6)
          have hbk0 : Blk wr b7 58 #[.int .i64 v.map.W, .int .i64 v.map.H, .slice s.ms.A s.ms.n s.ms.c, .slice s.ms.A2 s.ms.n2 s.ms.c2, .int .u64 v.st, .int .i64 v.tick, .slice s.A s.n s.c] := BK7.out.below hbq BK7.out.lt
          have hcl0 : Clear b7 wr v s := HCLR.out.below hbqo (Nat.le_refl _) (by omega)
          have hok0 : OpOk o := HLO.out o (List.mem_of_getElem? ho)
          have hgood : Good v s := ⟨by omega, HN2.out.1, HN2.out.2, HVOR.out⟩
          obtain ⟨gs, os, rfl, hgs, hcs⟩ := HL.out.flat (by omega) (by decide)
          have hsz : w.heap.size ≤ wr.heap.size := hbqw.size
          have p0 : wr.drew.cell? ⟨b7, 0, none⟩ = some (.int .i64 v.map.W) := hbk0.cell 0
          have p1 : wr.drew.cell? ⟨b7, 1, none⟩ = some (.int .i64 v.map.H) := hbk0.cell 1
          have p2 : wr.drew.cell? ⟨b7, 2, none⟩ = some (.slice s.ms.A s.ms.n s.ms.c) := hbk0.cell 2
          have p3 : wr.drew.cell? ⟨b7, 3, none⟩ = some (.slice s.ms.A2 s.ms.n2 s.ms.c2) := hbk0.cell 3
          have p4 : wr.drew.cell? ⟨b7, 4, none⟩ = some (.int .u64 v.st) := hbk0.cell 4
          have p5 : wr.drew.cell? ⟨b7, 5, none⟩ = some (.int .i64 v.tick) := hbk0.cell 5
          have p6 : wr.drew.cell? ⟨b7, 6, none⟩ = some (.slice s.A s.n s.c) := hbk0.cell 6
          have q0 : wr.drew.cell? ⟨gs, os + k * 9, none⟩ = some (.int .i64 o.kind) := by exact (hbqw.cell (p := ⟨gs, os + (k * 9 + 0), none⟩) (by show gs < _; omega)).trans (hcs _ _ ((opsV_at ho 0 (by decide)).trans rfl))
          have q1 : wr.drew.cell? ⟨gs, os + k * 9 + 1, none⟩ = some (.int .i64 o.id) := by rw [Nat.add_assoc]; exact (hbqw.cell (p := ⟨gs, os + (k * 9 + 1), none⟩) (by show gs < _; omega)).trans (hcs _ _ ((opsV_at ho 1 (by decide)).trans rfl))
          have q2 : wr.drew.cell? ⟨gs, os + k * 9 + 2, none⟩ = some (.int .i64 o.by_) := by rw [Nat.add_assoc]; exact (hbqw.cell (p := ⟨gs, os + (k * 9 + 2), none⟩) (by show gs < _; omega)).trans (hcs _ _ ((opsV_at ho 2 (by decide)).trans rfl))
          have q3 : wr.drew.cell? ⟨gs, os + k * 9 + 3, none⟩ = some (.int .u32 o.c.num) := by rw [Nat.add_assoc]; exact (hbqw.cell (p := ⟨gs, os + (k * 9 + 3), none⟩) (by show gs < _; omega)).trans (hcs _ _ ((opsV_at ho 3 (by decide)).trans rfl))
          have q4 : wr.drew.cell? ⟨gs, os + k * 9 + 4, none⟩ = some (.int .i8 o.c.mx) := by rw [Nat.add_assoc]; exact (hbqw.cell (p := ⟨gs, os + (k * 9 + 4), none⟩) (by show gs < _; omega)).trans (hcs _ _ ((opsV_at ho 4 (by decide)).trans rfl))
          have q5 : wr.drew.cell? ⟨gs, os + k * 9 + 5, none⟩ = some (.int .i8 o.c.my) := by rw [Nat.add_assoc]; exact (hbqw.cell (p := ⟨gs, os + (k * 9 + 5), none⟩) (by show gs < _; omega)).trans (hcs _ _ ((opsV_at ho 5 (by decide)).trans rfl))
          have q6 : wr.drew.cell? ⟨gs, os + k * 9 + 6, none⟩ = some (.bool o.c.fire) := by rw [Nat.add_assoc]; exact (hbqw.cell (p := ⟨gs, os + (k * 9 + 6), none⟩) (by show gs < _; omega)).trans (hcs _ _ ((opsV_at ho 6 (by decide)).trans rfl))
          have q7 : wr.drew.cell? ⟨gs, os + k * 9 + 7, none⟩ = some (.int .u32 o.c.view) := by rw [Nat.add_assoc]; exact (hbqw.cell (p := ⟨gs, os + (k * 9 + 7), none⟩) (by show gs < _; omega)).trans (hcs _ _ ((opsV_at ho 7 (by decide)).trans rfl))
          have q8 : wr.drew.cell? ⟨gs, os + k * 9 + 8, none⟩ = some (.int .u8 o.c.frac) := by rw [Nat.add_assoc]; exact (hbqw.cell (p := ⟨gs, os + (k * 9 + 8), none⟩) (by show gs < _; omega)).trans (hcs _ _ ((opsV_at ho 8 (by decide)).trans rfl))
          have m1 : b7 < wr.heap.size := hbk0.lt
          have m2 : gs < wr.heap.size := by omega
          have Ap0 : ∀ ob, (wr.alloc ob).drew.cell? ⟨b7, 0, none⟩ = some (.int .i64 v.map.W) := fun ob => (World.cell?_alloc_lt wr ob ⟨b7, 0, none⟩ m1).trans p0
          have Ap1 : ∀ ob, (wr.alloc ob).drew.cell? ⟨b7, 1, none⟩ = some (.int .i64 v.map.H) := fun ob => (World.cell?_alloc_lt wr ob ⟨b7, 1, none⟩ m1).trans p1
          have Ap2 : ∀ ob, (wr.alloc ob).drew.cell? ⟨b7, 2, none⟩ = some (.slice s.ms.A s.ms.n s.ms.c) := fun ob => (World.cell?_alloc_lt wr ob ⟨b7, 2, none⟩ m1).trans p2
          have Ap3 : ∀ ob, (wr.alloc ob).drew.cell? ⟨b7, 3, none⟩ = some (.slice s.ms.A2 s.ms.n2 s.ms.c2) := fun ob => (World.cell?_alloc_lt wr ob ⟨b7, 3, none⟩ m1).trans p3
          have Ap4 : ∀ ob, (wr.alloc ob).drew.cell? ⟨b7, 4, none⟩ = some (.int .u64 v.st) := fun ob => (World.cell?_alloc_lt wr ob ⟨b7, 4, none⟩ m1).trans p4
          have Ap5 : ∀ ob, (wr.alloc ob).drew.cell? ⟨b7, 5, none⟩ = some (.int .i64 v.tick) := fun ob => (World.cell?_alloc_lt wr ob ⟨b7, 5, none⟩ m1).trans p5
          have Ap6 : ∀ ob, (wr.alloc ob).drew.cell? ⟨b7, 6, none⟩ = some (.slice s.A s.n s.c) := fun ob => (World.cell?_alloc_lt wr ob ⟨b7, 6, none⟩ m1).trans p6
          have Aq0 : ∀ ob, (wr.alloc ob).drew.cell? ⟨gs, os + k * 9, none⟩ = some (.int .i64 o.kind) := fun ob => (World.cell?_alloc_lt wr ob ⟨gs, os + k * 9, none⟩ m2).trans q0
          have Aq1 : ∀ ob, (wr.alloc ob).drew.cell? ⟨gs, os + k * 9 + 1, none⟩ = some (.int .i64 o.id) := fun ob => (World.cell?_alloc_lt wr ob ⟨gs, os + k * 9 + 1, none⟩ m2).trans q1
          have Aq2 : ∀ ob, (wr.alloc ob).drew.cell? ⟨gs, os + k * 9 + 2, none⟩ = some (.int .i64 o.by_) := fun ob => (World.cell?_alloc_lt wr ob ⟨gs, os + k * 9 + 2, none⟩ m2).trans q2
          have Aq3 : ∀ ob, (wr.alloc ob).drew.cell? ⟨gs, os + k * 9 + 3, none⟩ = some (.int .u32 o.c.num) := fun ob => (World.cell?_alloc_lt wr ob ⟨gs, os + k * 9 + 3, none⟩ m2).trans q3
          have Aq4 : ∀ ob, (wr.alloc ob).drew.cell? ⟨gs, os + k * 9 + 4, none⟩ = some (.int .i8 o.c.mx) := fun ob => (World.cell?_alloc_lt wr ob ⟨gs, os + k * 9 + 4, none⟩ m2).trans q4
          have Aq5 : ∀ ob, (wr.alloc ob).drew.cell? ⟨gs, os + k * 9 + 5, none⟩ = some (.int .i8 o.c.my) := fun ob => (World.cell?_alloc_lt wr ob ⟨gs, os + k * 9 + 5, none⟩ m2).trans q5
          have Aq6 : ∀ ob, (wr.alloc ob).drew.cell? ⟨gs, os + k * 9 + 6, none⟩ = some (.bool o.c.fire) := fun ob => (World.cell?_alloc_lt wr ob ⟨gs, os + k * 9 + 6, none⟩ m2).trans q6
          have Aq7 : ∀ ob, (wr.alloc ob).drew.cell? ⟨gs, os + k * 9 + 7, none⟩ = some (.int .u32 o.c.view) := fun ob => (World.cell?_alloc_lt wr ob ⟨gs, os + k * 9 + 7, none⟩ m2).trans q7
          have Aq8 : ∀ ob, (wr.alloc ob).drew.cell? ⟨gs, os + k * 9 + 8, none⟩ = some (.int .u8 o.c.frac) := fun ob => (World.cell?_alloc_lt wr ob ⟨gs, os + k * 9 + 8, none⟩ m2).trans q8
          have mne1 : b7 ≠ wr.heap.size := by omega
          have mne2 : gs ≠ wr.heap.size := by omega
          have hA := fun W (hW : Below wr.heap.size wr W) => wAct v s o W ((hcl0.at_ (Nat.le_of_lt m1)).below hW |>.upto hW.size) hgood hok0
          have hidx : (0 : Int) ≤ (k : Int) := by omega
          have hidx2 : (k : Int) < (n : Int) := by omega
          have HA := Lib.hid hA
          have HCL0 := Lib.hid hcl0
          have HBK0 := Lib.hid hbk0
          have HBQW := Lib.hid hbqw
          have HBQO := Lib.hid hbqo
          have hjn : j = s.n := by omega
          subst hjn
          clear hA hcl0 hbk0 hbqw hbqo hcs ho hok0 hgood hbq HONE LA LB HAT3 BK10
          obtain ⟨⟨X5, E5⟩, hX5⟩ : ∃ x, actV v o = x := ⟨_, rfl⟩
          have HX5 := Lib.hid hX5
          have HMX := Lib.hid (show X5.map = v.map by have := actV_map v o; rw [hX5] at this; exact this)
          have HLX := Lib.hid (show X5.l.length ≤ v.l.length + 1 by have := actV_len v o; rw [hX5] at this; exact this)
          have HOX := Lib.hid (show ∀ e ∈ X5.l, okE e by have := actV_ok v o HVOR.out; rw [hX5] at this; exact this)
          have HA5 := HA.out
          rw [hX5] at HA5
          have HA6 := Lib.hid HA5
          clear hX5 HA5 HA
          go_upto_region 19 with (fail)
          clear h6
          go_cut [15] (fun s15 wx => ∃ (g : Nat) (s5 : WorldS), s15 = .pointer (some ⟨g, 0, none⟩) ∧ Blk wx g 58 #[.int .i64 X5.map.W, .int .i64 X5.map.H, .slice s.ms.A s.ms.n s.ms.c, .slice s.ms.A2 s.ms.n2 s.ms.c2, .int .u64 X5.st, .int .i64 X5.tick, .slice s5.A s5.n s5.c] ∧ s5.ms = s.ms ∧ Clear b7 wx X5 s5 ∧ Below wr.heap.size wr wx ∧ g ≠ b7)
          case first =>
            go_region_held3 (fun w' => w'.cell? ⟨b7, 0, none⟩ = some (.int .i64 v.map.W) ∧ w'.cell? ⟨b7, 1, none⟩ = some (.int .i64 v.map.H) ∧ w'.cell? ⟨b7, 2, none⟩ = some (.slice s.ms.A s.ms.n s.ms.c) ∧ w'.cell? ⟨b7, 3, none⟩ = some (.slice s.ms.A2 s.ms.n2 s.ms.c2) ∧ w'.cell? ⟨b7, 4, none⟩ = some (.int .u64 v.st) ∧ w'.cell? ⟨b7, 5, none⟩ = some (.int .i64 v.tick) ∧ w'.cell? ⟨b7, 6, none⟩ = some (.slice s.A s.n s.c) ∧ w'.cell? ⟨gs, os + k * 9, none⟩ = some (.int .i64 o.kind) ∧ w'.cell? ⟨gs, os + k * 9 + 1, none⟩ = some (.int .i64 o.id) ∧ w'.cell? ⟨gs, os + k * 9 + 2, none⟩ = some (.int .i64 o.by_) ∧ w'.cell? ⟨gs, os + k * 9 + 3, none⟩ = some (.int .u32 o.c.num) ∧ w'.cell? ⟨gs, os + k * 9 + 4, none⟩ = some (.int .i8 o.c.mx) ∧ w'.cell? ⟨gs, os + k * 9 + 5, none⟩ = some (.int .i8 o.c.my) ∧ w'.cell? ⟨gs, os + k * 9 + 6, none⟩ = some (.bool o.c.fire) ∧ w'.cell? ⟨gs, os + k * 9 + 7, none⟩ = some (.int .u32 o.c.view) ∧ w'.cell? ⟨gs, os + k * 9 + 8, none⟩ = some (.int .u8 o.c.frac)) (first | (with_reducible exact ⟨p0, p1, p2, p3, p4, p5, p6, q0, q1, q2, q3, q4, q5, q6, q7, q8⟩) | (with_reducible exact ⟨Ap0 _, Ap1 _, Ap2 _, Ap3 _, Ap4 _, Ap5 _, Ap6 _, Aq0 _, Aq1 _, Aq2 _, Aq3 _, Aq4 _, Aq5 _, Aq6 _, Aq7 _, Aq8 _⟩) | (with_reducible exact ⟨Dp0, Dp1, Dp2, Dp3, Dp4, Dp5, Dp6, Dq0, Dq1, Dq2, Dq3, Dq4, Dq5, Dq6, Dq7, Dq8⟩) | (with_reducible exact ⟨Ep0 _, Ep1 _, Ep2 _, Ep3 _, Ep4 _, Ep5 _, Ep6 _, Eq0 _, Eq1 _, Eq2 _, Eq3 _, Eq4 _, Eq5 _, Eq6 _, Eq7 _, Eq8 _⟩) | (with_reducible exact ⟨(cell_far7 mne1 _ _ _ _ _ _ _).trans Dp0, (cell_far7 mne1 _ _ _ _ _ _ _).trans Dp1, (cell_far7 mne1 _ _ _ _ _ _ _).trans Dp2, (cell_far7 mne1 _ _ _ _ _ _ _).trans Dp3, (cell_far7 mne1 _ _ _ _ _ _ _).trans Dp4, (cell_far7 mne1 _ _ _ _ _ _ _).trans Dp5, (cell_far7 mne1 _ _ _ _ _ _ _).trans Dp6, (cell_far7 mne2 _ _ _ _ _ _ _).trans Dq0, (cell_far7 mne2 _ _ _ _ _ _ _).trans Dq1, (cell_far7 mne2 _ _ _ _ _ _ _).trans Dq2, (cell_far7 mne2 _ _ _ _ _ _ _).trans Dq3, (cell_far7 mne2 _ _ _ _ _ _ _).trans Dq4, (cell_far7 mne2 _ _ _ _ _ _ _).trans Dq5, (cell_far7 mne2 _ _ _ _ _ _ _).trans Dq6, (cell_far7 mne2 _ _ _ _ _ _ _).trans Dq7, (cell_far7 mne2 _ _ _ _ _ _ _).trans Dq8⟩) | go_keep) (first | (go_at_call 25; refine (HA6.out _ (by repeat (first | with_reducible exact Below.refl _ _ | with_reducible assumption | with_reducible refine Below.drew ?_ | with_reducible refine below_drews ?_ _ | with_reducible refine Below.alloc ?_ (by first | omega | (simp; done) | (simp; omega)) _ | with_reducible refine Below.setCell ?_ (by first | omega | (simp; done) | (simp; omega)) _))).mono ?_; rintro r w5 ⟨s5, rfl, hat5, hms5, hk5, hb5⟩; have hB5 : Below wr.heap.size wr w5 := Below.trans (by repeat (first | with_reducible exact Below.refl _ _ | with_reducible assumption | with_reducible refine Below.drew ?_ | with_reducible refine below_drews ?_ _ | with_reducible refine Below.alloc ?_ (by first | omega | (simp; done) | (simp; omega)) _ | with_reducible refine Below.setCell ?_ (by first | omega | (simp; done) | (simp; omega)) _)) (hb5.mono (by simp)); have hs5 := hB5.size; have Dp0 := (hB5.cell (p := ⟨b7, 0, none⟩) m1).trans p0; have Dp1 := (hB5.cell (p := ⟨b7, 1, none⟩) m1).trans p1; have Dp2 := (hB5.cell (p := ⟨b7, 2, none⟩) m1).trans p2; have Dp3 := (hB5.cell (p := ⟨b7, 3, none⟩) m1).trans p3; have Dp4 := (hB5.cell (p := ⟨b7, 4, none⟩) m1).trans p4; have Dp5 := (hB5.cell (p := ⟨b7, 5, none⟩) m1).trans p5; have Dp6 := (hB5.cell (p := ⟨b7, 6, none⟩) m1).trans p6; have Dq0 := (hB5.cell (p := ⟨gs, os + k * 9, none⟩) m2).trans q0; have Dq1 := (hB5.cell (p := ⟨gs, os + k * 9 + 1, none⟩) m2).trans q1; have Dq2 := (hB5.cell (p := ⟨gs, os + k * 9 + 2, none⟩) m2).trans q2; have Dq3 := (hB5.cell (p := ⟨gs, os + k * 9 + 3, none⟩) m2).trans q3; have Dq4 := (hB5.cell (p := ⟨gs, os + k * 9 + 4, none⟩) m2).trans q4; have Dq5 := (hB5.cell (p := ⟨gs, os + k * 9 + 5, none⟩) m2).trans q5; have Dq6 := (hB5.cell (p := ⟨gs, os + k * 9 + 6, none⟩) m2).trans q6; have Dq7 := (hB5.cell (p := ⟨gs, os + k * 9 + 7, none⟩) m2).trans q7; have Dq8 := (hB5.cell (p := ⟨gs, os + k * 9 + 8, none⟩) m2).trans q8; have Ep0 : ∀ ob, (w5.alloc ob).cell? ⟨b7, 0, none⟩ = some (.int .i64 v.map.W) := fun ob => (World.cell?_alloc_lt w5 ob ⟨b7, 0, none⟩ (Nat.lt_of_lt_of_le m1 hs5)).trans Dp0; have Ep1 : ∀ ob, (w5.alloc ob).cell? ⟨b7, 1, none⟩ = some (.int .i64 v.map.H) := fun ob => (World.cell?_alloc_lt w5 ob ⟨b7, 1, none⟩ (Nat.lt_of_lt_of_le m1 hs5)).trans Dp1; have Ep2 : ∀ ob, (w5.alloc ob).cell? ⟨b7, 2, none⟩ = some (.slice s.ms.A s.ms.n s.ms.c) := fun ob => (World.cell?_alloc_lt w5 ob ⟨b7, 2, none⟩ (Nat.lt_of_lt_of_le m1 hs5)).trans Dp2; have Ep3 : ∀ ob, (w5.alloc ob).cell? ⟨b7, 3, none⟩ = some (.slice s.ms.A2 s.ms.n2 s.ms.c2) := fun ob => (World.cell?_alloc_lt w5 ob ⟨b7, 3, none⟩ (Nat.lt_of_lt_of_le m1 hs5)).trans Dp3; have Ep4 : ∀ ob, (w5.alloc ob).cell? ⟨b7, 4, none⟩ = some (.int .u64 v.st) := fun ob => (World.cell?_alloc_lt w5 ob ⟨b7, 4, none⟩ (Nat.lt_of_lt_of_le m1 hs5)).trans Dp4; have Ep5 : ∀ ob, (w5.alloc ob).cell? ⟨b7, 5, none⟩ = some (.int .i64 v.tick) := fun ob => (World.cell?_alloc_lt w5 ob ⟨b7, 5, none⟩ (Nat.lt_of_lt_of_le m1 hs5)).trans Dp5; have Ep6 : ∀ ob, (w5.alloc ob).cell? ⟨b7, 6, none⟩ = some (.slice s.A s.n s.c) := fun ob => (World.cell?_alloc_lt w5 ob ⟨b7, 6, none⟩ (Nat.lt_of_lt_of_le m1 hs5)).trans Dp6; have Eq0 : ∀ ob, (w5.alloc ob).cell? ⟨gs, os + k * 9, none⟩ = some (.int .i64 o.kind) := fun ob => (World.cell?_alloc_lt w5 ob ⟨gs, os + k * 9, none⟩ (Nat.lt_of_lt_of_le m2 hs5)).trans Dq0; have Eq1 : ∀ ob, (w5.alloc ob).cell? ⟨gs, os + k * 9 + 1, none⟩ = some (.int .i64 o.id) := fun ob => (World.cell?_alloc_lt w5 ob ⟨gs, os + k * 9 + 1, none⟩ (Nat.lt_of_lt_of_le m2 hs5)).trans Dq1; have Eq2 : ∀ ob, (w5.alloc ob).cell? ⟨gs, os + k * 9 + 2, none⟩ = some (.int .i64 o.by_) := fun ob => (World.cell?_alloc_lt w5 ob ⟨gs, os + k * 9 + 2, none⟩ (Nat.lt_of_lt_of_le m2 hs5)).trans Dq2; have Eq3 : ∀ ob, (w5.alloc ob).cell? ⟨gs, os + k * 9 + 3, none⟩ = some (.int .u32 o.c.num) := fun ob => (World.cell?_alloc_lt w5 ob ⟨gs, os + k * 9 + 3, none⟩ (Nat.lt_of_lt_of_le m2 hs5)).trans Dq3; have Eq4 : ∀ ob, (w5.alloc ob).cell? ⟨gs, os + k * 9 + 4, none⟩ = some (.int .i8 o.c.mx) := fun ob => (World.cell?_alloc_lt w5 ob ⟨gs, os + k * 9 + 4, none⟩ (Nat.lt_of_lt_of_le m2 hs5)).trans Dq4; have Eq5 : ∀ ob, (w5.alloc ob).cell? ⟨gs, os + k * 9 + 5, none⟩ = some (.int .i8 o.c.my) := fun ob => (World.cell?_alloc_lt w5 ob ⟨gs, os + k * 9 + 5, none⟩ (Nat.lt_of_lt_of_le m2 hs5)).trans Dq5; have Eq6 : ∀ ob, (w5.alloc ob).cell? ⟨gs, os + k * 9 + 6, none⟩ = some (.bool o.c.fire) := fun ob => (World.cell?_alloc_lt w5 ob ⟨gs, os + k * 9 + 6, none⟩ (Nat.lt_of_lt_of_le m2 hs5)).trans Dq6; have Eq7 : ∀ ob, (w5.alloc ob).cell? ⟨gs, os + k * 9 + 7, none⟩ = some (.int .u32 o.c.view) := fun ob => (World.cell?_alloc_lt w5 ob ⟨gs, os + k * 9 + 7, none⟩ (Nat.lt_of_lt_of_le m2 hs5)).trans Dq7; have Eq8 : ∀ ob, (w5.alloc ob).cell? ⟨gs, os + k * 9 + 8, none⟩ = some (.int .u8 o.c.frac) := fun ob => (World.cell?_alloc_lt w5 ob ⟨gs, os + k * 9 + 8, none⟩ (Nat.lt_of_lt_of_le m2 hs5)).trans Dq8; (try (have Z5 : Blk w5 wr.heap.size 58 #[.int .i64 0, .int .i64 0, .slice none 0 0, .slice none 0 0, .int .u64 0, .int .i64 0, .slice none 0 0] := (by with_reducible exact Blk.below (show Blk (wr.alloc (.cells #[.int .i64 0, .int .i64 0, .slice none 0 0, .slice none 0 0, .int .u64 0, .int .i64 0, .slice none 0 0] 58)).drew wr.heap.size 58 #[.int .i64 0, .int .i64 0, .slice none 0 0, .slice none 0 0, .int .u64 0, .int .i64 0, .slice none 0 0] from (Blk.new _ _ _).drew) hb5 (by simp)); have Y0 : w5.cell? ⟨wr.heap.size, 0, none⟩ = some (.int .i64 0) := Z5.cell 0; have FZ0 : w5.frozen? ⟨wr.heap.size, 0, none⟩ = false := Z5.frozen 0; have Y1 : w5.cell? ⟨wr.heap.size, 1, none⟩ = some (.int .i64 0) := Z5.cell 1; have FZ1 : w5.frozen? ⟨wr.heap.size, 1, none⟩ = false := Z5.frozen 1; have Y2 : w5.cell? ⟨wr.heap.size, 2, none⟩ = some (.slice none 0 0) := Z5.cell 2; have FZ2 : w5.frozen? ⟨wr.heap.size, 2, none⟩ = false := Z5.frozen 2; have Y3 : w5.cell? ⟨wr.heap.size, 3, none⟩ = some (.slice none 0 0) := Z5.cell 3; have FZ3 : w5.frozen? ⟨wr.heap.size, 3, none⟩ = false := Z5.frozen 3; have Y4 : w5.cell? ⟨wr.heap.size, 4, none⟩ = some (.int .u64 0) := Z5.cell 4; have FZ4 : w5.frozen? ⟨wr.heap.size, 4, none⟩ = false := Z5.frozen 4; have Y5 : w5.cell? ⟨wr.heap.size, 5, none⟩ = some (.int .i64 0) := Z5.cell 5; have FZ5 : w5.frozen? ⟨wr.heap.size, 5, none⟩ = false := Z5.frozen 5; have Y6 : w5.cell? ⟨wr.heap.size, 6, none⟩ = some (.slice none 0 0) := Z5.cell 6; have FZ6 : w5.frozen? ⟨wr.heap.size, 6, none⟩ = false := Z5.frozen 6))))
            all_goals (go_wp2_with fail; go_meet)
            · have e1 : Clear b7 (w5.alloc (.cells #[.int .i64 X5.map.W, .int .i64 X5.map.H, .slice s.ms.A s.ms.n s.ms.c, .slice s.ms.A2 s.ms.n2 s.ms.c2, .int .u64 X5.st, .int .i64 X5.tick, .slice s5.A s5.n s5.c] 58)) X5 s5 := Clear.heldFar (g := w5.heap.size) HCL0.out (by repeat (first | with_reducible exact Below.refl _ _ | with_reducible assumption | with_reducible refine Below.drew ?_ | with_reducible refine below_drews ?_ _ | with_reducible refine Below.alloc ?_ (by first | omega | (simp; done) | (simp; omega)) _ | with_reducible refine Below.setCell ?_ (by first | omega | (simp; done) | (simp; omega)) _)) hat5 hms5 HMX.out hk5 hb5 m1 (fun j hj _ => Below.heap_alloc w5 (.cells #[.int .i64 X5.map.W, .int .i64 X5.map.H, .slice s.ms.A s.ms.n s.ms.c, .slice s.ms.A2 s.ms.n2 s.ms.c2, .int .u64 X5.st, .int .i64 X5.tick, .slice s5.A s5.n s5.c] 58) j hj) hs5 (.inr (Nat.le_refl _))
              exact ⟨w5.heap.size, s5, rfl, Blk.new _ _ _, hms5, e1, hB5.alloc hs5 _, by omega⟩
            · have e0 : Blk (((((((w5.setCell ⟨wr.heap.size, 0, none⟩ (.int .i64 X5.map.W)).setCell ⟨wr.heap.size, 1, none⟩ (.int .i64 X5.map.H)).setCell ⟨wr.heap.size, 2, none⟩ (.slice s.ms.A s.ms.n s.ms.c)).setCell ⟨wr.heap.size, 3, none⟩ (.slice s.ms.A2 s.ms.n2 s.ms.c2)).setCell ⟨wr.heap.size, 4, none⟩ (.int .u64 X5.st)).setCell ⟨wr.heap.size, 5, none⟩ (.int .i64 X5.tick)).setCell ⟨wr.heap.size, 6, none⟩ (.slice s5.A s5.n s5.c)) wr.heap.size 58 #[.int .i64 X5.map.W, .int .i64 X5.map.H, .slice s.ms.A s.ms.n s.ms.c, .slice s.ms.A2 s.ms.n2 s.ms.c2, .int .u64 X5.st, .int .i64 X5.tick, .slice s5.A s5.n s5.c] := (((((((Z5.set_ 0 _).set_ 1 _).set_ 2 _).set_ 3 _).set_ 4 _).set_ 5 _).set_ 6 _)
              have e2 : ∀ jj : Nat, jj ≠ wr.heap.size → (((((((w5.setCell ⟨wr.heap.size, 0, none⟩ (.int .i64 X5.map.W)).setCell ⟨wr.heap.size, 1, none⟩ (.int .i64 X5.map.H)).setCell ⟨wr.heap.size, 2, none⟩ (.slice s.ms.A s.ms.n s.ms.c)).setCell ⟨wr.heap.size, 3, none⟩ (.slice s.ms.A2 s.ms.n2 s.ms.c2)).setCell ⟨wr.heap.size, 4, none⟩ (.int .u64 X5.st)).setCell ⟨wr.heap.size, 5, none⟩ (.int .i64 X5.tick)).setCell ⟨wr.heap.size, 6, none⟩ (.slice s5.A s5.n s5.c)).heap[jj]? = w5.heap[jj]? := fun jj hjj => ((Below.heap_setCell _ _ _ jj hjj).trans ((Below.heap_setCell _ _ _ jj hjj).trans ((Below.heap_setCell _ _ _ jj hjj).trans ((Below.heap_setCell _ _ _ jj hjj).trans ((Below.heap_setCell _ _ _ jj hjj).trans ((Below.heap_setCell _ _ _ jj hjj).trans (Below.heap_setCell _ _ _ jj hjj)))))))
              have e1 : Clear b7 (((((((w5.setCell ⟨wr.heap.size, 0, none⟩ (.int .i64 X5.map.W)).setCell ⟨wr.heap.size, 1, none⟩ (.int .i64 X5.map.H)).setCell ⟨wr.heap.size, 2, none⟩ (.slice s.ms.A s.ms.n s.ms.c)).setCell ⟨wr.heap.size, 3, none⟩ (.slice s.ms.A2 s.ms.n2 s.ms.c2)).setCell ⟨wr.heap.size, 4, none⟩ (.int .u64 X5.st)).setCell ⟨wr.heap.size, 5, none⟩ (.int .i64 X5.tick)).setCell ⟨wr.heap.size, 6, none⟩ (.slice s5.A s5.n s5.c)) X5 s5 := Clear.heldFar (g := wr.heap.size) HCL0.out (by repeat (first | with_reducible exact Below.refl _ _ | with_reducible assumption | with_reducible refine Below.drew ?_ | with_reducible refine below_drews ?_ _ | with_reducible refine Below.alloc ?_ (by first | omega | (simp; done) | (simp; omega)) _ | with_reducible refine Below.setCell ?_ (by first | omega | (simp; done) | (simp; omega)) _)) hat5 hms5 HMX.out hk5 hb5 m1 (fun jj _ hjj => e2 jj hjj) (Nat.le_refl _) (.inl (by simp))
              exact ⟨wr.heap.size, s5, rfl, e0, hms5, e1, (by repeat (first | with_reducible exact Below.refl _ _ | with_reducible assumption | with_reducible refine Below.drew ?_ | with_reducible refine below_drews ?_ _ | with_reducible refine Below.alloc ?_ (by first | omega | (simp; done) | (simp; omega)) _ | with_reducible refine Below.setCell ?_ (by first | omega | (simp; done) | (simp; omega)) _)), by omega⟩
          case rest =>
            obtain ⟨g, s5, rfl, hg5, hms5, hcl5, hB5, hgb⟩ := hcut
            have hbk5 : Blk wc b7 58 #[.int .i64 v.map.W, .int .i64 v.map.H, .slice s.ms.A s.ms.n s.ms.c, .slice s.ms.A2 s.ms.n2 s.ms.c2, .int .u64 v.st, .int .i64 v.tick, .slice s.A s.n s.c] := HBK0.out.below hB5 m1
            have l5 := hbk5.lt
            have l6 := hg5.lt
            have y0 : wc.cell? ⟨g, 0, none⟩ = some (.int .i64 X5.map.W) := hg5.cell 0
            have y1 : wc.cell? ⟨g, 1, none⟩ = some (.int .i64 X5.map.H) := hg5.cell 1
            have y2 : wc.cell? ⟨g, 2, none⟩ = some (.slice s.ms.A s.ms.n s.ms.c) := hg5.cell 2
            have y3 : wc.cell? ⟨g, 3, none⟩ = some (.slice s.ms.A2 s.ms.n2 s.ms.c2) := hg5.cell 3
            have y4 : wc.cell? ⟨g, 4, none⟩ = some (.int .u64 X5.st) := hg5.cell 4
            have y5 : wc.cell? ⟨g, 5, none⟩ = some (.int .i64 X5.tick) := hg5.cell 5
            have y6 : wc.cell? ⟨g, 6, none⟩ = some (.slice s5.A s5.n s5.c) := hg5.cell 6
            have z0 : wc.cell? ⟨b7, 0, none⟩ = some (.int .i64 v.map.W) := hbk5.cell 0
            have z1 : wc.cell? ⟨b7, 1, none⟩ = some (.int .i64 v.map.H) := hbk5.cell 1
            have z2 : wc.cell? ⟨b7, 2, none⟩ = some (.slice s.ms.A s.ms.n s.ms.c) := hbk5.cell 2
            have z3 : wc.cell? ⟨b7, 3, none⟩ = some (.slice s.ms.A2 s.ms.n2 s.ms.c2) := hbk5.cell 3
            have z4 : wc.cell? ⟨b7, 4, none⟩ = some (.int .u64 v.st) := hbk5.cell 4
            have z5 : wc.cell? ⟨b7, 5, none⟩ = some (.int .i64 v.tick) := hbk5.cell 5
            have z6 : wc.cell? ⟨b7, 6, none⟩ = some (.slice s.A s.n s.c) := hbk5.cell 6
            have fz0 : wc.frozen? ⟨b7, 0, none⟩ = false := hbk5.frozen 0
            have fz1 : wc.frozen? ⟨b7, 1, none⟩ = false := hbk5.frozen 1
            have fz2 : wc.frozen? ⟨b7, 2, none⟩ = false := hbk5.frozen 2
            have fz3 : wc.frozen? ⟨b7, 3, none⟩ = false := hbk5.frozen 3
            have fz4 : wc.frozen? ⟨b7, 4, none⟩ = false := hbk5.frozen 4
            have fz5 : wc.frozen? ⟨b7, 5, none⟩ = false := hbk5.frozen 5
            have fz6 : wc.frozen? ⟨b7, 6, none⟩ = false := hbk5.frozen 6
            have HBK5 := Lib.hid hbk5
            have HCL5 := Lib.hid hcl5
            have HB5 := Lib.hid hB5
            have HMS5 := Lib.hid hms5
            clear hbk5 hcl5 hB5 hms5 hg5 p0 p1 p2 p3 p4 p5 p6 q0 q1 q2 q3 q4 q5 q6 q7 q8 Ap0 Ap1 Ap2 Ap3 Ap4 Ap5 Ap6 Aq0 Aq1 Aq2 Aq3 Aq4 Aq5 Aq6 Aq7 Aq8
            go_wp2_with fail
            refine ⟨⟨k + 1, X5, s5, by omega, by go_num, ?_, ?_, ?_, HOX.out, HMX.out.trans HVMR.out, ?_⟩, by simp [intOf]; omega⟩
            · rw [HMS5.out]
              have e0 : Blk (((((((wc.setCell ⟨b7, 0, none⟩ (.int .i64 X5.map.W)).setCell ⟨b7, 1, none⟩ (.int .i64 X5.map.H)).setCell ⟨b7, 2, none⟩ (.slice s.ms.A s.ms.n s.ms.c)).setCell ⟨b7, 3, none⟩ (.slice s.ms.A2 s.ms.n2 s.ms.c2)).setCell ⟨b7, 4, none⟩ (.int .u64 X5.st)).setCell ⟨b7, 5, none⟩ (.int .i64 X5.tick)).setCell ⟨b7, 6, none⟩ (.slice s5.A s5.n s5.c)) b7 58 #[.int .i64 X5.map.W, .int .i64 X5.map.H, .slice s.ms.A s.ms.n s.ms.c, .slice s.ms.A2 s.ms.n2 s.ms.c2, .int .u64 X5.st, .int .i64 X5.tick, .slice s5.A s5.n s5.c] := (((((((HBK5.out.set_ 0 _).set_ 1 _).set_ 2 _).set_ 3 _).set_ 4 _).set_ 5 _).set_ 6 _)
              exact e0
            · have e2 : ∀ jj : Nat, jj ≠ b7 → (((((((wc.setCell ⟨b7, 0, none⟩ (.int .i64 X5.map.W)).setCell ⟨b7, 1, none⟩ (.int .i64 X5.map.H)).setCell ⟨b7, 2, none⟩ (.slice s.ms.A s.ms.n s.ms.c)).setCell ⟨b7, 3, none⟩ (.slice s.ms.A2 s.ms.n2 s.ms.c2)).setCell ⟨b7, 4, none⟩ (.int .u64 X5.st)).setCell ⟨b7, 5, none⟩ (.int .i64 X5.tick)).setCell ⟨b7, 6, none⟩ (.slice s5.A s5.n s5.c)).heap[jj]? = wc.heap[jj]? := fun jj hjj => ((Below.heap_setCell _ _ _ jj hjj).trans ((Below.heap_setCell _ _ _ jj hjj).trans ((Below.heap_setCell _ _ _ jj hjj).trans ((Below.heap_setCell _ _ _ jj hjj).trans ((Below.heap_setCell _ _ _ jj hjj).trans ((Below.heap_setCell _ _ _ jj hjj).trans (Below.heap_setCell _ _ _ jj hjj)))))))
              exact Clear.box HCL5.out e2
            · have := HLX.out; have := HVLR.out; omega
            · have hb5 := HB5.out; have hbq5 := HBQW.out; have hb6 := hbq5.trans (hb5.mono hbq5.size); exact (by repeat (first | with_reducible exact Below.refl _ _ | with_reducible assumption | with_reducible refine Below.drew ?_ | with_reducible refine below_drews ?_ _ | with_reducible refine Below.alloc ?_ (by first | omega | (simp; done) | (simp; omega)) _ | with_reducible refine Below.setCell ?_ (by first | omega | (simp; done) | (simp; omega)) _))
    · go_wp2
      go_ret
      exact ⟨rfl, hbr⟩
theorem lawTicks (m : MapV) (s : MapS) (seed balls : Int) (l : List OpV) (A : Option Addr) (n c : Nat) (w : World) (h : MapAt w w.heap.size m s) (hl : Reads w w.heap.size 9 A n (opsV l)) (hlo : ∀ o ∈ l, OpOk o ∧ -128 ≤ o.c.mx ∧ -128 ≤ o.c.my) :
    Calls Try.prog 10 #[(.agg #[.int .i64 m.W, .int .i64 m.H, .slice s.A s.n s.c, .slice s.A2 s.n2 s.c2]), .agg #[.int .u64 seed, .int .i64 balls], .slice A n c] w fun r w' => r = .returned (.bool true) ∧ Below w.heap.size w w' := by
  by_cases h1 : s.n ≤ 400 ∧ s.n2 ≤ 400
  · by_cases h2 : n ≤ 100
    · cases h3 : newOk m balls with
      | false => exact lawTicksErr m s seed balls A n c w h h1 h2 h3
      | true =>
        unfold newOk at h3
        simp only [Bool.and_eq_true, decide_eq_true_eq] at h3
        obtain ⟨b, rfl⟩ := Int.eq_ofNat_of_zero_le h3.2.1
        exact lawTicksYes m s seed b l A n c w h hl (fun o ho => (hlo o ho).1) h1 h2 h3.1 (by omega)
    · exact lawTicksNo m s seed balls A n c w h (.inr (by omega))
  · exact lawTicksNo m s seed balls A n c w h (.inl h1)
end Go.Proofs.Ythkgeeonhppliaa
