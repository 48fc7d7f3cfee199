/- The walk of the law WorldAgain. (Printed by gen_again.py.) -/
import Derived.Test.YthkgeeonhppliaaWClear
import Derived.Test.YthkgeeonhppliaaWSame
import Derived.Deep.DeepCutAuto
set_option linter.unusedSimpArgs false
set_option linter.unusedVariables false
namespace Go.Proofs.Ythkgeeonhppliaa
open Go.RowKit
theorem reads_new (w : World) (t : TypeId) (cs : List Value) (n size B : Nat) (hl : cs.length = n * size) (hB : w.heap.size < B) : Reads (w.alloc (.cells cs.toArray t)) B size (some ⟨w.heap.size, 0, none⟩) n cs := by
  refine ⟨hl, fun _ => ⟨_, rfl, hB, fun j u hu => ?_⟩⟩
  have e : (Addr.mk w.heap.size 0 none).add j = ⟨w.heap.size, j, none⟩ := by
    unfold Addr.add
    split
    · simp [*]
    · simp
  rw [e, (Blk.new w t cs.toArray).cell j]
  simpa using hu
/-- The worlds on the way. -/
def seqV (l : List OpV) (v0 : WorldV) : Nat → WorldV
  | 0 => v0
  | i + 1 => match l[i]? with
    | some o => (actV (seqV l v0 i) o).1
    | none => seqV l v0 i
theorem seqV_succ {l : List OpV} {v0 : WorldV} {i : Nat} {o : OpV} (h : l[i]? = some o) : seqV l v0 (i + 1) = (actV (seqV l v0 i) o).1 := by
  rw [seqV]; rw [h]
theorem seqV_spec (l : List OpV) (v0 : WorldV) (h1 : v0.l.length ≤ 8) (h2 : ∀ e ∈ v0.l, okE e) (i : Nat) : (seqV l v0 i).l.length ≤ 8 + i ∧ (∀ e ∈ (seqV l v0 i).l, okE e) ∧ (seqV l v0 i).map = v0.map := by
  induction i with
  | zero => exact ⟨h1, h2, rfl⟩
  | succ i ih =>
    obtain ⟨i1, i2, i3⟩ := ih
    cases ho : l[i]? with
    | none => rw [show seqV l v0 (i + 1) = seqV l v0 i from by rw [seqV]; rw [ho]]; exact ⟨by omega, i2, i3⟩
    | some o =>
      rw [seqV_succ ho]
      have := actV_len (seqV l v0 i) o
      exact ⟨by omega, actV_ok _ _ i2, (actV_map _ _).trans i3⟩
def worldCells (v : WorldV) (s : WorldS) : List Value := [.int .i64 v.map.W, .int .i64 v.map.H, .slice s.ms.A s.ms.n s.ms.c, .slice s.ms.A2 s.ms.n2 s.ms.c2, .int .u64 v.st, .int .i64 v.tick, .slice s.A s.n s.c]
def psV (ps : List (WorldV × WorldS)) : List Value := ps.flatMap fun p => worldCells p.1 p.2
theorem psV_length (ps : List (WorldV × WorldS)) : (psV ps).length = ps.length * 7 := flat_length (f := fun p : WorldV × WorldS => worldCells p.1 p.2) (size := 7) (fun _ => rfl) ps
theorem psV_at {ps : List (WorldV × WorldS)} {k : Nat} {p : WorldV × WorldS} (h : ps[k]? = some p) (j : Nat) (hj : j < 7) : (psV ps)[k * 7 + j]? = (worldCells p.1 p.2)[j]? := flat_at (f := fun p : WorldV × WorldS => worldCells p.1 p.2) (size := 7) (fun _ => rfl) ps k j p h hj
theorem worldCells_one (v : WorldV) (s : WorldS) : ∀ u ∈ worldCells v s, u.oneCell' = true := by
  intro u hu
  unfold worldCells at hu
  simp only [List.mem_cons, List.not_mem_nil, or_false] at hu
  rcases hu with h | h | h | h | h | h | h <;> subst h <;> rfl
theorem eltW : Elt Try.prog 70 58 7 104 := Elt.mk' Try.underlying70 (.agg #[.int .i64 0, .int .i64 0, .slice none 0 0, .slice none 0 0, .int .u64 0, .int .i64 0, .slice none 0 0]) (by kernel_rfl) rfl (by decide) (by decide)
theorem Clear.grown {b : Nat} {w w' : World} {v : WorldV} {s : WorldS} {row : Option Nat} (h : Clear b w v s) (hg : w.grownBy w' row) (hb : b ≤ w.heap.size) (hr : ∀ g, row = some g → b ≤ g ∧ ∃ cs, Blk w g 58 cs) : Clear b w' v s := by
  have hc : ∀ p : Addr, p.block < b → w'.cell? p = w.cell? p := fun p hp => by
    unfold World.cell?
    rw [hg.block _ (by omega) (fun hh => by have := (hr _ hh.symm).1; omega)]
  refine ⟨{ h.map with walls := h.map.walls.keep hc, spawns := h.map.spawns.keep hc }, ?_, h.nc⟩
  rcases h.l with h1 | ⟨⟨c0, h1⟩, h2⟩
  · exact .inl (h1.keep hc)
  · refine .inr ⟨⟨c0, h1.keep (fun q hq => hg.block q (h1.lt hq) (fun hh => ?_))⟩, h2⟩
    obtain ⟨_, cs, hcs⟩ := hr q hh.symm
    rcases h1.2.2.2 with ⟨h3, -⟩ | ⟨g, off, cur, h3, h4, -, -⟩
    · rw [h3] at hq; cases hq
    · rw [h3] at hq
      have hq' : g = q := by simpa [blkOf] using hq
      subst hq'
      exact Blk.ne_ (t := 30) h4 hcs (by decide) rfl
structure AllAt (b : Nat) (w : World) (l : List OpV) (v0 : WorldV) (k : Nat) (ps : List (WorldV × WorldS)) : Prop where
  len : ps.length = k + 1
  at_ : ∀ (j : Nat) (p : WorldV × WorldS), ps[j]? = some p → p.1 = seqV l v0 j ∧ Clear b w p.1 p.2
theorem AllAt.one {b : Nat} {w : World} {l : List OpV} {v0 : WorldV} {s : WorldS} (h : Clear b w v0 s) : AllAt b w l v0 0 [(v0, s)] := by
  refine ⟨rfl, fun j p hp => ?_⟩
  rcases j with _ | j
  · rw [List.getElem?_cons_zero] at hp
    injection hp with hp
    subst hp
    exact ⟨rfl, h⟩
  · rw [List.getElem?_cons_succ] at hp
    cases hp
theorem AllAt.below {b B k : Nat} {w w' : World} {l : List OpV} {v0 : WorldV} {ps : List (WorldV × WorldS)} (h : AllAt b w l v0 k ps) (hb : Below B w w') (hB : w.heap.size ≤ B) (hbB : b ≤ B) : AllAt b w' l v0 k ps :=
  ⟨h.len, fun j p hp => ⟨(h.at_ j p hp).1, (h.at_ j p hp).2.below hb hB hbB⟩⟩
theorem AllAt.grown {b k : Nat} {w w' : World} {l : List OpV} {v0 : WorldV} {ps : List (WorldV × WorldS)} {row : Option Nat} (h : AllAt b w l v0 k ps) (hg : w.grownBy w' row) (hb : b ≤ w.heap.size) (hr : ∀ g, row = some g → b ≤ g ∧ ∃ cs, Blk w g 58 cs) : AllAt b w' l v0 k ps :=
  ⟨h.len, fun j p hp => ⟨(h.at_ j p hp).1, (h.at_ j p hp).2.grown hg hb hr⟩⟩
theorem AllAt.snoc {b k : Nat} {w : World} {l : List OpV} {v0 : WorldV} {ps : List (WorldV × WorldS)} {v : WorldV} {s : WorldS} (h : AllAt b w l v0 k ps) (hv : v = seqV l v0 (k + 1)) (hc : Clear b w v s) : AllAt b w l v0 (k + 1) (ps ++ [(v, s)]) := by
  refine ⟨by simp [h.len], fun j p hp => ?_⟩
  by_cases hj : j < ps.length
  · rw [List.getElem?_append_left hj] at hp; exact h.at_ j p hp
  · rw [List.getElem?_append_right (by omega)] at hp
    have : j = k + 1 := by
      have := (List.getElem?_eq_some_iff.1 hp).1
      simp at this
      have := h.len
      omega
    subst this
    rw [show k + 1 - ps.length = 0 by have := h.len; omega] at hp
    simp at hp
    subst hp
    exact ⟨hv, hc⟩
theorem own_row {b n : Nat} {w : World} {va : Value} {xs : List Value} (h : w.ownsRow b 58 7 va n xs) : ∀ g, va.ownBlock = some g → b ≤ g ∧ ∃ cs, Blk w g 58 cs := by
  intro g hg
  rcases h.2 with ⟨rfl, _⟩ | ⟨g', cap, cur, rfl, hb, hh, _⟩
  · cases hg
  · have : g' = g := by simpa [Value.ownBlock] using hg
    subst this
    exact ⟨hb, _, hh⟩
theorem own_keep {b n B : Nat} {w w' : World} {va : Value} {xs : List Value} (h : w.ownsRow b 58 7 va n xs) (hb : Below B w w') (hB : w.heap.size ≤ B) : w'.ownsRow b 58 7 va n xs := by
  refine ⟨h.1, ?_⟩
  rcases h.2 with h1 | ⟨g, cap, cur, h1, h2, h3, h4⟩
  · exact .inl h1
  · exact .inr ⟨g, cap, cur, h1, h2, (hb.block g (by have := Blk.lt (t := 58) h3; omega)).trans h3, h4⟩
set_option maxRecDepth 100000 in
set_option maxHeartbeats 4000000 in
theorem lawAgainNo (m : MapV) (s : MapS) (seed balls : Int) (A : Option Addr) (n c : Nat) (w : World) (h : MapAt w w.heap.size m s) (hno : ¬ (s.n ≤ 400 ∧ s.n2 ≤ 400) ∨ 60 < n) :
    Calls Try.prog 11 #[(.agg #[.int .i64 m.W, .int .i64 m.H, .slice s.A s.n s.c, .slice s.A2 s.n2 s.c2]), .agg #[.int .u64 seed, .int .i64 balls], .slice A n c] w fun r w' => r = .returned (.bool true) ∧ Below w.heap.size w w' := by
  have hF := fun W => few13 m s W
  obtain ⟨f, hf⟩ : ∃ f, decide (s.n ≤ 400 ∧ s.n2 ≤ 400) = f := ⟨_, rfl⟩
  obtain ⟨d, hd⟩ : ∃ d, decide ((60 : Int) < (n : Int)) = d := ⟨_, rfl⟩
  simp only [hf] at hF
  have hno' : f = false ∨ d = true := by
    rcases hno with h1 | h1
    · exact .inl (by rw [← hf]; exact decide_eq_false h1)
    · exact .inr (by rw [← hd]; exact decide_eq_true (by omega))
  have HN := Lib.hid hno'
  clear hno hno' h hf
  go_enter Try.func11, Try.ntmps11
  cases f
  rotate_left
  cases d
  · exact absurd HN.out (by simp)
  all_goals
    go_wp2_with (first
      | (go_at_call 22; refine (awake13 _).mono ?_; rintro e w1 ⟨rfl, hb1⟩; obtain ⟨hc1, hf1⟩ := bcell hb1; have hs1 := hb1.size; (try simp at hs1); have l1 : w.heap.size < w1.heap.size := (by omega); have l2 : w.heap.size + 1 < w1.heap.size := (by omega); have B1 : Below w.heap.size w w1 := Below.trans (by repeat (first | with_reducible exact Below.refl _ _ | with_reducible assumption | with_reducible refine Below.drew ?_ | with_reducible refine below_drews ?_ _ | with_reducible refine Below.alloc ?_ (by first | omega | (simp; done) | (simp; omega)) _ | with_reducible refine Below.setCell ?_ (by first | omega | (simp; done) | (simp; omega)) _)) (hb1.mono (by (try simp) <;> omega)))
      | (go_at_call 23; refine (hF _).mono ?_; rintro e w1 ⟨rfl, hb1⟩; obtain ⟨hc1, hf1⟩ := bcell hb1; have hs1 := hb1.size; (try simp at hs1); have l1 : w.heap.size < w1.heap.size := (by omega); have l2 : w.heap.size + 1 < w1.heap.size := (by omega); have B1 : Below w.heap.size w w1 := Below.trans (by repeat (first | with_reducible exact Below.refl _ _ | with_reducible assumption | with_reducible refine Below.drew ?_ | with_reducible refine below_drews ?_ _ | with_reducible refine Below.alloc ?_ (by first | omega | (simp; done) | (simp; omega)) _ | with_reducible refine Below.setCell ?_ (by first | omega | (simp; done) | (simp; omega)) _)) (hb1.mono (by (try simp) <;> omega))))
    go_ret
    exact ⟨rfl, (by repeat (first | with_reducible exact Below.refl _ _ | with_reducible assumption | with_reducible refine Below.drew ?_ | with_reducible refine below_drews ?_ _ | with_reducible refine Below.alloc ?_ (by first | omega | (simp; done) | (simp; omega)) _ | with_reducible refine Below.setCell ?_ (by first | omega | (simp; done) | (simp; omega)) _))⟩
set_option maxRecDepth 100000 in
set_option maxHeartbeats 4000000 in
theorem lawAgainErr (m : MapV) (s : MapS) (seed balls : Int) (A : Option Addr) (n c : Nat) (w : World) (h : MapAt w w.heap.size m s) (hf : s.n ≤ 400 ∧ s.n2 ≤ 400) (hn : n ≤ 60) (hno : newOk m balls = false) :
    Calls Try.prog 11 #[(.agg #[.int .i64 m.W, .int .i64 m.H, .slice s.A s.n s.c, .slice s.A2 s.n2 s.c2]), .agg #[.int .u64 seed, .int .i64 balls], .slice A n c] w fun r w' => r = .returned (.bool true) ∧ Below w.heap.size w w' := by
  have hF := fun W => few13 m s W
  have hd : decide ((60 : Int) < (n : Int)) = false := decide_eq_false (by omega)
  simp only [decide_eq_true hf] at hF
  have hNew := fun W (hW : Below w.heap.size w W) => wNewNo m s seed balls W ((h.below hW).upto hW.size) hno
  have HNEW := Lib.hid hNew
  clear h hf hn hno hNew
  go_enter Try.func11, Try.ntmps11
  go_wp2_with (first
    | (go_at_call 22; refine (awake13 _).mono ?_; rintro e w1 ⟨rfl, hb1⟩; obtain ⟨hc1, hf1⟩ := bcell hb1; have hs1 := hb1.size; (try simp at hs1); have l1 : w.heap.size < w1.heap.size := (by omega); have l2 : w.heap.size + 1 < w1.heap.size := (by omega); have B1 : Below w.heap.size w w1 := Below.trans (by repeat (first | with_reducible exact Below.refl _ _ | with_reducible assumption | with_reducible refine Below.drew ?_ | with_reducible refine below_drews ?_ _ | with_reducible refine Below.alloc ?_ (by first | omega | (simp; done) | (simp; omega)) _ | with_reducible refine Below.setCell ?_ (by first | omega | (simp; done) | (simp; omega)) _)) (hb1.mono (by (try simp) <;> omega)))
    | (go_at_call 23; refine (hF _).mono ?_; rintro e w1 ⟨rfl, hb1⟩; obtain ⟨hc1, hf1⟩ := bcell hb1; have hs1 := hb1.size; (try simp at hs1); have l1 : w.heap.size < w1.heap.size := (by omega); have l2 : w.heap.size + 1 < w1.heap.size := (by omega); have B1 : Below w.heap.size w w1 := Below.trans (by repeat (first | with_reducible exact Below.refl _ _ | with_reducible assumption | with_reducible refine Below.drew ?_ | with_reducible refine below_drews ?_ _ | with_reducible refine Below.alloc ?_ (by first | omega | (simp; done) | (simp; omega)) _ | with_reducible refine Below.setCell ?_ (by first | omega | (simp; done) | (simp; omega)) _)) (hb1.mono (by (try simp) <;> omega)))
    | (go_at_call 24; refine (HNEW.out _ (by first | assumption | exact B1)).mono ?_; rintro r w2 ⟨⟨v, s2, rfl⟩, hb2⟩; have B2 : Below w.heap.size w w2 := B1.trans (hb2.mono B1.size); have hs2 := B2.size))
  go_ret
  exact ⟨rfl, (by repeat (first | with_reducible exact Below.refl _ _ | with_reducible assumption | with_reducible refine Below.drew ?_ | with_reducible refine below_drews ?_ _ | with_reducible refine Below.alloc ?_ (by first | omega | (simp; done) | (simp; omega)) _ | with_reducible refine Below.setCell ?_ (by first | omega | (simp; done) | (simp; omega)) _))⟩
set_option maxRecDepth 100000 in
set_option maxHeartbeats 16000000 in
theorem lawAgainYes (m : MapV) (s0 : MapS) (seed : Int) (balls : Nat) (l : List OpV) (A : Option Addr) (n c : Nat) (w : World) (h : MapAt w w.heap.size m s0) (hl : Reads w w.heap.size 9 A n (opsV l)) (hlo : ∀ o ∈ l, OpFine o) (hf : s0.n ≤ 400 ∧ s0.n2 ≤ 400) (hn : n ≤ 60) (hfm : formedB m = true) (hb : balls ≤ 8) :
    Calls Try.prog 11 #[(.agg #[.int .i64 m.W, .int .i64 m.H, .slice s0.A s0.n s0.c, .slice s0.A2 s0.n2 s0.c2]), .agg #[.int .u64 seed, .int .i64 balls], .slice A n c] w fun r w' => r = .returned (.bool true) ∧ Below w.heap.size w w' := by
  have hF := fun W => few13 m s0 W
  have hd : decide ((60 : Int) < (n : Int)) = false := decide_eq_false (by omega)
  simp only [decide_eq_true hf] at hF
  have hNew := fun W (hW : Below w.heap.size w W) => wNewYes m s0 seed balls W ((h.below hW).upto hW.size) hfm hb (by omega) (by omega)
  have hsp : 1 ≤ m.spawns.length ∧ m.spawns.length ≤ 100000 := by
    have h1 := h.len.2
    have h2 := hfm
    unfold formedB sizeOk at h2
    simp only [Bool.and_eq_true, decide_eq_true_eq] at h2
    omega
  have HNEW := Lib.hid hNew
  have HSP := Lib.hid hsp
  have HML := Lib.hid (show m.walls.length ≤ 400 by have := h.len.1; omega)
  have HL := Lib.hid hl
  have HLO := Lib.hid hlo
  have hll : l.length = n := by have := hl.1; rw [opsV_length] at this; omega
  have HLL := Lib.hid hll
  clear h hf hNew hsp hl hlo hll hfm
  go_enter Try.func11, Try.ntmps11
  go_upto_region 7 with (first
    | (go_at_call 22; refine (awake13 _).mono ?_; rintro e w1 ⟨rfl, hb1⟩; obtain ⟨hc1, hf1⟩ := bcell hb1; have hs1 := hb1.size; (try simp at hs1); have l1 : w.heap.size < w1.heap.size := (by omega); have l2 : w.heap.size + 1 < w1.heap.size := (by omega); have B1 : Below w.heap.size w w1 := Below.trans (by repeat (first | with_reducible exact Below.refl _ _ | with_reducible assumption | with_reducible refine Below.drew ?_ | with_reducible refine below_drews ?_ _ | with_reducible refine Below.alloc ?_ (by first | omega | (simp; done) | (simp; omega)) _ | with_reducible refine Below.setCell ?_ (by first | omega | (simp; done) | (simp; omega)) _)) (hb1.mono (by (try simp) <;> omega)))
    | (go_at_call 23; refine (hF _).mono ?_; rintro e w1 ⟨rfl, hb1⟩; obtain ⟨hc1, hf1⟩ := bcell hb1; have hs1 := hb1.size; (try simp at hs1); have l1 : w.heap.size < w1.heap.size := (by omega); have l2 : w.heap.size + 1 < w1.heap.size := (by omega); have B1 : Below w.heap.size w w1 := Below.trans (by repeat (first | with_reducible exact Below.refl _ _ | with_reducible assumption | with_reducible refine Below.drew ?_ | with_reducible refine below_drews ?_ _ | with_reducible refine Below.alloc ?_ (by first | omega | (simp; done) | (simp; omega)) _ | with_reducible refine Below.setCell ?_ (by first | omega | (simp; done) | (simp; omega)) _)) (hb1.mono (by (try simp) <;> omega)))
    | (go_at_call 24; refine (HNEW.out _ (by first | assumption | exact B1)).mono ?_; rintro r w2 ⟨s2, rfl, hat, hb2⟩; have B2 : Below w.heap.size w w2 := B1.trans (hb2.mono B1.size); have hs2 := B2.size; have hsz2 := hb2.size; have x0 : w2.cell? ⟨w.heap.size, 0, none⟩ = some (.int .i64 m.W) := (hb2.cell (p := ⟨w.heap.size, 0, none⟩) (by first | (simp; done) | (simp; omega))).trans (by go_simp); have x1 : w2.cell? ⟨w.heap.size, 1, none⟩ = some (.int .i64 m.H) := (hb2.cell (p := ⟨w.heap.size, 1, none⟩) (by first | (simp; done) | (simp; omega))).trans (by go_simp); have x2 : w2.cell? ⟨w.heap.size, 2, none⟩ = some (.slice s0.A s0.n s0.c) := (hb2.cell (p := ⟨w.heap.size, 2, none⟩) (by first | (simp; done) | (simp; omega))).trans (by go_simp); have x3 : w2.cell? ⟨w.heap.size, 3, none⟩ = some (.slice s0.A2 s0.n2 s0.c2) := (hb2.cell (p := ⟨w.heap.size, 3, none⟩) (by first | (simp; done) | (simp; omega))).trans (by go_simp); have x4 : w2.cell? ⟨w.heap.size + 1, 0, none⟩ = some (.int .u64 seed) := (hb2.cell (p := ⟨w.heap.size + 1, 0, none⟩) (by first | (simp; done) | (simp; omega))).trans (by go_simp); have x5 : w2.cell? ⟨w.heap.size + 1, 1, none⟩ = some (.int .i64 balls) := (hb2.cell (p := ⟨w.heap.size + 1, 1, none⟩) (by first | (simp; done) | (simp; omega))).trans (by go_simp); have lx : w.heap.size + 1 < w2.heap.size := (by omega)))
  have cl : Clear w2.heap.size (w2.alloc (.cells #[.int .i64 (newF m seed balls).map.W, .int .i64 (newF m seed balls).map.H, .slice s2.ms.A s2.ms.n s2.ms.c, .slice s2.ms.A2 s2.ms.n2 s2.ms.c2, .int .u64 (newF m seed balls).st, .int .i64 (newF m seed balls).tick, .slice s2.A s2.n s2.c] 58)) (newF m seed balls) s2 := (Clear.new hat).below ((Below.refl w2.heap.size w2).alloc (Nat.le_refl _) _) (Nat.le_refl _) (Nat.le_refl _)
  have bk : Blk (w2.alloc (.cells #[.int .i64 (newF m seed balls).map.W, .int .i64 (newF m seed balls).map.H, .slice s2.ms.A s2.ms.n s2.ms.c, .slice s2.ms.A2 s2.ms.n2 s2.ms.c2, .int .u64 (newF m seed balls).st, .int .i64 (newF m seed balls).tick, .slice s2.A s2.n s2.c] 58)) w2.heap.size 58 #[.int .i64 (newF m seed balls).map.W, .int .i64 (newF m seed balls).map.H, .slice s2.ms.A s2.ms.n s2.ms.c, .slice s2.ms.A2 s2.ms.n2 s2.ms.c2, .int .u64 (newF m seed balls).st, .int .i64 (newF m seed balls).tick, .slice s2.A s2.n s2.c] := Blk.new _ _ _
  have B3 : Below w.heap.size w (w2.alloc (.cells #[.int .i64 (newF m seed balls).map.W, .int .i64 (newF m seed balls).map.H, .slice s2.ms.A s2.ms.n s2.ms.c, .slice s2.ms.A2 s2.ms.n2 s2.ms.c2, .int .u64 (newF m seed balls).st, .int .i64 (newF m seed balls).tick, .slice s2.A s2.n s2.c] 58)) := B2.alloc hs2 _
  have hv0 : (newF m seed balls).l.length ≤ 8 := by have := ballsF_len m balls seed; show (ballsF m balls seed).2.length ≤ 8; omega
  have hv1 : ∀ e ∈ (newF m seed balls).l, okE e := ballsF_ok m balls seed
  have hvm : (newF m seed balls).map = m := rfl
  have X0 : (w2.alloc (.cells #[.int .i64 (newF m seed balls).map.W, .int .i64 (newF m seed balls).map.H, .slice s2.ms.A s2.ms.n s2.ms.c, .slice s2.ms.A2 s2.ms.n2 s2.ms.c2, .int .u64 (newF m seed balls).st, .int .i64 (newF m seed balls).tick, .slice s2.A s2.n s2.c] 58)).cell? ⟨w.heap.size, 0, none⟩ = some (.int .i64 m.W) := (World.cell?_alloc_lt w2 _ ⟨w.heap.size, 0, none⟩ (show w.heap.size < w2.heap.size by omega)).trans x0
  have X1 : (w2.alloc (.cells #[.int .i64 (newF m seed balls).map.W, .int .i64 (newF m seed balls).map.H, .slice s2.ms.A s2.ms.n s2.ms.c, .slice s2.ms.A2 s2.ms.n2 s2.ms.c2, .int .u64 (newF m seed balls).st, .int .i64 (newF m seed balls).tick, .slice s2.A s2.n s2.c] 58)).cell? ⟨w.heap.size, 1, none⟩ = some (.int .i64 m.H) := (World.cell?_alloc_lt w2 _ ⟨w.heap.size, 1, none⟩ (show w.heap.size < w2.heap.size by omega)).trans x1
  have X2 : (w2.alloc (.cells #[.int .i64 (newF m seed balls).map.W, .int .i64 (newF m seed balls).map.H, .slice s2.ms.A s2.ms.n s2.ms.c, .slice s2.ms.A2 s2.ms.n2 s2.ms.c2, .int .u64 (newF m seed balls).st, .int .i64 (newF m seed balls).tick, .slice s2.A s2.n s2.c] 58)).cell? ⟨w.heap.size, 2, none⟩ = some (.slice s0.A s0.n s0.c) := (World.cell?_alloc_lt w2 _ ⟨w.heap.size, 2, none⟩ (show w.heap.size < w2.heap.size by omega)).trans x2
  have X3 : (w2.alloc (.cells #[.int .i64 (newF m seed balls).map.W, .int .i64 (newF m seed balls).map.H, .slice s2.ms.A s2.ms.n s2.ms.c, .slice s2.ms.A2 s2.ms.n2 s2.ms.c2, .int .u64 (newF m seed balls).st, .int .i64 (newF m seed balls).tick, .slice s2.A s2.n s2.c] 58)).cell? ⟨w.heap.size, 3, none⟩ = some (.slice s0.A2 s0.n2 s0.c2) := (World.cell?_alloc_lt w2 _ ⟨w.heap.size, 3, none⟩ (show w.heap.size < w2.heap.size by omega)).trans x3
  have X4 : (w2.alloc (.cells #[.int .i64 (newF m seed balls).map.W, .int .i64 (newF m seed balls).map.H, .slice s2.ms.A s2.ms.n s2.ms.c, .slice s2.ms.A2 s2.ms.n2 s2.ms.c2, .int .u64 (newF m seed balls).st, .int .i64 (newF m seed balls).tick, .slice s2.A s2.n s2.c] 58)).cell? ⟨w.heap.size + 1, 0, none⟩ = some (.int .u64 seed) := (World.cell?_alloc_lt w2 _ ⟨w.heap.size + 1, 0, none⟩ (show w.heap.size + 1 < w2.heap.size by omega)).trans x4
  have X5 : (w2.alloc (.cells #[.int .i64 (newF m seed balls).map.W, .int .i64 (newF m seed balls).map.H, .slice s2.ms.A s2.ms.n s2.ms.c, .slice s2.ms.A2 s2.ms.n2 s2.ms.c2, .int .u64 (newF m seed balls).st, .int .i64 (newF m seed balls).tick, .slice s2.A s2.n s2.c] 58)).cell? ⟨w.heap.size + 1, 1, none⟩ = some (.int .i64 balls) := (World.cell?_alloc_lt w2 _ ⟨w.heap.size + 1, 1, none⟩ (show w.heap.size + 1 < w2.heap.size by omega)).trans x5
  clear x0 x1 x2 x3 x4 x5
  generalize hv00 : newF m seed balls = v0 at cl bk B3 hv0 hv1 hvm X0 X1 X2 X3 X4 X5 ⊢
  generalize (w2.alloc (.cells #[.int .i64 v0.map.W, .int .i64 v0.map.H, .slice s2.ms.A s2.ms.n s2.ms.c, .slice s2.ms.A2 s2.ms.n2 s2.ms.c2, .int .u64 v0.st, .int .i64 v0.tick, .slice s2.A s2.n s2.c] 58)) = W3 at cl bk B3 X0 X1 X2 X3 X4 X5 ⊢
  have hbw : w.heap.size ≤ w2.heap.size := hs2
  generalize w2.heap.size = b7 at cl bk hbw lx hsz2 ⊢
  have HCL := Lib.hid cl
  have HBK := Lib.hid bk
  have HB3 := Lib.hid B3
  have HV0 := Lib.hid hv0
  have HV1 := Lib.hid hv1
  have HVM := Lib.hid hvm
  have HVN := Lib.hid hv00
  have HX0 := Lib.hid X0
  have HX1 := Lib.hid X1
  have HX2 := Lib.hid X2
  have HX3 := Lib.hid X3
  have HX4 := Lib.hid X4
  have HX5 := Lib.hid X5
  clear hv00 X0 X1 X2 X3 X4 X5
  clear cl bk B3 hv0 hv1 hvm hat hb2 B2 hs2 B1 hb1 hc1 hf1 hs1 l1 l2 hF
  (try clear hb1)
  (try clear hc1)
  (try clear hf1)
  (try clear hs1)
  (try clear B1)
  (try clear l1)
  (try clear l2)
  have l7 := HBK.out.lt
  have y0 : W3.cell? ⟨b7, 0, none⟩ = some (.int .i64 v0.map.W) := HBK.out.cell 0
  have y1 : W3.cell? ⟨b7, 1, none⟩ = some (.int .i64 v0.map.H) := HBK.out.cell 1
  have y2 : W3.cell? ⟨b7, 2, none⟩ = some (.slice s2.ms.A s2.ms.n s2.ms.c) := HBK.out.cell 2
  have y3 : W3.cell? ⟨b7, 3, none⟩ = some (.slice s2.ms.A2 s2.ms.n2 s2.ms.c2) := HBK.out.cell 3
  have y4 : W3.cell? ⟨b7, 4, none⟩ = some (.int .u64 v0.st) := HBK.out.cell 4
  have y5 : W3.cell? ⟨b7, 5, none⟩ = some (.int .i64 v0.tick) := HBK.out.cell 5
  have y6 : W3.cell? ⟨b7, 6, none⟩ = some (.slice s2.A s2.n s2.c) := HBK.out.cell 6
  have hnews : Reads (W3.alloc (.cells #[.int .i64 v0.map.W, .int .i64 v0.map.H, .slice s2.ms.A s2.ms.n s2.ms.c, .slice s2.ms.A2 s2.ms.n2 s2.ms.c2, .int .u64 v0.st, .int .i64 v0.tick, .slice s2.A s2.n s2.c] 58)) (W3.alloc (.cells #[.int .i64 v0.map.W, .int .i64 v0.map.H, .slice s2.ms.A s2.ms.n s2.ms.c, .slice s2.ms.A2 s2.ms.n2 s2.ms.c2, .int .u64 v0.st, .int .i64 v0.tick, .slice s2.A s2.n s2.c] 58)).heap.size 7 (some ⟨W3.heap.size, 0, none⟩) 1 (worldCells v0 s2) := reads_new W3 _ (worldCells v0 s2) 1 7 _ rfl (by simp)
  have hown0 : (W3.alloc (.cells #[.int .i64 v0.map.W, .int .i64 v0.map.H, .slice s2.ms.A s2.ms.n s2.ms.c, .slice s2.ms.A2 s2.ms.n2 s2.ms.c2, .int .u64 v0.st, .int .i64 v0.tick, .slice s2.A s2.n s2.c] 58)).ownsRow b7 58 7 (.slice none 0 0) 0 [] := World.ownsRow_nil _ _ _ _
  go_wp2_with (at_builtin; refine wpList_app _ rfl _ _ 70 rfl eltW b7 _ 0 [] rfl hown0 _ (some ⟨W3.heap.size, 0, none⟩) 1 1 (worldCells v0 s2) rfl hnews (worldCells_one v0 s2) (by omega) (by simp; omega) ?_; intro va w4 hown1 hgrow1 hbo1)
  have hb4 : Below b7 W3 w4 := below_own (Below.alloc (Below.refl b7 W3) (Nat.le_of_lt l7) _) hown0 hgrow1 (by simp; omega) (Nat.le_refl _)
  have hall1 : AllAt b7 w4 l v0 0 [(v0, s2)] := AllAt.grown (w := (W3.alloc (.cells #[.int .i64 v0.map.W, .int .i64 v0.map.H, .slice s2.ms.A s2.ms.n s2.ms.c, .slice s2.ms.A2 s2.ms.n2 s2.ms.c2, .int .u64 v0.st, .int .i64 v0.tick, .slice s2.A s2.n s2.c] 58))) (AllAt.one (HCL.out.below (Below.alloc (Below.refl W3.heap.size W3) (Nat.le_refl _) _) (Nat.le_refl _) (Nat.le_of_lt l7))) hgrow1 (by simp; omega) (fun g hg => by cases hg)
  have hps1 : psV [(v0, s2)] = [] ++ worldCells v0 s2 := by simp [psV]
  have hsz4 : b7 < w4.heap.size := by have := hgrow1.size; simp at this; omega
  rw [← hps1] at hown1
  have HOWN1 := Lib.hid hown1
  have HB4 := Lib.hid hb4
  have HALL1 := Lib.hid hall1
  have HNEW2 := Lib.hid (fun W (hW : Below w.heap.size w W) => (by have := HNEW.out W hW; rw [HVN.out] at this; exact this : Calls Try.prog 24 _ W _))
  clear hown0 hown1 hb4 hall1 hgrow1 hbo1 hnews hps1 y0 y1 y2 y3 y4 y5 y6
  go_loopw [7, 10] (fun va i wr => ∃ (k n1 : Nat) (ps : List (WorldV × WorldS)), n1 = k + 1 ∧ k ≤ n ∧ i = .int .i64 (k : Nat) ∧ wr.ownsRow b7 58 7 va n1 (psV ps) ∧ AllAt b7 wr l v0 k ps ∧ Below b7 W3 wr ∧ b7 < wr.heap.size) (fun _ i _ => n - (intOf i).toNat)
  case atStart => exact ⟨0, 1, [(v0, s2)], rfl, Nat.zero_le _, rfl, HOWN1.out, HALL1.out, HB4.out, hsz4⟩
  case round =>
    obtain ⟨k, n1, ps, hn1, hk, rfl, hown, hall, hbr0, hb7⟩ := hrel
    have hkn1 : k < n1 := by omega
    have HN1 := Lib.hid hn1
    clear hn1
    have hbr : Below w.heap.size w wr := HB3.out.trans (hbr0.mono hbw)
    obtain ⟨Ar, cr, rfl, hrow, hrb⟩ := Row.of_own hown
    obtain ⟨gr, ro, rfl, hgr, hcr⟩ := (hrow.reads (by decide)).flat (by omega) (by decide)
    have m3 : gr < wr.heap.size := hgr
    by_cases hlt : k < n
    · obtain ⟨⟨v, s⟩, hp⟩ : ∃ p, ps[k]? = some p := ⟨_, List.getElem?_eq_getElem (by have := hall.len; have := HN1.out; omega)⟩
      obtain ⟨hv, hcl⟩ := hall.at_ k _ hp
      simp only at hv hcl
      obtain ⟨hvl, hvo, hvm0⟩ := seqV_spec l v0 HV0.out HV1.out k
      rw [← hv] at hvl hvo hvm0
      have hvm : v.map = m := hvm0.trans HVM.out
      clear hvm0
      have hlen := (hcl.at_ (Nat.le_of_lt hb7)).len
      have hn2 : 1 ≤ s.ms.n2 ∧ s.ms.n2 ≤ 100000 := by have := (hcl.at_ (Nat.le_of_lt hb7)).map.len.2; rw [hvm] at this; have := HSP.out; omega
      have hsn : s.n ≤ 999 := by omega
      clear hlen
      have hlk : l.length = n := HLL.out
      obtain ⟨o, ho⟩ : ∃ o, l[k]? = some o := ⟨_, List.getElem?_eq_getElem (by omega)⟩
      have hok0 : OpOk o := (HLO.out o (List.mem_of_getElem? ho)).1
      have HOF := Lib.hid (HLO.out o (List.mem_of_getElem? ho))
      have hgood : Good v s := ⟨by have := hcl.at_ (Nat.le_of_lt hb7) |>.len; omega, hn2.1, hn2.2, hvo⟩
      obtain ⟨gs, os, rfl, hgs, hcs⟩ := HL.out.flat (by omega) (by decide)
      have hsz : w.heap.size ≤ wr.heap.size := hbr.size
      have p0 : wr.drew.cell? ⟨gr, ro + k * 7, none⟩ = some (.int .i64 v.map.W) := by exact (hcr (k * 7 + 0) _ ((psV_at hp 0 (by decide)).trans rfl))
      have p1 : wr.drew.cell? ⟨gr, ro + k * 7 + 1, none⟩ = some (.int .i64 v.map.H) := by rw [Nat.add_assoc]; exact (hcr (k * 7 + 1) _ ((psV_at hp 1 (by decide)).trans rfl))
      have p2 : wr.drew.cell? ⟨gr, ro + k * 7 + 2, none⟩ = some (.slice s.ms.A s.ms.n s.ms.c) := by rw [Nat.add_assoc]; exact (hcr (k * 7 + 2) _ ((psV_at hp 2 (by decide)).trans rfl))
      have p3 : wr.drew.cell? ⟨gr, ro + k * 7 + 3, none⟩ = some (.slice s.ms.A2 s.ms.n2 s.ms.c2) := by rw [Nat.add_assoc]; exact (hcr (k * 7 + 3) _ ((psV_at hp 3 (by decide)).trans rfl))
      have p4 : wr.drew.cell? ⟨gr, ro + k * 7 + 4, none⟩ = some (.int .u64 v.st) := by rw [Nat.add_assoc]; exact (hcr (k * 7 + 4) _ ((psV_at hp 4 (by decide)).trans rfl))
      have p5 : wr.drew.cell? ⟨gr, ro + k * 7 + 5, none⟩ = some (.int .i64 v.tick) := by rw [Nat.add_assoc]; exact (hcr (k * 7 + 5) _ ((psV_at hp 5 (by decide)).trans rfl))
      have p6 : wr.drew.cell? ⟨gr, ro + k * 7 + 6, none⟩ = some (.slice s.A s.n s.c) := by rw [Nat.add_assoc]; exact (hcr (k * 7 + 6) _ ((psV_at hp 6 (by decide)).trans rfl))
      have q0 : wr.drew.cell? ⟨gs, os + k * 9, none⟩ = some (.int .i64 o.kind) := by exact (hbr.cell (p := ⟨gs, os + (k * 9 + 0), none⟩) (by show gs < _; omega)).trans (hcs _ _ ((opsV_at ho 0 (by decide)).trans rfl))
      have q1 : wr.drew.cell? ⟨gs, os + k * 9 + 1, none⟩ = some (.int .i64 o.id) := by rw [Nat.add_assoc]; exact (hbr.cell (p := ⟨gs, os + (k * 9 + 1), none⟩) (by show gs < _; omega)).trans (hcs _ _ ((opsV_at ho 1 (by decide)).trans rfl))
      have q2 : wr.drew.cell? ⟨gs, os + k * 9 + 2, none⟩ = some (.int .i64 o.by_) := by rw [Nat.add_assoc]; exact (hbr.cell (p := ⟨gs, os + (k * 9 + 2), none⟩) (by show gs < _; omega)).trans (hcs _ _ ((opsV_at ho 2 (by decide)).trans rfl))
      have q3 : wr.drew.cell? ⟨gs, os + k * 9 + 3, none⟩ = some (.int .u32 o.c.num) := by rw [Nat.add_assoc]; exact (hbr.cell (p := ⟨gs, os + (k * 9 + 3), none⟩) (by show gs < _; omega)).trans (hcs _ _ ((opsV_at ho 3 (by decide)).trans rfl))
      have q4 : wr.drew.cell? ⟨gs, os + k * 9 + 4, none⟩ = some (.int .i8 o.c.mx) := by rw [Nat.add_assoc]; exact (hbr.cell (p := ⟨gs, os + (k * 9 + 4), none⟩) (by show gs < _; omega)).trans (hcs _ _ ((opsV_at ho 4 (by decide)).trans rfl))
      have q5 : wr.drew.cell? ⟨gs, os + k * 9 + 5, none⟩ = some (.int .i8 o.c.my) := by rw [Nat.add_assoc]; exact (hbr.cell (p := ⟨gs, os + (k * 9 + 5), none⟩) (by show gs < _; omega)).trans (hcs _ _ ((opsV_at ho 5 (by decide)).trans rfl))
      have q6 : wr.drew.cell? ⟨gs, os + k * 9 + 6, none⟩ = some (.bool o.c.fire) := by rw [Nat.add_assoc]; exact (hbr.cell (p := ⟨gs, os + (k * 9 + 6), none⟩) (by show gs < _; omega)).trans (hcs _ _ ((opsV_at ho 6 (by decide)).trans rfl))
      have q7 : wr.drew.cell? ⟨gs, os + k * 9 + 7, none⟩ = some (.int .u32 o.c.view) := by rw [Nat.add_assoc]; exact (hbr.cell (p := ⟨gs, os + (k * 9 + 7), none⟩) (by show gs < _; omega)).trans (hcs _ _ ((opsV_at ho 7 (by decide)).trans rfl))
      have q8 : wr.drew.cell? ⟨gs, os + k * 9 + 8, none⟩ = some (.int .u8 o.c.frac) := by rw [Nat.add_assoc]; exact (hbr.cell (p := ⟨gs, os + (k * 9 + 8), none⟩) (by show gs < _; omega)).trans (hcs _ _ ((opsV_at ho 8 (by decide)).trans rfl))
      have m1 : b7 < wr.heap.size := hb7
      have m2 : gs < wr.heap.size := by omega
      have mne1 : b7 ≠ wr.heap.size := by omega
      have mne2 : gs ≠ wr.heap.size := by omega
      have hidx3 : (k : Int) < (n1 : Int) := by omega
      have mne3 : gr ≠ wr.heap.size := by omega
      have hA := fun W (hW : Below wr.heap.size wr W) => wAct v s o W ((hcl.at_ (Nat.le_of_lt m1)).below hW |>.upto hW.size) hgood hok0
      have hidx : (0 : Int) ≤ (k : Int) := by omega
      have hidx2 : (k : Int) < (n : Int) := by omega
      have HCL0 := Lib.hid hcl
      have HBQW := Lib.hid hbr
      have HVOR := Lib.hid hvo
      have HVLR := Lib.hid hvl
      have HVMR := Lib.hid hvm
      obtain ⟨⟨X5, E5⟩, hX5⟩ : ∃ x, actV v o = x := ⟨_, rfl⟩
      have HV5 := Lib.hid (show X5 = seqV l v0 (k + 1) by rw [seqV_succ ho, ← hv, hX5])
      have HX5 := Lib.hid hX5
      have HMX := Lib.hid (show X5.map = v.map by have := actV_map v o; rw [hX5] at this; exact this)
      have HLX := Lib.hid (show X5.l.length ≤ v.l.length + 1 by have := actV_len v o; rw [hX5] at this; exact this)
      have HOX := Lib.hid (show ∀ e ∈ X5.l, okE e by have := actV_ok v o hvo; rw [hX5] at this; exact this)
      rw [hX5] at hA
      have HA6 := Lib.hid hA
      have HOWN := Lib.hid hown; have HALL := Lib.hid hall; have HBR0 := Lib.hid hbr0; clear hown hall hbr0 hA hcs ho hok0 hgood hX5 hcl hbr hvo hvl hvm hn2 hv hp hcr hrow hrb
      have Ap0 : ∀ ob, (wr.alloc ob).drew.cell? ⟨gr, ro + k * 7, none⟩ = some (.int .i64 v.map.W) := fun ob => (World.cell?_alloc_lt wr ob ⟨gr, ro + k * 7, none⟩ m3).trans p0
      have Ap1 : ∀ ob, (wr.alloc ob).drew.cell? ⟨gr, ro + k * 7 + 1, none⟩ = some (.int .i64 v.map.H) := fun ob => (World.cell?_alloc_lt wr ob ⟨gr, ro + k * 7 + 1, none⟩ m3).trans p1
      have Ap2 : ∀ ob, (wr.alloc ob).drew.cell? ⟨gr, ro + k * 7 + 2, none⟩ = some (.slice s.ms.A s.ms.n s.ms.c) := fun ob => (World.cell?_alloc_lt wr ob ⟨gr, ro + k * 7 + 2, none⟩ m3).trans p2
      have Ap3 : ∀ ob, (wr.alloc ob).drew.cell? ⟨gr, ro + k * 7 + 3, none⟩ = some (.slice s.ms.A2 s.ms.n2 s.ms.c2) := fun ob => (World.cell?_alloc_lt wr ob ⟨gr, ro + k * 7 + 3, none⟩ m3).trans p3
      have Ap4 : ∀ ob, (wr.alloc ob).drew.cell? ⟨gr, ro + k * 7 + 4, none⟩ = some (.int .u64 v.st) := fun ob => (World.cell?_alloc_lt wr ob ⟨gr, ro + k * 7 + 4, none⟩ m3).trans p4
      have Ap5 : ∀ ob, (wr.alloc ob).drew.cell? ⟨gr, ro + k * 7 + 5, none⟩ = some (.int .i64 v.tick) := fun ob => (World.cell?_alloc_lt wr ob ⟨gr, ro + k * 7 + 5, none⟩ m3).trans p5
      have Ap6 : ∀ ob, (wr.alloc ob).drew.cell? ⟨gr, ro + k * 7 + 6, none⟩ = some (.slice s.A s.n s.c) := fun ob => (World.cell?_alloc_lt wr ob ⟨gr, ro + k * 7 + 6, none⟩ m3).trans p6
      have Aq0 : ∀ ob, (wr.alloc ob).drew.cell? ⟨gs, os + k * 9, none⟩ = some (.int .i64 o.kind) := fun ob => (World.cell?_alloc_lt wr ob ⟨gs, os + k * 9, none⟩ m2).trans q0
      have Aq1 : ∀ ob, (wr.alloc ob).drew.cell? ⟨gs, os + k * 9 + 1, none⟩ = some (.int .i64 o.id) := fun ob => (World.cell?_alloc_lt wr ob ⟨gs, os + k * 9 + 1, none⟩ m2).trans q1
      have Aq2 : ∀ ob, (wr.alloc ob).drew.cell? ⟨gs, os + k * 9 + 2, none⟩ = some (.int .i64 o.by_) := fun ob => (World.cell?_alloc_lt wr ob ⟨gs, os + k * 9 + 2, none⟩ m2).trans q2
      have Aq3 : ∀ ob, (wr.alloc ob).drew.cell? ⟨gs, os + k * 9 + 3, none⟩ = some (.int .u32 o.c.num) := fun ob => (World.cell?_alloc_lt wr ob ⟨gs, os + k * 9 + 3, none⟩ m2).trans q3
      have Aq4 : ∀ ob, (wr.alloc ob).drew.cell? ⟨gs, os + k * 9 + 4, none⟩ = some (.int .i8 o.c.mx) := fun ob => (World.cell?_alloc_lt wr ob ⟨gs, os + k * 9 + 4, none⟩ m2).trans q4
      have Aq5 : ∀ ob, (wr.alloc ob).drew.cell? ⟨gs, os + k * 9 + 5, none⟩ = some (.int .i8 o.c.my) := fun ob => (World.cell?_alloc_lt wr ob ⟨gs, os + k * 9 + 5, none⟩ m2).trans q5
      have Aq6 : ∀ ob, (wr.alloc ob).drew.cell? ⟨gs, os + k * 9 + 6, none⟩ = some (.bool o.c.fire) := fun ob => (World.cell?_alloc_lt wr ob ⟨gs, os + k * 9 + 6, none⟩ m2).trans q6
      have Aq7 : ∀ ob, (wr.alloc ob).drew.cell? ⟨gs, os + k * 9 + 7, none⟩ = some (.int .u32 o.c.view) := fun ob => (World.cell?_alloc_lt wr ob ⟨gs, os + k * 9 + 7, none⟩ m2).trans q7
      have Aq8 : ∀ ob, (wr.alloc ob).drew.cell? ⟨gs, os + k * 9 + 8, none⟩ = some (.int .u8 o.c.frac) := fun ob => (World.cell?_alloc_lt wr ob ⟨gs, os + k * 9 + 8, none⟩ m2).trans q8
      go_upto_region 11 with (fail)
      go_cut [11] (fun s15 wx => ∃ (g : Nat) (s5 : WorldS), s15 = .pointer (some ⟨g, 0, none⟩) ∧ Blk wx g 58 #[.int .i64 X5.map.W, .int .i64 X5.map.H, .slice s.ms.A s.ms.n s.ms.c, .slice s.ms.A2 s.ms.n2 s.ms.c2, .int .u64 X5.st, .int .i64 X5.tick, .slice s5.A s5.n s5.c] ∧ s5.ms = s.ms ∧ Clear b7 wx X5 s5 ∧ Below wr.heap.size wr wx ∧ g ≠ b7)
      case first =>
        go_region_held3 (fun w' => w'.cell? ⟨gr, ro + k * 7, none⟩ = some (.int .i64 v.map.W) ∧ w'.cell? ⟨gr, ro + k * 7 + 1, none⟩ = some (.int .i64 v.map.H) ∧ w'.cell? ⟨gr, ro + k * 7 + 2, none⟩ = some (.slice s.ms.A s.ms.n s.ms.c) ∧ w'.cell? ⟨gr, ro + k * 7 + 3, none⟩ = some (.slice s.ms.A2 s.ms.n2 s.ms.c2) ∧ w'.cell? ⟨gr, ro + k * 7 + 4, none⟩ = some (.int .u64 v.st) ∧ w'.cell? ⟨gr, ro + k * 7 + 5, none⟩ = some (.int .i64 v.tick) ∧ w'.cell? ⟨gr, ro + k * 7 + 6, none⟩ = some (.slice s.A s.n s.c) ∧ w'.cell? ⟨gs, os + k * 9, none⟩ = some (.int .i64 o.kind) ∧ w'.cell? ⟨gs, os + k * 9 + 1, none⟩ = some (.int .i64 o.id) ∧ w'.cell? ⟨gs, os + k * 9 + 2, none⟩ = some (.int .i64 o.by_) ∧ w'.cell? ⟨gs, os + k * 9 + 3, none⟩ = some (.int .u32 o.c.num) ∧ w'.cell? ⟨gs, os + k * 9 + 4, none⟩ = some (.int .i8 o.c.mx) ∧ w'.cell? ⟨gs, os + k * 9 + 5, none⟩ = some (.int .i8 o.c.my) ∧ w'.cell? ⟨gs, os + k * 9 + 6, none⟩ = some (.bool o.c.fire) ∧ w'.cell? ⟨gs, os + k * 9 + 7, none⟩ = some (.int .u32 o.c.view) ∧ w'.cell? ⟨gs, os + k * 9 + 8, none⟩ = some (.int .u8 o.c.frac)) (first | (with_reducible exact ⟨p0, p1, p2, p3, p4, p5, p6, q0, q1, q2, q3, q4, q5, q6, q7, q8⟩) | (with_reducible exact ⟨Ap0 _, Ap1 _, Ap2 _, Ap3 _, Ap4 _, Ap5 _, Ap6 _, Aq0 _, Aq1 _, Aq2 _, Aq3 _, Aq4 _, Aq5 _, Aq6 _, Aq7 _, Aq8 _⟩) | (with_reducible exact ⟨Dp0, Dp1, Dp2, Dp3, Dp4, Dp5, Dp6, Dq0, Dq1, Dq2, Dq3, Dq4, Dq5, Dq6, Dq7, Dq8⟩) | (with_reducible exact ⟨Ep0 _, Ep1 _, Ep2 _, Ep3 _, Ep4 _, Ep5 _, Ep6 _, Eq0 _, Eq1 _, Eq2 _, Eq3 _, Eq4 _, Eq5 _, Eq6 _, Eq7 _, Eq8 _⟩) | (with_reducible exact ⟨(cell_far7 mne3 _ _ _ _ _ _ _).trans Dp0, (cell_far7 mne3 _ _ _ _ _ _ _).trans Dp1, (cell_far7 mne3 _ _ _ _ _ _ _).trans Dp2, (cell_far7 mne3 _ _ _ _ _ _ _).trans Dp3, (cell_far7 mne3 _ _ _ _ _ _ _).trans Dp4, (cell_far7 mne3 _ _ _ _ _ _ _).trans Dp5, (cell_far7 mne3 _ _ _ _ _ _ _).trans Dp6, (cell_far7 mne2 _ _ _ _ _ _ _).trans Dq0, (cell_far7 mne2 _ _ _ _ _ _ _).trans Dq1, (cell_far7 mne2 _ _ _ _ _ _ _).trans Dq2, (cell_far7 mne2 _ _ _ _ _ _ _).trans Dq3, (cell_far7 mne2 _ _ _ _ _ _ _).trans Dq4, (cell_far7 mne2 _ _ _ _ _ _ _).trans Dq5, (cell_far7 mne2 _ _ _ _ _ _ _).trans Dq6, (cell_far7 mne2 _ _ _ _ _ _ _).trans Dq7, (cell_far7 mne2 _ _ _ _ _ _ _).trans Dq8⟩) | go_keep) (first | (go_at_call 25; refine (HA6.out _ (by repeat (first | with_reducible exact Below.refl _ _ | with_reducible assumption | with_reducible refine Below.drew ?_ | with_reducible refine below_drews ?_ _ | with_reducible refine Below.alloc ?_ (by first | omega | (simp; done) | (simp; omega)) _ | with_reducible refine Below.setCell ?_ (by first | omega | (simp; done) | (simp; omega)) _))).mono ?_; rintro r w5 ⟨s5, rfl, hat5, hms5, hk5, hb5⟩; have hB5 : Below wr.heap.size wr w5 := Below.trans (by repeat (first | with_reducible exact Below.refl _ _ | with_reducible assumption | with_reducible refine Below.drew ?_ | with_reducible refine below_drews ?_ _ | with_reducible refine Below.alloc ?_ (by first | omega | (simp; done) | (simp; omega)) _ | with_reducible refine Below.setCell ?_ (by first | omega | (simp; done) | (simp; omega)) _)) (hb5.mono (by simp)); have hs5 := hB5.size; have Dp0 := (hB5.cell (p := ⟨gr, ro + k * 7, none⟩) m3).trans p0; have Dp1 := (hB5.cell (p := ⟨gr, ro + k * 7 + 1, none⟩) m3).trans p1; have Dp2 := (hB5.cell (p := ⟨gr, ro + k * 7 + 2, none⟩) m3).trans p2; have Dp3 := (hB5.cell (p := ⟨gr, ro + k * 7 + 3, none⟩) m3).trans p3; have Dp4 := (hB5.cell (p := ⟨gr, ro + k * 7 + 4, none⟩) m3).trans p4; have Dp5 := (hB5.cell (p := ⟨gr, ro + k * 7 + 5, none⟩) m3).trans p5; have Dp6 := (hB5.cell (p := ⟨gr, ro + k * 7 + 6, none⟩) m3).trans p6; have Dq0 := (hB5.cell (p := ⟨gs, os + k * 9, none⟩) m2).trans q0; have Dq1 := (hB5.cell (p := ⟨gs, os + k * 9 + 1, none⟩) m2).trans q1; have Dq2 := (hB5.cell (p := ⟨gs, os + k * 9 + 2, none⟩) m2).trans q2; have Dq3 := (hB5.cell (p := ⟨gs, os + k * 9 + 3, none⟩) m2).trans q3; have Dq4 := (hB5.cell (p := ⟨gs, os + k * 9 + 4, none⟩) m2).trans q4; have Dq5 := (hB5.cell (p := ⟨gs, os + k * 9 + 5, none⟩) m2).trans q5; have Dq6 := (hB5.cell (p := ⟨gs, os + k * 9 + 6, none⟩) m2).trans q6; have Dq7 := (hB5.cell (p := ⟨gs, os + k * 9 + 7, none⟩) m2).trans q7; have Dq8 := (hB5.cell (p := ⟨gs, os + k * 9 + 8, none⟩) m2).trans q8; have Ep0 : ∀ ob, (w5.alloc ob).cell? ⟨gr, ro + k * 7, none⟩ = some (.int .i64 v.map.W) := fun ob => (World.cell?_alloc_lt w5 ob ⟨gr, ro + k * 7, none⟩ (Nat.lt_of_lt_of_le m3 hs5)).trans Dp0; have Ep1 : ∀ ob, (w5.alloc ob).cell? ⟨gr, ro + k * 7 + 1, none⟩ = some (.int .i64 v.map.H) := fun ob => (World.cell?_alloc_lt w5 ob ⟨gr, ro + k * 7 + 1, none⟩ (Nat.lt_of_lt_of_le m3 hs5)).trans Dp1; have Ep2 : ∀ ob, (w5.alloc ob).cell? ⟨gr, ro + k * 7 + 2, none⟩ = some (.slice s.ms.A s.ms.n s.ms.c) := fun ob => (World.cell?_alloc_lt w5 ob ⟨gr, ro + k * 7 + 2, none⟩ (Nat.lt_of_lt_of_le m3 hs5)).trans Dp2; have Ep3 : ∀ ob, (w5.alloc ob).cell? ⟨gr, ro + k * 7 + 3, none⟩ = some (.slice s.ms.A2 s.ms.n2 s.ms.c2) := fun ob => (World.cell?_alloc_lt w5 ob ⟨gr, ro + k * 7 + 3, none⟩ (Nat.lt_of_lt_of_le m3 hs5)).trans Dp3; have Ep4 : ∀ ob, (w5.alloc ob).cell? ⟨gr, ro + k * 7 + 4, none⟩ = some (.int .u64 v.st) := fun ob => (World.cell?_alloc_lt w5 ob ⟨gr, ro + k * 7 + 4, none⟩ (Nat.lt_of_lt_of_le m3 hs5)).trans Dp4; have Ep5 : ∀ ob, (w5.alloc ob).cell? ⟨gr, ro + k * 7 + 5, none⟩ = some (.int .i64 v.tick) := fun ob => (World.cell?_alloc_lt w5 ob ⟨gr, ro + k * 7 + 5, none⟩ (Nat.lt_of_lt_of_le m3 hs5)).trans Dp5; have Ep6 : ∀ ob, (w5.alloc ob).cell? ⟨gr, ro + k * 7 + 6, none⟩ = some (.slice s.A s.n s.c) := fun ob => (World.cell?_alloc_lt w5 ob ⟨gr, ro + k * 7 + 6, none⟩ (Nat.lt_of_lt_of_le m3 hs5)).trans Dp6; have Eq0 : ∀ ob, (w5.alloc ob).cell? ⟨gs, os + k * 9, none⟩ = some (.int .i64 o.kind) := fun ob => (World.cell?_alloc_lt w5 ob ⟨gs, os + k * 9, none⟩ (Nat.lt_of_lt_of_le m2 hs5)).trans Dq0; have Eq1 : ∀ ob, (w5.alloc ob).cell? ⟨gs, os + k * 9 + 1, none⟩ = some (.int .i64 o.id) := fun ob => (World.cell?_alloc_lt w5 ob ⟨gs, os + k * 9 + 1, none⟩ (Nat.lt_of_lt_of_le m2 hs5)).trans Dq1; have Eq2 : ∀ ob, (w5.alloc ob).cell? ⟨gs, os + k * 9 + 2, none⟩ = some (.int .i64 o.by_) := fun ob => (World.cell?_alloc_lt w5 ob ⟨gs, os + k * 9 + 2, none⟩ (Nat.lt_of_lt_of_le m2 hs5)).trans Dq2; have Eq3 : ∀ ob, (w5.alloc ob).cell? ⟨gs, os + k * 9 + 3, none⟩ = some (.int .u32 o.c.num) := fun ob => (World.cell?_alloc_lt w5 ob ⟨gs, os + k * 9 + 3, none⟩ (Nat.lt_of_lt_of_le m2 hs5)).trans Dq3; have Eq4 : ∀ ob, (w5.alloc ob).cell? ⟨gs, os + k * 9 + 4, none⟩ = some (.int .i8 o.c.mx) := fun ob => (World.cell?_alloc_lt w5 ob ⟨gs, os + k * 9 + 4, none⟩ (Nat.lt_of_lt_of_le m2 hs5)).trans Dq4; have Eq5 : ∀ ob, (w5.alloc ob).cell? ⟨gs, os + k * 9 + 5, none⟩ = some (.int .i8 o.c.my) := fun ob => (World.cell?_alloc_lt w5 ob ⟨gs, os + k * 9 + 5, none⟩ (Nat.lt_of_lt_of_le m2 hs5)).trans Dq5; have Eq6 : ∀ ob, (w5.alloc ob).cell? ⟨gs, os + k * 9 + 6, none⟩ = some (.bool o.c.fire) := fun ob => (World.cell?_alloc_lt w5 ob ⟨gs, os + k * 9 + 6, none⟩ (Nat.lt_of_lt_of_le m2 hs5)).trans Dq6; have Eq7 : ∀ ob, (w5.alloc ob).cell? ⟨gs, os + k * 9 + 7, none⟩ = some (.int .u32 o.c.view) := fun ob => (World.cell?_alloc_lt w5 ob ⟨gs, os + k * 9 + 7, none⟩ (Nat.lt_of_lt_of_le m2 hs5)).trans Dq7; have Eq8 : ∀ ob, (w5.alloc ob).cell? ⟨gs, os + k * 9 + 8, none⟩ = some (.int .u8 o.c.frac) := fun ob => (World.cell?_alloc_lt w5 ob ⟨gs, os + k * 9 + 8, none⟩ (Nat.lt_of_lt_of_le m2 hs5)).trans Dq8; (try (have Z5 : Blk w5 wr.heap.size 58 #[.int .i64 0, .int .i64 0, .slice none 0 0, .slice none 0 0, .int .u64 0, .int .i64 0, .slice none 0 0] := (by with_reducible exact Blk.below (show Blk (wr.alloc (.cells #[.int .i64 0, .int .i64 0, .slice none 0 0, .slice none 0 0, .int .u64 0, .int .i64 0, .slice none 0 0] 58)).drew wr.heap.size 58 #[.int .i64 0, .int .i64 0, .slice none 0 0, .slice none 0 0, .int .u64 0, .int .i64 0, .slice none 0 0] from (Blk.new _ _ _).drew) hb5 (by simp)); have Y0 : w5.cell? ⟨wr.heap.size, 0, none⟩ = some (.int .i64 0) := Z5.cell 0; have FZ0 : w5.frozen? ⟨wr.heap.size, 0, none⟩ = false := Z5.frozen 0; have Y1 : w5.cell? ⟨wr.heap.size, 1, none⟩ = some (.int .i64 0) := Z5.cell 1; have FZ1 : w5.frozen? ⟨wr.heap.size, 1, none⟩ = false := Z5.frozen 1; have Y2 : w5.cell? ⟨wr.heap.size, 2, none⟩ = some (.slice none 0 0) := Z5.cell 2; have FZ2 : w5.frozen? ⟨wr.heap.size, 2, none⟩ = false := Z5.frozen 2; have Y3 : w5.cell? ⟨wr.heap.size, 3, none⟩ = some (.slice none 0 0) := Z5.cell 3; have FZ3 : w5.frozen? ⟨wr.heap.size, 3, none⟩ = false := Z5.frozen 3; have Y4 : w5.cell? ⟨wr.heap.size, 4, none⟩ = some (.int .u64 0) := Z5.cell 4; have FZ4 : w5.frozen? ⟨wr.heap.size, 4, none⟩ = false := Z5.frozen 4; have Y5 : w5.cell? ⟨wr.heap.size, 5, none⟩ = some (.int .i64 0) := Z5.cell 5; have FZ5 : w5.frozen? ⟨wr.heap.size, 5, none⟩ = false := Z5.frozen 5; have Y6 : w5.cell? ⟨wr.heap.size, 6, none⟩ = some (.slice none 0 0) := Z5.cell 6; have FZ6 : w5.frozen? ⟨wr.heap.size, 6, none⟩ = false := Z5.frozen 6))))
        all_goals (go_wp2_with fail; go_meet)
        · have e1 : Clear b7 (w5.alloc (.cells #[.int .i64 X5.map.W, .int .i64 X5.map.H, .slice s.ms.A s.ms.n s.ms.c, .slice s.ms.A2 s.ms.n2 s.ms.c2, .int .u64 X5.st, .int .i64 X5.tick, .slice s5.A s5.n s5.c] 58)) X5 s5 := Clear.heldFar (g := w5.heap.size) HCL0.out (by repeat (first | with_reducible exact Below.refl _ _ | with_reducible assumption | with_reducible refine Below.drew ?_ | with_reducible refine below_drews ?_ _ | with_reducible refine Below.alloc ?_ (by first | omega | (simp; done) | (simp; omega)) _ | with_reducible refine Below.setCell ?_ (by first | omega | (simp; done) | (simp; omega)) _)) hat5 hms5 HMX.out hk5 hb5 m1 (fun j hj _ => Below.heap_alloc w5 (.cells #[.int .i64 X5.map.W, .int .i64 X5.map.H, .slice s.ms.A s.ms.n s.ms.c, .slice s.ms.A2 s.ms.n2 s.ms.c2, .int .u64 X5.st, .int .i64 X5.tick, .slice s5.A s5.n s5.c] 58) j hj) hs5 (.inr (Nat.le_refl _))
          exact ⟨w5.heap.size, s5, rfl, Blk.new _ _ _, hms5, e1, hB5.alloc hs5 _, by omega⟩
        · have e0 : Blk (((((((w5.setCell ⟨wr.heap.size, 0, none⟩ (.int .i64 X5.map.W)).setCell ⟨wr.heap.size, 1, none⟩ (.int .i64 X5.map.H)).setCell ⟨wr.heap.size, 2, none⟩ (.slice s.ms.A s.ms.n s.ms.c)).setCell ⟨wr.heap.size, 3, none⟩ (.slice s.ms.A2 s.ms.n2 s.ms.c2)).setCell ⟨wr.heap.size, 4, none⟩ (.int .u64 X5.st)).setCell ⟨wr.heap.size, 5, none⟩ (.int .i64 X5.tick)).setCell ⟨wr.heap.size, 6, none⟩ (.slice s5.A s5.n s5.c)) wr.heap.size 58 #[.int .i64 X5.map.W, .int .i64 X5.map.H, .slice s.ms.A s.ms.n s.ms.c, .slice s.ms.A2 s.ms.n2 s.ms.c2, .int .u64 X5.st, .int .i64 X5.tick, .slice s5.A s5.n s5.c] := (((((((Z5.set_ 0 _).set_ 1 _).set_ 2 _).set_ 3 _).set_ 4 _).set_ 5 _).set_ 6 _)
          have e2 : ∀ jj : Nat, jj ≠ wr.heap.size → (((((((w5.setCell ⟨wr.heap.size, 0, none⟩ (.int .i64 X5.map.W)).setCell ⟨wr.heap.size, 1, none⟩ (.int .i64 X5.map.H)).setCell ⟨wr.heap.size, 2, none⟩ (.slice s.ms.A s.ms.n s.ms.c)).setCell ⟨wr.heap.size, 3, none⟩ (.slice s.ms.A2 s.ms.n2 s.ms.c2)).setCell ⟨wr.heap.size, 4, none⟩ (.int .u64 X5.st)).setCell ⟨wr.heap.size, 5, none⟩ (.int .i64 X5.tick)).setCell ⟨wr.heap.size, 6, none⟩ (.slice s5.A s5.n s5.c)).heap[jj]? = w5.heap[jj]? := fun jj hjj => ((Below.heap_setCell _ _ _ jj hjj).trans ((Below.heap_setCell _ _ _ jj hjj).trans ((Below.heap_setCell _ _ _ jj hjj).trans ((Below.heap_setCell _ _ _ jj hjj).trans ((Below.heap_setCell _ _ _ jj hjj).trans ((Below.heap_setCell _ _ _ jj hjj).trans (Below.heap_setCell _ _ _ jj hjj)))))))
          have e1 : Clear b7 (((((((w5.setCell ⟨wr.heap.size, 0, none⟩ (.int .i64 X5.map.W)).setCell ⟨wr.heap.size, 1, none⟩ (.int .i64 X5.map.H)).setCell ⟨wr.heap.size, 2, none⟩ (.slice s.ms.A s.ms.n s.ms.c)).setCell ⟨wr.heap.size, 3, none⟩ (.slice s.ms.A2 s.ms.n2 s.ms.c2)).setCell ⟨wr.heap.size, 4, none⟩ (.int .u64 X5.st)).setCell ⟨wr.heap.size, 5, none⟩ (.int .i64 X5.tick)).setCell ⟨wr.heap.size, 6, none⟩ (.slice s5.A s5.n s5.c)) X5 s5 := Clear.heldFar (g := wr.heap.size) HCL0.out (by repeat (first | with_reducible exact Below.refl _ _ | with_reducible assumption | with_reducible refine Below.drew ?_ | with_reducible refine below_drews ?_ _ | with_reducible refine Below.alloc ?_ (by first | omega | (simp; done) | (simp; omega)) _ | with_reducible refine Below.setCell ?_ (by first | omega | (simp; done) | (simp; omega)) _)) hat5 hms5 HMX.out hk5 hb5 m1 (fun jj _ hjj => e2 jj hjj) (Nat.le_refl _) (.inl (by simp))
          exact ⟨wr.heap.size, s5, rfl, e0, hms5, e1, (by repeat (first | with_reducible exact Below.refl _ _ | with_reducible assumption | with_reducible refine Below.drew ?_ | with_reducible refine below_drews ?_ _ | with_reducible refine Below.alloc ?_ (by first | omega | (simp; done) | (simp; omega)) _ | with_reducible refine Below.setCell ?_ (by first | omega | (simp; done) | (simp; omega)) _)), by omega⟩
      case rest =>
        obtain ⟨g, s5, rfl, hg5, hms5, hcl5, hB5, hgb⟩ := hcut
        have l6 := hg5.lt
        have y0 : wc.cell? ⟨g, 0, none⟩ = some (.int .i64 X5.map.W) := by first | exact hg5.cell 0 | (rw [hms5]; exact hg5.cell 0)
        have y1 : wc.cell? ⟨g, 1, none⟩ = some (.int .i64 X5.map.H) := by first | exact hg5.cell 1 | (rw [hms5]; exact hg5.cell 1)
        have y2 : wc.cell? ⟨g, 2, none⟩ = some (.slice s5.ms.A s5.ms.n s5.ms.c) := by first | exact hg5.cell 2 | (rw [hms5]; exact hg5.cell 2)
        have y3 : wc.cell? ⟨g, 3, none⟩ = some (.slice s5.ms.A2 s5.ms.n2 s5.ms.c2) := by first | exact hg5.cell 3 | (rw [hms5]; exact hg5.cell 3)
        have y4 : wc.cell? ⟨g, 4, none⟩ = some (.int .u64 X5.st) := by first | exact hg5.cell 4 | (rw [hms5]; exact hg5.cell 4)
        have y5 : wc.cell? ⟨g, 5, none⟩ = some (.int .i64 X5.tick) := by first | exact hg5.cell 5 | (rw [hms5]; exact hg5.cell 5)
        have y6 : wc.cell? ⟨g, 6, none⟩ = some (.slice s5.A s5.n s5.c) := by first | exact hg5.cell 6 | (rw [hms5]; exact hg5.cell 6)
        have hs5 := hB5.size
        have hown5 := own_keep HOWN.out hB5 (Nat.le_refl _)
        have hall5 := HALL.out.below hB5 (Nat.le_refl _) (Nat.le_of_lt m1)
        have hown6 : (wc.alloc (.cells #[.int .i64 X5.map.W, .int .i64 X5.map.H, .slice s5.ms.A s5.ms.n s5.ms.c, .slice s5.ms.A2 s5.ms.n2 s5.ms.c2, .int .u64 X5.st, .int .i64 X5.tick, .slice s5.A s5.n s5.c] 58)).ownsRow b7 58 7 (.slice (some ⟨gr, ro, none⟩) n1 cr) n1 (psV ps) := own_keep hown5 (Below.alloc (Below.refl wc.heap.size wc) (Nat.le_refl _) _) (Nat.le_refl _)
        have hnews : Reads (wc.alloc (.cells #[.int .i64 X5.map.W, .int .i64 X5.map.H, .slice s5.ms.A s5.ms.n s5.ms.c, .slice s5.ms.A2 s5.ms.n2 s5.ms.c2, .int .u64 X5.st, .int .i64 X5.tick, .slice s5.A s5.n s5.c] 58)) (wc.alloc (.cells #[.int .i64 X5.map.W, .int .i64 X5.map.H, .slice s5.ms.A s5.ms.n s5.ms.c, .slice s5.ms.A2 s5.ms.n2 s5.ms.c2, .int .u64 X5.st, .int .i64 X5.tick, .slice s5.A s5.n s5.c] 58)).heap.size 7 (some ⟨wc.heap.size, 0, none⟩) 1 (worldCells X5 s5) := reads_new wc _ (worldCells X5 s5) 1 7 _ rfl (by simp)
        have hcl6 : Clear b7 (wc.alloc (.cells #[.int .i64 X5.map.W, .int .i64 X5.map.H, .slice s5.ms.A s5.ms.n s5.ms.c, .slice s5.ms.A2 s5.ms.n2 s5.ms.c2, .int .u64 X5.st, .int .i64 X5.tick, .slice s5.A s5.n s5.c] 58)) X5 s5 := hcl5.below (Below.alloc (Below.refl wc.heap.size wc) (Nat.le_refl _) _) (Nat.le_refl _) (by omega)
        have hall6 : AllAt b7 (wc.alloc (.cells #[.int .i64 X5.map.W, .int .i64 X5.map.H, .slice s5.ms.A s5.ms.n s5.ms.c, .slice s5.ms.A2 s5.ms.n2 s5.ms.c2, .int .u64 X5.st, .int .i64 X5.tick, .slice s5.A s5.n s5.c] 58)) l v0 k ps := hall5.below (Below.alloc (Below.refl wc.heap.size wc) (Nat.le_refl _) _) (Nat.le_refl _) (by omega)
        have hb6 : Below b7 W3 (wc.alloc (.cells #[.int .i64 X5.map.W, .int .i64 X5.map.H, .slice s5.ms.A s5.ms.n s5.ms.c, .slice s5.ms.A2 s5.ms.n2 s5.ms.c2, .int .u64 X5.st, .int .i64 X5.tick, .slice s5.A s5.n s5.c] 58)) := HBR0.out.trans ((hB5.mono (Nat.le_of_lt m1)).trans (Below.alloc (Below.refl b7 wc) (by omega) _))
        have HCL6 := Lib.hid hcl6
        have HALL6 := Lib.hid hall6
        have HOWN6 := Lib.hid hown6
        have HBB6 := Lib.hid hb6
        have HNW := Lib.hid hnews
        have HMS5 := Lib.hid hms5
        clear hms5 hcl5 hB5 hown5 hall5 hown6 hnews hcl6 hall6 hb6 hg5 p0 p1 p2 p3 p4 p5 p6 q0 q1 q2 q3 q4 q5 q6 q7 q8 Ap0 Ap1 Ap2 Ap3 Ap4 Ap5 Ap6 Aq0 Aq1 Aq2 Aq3 Aq4 Aq5 Aq6 Aq7 Aq8
        go_wp2_with (at_builtin; refine wpList_app _ rfl _ _ 70 rfl eltW b7 (.slice (some ⟨gr, ro, none⟩) n1 cr) n1 (psV ps) rfl HOWN6.out _ (some ⟨wc.heap.size, 0, none⟩) 1 1 (worldCells X5 s5) rfl HNW.out (worldCells_one X5 s5) (by have := HN1.out; omega) (by simp; omega) ?_; intro va' w6 hown7 hgrow7 hbo7)
        have hsz7 := hgrow7.size
        refine ⟨⟨k + 1, n1 + 1, ps ++ [(X5, s5)], by have := HN1.out; omega, by omega, by go_num, ?_, ?_, ?_, ?_⟩, by simp [intOf]; omega⟩
        · rw [show psV (ps ++ [(X5, s5)]) = psV ps ++ worldCells X5 s5 by simp [psV]]; exact hown7
        · exact AllAt.snoc (HALL6.out.grown hgrow7 (by simp; omega) (own_row HOWN6.out)) HV5.out (HCL6.out.grown hgrow7 (by simp; omega) (own_row HOWN6.out))
        · exact below_own HBB6.out HOWN6.out hgrow7 (by simp; omega) (Nat.le_refl _)
        · simp at hsz7; omega
    · have HBR := Lib.hid hbr
      have t0 : wr.cell? ⟨w.heap.size, 0, none⟩ = some (.int .i64 m.W) := (hbr0.cell (p := ⟨w.heap.size, 0, none⟩) (show w.heap.size < b7 by omega)).trans HX0.out
      have t1 : wr.cell? ⟨w.heap.size, 1, none⟩ = some (.int .i64 m.H) := (hbr0.cell (p := ⟨w.heap.size, 1, none⟩) (show w.heap.size < b7 by omega)).trans HX1.out
      have t2 : wr.cell? ⟨w.heap.size, 2, none⟩ = some (.slice s0.A s0.n s0.c) := (hbr0.cell (p := ⟨w.heap.size, 2, none⟩) (show w.heap.size < b7 by omega)).trans HX2.out
      have t3 : wr.cell? ⟨w.heap.size, 3, none⟩ = some (.slice s0.A2 s0.n2 s0.c2) := (hbr0.cell (p := ⟨w.heap.size, 3, none⟩) (show w.heap.size < b7 by omega)).trans HX3.out
      have t4 : wr.cell? ⟨w.heap.size + 1, 0, none⟩ = some (.int .u64 seed) := (hbr0.cell (p := ⟨w.heap.size + 1, 0, none⟩) (show w.heap.size + 1 < b7 by omega)).trans HX4.out
      have t5 : wr.cell? ⟨w.heap.size + 1, 1, none⟩ = some (.int .i64 balls) := (hbr0.cell (p := ⟨w.heap.size + 1, 1, none⟩) (show w.heap.size + 1 < b7 by omega)).trans HX5.out
      obtain rfl : n = k := by omega
      have HALL := Lib.hid hall
      have HROW := Lib.hid (hrow.reads (by decide))
      have HBR0 := Lib.hid hbr0
      have HCR := Lib.hid hcr
      clear hown hall hrow hcr hbr0 hbr hrb
      have lw : w.heap.size + 1 < wr.heap.size := by omega
      go_upto_region 14 with ((go_at_call 24; refine (HNEW2.out _ (by have := HBR.out; exact (by repeat (first | with_reducible exact Below.refl _ _ | with_reducible assumption | with_reducible refine Below.drew ?_ | with_reducible refine below_drews ?_ _ | with_reducible refine Below.alloc ?_ (by first | omega | (simp; done) | (simp; omega)) _ | with_reducible refine Below.setCell ?_ (by first | omega | (simp; done) | (simp; omega)) _)))).mono ?_; rintro r w14 ⟨s14, rfl, hat14, hb14⟩; have hs14 := hb14.size))
      clear t0 t1 t2 t3 t4 t5
      have cl14 : Clear w14.heap.size (w14.alloc (.cells #[.int .i64 v0.map.W, .int .i64 v0.map.H, .slice s14.ms.A s14.ms.n s14.ms.c, .slice s14.ms.A2 s14.ms.n2 s14.ms.c2, .int .u64 v0.st, .int .i64 v0.tick, .slice s14.A s14.n s14.c] 58)) v0 s14 := (Clear.new hat14).below ((Below.refl w14.heap.size w14).alloc (Nat.le_refl _) _) (Nat.le_refl _) (Nat.le_refl _)
      have bk14 : Blk (w14.alloc (.cells #[.int .i64 v0.map.W, .int .i64 v0.map.H, .slice s14.ms.A s14.ms.n s14.ms.c, .slice s14.ms.A2 s14.ms.n2 s14.ms.c2, .int .u64 v0.st, .int .i64 v0.tick, .slice s14.A s14.n s14.c] 58)) w14.heap.size 58 #[.int .i64 v0.map.W, .int .i64 v0.map.H, .slice s14.ms.A s14.ms.n s14.ms.c, .slice s14.ms.A2 s14.ms.n2 s14.ms.c2, .int .u64 v0.st, .int .i64 v0.tick, .slice s14.A s14.n s14.c] := Blk.new _ _ _
      have hb15 : Below wr.heap.size wr (w14.alloc (.cells #[.int .i64 v0.map.W, .int .i64 v0.map.H, .slice s14.ms.A s14.ms.n s14.ms.c, .slice s14.ms.A2 s14.ms.n2 s14.ms.c2, .int .u64 v0.st, .int .i64 v0.tick, .slice s14.A s14.n s14.c] 58)) := hb14.alloc hs14 _
      have hall14 : ∀ (j : Nat) (p : WorldV × WorldS), ps[j]? = some p → p.1 = seqV l v0 j ∧ WorldAt (w14.alloc (.cells #[.int .i64 v0.map.W, .int .i64 v0.map.H, .slice s14.ms.A s14.ms.n s14.ms.c, .slice s14.ms.A2 s14.ms.n2 s14.ms.c2, .int .u64 v0.st, .int .i64 v0.tick, .slice s14.A s14.n s14.c] 58)) w14.heap.size p.1 p.2 := fun j p hp => ⟨(HALL.out.at_ j p hp).1, (((HALL.out.at_ j p hp).2.at_ (Nat.le_of_lt hb7)).below hb15).upto hs14⟩
      have hrow14 : Reads (w14.alloc (.cells #[.int .i64 v0.map.W, .int .i64 v0.map.H, .slice s14.ms.A s14.ms.n s14.ms.c, .slice s14.ms.A2 s14.ms.n2 s14.ms.c2, .int .u64 v0.st, .int .i64 v0.tick, .slice s14.A s14.n s14.c] 58)) w14.heap.size 7 (some ⟨gr, ro, none⟩) n1 (psV ps) := (HROW.out.below hb15).more hs14
      have hB14 : Below w.heap.size w (w14.alloc (.cells #[.int .i64 v0.map.W, .int .i64 v0.map.H, .slice s14.ms.A s14.ms.n s14.ms.c, .slice s14.ms.A2 s14.ms.n2 s14.ms.c2, .int .u64 v0.st, .int .i64 v0.tick, .slice s14.A s14.n s14.c] 58)) := HBR.out.trans (hb15.mono HBR.out.size)
      clear hat14 hb14 hb15
      have hbw2 : w.heap.size ≤ w14.heap.size := by omega
      generalize (w14.alloc (.cells #[.int .i64 v0.map.W, .int .i64 v0.map.H, .slice s14.ms.A s14.ms.n s14.ms.c, .slice s14.ms.A2 s14.ms.n2 s14.ms.c2, .int .u64 v0.st, .int .i64 v0.tick, .slice s14.A s14.n s14.c] 58)) = W14 at cl14 bk14 hall14 hrow14 hB14 ⊢
      generalize w14.heap.size = b13 at cl14 bk14 hall14 hrow14 hbw2 hs14 ⊢
      have HCL14 := Lib.hid cl14
      have HBK14 := Lib.hid bk14
      have HALL14 := Lib.hid hall14
      have HROW14 := Lib.hid hrow14
      have HB14 := Lib.hid hB14
      have HAL := Lib.hid HALL.out.len
      clear cl14 bk14 hall14 hrow14 hB14 HALL HROW HBR0 HCR
      go_wp2_with fail
      obtain ⟨wo, rfl⟩ : ∃ wo : World, wo = wr := ⟨_, rfl⟩
      go_loopw [15] (fun i wr => ∃ (k : Nat) (s : WorldS), k ≤ n + 1 ∧ i = .int .i64 (k : Nat) ∧ Blk wr b13 58 #[.int .i64 (seqV l v0 (min k n)).map.W, .int .i64 (seqV l v0 (min k n)).map.H, .slice s.ms.A s.ms.n s.ms.c, .slice s.ms.A2 s.ms.n2 s.ms.c2, .int .u64 (seqV l v0 (min k n)).st, .int .i64 (seqV l v0 (min k n)).tick, .slice s.A s.n s.c] ∧ Clear b13 wr (seqV l v0 (min k n)) s ∧ Below b13 W14 wr) (fun i _ => n + 1 - (intOf i).toNat)
      case atStart => exact ⟨0, s14, Nat.zero_le _, rfl, by rw [Nat.zero_min]; exact HBK14.out, by rw [Nat.zero_min]; exact HCL14.out, Below.refl _ _⟩
      case round =>
        obtain ⟨k, s, hk, rfl, hbk, hcl, hbr0⟩ := hrel
        have hb13 : b13 < wr.heap.size := hbk.lt
        have hbr : Below w.heap.size w wr := HB14.out.trans (hbr0.mono hbw2)
        by_cases hlt1 : k < n1
        · have hkn : k ≤ n := by have := HN1.out; omega
          have hmin : min k n = k := by omega
          rw [hmin] at hbk hcl
          obtain ⟨⟨v, sp⟩, hp⟩ : ∃ p, ps[k]? = some p := ⟨_, List.getElem?_eq_getElem (by have := HAL.out; have := HN1.out; omega)⟩
          obtain ⟨hv, hat⟩ := HALL14.out k _ hp
          simp only at hv hat
          rw [← hv] at hbk hcl
          obtain ⟨hvl, hvo, hvm0⟩ := seqV_spec l v0 HV0.out HV1.out k
          rw [← hv] at hvl hvo hvm0
          have hvm : v.map = m := hvm0.trans HVM.out
          clear hvm0 hmin
          have hwat : WorldAt wr wr.heap.size v sp := (hat.below hbr0).upto (Nat.le_of_lt hb13)
          have hcat : WorldAt wr wr.heap.size v s := hcl.at_ (Nat.le_of_lt hb13)
          have hmk : m.walls.length ≤ 400 := by have h1 := hwat.map.len.1; rw [hvm] at h1; have := HML.out; omega
          have hn2 : 1 ≤ s.ms.n2 ∧ s.ms.n2 ≤ 100000 := by have := hcat.map.len.2; rw [hvm] at this; have := HSP.out; omega
          have hsn : s.n ≤ 999 := by have := hcat.len; omega
          have hq1 : sp.n ≤ 100000 := by have := hwat.len; omega
          have hq2 : sp.ms.n ≤ 100000 := by have := hwat.map.len.1; rw [hvm] at this; omega
          have hq3 : sp.ms.n2 ≤ 100000 := by have := hwat.map.len.2; rw [hvm] at this; have := HSP.out; omega
          have HSAME := Lib.hid (fun W (hW : Below wr.heap.size wr W) => wSame v sp s W ((hwat.below hW).upto hW.size) ((hcat.below hW).upto hW.size) hq1 hq2 hq3)
          obtain ⟨gr', ro', hgr', hgr2, hcr⟩ := HROW14.out.flat (by omega) (by decide)
          obtain ⟨rfl, rfl⟩ : gr = gr' ∧ ro = ro' := by simpa using hgr'
          clear hgr' hwat hcat hmk hq1 hq2 hq3 hat
          have r0 : wr.cell? ⟨gr, ro + k * 7, none⟩ = some (.int .i64 v.map.W) := by exact (hbr0.cell (p := ⟨gr, ro + (k * 7 + 0), none⟩) (by show gr < _; omega)).trans (hcr _ _ ((psV_at hp 0 (by decide)).trans rfl))
          have r1 : wr.cell? ⟨gr, ro + k * 7 + 1, none⟩ = some (.int .i64 v.map.H) := by rw [Nat.add_assoc]; exact (hbr0.cell (p := ⟨gr, ro + (k * 7 + 1), none⟩) (by show gr < _; omega)).trans (hcr _ _ ((psV_at hp 1 (by decide)).trans rfl))
          have r2 : wr.cell? ⟨gr, ro + k * 7 + 2, none⟩ = some (.slice sp.ms.A sp.ms.n sp.ms.c) := by rw [Nat.add_assoc]; exact (hbr0.cell (p := ⟨gr, ro + (k * 7 + 2), none⟩) (by show gr < _; omega)).trans (hcr _ _ ((psV_at hp 2 (by decide)).trans rfl))
          have r3 : wr.cell? ⟨gr, ro + k * 7 + 3, none⟩ = some (.slice sp.ms.A2 sp.ms.n2 sp.ms.c2) := by rw [Nat.add_assoc]; exact (hbr0.cell (p := ⟨gr, ro + (k * 7 + 3), none⟩) (by show gr < _; omega)).trans (hcr _ _ ((psV_at hp 3 (by decide)).trans rfl))
          have r4 : wr.cell? ⟨gr, ro + k * 7 + 4, none⟩ = some (.int .u64 v.st) := by rw [Nat.add_assoc]; exact (hbr0.cell (p := ⟨gr, ro + (k * 7 + 4), none⟩) (by show gr < _; omega)).trans (hcr _ _ ((psV_at hp 4 (by decide)).trans rfl))
          have r5 : wr.cell? ⟨gr, ro + k * 7 + 5, none⟩ = some (.int .i64 v.tick) := by rw [Nat.add_assoc]; exact (hbr0.cell (p := ⟨gr, ro + (k * 7 + 5), none⟩) (by show gr < _; omega)).trans (hcr _ _ ((psV_at hp 5 (by decide)).trans rfl))
          have r6 : wr.cell? ⟨gr, ro + k * 7 + 6, none⟩ = some (.slice sp.A sp.n sp.c) := by rw [Nat.add_assoc]; exact (hbr0.cell (p := ⟨gr, ro + (k * 7 + 6), none⟩) (by show gr < _; omega)).trans (hcr _ _ ((psV_at hp 6 (by decide)).trans rfl))
          have z0 : wr.cell? ⟨b13, 0, none⟩ = some (.int .i64 v.map.W) := hbk.cell 0
          have z1 : wr.cell? ⟨b13, 1, none⟩ = some (.int .i64 v.map.H) := hbk.cell 1
          have z2 : wr.cell? ⟨b13, 2, none⟩ = some (.slice s.ms.A s.ms.n s.ms.c) := hbk.cell 2
          have z3 : wr.cell? ⟨b13, 3, none⟩ = some (.slice s.ms.A2 s.ms.n2 s.ms.c2) := hbk.cell 3
          have z4 : wr.cell? ⟨b13, 4, none⟩ = some (.int .u64 v.st) := hbk.cell 4
          have z5 : wr.cell? ⟨b13, 5, none⟩ = some (.int .i64 v.tick) := hbk.cell 5
          have z6 : wr.cell? ⟨b13, 6, none⟩ = some (.slice s.A s.n s.c) := hbk.cell 6
          have lgr : gr < wr.heap.size := by omega
          have HBKR := Lib.hid hbk
          have HCLR := Lib.hid hcl
          have HBR0 := Lib.hid hbr0
          have HBRW := Lib.hid hbr
          have HVS := Lib.hid hv
          have HVO2 := Lib.hid hvo
          have HVL2 := Lib.hid hvl
          have HVM2 := Lib.hid hvm
          clear hbk hcl hbr0 hbr hv hvo hvl hvm hcr hp
          by_cases hkn2 : k < n
          · go_upto_region 17 with (fail)
            refine wp_region_kin' wr.heap.size (by kernel_rfl) (by kernel_rfl) (fun kk => ?_)
            repeat (first | go_big_quiet_step ((go_at_call 28; exact kin_of (Nat.le_refl _) (HSAME.out _ (Kin.below _)))) | quiet_step ((go_at_call 28; exact kin_of (Nat.le_refl _) (HSAME.out _ (Kin.below _)))))
            refine wpQuiet_nil ?_
            rintro wk ⟨⟨wk2, hwk⟩, rfl⟩
            have swk := hwk.size
            have hbk : Blk wk b13 58 #[.int .i64 v.map.W, .int .i64 v.map.H, .slice s.ms.A s.ms.n s.ms.c, .slice s.ms.A2 s.ms.n2 s.ms.c2, .int .u64 v.st, .int .i64 v.tick, .slice s.A s.n s.c] := HBKR.out.below hwk hb13
            have hcl : Clear b13 wk v s := HCLR.out.below hwk (Nat.le_refl _) (Nat.le_of_lt hb13)
            have hbr : Below w.heap.size w wk := HBRW.out.trans (hwk.mono (by omega))
            have hbk13 : Below b13 W14 wk := HBR0.out.trans (hwk.mono (Nat.le_of_lt hb13))
            have hvo := HVO2.out
            have hvl := HVL2.out
            have hvm := HVM2.out
            have hlt := hkn2
            have HB13K := Lib.hid hbk13
            clear hwk hbk13 kk r0 z0 r1 z1 r2 z2 r3 z3 r4 z4 r5 z5 r6 z6
            have hlk : l.length = n := HLL.out
            obtain ⟨o, ho⟩ : ∃ o, l[k]? = some o := ⟨_, List.getElem?_eq_getElem (by omega)⟩
            have hok0 : OpOk o := (HLO.out o (List.mem_of_getElem? ho)).1
            have HOF := Lib.hid (HLO.out o (List.mem_of_getElem? ho))
            have hgood : Good v s := ⟨by have := hcl.at_ (Nat.le_of_lt hbk.lt) |>.len; omega, hn2.1, hn2.2, hvo⟩
            obtain ⟨gs, os, rfl, hgs, hcs⟩ := HL.out.flat (by omega) (by decide)
            have hsz : w.heap.size ≤ wk.heap.size := hbr.size
            have p0 : wk.drew.cell? ⟨b13, 0, none⟩ = some (.int .i64 v.map.W) := hbk.cell 0
            have p1 : wk.drew.cell? ⟨b13, 1, none⟩ = some (.int .i64 v.map.H) := hbk.cell 1
            have p2 : wk.drew.cell? ⟨b13, 2, none⟩ = some (.slice s.ms.A s.ms.n s.ms.c) := hbk.cell 2
            have p3 : wk.drew.cell? ⟨b13, 3, none⟩ = some (.slice s.ms.A2 s.ms.n2 s.ms.c2) := hbk.cell 3
            have p4 : wk.drew.cell? ⟨b13, 4, none⟩ = some (.int .u64 v.st) := hbk.cell 4
            have p5 : wk.drew.cell? ⟨b13, 5, none⟩ = some (.int .i64 v.tick) := hbk.cell 5
            have p6 : wk.drew.cell? ⟨b13, 6, none⟩ = some (.slice s.A s.n s.c) := hbk.cell 6
            have q0 : wk.drew.cell? ⟨gs, os + k * 9, none⟩ = some (.int .i64 o.kind) := by exact (hbr.cell (p := ⟨gs, os + (k * 9 + 0), none⟩) (by show gs < _; omega)).trans (hcs _ _ ((opsV_at ho 0 (by decide)).trans rfl))
            have q1 : wk.drew.cell? ⟨gs, os + k * 9 + 1, none⟩ = some (.int .i64 o.id) := by rw [Nat.add_assoc]; exact (hbr.cell (p := ⟨gs, os + (k * 9 + 1), none⟩) (by show gs < _; omega)).trans (hcs _ _ ((opsV_at ho 1 (by decide)).trans rfl))
            have q2 : wk.drew.cell? ⟨gs, os + k * 9 + 2, none⟩ = some (.int .i64 o.by_) := by rw [Nat.add_assoc]; exact (hbr.cell (p := ⟨gs, os + (k * 9 + 2), none⟩) (by show gs < _; omega)).trans (hcs _ _ ((opsV_at ho 2 (by decide)).trans rfl))
            have q3 : wk.drew.cell? ⟨gs, os + k * 9 + 3, none⟩ = some (.int .u32 o.c.num) := by rw [Nat.add_assoc]; exact (hbr.cell (p := ⟨gs, os + (k * 9 + 3), none⟩) (by show gs < _; omega)).trans (hcs _ _ ((opsV_at ho 3 (by decide)).trans rfl))
            have q4 : wk.drew.cell? ⟨gs, os + k * 9 + 4, none⟩ = some (.int .i8 o.c.mx) := by rw [Nat.add_assoc]; exact (hbr.cell (p := ⟨gs, os + (k * 9 + 4), none⟩) (by show gs < _; omega)).trans (hcs _ _ ((opsV_at ho 4 (by decide)).trans rfl))
            have q5 : wk.drew.cell? ⟨gs, os + k * 9 + 5, none⟩ = some (.int .i8 o.c.my) := by rw [Nat.add_assoc]; exact (hbr.cell (p := ⟨gs, os + (k * 9 + 5), none⟩) (by show gs < _; omega)).trans (hcs _ _ ((opsV_at ho 5 (by decide)).trans rfl))
            have q6 : wk.drew.cell? ⟨gs, os + k * 9 + 6, none⟩ = some (.bool o.c.fire) := by rw [Nat.add_assoc]; exact (hbr.cell (p := ⟨gs, os + (k * 9 + 6), none⟩) (by show gs < _; omega)).trans (hcs _ _ ((opsV_at ho 6 (by decide)).trans rfl))
            have q7 : wk.drew.cell? ⟨gs, os + k * 9 + 7, none⟩ = some (.int .u32 o.c.view) := by rw [Nat.add_assoc]; exact (hbr.cell (p := ⟨gs, os + (k * 9 + 7), none⟩) (by show gs < _; omega)).trans (hcs _ _ ((opsV_at ho 7 (by decide)).trans rfl))
            have q8 : wk.drew.cell? ⟨gs, os + k * 9 + 8, none⟩ = some (.int .u8 o.c.frac) := by rw [Nat.add_assoc]; exact (hbr.cell (p := ⟨gs, os + (k * 9 + 8), none⟩) (by show gs < _; omega)).trans (hcs _ _ ((opsV_at ho 8 (by decide)).trans rfl))
            have m1 : b13 < wk.heap.size := hbk.lt
            have m2 : gs < wk.heap.size := by omega
            have mne1 : b13 ≠ wk.heap.size := by omega
            have mne2 : gs ≠ wk.heap.size := by omega
            have hA := fun W (hW : Below wk.heap.size wk W) => wAct v s o W ((hcl.at_ (Nat.le_of_lt m1)).below hW |>.upto hW.size) hgood hok0
            have hidx : (0 : Int) ≤ (k : Int) := by omega
            have hidx2 : (k : Int) < (n : Int) := by omega
            have HCL0 := Lib.hid hcl
            have HBK0 := Lib.hid hbk
            have HBQW := Lib.hid hbr
            have HVOR := Lib.hid hvo
            have HVLR := Lib.hid hvl
            have HVMR := Lib.hid hvm
            obtain ⟨⟨X5, E5⟩, hX5⟩ : ∃ x, actV v o = x := ⟨_, rfl⟩
            have HV5 := Lib.hid (show X5 = seqV l v0 (k + 1) by rw [seqV_succ ho, ← HVS.out, hX5])
            have HX5 := Lib.hid hX5
            have HMX := Lib.hid (show X5.map = v.map by have := actV_map v o; rw [hX5] at this; exact this)
            have HLX := Lib.hid (show X5.l.length ≤ v.l.length + 1 by have := actV_len v o; rw [hX5] at this; exact this)
            have HOX := Lib.hid (show ∀ e ∈ X5.l, okE e by have := actV_ok v o hvo; rw [hX5] at this; exact this)
            rw [hX5] at hA
            have HA6 := Lib.hid hA
            clear hA hcs ho hok0 hgood hX5 hcl hbk hbr hvo hvl hvm hn2
            have Ap0 : ∀ ob, (wk.alloc ob).drew.cell? ⟨b13, 0, none⟩ = some (.int .i64 v.map.W) := fun ob => (World.cell?_alloc_lt wk ob ⟨b13, 0, none⟩ m1).trans p0
            have Ap1 : ∀ ob, (wk.alloc ob).drew.cell? ⟨b13, 1, none⟩ = some (.int .i64 v.map.H) := fun ob => (World.cell?_alloc_lt wk ob ⟨b13, 1, none⟩ m1).trans p1
            have Ap2 : ∀ ob, (wk.alloc ob).drew.cell? ⟨b13, 2, none⟩ = some (.slice s.ms.A s.ms.n s.ms.c) := fun ob => (World.cell?_alloc_lt wk ob ⟨b13, 2, none⟩ m1).trans p2
            have Ap3 : ∀ ob, (wk.alloc ob).drew.cell? ⟨b13, 3, none⟩ = some (.slice s.ms.A2 s.ms.n2 s.ms.c2) := fun ob => (World.cell?_alloc_lt wk ob ⟨b13, 3, none⟩ m1).trans p3
            have Ap4 : ∀ ob, (wk.alloc ob).drew.cell? ⟨b13, 4, none⟩ = some (.int .u64 v.st) := fun ob => (World.cell?_alloc_lt wk ob ⟨b13, 4, none⟩ m1).trans p4
            have Ap5 : ∀ ob, (wk.alloc ob).drew.cell? ⟨b13, 5, none⟩ = some (.int .i64 v.tick) := fun ob => (World.cell?_alloc_lt wk ob ⟨b13, 5, none⟩ m1).trans p5
            have Ap6 : ∀ ob, (wk.alloc ob).drew.cell? ⟨b13, 6, none⟩ = some (.slice s.A s.n s.c) := fun ob => (World.cell?_alloc_lt wk ob ⟨b13, 6, none⟩ m1).trans p6
            have Aq0 : ∀ ob, (wk.alloc ob).drew.cell? ⟨gs, os + k * 9, none⟩ = some (.int .i64 o.kind) := fun ob => (World.cell?_alloc_lt wk ob ⟨gs, os + k * 9, none⟩ m2).trans q0
            have Aq1 : ∀ ob, (wk.alloc ob).drew.cell? ⟨gs, os + k * 9 + 1, none⟩ = some (.int .i64 o.id) := fun ob => (World.cell?_alloc_lt wk ob ⟨gs, os + k * 9 + 1, none⟩ m2).trans q1
            have Aq2 : ∀ ob, (wk.alloc ob).drew.cell? ⟨gs, os + k * 9 + 2, none⟩ = some (.int .i64 o.by_) := fun ob => (World.cell?_alloc_lt wk ob ⟨gs, os + k * 9 + 2, none⟩ m2).trans q2
            have Aq3 : ∀ ob, (wk.alloc ob).drew.cell? ⟨gs, os + k * 9 + 3, none⟩ = some (.int .u32 o.c.num) := fun ob => (World.cell?_alloc_lt wk ob ⟨gs, os + k * 9 + 3, none⟩ m2).trans q3
            have Aq4 : ∀ ob, (wk.alloc ob).drew.cell? ⟨gs, os + k * 9 + 4, none⟩ = some (.int .i8 o.c.mx) := fun ob => (World.cell?_alloc_lt wk ob ⟨gs, os + k * 9 + 4, none⟩ m2).trans q4
            have Aq5 : ∀ ob, (wk.alloc ob).drew.cell? ⟨gs, os + k * 9 + 5, none⟩ = some (.int .i8 o.c.my) := fun ob => (World.cell?_alloc_lt wk ob ⟨gs, os + k * 9 + 5, none⟩ m2).trans q5
            have Aq6 : ∀ ob, (wk.alloc ob).drew.cell? ⟨gs, os + k * 9 + 6, none⟩ = some (.bool o.c.fire) := fun ob => (World.cell?_alloc_lt wk ob ⟨gs, os + k * 9 + 6, none⟩ m2).trans q6
            have Aq7 : ∀ ob, (wk.alloc ob).drew.cell? ⟨gs, os + k * 9 + 7, none⟩ = some (.int .u32 o.c.view) := fun ob => (World.cell?_alloc_lt wk ob ⟨gs, os + k * 9 + 7, none⟩ m2).trans q7
            have Aq8 : ∀ ob, (wk.alloc ob).drew.cell? ⟨gs, os + k * 9 + 8, none⟩ = some (.int .u8 o.c.frac) := fun ob => (World.cell?_alloc_lt wk ob ⟨gs, os + k * 9 + 8, none⟩ m2).trans q8
            go_upto_region 20 with (fail)
            go_cut [16] (fun s15 wx => ∃ (g : Nat) (s5 : WorldS), s15 = .pointer (some ⟨g, 0, none⟩) ∧ Blk wx g 58 #[.int .i64 X5.map.W, .int .i64 X5.map.H, .slice s.ms.A s.ms.n s.ms.c, .slice s.ms.A2 s.ms.n2 s.ms.c2, .int .u64 X5.st, .int .i64 X5.tick, .slice s5.A s5.n s5.c] ∧ s5.ms = s.ms ∧ Clear b13 wx X5 s5 ∧ Below wk.heap.size wk wx ∧ g ≠ b13)
            case first =>
              go_region_held3 (fun w' => w'.cell? ⟨b13, 0, none⟩ = some (.int .i64 v.map.W) ∧ w'.cell? ⟨b13, 1, none⟩ = some (.int .i64 v.map.H) ∧ w'.cell? ⟨b13, 2, none⟩ = some (.slice s.ms.A s.ms.n s.ms.c) ∧ w'.cell? ⟨b13, 3, none⟩ = some (.slice s.ms.A2 s.ms.n2 s.ms.c2) ∧ w'.cell? ⟨b13, 4, none⟩ = some (.int .u64 v.st) ∧ w'.cell? ⟨b13, 5, none⟩ = some (.int .i64 v.tick) ∧ w'.cell? ⟨b13, 6, none⟩ = some (.slice s.A s.n s.c) ∧ w'.cell? ⟨gs, os + k * 9, none⟩ = some (.int .i64 o.kind) ∧ w'.cell? ⟨gs, os + k * 9 + 1, none⟩ = some (.int .i64 o.id) ∧ w'.cell? ⟨gs, os + k * 9 + 2, none⟩ = some (.int .i64 o.by_) ∧ w'.cell? ⟨gs, os + k * 9 + 3, none⟩ = some (.int .u32 o.c.num) ∧ w'.cell? ⟨gs, os + k * 9 + 4, none⟩ = some (.int .i8 o.c.mx) ∧ w'.cell? ⟨gs, os + k * 9 + 5, none⟩ = some (.int .i8 o.c.my) ∧ w'.cell? ⟨gs, os + k * 9 + 6, none⟩ = some (.bool o.c.fire) ∧ w'.cell? ⟨gs, os + k * 9 + 7, none⟩ = some (.int .u32 o.c.view) ∧ w'.cell? ⟨gs, os + k * 9 + 8, none⟩ = some (.int .u8 o.c.frac)) (first | (with_reducible exact ⟨p0, p1, p2, p3, p4, p5, p6, q0, q1, q2, q3, q4, q5, q6, q7, q8⟩) | (with_reducible exact ⟨Ap0 _, Ap1 _, Ap2 _, Ap3 _, Ap4 _, Ap5 _, Ap6 _, Aq0 _, Aq1 _, Aq2 _, Aq3 _, Aq4 _, Aq5 _, Aq6 _, Aq7 _, Aq8 _⟩) | (with_reducible exact ⟨Dp0, Dp1, Dp2, Dp3, Dp4, Dp5, Dp6, Dq0, Dq1, Dq2, Dq3, Dq4, Dq5, Dq6, Dq7, Dq8⟩) | (with_reducible exact ⟨Ep0 _, Ep1 _, Ep2 _, Ep3 _, Ep4 _, Ep5 _, Ep6 _, Eq0 _, Eq1 _, Eq2 _, Eq3 _, Eq4 _, Eq5 _, Eq6 _, Eq7 _, Eq8 _⟩) | (with_reducible exact ⟨(cell_far7 mne1 _ _ _ _ _ _ _).trans Dp0, (cell_far7 mne1 _ _ _ _ _ _ _).trans Dp1, (cell_far7 mne1 _ _ _ _ _ _ _).trans Dp2, (cell_far7 mne1 _ _ _ _ _ _ _).trans Dp3, (cell_far7 mne1 _ _ _ _ _ _ _).trans Dp4, (cell_far7 mne1 _ _ _ _ _ _ _).trans Dp5, (cell_far7 mne1 _ _ _ _ _ _ _).trans Dp6, (cell_far7 mne2 _ _ _ _ _ _ _).trans Dq0, (cell_far7 mne2 _ _ _ _ _ _ _).trans Dq1, (cell_far7 mne2 _ _ _ _ _ _ _).trans Dq2, (cell_far7 mne2 _ _ _ _ _ _ _).trans Dq3, (cell_far7 mne2 _ _ _ _ _ _ _).trans Dq4, (cell_far7 mne2 _ _ _ _ _ _ _).trans Dq5, (cell_far7 mne2 _ _ _ _ _ _ _).trans Dq6, (cell_far7 mne2 _ _ _ _ _ _ _).trans Dq7, (cell_far7 mne2 _ _ _ _ _ _ _).trans Dq8⟩) | go_keep) (first | (go_at_call 25; refine (HA6.out _ (by repeat (first | with_reducible exact Below.refl _ _ | with_reducible assumption | with_reducible refine Below.drew ?_ | with_reducible refine below_drews ?_ _ | with_reducible refine Below.alloc ?_ (by first | omega | (simp; done) | (simp; omega)) _ | with_reducible refine Below.setCell ?_ (by first | omega | (simp; done) | (simp; omega)) _))).mono ?_; rintro r w5 ⟨s5, rfl, hat5, hms5, hk5, hb5⟩; have hB5 : Below wk.heap.size wk w5 := Below.trans (by repeat (first | with_reducible exact Below.refl _ _ | with_reducible assumption | with_reducible refine Below.drew ?_ | with_reducible refine below_drews ?_ _ | with_reducible refine Below.alloc ?_ (by first | omega | (simp; done) | (simp; omega)) _ | with_reducible refine Below.setCell ?_ (by first | omega | (simp; done) | (simp; omega)) _)) (hb5.mono (by simp)); have hs5 := hB5.size; have Dp0 := (hB5.cell (p := ⟨b13, 0, none⟩) m1).trans p0; have Dp1 := (hB5.cell (p := ⟨b13, 1, none⟩) m1).trans p1; have Dp2 := (hB5.cell (p := ⟨b13, 2, none⟩) m1).trans p2; have Dp3 := (hB5.cell (p := ⟨b13, 3, none⟩) m1).trans p3; have Dp4 := (hB5.cell (p := ⟨b13, 4, none⟩) m1).trans p4; have Dp5 := (hB5.cell (p := ⟨b13, 5, none⟩) m1).trans p5; have Dp6 := (hB5.cell (p := ⟨b13, 6, none⟩) m1).trans p6; have Dq0 := (hB5.cell (p := ⟨gs, os + k * 9, none⟩) m2).trans q0; have Dq1 := (hB5.cell (p := ⟨gs, os + k * 9 + 1, none⟩) m2).trans q1; have Dq2 := (hB5.cell (p := ⟨gs, os + k * 9 + 2, none⟩) m2).trans q2; have Dq3 := (hB5.cell (p := ⟨gs, os + k * 9 + 3, none⟩) m2).trans q3; have Dq4 := (hB5.cell (p := ⟨gs, os + k * 9 + 4, none⟩) m2).trans q4; have Dq5 := (hB5.cell (p := ⟨gs, os + k * 9 + 5, none⟩) m2).trans q5; have Dq6 := (hB5.cell (p := ⟨gs, os + k * 9 + 6, none⟩) m2).trans q6; have Dq7 := (hB5.cell (p := ⟨gs, os + k * 9 + 7, none⟩) m2).trans q7; have Dq8 := (hB5.cell (p := ⟨gs, os + k * 9 + 8, none⟩) m2).trans q8; have Ep0 : ∀ ob, (w5.alloc ob).cell? ⟨b13, 0, none⟩ = some (.int .i64 v.map.W) := fun ob => (World.cell?_alloc_lt w5 ob ⟨b13, 0, none⟩ (Nat.lt_of_lt_of_le m1 hs5)).trans Dp0; have Ep1 : ∀ ob, (w5.alloc ob).cell? ⟨b13, 1, none⟩ = some (.int .i64 v.map.H) := fun ob => (World.cell?_alloc_lt w5 ob ⟨b13, 1, none⟩ (Nat.lt_of_lt_of_le m1 hs5)).trans Dp1; have Ep2 : ∀ ob, (w5.alloc ob).cell? ⟨b13, 2, none⟩ = some (.slice s.ms.A s.ms.n s.ms.c) := fun ob => (World.cell?_alloc_lt w5 ob ⟨b13, 2, none⟩ (Nat.lt_of_lt_of_le m1 hs5)).trans Dp2; have Ep3 : ∀ ob, (w5.alloc ob).cell? ⟨b13, 3, none⟩ = some (.slice s.ms.A2 s.ms.n2 s.ms.c2) := fun ob => (World.cell?_alloc_lt w5 ob ⟨b13, 3, none⟩ (Nat.lt_of_lt_of_le m1 hs5)).trans Dp3; have Ep4 : ∀ ob, (w5.alloc ob).cell? ⟨b13, 4, none⟩ = some (.int .u64 v.st) := fun ob => (World.cell?_alloc_lt w5 ob ⟨b13, 4, none⟩ (Nat.lt_of_lt_of_le m1 hs5)).trans Dp4; have Ep5 : ∀ ob, (w5.alloc ob).cell? ⟨b13, 5, none⟩ = some (.int .i64 v.tick) := fun ob => (World.cell?_alloc_lt w5 ob ⟨b13, 5, none⟩ (Nat.lt_of_lt_of_le m1 hs5)).trans Dp5; have Ep6 : ∀ ob, (w5.alloc ob).cell? ⟨b13, 6, none⟩ = some (.slice s.A s.n s.c) := fun ob => (World.cell?_alloc_lt w5 ob ⟨b13, 6, none⟩ (Nat.lt_of_lt_of_le m1 hs5)).trans Dp6; have Eq0 : ∀ ob, (w5.alloc ob).cell? ⟨gs, os + k * 9, none⟩ = some (.int .i64 o.kind) := fun ob => (World.cell?_alloc_lt w5 ob ⟨gs, os + k * 9, none⟩ (Nat.lt_of_lt_of_le m2 hs5)).trans Dq0; have Eq1 : ∀ ob, (w5.alloc ob).cell? ⟨gs, os + k * 9 + 1, none⟩ = some (.int .i64 o.id) := fun ob => (World.cell?_alloc_lt w5 ob ⟨gs, os + k * 9 + 1, none⟩ (Nat.lt_of_lt_of_le m2 hs5)).trans Dq1; have Eq2 : ∀ ob, (w5.alloc ob).cell? ⟨gs, os + k * 9 + 2, none⟩ = some (.int .i64 o.by_) := fun ob => (World.cell?_alloc_lt w5 ob ⟨gs, os + k * 9 + 2, none⟩ (Nat.lt_of_lt_of_le m2 hs5)).trans Dq2; have Eq3 : ∀ ob, (w5.alloc ob).cell? ⟨gs, os + k * 9 + 3, none⟩ = some (.int .u32 o.c.num) := fun ob => (World.cell?_alloc_lt w5 ob ⟨gs, os + k * 9 + 3, none⟩ (Nat.lt_of_lt_of_le m2 hs5)).trans Dq3; have Eq4 : ∀ ob, (w5.alloc ob).cell? ⟨gs, os + k * 9 + 4, none⟩ = some (.int .i8 o.c.mx) := fun ob => (World.cell?_alloc_lt w5 ob ⟨gs, os + k * 9 + 4, none⟩ (Nat.lt_of_lt_of_le m2 hs5)).trans Dq4; have Eq5 : ∀ ob, (w5.alloc ob).cell? ⟨gs, os + k * 9 + 5, none⟩ = some (.int .i8 o.c.my) := fun ob => (World.cell?_alloc_lt w5 ob ⟨gs, os + k * 9 + 5, none⟩ (Nat.lt_of_lt_of_le m2 hs5)).trans Dq5; have Eq6 : ∀ ob, (w5.alloc ob).cell? ⟨gs, os + k * 9 + 6, none⟩ = some (.bool o.c.fire) := fun ob => (World.cell?_alloc_lt w5 ob ⟨gs, os + k * 9 + 6, none⟩ (Nat.lt_of_lt_of_le m2 hs5)).trans Dq6; have Eq7 : ∀ ob, (w5.alloc ob).cell? ⟨gs, os + k * 9 + 7, none⟩ = some (.int .u32 o.c.view) := fun ob => (World.cell?_alloc_lt w5 ob ⟨gs, os + k * 9 + 7, none⟩ (Nat.lt_of_lt_of_le m2 hs5)).trans Dq7; have Eq8 : ∀ ob, (w5.alloc ob).cell? ⟨gs, os + k * 9 + 8, none⟩ = some (.int .u8 o.c.frac) := fun ob => (World.cell?_alloc_lt w5 ob ⟨gs, os + k * 9 + 8, none⟩ (Nat.lt_of_lt_of_le m2 hs5)).trans Dq8; (try (have Z5 : Blk w5 wk.heap.size 58 #[.int .i64 0, .int .i64 0, .slice none 0 0, .slice none 0 0, .int .u64 0, .int .i64 0, .slice none 0 0] := (by with_reducible exact Blk.below (show Blk (wk.alloc (.cells #[.int .i64 0, .int .i64 0, .slice none 0 0, .slice none 0 0, .int .u64 0, .int .i64 0, .slice none 0 0] 58)).drew wk.heap.size 58 #[.int .i64 0, .int .i64 0, .slice none 0 0, .slice none 0 0, .int .u64 0, .int .i64 0, .slice none 0 0] from (Blk.new _ _ _).drew) hb5 (by simp)); have Y0 : w5.cell? ⟨wk.heap.size, 0, none⟩ = some (.int .i64 0) := Z5.cell 0; have FZ0 : w5.frozen? ⟨wk.heap.size, 0, none⟩ = false := Z5.frozen 0; have Y1 : w5.cell? ⟨wk.heap.size, 1, none⟩ = some (.int .i64 0) := Z5.cell 1; have FZ1 : w5.frozen? ⟨wk.heap.size, 1, none⟩ = false := Z5.frozen 1; have Y2 : w5.cell? ⟨wk.heap.size, 2, none⟩ = some (.slice none 0 0) := Z5.cell 2; have FZ2 : w5.frozen? ⟨wk.heap.size, 2, none⟩ = false := Z5.frozen 2; have Y3 : w5.cell? ⟨wk.heap.size, 3, none⟩ = some (.slice none 0 0) := Z5.cell 3; have FZ3 : w5.frozen? ⟨wk.heap.size, 3, none⟩ = false := Z5.frozen 3; have Y4 : w5.cell? ⟨wk.heap.size, 4, none⟩ = some (.int .u64 0) := Z5.cell 4; have FZ4 : w5.frozen? ⟨wk.heap.size, 4, none⟩ = false := Z5.frozen 4; have Y5 : w5.cell? ⟨wk.heap.size, 5, none⟩ = some (.int .i64 0) := Z5.cell 5; have FZ5 : w5.frozen? ⟨wk.heap.size, 5, none⟩ = false := Z5.frozen 5; have Y6 : w5.cell? ⟨wk.heap.size, 6, none⟩ = some (.slice none 0 0) := Z5.cell 6; have FZ6 : w5.frozen? ⟨wk.heap.size, 6, none⟩ = false := Z5.frozen 6))))
              all_goals (go_wp2_with fail; go_meet)
              · have e1 : Clear b13 (w5.alloc (.cells #[.int .i64 X5.map.W, .int .i64 X5.map.H, .slice s.ms.A s.ms.n s.ms.c, .slice s.ms.A2 s.ms.n2 s.ms.c2, .int .u64 X5.st, .int .i64 X5.tick, .slice s5.A s5.n s5.c] 58)) X5 s5 := Clear.heldFar (g := w5.heap.size) HCL0.out (by repeat (first | with_reducible exact Below.refl _ _ | with_reducible assumption | with_reducible refine Below.drew ?_ | with_reducible refine below_drews ?_ _ | with_reducible refine Below.alloc ?_ (by first | omega | (simp; done) | (simp; omega)) _ | with_reducible refine Below.setCell ?_ (by first | omega | (simp; done) | (simp; omega)) _)) hat5 hms5 HMX.out hk5 hb5 m1 (fun j hj _ => Below.heap_alloc w5 (.cells #[.int .i64 X5.map.W, .int .i64 X5.map.H, .slice s.ms.A s.ms.n s.ms.c, .slice s.ms.A2 s.ms.n2 s.ms.c2, .int .u64 X5.st, .int .i64 X5.tick, .slice s5.A s5.n s5.c] 58) j hj) hs5 (.inr (Nat.le_refl _))
                exact ⟨w5.heap.size, s5, rfl, Blk.new _ _ _, hms5, e1, hB5.alloc hs5 _, by omega⟩
              · have e0 : Blk (((((((w5.setCell ⟨wk.heap.size, 0, none⟩ (.int .i64 X5.map.W)).setCell ⟨wk.heap.size, 1, none⟩ (.int .i64 X5.map.H)).setCell ⟨wk.heap.size, 2, none⟩ (.slice s.ms.A s.ms.n s.ms.c)).setCell ⟨wk.heap.size, 3, none⟩ (.slice s.ms.A2 s.ms.n2 s.ms.c2)).setCell ⟨wk.heap.size, 4, none⟩ (.int .u64 X5.st)).setCell ⟨wk.heap.size, 5, none⟩ (.int .i64 X5.tick)).setCell ⟨wk.heap.size, 6, none⟩ (.slice s5.A s5.n s5.c)) wk.heap.size 58 #[.int .i64 X5.map.W, .int .i64 X5.map.H, .slice s.ms.A s.ms.n s.ms.c, .slice s.ms.A2 s.ms.n2 s.ms.c2, .int .u64 X5.st, .int .i64 X5.tick, .slice s5.A s5.n s5.c] := (((((((Z5.set_ 0 _).set_ 1 _).set_ 2 _).set_ 3 _).set_ 4 _).set_ 5 _).set_ 6 _)
                have e2 : ∀ jj : Nat, jj ≠ wk.heap.size → (((((((w5.setCell ⟨wk.heap.size, 0, none⟩ (.int .i64 X5.map.W)).setCell ⟨wk.heap.size, 1, none⟩ (.int .i64 X5.map.H)).setCell ⟨wk.heap.size, 2, none⟩ (.slice s.ms.A s.ms.n s.ms.c)).setCell ⟨wk.heap.size, 3, none⟩ (.slice s.ms.A2 s.ms.n2 s.ms.c2)).setCell ⟨wk.heap.size, 4, none⟩ (.int .u64 X5.st)).setCell ⟨wk.heap.size, 5, none⟩ (.int .i64 X5.tick)).setCell ⟨wk.heap.size, 6, none⟩ (.slice s5.A s5.n s5.c)).heap[jj]? = w5.heap[jj]? := fun jj hjj => ((Below.heap_setCell _ _ _ jj hjj).trans ((Below.heap_setCell _ _ _ jj hjj).trans ((Below.heap_setCell _ _ _ jj hjj).trans ((Below.heap_setCell _ _ _ jj hjj).trans ((Below.heap_setCell _ _ _ jj hjj).trans ((Below.heap_setCell _ _ _ jj hjj).trans (Below.heap_setCell _ _ _ jj hjj)))))))
                have e1 : Clear b13 (((((((w5.setCell ⟨wk.heap.size, 0, none⟩ (.int .i64 X5.map.W)).setCell ⟨wk.heap.size, 1, none⟩ (.int .i64 X5.map.H)).setCell ⟨wk.heap.size, 2, none⟩ (.slice s.ms.A s.ms.n s.ms.c)).setCell ⟨wk.heap.size, 3, none⟩ (.slice s.ms.A2 s.ms.n2 s.ms.c2)).setCell ⟨wk.heap.size, 4, none⟩ (.int .u64 X5.st)).setCell ⟨wk.heap.size, 5, none⟩ (.int .i64 X5.tick)).setCell ⟨wk.heap.size, 6, none⟩ (.slice s5.A s5.n s5.c)) X5 s5 := Clear.heldFar (g := wk.heap.size) HCL0.out (by repeat (first | with_reducible exact Below.refl _ _ | with_reducible assumption | with_reducible refine Below.drew ?_ | with_reducible refine below_drews ?_ _ | with_reducible refine Below.alloc ?_ (by first | omega | (simp; done) | (simp; omega)) _ | with_reducible refine Below.setCell ?_ (by first | omega | (simp; done) | (simp; omega)) _)) hat5 hms5 HMX.out hk5 hb5 m1 (fun jj _ hjj => e2 jj hjj) (Nat.le_refl _) (.inl (by simp))
                exact ⟨wk.heap.size, s5, rfl, e0, hms5, e1, (by repeat (first | with_reducible exact Below.refl _ _ | with_reducible assumption | with_reducible refine Below.drew ?_ | with_reducible refine below_drews ?_ _ | with_reducible refine Below.alloc ?_ (by first | omega | (simp; done) | (simp; omega)) _ | with_reducible refine Below.setCell ?_ (by first | omega | (simp; done) | (simp; omega)) _)), by omega⟩
            case rest =>
              obtain ⟨g, s5, rfl, hg5, hms5, hcl5, hB5, hgb⟩ := hcut
              have hbk5 : Blk wc b13 58 #[.int .i64 v.map.W, .int .i64 v.map.H, .slice s.ms.A s.ms.n s.ms.c, .slice s.ms.A2 s.ms.n2 s.ms.c2, .int .u64 v.st, .int .i64 v.tick, .slice s.A s.n s.c] := HBK0.out.below hB5 m1
              have l5 := hbk5.lt
              have l6 := hg5.lt
              have y0 : wc.cell? ⟨g, 0, none⟩ = some (.int .i64 X5.map.W) := hg5.cell 0
              have y1 : wc.cell? ⟨g, 1, none⟩ = some (.int .i64 X5.map.H) := hg5.cell 1
              have y2 : wc.cell? ⟨g, 2, none⟩ = some (.slice s.ms.A s.ms.n s.ms.c) := hg5.cell 2
              have y3 : wc.cell? ⟨g, 3, none⟩ = some (.slice s.ms.A2 s.ms.n2 s.ms.c2) := hg5.cell 3
              have y4 : wc.cell? ⟨g, 4, none⟩ = some (.int .u64 X5.st) := hg5.cell 4
              have y5 : wc.cell? ⟨g, 5, none⟩ = some (.int .i64 X5.tick) := hg5.cell 5
              have y6 : wc.cell? ⟨g, 6, none⟩ = some (.slice s5.A s5.n s5.c) := hg5.cell 6
              have z0 : wc.cell? ⟨b13, 0, none⟩ = some (.int .i64 v.map.W) := hbk5.cell 0
              have z1 : wc.cell? ⟨b13, 1, none⟩ = some (.int .i64 v.map.H) := hbk5.cell 1
              have z2 : wc.cell? ⟨b13, 2, none⟩ = some (.slice s.ms.A s.ms.n s.ms.c) := hbk5.cell 2
              have z3 : wc.cell? ⟨b13, 3, none⟩ = some (.slice s.ms.A2 s.ms.n2 s.ms.c2) := hbk5.cell 3
              have z4 : wc.cell? ⟨b13, 4, none⟩ = some (.int .u64 v.st) := hbk5.cell 4
              have z5 : wc.cell? ⟨b13, 5, none⟩ = some (.int .i64 v.tick) := hbk5.cell 5
              have z6 : wc.cell? ⟨b13, 6, none⟩ = some (.slice s.A s.n s.c) := hbk5.cell 6
              have fz0 : wc.frozen? ⟨b13, 0, none⟩ = false := hbk5.frozen 0
              have fz1 : wc.frozen? ⟨b13, 1, none⟩ = false := hbk5.frozen 1
              have fz2 : wc.frozen? ⟨b13, 2, none⟩ = false := hbk5.frozen 2
              have fz3 : wc.frozen? ⟨b13, 3, none⟩ = false := hbk5.frozen 3
              have fz4 : wc.frozen? ⟨b13, 4, none⟩ = false := hbk5.frozen 4
              have fz5 : wc.frozen? ⟨b13, 5, none⟩ = false := hbk5.frozen 5
              have fz6 : wc.frozen? ⟨b13, 6, none⟩ = false := hbk5.frozen 6
              have HBK5 := Lib.hid hbk5
              have HCL5 := Lib.hid hcl5
              have HB5 := Lib.hid hB5
              have HMS5 := Lib.hid hms5
              clear hbk5 hcl5 hB5 hms5 hg5 p0 p1 p2 p3 p4 p5 p6 q0 q1 q2 q3 q4 q5 q6 q7 q8 Ap0 Ap1 Ap2 Ap3 Ap4 Ap5 Ap6 Aq0 Aq1 Aq2 Aq3 Aq4 Aq5 Aq6 Aq7 Aq8
              go_wp2_with fail
              have hmin : min (k + 1) n = k + 1 := by omega
              refine ⟨⟨k + 1, s5, by omega, by go_num, ?_, ?_, ?_⟩, by simp [intOf]; omega⟩
              · rw [hmin, ← HV5.out, HMS5.out]
                have e0 : Blk (((((((wc.setCell ⟨b13, 0, none⟩ (.int .i64 X5.map.W)).setCell ⟨b13, 1, none⟩ (.int .i64 X5.map.H)).setCell ⟨b13, 2, none⟩ (.slice s.ms.A s.ms.n s.ms.c)).setCell ⟨b13, 3, none⟩ (.slice s.ms.A2 s.ms.n2 s.ms.c2)).setCell ⟨b13, 4, none⟩ (.int .u64 X5.st)).setCell ⟨b13, 5, none⟩ (.int .i64 X5.tick)).setCell ⟨b13, 6, none⟩ (.slice s5.A s5.n s5.c)) b13 58 #[.int .i64 X5.map.W, .int .i64 X5.map.H, .slice s.ms.A s.ms.n s.ms.c, .slice s.ms.A2 s.ms.n2 s.ms.c2, .int .u64 X5.st, .int .i64 X5.tick, .slice s5.A s5.n s5.c] := (((((((HBK5.out.set_ 0 _).set_ 1 _).set_ 2 _).set_ 3 _).set_ 4 _).set_ 5 _).set_ 6 _)
                exact e0
              · rw [hmin, ← HV5.out]
                have e2 : ∀ jj : Nat, jj ≠ b13 → (((((((wc.setCell ⟨b13, 0, none⟩ (.int .i64 X5.map.W)).setCell ⟨b13, 1, none⟩ (.int .i64 X5.map.H)).setCell ⟨b13, 2, none⟩ (.slice s.ms.A s.ms.n s.ms.c)).setCell ⟨b13, 3, none⟩ (.slice s.ms.A2 s.ms.n2 s.ms.c2)).setCell ⟨b13, 4, none⟩ (.int .u64 X5.st)).setCell ⟨b13, 5, none⟩ (.int .i64 X5.tick)).setCell ⟨b13, 6, none⟩ (.slice s5.A s5.n s5.c)).heap[jj]? = wc.heap[jj]? := fun jj hjj => ((Below.heap_setCell _ _ _ jj hjj).trans ((Below.heap_setCell _ _ _ jj hjj).trans ((Below.heap_setCell _ _ _ jj hjj).trans ((Below.heap_setCell _ _ _ jj hjj).trans ((Below.heap_setCell _ _ _ jj hjj).trans ((Below.heap_setCell _ _ _ jj hjj).trans (Below.heap_setCell _ _ _ jj hjj)))))))
                exact Clear.box HCL5.out e2
              · have hb5 : Below b13 W14 wc := HB13K.out.trans (HB5.out.mono (by omega)); exact (by repeat (first | with_reducible exact Below.refl _ _ | with_reducible assumption | with_reducible refine Below.drew ?_ | with_reducible refine below_drews ?_ _ | with_reducible refine Below.alloc ?_ (by first | omega | (simp; done) | (simp; omega)) _ | with_reducible refine Below.setCell ?_ (by first | omega | (simp; done) | (simp; omega)) _))
          · go_upto_region 17 with (fail)
            refine wp_region_kin' wr.heap.size (by kernel_rfl) (by kernel_rfl) (fun kk => ?_)
            repeat (first | go_big_quiet_step ((go_at_call 28; exact kin_of (Nat.le_refl _) (HSAME.out _ (Kin.below _)))) | quiet_step ((go_at_call 28; exact kin_of (Nat.le_refl _) (HSAME.out _ (Kin.below _)))))
            refine wpQuiet_nil ?_
            rintro wk ⟨⟨wk2, hwk⟩, rfl⟩
            have swk := hwk.size
            have hmin : min (k + 1) n = k := by omega
            go_wp2_with fail
            refine ⟨⟨k + 1, s, by omega, by go_num, ?_, ?_, HBR0.out.trans (hwk.mono (Nat.le_of_lt hb13))⟩, by simp [intOf]; omega⟩
            · rw [hmin, ← HVS.out]; exact HBKR.out.below hwk hb13
            · rw [hmin, ← HVS.out]; exact HCLR.out.below hwk (Nat.le_refl _) (Nat.le_of_lt hb13)
        · go_wp2
          go_ret
          exact ⟨rfl, hbr⟩
theorem lawAgain (m : MapV) (s : MapS) (seed balls : Int) (l : List OpV) (A : Option Addr) (n c : Nat) (w : World) (h : MapAt w w.heap.size m s) (hl : Reads w w.heap.size 9 A n (opsV l)) (hlo : ∀ o ∈ l, OpOk o ∧ -128 ≤ o.c.mx ∧ -128 ≤ o.c.my) :
    Calls Try.prog 11 #[(.agg #[.int .i64 m.W, .int .i64 m.H, .slice s.A s.n s.c, .slice s.A2 s.n2 s.c2]), .agg #[.int .u64 seed, .int .i64 balls], .slice A n c] w fun r w' => r = .returned (.bool true) ∧ Below w.heap.size w w' := by
  by_cases h1 : s.n ≤ 400 ∧ s.n2 ≤ 400
  · by_cases h2 : n ≤ 60
    · cases h3 : newOk m balls with
      | false => exact lawAgainErr m s seed balls A n c w h h1 h2 h3
      | true =>
        unfold newOk at h3
        simp only [Bool.and_eq_true, decide_eq_true_eq] at h3
        obtain ⟨b, rfl⟩ := Int.eq_ofNat_of_zero_le h3.2.1
        exact lawAgainYes m s seed b l A n c w h hl hlo h1 h2 h3.1 (by omega)
    · exact lawAgainNo m s seed balls A n c w h (.inr (by omega))
  · exact lawAgainNo m s seed balls A n c w h (.inl h1)
end Go.Proofs.Ythkgeeonhppliaa
