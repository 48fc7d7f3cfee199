/- The walk of world.New. -/
import Derived.Test.YtojbijapdkohlaaGreatDoorQ10WFind
import Derived.Test.YtojbijapdkohlaaGreatDoorQ03SrvPut
set_option linter.unusedSimpArgs false
set_option linter.unusedVariables false
namespace Go.Proofs.YtojbijapdkohlaaGreatDoor
open Go.RowKit
theorem Row.far {w : World} {e : TypeId} {size n c : Nat} {A : Option Addr} {xs : List Value} (h : Row w e size A n c xs) {p : Addr} (hp : ∀ g, blkOf A = some g → g ≠ p.block) (u : Value) : Row (w.setCell p u) e size A n c xs := h.keep (fun g hg => Below.heap_setCell w p u g (hp g hg))
theorem Row.allocd {w : World} {e : TypeId} {size n c : Nat} {A : Option Addr} {xs : List Value} (h : Row w e size A n c xs) (o : Obj) : Row (w.alloc o) e size A n c xs := h.keep (fun g hg => Below.heap_alloc w o g (h.lt hg))
def ballsF (m : MapV) : Nat → Int → Int × List EntV
  | 0, st => (st, [])
  | k + 1, st =>
    let s := (ballsF m k st).1
    (nextS (nextS (nextS s)), (ballsF m k st).2 ++ [⟨9 + k, 2, spawnP m s, ⟨belowK (nextS s) 32769 - 16384, belowK (nextS (nextS s)) 32769 - 16384⟩, 100, 0⟩])
def newOk (m : MapV) (balls : Int) : Bool := formedB m && decide (0 ≤ balls ∧ balls ≤ 8)
def newF (m : MapV) (seed : Int) (balls : Nat) : WorldV := ⟨m, (ballsF m balls seed).1, 0, (ballsF m balls seed).2⟩
set_option maxRecDepth 100000 in
set_option maxHeartbeats 4000000 in
theorem wNewNo (m : MapV) (s : MapS) (seed balls : Int) (w : World) (h : MapAt w w.heap.size m s) (hno : newOk m balls = false) :
    Calls Tryz.prog 89 #[(.agg #[.int .i64 m.W, .int .i64 m.H, .slice s.A s.n s.c, .slice s.A2 s.n2 s.c2]), .int .u64 seed, .int .i64 balls] w fun r w' => (∃ (v : WorldV) (s' : WorldS), r = .returned (.tuple #[(.agg #[.int .i64 v.map.W, .int .i64 v.map.H, .slice s'.ms.A s'.ms.n s'.ms.c, .slice s'.ms.A2 s'.ms.n2 s'.ms.c2, .int .u64 v.st, .int .i64 v.tick, .slice s'.A s'.n s'.c]), .int .i64 1])) ∧ Below w.heap.size w w' := by
  have hF := fun W (hW : Below w.heap.size w W) => tFormed m s W ((h.below hW).upto hW.size)
  obtain ⟨f, hf⟩ : ∃ f, formedB m = f := ⟨_, rfl⟩
  simp only [hf] at hF
  have hno' : f = false ∨ balls < 0 ∨ 8 < balls := by
    unfold newOk at hno
    rw [hf] at hno
    simp at hno
    cases f
    · exact .inl rfl
    · right; have := hno rfl; omega
  have HN := Lib.hid hno'
  have HF := Lib.hid hF
  clear hno hno' h hf hF
  have hn2 := HN.out
  cases f
  · clear hn2
    go_enter Tryz.func89, Tryz.ntmps89
    go_wp2_with (go_at_call 153; refine (HF.out _ (by repeat (first | with_reducible exact Below.refl _ _ | with_reducible assumption | with_reducible refine Below.drew ?_ | with_reducible refine below_drews ?_ _ | with_reducible refine Below.alloc ?_ (by first | omega | (simp; done) | (simp; omega)) _ | with_reducible refine Below.setCell ?_ (by first | omega | (simp; done) | (simp; omega)) _))).mono ?_; rintro r w1 ⟨rfl, hb1⟩; obtain ⟨hc1, hf1⟩ := bcell hb1; have hs1 := hb1.size; (try simp at hs1); have l1 : w.heap.size < w1.heap.size := (by omega); have l2 : w.heap.size + 1 < w1.heap.size := (by omega); have B1 : Below w.heap.size w w1 := Below.trans (by repeat (first | with_reducible exact Below.refl _ _ | with_reducible assumption | with_reducible refine Below.drew ?_ | with_reducible refine below_drews ?_ _ | with_reducible refine Below.alloc ?_ (by first | omega | (simp; done) | (simp; omega)) _ | with_reducible refine Below.setCell ?_ (by first | omega | (simp; done) | (simp; omega)) _)) (hb1.mono (by simp; omega)))
    refine bodyPost_ret (v := .tuple #[.agg #[.int .i64 0, .int .i64 0, .slice none 0 0, .slice none 0 0, .int .u64 0, .int .i64 0, .slice none 0 0], .int .i64 1]) (by simp [results, Tryz.results89, go_sem, hc1, hf1, l1, l2]) rfl ⟨⟨⟨⟨0, 0, [], []⟩, 0, 0, []⟩, ⟨⟨none, 0, 0, none, 0, 0⟩, none, 0, 0⟩, rfl⟩, (by repeat (first | with_reducible exact Below.refl _ _ | with_reducible assumption | with_reducible refine Below.drew ?_ | with_reducible refine below_drews ?_ _ | with_reducible refine Below.alloc ?_ (by first | omega | (simp; done) | (simp; omega)) _ | with_reducible refine Below.setCell ?_ (by first | omega | (simp; done) | (simp; omega)) _))⟩
  · by_cases hb0 : balls < 0
    · clear hn2
      go_enter Tryz.func89, Tryz.ntmps89
      go_wp2_with (go_at_call 153; refine (HF.out _ (by repeat (first | with_reducible exact Below.refl _ _ | with_reducible assumption | with_reducible refine Below.drew ?_ | with_reducible refine below_drews ?_ _ | with_reducible refine Below.alloc ?_ (by first | omega | (simp; done) | (simp; omega)) _ | with_reducible refine Below.setCell ?_ (by first | omega | (simp; done) | (simp; omega)) _))).mono ?_; rintro r w1 ⟨rfl, hb1⟩; obtain ⟨hc1, hf1⟩ := bcell hb1; have hs1 := hb1.size; (try simp at hs1); have l1 : w.heap.size < w1.heap.size := (by omega); have l2 : w.heap.size + 1 < w1.heap.size := (by omega); have B1 : Below w.heap.size w w1 := Below.trans (by repeat (first | with_reducible exact Below.refl _ _ | with_reducible assumption | with_reducible refine Below.drew ?_ | with_reducible refine below_drews ?_ _ | with_reducible refine Below.alloc ?_ (by first | omega | (simp; done) | (simp; omega)) _ | with_reducible refine Below.setCell ?_ (by first | omega | (simp; done) | (simp; omega)) _)) (hb1.mono (by simp; omega)))
      refine bodyPost_ret (v := .tuple #[.agg #[.int .i64 0, .int .i64 0, .slice none 0 0, .slice none 0 0, .int .u64 0, .int .i64 0, .slice none 0 0], .int .i64 1]) (by simp [results, Tryz.results89, go_sem, hc1, hf1, l1, l2]) rfl ⟨⟨⟨⟨0, 0, [], []⟩, 0, 0, []⟩, ⟨⟨none, 0, 0, none, 0, 0⟩, none, 0, 0⟩, rfl⟩, (by repeat (first | with_reducible exact Below.refl _ _ | with_reducible assumption | with_reducible refine Below.drew ?_ | with_reducible refine below_drews ?_ _ | with_reducible refine Below.alloc ?_ (by first | omega | (simp; done) | (simp; omega)) _ | with_reducible refine Below.setCell ?_ (by first | omega | (simp; done) | (simp; omega)) _))⟩
    · have hb1 : 8 < balls := by rcases hn2 with h | h | h <;> first | cases h | omega
      clear hn2
      go_enter Tryz.func89, Tryz.ntmps89
      go_wp2_with (go_at_call 153; refine (HF.out _ (by repeat (first | with_reducible exact Below.refl _ _ | with_reducible assumption | with_reducible refine Below.drew ?_ | with_reducible refine below_drews ?_ _ | with_reducible refine Below.alloc ?_ (by first | omega | (simp; done) | (simp; omega)) _ | with_reducible refine Below.setCell ?_ (by first | omega | (simp; done) | (simp; omega)) _))).mono ?_; rintro r w1 ⟨rfl, hb1⟩; obtain ⟨hc1, hf1⟩ := bcell hb1; have hs1 := hb1.size; (try simp at hs1); have l1 : w.heap.size < w1.heap.size := (by omega); have l2 : w.heap.size + 1 < w1.heap.size := (by omega); have B1 : Below w.heap.size w w1 := Below.trans (by repeat (first | with_reducible exact Below.refl _ _ | with_reducible assumption | with_reducible refine Below.drew ?_ | with_reducible refine below_drews ?_ _ | with_reducible refine Below.alloc ?_ (by first | omega | (simp; done) | (simp; omega)) _ | with_reducible refine Below.setCell ?_ (by first | omega | (simp; done) | (simp; omega)) _)) (hb1.mono (by simp; omega)))
      refine bodyPost_ret (v := .tuple #[.agg #[.int .i64 0, .int .i64 0, .slice none 0 0, .slice none 0 0, .int .u64 0, .int .i64 0, .slice none 0 0], .int .i64 1]) (by simp [results, Tryz.results89, go_sem, hc1, hf1, l1, l2]) rfl ⟨⟨⟨⟨0, 0, [], []⟩, 0, 0, []⟩, ⟨⟨none, 0, 0, none, 0, 0⟩, none, 0, 0⟩, rfl⟩, (by repeat (first | with_reducible exact Below.refl _ _ | with_reducible assumption | with_reducible refine Below.drew ?_ | with_reducible refine below_drews ?_ _ | with_reducible refine Below.alloc ?_ (by first | omega | (simp; done) | (simp; omega)) _ | with_reducible refine Below.setCell ?_ (by first | omega | (simp; done) | (simp; omega)) _))⟩
set_option maxRecDepth 100000 in
set_option maxHeartbeats 8000000 in
theorem wNewYes (m : MapV) (s : MapS) (seed : Int) (balls : Nat) (w : World) (h : MapAt w w.heap.size m s) (hf : formedB m = true) (hb : balls ≤ 8) (hn1 : s.n ≤ 100000) (hn2 : s.n2 ≤ 100000) :
    Calls Tryz.prog 89 #[(.agg #[.int .i64 m.W, .int .i64 m.H, .slice s.A s.n s.c, .slice s.A2 s.n2 s.c2]), .int .u64 seed, .int .i64 balls] w fun r w' => ∃ s' : WorldS, r = .returned (.tuple #[(.agg #[.int .i64 (newF m seed balls).map.W, .int .i64 (newF m seed balls).map.H, .slice s'.ms.A s'.ms.n s'.ms.c, .slice s'.ms.A2 s'.ms.n2 s'.ms.c2, .int .u64 (newF m seed balls).st, .int .i64 (newF m seed balls).tick, .slice s'.A s'.n s'.c]), .int .i64 0]) ∧ WorldAt w' w'.heap.size (newF m seed balls) s' ∧ Below w.heap.size w w' := by
  have hF := fun W (hW : Below w.heap.size w W) => tFormed m s W ((h.below hW).upto hW.size)
  simp only [hf] at hF
  have hCB := fun W (hW : Below w.heap.size w W) => cloneB m.walls W s.A s.n s.c ((h.walls.below hW).upto hW.size) hn1
  have hCV := fun W (hW : Below w.heap.size w W) => cloneV m.spawns W s.A2 s.n2 s.c2 ((h.spawns.below hW).upto hW.size) hn2
  have HF := Lib.hid hF
  have HCB := Lib.hid hCB
  have HCV := Lib.hid hCV
  have HM := Lib.hid h
  have hsp0 : 1 ≤ s.n2 := by
    have h1 := h.len.2
    unfold formedB sizeOk at hf
    simp only [Bool.and_eq_true, decide_eq_true_eq] at hf
    omega
  have HSP := Lib.hid hsp0
  clear hsp0
  have t1 : decide ((balls : Int) < 0) = false := decide_eq_false (by omega)
  have t2 : decide ((8 : Int) < (balls : Int)) = false := decide_eq_false (by omega)
  clear h hf hF hCB hCV
  go_enter Tryz.func89, Tryz.ntmps89
  go_wp2_with (go_at_call 153; refine (HF.out _ (by repeat (first | with_reducible exact Below.refl _ _ | with_reducible assumption | with_reducible refine Below.drew ?_ | with_reducible refine below_drews ?_ _ | with_reducible refine Below.alloc ?_ (by first | omega | (simp; done) | (simp; omega)) _ | with_reducible refine Below.setCell ?_ (by first | omega | (simp; done) | (simp; omega)) _))).mono ?_; rintro r w1 ⟨rfl, hb1⟩; obtain ⟨hc1, hf1⟩ := bcell hb1; have hs1 := hb1.size; (try simp at hs1); have l1 : w.heap.size < w1.heap.size := (by omega); have l2 : w.heap.size + 1 < w1.heap.size := (by omega); have B1 : Below w.heap.size w w1 := Below.trans (by repeat (first | with_reducible exact Below.refl _ _ | with_reducible assumption | with_reducible refine Below.drew ?_ | with_reducible refine below_drews ?_ _ | with_reducible refine Below.alloc ?_ (by first | omega | (simp; done) | (simp; omega)) _ | with_reducible refine Below.setCell ?_ (by first | omega | (simp; done) | (simp; omega)) _)) (hb1.mono (by simp; omega)))
  have mb : Blk w1 w.heap.size 25 #[.int .i64 m.W, .int .i64 m.H, .slice s.A s.n s.c, .slice s.A2 s.n2 s.c2] := Blk.below ((Blk.new _ _ _).alloc _) hb1 (by simp; omega)
  have mz : Blk w1 (w.heap.size + 1) 46 #[.int .i64 0, .int .i64 0, .slice none 0 0, .slice none 0 0, .int .u64 0, .int .i64 0, .slice none 0 0] := by
    have := Blk.below (Blk.new (w.alloc _) _ _) hb1 (by simp)
    simpa using this
  have m0 : w1.drew.cell? ⟨w.heap.size, 0, none⟩ = some (.int .i64 m.W) := mb.cell 0
  have m1 : w1.drew.cell? ⟨w.heap.size, 1, none⟩ = some (.int .i64 m.H) := mb.cell 1
  have m2 : w1.drew.cell? ⟨w.heap.size, 2, none⟩ = some (.slice s.A s.n s.c) := mb.cell 2
  have m3 : w1.drew.cell? ⟨w.heap.size, 3, none⟩ = some (.slice s.A2 s.n2 s.c2) := mb.cell 3
  have B1d : Below w.heap.size w w1.drew := B1.drew
  have l3 : w.heap.size < w1.drew.heap.size := l1
  have HB := Lib.hid mb
  have HZ := Lib.hid mz
  clear hc1 hf1 mb mz
  have A0 : ∀ o, (w1.alloc o).drew.cell? ⟨w.heap.size, 0, none⟩ = some (.int .i64 m.W) := fun o => (World.cell?_alloc_lt w1 o ⟨w.heap.size, 0, none⟩ l1).trans m0
  have A1 : ∀ o, (w1.alloc o).drew.cell? ⟨w.heap.size, 1, none⟩ = some (.int .i64 m.H) := fun o => (World.cell?_alloc_lt w1 o ⟨w.heap.size, 1, none⟩ l1).trans m1
  have A2 : ∀ o, (w1.alloc o).drew.cell? ⟨w.heap.size, 2, none⟩ = some (.slice s.A s.n s.c) := fun o => (World.cell?_alloc_lt w1 o ⟨w.heap.size, 2, none⟩ l1).trans m2
  have A3 : ∀ o, (w1.alloc o).drew.cell? ⟨w.heap.size, 3, none⟩ = some (.slice s.A2 s.n2 s.c2) := fun o => (World.cell?_alloc_lt w1 o ⟨w.heap.size, 3, none⟩ l1).trans m3
  go_region_held3 (fun w' => w'.cell? ⟨w.heap.size, 0, none⟩ = some (.int .i64 m.W) ∧ w'.cell? ⟨w.heap.size, 1, none⟩ = some (.int .i64 m.H) ∧ w'.cell? ⟨w.heap.size, 2, none⟩ = some (.slice s.A s.n s.c) ∧ w'.cell? ⟨w.heap.size, 3, none⟩ = some (.slice s.A2 s.n2 s.c2)) (first | (with_reducible (first | exact ⟨b0, b1, b2, b3⟩ | exact ⟨v0, v1, v2, v3⟩ | exact ⟨m0, m1, m2, m3⟩ | exact ⟨(World.cell?_alloc_lt _ _ ⟨w.heap.size, 0, none⟩ lb).trans b0, (World.cell?_alloc_lt _ _ ⟨w.heap.size, 1, none⟩ lb).trans b1, (World.cell?_alloc_lt _ _ ⟨w.heap.size, 2, none⟩ lb).trans b2, (World.cell?_alloc_lt _ _ ⟨w.heap.size, 3, none⟩ lb).trans b3⟩ | exact ⟨(World.cell?_alloc_lt _ _ ⟨w.heap.size, 0, none⟩ lv).trans v0, (World.cell?_alloc_lt _ _ ⟨w.heap.size, 1, none⟩ lv).trans v1, (World.cell?_alloc_lt _ _ ⟨w.heap.size, 2, none⟩ lv).trans v2, (World.cell?_alloc_lt _ _ ⟨w.heap.size, 3, none⟩ lv).trans v3⟩ | exact ⟨(World.cell?_alloc_lt _ _ ⟨w.heap.size, 0, none⟩ l3).trans m0, (World.cell?_alloc_lt _ _ ⟨w.heap.size, 1, none⟩ l3).trans m1, (World.cell?_alloc_lt _ _ ⟨w.heap.size, 2, none⟩ l3).trans m2, (World.cell?_alloc_lt _ _ ⟨w.heap.size, 3, none⟩ l3).trans m3⟩ | exact ⟨A0 _, A1 _, A2 _, A3 _⟩ | exact ⟨(World.cell?_setCell_far _ _ _ _ (by first | (simp; done) | (simp; omega))).trans ((World.cell?_setCell_far _ _ _ _ (by first | (simp; done) | (simp; omega))).trans ((World.cell?_setCell_far _ _ _ _ (by first | (simp; done) | (simp; omega))).trans ((World.cell?_setCell_far _ _ _ _ (by first | (simp; done) | (simp; omega))).trans ((World.cell?_setCell_far _ _ _ _ (by first | (simp; done) | (simp; omega))).trans ((World.cell?_setCell_far _ _ _ _ (by first | (simp; done) | (simp; omega))).trans ((World.cell?_setCell_far _ _ _ _ (by first | (simp; done) | (simp; omega))).trans (b0))))))), (World.cell?_setCell_far _ _ _ _ (by first | (simp; done) | (simp; omega))).trans ((World.cell?_setCell_far _ _ _ _ (by first | (simp; done) | (simp; omega))).trans ((World.cell?_setCell_far _ _ _ _ (by first | (simp; done) | (simp; omega))).trans ((World.cell?_setCell_far _ _ _ _ (by first | (simp; done) | (simp; omega))).trans ((World.cell?_setCell_far _ _ _ _ (by first | (simp; done) | (simp; omega))).trans ((World.cell?_setCell_far _ _ _ _ (by first | (simp; done) | (simp; omega))).trans ((World.cell?_setCell_far _ _ _ _ (by first | (simp; done) | (simp; omega))).trans (b1))))))), (World.cell?_setCell_far _ _ _ _ (by first | (simp; done) | (simp; omega))).trans ((World.cell?_setCell_far _ _ _ _ (by first | (simp; done) | (simp; omega))).trans ((World.cell?_setCell_far _ _ _ _ (by first | (simp; done) | (simp; omega))).trans ((World.cell?_setCell_far _ _ _ _ (by first | (simp; done) | (simp; omega))).trans ((World.cell?_setCell_far _ _ _ _ (by first | (simp; done) | (simp; omega))).trans ((World.cell?_setCell_far _ _ _ _ (by first | (simp; done) | (simp; omega))).trans ((World.cell?_setCell_far _ _ _ _ (by first | (simp; done) | (simp; omega))).trans (b2))))))), (World.cell?_setCell_far _ _ _ _ (by first | (simp; done) | (simp; omega))).trans ((World.cell?_setCell_far _ _ _ _ (by first | (simp; done) | (simp; omega))).trans ((World.cell?_setCell_far _ _ _ _ (by first | (simp; done) | (simp; omega))).trans ((World.cell?_setCell_far _ _ _ _ (by first | (simp; done) | (simp; omega))).trans ((World.cell?_setCell_far _ _ _ _ (by first | (simp; done) | (simp; omega))).trans ((World.cell?_setCell_far _ _ _ _ (by first | (simp; done) | (simp; omega))).trans ((World.cell?_setCell_far _ _ _ _ (by first | (simp; done) | (simp; omega))).trans (b3)))))))⟩ | exact ⟨(World.cell?_setCell_far _ _ _ _ (by first | (simp; done) | (simp; omega))).trans ((World.cell?_setCell_far _ _ _ _ (by first | (simp; done) | (simp; omega))).trans ((World.cell?_setCell_far _ _ _ _ (by first | (simp; done) | (simp; omega))).trans ((World.cell?_setCell_far _ _ _ _ (by first | (simp; done) | (simp; omega))).trans ((World.cell?_setCell_far _ _ _ _ (by first | (simp; done) | (simp; omega))).trans ((World.cell?_setCell_far _ _ _ _ (by first | (simp; done) | (simp; omega))).trans ((World.cell?_setCell_far _ _ _ _ (by first | (simp; done) | (simp; omega))).trans (v0))))))), (World.cell?_setCell_far _ _ _ _ (by first | (simp; done) | (simp; omega))).trans ((World.cell?_setCell_far _ _ _ _ (by first | (simp; done) | (simp; omega))).trans ((World.cell?_setCell_far _ _ _ _ (by first | (simp; done) | (simp; omega))).trans ((World.cell?_setCell_far _ _ _ _ (by first | (simp; done) | (simp; omega))).trans ((World.cell?_setCell_far _ _ _ _ (by first | (simp; done) | (simp; omega))).trans ((World.cell?_setCell_far _ _ _ _ (by first | (simp; done) | (simp; omega))).trans ((World.cell?_setCell_far _ _ _ _ (by first | (simp; done) | (simp; omega))).trans (v1))))))), (World.cell?_setCell_far _ _ _ _ (by first | (simp; done) | (simp; omega))).trans ((World.cell?_setCell_far _ _ _ _ (by first | (simp; done) | (simp; omega))).trans ((World.cell?_setCell_far _ _ _ _ (by first | (simp; done) | (simp; omega))).trans ((World.cell?_setCell_far _ _ _ _ (by first | (simp; done) | (simp; omega))).trans ((World.cell?_setCell_far _ _ _ _ (by first | (simp; done) | (simp; omega))).trans ((World.cell?_setCell_far _ _ _ _ (by first | (simp; done) | (simp; omega))).trans ((World.cell?_setCell_far _ _ _ _ (by first | (simp; done) | (simp; omega))).trans (v2))))))), (World.cell?_setCell_far _ _ _ _ (by first | (simp; done) | (simp; omega))).trans ((World.cell?_setCell_far _ _ _ _ (by first | (simp; done) | (simp; omega))).trans ((World.cell?_setCell_far _ _ _ _ (by first | (simp; done) | (simp; omega))).trans ((World.cell?_setCell_far _ _ _ _ (by first | (simp; done) | (simp; omega))).trans ((World.cell?_setCell_far _ _ _ _ (by first | (simp; done) | (simp; omega))).trans ((World.cell?_setCell_far _ _ _ _ (by first | (simp; done) | (simp; omega))).trans ((World.cell?_setCell_far _ _ _ _ (by first | (simp; done) | (simp; omega))).trans (v3)))))))⟩ )) | go_keep)
    (first
      | (go_at_call 128; refine (HCB.out _ (by first | exact Bv | exact (Bv.alloc (by omega) _))).mono ?_; rintro r wb ⟨Ab, cb, rfl, hrb, hfb, hbb⟩; have sb := hbb.size; (try simp at sb); have Bb : Below w.heap.size w wb := (by first | exact Bv.trans (hbb.mono (by omega)) | exact (Bv.alloc (by omega) _).trans (hbb.mono (by simp; omega))); have lb : w.heap.size < wb.heap.size := (by omega); have b0 : wb.cell? ⟨w.heap.size, 0, none⟩ = some (.int .i64 m.W) := (hbb.cell (p := ⟨w.heap.size, 0, none⟩) (by first | exact lv | (simp; omega))).trans (by first | exact v0 | exact (World.cell?_alloc_lt _ _ ⟨w.heap.size, 0, none⟩ lv).trans v0); have b1 : wb.cell? ⟨w.heap.size, 1, none⟩ = some (.int .i64 m.H) := (hbb.cell (p := ⟨w.heap.size, 1, none⟩) (by first | exact lv | (simp; omega))).trans (by first | exact v1 | exact (World.cell?_alloc_lt _ _ ⟨w.heap.size, 1, none⟩ lv).trans v1); have b2 : wb.cell? ⟨w.heap.size, 2, none⟩ = some (.slice s.A s.n s.c) := (hbb.cell (p := ⟨w.heap.size, 2, none⟩) (by first | exact lv | (simp; omega))).trans (by first | exact v2 | exact (World.cell?_alloc_lt _ _ ⟨w.heap.size, 2, none⟩ lv).trans v2); have b3 : wb.cell? ⟨w.heap.size, 3, none⟩ = some (.slice s.A2 s.n2 s.c2) := (hbb.cell (p := ⟨w.heap.size, 3, none⟩) (by first | exact lv | (simp; omega))).trans (by first | exact v3 | exact (World.cell?_alloc_lt _ _ ⟨w.heap.size, 3, none⟩ lv).trans v3); (try (first | (have pq : Blk wb wv.heap.size 46 #[.int .i64 0, .int .i64 0, .slice none 0 0, .slice none 0 0, .int .u64 0, .int .i64 0, .slice none 0 0] := Blk.below (show Blk (wv.alloc (.cells #[.int .i64 0, .int .i64 0, .slice none 0 0, .slice none 0 0, .int .u64 0, .int .i64 0, .slice none 0 0] 46)) wv.heap.size _ _ from Blk.new _ _ _) hbb (by simp); have pc0 : wb.cell? ⟨wv.heap.size, 0, none⟩ = some (.int .i64 0) := pq.cell 0; have pf0 : wb.frozen? ⟨wv.heap.size, 0, none⟩ = false := pq.frozen 0; have pc1 : wb.cell? ⟨wv.heap.size, 1, none⟩ = some (.int .i64 0) := pq.cell 1; have pf1 : wb.frozen? ⟨wv.heap.size, 1, none⟩ = false := pq.frozen 1; have pc2 : wb.cell? ⟨wv.heap.size, 2, none⟩ = some (.slice none 0 0) := pq.cell 2; have pf2 : wb.frozen? ⟨wv.heap.size, 2, none⟩ = false := pq.frozen 2; have pc3 : wb.cell? ⟨wv.heap.size, 3, none⟩ = some (.slice none 0 0) := pq.cell 3; have pf3 : wb.frozen? ⟨wv.heap.size, 3, none⟩ = false := pq.frozen 3; have pc4 : wb.cell? ⟨wv.heap.size, 4, none⟩ = some (.int .u64 0) := pq.cell 4; have pf4 : wb.frozen? ⟨wv.heap.size, 4, none⟩ = false := pq.frozen 4; have pc5 : wb.cell? ⟨wv.heap.size, 5, none⟩ = some (.int .i64 0) := pq.cell 5; have pf5 : wb.frozen? ⟨wv.heap.size, 5, none⟩ = false := pq.frozen 5; have pc6 : wb.cell? ⟨wv.heap.size, 6, none⟩ = some (.slice none 0 0) := pq.cell 6; have pf6 : wb.frozen? ⟨wv.heap.size, 6, none⟩ = false := pq.frozen 6; clear pq) | (have pq : Blk wb w1.heap.size 46 #[.int .i64 0, .int .i64 0, .slice none 0 0, .slice none 0 0, .int .u64 0, .int .i64 0, .slice none 0 0] := Blk.below (Blk.below (show Blk (w1.alloc (.cells #[.int .i64 0, .int .i64 0, .slice none 0 0, .slice none 0 0, .int .u64 0, .int .i64 0, .slice none 0 0] 46)).drew w1.heap.size _ _ from (Blk.new w1 _ _).drew) hbv (by simp)) hbb (by omega); have pc0 : wb.cell? ⟨w1.heap.size, 0, none⟩ = some (.int .i64 0) := pq.cell 0; have pf0 : wb.frozen? ⟨w1.heap.size, 0, none⟩ = false := pq.frozen 0; have pc1 : wb.cell? ⟨w1.heap.size, 1, none⟩ = some (.int .i64 0) := pq.cell 1; have pf1 : wb.frozen? ⟨w1.heap.size, 1, none⟩ = false := pq.frozen 1; have pc2 : wb.cell? ⟨w1.heap.size, 2, none⟩ = some (.slice none 0 0) := pq.cell 2; have pf2 : wb.frozen? ⟨w1.heap.size, 2, none⟩ = false := pq.frozen 2; have pc3 : wb.cell? ⟨w1.heap.size, 3, none⟩ = some (.slice none 0 0) := pq.cell 3; have pf3 : wb.frozen? ⟨w1.heap.size, 3, none⟩ = false := pq.frozen 3; have pc4 : wb.cell? ⟨w1.heap.size, 4, none⟩ = some (.int .u64 0) := pq.cell 4; have pf4 : wb.frozen? ⟨w1.heap.size, 4, none⟩ = false := pq.frozen 4; have pc5 : wb.cell? ⟨w1.heap.size, 5, none⟩ = some (.int .i64 0) := pq.cell 5; have pf5 : wb.frozen? ⟨w1.heap.size, 5, none⟩ = false := pq.frozen 5; have pc6 : wb.cell? ⟨w1.heap.size, 6, none⟩ = some (.slice none 0 0) := pq.cell 6; have pf6 : wb.frozen? ⟨w1.heap.size, 6, none⟩ = false := pq.frozen 6; clear pq))))
      | (go_at_call 128; refine (HCB.out _ (by first | exact B1d | exact (B1d.alloc (by omega) _) | exact (B1.alloc (by omega) _).drew)).mono ?_; rintro r wb ⟨Ab, cb, rfl, hrb, hfb, hbb⟩; have sb := hbb.size; (try simp at sb); have Bb : Below w.heap.size w wb := (by first | exact B1d.trans (hbb.mono (by omega)) | exact (B1d.alloc (by omega) _).trans (hbb.mono (by simp; omega)) | exact (B1.alloc (by omega) _).drew.trans (hbb.mono (by simp; omega))); have lb : w.heap.size < wb.heap.size := (by omega); have b0 : wb.cell? ⟨w.heap.size, 0, none⟩ = some (.int .i64 m.W) := (hbb.cell (p := ⟨w.heap.size, 0, none⟩) (by first | exact l3 | (simp; omega))).trans (by first | exact m0 | exact (World.cell?_alloc_lt _ _ ⟨w.heap.size, 0, none⟩ l3).trans m0 | exact A0 _); have b1 : wb.cell? ⟨w.heap.size, 1, none⟩ = some (.int .i64 m.H) := (hbb.cell (p := ⟨w.heap.size, 1, none⟩) (by first | exact l3 | (simp; omega))).trans (by first | exact m1 | exact (World.cell?_alloc_lt _ _ ⟨w.heap.size, 1, none⟩ l3).trans m1 | exact A1 _); have b2 : wb.cell? ⟨w.heap.size, 2, none⟩ = some (.slice s.A s.n s.c) := (hbb.cell (p := ⟨w.heap.size, 2, none⟩) (by first | exact l3 | (simp; omega))).trans (by first | exact m2 | exact (World.cell?_alloc_lt _ _ ⟨w.heap.size, 2, none⟩ l3).trans m2 | exact A2 _); have b3 : wb.cell? ⟨w.heap.size, 3, none⟩ = some (.slice s.A2 s.n2 s.c2) := (hbb.cell (p := ⟨w.heap.size, 3, none⟩) (by first | exact l3 | (simp; omega))).trans (by first | exact m3 | exact (World.cell?_alloc_lt _ _ ⟨w.heap.size, 3, none⟩ l3).trans m3 | exact A3 _))
      | (go_at_call 129; refine (HCV.out _ (by first | exact Bb | exact (Bb.alloc (by omega) _))).mono ?_; rintro r wv ⟨Av, cv, rfl, hrv, hfv, hbv⟩; have sv := hbv.size; (try simp at sv); have Bv : Below w.heap.size w wv := (by first | exact Bb.trans (hbv.mono (by omega)) | exact (Bb.alloc (by omega) _).trans (hbv.mono (by simp; omega))); have lv : w.heap.size < wv.heap.size := (by omega); have v0 : wv.cell? ⟨w.heap.size, 0, none⟩ = some (.int .i64 m.W) := (hbv.cell (p := ⟨w.heap.size, 0, none⟩) (by first | exact lb | (simp; omega))).trans (by first | exact b0 | exact (World.cell?_alloc_lt _ _ ⟨w.heap.size, 0, none⟩ lb).trans b0); have v1 : wv.cell? ⟨w.heap.size, 1, none⟩ = some (.int .i64 m.H) := (hbv.cell (p := ⟨w.heap.size, 1, none⟩) (by first | exact lb | (simp; omega))).trans (by first | exact b1 | exact (World.cell?_alloc_lt _ _ ⟨w.heap.size, 1, none⟩ lb).trans b1); have v2 : wv.cell? ⟨w.heap.size, 2, none⟩ = some (.slice s.A s.n s.c) := (hbv.cell (p := ⟨w.heap.size, 2, none⟩) (by first | exact lb | (simp; omega))).trans (by first | exact b2 | exact (World.cell?_alloc_lt _ _ ⟨w.heap.size, 2, none⟩ lb).trans b2); have v3 : wv.cell? ⟨w.heap.size, 3, none⟩ = some (.slice s.A2 s.n2 s.c2) := (hbv.cell (p := ⟨w.heap.size, 3, none⟩) (by first | exact lb | (simp; omega))).trans (by first | exact b3 | exact (World.cell?_alloc_lt _ _ ⟨w.heap.size, 3, none⟩ lb).trans b3); (try (first | (have pq : Blk wv wb.heap.size 46 #[.int .i64 0, .int .i64 0, .slice none 0 0, .slice none 0 0, .int .u64 0, .int .i64 0, .slice none 0 0] := Blk.below (show Blk (wb.alloc (.cells #[.int .i64 0, .int .i64 0, .slice none 0 0, .slice none 0 0, .int .u64 0, .int .i64 0, .slice none 0 0] 46)) wb.heap.size _ _ from Blk.new _ _ _) hbv (by simp); have pc0 : wv.cell? ⟨wb.heap.size, 0, none⟩ = some (.int .i64 0) := pq.cell 0; have pf0 : wv.frozen? ⟨wb.heap.size, 0, none⟩ = false := pq.frozen 0; have pc1 : wv.cell? ⟨wb.heap.size, 1, none⟩ = some (.int .i64 0) := pq.cell 1; have pf1 : wv.frozen? ⟨wb.heap.size, 1, none⟩ = false := pq.frozen 1; have pc2 : wv.cell? ⟨wb.heap.size, 2, none⟩ = some (.slice none 0 0) := pq.cell 2; have pf2 : wv.frozen? ⟨wb.heap.size, 2, none⟩ = false := pq.frozen 2; have pc3 : wv.cell? ⟨wb.heap.size, 3, none⟩ = some (.slice none 0 0) := pq.cell 3; have pf3 : wv.frozen? ⟨wb.heap.size, 3, none⟩ = false := pq.frozen 3; have pc4 : wv.cell? ⟨wb.heap.size, 4, none⟩ = some (.int .u64 0) := pq.cell 4; have pf4 : wv.frozen? ⟨wb.heap.size, 4, none⟩ = false := pq.frozen 4; have pc5 : wv.cell? ⟨wb.heap.size, 5, none⟩ = some (.int .i64 0) := pq.cell 5; have pf5 : wv.frozen? ⟨wb.heap.size, 5, none⟩ = false := pq.frozen 5; have pc6 : wv.cell? ⟨wb.heap.size, 6, none⟩ = some (.slice none 0 0) := pq.cell 6; have pf6 : wv.frozen? ⟨wb.heap.size, 6, none⟩ = false := pq.frozen 6; clear pq) | (have pq : Blk wv w1.heap.size 46 #[.int .i64 0, .int .i64 0, .slice none 0 0, .slice none 0 0, .int .u64 0, .int .i64 0, .slice none 0 0] := Blk.below (Blk.below (show Blk (w1.alloc (.cells #[.int .i64 0, .int .i64 0, .slice none 0 0, .slice none 0 0, .int .u64 0, .int .i64 0, .slice none 0 0] 46)).drew w1.heap.size _ _ from (Blk.new w1 _ _).drew) hbb (by simp)) hbv (by omega); have pc0 : wv.cell? ⟨w1.heap.size, 0, none⟩ = some (.int .i64 0) := pq.cell 0; have pf0 : wv.frozen? ⟨w1.heap.size, 0, none⟩ = false := pq.frozen 0; have pc1 : wv.cell? ⟨w1.heap.size, 1, none⟩ = some (.int .i64 0) := pq.cell 1; have pf1 : wv.frozen? ⟨w1.heap.size, 1, none⟩ = false := pq.frozen 1; have pc2 : wv.cell? ⟨w1.heap.size, 2, none⟩ = some (.slice none 0 0) := pq.cell 2; have pf2 : wv.frozen? ⟨w1.heap.size, 2, none⟩ = false := pq.frozen 2; have pc3 : wv.cell? ⟨w1.heap.size, 3, none⟩ = some (.slice none 0 0) := pq.cell 3; have pf3 : wv.frozen? ⟨w1.heap.size, 3, none⟩ = false := pq.frozen 3; have pc4 : wv.cell? ⟨w1.heap.size, 4, none⟩ = some (.int .u64 0) := pq.cell 4; have pf4 : wv.frozen? ⟨w1.heap.size, 4, none⟩ = false := pq.frozen 4; have pc5 : wv.cell? ⟨w1.heap.size, 5, none⟩ = some (.int .i64 0) := pq.cell 5; have pf5 : wv.frozen? ⟨w1.heap.size, 5, none⟩ = false := pq.frozen 5; have pc6 : wv.cell? ⟨w1.heap.size, 6, none⟩ = some (.slice none 0 0) := pq.cell 6; have pf6 : wv.frozen? ⟨w1.heap.size, 6, none⟩ = false := pq.frozen 6; clear pq))))
      | (go_at_call 129; refine (HCV.out _ (by first | exact B1d | exact (B1d.alloc (by omega) _) | exact (B1.alloc (by omega) _).drew)).mono ?_; rintro r wv ⟨Av, cv, rfl, hrv, hfv, hbv⟩; have sv := hbv.size; (try simp at sv); have Bv : Below w.heap.size w wv := (by first | exact B1d.trans (hbv.mono (by omega)) | exact (B1d.alloc (by omega) _).trans (hbv.mono (by simp; omega)) | exact (B1.alloc (by omega) _).drew.trans (hbv.mono (by simp; omega))); have lv : w.heap.size < wv.heap.size := (by omega); have v0 : wv.cell? ⟨w.heap.size, 0, none⟩ = some (.int .i64 m.W) := (hbv.cell (p := ⟨w.heap.size, 0, none⟩) (by first | exact l3 | (simp; omega))).trans (by first | exact m0 | exact (World.cell?_alloc_lt _ _ ⟨w.heap.size, 0, none⟩ l3).trans m0 | exact A0 _); have v1 : wv.cell? ⟨w.heap.size, 1, none⟩ = some (.int .i64 m.H) := (hbv.cell (p := ⟨w.heap.size, 1, none⟩) (by first | exact l3 | (simp; omega))).trans (by first | exact m1 | exact (World.cell?_alloc_lt _ _ ⟨w.heap.size, 1, none⟩ l3).trans m1 | exact A1 _); have v2 : wv.cell? ⟨w.heap.size, 2, none⟩ = some (.slice s.A s.n s.c) := (hbv.cell (p := ⟨w.heap.size, 2, none⟩) (by first | exact l3 | (simp; omega))).trans (by first | exact m2 | exact (World.cell?_alloc_lt _ _ ⟨w.heap.size, 2, none⟩ l3).trans m2 | exact A2 _); have v3 : wv.cell? ⟨w.heap.size, 3, none⟩ = some (.slice s.A2 s.n2 s.c2) := (hbv.cell (p := ⟨w.heap.size, 3, none⟩) (by first | exact l3 | (simp; omega))).trans (by first | exact m3 | exact (World.cell?_alloc_lt _ _ ⟨w.heap.size, 3, none⟩ l3).trans m3 | exact A3 _)))
  have sW : w1.drew.heap.size = w1.heap.size := rfl
  have sW : w1.drew.heap.size = w1.heap.size := rfl

  have pb : Blk (wv.alloc (.cells #[.int .i64 m.W, .int .i64 m.H, .slice Ab s.n cb, .slice Av s.n2 cv, .int .u64 seed, .int .i64 0, .slice none 0 0] 46)) wv.heap.size 46 #[.int .i64 m.W, .int .i64 m.H, .slice Ab s.n cb, .slice Av s.n2 cv, .int .u64 seed, .int .i64 0, .slice none 0 0] := Blk.new _ _ _
  have pr1 : Row (wv.alloc (.cells #[.int .i64 m.W, .int .i64 m.H, .slice Ab s.n cb, .slice Av s.n2 cv, .int .u64 seed, .int .i64 0, .slice none 0 0] 46)) 4 1 Ab s.n cb (boolsV m.walls) := hrb.keep (fun g hg => (hbv.alloc sv (.cells #[.int .i64 m.W, .int .i64 m.H, .slice Ab s.n cb, .slice Av s.n2 cv, .int .u64 seed, .int .i64 0, .slice none 0 0] 46)).block g (hrb.lt hg))
  have pr2 : Row (wv.alloc (.cells #[.int .i64 m.W, .int .i64 m.H, .slice Ab s.n cb, .slice Av s.n2 cv, .int .u64 seed, .int .i64 0, .slice none 0 0] 46)) 53 2 Av s.n2 cv (vecsV m.spawns) := hrv.keep (fun g hg => ((Below.refl wv.heap.size wv).alloc (Nat.le_refl _) (.cells #[.int .i64 m.W, .int .i64 m.H, .slice Ab s.n cb, .slice Av s.n2 cv, .int .u64 seed, .int .i64 0, .slice none 0 0] 46)).block g (hrv.lt hg))
  have pn1 : ∀ g, blkOf Ab = some g → g ≠ wv.heap.size := fun g hg => by have := hrb.lt hg; omega
  have pn2 : ∀ g, blkOf Av = some g → g ≠ wv.heap.size := fun g hg => by have := hrv.lt hg; omega
  have pB : Below w.heap.size w (wv.alloc (.cells #[.int .i64 m.W, .int .i64 m.H, .slice Ab s.n cb, .slice Av s.n2 cv, .int .u64 seed, .int .i64 0, .slice none 0 0] 46)) := Bv.alloc (by omega) _
  have pz : Blk (wv.alloc (.cells #[.int .i64 m.W, .int .i64 m.H, .slice Ab s.n cb, .slice Av s.n2 cv, .int .u64 seed, .int .i64 0, .slice none 0 0] 46)) (w.heap.size + 1) 46 #[.int .i64 0, .int .i64 0, .slice none 0 0, .slice none 0 0, .int .u64 0, .int .i64 0, .slice none 0 0] := (Blk.below (Blk.below (show Blk w1.drew _ _ _ from HZ.out) hbb (by omega)) hbv (by omega)).alloc _
  have pl : w.heap.size + 1 < wv.heap.size := by omega
  generalize (wv.alloc (.cells #[.int .i64 m.W, .int .i64 m.H, .slice Ab s.n cb, .slice Av s.n2 cv, .int .u64 seed, .int .i64 0, .slice none 0 0] 46)) = W at pb pr1 pr2 pB pz ⊢
  generalize wv.heap.size = b at pb pn1 pn2 pl ⊢
  rotate_left
  have sW : w1.drew.heap.size = w1.heap.size := rfl

  have pb : Blk (((((((wv.setCell ⟨wb.heap.size, 0, none⟩ (.int .i64 m.W)).setCell ⟨wb.heap.size, 1, none⟩ (.int .i64 m.H)).setCell ⟨wb.heap.size, 2, none⟩ (.slice Ab s.n cb)).setCell ⟨wb.heap.size, 3, none⟩ (.slice Av s.n2 cv)).setCell ⟨wb.heap.size, 4, none⟩ (.int .u64 seed)).setCell ⟨wb.heap.size, 5, none⟩ (.int .i64 0)).setCell ⟨wb.heap.size, 6, none⟩ (.slice none 0 0)) wb.heap.size 46 #[.int .i64 m.W, .int .i64 m.H, .slice Ab s.n cb, .slice Av s.n2 cv, .int .u64 seed, .int .i64 0, .slice none 0 0] := ((((((((Blk.below (Blk.new wb _ _) hbv (by simp)).set_ 0 (.int .i64 m.W)).set_ 1 (.int .i64 m.H)).set_ 2 (.slice Ab s.n cb)).set_ 3 (.slice Av s.n2 cv)).set_ 4 (.int .u64 seed)).set_ 5 (.int .i64 0)).set_ 6 (.slice none 0 0))
  have pr1 : Row (((((((wv.setCell ⟨wb.heap.size, 0, none⟩ (.int .i64 m.W)).setCell ⟨wb.heap.size, 1, none⟩ (.int .i64 m.H)).setCell ⟨wb.heap.size, 2, none⟩ (.slice Ab s.n cb)).setCell ⟨wb.heap.size, 3, none⟩ (.slice Av s.n2 cv)).setCell ⟨wb.heap.size, 4, none⟩ (.int .u64 seed)).setCell ⟨wb.heap.size, 5, none⟩ (.int .i64 0)).setCell ⟨wb.heap.size, 6, none⟩ (.slice none 0 0)) 4 1 Ab s.n cb (boolsV m.walls) := hrb.keep (fun g hg => ((fun j (hj : j ≠ wb.heap.size) => (Below.heap_setCell _ _ _ j hj).trans ((Below.heap_setCell _ _ _ j hj).trans ((Below.heap_setCell _ _ _ j hj).trans ((Below.heap_setCell _ _ _ j hj).trans ((Below.heap_setCell _ _ _ j hj).trans ((Below.heap_setCell _ _ _ j hj).trans (Below.heap_setCell _ _ _ j hj))))))) g (by have := hrb.lt hg; omega)).trans ((((Below.refl wb.heap.size wb).alloc (Nat.le_refl _) (.cells #[.int .i64 0, .int .i64 0, .slice none 0 0, .slice none 0 0, .int .u64 0, .int .i64 0, .slice none 0 0] 46)).trans (hbv.mono (by simp))).block g (hrb.lt hg)))
  have pr2 : Row (((((((wv.setCell ⟨wb.heap.size, 0, none⟩ (.int .i64 m.W)).setCell ⟨wb.heap.size, 1, none⟩ (.int .i64 m.H)).setCell ⟨wb.heap.size, 2, none⟩ (.slice Ab s.n cb)).setCell ⟨wb.heap.size, 3, none⟩ (.slice Av s.n2 cv)).setCell ⟨wb.heap.size, 4, none⟩ (.int .u64 seed)).setCell ⟨wb.heap.size, 5, none⟩ (.int .i64 0)).setCell ⟨wb.heap.size, 6, none⟩ (.slice none 0 0)) 53 2 Av s.n2 cv (vecsV m.spawns) := hrv.keep (fun g hg => ((fun j (hj : j ≠ wb.heap.size) => (Below.heap_setCell _ _ _ j hj).trans ((Below.heap_setCell _ _ _ j hj).trans ((Below.heap_setCell _ _ _ j hj).trans ((Below.heap_setCell _ _ _ j hj).trans ((Below.heap_setCell _ _ _ j hj).trans ((Below.heap_setCell _ _ _ j hj).trans (Below.heap_setCell _ _ _ j hj))))))) g (by have := hfv g hg; simp at this; omega)))
  have pn1 : ∀ g, blkOf Ab = some g → g ≠ wb.heap.size := fun g hg => by have := hrb.lt hg; omega
  have pn2 : ∀ g, blkOf Av = some g → g ≠ wb.heap.size := fun g hg => by have := hfv g hg; simp at this; omega
  have pB : Below w.heap.size w (((((((wv.setCell ⟨wb.heap.size, 0, none⟩ (.int .i64 m.W)).setCell ⟨wb.heap.size, 1, none⟩ (.int .i64 m.H)).setCell ⟨wb.heap.size, 2, none⟩ (.slice Ab s.n cb)).setCell ⟨wb.heap.size, 3, none⟩ (.slice Av s.n2 cv)).setCell ⟨wb.heap.size, 4, none⟩ (.int .u64 seed)).setCell ⟨wb.heap.size, 5, none⟩ (.int .i64 0)).setCell ⟨wb.heap.size, 6, none⟩ (.slice none 0 0)) := (by repeat (first | with_reducible exact Below.refl _ _ | with_reducible assumption | with_reducible refine Below.drew ?_ | with_reducible refine below_drews ?_ _ | with_reducible refine Below.alloc ?_ (by first | omega | (simp; done) | (simp; omega)) _ | with_reducible refine Below.setCell ?_ (by first | omega | (simp; done) | (simp; omega)) _))
  have pz : Blk (((((((wv.setCell ⟨wb.heap.size, 0, none⟩ (.int .i64 m.W)).setCell ⟨wb.heap.size, 1, none⟩ (.int .i64 m.H)).setCell ⟨wb.heap.size, 2, none⟩ (.slice Ab s.n cb)).setCell ⟨wb.heap.size, 3, none⟩ (.slice Av s.n2 cv)).setCell ⟨wb.heap.size, 4, none⟩ (.int .u64 seed)).setCell ⟨wb.heap.size, 5, none⟩ (.int .i64 0)).setCell ⟨wb.heap.size, 6, none⟩ (.slice none 0 0)) (w.heap.size + 1) 46 #[.int .i64 0, .int .i64 0, .slice none 0 0, .slice none 0 0, .int .u64 0, .int .i64 0, .slice none 0 0] := ((fun j (hj : j ≠ wb.heap.size) => (Below.heap_setCell _ _ _ j hj).trans ((Below.heap_setCell _ _ _ j hj).trans ((Below.heap_setCell _ _ _ j hj).trans ((Below.heap_setCell _ _ _ j hj).trans ((Below.heap_setCell _ _ _ j hj).trans ((Below.heap_setCell _ _ _ j hj).trans (Below.heap_setCell _ _ _ j hj))))))) _ (by omega)).trans (Blk.below ((Blk.below (show Blk w1.drew _ _ _ from HZ.out) hbb (by omega)).alloc (.cells #[.int .i64 0, .int .i64 0, .slice none 0 0, .slice none 0 0, .int .u64 0, .int .i64 0, .slice none 0 0] 46)) hbv (by simp; omega))
  have pl : w.heap.size + 1 < wb.heap.size := by omega
  generalize (((((((wv.setCell ⟨wb.heap.size, 0, none⟩ (.int .i64 m.W)).setCell ⟨wb.heap.size, 1, none⟩ (.int .i64 m.H)).setCell ⟨wb.heap.size, 2, none⟩ (.slice Ab s.n cb)).setCell ⟨wb.heap.size, 3, none⟩ (.slice Av s.n2 cv)).setCell ⟨wb.heap.size, 4, none⟩ (.int .u64 seed)).setCell ⟨wb.heap.size, 5, none⟩ (.int .i64 0)).setCell ⟨wb.heap.size, 6, none⟩ (.slice none 0 0)) = W at pb pr1 pr2 pB pz ⊢
  generalize wb.heap.size = b at pb pn1 pn2 pl ⊢
  rotate_left
  have sW : w1.drew.heap.size = w1.heap.size := rfl

  have pb : Blk (((((((wv.setCell ⟨w1.heap.size, 0, none⟩ (.int .i64 m.W)).setCell ⟨w1.heap.size, 1, none⟩ (.int .i64 m.H)).setCell ⟨w1.heap.size, 2, none⟩ (.slice Ab s.n cb)).setCell ⟨w1.heap.size, 3, none⟩ (.slice Av s.n2 cv)).setCell ⟨w1.heap.size, 4, none⟩ (.int .u64 seed)).setCell ⟨w1.heap.size, 5, none⟩ (.int .i64 0)).setCell ⟨w1.heap.size, 6, none⟩ (.slice none 0 0)) w1.heap.size 46 #[.int .i64 m.W, .int .i64 m.H, .slice Ab s.n cb, .slice Av s.n2 cv, .int .u64 seed, .int .i64 0, .slice none 0 0] := ((((((((Blk.below (Blk.below (show Blk (w1.alloc (.cells #[.int .i64 0, .int .i64 0, .slice none 0 0, .slice none 0 0, .int .u64 0, .int .i64 0, .slice none 0 0] 46)).drew w1.heap.size _ _ from (Blk.new w1 _ _).drew) hbb (by simp)) hbv (by omega)).set_ 0 (.int .i64 m.W)).set_ 1 (.int .i64 m.H)).set_ 2 (.slice Ab s.n cb)).set_ 3 (.slice Av s.n2 cv)).set_ 4 (.int .u64 seed)).set_ 5 (.int .i64 0)).set_ 6 (.slice none 0 0))
  have pr1 : Row (((((((wv.setCell ⟨w1.heap.size, 0, none⟩ (.int .i64 m.W)).setCell ⟨w1.heap.size, 1, none⟩ (.int .i64 m.H)).setCell ⟨w1.heap.size, 2, none⟩ (.slice Ab s.n cb)).setCell ⟨w1.heap.size, 3, none⟩ (.slice Av s.n2 cv)).setCell ⟨w1.heap.size, 4, none⟩ (.int .u64 seed)).setCell ⟨w1.heap.size, 5, none⟩ (.int .i64 0)).setCell ⟨w1.heap.size, 6, none⟩ (.slice none 0 0)) 4 1 Ab s.n cb (boolsV m.walls) := hrb.keep (fun g hg => ((fun j (hj : j ≠ w1.heap.size) => (Below.heap_setCell _ _ _ j hj).trans ((Below.heap_setCell _ _ _ j hj).trans ((Below.heap_setCell _ _ _ j hj).trans ((Below.heap_setCell _ _ _ j hj).trans ((Below.heap_setCell _ _ _ j hj).trans ((Below.heap_setCell _ _ _ j hj).trans (Below.heap_setCell _ _ _ j hj))))))) g (by have := hfb g hg; simp at this; omega)).trans (hbv.block g (hrb.lt hg)))
  have pr2 : Row (((((((wv.setCell ⟨w1.heap.size, 0, none⟩ (.int .i64 m.W)).setCell ⟨w1.heap.size, 1, none⟩ (.int .i64 m.H)).setCell ⟨w1.heap.size, 2, none⟩ (.slice Ab s.n cb)).setCell ⟨w1.heap.size, 3, none⟩ (.slice Av s.n2 cv)).setCell ⟨w1.heap.size, 4, none⟩ (.int .u64 seed)).setCell ⟨w1.heap.size, 5, none⟩ (.int .i64 0)).setCell ⟨w1.heap.size, 6, none⟩ (.slice none 0 0)) 53 2 Av s.n2 cv (vecsV m.spawns) := hrv.keep (fun g hg => ((fun j (hj : j ≠ w1.heap.size) => (Below.heap_setCell _ _ _ j hj).trans ((Below.heap_setCell _ _ _ j hj).trans ((Below.heap_setCell _ _ _ j hj).trans ((Below.heap_setCell _ _ _ j hj).trans ((Below.heap_setCell _ _ _ j hj).trans ((Below.heap_setCell _ _ _ j hj).trans (Below.heap_setCell _ _ _ j hj))))))) g (by have := hfv g hg; omega)))
  have pn1 : ∀ g, blkOf Ab = some g → g ≠ w1.heap.size := fun g hg => by have := hfb g hg; simp at this; omega
  have pn2 : ∀ g, blkOf Av = some g → g ≠ w1.heap.size := fun g hg => by have := hfv g hg; omega
  have pB : Below w.heap.size w (((((((wv.setCell ⟨w1.heap.size, 0, none⟩ (.int .i64 m.W)).setCell ⟨w1.heap.size, 1, none⟩ (.int .i64 m.H)).setCell ⟨w1.heap.size, 2, none⟩ (.slice Ab s.n cb)).setCell ⟨w1.heap.size, 3, none⟩ (.slice Av s.n2 cv)).setCell ⟨w1.heap.size, 4, none⟩ (.int .u64 seed)).setCell ⟨w1.heap.size, 5, none⟩ (.int .i64 0)).setCell ⟨w1.heap.size, 6, none⟩ (.slice none 0 0)) := (by repeat (first | with_reducible exact Below.refl _ _ | with_reducible assumption | with_reducible refine Below.drew ?_ | with_reducible refine below_drews ?_ _ | with_reducible refine Below.alloc ?_ (by first | omega | (simp; done) | (simp; omega)) _ | with_reducible refine Below.setCell ?_ (by first | omega | (simp; done) | (simp; omega)) _))
  have pz : Blk (((((((wv.setCell ⟨w1.heap.size, 0, none⟩ (.int .i64 m.W)).setCell ⟨w1.heap.size, 1, none⟩ (.int .i64 m.H)).setCell ⟨w1.heap.size, 2, none⟩ (.slice Ab s.n cb)).setCell ⟨w1.heap.size, 3, none⟩ (.slice Av s.n2 cv)).setCell ⟨w1.heap.size, 4, none⟩ (.int .u64 seed)).setCell ⟨w1.heap.size, 5, none⟩ (.int .i64 0)).setCell ⟨w1.heap.size, 6, none⟩ (.slice none 0 0)) (w.heap.size + 1) 46 #[.int .i64 0, .int .i64 0, .slice none 0 0, .slice none 0 0, .int .u64 0, .int .i64 0, .slice none 0 0] := ((fun j (hj : j ≠ w1.heap.size) => (Below.heap_setCell _ _ _ j hj).trans ((Below.heap_setCell _ _ _ j hj).trans ((Below.heap_setCell _ _ _ j hj).trans ((Below.heap_setCell _ _ _ j hj).trans ((Below.heap_setCell _ _ _ j hj).trans ((Below.heap_setCell _ _ _ j hj).trans (Below.heap_setCell _ _ _ j hj))))))) _ (by omega)).trans (Blk.below (Blk.below (show Blk (w1.alloc (.cells #[.int .i64 0, .int .i64 0, .slice none 0 0, .slice none 0 0, .int .u64 0, .int .i64 0, .slice none 0 0] 46)).drew _ _ _ from (HZ.out.alloc (.cells #[.int .i64 0, .int .i64 0, .slice none 0 0, .slice none 0 0, .int .u64 0, .int .i64 0, .slice none 0 0] 46)).drew) hbb (by simp; omega)) hbv (by omega))
  have pl : w.heap.size + 1 < w1.heap.size := by omega
  generalize (((((((wv.setCell ⟨w1.heap.size, 0, none⟩ (.int .i64 m.W)).setCell ⟨w1.heap.size, 1, none⟩ (.int .i64 m.H)).setCell ⟨w1.heap.size, 2, none⟩ (.slice Ab s.n cb)).setCell ⟨w1.heap.size, 3, none⟩ (.slice Av s.n2 cv)).setCell ⟨w1.heap.size, 4, none⟩ (.int .u64 seed)).setCell ⟨w1.heap.size, 5, none⟩ (.int .i64 0)).setCell ⟨w1.heap.size, 6, none⟩ (.slice none 0 0)) = W at pb pr1 pr2 pB pz ⊢
  generalize w1.heap.size = b at pb pn1 pn2 pl ⊢
  rotate_left
  all_goals
    have pm1 : ∀ g, blkOf Ab = some g → w.heap.size + 1 < g := fun g hg => by have := hfb g hg; (try simp at this); omega
    have pm2 : ∀ g, blkOf Av = some g → w.heap.size + 1 < g := fun g hg => by have := hfv g hg; (try simp at this); omega
    have hsp1 : 1 ≤ s.n2 := HSP.out
    have HPB := Lib.hid pb
    have HPR1 := Lib.hid pr1
    have HPR2 := Lib.hid pr2
    have HPZ := Lib.hid pz
    have HPBB := Lib.hid pB
    have HPN1 := Lib.hid pn1
    have HPN2 := Lib.hid pn2
    have HPM1 := Lib.hid pm1
    have HPM2 := Lib.hid pm2
    have HPL := Lib.hid pl
    have HBL0 := Lib.hid pb.lt
    have HL1 := Lib.hid (fun g hg => pr1.lt (g := g) hg)
    have HL2 := Lib.hid (fun g hg => pr2.lt (g := g) hg)
    clear pb pr1 pr2 pz pB pn1 pn2 pm1 pm2 pl hrb hfb hbb hrv hfv hbv sb sv Bb Bv lb lv b0 b1 b2 b3 v0 v1 v2 v3 m0 m1 m2 m3 A0 A1 A2 A3 sW B1d l3 B1 hb1 hs1 l1 l2 HB HZ
    go_wp2
    go_loopw [39] (fun i wr => ∃ (k : Nat) (A : Option Addr) (c : Nat), k ≤ balls ∧ i = .int .i64 (k : Nat) ∧ Blk wr b 46 #[.int .i64 m.W, .int .i64 m.H, .slice Ab s.n cb, .slice Av s.n2 cv, .int .u64 (ballsF m k seed).1, .int .i64 0, .slice A k c] ∧ Row wr 55 8 A k c (entsV (ballsF m k seed).2) ∧ (∀ g, blkOf A = some g → W.heap.size ≤ g) ∧ Row wr 4 1 Ab s.n cb (boolsV m.walls) ∧ Row wr 53 2 Av s.n2 cv (vecsV m.spawns) ∧ Below w.heap.size w wr ∧ Blk wr (w.heap.size + 1) 46 #[.int .i64 0, .int .i64 0, .slice none 0 0, .slice none 0 0, .int .u64 0, .int .i64 0, .slice none 0 0] ∧ W.heap.size ≤ wr.heap.size) (fun i _ => balls - (intOf i).toNat)
    case atStart => exact ⟨0, none, 0, Nat.zero_le _, rfl, HPB.out, Row.nil_, (fun g hg => nomatch hg), HPR1.out, HPR2.out, HPBB.out, HPZ.out, Nat.le_refl _⟩
    case round =>
      obtain ⟨k, A, c, hk, rfl, hbk, hrw, hA, hr1, hr2, hbw, hzw, hWs⟩ := hrel
      by_cases hlt : k < balls
      · obtain ⟨st, hst⟩ : ∃ st, (ballsF m k seed).1 = st := ⟨_, rfl⟩
        obtain ⟨l, hl⟩ : ∃ l, (ballsF m k seed).2 = l := ⟨_, rfl⟩
        have hnext : ballsF m (k + 1) seed = (nextS (nextS (nextS st)), l ++ [⟨9 + k, 2, spawnP m st, ⟨belowK (nextS st) 32769 - 16384, belowK (nextS (nextS st)) 32769 - 16384⟩, 100, 0⟩]) := by
          show (nextS (nextS (nextS (ballsF m k seed).1)), _) = _
          rw [hst, hl]
        rw [hst] at hbk
        rw [hl] at hrw
        have hmat : MapAt wr wr.heap.size m ⟨Ab, s.n, cb, Av, s.n2, cv⟩ := ⟨hr1.reads (by decide), hr2.reads (by decide), hr1.2.1, by have := hr1.2.2.1; unfold maxLen at this; exact this, by show s.n2 ≤ _; omega⟩
        have hS := wSpawn b ⟨m, st, 0, l⟩ ⟨⟨Ab, s.n, cb, Av, s.n2, cv⟩, A, k, c⟩ wr hbk hmat hsp1 hn2 HPN2.out
        obtain ⟨p, hp⟩ : ∃ p, spawnP m st = p := ⟨_, rfl⟩
        rw [hp] at hnext
        have HNX := Lib.hid hnext
        have hS2 : Calls Tryz.prog 154 #[.pointer (some ⟨b, 0, none⟩)] wr fun r w' => r = .returned (.agg #[.int .i64 p.x, .int .i64 p.y]) ∧ Blk w' b 46 #[.int .i64 m.W, .int .i64 m.H, .slice Ab s.n cb, .slice Av s.n2 cv, .int .u64 (nextS st), .int .i64 0, .slice A k c] ∧ Chg (fun g => g = b) wr w' := by rw [← hp]; exact hS
        have HS := Lib.hid hS2
        have HRW := Lib.hid hrw
        have HA := Lib.hid hA
        have HR1 := Lib.hid hr1
        have HR2 := Lib.hid hr2
        have HBW := Lib.hid hbw
        have HZW := Lib.hid hzw
        have HWS := Lib.hid hWs
        have hbl := hbk.lt
        have hzl := hzw.lt
        clear hS hS2 hst hl hnext hp hmat hbk hrw hA hr1 hr2 hbw hzw hWs
        go_wp2_with fail
        refine HS.out.mono ?_
        rintro r w5 ⟨rfl, hb5, hc5⟩
        have hs5 := hc5.size
        have hr5 := HRW.out.chg hc5 (fun g hg => by have := HA.out g hg; have := HBL0.out; omega)
        have hr15 := HR1.out.chg hc5 (fun g hg => HPN1.out g hg)
        have hr25 := HR2.out.chg hc5 (fun g hg => HPN2.out g hg)
        have hz5 := HZW.out.chg hc5 (by have := HPL.out; omega)
        have hB5 : Below w.heap.size w w5 := HBW.out.trans (hc5.to_below HBW.out.size (fun q hq => by subst hq; have := HPL.out; omega))
        have y0 : w5.cell? ⟨b, 0, none⟩ = some (.int .i64 m.W) := hb5.cell 0
        have z0 := hb5.frozen 0
        have y1 : w5.cell? ⟨b, 1, none⟩ = some (.int .i64 m.H) := hb5.cell 1
        have z1 := hb5.frozen 1
        have y2 : w5.cell? ⟨b, 2, none⟩ = some (.slice Ab s.n cb) := hb5.cell 2
        have z2 := hb5.frozen 2
        have y3 : w5.cell? ⟨b, 3, none⟩ = some (.slice Av s.n2 cv) := hb5.cell 3
        have z3 := hb5.frozen 3
        have y4 : w5.cell? ⟨b, 4, none⟩ = some (.int .u64 (nextS st)) := hb5.cell 4
        have z4 := hb5.frozen 4
        have y5 : w5.cell? ⟨b, 5, none⟩ = some (.int .i64 0) := hb5.cell 5
        have z5 := hb5.frozen 5
        have y6 : w5.cell? ⟨b, 6, none⟩ = some (.slice A k c) := hb5.cell 6
        have z6 := hb5.frozen 6
        have l5 : b < w5.heap.size := hb5.lt
        have HB5 := Lib.hid hb5
        have HR5 := Lib.hid hr5
        have HR15 := Lib.hid hr15
        have HR25 := Lib.hid hr25
        have HZ5 := Lib.hid hz5
        have HBB5 := Lib.hid hB5
        clear hc5 hb5 hr5 hr15 hr25 hz5 hB5
        go_wp2_with fail
        refine (rndBelow _ _ (by decide) (by decide) _).mono ?_
        rintro r w7 ⟨rfl, ⟨q, rfl⟩⟩
        have kb : Blk ((w5.alloc (.cells #[.int .i64 (9 + (k : Int)), .int .i64 2, .int .i64 p.x, .int .i64 p.y, .int .i64 0, .int .i64 0, .int .i64 100, .int .i64 0] 55)).drewN q) b 46 #[.int .i64 m.W, .int .i64 m.H, .slice Ab s.n cb, .slice Av s.n2 cv, .int .u64 (nextS st), .int .i64 0, .slice A k c] := (HB5.out.alloc _).drewN q
        have ke : Blk ((w5.alloc (.cells #[.int .i64 (9 + (k : Int)), .int .i64 2, .int .i64 p.x, .int .i64 p.y, .int .i64 0, .int .i64 0, .int .i64 100, .int .i64 0] 55)).drewN q) w5.heap.size 55 #[.int .i64 (9 + (k : Int)), .int .i64 2, .int .i64 p.x, .int .i64 p.y, .int .i64 0, .int .i64 0, .int .i64 100, .int .i64 0] := (Blk.new _ _ _).drewN q
        have kB : Below w5.heap.size w5 ((w5.alloc (.cells #[.int .i64 (9 + (k : Int)), .int .i64 2, .int .i64 p.x, .int .i64 p.y, .int .i64 0, .int .i64 0, .int .i64 100, .int .i64 0] 55)).drewN q) := below_drews ((Below.refl _ _).alloc (Nat.le_refl _) _) q
        generalize ((w5.alloc (.cells #[.int .i64 (9 + (k : Int)), .int .i64 2, .int .i64 p.x, .int .i64 p.y, .int .i64 0, .int .i64 0, .int .i64 100, .int .i64 0] 55)).drewN q) = w7 at kb ke kB ⊢
        clear y0 z0 y1 z1 y2 z2 y3 z3 y4 z4 y5 z5 y6 z6
        have y0 : w7.cell? ⟨b, 0, none⟩ = some (.int .i64 m.W) := kb.cell 0
        have z0 := kb.frozen 0
        have y1 : w7.cell? ⟨b, 1, none⟩ = some (.int .i64 m.H) := kb.cell 1
        have z1 := kb.frozen 1
        have y2 : w7.cell? ⟨b, 2, none⟩ = some (.slice Ab s.n cb) := kb.cell 2
        have z2 := kb.frozen 2
        have y3 : w7.cell? ⟨b, 3, none⟩ = some (.slice Av s.n2 cv) := kb.cell 3
        have z3 := kb.frozen 3
        have y4 : w7.cell? ⟨b, 4, none⟩ = some (.int .u64 (nextS st)) := kb.cell 4
        have z4 := kb.frozen 4
        have y5 : w7.cell? ⟨b, 5, none⟩ = some (.int .i64 0) := kb.cell 5
        have z5 := kb.frozen 5
        have y6 : w7.cell? ⟨b, 6, none⟩ = some (.slice A k c) := kb.cell 6
        have z6 := kb.frozen 6
        have x0 : w7.cell? ⟨w5.heap.size, 0, none⟩ = some (.int .i64 (9 + (k : Int))) := ke.cell 0
        have k0 := ke.frozen 0
        have x1 : w7.cell? ⟨w5.heap.size, 1, none⟩ = some (.int .i64 2) := ke.cell 1
        have k1 := ke.frozen 1
        have x2 : w7.cell? ⟨w5.heap.size, 2, none⟩ = some (.int .i64 p.x) := ke.cell 2
        have k2 := ke.frozen 2
        have x3 : w7.cell? ⟨w5.heap.size, 3, none⟩ = some (.int .i64 p.y) := ke.cell 3
        have k3 := ke.frozen 3
        have x4 : w7.cell? ⟨w5.heap.size, 4, none⟩ = some (.int .i64 0) := ke.cell 4
        have k4 := ke.frozen 4
        have x5 : w7.cell? ⟨w5.heap.size, 5, none⟩ = some (.int .i64 0) := ke.cell 5
        have k5 := ke.frozen 5
        have x6 : w7.cell? ⟨w5.heap.size, 6, none⟩ = some (.int .i64 100) := ke.cell 6
        have k6 := ke.frozen 6
        have x7 : w7.cell? ⟨w5.heap.size, 7, none⟩ = some (.int .i64 0) := ke.cell 7
        have k7 := ke.frozen 7
        have l7 : b < w7.heap.size := kb.lt
        have l8 : w5.heap.size < w7.heap.size := ke.lt
        have hbe : ¬ b = w5.heap.size := by omega
        have hbe2 : ¬ w5.heap.size = b := by omega
        have KB := Lib.hid kb
        have KE := Lib.hid ke
        have KBB := Lib.hid kB
        clear kb ke kB
        go_wp2_with fail
        refine (rndBelow _ _ (by decide) (by decide) _).mono ?_
        rintro r w8 ⟨rfl, ⟨q2, rfl⟩⟩
        have kb : Blk ((w7.setCell ⟨b, 4, none⟩ (.int .u64 (nextS (nextS st)))).drewN q2) b 46 #[.int .i64 m.W, .int .i64 m.H, .slice Ab s.n cb, .slice Av s.n2 cv, .int .u64 (nextS (nextS st)), .int .i64 0, .slice A k c] := (KB.out.set_ 4 _).drewN q2
        have ke : Blk ((w7.setCell ⟨b, 4, none⟩ (.int .u64 (nextS (nextS st)))).drewN q2) w5.heap.size 55 #[.int .i64 (9 + (k : Int)), .int .i64 2, .int .i64 p.x, .int .i64 p.y, .int .i64 0, .int .i64 0, .int .i64 100, .int .i64 0] := (KE.out.far hbe2 _).drewN q2
        have kz : ∀ j : Nat, j ≠ b → ((w7.setCell ⟨b, 4, none⟩ (.int .u64 (nextS (nextS st)))).drewN q2).heap[j]? = w7.heap[j]? := fun j hj => Below.heap_setCell _ _ _ j hj
        have kc : Chg (fun g => g = b) w7 ((w7.setCell ⟨b, 4, none⟩ (.int .u64 (nextS (nextS st)))).drewN q2) := (by repeat (first | with_reducible exact Chg.refl | with_reducible assumption | with_reducible refine Chg.drewN ?_ _ | with_reducible refine Chg.drewN ?_ 1 | with_reducible refine Chg.alloc ?_ _ | with_reducible refine Chg.setCell ?_ (by first | (simp; done) | (simp; omega)) _))
        generalize ((w7.setCell ⟨b, 4, none⟩ (.int .u64 (nextS (nextS st)))).drewN q2) = w8 at kb ke kz kc ⊢
        clear y0 z0 y1 z1 y2 z2 y3 z3 y4 z4 y5 z5 y6 z6 x0 k0 x1 k1 x2 k2 x3 k3 x4 k4 x5 k5 x6 k6 x7 k7
        have y0 : w8.cell? ⟨b, 0, none⟩ = some (.int .i64 m.W) := kb.cell 0
        have z0 := kb.frozen 0
        have y1 : w8.cell? ⟨b, 1, none⟩ = some (.int .i64 m.H) := kb.cell 1
        have z1 := kb.frozen 1
        have y2 : w8.cell? ⟨b, 2, none⟩ = some (.slice Ab s.n cb) := kb.cell 2
        have z2 := kb.frozen 2
        have y3 : w8.cell? ⟨b, 3, none⟩ = some (.slice Av s.n2 cv) := kb.cell 3
        have z3 := kb.frozen 3
        have y4 : w8.cell? ⟨b, 4, none⟩ = some (.int .u64 (nextS (nextS st))) := kb.cell 4
        have z4 := kb.frozen 4
        have y5 : w8.cell? ⟨b, 5, none⟩ = some (.int .i64 0) := kb.cell 5
        have z5 := kb.frozen 5
        have y6 : w8.cell? ⟨b, 6, none⟩ = some (.slice A k c) := kb.cell 6
        have z6 := kb.frozen 6
        have x0 : w8.cell? ⟨w5.heap.size, 0, none⟩ = some (.int .i64 (9 + (k : Int))) := ke.cell 0
        have k0 := ke.frozen 0
        have x1 : w8.cell? ⟨w5.heap.size, 1, none⟩ = some (.int .i64 2) := ke.cell 1
        have k1 := ke.frozen 1
        have x2 : w8.cell? ⟨w5.heap.size, 2, none⟩ = some (.int .i64 p.x) := ke.cell 2
        have k2 := ke.frozen 2
        have x3 : w8.cell? ⟨w5.heap.size, 3, none⟩ = some (.int .i64 p.y) := ke.cell 3
        have k3 := ke.frozen 3
        have x4 : w8.cell? ⟨w5.heap.size, 4, none⟩ = some (.int .i64 0) := ke.cell 4
        have k4 := ke.frozen 4
        have x5 : w8.cell? ⟨w5.heap.size, 5, none⟩ = some (.int .i64 0) := ke.cell 5
        have k5 := ke.frozen 5
        have x6 : w8.cell? ⟨w5.heap.size, 6, none⟩ = some (.int .i64 100) := ke.cell 6
        have k6 := ke.frozen 6
        have x7 : w8.cell? ⟨w5.heap.size, 7, none⟩ = some (.int .i64 0) := ke.cell 7
        have k7 := ke.frozen 7
        have l9 : b < w8.heap.size := kb.lt
        have l10 : w5.heap.size < w8.heap.size := ke.lt
        have KB8 := Lib.hid kb
        have KE8 := Lib.hid ke
        have KC8 := Lib.hid kc
        clear kb ke kc kz
        obtain ⟨bx, hbx⟩ : ∃ bx, belowK (nextS st) 32769 = bx := ⟨_, rfl⟩
        obtain ⟨bY, hby⟩ : ∃ bY, belowK (nextS (nextS st)) 32769 = bY := ⟨_, rfl⟩
        have rx := belowK_range (nextS st) 32769 (by decide) (by decide)
        have ry := belowK_range (nextS (nextS st)) 32769 (by decide) (by decide)
        rw [hbx] at rx
        rw [hby] at ry
        have HBX := Lib.hid hbx
        have HBY := Lib.hid hby
        simp only [hbx, hby]
        clear hbx hby
        obtain ⟨rx0, rx1⟩ := rx
        obtain ⟨ry0, ry1⟩ := ry
        have hAb : ∀ g, blkOf A = some g → g ≠ b := fun g hg => by have := HA.out g hg; have := HBL0.out; omega
        have hA5 : ∀ g, blkOf A = some g → g ≠ w5.heap.size := fun g hg => by have := HR5.out.lt hg; omega
        have h15 : ∀ g, blkOf Ab = some g → g ≠ w5.heap.size := fun g hg => by have := HR15.out.lt hg; omega
        have h25 : ∀ g, blkOf Av = some g → g ≠ w5.heap.size := fun g hg => by have := HR25.out.lt hg; omega
        have hrc : Row (((w8.setCell ⟨b, 4, none⟩ (.int .u64 (nextS (nextS (nextS st))))).setCell ⟨w5.heap.size, 4, none⟩ (.int .i64 (bx - 16384))).setCell ⟨w5.heap.size, 5, none⟩ (.int .i64 (bY - 16384))) 55 8 A k c (entsV l) := (((((HR5.out.keep (w' := w7) (fun g hg => KBB.out.block g (HR5.out.lt hg))).chg KC8.out hAb).far (p := ⟨b, 4, none⟩) hAb _).far (p := ⟨w5.heap.size, 4, none⟩) hA5 _).far (p := ⟨w5.heap.size, 5, none⟩) hA5 _)
        have h1c : Row (((w8.setCell ⟨b, 4, none⟩ (.int .u64 (nextS (nextS (nextS st))))).setCell ⟨w5.heap.size, 4, none⟩ (.int .i64 (bx - 16384))).setCell ⟨w5.heap.size, 5, none⟩ (.int .i64 (bY - 16384))) 4 1 Ab s.n cb (boolsV m.walls) := (((((HR15.out.keep (w' := w7) (fun g hg => KBB.out.block g (HR15.out.lt hg))).chg KC8.out HPN1.out).far (p := ⟨b, 4, none⟩) HPN1.out _).far (p := ⟨w5.heap.size, 4, none⟩) h15 _).far (p := ⟨w5.heap.size, 5, none⟩) h15 _)
        have h2c : Row (((w8.setCell ⟨b, 4, none⟩ (.int .u64 (nextS (nextS (nextS st))))).setCell ⟨w5.heap.size, 4, none⟩ (.int .i64 (bx - 16384))).setCell ⟨w5.heap.size, 5, none⟩ (.int .i64 (bY - 16384))) 53 2 Av s.n2 cv (vecsV m.spawns) := (((((HR25.out.keep (w' := w7) (fun g hg => KBB.out.block g (HR25.out.lt hg))).chg KC8.out HPN2.out).far (p := ⟨b, 4, none⟩) HPN2.out _).far (p := ⟨w5.heap.size, 4, none⟩) h25 _).far (p := ⟨w5.heap.size, 5, none⟩) h25 _)
        have hbc : Blk (((w8.setCell ⟨b, 4, none⟩ (.int .u64 (nextS (nextS (nextS st))))).setCell ⟨w5.heap.size, 4, none⟩ (.int .i64 (bx - 16384))).setCell ⟨w5.heap.size, 5, none⟩ (.int .i64 (bY - 16384))) b 46 #[.int .i64 m.W, .int .i64 m.H, .slice Ab s.n cb, .slice Av s.n2 cv, .int .u64 (nextS (nextS (nextS st))), .int .i64 0, .slice A k c] := ((KB8.out.set_ 4 _).far (p := ⟨w5.heap.size, 4, none⟩) hbe _).far (p := ⟨w5.heap.size, 5, none⟩) hbe _
        have hzc : Blk (((w8.setCell ⟨b, 4, none⟩ (.int .u64 (nextS (nextS (nextS st))))).setCell ⟨w5.heap.size, 4, none⟩ (.int .i64 (bx - 16384))).setCell ⟨w5.heap.size, 5, none⟩ (.int .i64 (bY - 16384))) (w.heap.size + 1) 46 #[.int .i64 0, .int .i64 0, .slice none 0 0, .slice none 0 0, .int .u64 0, .int .i64 0, .slice none 0 0] := ((((Blk.below HZ5.out KBB.out (by have := HPL.out; omega)).chg KC8.out (by have := HPL.out; omega)).far (p := ⟨b, 4, none⟩) (by have := HPL.out; show w.heap.size + 1 ≠ b; omega) _).far (p := ⟨w5.heap.size, 4, none⟩) (by have := HPL.out; show w.heap.size + 1 ≠ w5.heap.size; omega) _).far (p := ⟨w5.heap.size, 5, none⟩) (by have := HPL.out; show w.heap.size + 1 ≠ w5.heap.size; omega) _
        have b8 : Below w.heap.size w w8 := (HBB5.out.trans (KBB.out.mono HBB5.out.size)).trans (KC8.out.to_below (by have := HBB5.out.size; have := KBB.out.size; omega) (fun q hq => by subst hq; have := HPL.out; omega))
        have pl := HPL.out
        have hBc : Below w.heap.size w (((w8.setCell ⟨b, 4, none⟩ (.int .u64 (nextS (nextS (nextS st))))).setCell ⟨w5.heap.size, 4, none⟩ (.int .i64 (bx - 16384))).setCell ⟨w5.heap.size, 5, none⟩ (.int .i64 (bY - 16384))) := (by repeat (first | with_reducible exact Below.refl _ _ | with_reducible assumption | with_reducible refine Below.drew ?_ | with_reducible refine below_drews ?_ _ | with_reducible refine Below.alloc ?_ (by first | omega | (simp; done) | (simp; omega)) _ | with_reducible refine Below.setCell ?_ (by first | omega | (simp; done) | (simp; omega)) _))
        have hsc : (((w8.setCell ⟨b, 4, none⟩ (.int .u64 (nextS (nextS (nextS st))))).setCell ⟨w5.heap.size, 4, none⟩ (.int .i64 (bx - 16384))).setCell ⟨w5.heap.size, 5, none⟩ (.int .i64 (bY - 16384))).heap.size = w8.heap.size := by simp
        have hnr : Reads ((((w8.setCell ⟨b, 4, none⟩ (.int .u64 (nextS (nextS (nextS st))))).setCell ⟨w5.heap.size, 4, none⟩ (.int .i64 (bx - 16384))).setCell ⟨w5.heap.size, 5, none⟩ (.int .i64 (bY - 16384))).alloc (.cells #[.int .i64 (9 + (k : Int)), .int .i64 2, .int .i64 p.x, .int .i64 p.y, .int .i64 (bx - 16384), .int .i64 (bY - 16384), .int .i64 100, .int .i64 0] 55)) (w8.heap.size + 1) 8 (some ⟨w8.heap.size, 0, none⟩) 1 [.int .i64 (9 + (k : Int)), .int .i64 2, .int .i64 p.x, .int .i64 p.y, .int .i64 (bx - 16384), .int .i64 (bY - 16384), .int .i64 100, .int .i64 0] := Reads.blk (cs := #[.int .i64 (9 + (k : Int)), .int .i64 2, .int .i64 p.x, .int .i64 p.y, .int .i64 (bx - 16384), .int .i64 (bY - 16384), .int .i64 100, .int .i64 0]) (by have := heap_alloc_new (((w8.setCell ⟨b, 4, none⟩ (.int .u64 (nextS (nextS (nextS st))))).setCell ⟨w5.heap.size, 4, none⟩ (.int .i64 (bx - 16384))).setCell ⟨w5.heap.size, 5, none⟩ (.int .i64 (bY - 16384))) (.cells #[.int .i64 (9 + (k : Int)), .int .i64 2, .int .i64 p.x, .int .i64 p.y, .int .i64 (bx - 16384), .int .i64 (bY - 16384), .int .i64 100, .int .i64 0] 55); rw [hsc] at this; exact this) (by omega) rfl
        have hrc2 := hrc.allocd (.cells #[.int .i64 (9 + (k : Int)), .int .i64 2, .int .i64 p.x, .int .i64 p.y, .int .i64 (bx - 16384), .int .i64 (bY - 16384), .int .i64 100, .int .i64 0] 55)
        have hs8 : W.heap.size ≤ w8.heap.size := by have := HWS.out; have := KBB.out.size; have := KC8.out.size; omega
        have HS8 := Lib.hid hs8
        have HNR := Lib.hid hnr
        have HRC := Lib.hid hrc
        have HRC2 := Lib.hid hrc2
        have H1C := Lib.hid h1c
        have H2C := Lib.hid h2c
        have HBC := Lib.hid hbc
        have HZC := Lib.hid hzc
        have HBBC := Lib.hid hBc
        have HSC := Lib.hid hsc
        have HAB := Lib.hid hAb
        clear hrc h1c h2c hbc hzc hBc hsc hnr hrc2 b8 hA5 h15 h25 hAb
        go_wp2_with (at_builtin; refine wpList_row rfl (.tmp 67) (.tmp 69) rfl elt56 A k c (entsV l) rfl HRC2.out (w8.heap.size + 1) (some ⟨w8.heap.size, 0, none⟩) 1 1 [.int .i64 (9 + (k : Int)), .int .i64 2, .int .i64 p.x, .int .i64 p.y, .int .i64 (bx - 16384), .int .i64 (bY - 16384), .int .i64 100, .int .i64 0] rfl HNR.out (by simp [Value.oneCell']) (by omega) ?_; intro A' c' w9 hr9 hg9 hb9; have hb9' := (HBC.out.alloc (.cells #[.int .i64 (9 + (k : Int)), .int .i64 2, .int .i64 p.x, .int .i64 p.y, .int .i64 (bx - 16384), .int .i64 (bY - 16384), .int .i64 100, .int .i64 0] 55)).grown hg9 (fun e => HAB.out b e.symm rfl); have y6 : w9.cell? ⟨b, 6, none⟩ = some (.slice A k c) := hb9'.cell 6; have z6 : w9.frozen? ⟨b, 6, none⟩ = false := hb9'.frozen 6)
        have hnx := HNX.out
        rw [HBX.out, HBY.out] at hnx
        have hsz : ((((w8.setCell ⟨b, 4, none⟩ (.int .u64 (nextS (nextS (nextS st))))).setCell ⟨w5.heap.size, 4, none⟩ (.int .i64 (bx - 16384))).setCell ⟨w5.heap.size, 5, none⟩ (.int .i64 (bY - 16384))).alloc (.cells #[.int .i64 (9 + (k : Int)), .int .i64 2, .int .i64 p.x, .int .i64 p.y, .int .i64 (bx - 16384), .int .i64 (bY - 16384), .int .i64 100, .int .i64 0] 55)).heap.size = w8.heap.size + 1 := by simp
        have hA' : ∀ g, blkOf A' = some g → W.heap.size ≤ g := fun g hg => by
          rcases hb9 with h | h
          · exact HA.out g (h ▸ hg)
          · rw [h, hsz] at hg; injection hg with hg; have := HS8.out; omega
        have hA2 : ∀ g, blkOf A' = some g → g ≠ b := fun g hg => by have := hA' g hg; have := HBL0.out; omega
        have hw9 : w8.heap.size ≤ w9.heap.size := by have := hg9.size; rw [hsz] at this; omega
        have g1 := (H1C.out.allocd (.cells #[.int .i64 (9 + (k : Int)), .int .i64 2, .int .i64 p.x, .int .i64 p.y, .int .i64 (bx - 16384), .int .i64 (bY - 16384), .int .i64 100, .int .i64 0] 55)).keep (w' := w9) (fun g hg => hg9.block g ((H1C.out.allocd _).lt hg) (fun e => by have := HA.out g e.symm; have := HL1.out g hg; omega))
        have g2 := (H2C.out.allocd (.cells #[.int .i64 (9 + (k : Int)), .int .i64 2, .int .i64 p.x, .int .i64 p.y, .int .i64 (bx - 16384), .int .i64 (bY - 16384), .int .i64 100, .int .i64 0] 55)).keep (w' := w9) (fun g hg => hg9.block g ((H2C.out.allocd _).lt hg) (fun e => by have := HA.out g e.symm; have := HL2.out g hg; omega))
        have pl := HPL.out
        have bB : Below w.heap.size w ((((w8.setCell ⟨b, 4, none⟩ (.int .u64 (nextS (nextS (nextS st))))).setCell ⟨w5.heap.size, 4, none⟩ (.int .i64 (bx - 16384))).setCell ⟨w5.heap.size, 5, none⟩ (.int .i64 (bY - 16384))).alloc (.cells #[.int .i64 (9 + (k : Int)), .int .i64 2, .int .i64 p.x, .int .i64 p.y, .int .i64 (bx - 16384), .int .i64 (bY - 16384), .int .i64 100, .int .i64 0] 55)) := HBBC.out.alloc HBBC.out.size _
        have b9 : Below w.heap.size w w9 := bB.grown hg9 bB.size (fun q hq => by have := HA.out q hq; have := HBL0.out; omega)
        refine ⟨⟨k + 1, A', c', hlt, by go_num, by rw [hnx]; exact hb9'.set_ 6 _, ?_, hA', g1.far (p := ⟨b, 6, none⟩) HPN1.out _, g2.far (p := ⟨b, 6, none⟩) HPN2.out _, (by repeat (first | with_reducible exact Below.refl _ _ | with_reducible assumption | with_reducible refine Below.drew ?_ | with_reducible refine below_drews ?_ _ | with_reducible refine Below.alloc ?_ (by first | omega | (simp; done) | (simp; omega)) _ | with_reducible refine Below.setCell ?_ (by first | omega | (simp; done) | (simp; omega)) _)), ((HZC.out.alloc _).grown hg9 (fun e => by have := HA.out _ e.symm; have := HBL0.out; omega)).far (p := ⟨b, 6, none⟩) (by show w.heap.size + 1 ≠ b; omega) _, by have := HS8.out; simp; omega⟩, by simp [intOf]; omega⟩
        rw [hnx]
        have := hr9.far (p := ⟨b, 6, none⟩) hA2 (.slice A' (k + 1) c')
        simpa [entsV, entCells, List.flatMap_append] using this
      · obtain rfl : k = balls := by omega
        have pl := HPL.out
        have y0 : wr.cell? ⟨b, 0, none⟩ = some (.int .i64 m.W) := hbk.cell 0
        have y1 : wr.cell? ⟨b, 1, none⟩ = some (.int .i64 m.H) := hbk.cell 1
        have y2 : wr.cell? ⟨b, 2, none⟩ = some (.slice Ab s.n cb) := hbk.cell 2
        have y3 : wr.cell? ⟨b, 3, none⟩ = some (.slice Av s.n2 cv) := hbk.cell 3
        have y4 : wr.cell? ⟨b, 4, none⟩ = some (.int .u64 (ballsF m k seed).1) := hbk.cell 4
        have y5 : wr.cell? ⟨b, 5, none⟩ = some (.int .i64 0) := hbk.cell 5
        have y6 : wr.cell? ⟨b, 6, none⟩ = some (.slice A k c) := hbk.cell 6
        have x0 : wr.cell? ⟨w.heap.size + 1, 0, none⟩ = some (.int .i64 0) := hzw.cell 0
        have z0 := hzw.frozen 0
        have x1 : wr.cell? ⟨w.heap.size + 1, 1, none⟩ = some (.int .i64 0) := hzw.cell 1
        have z1 := hzw.frozen 1
        have x2 : wr.cell? ⟨w.heap.size + 1, 2, none⟩ = some (.slice none 0 0) := hzw.cell 2
        have z2 := hzw.frozen 2
        have x3 : wr.cell? ⟨w.heap.size + 1, 3, none⟩ = some (.slice none 0 0) := hzw.cell 3
        have z3 := hzw.frozen 3
        have x4 : wr.cell? ⟨w.heap.size + 1, 4, none⟩ = some (.int .u64 0) := hzw.cell 4
        have z4 := hzw.frozen 4
        have x5 : wr.cell? ⟨w.heap.size + 1, 5, none⟩ = some (.int .i64 0) := hzw.cell 5
        have z5 := hzw.frozen 5
        have x6 : wr.cell? ⟨w.heap.size + 1, 6, none⟩ = some (.slice none 0 0) := hzw.cell 6
        have z6 := hzw.frozen 6
        have l1 : w.heap.size + 1 < wr.heap.size := hzw.lt
        have HZW := Lib.hid hzw
        have HRW := Lib.hid hrw
        have HR1 := Lib.hid hr1
        have HR2 := Lib.hid hr2
        have hA2 : ∀ g, blkOf A = some g → g ≠ w.heap.size + 1 := fun g hg => by have := hA g hg; have := HBL0.out; omega
        clear hzw hrw hr1 hr2 hbk
        go_wp2
        have hB5 : Below w.heap.size w (((((((wr.setCell ⟨w.heap.size + 1, 0, none⟩ (.int .i64 m.W)).setCell ⟨w.heap.size + 1, 1, none⟩ (.int .i64 m.H)).setCell ⟨w.heap.size + 1, 2, none⟩ (.slice Ab s.n cb)).setCell ⟨w.heap.size + 1, 3, none⟩ (.slice Av s.n2 cv)).setCell ⟨w.heap.size + 1, 4, none⟩ (.int .u64 (ballsF m k seed).1)).setCell ⟨w.heap.size + 1, 5, none⟩ (.int .i64 0)).setCell ⟨w.heap.size + 1, 6, none⟩ (.slice A k c)) := (by repeat (first | with_reducible exact Below.refl _ _ | with_reducible assumption | with_reducible refine Below.drew ?_ | with_reducible refine below_drews ?_ _ | with_reducible refine Below.alloc ?_ (by first | omega | (simp; done) | (simp; omega)) _ | with_reducible refine Below.setCell ?_ (by first | omega | (simp; done) | (simp; omega)) _))
        have hz5 : Blk (((((((wr.setCell ⟨w.heap.size + 1, 0, none⟩ (.int .i64 m.W)).setCell ⟨w.heap.size + 1, 1, none⟩ (.int .i64 m.H)).setCell ⟨w.heap.size + 1, 2, none⟩ (.slice Ab s.n cb)).setCell ⟨w.heap.size + 1, 3, none⟩ (.slice Av s.n2 cv)).setCell ⟨w.heap.size + 1, 4, none⟩ (.int .u64 (ballsF m k seed).1)).setCell ⟨w.heap.size + 1, 5, none⟩ (.int .i64 0)).setCell ⟨w.heap.size + 1, 6, none⟩ (.slice A k c)) (w.heap.size + 1) 46 #[.int .i64 m.W, .int .i64 m.H, .slice Ab s.n cb, .slice Av s.n2 cv, .int .u64 (ballsF m k seed).1, .int .i64 0, .slice A k c] := (((((((HZW.out.set_ 0 (.int .i64 m.W)).set_ 1 (.int .i64 m.H)).set_ 2 (.slice Ab s.n cb)).set_ 3 (.slice Av s.n2 cv)).set_ 4 (.int .u64 (ballsF m k seed).1)).set_ 5 (.int .i64 0)).set_ 6 (.slice A k c))
        have hzz : ∀ j : Nat, j ≠ w.heap.size + 1 → (((((((wr.setCell ⟨w.heap.size + 1, 0, none⟩ (.int .i64 m.W)).setCell ⟨w.heap.size + 1, 1, none⟩ (.int .i64 m.H)).setCell ⟨w.heap.size + 1, 2, none⟩ (.slice Ab s.n cb)).setCell ⟨w.heap.size + 1, 3, none⟩ (.slice Av s.n2 cv)).setCell ⟨w.heap.size + 1, 4, none⟩ (.int .u64 (ballsF m k seed).1)).setCell ⟨w.heap.size + 1, 5, none⟩ (.int .i64 0)).setCell ⟨w.heap.size + 1, 6, none⟩ (.slice A k c)).heap[j]? = wr.heap[j]? := fun j hj => (Below.heap_setCell _ _ _ j hj).trans ((Below.heap_setCell _ _ _ j hj).trans ((Below.heap_setCell _ _ _ j hj).trans ((Below.heap_setCell _ _ _ j hj).trans ((Below.heap_setCell _ _ _ j hj).trans ((Below.heap_setCell _ _ _ j hj).trans (Below.heap_setCell _ _ _ j hj))))))
        have hr5 := HRW.out.keep (w' := (((((((wr.setCell ⟨w.heap.size + 1, 0, none⟩ (.int .i64 m.W)).setCell ⟨w.heap.size + 1, 1, none⟩ (.int .i64 m.H)).setCell ⟨w.heap.size + 1, 2, none⟩ (.slice Ab s.n cb)).setCell ⟨w.heap.size + 1, 3, none⟩ (.slice Av s.n2 cv)).setCell ⟨w.heap.size + 1, 4, none⟩ (.int .u64 (ballsF m k seed).1)).setCell ⟨w.heap.size + 1, 5, none⟩ (.int .i64 0)).setCell ⟨w.heap.size + 1, 6, none⟩ (.slice A k c))) (fun g hg => hzz g (hA2 g hg))
        have hr15 := HR1.out.keep (w' := (((((((wr.setCell ⟨w.heap.size + 1, 0, none⟩ (.int .i64 m.W)).setCell ⟨w.heap.size + 1, 1, none⟩ (.int .i64 m.H)).setCell ⟨w.heap.size + 1, 2, none⟩ (.slice Ab s.n cb)).setCell ⟨w.heap.size + 1, 3, none⟩ (.slice Av s.n2 cv)).setCell ⟨w.heap.size + 1, 4, none⟩ (.int .u64 (ballsF m k seed).1)).setCell ⟨w.heap.size + 1, 5, none⟩ (.int .i64 0)).setCell ⟨w.heap.size + 1, 6, none⟩ (.slice A k c))) (fun g hg => hzz g (by have := HPM1.out g hg; omega))
        have hr25 := HR2.out.keep (w' := (((((((wr.setCell ⟨w.heap.size + 1, 0, none⟩ (.int .i64 m.W)).setCell ⟨w.heap.size + 1, 1, none⟩ (.int .i64 m.H)).setCell ⟨w.heap.size + 1, 2, none⟩ (.slice Ab s.n cb)).setCell ⟨w.heap.size + 1, 3, none⟩ (.slice Av s.n2 cv)).setCell ⟨w.heap.size + 1, 4, none⟩ (.int .u64 (ballsF m k seed).1)).setCell ⟨w.heap.size + 1, 5, none⟩ (.int .i64 0)).setCell ⟨w.heap.size + 1, 6, none⟩ (.slice A k c))) (fun g hg => hzz g (by have := HPM2.out g hg; omega))
        clear hzz
        generalize (((((((wr.setCell ⟨w.heap.size + 1, 0, none⟩ (.int .i64 m.W)).setCell ⟨w.heap.size + 1, 1, none⟩ (.int .i64 m.H)).setCell ⟨w.heap.size + 1, 2, none⟩ (.slice Ab s.n cb)).setCell ⟨w.heap.size + 1, 3, none⟩ (.slice Av s.n2 cv)).setCell ⟨w.heap.size + 1, 4, none⟩ (.int .u64 (ballsF m k seed).1)).setCell ⟨w.heap.size + 1, 5, none⟩ (.int .i64 0)).setCell ⟨w.heap.size + 1, 6, none⟩ (.slice A k c)) = wf at hB5 hz5 hr5 hr15 hr25 ⊢
        have q0 : wf.cell? ⟨w.heap.size + 1, 0, none⟩ = some (.int .i64 m.W) := hz5.cell 0
        have q1 : wf.cell? ⟨w.heap.size + 1, 1, none⟩ = some (.int .i64 m.H) := hz5.cell 1
        have q2 : wf.cell? ⟨w.heap.size + 1, 2, none⟩ = some (.slice Ab s.n cb) := hz5.cell 2
        have q3 : wf.cell? ⟨w.heap.size + 1, 3, none⟩ = some (.slice Av s.n2 cv) := hz5.cell 3
        have q4 : wf.cell? ⟨w.heap.size + 1, 4, none⟩ = some (.int .u64 (ballsF m k seed).1) := hz5.cell 4
        have q5 : wf.cell? ⟨w.heap.size + 1, 5, none⟩ = some (.int .i64 0) := hz5.cell 5
        have q6 : wf.cell? ⟨w.heap.size + 1, 6, none⟩ = some (.slice A k c) := hz5.cell 6
        refine bodyPost_ret (v := .tuple #[.agg #[.int .i64 m.W, .int .i64 m.H, .slice Ab s.n cb, .slice Av s.n2 cv, .int .u64 (ballsF m k seed).1, .int .i64 0, .slice A k c], .int .i64 0]) (by simp [results, Tryz.results89, go_sem, q0, q1, q2, q3, q4, q5, q6]) rfl ?_
        exact ⟨⟨⟨Ab, s.n, cb, Av, s.n2, cv⟩, A, k, c⟩, rfl, ⟨⟨hr15.reads (by decide), hr25.reads (by decide), hr15.2.1, (by have := hr15.2.2.1; unfold maxLen at this; exact this), (by show s.n2 ≤ _; omega)⟩, hr5.reads (by decide), hr5.2.1⟩, hB5⟩
end Go.Proofs.YtojbijapdkohlaaGreatDoor
