/- The walk of world.Hit. The walk of world.Leave. -/
import Derived.Test.YtojbijapdkohlaaGreatDoorQ10WFind
import Derived.Test.YtojbijapdkohlaaGreatDoorQ12WInsG
set_option linter.unusedSimpArgs false
set_option linter.unusedVariables false
namespace Go.Proofs.YtojbijapdkohlaaGreatDoor
open Go.RowKit
def ent0 : EntV := ⟨0, 0, ⟨0, 0⟩, ⟨0, 0⟩, 0, 0⟩
def atPlayer (l : List EntV) (id : Int) (f : EntV → EntV) : List EntV := if playerF l id = -1 then l else l.set (playerF l id).toNat (f (l.getD (playerF l id).toNat ent0))
def hitP (by_ : Int) (e : EntV) : EntV := if e.health = 0 ∨ by_ < 1 then e else hitE e by_
theorem set_same {α : Type} {l : List α} {k : Nat} {e : α} (h : l[k]? = some e) : l.set k e = l := by
  apply List.ext_getElem?
  intro i
  rw [List.getElem?_set]
  split
  · next hi => subst hi; rw [h]; simp [(List.getElem?_eq_some_iff.1 h).1]
  · rfl
theorem atPlayer_spec (l : List EntV) (id : Int) (f : EntV → EntV) : (playerF l id = -1 ∧ atPlayer l id f = l) ∨ ∃ (k : Nat) (e : EntV), playerF l id = (k : Int) ∧ l[k]? = some e ∧ e.id = id ∧ e.kind = 1 ∧ atPlayer l id f = l.set k (f e) := by
  rcases playerF_spec l id with h | ⟨k, e, h1, h2, h3, h4⟩
  · exact .inl ⟨h, by unfold atPlayer; rw [if_pos h]⟩
  · refine .inr ⟨k, e, h1, h2, h3, h4, ?_⟩
    unfold atPlayer
    rw [if_neg (by omega), h1, Int.toNat_natCast, List.getD_eq_getElem?_getD, h2, Option.getD_some]
/-- The row of entities is the old one, or a new one. -/
def Held (w w' : World) (s s' : WorldS) (l' : List EntV) : Prop := (s'.A = s.A ∧ s'.n = s.n) ∨ (Row w' 55 8 s'.A s'.n s'.c (entsV l') ∧ ∀ q, blkOf s'.A = some q → w.heap.size ≤ q)
/-- What a world's function hands back. -/
def Gives (w w' : World) (v : WorldV) (s : WorldS) (r : Ending) (v' : WorldV) : Prop :=
  ∃ s' : WorldS, r = .returned (.agg #[.int .i64 v'.map.W, .int .i64 v'.map.H, .slice s'.ms.A s'.ms.n s'.ms.c, .slice s'.ms.A2 s'.ms.n2 s'.ms.c2, .int .u64 v'.st, .int .i64 v'.tick, .slice s'.A s'.n s'.c]) ∧ WorldAt w' w'.heap.size v' s' ∧ s'.ms = s.ms ∧ Held w w' s s' v'.l ∧ Below w.heap.size w w'
theorem Row.worldAt {w w0 : World} {B : Nat} {v : WorldV} {s : WorldS} (h : WorldAt w0 B v s) (hb : Below B w0 w) (hB : B ≤ w.heap.size) {A : Option Addr} {n c : Nat} {l : List EntV} (hr : Row w 55 8 A n c (entsV l)) (st tick : Int) :
    WorldAt w w.heap.size ⟨v.map, st, tick, l⟩ ⟨s.ms, A, n, c⟩ := ⟨(h.map.below hb).upto hB, hr.reads (by decide), hr.2.1⟩
set_option maxRecDepth 100000 in
set_option maxHeartbeats 8000000 in
theorem wHitNo (v : WorldV) (s : WorldS) (id by_ : Int) (w : World) (h : WorldAt w w.heap.size v s) (hn : s.n ≤ 1000) (hno : playerF v.l id = -1 ∨ ∃ (k : Nat) (e : EntV), playerF v.l id = (k : Int) ∧ v.l[k]? = some e ∧ (e.health = 0 ∨ by_ < 1)) :
    Calls Tryz.prog 168 #[(.agg #[.int .i64 v.map.W, .int .i64 v.map.H, .slice s.ms.A s.ms.n s.ms.c, .slice s.ms.A2 s.ms.n2 s.ms.c2, .int .u64 v.st, .int .i64 v.tick, .slice s.A s.n s.c]), .int .i64 id, .int .i64 by_] w fun r w' => r = .returned (.agg #[.int .i64 v.map.W, .int .i64 v.map.H, .slice s.ms.A s.ms.n s.ms.c, .slice s.ms.A2 s.ms.n2 s.ms.c2, .int .u64 v.st, .int .i64 v.tick, .slice s.A s.n s.c]) ∧ Below w.heap.size w w' := by
  have hP := fun W (hW : Below w.heap.size w W) => wPlayer v s id W ((h.l.below hW).upto hW.size) (by omega)
  have HP := Lib.hid hP
  have hlen := h.len
  clear hP
  rcases hno with h1 | ⟨k, e, h1, h2, h3⟩
  · clear h
    go_enter Tryz.func168, Tryz.ntmps168
    go_wp2_with (go_at_call 156; refine (HP.out _ (by repeat (first | with_reducible exact Below.refl _ _ | with_reducible assumption | with_reducible refine Below.drew ?_ | with_reducible refine below_drews ?_ _ | with_reducible refine Below.alloc ?_ (by first | omega | (simp; done) | (simp; omega)) _ | with_reducible refine Below.setCell ?_ (by first | omega | (simp; done) | (simp; omega)) _))).mono ?_; rw [h1]; rintro r w1 ⟨rfl, hb1⟩; obtain ⟨hc1, hf1⟩ := bcell hb1; have hs1 := hb1.size; (try simp at hs1); have l1 : w.heap.size < w1.heap.size := (by omega); have l2 : w.heap.size + 1 < w1.heap.size := (by omega); have B1 : Below w.heap.size w w1 := Below.trans (by repeat (first | with_reducible exact Below.refl _ _ | with_reducible assumption | with_reducible refine Below.drew ?_ | with_reducible refine below_drews ?_ _ | with_reducible refine Below.alloc ?_ (by first | omega | (simp; done) | (simp; omega)) _ | with_reducible refine Below.setCell ?_ (by first | omega | (simp; done) | (simp; omega)) _)) (hb1.mono (by simp; omega)))
    refine bodyPost_ret (v := (.agg #[.int .i64 v.map.W, .int .i64 v.map.H, .slice s.ms.A s.ms.n s.ms.c, .slice s.ms.A2 s.ms.n2 s.ms.c2, .int .u64 v.st, .int .i64 v.tick, .slice s.A s.n s.c])) (by simp [results, Tryz.results168, go_sem, hc1, hf1, l1, l2]) rfl ⟨rfl, (by repeat (first | with_reducible exact Below.refl _ _ | with_reducible assumption | with_reducible refine Below.drew ?_ | with_reducible refine below_drews ?_ _ | with_reducible refine Below.alloc ?_ (by first | omega | (simp; done) | (simp; omega)) _ | with_reducible refine Below.setCell ?_ (by first | omega | (simp; done) | (simp; omega)) _))⟩
  · have hk : k < s.n := by rw [← hlen]; exact (List.getElem?_eq_some_iff.1 h2).1
    obtain ⟨g, off, hA, hg, hc⟩ := h.l.flat (by omega) (by decide)
    have ck : w.cell? ⟨g, off + k * 8 + 6, none⟩ = some (.int .i64 e.health) := by rw [Nat.add_assoc]; exact hc _ _ ((entsV_at h2 6 (by decide)).trans rfl)
    obtain ⟨m, st, tick, l⟩ := v
    obtain ⟨ms, A, n, c⟩ := s
    simp only at hA hk
    subst hA
    by_cases h4 : e.health = 0
    · have t1 : (e.health == 0) = true := by rw [h4]; rfl
      clear h hc h2 h3 h4 hlen
      go_enter Tryz.func168, Tryz.ntmps168
      go_wp2_with (go_at_call 156; refine (HP.out _ (by repeat (first | with_reducible exact Below.refl _ _ | with_reducible assumption | with_reducible refine Below.drew ?_ | with_reducible refine below_drews ?_ _ | with_reducible refine Below.alloc ?_ (by first | omega | (simp; done) | (simp; omega)) _ | with_reducible refine Below.setCell ?_ (by first | omega | (simp; done) | (simp; omega)) _))).mono ?_; rw [h1]; rintro r w1 ⟨rfl, hb1⟩; obtain ⟨hc1, hf1⟩ := bcell hb1; have hs1 := hb1.size; (try simp at hs1); have l1 : w.heap.size < w1.heap.size := (by omega); have l2 : w.heap.size + 1 < w1.heap.size := (by omega); have l3 : g < w.heap.size + 1 + 1 := (by omega); have l4 : g < w.heap.size + 1 := (by omega); have B1 : Below w.heap.size w w1 := Below.trans (by repeat (first | with_reducible exact Below.refl _ _ | with_reducible assumption | with_reducible refine Below.drew ?_ | with_reducible refine below_drews ?_ _ | with_reducible refine Below.alloc ?_ (by first | omega | (simp; done) | (simp; omega)) _ | with_reducible refine Below.setCell ?_ (by first | omega | (simp; done) | (simp; omega)) _)) (hb1.mono (by simp; omega)))
      refine bodyPost_ret (v := (.agg #[.int .i64 (WorldV.mk m st tick l).map.W, .int .i64 (WorldV.mk m st tick l).map.H, .slice (WorldS.mk ms (some ⟨g, off, none⟩) n c).ms.A (WorldS.mk ms (some ⟨g, off, none⟩) n c).ms.n (WorldS.mk ms (some ⟨g, off, none⟩) n c).ms.c, .slice (WorldS.mk ms (some ⟨g, off, none⟩) n c).ms.A2 (WorldS.mk ms (some ⟨g, off, none⟩) n c).ms.n2 (WorldS.mk ms (some ⟨g, off, none⟩) n c).ms.c2, .int .u64 (WorldV.mk m st tick l).st, .int .i64 (WorldV.mk m st tick l).tick, .slice (WorldS.mk ms (some ⟨g, off, none⟩) n c).A (WorldS.mk ms (some ⟨g, off, none⟩) n c).n (WorldS.mk ms (some ⟨g, off, none⟩) n c).c])) (by simp [results, Tryz.results168, go_sem, hc1, hf1, l1, l2]) rfl ⟨rfl, (by repeat (first | with_reducible exact Below.refl _ _ | with_reducible assumption | with_reducible refine Below.drew ?_ | with_reducible refine below_drews ?_ _ | with_reducible refine Below.alloc ?_ (by first | omega | (simp; done) | (simp; omega)) _ | with_reducible refine Below.setCell ?_ (by first | omega | (simp; done) | (simp; omega)) _))⟩
    · have h5 : by_ < 1 := h3.resolve_left h4
      have t1 : (e.health == 0) = false := beq_eq_false_iff_ne.2 h4
      clear h hc h2 h3 h4 hlen
      go_enter Tryz.func168, Tryz.ntmps168
      go_wp2_with (go_at_call 156; refine (HP.out _ (by repeat (first | with_reducible exact Below.refl _ _ | with_reducible assumption | with_reducible refine Below.drew ?_ | with_reducible refine below_drews ?_ _ | with_reducible refine Below.alloc ?_ (by first | omega | (simp; done) | (simp; omega)) _ | with_reducible refine Below.setCell ?_ (by first | omega | (simp; done) | (simp; omega)) _))).mono ?_; rw [h1]; rintro r w1 ⟨rfl, hb1⟩; obtain ⟨hc1, hf1⟩ := bcell hb1; have hs1 := hb1.size; (try simp at hs1); have l1 : w.heap.size < w1.heap.size := (by omega); have l2 : w.heap.size + 1 < w1.heap.size := (by omega); have l3 : g < w.heap.size + 1 + 1 := (by omega); have l4 : g < w.heap.size + 1 := (by omega); have B1 : Below w.heap.size w w1 := Below.trans (by repeat (first | with_reducible exact Below.refl _ _ | with_reducible assumption | with_reducible refine Below.drew ?_ | with_reducible refine below_drews ?_ _ | with_reducible refine Below.alloc ?_ (by first | omega | (simp; done) | (simp; omega)) _ | with_reducible refine Below.setCell ?_ (by first | omega | (simp; done) | (simp; omega)) _)) (hb1.mono (by simp; omega)))
      refine bodyPost_ret (v := (.agg #[.int .i64 (WorldV.mk m st tick l).map.W, .int .i64 (WorldV.mk m st tick l).map.H, .slice (WorldS.mk ms (some ⟨g, off, none⟩) n c).ms.A (WorldS.mk ms (some ⟨g, off, none⟩) n c).ms.n (WorldS.mk ms (some ⟨g, off, none⟩) n c).ms.c, .slice (WorldS.mk ms (some ⟨g, off, none⟩) n c).ms.A2 (WorldS.mk ms (some ⟨g, off, none⟩) n c).ms.n2 (WorldS.mk ms (some ⟨g, off, none⟩) n c).ms.c2, .int .u64 (WorldV.mk m st tick l).st, .int .i64 (WorldV.mk m st tick l).tick, .slice (WorldS.mk ms (some ⟨g, off, none⟩) n c).A (WorldS.mk ms (some ⟨g, off, none⟩) n c).n (WorldS.mk ms (some ⟨g, off, none⟩) n c).c])) (by simp [results, Tryz.results168, go_sem, hc1, hf1, l1, l2]) rfl ⟨rfl, (by repeat (first | with_reducible exact Below.refl _ _ | with_reducible assumption | with_reducible refine Below.drew ?_ | with_reducible refine below_drews ?_ _ | with_reducible refine Below.alloc ?_ (by first | omega | (simp; done) | (simp; omega)) _ | with_reducible refine Below.setCell ?_ (by first | omega | (simp; done) | (simp; omega)) _))⟩
set_option maxRecDepth 100000 in
set_option maxHeartbeats 8000000 in
theorem wHitYes (v : WorldV) (s : WorldS) (id by_ : Int) (k : Nat) (e : EntV) (w : World) (h : WorldAt w w.heap.size v s) (hn : s.n ≤ 1000) (h1 : playerF v.l id = (k : Int)) (h2 : v.l[k]? = some e) (h3 : e.health ≠ 0) (h4 : 1 ≤ by_) (h5 : by_ ≤ 9223372036854775807) (h6 : 0 ≤ e.health) (h7 : e.health ≤ 9223372036854775807) :
    Calls Tryz.prog 168 #[(.agg #[.int .i64 v.map.W, .int .i64 v.map.H, .slice s.ms.A s.ms.n s.ms.c, .slice s.ms.A2 s.ms.n2 s.ms.c2, .int .u64 v.st, .int .i64 v.tick, .slice s.A s.n s.c]), .int .i64 id, .int .i64 by_] w fun r w' => Gives w w' v s r ⟨v.map, v.st, v.tick, v.l.set k (hitE e by_)⟩ := by
  have hP := fun W (hW : Below w.heap.size w W) => wPlayer v s id W ((h.l.below hW).upto hW.size) (by omega)
  have hC := fun W (hW : Below w.heap.size w W) => cloneE v.l W s.A s.n s.c ((h.l.below hW).upto hW.size) (by omega)
  have hlen := h.len
  have hk : k < s.n := by rw [← hlen]; exact (List.getElem?_eq_some_iff.1 h2).1
  obtain ⟨g0, off0, hA, hg, hc⟩ := h.l.flat (by omega) (by decide)
  have ck : w.cell? ⟨g0, off0 + k * 8 + 6, none⟩ = some (.int .i64 e.health) := by rw [Nat.add_assoc]; exact hc _ _ ((entsV_at h2 6 (by decide)).trans rfl)
  have t1 : (e.health == 0) = false := beq_eq_false_iff_ne.2 h3
  have t2 : decide (by_ < 1) = false := decide_eq_false (by omega)
  have HP := Lib.hid hP
  have HC := Lib.hid hC
  have HW := Lib.hid h
  have H2 := Lib.hid h2
  clear h hP hC h2 hc hlen h3
  obtain ⟨m, st, tick, l⟩ := v
  obtain ⟨ms, A0, n, c0⟩ := s
  simp only at hA hk
  subst hA
  go_enter Tryz.func168, Tryz.ntmps168
  go_wp2_with (go_at_call 156; refine (HP.out _ (by repeat (first | with_reducible exact Below.refl _ _ | with_reducible assumption | with_reducible refine Below.drew ?_ | with_reducible refine below_drews ?_ _ | with_reducible refine Below.alloc ?_ (by first | omega | (simp; done) | (simp; omega)) _ | with_reducible refine Below.setCell ?_ (by first | omega | (simp; done) | (simp; omega)) _))).mono ?_; rw [h1]; rintro r w1 ⟨rfl, hb1⟩; obtain ⟨hc1, hf1⟩ := bcell hb1; have hs1 := hb1.size; (try simp at hs1); have l1 : w.heap.size < w1.heap.size := (by omega); have l2 : w.heap.size + 1 < w1.heap.size := (by omega); have l3 : g0 < w.heap.size + 1 + 1 := (by omega); have l4 : g0 < w.heap.size + 1 := (by omega); have B1 : Below w.heap.size w w1 := Below.trans (by repeat (first | with_reducible exact Below.refl _ _ | with_reducible assumption | with_reducible refine Below.drew ?_ | with_reducible refine below_drews ?_ _ | with_reducible refine Below.alloc ?_ (by first | omega | (simp; done) | (simp; omega)) _ | with_reducible refine Below.setCell ?_ (by first | omega | (simp; done) | (simp; omega)) _)) (hb1.mono (by simp; omega)))
  have mb : Blk w1 w.heap.size 46 #[.int .i64 m.W, .int .i64 m.H, .slice ms.A ms.n ms.c, .slice ms.A2 ms.n2 ms.c2, .int .u64 st, .int .i64 tick, .slice (some ⟨g0, off0, none⟩) n c0] := Blk.below ((Blk.new _ _ _).alloc _) hb1 (by simp; omega)
  have mz : Blk w1 (w.heap.size + 1) 46 #[.int .i64 0, .int .i64 0, .slice none 0 0, .slice none 0 0, .int .u64 0, .int .i64 0, .slice none 0 0] := by
    have := Blk.below (Blk.new (w.alloc _) _ _) hb1 (by simp)
    simpa using this
  refine (HC.out _ B1).mono ?_
  rintro r w2 ⟨A, c, rfl, hr2, hf2, hb2⟩
  obtain ⟨g, off, rfl, hgl, -⟩ := hr2.ent (e := e) H2.out
  have hg2 : w1.heap.size ≤ g := hf2 g rfl
  have mb2 := Blk.below mb hb2 l1
  have mz2 := Blk.below mz hb2 l2
  have hs2 := hb2.size
  have hne : g ≠ w.heap.size := by omega
  have hne2 : g ≠ w.heap.size + 1 := by omega
  have l5 : w.heap.size < w2.heap.size := by omega
  have B2 : Below w.heap.size w w2 := B1.trans (hb2.mono (by omega))
  have y0 : w2.cell? ⟨w.heap.size, 0, none⟩ = some (.int .i64 m.W) := mb2.cell 0
  have y1 : w2.cell? ⟨w.heap.size, 1, none⟩ = some (.int .i64 m.H) := mb2.cell 1
  have y2 : w2.cell? ⟨w.heap.size, 2, none⟩ = some (.slice ms.A ms.n ms.c) := mb2.cell 2
  have y3 : w2.cell? ⟨w.heap.size, 3, none⟩ = some (.slice ms.A2 ms.n2 ms.c2) := mb2.cell 3
  have y4 : w2.cell? ⟨w.heap.size, 4, none⟩ = some (.int .u64 st) := mb2.cell 4
  have y5 : w2.cell? ⟨w.heap.size, 5, none⟩ = some (.int .i64 tick) := mb2.cell 5
  have y6 : w2.cell? ⟨w.heap.size, 6, none⟩ = some (.slice (some ⟨g0, off0, none⟩) n c0) := mb2.cell 6
  have z0 := mb2.frozen 0
  have z1 := mb2.frozen 1
  have z2 := mb2.frozen 2
  have z3 := mb2.frozen 3
  have z4 := mb2.frozen 4
  have z5 := mb2.frozen 5
  have z6 := mb2.frozen 6
  have hr3 : Row (w2.setCell ⟨w.heap.size, 6, none⟩ (.slice (some ⟨g, off, none⟩) n c)) 55 8 (some ⟨g, off, none⟩) n c (entsV l) := hr2.keep (fun q hq => by cases hq; exact Below.heap_setCell _ _ _ _ hne)
  have mb3 : Blk (w2.setCell ⟨w.heap.size, 6, none⟩ (.slice (some ⟨g, off, none⟩) n c)) w.heap.size 46 #[.int .i64 m.W, .int .i64 m.H, .slice ms.A ms.n ms.c, .slice ms.A2 ms.n2 ms.c2, .int .u64 st, .int .i64 tick, .slice (some ⟨g, off, none⟩) n c] := mb2.set_ 6 _
  have mz3 : Blk (w2.setCell ⟨w.heap.size, 6, none⟩ (.slice (some ⟨g, off, none⟩) n c)) (w.heap.size + 1) 46 #[.int .i64 0, .int .i64 0, .slice none 0 0, .slice none 0 0, .int .u64 0, .int .i64 0, .slice none 0 0] := mz2.far (by simp) _
  have B3 : Below w.heap.size w (w2.setCell ⟨w.heap.size, 6, none⟩ (.slice (some ⟨g, off, none⟩) n c)) := (by repeat (first | with_reducible exact Below.refl _ _ | with_reducible assumption | with_reducible refine Below.drew ?_ | with_reducible refine below_drews ?_ _ | with_reducible refine Below.alloc ?_ (by first | omega | (simp; done) | (simp; omega)) _ | with_reducible refine Below.setCell ?_ (by first | omega | (simp; done) | (simp; omega)) _))
  have hs3 : (w2.setCell ⟨w.heap.size, 6, none⟩ (.slice (some ⟨g, off, none⟩) n c)).heap.size = w2.heap.size := by simp
  have HR3 := Lib.hid hr3
  have HB3 := Lib.hid mb3
  have HZ3 := Lib.hid mz3
  have HBB := Lib.hid B3
  clear hr2 hr3 mb3 mz3 B3 mb mz mb2 mz2 hc1 hf1
  go_wp2_with fail
  refine (wHit l _ n c k g off e by_ _ HR3.out rfl H2.out (by omega) h6 h7 h5).mono ?_
  rintro r w4 ⟨rfl, hr4, hc4⟩
  have mb4 := HB3.out.chg hc4 (Ne.symm hne)
  have mz4 := HZ3.out.chg hc4 (Ne.symm hne2)
  have hs4 := hc4.size
  have B4 : Below w.heap.size w w4 := HBB.out.trans (hc4.to_below (by omega) (fun q hq => by subst hq; omega))
  clear hc4 y0 z0 y1 z1 y2 z2 y3 z3 y4 z4 y5 z5 y6 z6
  have y0 : w4.cell? ⟨w.heap.size, 0, none⟩ = some (.int .i64 m.W) := mb4.cell 0
  have y1 : w4.cell? ⟨w.heap.size, 1, none⟩ = some (.int .i64 m.H) := mb4.cell 1
  have y2 : w4.cell? ⟨w.heap.size, 2, none⟩ = some (.slice ms.A ms.n ms.c) := mb4.cell 2
  have y3 : w4.cell? ⟨w.heap.size, 3, none⟩ = some (.slice ms.A2 ms.n2 ms.c2) := mb4.cell 3
  have y4 : w4.cell? ⟨w.heap.size, 4, none⟩ = some (.int .u64 st) := mb4.cell 4
  have y5 : w4.cell? ⟨w.heap.size, 5, none⟩ = some (.int .i64 tick) := mb4.cell 5
  have y6 : w4.cell? ⟨w.heap.size, 6, none⟩ = some (.slice (some ⟨g, off, none⟩) n c) := mb4.cell 6
  have x0 : w4.cell? ⟨w.heap.size + 1, 0, none⟩ = some (.int .i64 0) := mz4.cell 0
  have x1 : w4.cell? ⟨w.heap.size + 1, 1, none⟩ = some (.int .i64 0) := mz4.cell 1
  have x2 : w4.cell? ⟨w.heap.size + 1, 2, none⟩ = some (.slice none 0 0) := mz4.cell 2
  have x3 : w4.cell? ⟨w.heap.size + 1, 3, none⟩ = some (.slice none 0 0) := mz4.cell 3
  have x4 : w4.cell? ⟨w.heap.size + 1, 4, none⟩ = some (.int .u64 0) := mz4.cell 4
  have x5 : w4.cell? ⟨w.heap.size + 1, 5, none⟩ = some (.int .i64 0) := mz4.cell 5
  have x6 : w4.cell? ⟨w.heap.size + 1, 6, none⟩ = some (.slice none 0 0) := mz4.cell 6
  have z0 := mz4.frozen 0
  have z1 := mz4.frozen 1
  have z2 := mz4.frozen 2
  have z3 := mz4.frozen 3
  have z4 := mz4.frozen 4
  have z5 := mz4.frozen 5
  have z6 := mz4.frozen 6
  have l6 : w.heap.size + 1 < w4.heap.size := by omega
  have HZ4 := Lib.hid mz4
  clear mb4 mz4
  have hzz : ∀ j : Nat, j ≠ w.heap.size + 1 → (((((((w4.setCell ⟨w.heap.size + 1, 0, none⟩ (.int .i64 m.W)).setCell ⟨w.heap.size + 1, 1, none⟩ (.int .i64 m.H)).setCell ⟨w.heap.size + 1, 2, none⟩ (.slice ms.A ms.n ms.c)).setCell ⟨w.heap.size + 1, 3, none⟩ (.slice ms.A2 ms.n2 ms.c2)).setCell ⟨w.heap.size + 1, 4, none⟩ (.int .u64 st)).setCell ⟨w.heap.size + 1, 5, none⟩ (.int .i64 tick)).setCell ⟨w.heap.size + 1, 6, none⟩ (.slice (some ⟨g, off, none⟩) n c)).heap[j]? = w4.heap[j]? := fun j hj => (Below.heap_setCell _ _ _ j hj).trans ((Below.heap_setCell _ _ _ j hj).trans ((Below.heap_setCell _ _ _ j hj).trans ((Below.heap_setCell _ _ _ j hj).trans ((Below.heap_setCell _ _ _ j hj).trans ((Below.heap_setCell _ _ _ j hj).trans (Below.heap_setCell _ _ _ j hj))))))
  go_wp2
  have B5 : Below w.heap.size w (((((((w4.setCell ⟨w.heap.size + 1, 0, none⟩ (.int .i64 m.W)).setCell ⟨w.heap.size + 1, 1, none⟩ (.int .i64 m.H)).setCell ⟨w.heap.size + 1, 2, none⟩ (.slice ms.A ms.n ms.c)).setCell ⟨w.heap.size + 1, 3, none⟩ (.slice ms.A2 ms.n2 ms.c2)).setCell ⟨w.heap.size + 1, 4, none⟩ (.int .u64 st)).setCell ⟨w.heap.size + 1, 5, none⟩ (.int .i64 tick)).setCell ⟨w.heap.size + 1, 6, none⟩ (.slice (some ⟨g, off, none⟩) n c)) := (by repeat (first | with_reducible exact Below.refl _ _ | with_reducible assumption | with_reducible refine Below.drew ?_ | with_reducible refine below_drews ?_ _ | with_reducible refine Below.alloc ?_ (by first | omega | (simp; done) | (simp; omega)) _ | with_reducible refine Below.setCell ?_ (by first | omega | (simp; done) | (simp; omega)) _))
  have mz5 : Blk (((((((w4.setCell ⟨w.heap.size + 1, 0, none⟩ (.int .i64 m.W)).setCell ⟨w.heap.size + 1, 1, none⟩ (.int .i64 m.H)).setCell ⟨w.heap.size + 1, 2, none⟩ (.slice ms.A ms.n ms.c)).setCell ⟨w.heap.size + 1, 3, none⟩ (.slice ms.A2 ms.n2 ms.c2)).setCell ⟨w.heap.size + 1, 4, none⟩ (.int .u64 st)).setCell ⟨w.heap.size + 1, 5, none⟩ (.int .i64 tick)).setCell ⟨w.heap.size + 1, 6, none⟩ (.slice (some ⟨g, off, none⟩) n c)) (w.heap.size + 1) 46 #[.int .i64 m.W, .int .i64 m.H, .slice ms.A ms.n ms.c, .slice ms.A2 ms.n2 ms.c2, .int .u64 st, .int .i64 tick, .slice (some ⟨g, off, none⟩) n c] := (((((((HZ4.out.set_ 0 (.int .i64 m.W)).set_ 1 (.int .i64 m.H)).set_ 2 (.slice ms.A ms.n ms.c)).set_ 3 (.slice ms.A2 ms.n2 ms.c2)).set_ 4 (.int .u64 st)).set_ 5 (.int .i64 tick)).set_ 6 (.slice (some ⟨g, off, none⟩) n c))
  have hr5 := hr4.keep (w' := (((((((w4.setCell ⟨w.heap.size + 1, 0, none⟩ (.int .i64 m.W)).setCell ⟨w.heap.size + 1, 1, none⟩ (.int .i64 m.H)).setCell ⟨w.heap.size + 1, 2, none⟩ (.slice ms.A ms.n ms.c)).setCell ⟨w.heap.size + 1, 3, none⟩ (.slice ms.A2 ms.n2 ms.c2)).setCell ⟨w.heap.size + 1, 4, none⟩ (.int .u64 st)).setCell ⟨w.heap.size + 1, 5, none⟩ (.int .i64 tick)).setCell ⟨w.heap.size + 1, 6, none⟩ (.slice (some ⟨g, off, none⟩) n c))) (fun q hq => by cases hq; exact hzz _ hne2)
  generalize (((((((w4.setCell ⟨w.heap.size + 1, 0, none⟩ (.int .i64 m.W)).setCell ⟨w.heap.size + 1, 1, none⟩ (.int .i64 m.H)).setCell ⟨w.heap.size + 1, 2, none⟩ (.slice ms.A ms.n ms.c)).setCell ⟨w.heap.size + 1, 3, none⟩ (.slice ms.A2 ms.n2 ms.c2)).setCell ⟨w.heap.size + 1, 4, none⟩ (.int .u64 st)).setCell ⟨w.heap.size + 1, 5, none⟩ (.int .i64 tick)).setCell ⟨w.heap.size + 1, 6, none⟩ (.slice (some ⟨g, off, none⟩) n c)) = wf at B5 mz5 hr5 ⊢
  have q0 : wf.cell? ⟨w.heap.size + 1, 0, none⟩ = some (.int .i64 m.W) := mz5.cell 0
  have q1 : wf.cell? ⟨w.heap.size + 1, 1, none⟩ = some (.int .i64 m.H) := mz5.cell 1
  have q2 : wf.cell? ⟨w.heap.size + 1, 2, none⟩ = some (.slice ms.A ms.n ms.c) := mz5.cell 2
  have q3 : wf.cell? ⟨w.heap.size + 1, 3, none⟩ = some (.slice ms.A2 ms.n2 ms.c2) := mz5.cell 3
  have q4 : wf.cell? ⟨w.heap.size + 1, 4, none⟩ = some (.int .u64 st) := mz5.cell 4
  have q5 : wf.cell? ⟨w.heap.size + 1, 5, none⟩ = some (.int .i64 tick) := mz5.cell 5
  have q6 : wf.cell? ⟨w.heap.size + 1, 6, none⟩ = some (.slice (some ⟨g, off, none⟩) n c) := mz5.cell 6
  refine bodyPost_ret (v := .agg #[.int .i64 m.W, .int .i64 m.H, .slice ms.A ms.n ms.c, .slice ms.A2 ms.n2 ms.c2, .int .u64 st, .int .i64 tick, .slice (some ⟨g, off, none⟩) n c]) (by simp [results, Tryz.results168, go_sem, q0, q1, q2, q3, q4, q5, q6]) rfl ?_
  exact ⟨⟨ms, some ⟨g, off, none⟩, n, c⟩, rfl, Row.worldAt HW.out B5 B5.size hr5 _ _, rfl, .inr ⟨hr5, fun q hq => by have hq : g = q := (by simpa [blkOf] using hq); omega⟩, B5⟩
end Go.Proofs.YtojbijapdkohlaaGreatDoor
set_option linter.unusedSimpArgs false
set_option linter.unusedVariables false
namespace Go.Proofs.YtojbijapdkohlaaGreatDoor
open Go.RowKit
/-- What a world's function hands back, with an error. -/
def GivesE (w w' : World) (v : WorldV) (s : WorldS) (r : Ending) (v' : WorldV) (e : Int) : Prop :=
  ∃ s' : WorldS, r = .returned (.tuple #[(.agg #[.int .i64 v'.map.W, .int .i64 v'.map.H, .slice s'.ms.A s'.ms.n s'.ms.c, .slice s'.ms.A2 s'.ms.n2 s'.ms.c2, .int .u64 v'.st, .int .i64 v'.tick, .slice s'.A s'.n s'.c]), .int .i64 e]) ∧ WorldAt w' w'.heap.size v' s' ∧ s'.ms = s.ms ∧ Held w w' s s' v'.l ∧ Below w.heap.size w w'
def leaveL (l : List EntV) (id : Int) : List EntV := if playerF l id = -1 then l else l.take (playerF l id).toNat ++ l.drop ((playerF l id).toNat + 1)
def leaveE (l : List EntV) (id : Int) : Int := if playerF l id = -1 then 6 else 0
set_option maxRecDepth 100000 in
set_option maxHeartbeats 8000000 in
theorem wLeave (v : WorldV) (s : WorldS) (id : Int) (w : World) (h : WorldAt w w.heap.size v s) (hn : s.n ≤ 1000) :
    Calls Tryz.prog 92 #[(.agg #[.int .i64 v.map.W, .int .i64 v.map.H, .slice s.ms.A s.ms.n s.ms.c, .slice s.ms.A2 s.ms.n2 s.ms.c2, .int .u64 v.st, .int .i64 v.tick, .slice s.A s.n s.c]), .int .i64 id] w fun r w' => GivesE w w' v s r ⟨v.map, v.st, v.tick, leaveL v.l id⟩ (leaveE v.l id) := by
  have hP := fun W (hW : Below w.heap.size w W) => wPlayer v s id W ((h.l.below hW).upto hW.size) (by omega)
  have hC := fun W (hW : Below w.heap.size w W) => cloneE v.l W s.A s.n s.c ((h.l.below hW).upto hW.size) (by omega)
  have hlen := h.len
  have HP := Lib.hid hP
  have HC := Lib.hid hC
  have HW := Lib.hid h
  clear h hP hC
  rcases playerF_spec v.l id with h1 | ⟨k, e, h1, h2, -, -⟩
  · have e1 : leaveL v.l id = v.l := by unfold leaveL; rw [if_pos h1]
    have e2 : leaveE v.l id = 6 := by unfold leaveE; rw [if_pos h1]
    rw [e1, e2]
    clear e1 e2 hlen
    go_enter Tryz.func92, Tryz.ntmps92
    go_wp2_with (go_at_call 156; refine (HP.out _ (by repeat (first | with_reducible exact Below.refl _ _ | with_reducible assumption | with_reducible refine Below.drew ?_ | with_reducible refine below_drews ?_ _ | with_reducible refine Below.alloc ?_ (by first | omega | (simp; done) | (simp; omega)) _ | with_reducible refine Below.setCell ?_ (by first | omega | (simp; done) | (simp; omega)) _))).mono ?_; rw [h1]; rintro r w1 ⟨rfl, hb1⟩; obtain ⟨hc1, hf1⟩ := bcell hb1; have hs1 := hb1.size; (try simp at hs1); have l1 : w.heap.size < w1.heap.size := (by omega); have l2 : w.heap.size + 1 < w1.heap.size := (by omega); have B1 : Below w.heap.size w w1 := Below.trans (by repeat (first | with_reducible exact Below.refl _ _ | with_reducible assumption | with_reducible refine Below.drew ?_ | with_reducible refine below_drews ?_ _ | with_reducible refine Below.alloc ?_ (by first | omega | (simp; done) | (simp; omega)) _ | with_reducible refine Below.setCell ?_ (by first | omega | (simp; done) | (simp; omega)) _)) (hb1.mono (by simp; omega)))
    refine bodyPost_ret (v := .tuple #[(.agg #[.int .i64 v.map.W, .int .i64 v.map.H, .slice s.ms.A s.ms.n s.ms.c, .slice s.ms.A2 s.ms.n2 s.ms.c2, .int .u64 v.st, .int .i64 v.tick, .slice s.A s.n s.c]), .int .i64 6]) (by simp [results, Tryz.results92, go_sem, hc1, hf1, l1, l2]) rfl ?_
    have B9 : Below w.heap.size w (((((((w1.setCell ⟨w.heap.size + 1, 0, none⟩ (.int .i64 v.map.W)).setCell ⟨w.heap.size + 1, 1, none⟩ (.int .i64 v.map.H)).setCell ⟨w.heap.size + 1, 2, none⟩ (.slice s.ms.A s.ms.n s.ms.c)).setCell ⟨w.heap.size + 1, 3, none⟩ (.slice s.ms.A2 s.ms.n2 s.ms.c2)).setCell ⟨w.heap.size + 1, 4, none⟩ (.int .u64 v.st)).setCell ⟨w.heap.size + 1, 5, none⟩ (.int .i64 v.tick)).setCell ⟨w.heap.size + 1, 6, none⟩ (.slice s.A s.n s.c)) := (by repeat (first | with_reducible exact Below.refl _ _ | with_reducible assumption | with_reducible refine Below.drew ?_ | with_reducible refine below_drews ?_ _ | with_reducible refine Below.alloc ?_ (by first | omega | (simp; done) | (simp; omega)) _ | with_reducible refine Below.setCell ?_ (by first | omega | (simp; done) | (simp; omega)) _))
    exact ⟨s, rfl, (HW.out.below B9).upto B9.size, rfl, .inl ⟨rfl, rfl⟩, B9⟩
  · have e1 : leaveL v.l id = v.l.take k ++ v.l.drop (k + 1) := by unfold leaveL; rw [if_neg (by omega), h1, Int.toNat_natCast]
    have e2 : leaveE v.l id = 0 := by unfold leaveE; rw [if_neg (by omega)]
    rw [e1, e2]
    have hk : k < s.n := by rw [← hlen]; exact (List.getElem?_eq_some_iff.1 h2).1
    have H2 := Lib.hid h2
    clear e1 e2 hlen h2
    obtain ⟨m, st, tick, l⟩ := v
    obtain ⟨ms, A0, n, c0⟩ := s
    simp only at hk hn
    go_enter Tryz.func92, Tryz.ntmps92
    go_wp2_with (go_at_call 156; refine (HP.out _ (by repeat (first | with_reducible exact Below.refl _ _ | with_reducible assumption | with_reducible refine Below.drew ?_ | with_reducible refine below_drews ?_ _ | with_reducible refine Below.alloc ?_ (by first | omega | (simp; done) | (simp; omega)) _ | with_reducible refine Below.setCell ?_ (by first | omega | (simp; done) | (simp; omega)) _))).mono ?_; rw [h1]; rintro r w1 ⟨rfl, hb1⟩; obtain ⟨hc1, hf1⟩ := bcell hb1; have hs1 := hb1.size; (try simp at hs1); have l1 : w.heap.size < w1.heap.size := (by omega); have l2 : w.heap.size + 1 < w1.heap.size := (by omega); have B1 : Below w.heap.size w w1 := Below.trans (by repeat (first | with_reducible exact Below.refl _ _ | with_reducible assumption | with_reducible refine Below.drew ?_ | with_reducible refine below_drews ?_ _ | with_reducible refine Below.alloc ?_ (by first | omega | (simp; done) | (simp; omega)) _ | with_reducible refine Below.setCell ?_ (by first | omega | (simp; done) | (simp; omega)) _)) (hb1.mono (by simp; omega)))
    have mb : Blk w1 w.heap.size 46 #[.int .i64 m.W, .int .i64 m.H, .slice ms.A ms.n ms.c, .slice ms.A2 ms.n2 ms.c2, .int .u64 st, .int .i64 tick, .slice A0 n c0] := Blk.below ((Blk.new _ _ _).alloc _) hb1 (by simp; omega)
    have mz : Blk w1 (w.heap.size + 1) 46 #[.int .i64 0, .int .i64 0, .slice none 0 0, .slice none 0 0, .int .u64 0, .int .i64 0, .slice none 0 0] := by
      have := Blk.below (Blk.new (w.alloc _) _ _) hb1 (by simp)
      simpa using this
    refine (HC.out _ B1).mono ?_
    rintro r w2 ⟨A, c, rfl, hr2, hf2, hb2⟩
    obtain ⟨g, off, rfl, hgl, -⟩ := hr2.ent (e := e) H2.out
    have hg2 : w1.heap.size ≤ g := hf2 g rfl
    have mb2 := Blk.below mb hb2 l1
    have mz2 := Blk.below mz hb2 l2
    have B2 : Below w.heap.size w w2 := B1.trans (hb2.mono (by omega))
    have hne : g ≠ w.heap.size := by omega
    have hne2 : g ≠ w.heap.size + 1 := by omega
    have HR2 := Lib.hid hr2
    have HB2 := Lib.hid mb2
    have HZ2 := Lib.hid mz2
    have HBB2 := Lib.hid B2
    clear hr2 mb2 mz2 B2 mb mz hc1 hf1 hb2
    go_wp2_with fail
    refine (wDelete l k n c g off _ HR2.out hk).mono ?_
    rintro r w5 ⟨rfl, hr5, hc5⟩
    have mb5 := HB2.out.chg hc5 (Ne.symm hne)
    have mz5 := HZ2.out.chg hc5 (Ne.symm hne2)
    have B5 : Below w.heap.size w w5 := HBB2.out.trans (hc5.to_below HBB2.out.size (fun q hq => by subst hq; omega))
    have y0 : w5.cell? ⟨w.heap.size, 0, none⟩ = some (.int .i64 m.W) := mb5.cell 0
    have y1 : w5.cell? ⟨w.heap.size, 1, none⟩ = some (.int .i64 m.H) := mb5.cell 1
    have y2 : w5.cell? ⟨w.heap.size, 2, none⟩ = some (.slice ms.A ms.n ms.c) := mb5.cell 2
    have y3 : w5.cell? ⟨w.heap.size, 3, none⟩ = some (.slice ms.A2 ms.n2 ms.c2) := mb5.cell 3
    have y4 : w5.cell? ⟨w.heap.size, 4, none⟩ = some (.int .u64 st) := mb5.cell 4
    have y5 : w5.cell? ⟨w.heap.size, 5, none⟩ = some (.int .i64 tick) := mb5.cell 5
    have y6 : w5.cell? ⟨w.heap.size, 6, none⟩ = some (.slice A0 n c0) := mb5.cell 6
    have f0 := mb5.frozen 0
    have f1 := mb5.frozen 1
    have f2 := mb5.frozen 2
    have f3 := mb5.frozen 3
    have f4 := mb5.frozen 4
    have f5 := mb5.frozen 5
    have f6 := mb5.frozen 6
    have x0 : w5.cell? ⟨w.heap.size + 1, 0, none⟩ = some (.int .i64 0) := mz5.cell 0
    have x1 : w5.cell? ⟨w.heap.size + 1, 1, none⟩ = some (.int .i64 0) := mz5.cell 1
    have x2 : w5.cell? ⟨w.heap.size + 1, 2, none⟩ = some (.slice none 0 0) := mz5.cell 2
    have x3 : w5.cell? ⟨w.heap.size + 1, 3, none⟩ = some (.slice none 0 0) := mz5.cell 3
    have x4 : w5.cell? ⟨w.heap.size + 1, 4, none⟩ = some (.int .u64 0) := mz5.cell 4
    have x5 : w5.cell? ⟨w.heap.size + 1, 5, none⟩ = some (.int .i64 0) := mz5.cell 5
    have x6 : w5.cell? ⟨w.heap.size + 1, 6, none⟩ = some (.slice none 0 0) := mz5.cell 6
    have z0 := mz5.frozen 0
    have z1 := mz5.frozen 1
    have z2 := mz5.frozen 2
    have z3 := mz5.frozen 3
    have z4 := mz5.frozen 4
    have z5 := mz5.frozen 5
    have z6 := mz5.frozen 6
    have l5 : w.heap.size < w5.heap.size := mb5.lt
    have l6 : w.heap.size + 1 < w5.heap.size := mz5.lt
    have hz6 : Blk (w5.setCell ⟨w.heap.size, 6, none⟩ (.slice (some ⟨g, off, none⟩) (n - 1) c)) (w.heap.size + 1) 46 #[.int .i64 0, .int .i64 0, .slice none 0 0, .slice none 0 0, .int .u64 0, .int .i64 0, .slice none 0 0] := mz5.far (p := ⟨w.heap.size, 6, none⟩) (by simp) _
    have hr6 : Row (w5.setCell ⟨w.heap.size, 6, none⟩ (.slice (some ⟨g, off, none⟩) (n - 1) c)) 55 8 (some ⟨g, off, none⟩) (n - 1) c (entsV (l.take k ++ l.drop (k + 1))) := hr5.far (p := ⟨w.heap.size, 6, none⟩) (fun q hq => by cases hq; exact hne) _
    have HZ6 := Lib.hid hz6
    have HR6 := Lib.hid hr6
    have HBB5 := Lib.hid B5
    clear hz6 hr6 mb5 mz5 hr5 hc5 B5
    go_wp2
    have b5 := HBB5.out
    have hB7 : Below w.heap.size w ((((((((w5.setCell ⟨w.heap.size, 6, none⟩ (.slice (some ⟨g, off, none⟩) (n - 1) c)).setCell ⟨w.heap.size + 1, 0, none⟩ (.int .i64 m.W)).setCell ⟨w.heap.size + 1, 1, none⟩ (.int .i64 m.H)).setCell ⟨w.heap.size + 1, 2, none⟩ (.slice ms.A ms.n ms.c)).setCell ⟨w.heap.size + 1, 3, none⟩ (.slice ms.A2 ms.n2 ms.c2)).setCell ⟨w.heap.size + 1, 4, none⟩ (.int .u64 st)).setCell ⟨w.heap.size + 1, 5, none⟩ (.int .i64 tick)).setCell ⟨w.heap.size + 1, 6, none⟩ (.slice (some ⟨g, off, none⟩) (n - 1) c)) := (by repeat (first | with_reducible exact Below.refl _ _ | with_reducible assumption | with_reducible refine Below.drew ?_ | with_reducible refine below_drews ?_ _ | with_reducible refine Below.alloc ?_ (by first | omega | (simp; done) | (simp; omega)) _ | with_reducible refine Below.setCell ?_ (by first | omega | (simp; done) | (simp; omega)) _))
    have hz7 : Blk ((((((((w5.setCell ⟨w.heap.size, 6, none⟩ (.slice (some ⟨g, off, none⟩) (n - 1) c)).setCell ⟨w.heap.size + 1, 0, none⟩ (.int .i64 m.W)).setCell ⟨w.heap.size + 1, 1, none⟩ (.int .i64 m.H)).setCell ⟨w.heap.size + 1, 2, none⟩ (.slice ms.A ms.n ms.c)).setCell ⟨w.heap.size + 1, 3, none⟩ (.slice ms.A2 ms.n2 ms.c2)).setCell ⟨w.heap.size + 1, 4, none⟩ (.int .u64 st)).setCell ⟨w.heap.size + 1, 5, none⟩ (.int .i64 tick)).setCell ⟨w.heap.size + 1, 6, none⟩ (.slice (some ⟨g, off, none⟩) (n - 1) c)) (w.heap.size + 1) 46 #[.int .i64 m.W, .int .i64 m.H, .slice ms.A ms.n ms.c, .slice ms.A2 ms.n2 ms.c2, .int .u64 st, .int .i64 tick, .slice (some ⟨g, off, none⟩) (n - 1) c] := (((((((HZ6.out.set_ 0 (.int .i64 m.W)).set_ 1 (.int .i64 m.H)).set_ 2 (.slice ms.A ms.n ms.c)).set_ 3 (.slice ms.A2 ms.n2 ms.c2)).set_ 4 (.int .u64 st)).set_ 5 (.int .i64 tick)).set_ 6 (.slice (some ⟨g, off, none⟩) (n - 1) c))
    have hzz : ∀ j : Nat, j ≠ w.heap.size + 1 → ((((((((w5.setCell ⟨w.heap.size, 6, none⟩ (.slice (some ⟨g, off, none⟩) (n - 1) c)).setCell ⟨w.heap.size + 1, 0, none⟩ (.int .i64 m.W)).setCell ⟨w.heap.size + 1, 1, none⟩ (.int .i64 m.H)).setCell ⟨w.heap.size + 1, 2, none⟩ (.slice ms.A ms.n ms.c)).setCell ⟨w.heap.size + 1, 3, none⟩ (.slice ms.A2 ms.n2 ms.c2)).setCell ⟨w.heap.size + 1, 4, none⟩ (.int .u64 st)).setCell ⟨w.heap.size + 1, 5, none⟩ (.int .i64 tick)).setCell ⟨w.heap.size + 1, 6, none⟩ (.slice (some ⟨g, off, none⟩) (n - 1) c)).heap[j]? = (w5.setCell ⟨w.heap.size, 6, none⟩ (.slice (some ⟨g, off, none⟩) (n - 1) c)).heap[j]? := fun j hj => (Below.heap_setCell _ _ _ j hj).trans ((Below.heap_setCell _ _ _ j hj).trans ((Below.heap_setCell _ _ _ j hj).trans ((Below.heap_setCell _ _ _ j hj).trans ((Below.heap_setCell _ _ _ j hj).trans ((Below.heap_setCell _ _ _ j hj).trans (Below.heap_setCell _ _ _ j hj))))))
    have hr7 := HR6.out.keep (w' := ((((((((w5.setCell ⟨w.heap.size, 6, none⟩ (.slice (some ⟨g, off, none⟩) (n - 1) c)).setCell ⟨w.heap.size + 1, 0, none⟩ (.int .i64 m.W)).setCell ⟨w.heap.size + 1, 1, none⟩ (.int .i64 m.H)).setCell ⟨w.heap.size + 1, 2, none⟩ (.slice ms.A ms.n ms.c)).setCell ⟨w.heap.size + 1, 3, none⟩ (.slice ms.A2 ms.n2 ms.c2)).setCell ⟨w.heap.size + 1, 4, none⟩ (.int .u64 st)).setCell ⟨w.heap.size + 1, 5, none⟩ (.int .i64 tick)).setCell ⟨w.heap.size + 1, 6, none⟩ (.slice (some ⟨g, off, none⟩) (n - 1) c))) (fun q hq => by cases hq; exact hzz _ hne2)
    clear hzz
    generalize ((((((((w5.setCell ⟨w.heap.size, 6, none⟩ (.slice (some ⟨g, off, none⟩) (n - 1) c)).setCell ⟨w.heap.size + 1, 0, none⟩ (.int .i64 m.W)).setCell ⟨w.heap.size + 1, 1, none⟩ (.int .i64 m.H)).setCell ⟨w.heap.size + 1, 2, none⟩ (.slice ms.A ms.n ms.c)).setCell ⟨w.heap.size + 1, 3, none⟩ (.slice ms.A2 ms.n2 ms.c2)).setCell ⟨w.heap.size + 1, 4, none⟩ (.int .u64 st)).setCell ⟨w.heap.size + 1, 5, none⟩ (.int .i64 tick)).setCell ⟨w.heap.size + 1, 6, none⟩ (.slice (some ⟨g, off, none⟩) (n - 1) c)) = wf at hB7 hz7 hr7 ⊢
    have q0 : wf.cell? ⟨w.heap.size + 1, 0, none⟩ = some (.int .i64 m.W) := hz7.cell 0
    have q1 : wf.cell? ⟨w.heap.size + 1, 1, none⟩ = some (.int .i64 m.H) := hz7.cell 1
    have q2 : wf.cell? ⟨w.heap.size + 1, 2, none⟩ = some (.slice ms.A ms.n ms.c) := hz7.cell 2
    have q3 : wf.cell? ⟨w.heap.size + 1, 3, none⟩ = some (.slice ms.A2 ms.n2 ms.c2) := hz7.cell 3
    have q4 : wf.cell? ⟨w.heap.size + 1, 4, none⟩ = some (.int .u64 st) := hz7.cell 4
    have q5 : wf.cell? ⟨w.heap.size + 1, 5, none⟩ = some (.int .i64 tick) := hz7.cell 5
    have q6 : wf.cell? ⟨w.heap.size + 1, 6, none⟩ = some (.slice (some ⟨g, off, none⟩) (n - 1) c) := hz7.cell 6
    refine bodyPost_ret (v := .tuple #[.agg #[.int .i64 m.W, .int .i64 m.H, .slice ms.A ms.n ms.c, .slice ms.A2 ms.n2 ms.c2, .int .u64 st, .int .i64 tick, .slice (some ⟨g, off, none⟩) (n - 1) c], .int .i64 0]) (by simp [results, Tryz.results92, go_sem, q0, q1, q2, q3, q4, q5, q6]) rfl ?_
    exact ⟨⟨ms, some ⟨g, off, none⟩, n - 1, c⟩, rfl, Row.worldAt HW.out hB7 hB7.size hr7 _ _, rfl, .inr ⟨hr7, fun q hq => by have hq : g = q := (by simpa [blkOf] using hq); omega⟩, hB7⟩
end Go.Proofs.YtojbijapdkohlaaGreatDoor
