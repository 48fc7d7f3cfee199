/- Layer 23: a session is made. (Printed by gen_sesnew.py.) -/
import Derived.Test.YthafngfnbnehiaaGreatDoorSrvNew
import Derived.Test.YthafngfnbnehiaaGreatDoorCliNew
set_option linter.unusedSimpArgs false
set_option linter.unusedVariables false
namespace Go.Proofs.YthafngfnbnehiaaGreatDoor
open Go.RowKit
theorem Reads.setOdd {w : World} {B size n : Nat} {A : Option Addr} {xs : List Value} (h : Reads w B size A n xs) {p : Addr} {v : Value} (hc : w.cell? p = some v) (hv : v ∉ xs) (u : Value) : Reads (w.setCell p u) B size A n xs := by
  refine ⟨h.1, fun hn => ?_⟩
  obtain ⟨ad, ha, hb, hcell⟩ := h.2 hn
  refine ⟨ad, ha, hb, fun j x hx => ?_⟩
  have h1 := hcell j x hx
  by_cases e : p = ad.add j
  · subst e
    rw [h1] at hc
    injection hc with hc
    subst hc
    exact absurd (List.mem_of_getElem? hx) hv
  · exact (World.cell?_setCell_other (h := e) ..).trans h1
theorem noSlice_bools (l : List Bool) (A : Option Addr) (n c : Nat) : Value.slice A n c ∉ boolsV l := by simp [boolsV]
theorem noSlice_vecs (l : List VecV) (A : Option Addr) (n c : Nat) : Value.slice A n c ∉ vecsV l := by simp [vecsV]
theorem noSlice_ents (l : List EntV) (A : Option Addr) (n c : Nat) : Value.slice A n c ∉ entsV l := by simp [entsV, entCells]
theorem WorldAt.setOdd {w : World} {B : Nat} {v : WorldV} {s : WorldS} (h : WorldAt w B v s) {p : Addr} {A : Option Addr} {n c : Nat} (hc : w.cell? p = some (.slice A n c)) (u : Value) : WorldAt (w.setCell p u) B v s :=
  ⟨{ h.map with walls := h.map.walls.setOdd hc (noSlice_bools _ _ _ _) u, spawns := h.map.spawns.setOdd hc (noSlice_vecs _ _ _ _) u }, h.l.setOdd hc (noSlice_ents _ _ _ _) u, h.nc⟩
structure RowsM (w : World) (m : MapV) (s : MapS) : Prop where
  walls : Row w 4 1 s.A s.n s.c (boolsV m.walls)
  spawns : Row w 70 2 s.A2 s.n2 s.c2 (vecsV m.spawns)
  n : s.n ≤ 100000
  n2 : s.n2 ≤ 100000
theorem RowsM.at_ {w : World} {m : MapV} {s : MapS} (h : RowsM w m s) : MapAt w w.heap.size m s :=
  ⟨h.walls.reads (by decide), h.spawns.reads (by decide), h.walls.2.1, by have := h.walls.2.2.1; unfold maxLen at this; exact this, Nat.le_trans h.n2 (by decide)⟩
theorem RowsM.below {w w' : World} {B : Nat} {m : MapV} {s : MapS} (h : RowsM w m s) (hb : Below B w w') (hB : w.heap.size ≤ B) : RowsM w' m s :=
  ⟨h.walls.keep (fun g hg => hb.block g (by have := h.walls.lt hg; omega)), h.spawns.keep (fun g hg => hb.block g (by have := h.spawns.lt hg; omega)), h.n, h.n2⟩
theorem RowsM.chg {w w' : World} {m : MapV} {s : MapS} {b : Nat} {t : TypeId} {cs : Array Value} (h : RowsM w m s) (hb : Chg (fun q => q = b) w w') (hk : Blk w b t cs) (h1 : 4 ≠ t) (h2 : 70 ≠ t) : RowsM w' m s :=
  ⟨h.walls.keep (fun g hg => hb.block g (h.walls.lt hg) (h.walls.ne_blk' hk h1 g hg)), h.spawns.keep (fun g hg => hb.block g (h.spawns.lt hg) (h.spawns.ne_blk' hk h2 g hg)), h.n, h.n2⟩
def SesNew (V : WorldV) (m : MapV) (seed : Int) (w : World) (e : Ending) (w' : World) : Prop :=
  ∃ (b : Nat) (S : WorldS) (A3 : Option Addr) (c3 mb sb : Nat) (s' : MapS), e = .returned (.tuple #[.pointer (some ⟨sb, 0, none⟩), .int .i64 0]) ∧ Blk w' b 112 #[.int .u64 seed, .int .i64 V.map.W, .int .i64 V.map.H, .slice S.ms.A S.ms.n S.ms.c, .slice S.ms.A2 S.ms.n2 S.ms.c2, .int .u64 V.st, .int .i64 V.tick, .slice S.A S.n S.c, .slice A3 1 c3, .map (some mb), .pointer none, .pointer none, .pointer none, .pointer none, .pointer none, .pointer none, .pointer none, .pointer none, .pointer none] ∧ WorldAt w' b V S ∧ Blk w' sb 85 #[.int .i64 m.W, .int .i64 m.H, .slice s'.A s'.n s'.c, .slice s'.A2 s'.n2 s'.c2, .int .u64 seed, .pointer (some ⟨b, 0, none⟩), .pointer none, .slice none 0 0, .slice none 0 0, .pointer none, .slice none 0 0, .slice none 0 0, .pointer none, .slice none 0 0, .slice none 0 0, .pointer none, .slice none 0 0, .slice none 0 0, .pointer none, .slice none 0 0, .slice none 0 0, .pointer none, .slice none 0 0, .slice none 0 0, .pointer none, .slice none 0 0, .slice none 0 0, .pointer none, .slice none 0 0, .slice none 0 0, .pointer none, .slice none 0 0, .slice none 0 0, .slice none 0 0] ∧ RowsM w' m s' ∧ w.heap.size ≤ b ∧ w.heap.size ≤ sb ∧ Below w.heap.size w w'
set_option maxRecDepth 100000 in
set_option maxHeartbeats 8000000 in
theorem sesNewYes (m : MapV) (s : MapS) (seed : Int) (balls : Nat) (V : WorldV) (hV : newF m seed balls = V) (w : World) (h : MapAt w w.heap.size m s) (hf : formedB m = true) (hb : balls ≤ 8) (hn : s.n ≤ 100000) (hn2 : s.n2 ≤ 100000) (hn3 : V.l.length ≤ 100) (hpos : 0 < V.l.length) :
    Calls Tryz.prog 16 #[(.agg #[.int .i64 m.W, .int .i64 m.H, .slice s.A s.n s.c, .slice s.A2 s.n2 s.c2]), .int .u64 seed, .int .i64 balls] w (SesNew V m seed w) := by
  have HW := Lib.hid (fun W (hW : Below w.heap.size w W) => srvNewYes m s seed balls V hV W ((h.below hW).upto hW.size) hf hb hn hn2 hn3 hpos)
  have HCB := Lib.hid (fun W (hW : Below w.heap.size w W) => cloneB m.walls W s.A s.n s.c ((h.walls.below hW).upto hW.size) hn)
  have HCV := Lib.hid (fun W (hW : Below w.heap.size w W) => cloneV m.spawns W s.A2 s.n2 s.c2 ((h.spawns.below hW).upto hW.size) hn2)
  clear h hf hV
  go_enter Tryz.func16, Tryz.ntmps16
  go_wp2_with fail
  refine (HW.out _ (by repeat (first | with_reducible exact Below.refl _ _ | with_reducible assumption | with_reducible refine Below.drew ?_ | with_reducible refine below_drews ?_ _ | with_reducible refine Below.alloc ?_ (by first | omega | (simp; done) | (simp; omega)) _ | with_reducible refine Below.setCell ?_ (by first | omega | (simp; done) | (simp; omega)) _))).mono ?_
  rintro e w2 ⟨b, S, A3, c3, mb, rfl, hsb, hat, hbb, hb2⟩
  have mbx : Blk w2 w.heap.size 41 #[.int .i64 m.W, .int .i64 m.H, .slice s.A s.n s.c, .slice s.A2 s.n2 s.c2] := Blk.below (Blk.new _ _ _) hb2 (by simp)
  have B1 : Below w.heap.size w w2 := (Below.alloc (Below.refl _ _) (Nat.le_refl _) _).trans (hb2.mono (by simp))
  have hbw : w.heap.size < b := by simp at hbb; omega
  have l1 := mbx.lt
  have ls := B1.size
  have lsb := hsb.lt
  have y2 : w2.cell? ⟨w.heap.size, 2, none⟩ = some (.slice s.A s.n s.c) := mbx.cell 2
  have y3 : w2.cell? ⟨w.heap.size, 3, none⟩ = some (.slice s.A2 s.n2 s.c2) := mbx.cell 3
  have f2 : w2.frozen? ⟨w.heap.size, 2, none⟩ = false := mbx.frozen 2
  have f3 : w2.frozen? ⟨w.heap.size, 3, none⟩ = false := mbx.frozen 3
  have MB := Lib.hid mbx
  have HB1 := Lib.hid B1
  have HSB := Lib.hid hsb
  have HAT := Lib.hid hat
  clear mbx B1 hb2 hbb hsb hat
  go_upto_region 4 with (fail)
  go_cut [8] (fun u5 wx => u5 = .pointer (some ⟨b, 0, none⟩) ∧ ∃ s' : MapS, Blk wx w.heap.size 41 #[.int .i64 m.W, .int .i64 m.H, .slice s'.A s'.n s'.c, .slice s'.A2 s'.n2 s'.c2] ∧ RowsM wx m s' ∧ Blk wx b 112 #[.int .u64 seed, .int .i64 V.map.W, .int .i64 V.map.H, .slice S.ms.A S.ms.n S.ms.c, .slice S.ms.A2 S.ms.n2 S.ms.c2, .int .u64 V.st, .int .i64 V.tick, .slice S.A S.n S.c, .slice A3 1 c3, .map (some mb), .pointer none, .pointer none, .pointer none, .pointer none, .pointer none, .pointer none, .pointer none, .pointer none, .pointer none] ∧ WorldAt wx b V S ∧ Below w.heap.size w wx)
  case first =>
    go_region_law (first
      | (go_simp; go_at_call 41; refine (HCB.out _ (HB1.out.trans (Below.mono (B := w2.heap.size) ?_ ls))).mono ?_; exact (by repeat (first | with_reducible exact Below.refl _ _ | with_reducible assumption | with_reducible refine Below.drew ?_)); rintro r wb ⟨Ab, cb, rfl, hrb, hfb, hbb⟩; obtain ⟨hcb, hzb⟩ := bcell hbb; have sb := hbb.size; have Cb : Below w2.heap.size w2 wb := (by refine Below.trans ?_ (hbb.mono ?_) <;> first | exact Nat.le_refl _ | exact qv | exact (by repeat (first | with_reducible exact Below.refl _ _ | with_reducible assumption | with_reducible refine Below.drew ?_))); have qb := Cb.size; have cb2 : wb.cell? ⟨w.heap.size, 2, none⟩ = some (.slice s.A s.n s.c) := (hcb w.heap.size 2 (by first | exact l1 | exact lv | (simp; omega))).trans (by first | exact y2 | exact cv2); have zb2 : wb.frozen? ⟨w.heap.size, 2, none⟩ = false := (hzb w.heap.size 2 (by first | exact l1 | exact lv | (simp; omega))).trans (by first | exact f2 | exact zv2); have cb3 : wb.cell? ⟨w.heap.size, 3, none⟩ = some (.slice s.A2 s.n2 s.c2) := (hcb w.heap.size 3 (by first | exact l1 | exact lv | (simp; omega))).trans (by first | exact y3 | exact cv3); have zb3 : wb.frozen? ⟨w.heap.size, 3, none⟩ = false := (hzb w.heap.size 3 (by first | exact l1 | exact lv | (simp; omega))).trans (by first | exact f3 | exact zv3); have lb : w.heap.size < wb.heap.size := (by first | (simp at sb; omega) | omega); clear hcb hzb)
      | (go_simp; go_at_call 42; refine (HCV.out _ (HB1.out.trans (Below.mono (B := w2.heap.size) ?_ ls))).mono ?_; exact (by repeat (first | with_reducible exact Below.refl _ _ | with_reducible assumption | with_reducible refine Below.drew ?_)); rintro r wv ⟨Av, cv, rfl, hrv, hfv, hbv⟩; obtain ⟨hcv, hzv⟩ := bcell hbv; have sv := hbv.size; have Cv : Below w2.heap.size w2 wv := (by refine Below.trans ?_ (hbv.mono ?_) <;> first | exact Nat.le_refl _ | exact qb | exact (by repeat (first | with_reducible exact Below.refl _ _ | with_reducible assumption | with_reducible refine Below.drew ?_))); have qv := Cv.size; have cv2 : wv.cell? ⟨w.heap.size, 2, none⟩ = some (.slice s.A s.n s.c) := (hcv w.heap.size 2 (by first | exact l1 | exact lb | (simp; omega))).trans (by first | exact y2 | exact cb2); have zv2 : wv.frozen? ⟨w.heap.size, 2, none⟩ = false := (hzv w.heap.size 2 (by first | exact l1 | exact lb | (simp; omega))).trans (by first | exact f2 | exact zb2); have cv3 : wv.cell? ⟨w.heap.size, 3, none⟩ = some (.slice s.A2 s.n2 s.c2) := (hcv w.heap.size 3 (by first | exact l1 | exact lb | (simp; omega))).trans (by first | exact y3 | exact cb3); have zv3 : wv.frozen? ⟨w.heap.size, 3, none⟩ = false := (hzv w.heap.size 3 (by first | exact l1 | exact lb | (simp; omega))).trans (by first | exact f3 | exact zb3); have lv : w.heap.size < wv.heap.size := (by first | (simp at sv; omega) | omega); clear hcv hzv))
    all_goals go_wp2_with fail
    all_goals go_meet
    all_goals first
      | (have rb : Row wv 4 1 Ab s.n cb (boolsV m.walls) := hrb.keep (fun g hg => hbv.block g (hrb.lt hg))
         have rv : Row wv 70 2 Av s.n2 cv (vecsV m.spawns) := hrv
         have mbx : Blk wb w.heap.size 41 #[.int .i64 m.W, .int .i64 m.H, .slice s.A s.n s.c, .slice s.A2 s.n2 s.c2] := Blk.below MB.out.drew hbb l1
         have mby : Blk wv w.heap.size 41 #[.int .i64 m.W, .int .i64 m.H, .slice s.A s.n s.c, .slice s.A2 s.n2 s.c2] := Blk.below mbx hbv lb
         have e0 : Blk ((wv.setCell ⟨w.heap.size, 2, none⟩ (.slice Ab s.n cb)).setCell ⟨w.heap.size, 3, none⟩ (.slice Av s.n2 cv)) w.heap.size 41 #[.int .i64 m.W, .int .i64 m.H, .slice Ab s.n cb, .slice Av s.n2 cv] := (mby.set_ 2 _).set_ 3 _
         have k1 : ∀ g, blkOf Ab = some g → g ≠ w.heap.size := rb.ne_blk' mby (by decide)
         have k2 : ∀ g, blkOf Av = some g → g ≠ w.heap.size := rv.ne_blk' mby (by decide)
         have e1 := rb.keep (w' := ((wv.setCell ⟨w.heap.size, 2, none⟩ (.slice Ab s.n cb)).setCell ⟨w.heap.size, 3, none⟩ (.slice Av s.n2 cv))) (fun g hg => (Below.heap_setCell _ _ _ g (k1 g hg)).trans (Below.heap_setCell _ _ _ g (k1 g hg)))
         have e2 := rv.keep (w' := ((wv.setCell ⟨w.heap.size, 2, none⟩ (.slice Ab s.n cb)).setCell ⟨w.heap.size, 3, none⟩ (.slice Av s.n2 cv))) (fun g hg => (Below.heap_setCell _ _ _ g (k2 g hg)).trans (Below.heap_setCell _ _ _ g (k2 g hg)))
         have e3 : Blk ((wv.setCell ⟨w.heap.size, 2, none⟩ (.slice Ab s.n cb)).setCell ⟨w.heap.size, 3, none⟩ (.slice Av s.n2 cv)) b 112 #[.int .u64 seed, .int .i64 V.map.W, .int .i64 V.map.H, .slice S.ms.A S.ms.n S.ms.c, .slice S.ms.A2 S.ms.n2 S.ms.c2, .int .u64 V.st, .int .i64 V.tick, .slice S.A S.n S.c, .slice A3 1 c3, .map (some mb), .pointer none, .pointer none, .pointer none, .pointer none, .pointer none, .pointer none, .pointer none, .pointer none, .pointer none] := ((HSB.out.below Cv lsb).far (by show b ≠ w.heap.size; omega) _).far (by show b ≠ w.heap.size; omega) _
         have e4 : WorldAt ((wv.setCell ⟨w.heap.size, 2, none⟩ (.slice Ab s.n cb)).setCell ⟨w.heap.size, 3, none⟩ (.slice Av s.n2 cv)) b V S := (((HAT.out.below (Cv.mono (Nat.le_of_lt lsb))).setOdd cv2 _).setOdd ((World.cell?_setCell_other (h := by simp) ..).trans cv3) _)
         have e5 : Below w.heap.size w ((wv.setCell ⟨w.heap.size, 2, none⟩ (.slice Ab s.n cb)).setCell ⟨w.heap.size, 3, none⟩ (.slice Av s.n2 cv)) := ((HB1.out.trans (Cv.mono ls)).setCell (Nat.le_refl _) _).setCell (Nat.le_refl _) _
         exact ⟨rfl, ⟨Ab, s.n, cb, Av, s.n2, cv⟩, e0, ⟨e1, e2, hn, hn2⟩, e3, e4, e5⟩)
      | (have rb : Row wb 4 1 Ab s.n cb (boolsV m.walls) := hrb
         have rv : Row wb 70 2 Av s.n2 cv (vecsV m.spawns) := hrv.keep (fun g hg => hbb.block g (hrv.lt hg))
         have mbx : Blk wv w.heap.size 41 #[.int .i64 m.W, .int .i64 m.H, .slice s.A s.n s.c, .slice s.A2 s.n2 s.c2] := Blk.below MB.out.drew hbv l1
         have mby : Blk wb w.heap.size 41 #[.int .i64 m.W, .int .i64 m.H, .slice s.A s.n s.c, .slice s.A2 s.n2 s.c2] := Blk.below mbx hbb lv
         have e0 : Blk ((wb.setCell ⟨w.heap.size, 2, none⟩ (.slice Ab s.n cb)).setCell ⟨w.heap.size, 3, none⟩ (.slice Av s.n2 cv)) w.heap.size 41 #[.int .i64 m.W, .int .i64 m.H, .slice Ab s.n cb, .slice Av s.n2 cv] := (mby.set_ 2 _).set_ 3 _
         have k1 : ∀ g, blkOf Ab = some g → g ≠ w.heap.size := rb.ne_blk' mby (by decide)
         have k2 : ∀ g, blkOf Av = some g → g ≠ w.heap.size := rv.ne_blk' mby (by decide)
         have e1 := rb.keep (w' := ((wb.setCell ⟨w.heap.size, 2, none⟩ (.slice Ab s.n cb)).setCell ⟨w.heap.size, 3, none⟩ (.slice Av s.n2 cv))) (fun g hg => (Below.heap_setCell _ _ _ g (k1 g hg)).trans (Below.heap_setCell _ _ _ g (k1 g hg)))
         have e2 := rv.keep (w' := ((wb.setCell ⟨w.heap.size, 2, none⟩ (.slice Ab s.n cb)).setCell ⟨w.heap.size, 3, none⟩ (.slice Av s.n2 cv))) (fun g hg => (Below.heap_setCell _ _ _ g (k2 g hg)).trans (Below.heap_setCell _ _ _ g (k2 g hg)))
         have e3 : Blk ((wb.setCell ⟨w.heap.size, 2, none⟩ (.slice Ab s.n cb)).setCell ⟨w.heap.size, 3, none⟩ (.slice Av s.n2 cv)) b 112 #[.int .u64 seed, .int .i64 V.map.W, .int .i64 V.map.H, .slice S.ms.A S.ms.n S.ms.c, .slice S.ms.A2 S.ms.n2 S.ms.c2, .int .u64 V.st, .int .i64 V.tick, .slice S.A S.n S.c, .slice A3 1 c3, .map (some mb), .pointer none, .pointer none, .pointer none, .pointer none, .pointer none, .pointer none, .pointer none, .pointer none, .pointer none] := ((HSB.out.below Cb lsb).far (by show b ≠ w.heap.size; omega) _).far (by show b ≠ w.heap.size; omega) _
         have e4 : WorldAt ((wb.setCell ⟨w.heap.size, 2, none⟩ (.slice Ab s.n cb)).setCell ⟨w.heap.size, 3, none⟩ (.slice Av s.n2 cv)) b V S := (((HAT.out.below (Cb.mono (Nat.le_of_lt lsb))).setOdd cb2 _).setOdd ((World.cell?_setCell_other (h := by simp) ..).trans cb3) _)
         have e5 : Below w.heap.size w ((wb.setCell ⟨w.heap.size, 2, none⟩ (.slice Ab s.n cb)).setCell ⟨w.heap.size, 3, none⟩ (.slice Av s.n2 cv)) := ((HB1.out.trans (Cb.mono ls)).setCell (Nat.le_refl _) _).setCell (Nat.le_refl _) _
         exact ⟨rfl, ⟨Ab, s.n, cb, Av, s.n2, cv⟩, e0, ⟨e1, e2, hn, hn2⟩, e3, e4, e5⟩)
  case rest =>
    obtain ⟨rfl, s', hx, hm, hs, hw, hbl⟩ := hcut
    have z0 := hx.cell 0
    have z1 := hx.cell 1
    have z2 := hx.cell 2
    have z3 := hx.cell 3
    simp only [List.getElem?_toArray, List.getElem?_cons_zero, List.getElem?_cons_succ] at z0 z1 z2 z3
    have HM := Lib.hid hm
    have HS := Lib.hid hs
    have HWA := Lib.hid hw
    have HBL := Lib.hid hbl
    clear hx hm hs hw hbl y2 y3 f2 f3
    go_wp2
    go_ret2
    exact ⟨b, S, A3, c3, mb, wc.heap.size, s', rfl, HS.out.alloc _, HWA.out.below ((Below.refl _ _).alloc (Nat.le_of_lt HS.out.lt) _), Blk.new _ _ _, HM.out.below ((Below.refl _ _).alloc (Nat.le_refl _) _) (Nat.le_refl _), by omega, HBL.out.size, HBL.out.alloc HBL.out.size _⟩
end Go.Proofs.YthafngfnbnehiaaGreatDoor
