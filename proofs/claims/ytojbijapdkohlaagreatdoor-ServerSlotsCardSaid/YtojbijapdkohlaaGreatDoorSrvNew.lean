/- Layer 21: a server is made. (Printed by gen_srvnew.py.) -/
import Derived.Test.YtojbijapdkohlaaGreatDoorSrvPut
import Derived.Test.YtojbijapdkohlaaGreatDoorWNew
set_option linter.unusedSimpArgs false
set_option linter.unusedVariables false
namespace Go.Proofs.YtojbijapdkohlaaGreatDoor
open Go.RowKit
def SrvNew (V : WorldV) (seed : Int) (w : World) (e : Ending) (w' : World) : Prop :=
  ∃ (b : Nat) (S : WorldS) (A3 : Option Addr) (c3 mb : Nat), e = .returned (.tuple #[.pointer (some ⟨b, 0, none⟩), .int .i64 0]) ∧ Blk w' b 165 #[.int .u64 seed, .int .i64 V.map.W, .int .i64 V.map.H, .slice S.ms.A S.ms.n S.ms.c, .slice S.ms.A2 S.ms.n2 S.ms.c2, .int .u64 V.st, .int .i64 V.tick, .slice S.A S.n S.c, .slice A3 1 c3, .map (some mb), .pointer none, .pointer none, .pointer none, .pointer none, .pointer none, .pointer none, .pointer none, .pointer none, .pointer none] ∧ WorldAt w' b V S ∧ w.heap.size ≤ b ∧ Below w.heap.size w w'
theorem twoBoxesS (w : World) (cs1 cs2 : Array Value) (t1 t2 : TypeId) : Below w.heap.size w ((w.alloc (.cells cs1 t1)).alloc (.cells cs2 t2)) ∧ Blk ((w.alloc (.cells cs1 t1)).alloc (.cells cs2 t2)) w.heap.size t1 cs1 ∧ Blk ((w.alloc (.cells cs1 t1)).alloc (.cells cs2 t2)) (w.heap.size + 1) t2 cs2 := by
  refine ⟨(by repeat (first | with_reducible exact Below.refl _ _ | with_reducible assumption | with_reducible refine Below.drew ?_ | with_reducible refine below_drews ?_ _ | with_reducible refine Below.alloc ?_ (by first | omega | (simp; done) | (simp; omega)) _ | with_reducible refine Below.setCell ?_ (by first | omega | (simp; done) | (simp; omega)) _)), (Blk.new _ _ _).alloc _, ?_⟩
  have := Blk.new (w.alloc (.cells cs1 t1)) t2 cs2
  simpa using this
theorem WorldAt.blkA {w : World} {B : Nat} {v : WorldV} {s : WorldS} (h : WorldAt w B v s) (hn : 0 < s.n) : ∀ q, blkOf s.A = some q → q < B := by
  intro q hq
  obtain ⟨g, off, hA, hg, -⟩ := h.l.flat hn (by decide)
  rw [hA] at hq
  have : g = q := by simpa [blkOf] using hq
  omega
set_option maxRecDepth 100000 in
set_option maxHeartbeats 8000000 in
theorem srvNewYes (m : MapV) (s : MapS) (seed : Int) (balls : Nat) (V : WorldV) (hV : newF m seed balls = V) (w : World) (h : MapAt w w.heap.size m s) (hf : formedB m = true) (hb : balls ≤ 8) (hn1 : s.n ≤ 100000) (hn2 : s.n2 ≤ 100000) (hn3 : V.l.length ≤ 100) (hpos : 0 < V.l.length) :
    Calls Tryz.prog 44 #[(.agg #[.int .i64 m.W, .int .i64 m.H, .slice s.A s.n s.c, .slice s.A2 s.n2 s.c2]), .int .u64 seed, .int .i64 balls] w (SrvNew V seed w) := by
  have HW := Lib.hid (fun W (hW : Below w.heap.size w W) => wNewYes m s seed balls W ((h.below hW).upto hW.size) hf hb hn1 hn2)
  rw [hV] at HW
  clear h hf hV
  go_enter Tryz.func44, Tryz.ntmps44
  go_wp2_with fail
  refine (HW.out _ (by repeat (first | with_reducible exact Below.refl _ _ | with_reducible assumption | with_reducible refine Below.drew ?_ | with_reducible refine below_drews ?_ _ | with_reducible refine Below.alloc ?_ (by first | omega | (simp; done) | (simp; omega)) _ | with_reducible refine Below.setCell ?_ (by first | omega | (simp; done) | (simp; omega)) _))).mono ?_
  rintro e w1 ⟨S, rfl, hat, hb1⟩
  have HB := Lib.hid ((Below.alloc (Below.refl _ _) (Nat.le_refl _) _).trans (hb1.mono (by simp)) : Below w.heap.size w w1)
  have HAT := Lib.hid hat
  have hs1 := HB.out.size
  clear hb1 hat
  go_upto_region 5 with (fail)
  obtain ⟨B2, b1, b2⟩ := twoBoxesS w1 #[.int .i64 V.map.W, .int .i64 V.map.H, .slice S.ms.A S.ms.n S.ms.c, .slice S.ms.A2 S.ms.n2 S.ms.c2, .int .u64 V.st, .int .i64 V.tick, .slice S.A S.n S.c] #[.int .u64 seed, .int .i64 V.map.W, .int .i64 V.map.H, .slice S.ms.A S.ms.n S.ms.c, .slice S.ms.A2 S.ms.n2 S.ms.c2, .int .u64 V.st, .int .i64 V.tick, .slice S.A S.n S.c, .slice none 0 0, .map none, .pointer none, .pointer none, .pointer none, .pointer none, .pointer none, .pointer none, .pointer none, .pointer none, .pointer none] 46 165
  generalize ((w1.alloc (.cells #[.int .i64 V.map.W, .int .i64 V.map.H, .slice S.ms.A S.ms.n S.ms.c, .slice S.ms.A2 S.ms.n2 S.ms.c2, .int .u64 V.st, .int .i64 V.tick, .slice S.A S.n S.c] 46)).alloc (.cells #[.int .u64 seed, .int .i64 V.map.W, .int .i64 V.map.H, .slice S.ms.A S.ms.n S.ms.c, .slice S.ms.A2 S.ms.n2 S.ms.c2, .int .u64 V.st, .int .i64 V.tick, .slice S.A S.n S.c, .slice none 0 0, .map none, .pointer none, .pointer none, .pointer none, .pointer none, .pointer none, .pointer none, .pointer none, .pointer none, .pointer none] 165)) = w2 at B2 b1 b2 ⊢
  have hl2 := b2.lt
  have z6 : w2.cell? ⟨w1.heap.size, 6, none⟩ = some (.slice S.A S.n S.c) := b1.cell 6
  have HB2 := Lib.hid B2
  have HS2 := Lib.hid b2
  have hlen := HAT.out.len
  have hA := HAT.out.blkA (by omega)
  have HL2 := Lib.hid ((HAT.out.l.below B2).upto B2.size)
  have HA := Lib.hid (show ∀ q, blkOf S.A = some q → q ≠ w1.heap.size + 1 from fun q hq => by have := hA q hq; omega)
  clear B2 b1 b2 hA
  go_cut [] (fun wx => ∃ (A3 : Option Addr) (c3 mb : Nat), Blk wx (w1.heap.size + 1) 165 #[.int .u64 seed, .int .i64 V.map.W, .int .i64 V.map.H, .slice S.ms.A S.ms.n S.ms.c, .slice S.ms.A2 S.ms.n2 S.ms.c2, .int .u64 V.st, .int .i64 V.tick, .slice S.A S.n S.c, .slice A3 1 c3, .map (some mb), .pointer none, .pointer none, .pointer none, .pointer none, .pointer none, .pointer none, .pointer none, .pointer none, .pointer none] ∧ Chg (fun q => q = w1.heap.size + 1) w2 wx)
  case first =>
    go_region_held3 (fun w' => w'.cell? ⟨w1.heap.size, 6, none⟩ = some (.slice S.A S.n S.c)) (with_reducible (first | exact z6 | exact z7 | go_keep)) (first | (go_at_call 90; refine (ringPutNew (w1.heap.size + 1) 165 _ 0 V.l S.A S.n S.c _ (by first | exact HS2.out | exact HS2.out.drew) (by decide) rfl rfl (by first | exact HL2.out | exact HL2.out.drew) HA.out (by omega) (by omega) (by omega)).mono ?_; rintro e w3 ⟨rfl, A3, c3, mb, hb3, hr3, hA3, hmb, hch⟩; simp only [List.setIfInBounds_toArray, List.set_cons_succ, List.set_cons_zero] at hb3; have z7 : w3.cell? ⟨w1.heap.size, 6, none⟩ = some (.slice S.A S.n S.c) := (hch.cellF (p := ⟨w1.heap.size, 6, none⟩) (by show w1.heap.size < _; first | omega | (simp; omega)) (by show ¬ (w1.heap.size = w1.heap.size + 1); omega)).trans z6; have HB3 := Lib.hid hb3; have HCH := Lib.hid hch; clear hb3 hr3 hA3 hmb hch))
    all_goals go_wp2_with fail
    all_goals go_meet
    all_goals exact ⟨A3, c3, mb, HB3.out, ⟨HCH.out.os, HCH.out.tape, HCH.out.output, HCH.out.size, HCH.out.block⟩⟩
  case rest =>
    obtain ⟨A3, c3, mb, hb3, hch⟩ := hcut
    have X := Lib.hid (show _ ∧ _ from ⟨hb3, hch⟩)
    clear hb3 hch z6
    go_wp2
    go_ret2
    refine ⟨w1.heap.size + 1, S, A3, c3, mb, rfl, X.out.1, ?_, by omega, ?_⟩
    · have h1 := (HAT.out.below HB2.out)
      have h2 : Below w1.heap.size w2 wc := X.out.2.to_below (by have := HB2.out.size; omega) (fun k hk => by omega)
      exact (h1.below h2).upto (by omega)
    · have h2 : Below w.heap.size w2 wc := X.out.2.to_below (by have := HB2.out.size; omega) (fun k hk => by omega)
      exact HB.out.trans ((HB2.out.mono hs1).trans h2)
end Go.Proofs.YtojbijapdkohlaaGreatDoor
