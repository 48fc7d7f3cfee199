/- Layer 21: slot 2 is taken on a server where nobody is. (Printed by gen_srvjoin.py.) -/
import Derived.Test.YthafngfnbnehiaaGreatDoorSrvConn
import Derived.Test.YthafngfnbnehiaaGreatDoorWJoin
set_option linter.unusedSimpArgs false
set_option linter.unusedVariables false
namespace Go.Proofs.YthafngfnbnehiaaGreatDoor
open Go.RowKit
set_option maxRecDepth 100000 in
theorem bucketNew (w : World) : Calls Tryz.prog 121 #[] w fun e w' => ∃ ib : Nat, e = .returned (.pointer (some ⟨ib, 0, none⟩)) ∧ w.heap.size ≤ w'.heap.size ∧ Below w.heap.size w w' := by
  go_enter Tryz.func121, Tryz.ntmps121
  go_wp2
  go_ret
  exact ⟨w.heap.size, rfl, by simp, (by repeat (first | with_reducible exact Below.refl _ _ | with_reducible assumption | with_reducible refine Below.drew ?_ | with_reducible refine below_drews ?_ _ | with_reducible refine Below.alloc ?_ (by first | omega | (simp; done) | (simp; omega)) _ | with_reducible refine Below.setCell ?_ (by first | omega | (simp; done) | (simp; omega)) _))⟩
def Conn2 (seed : Int) (rA : Option Addr) (rn rc : Nat) (rm : Option Nat) (V : WorldV) (b : Nat) (w : World) (e : Ending) (w' : World) : Prop :=
  e = .returned (.int .i64 0) ∧ ∃ (V' : WorldV) (S' : WorldS) (pb : Nat), V'.l.length = V.l.length + 1 ∧ Blk w' b 112 #[.int .u64 seed, .int .i64 V'.map.W, .int .i64 V'.map.H, .slice S'.ms.A S'.ms.n S'.ms.c, .slice S'.ms.A2 S'.ms.n2 S'.ms.c2, .int .u64 V'.st, .int .i64 V'.tick, .slice S'.A S'.n S'.c, .slice rA rn rc, .map rm, .pointer none, .pointer none, .pointer (some ⟨pb, 0, none⟩), .pointer none, .pointer none, .pointer none, .pointer none, .pointer none, .pointer none] ∧ Reads w' w'.heap.size 8 S'.A S'.n (entsV V'.l) ∧ Chg (fun q => q = b) w w'
set_option maxRecDepth 100000 in
set_option maxHeartbeats 16000000 in
theorem srvConnect2 (seed : Int) (V : WorldV) (S : WorldS) (rA : Option Addr) (rn rc : Nat) (rm : Option Nat) (b : Nat) (w : World) (hb : Blk w b 112 #[.int .u64 seed, .int .i64 V.map.W, .int .i64 V.map.H, .slice S.ms.A S.ms.n S.ms.c, .slice S.ms.A2 S.ms.n2 S.ms.c2, .int .u64 V.st, .int .i64 V.tick, .slice S.A S.n S.c, .slice rA rn rc, .map rm, .pointer none, .pointer none, .pointer none, .pointer none, .pointer none, .pointer none, .pointer none, .pointer none, .pointer none]) (hat : WorldAt w b V S) (hn : S.n ≤ 99) (h3 : findF V.l 2 = -1) (hp1 : 1 ≤ S.ms.n2) (hp2 : S.ms.n2 ≤ 100000) :
    Calls Tryz.prog 61 #[.pointer (some ⟨b, 0, none⟩), .int .i64 2] w (Conn2 seed rA rn rc rm V b w) := by
  have lb := hb.lt
  obtain ⟨V2, hV2⟩ : ∃ V2 : WorldV, (⟨V.map, nextS V.st, V.tick, V.l.take (joinK V.l 2) ++ newP 2 (spawnP V.map V.st) :: V.l.drop (joinK V.l 2)⟩ : WorldV) = V2 := ⟨_, rfl⟩
  have hlen : V2.l.length = V.l.length + 1 := by
    rw [← hV2]
    have hk : joinK V.l 2 ≤ V.l.length := by
      unfold joinK
      rcases idxFrom_range (fun e : EntV => decide (2 < e.id)) V.l 0 with h | ⟨h, h'⟩
      · rw [if_pos (by omega)]; exact Nat.le_refl _
      · rw [if_neg (by omega)]; omega
    simp only [List.length_append, List.length_take, List.length_cons, List.length_drop]
    omega
  have hJ := fun W (hW : Below w.heap.size w W) => wJoinYes V S 2 W ((hat.upto (Nat.le_of_lt lb)).below hW |>.upto hW.size) (by omega) (by decide) (by decide) h3 hp1 hp2
  rw [hV2] at hJ
  have hVl := hat.len
  have HJ := Lib.hid hJ
  have HLEN := Lib.hid hlen
  have HVL := Lib.hid hVl
  have HB := Lib.hid hb
  have z0 : w.cell? ⟨b, 1, none⟩ = some (.int .i64 V.map.W) := hb.cell 1
  have z1 : w.cell? ⟨b, 2, none⟩ = some (.int .i64 V.map.H) := hb.cell 2
  have z2 : w.cell? ⟨b, 3, none⟩ = some (.slice S.ms.A S.ms.n S.ms.c) := hb.cell 3
  have z3 : w.cell? ⟨b, 4, none⟩ = some (.slice S.ms.A2 S.ms.n2 S.ms.c2) := hb.cell 4
  have z4 : w.cell? ⟨b, 5, none⟩ = some (.int .u64 V.st) := hb.cell 5
  have z5 : w.cell? ⟨b, 6, none⟩ = some (.int .i64 V.tick) := hb.cell 6
  have z6 : w.cell? ⟨b, 7, none⟩ = some (.slice S.A S.n S.c) := hb.cell 7
  have z12 : w.cell? ⟨b, 12, none⟩ = some (.pointer none) := hb.cell 12
  clear hb hJ hV2 hlen hat hVl
  go_enter Tryz.func61, Tryz.ntmps61
  go_wp2_with fail
  refine (HJ.out w (Below.refl _ _)).mono ?_
  rintro e w1 ⟨S2, rfl, hat2, hms, hheld, hb1⟩
  have hn2 : S2.n = S.n + 1 := by have := hat2.len; rw [HLEN.out] at this; have := HVL.out; omega
  have HN2 := Lib.hid hn2
  have hrow : Row w1 72 8 S2.A S2.n S2.c (entsV V2.l) ∧ ∀ q, blkOf S2.A = some q → w.heap.size ≤ q := by
    rcases hheld with ⟨-, h⟩ | h
    · omega
    · exact h
  have HRW := Lib.hid hrow.1
  have HRF := Lib.hid hrow.2
  have HB1 := Lib.hid (HB.out.below hb1 lb)
  have HBE := Lib.hid hb1
  have lb1 := HB1.out.lt
  have hs1 := hb1.size
  have fz : ∀ j, w1.frozen? ⟨b, j, none⟩ = false := HB1.out.frozen
  have y12 : w1.cell? ⟨b, 12, none⟩ = some (.pointer none) := HB1.out.cell 12
  have y0 : w1.cell? ⟨b, 1, none⟩ = some (.int .i64 V.map.W) := HB1.out.cell 1
  have y1 : w1.cell? ⟨b, 2, none⟩ = some (.int .i64 V.map.H) := HB1.out.cell 2
  have y2 : w1.cell? ⟨b, 3, none⟩ = some (.slice S.ms.A S.ms.n S.ms.c) := HB1.out.cell 3
  have y3 : w1.cell? ⟨b, 4, none⟩ = some (.slice S.ms.A2 S.ms.n2 S.ms.c2) := HB1.out.cell 4
  have y4 : w1.cell? ⟨b, 5, none⟩ = some (.int .u64 V.st) := HB1.out.cell 5
  have y5 : w1.cell? ⟨b, 6, none⟩ = some (.int .i64 V.tick) := HB1.out.cell 6
  have y6 : w1.cell? ⟨b, 7, none⟩ = some (.slice S.A S.n S.c) := HB1.out.cell 7
  clear hn2 hb1 hheld hrow hat2 hms z0 z1 z2 z3 z4 z5 z6 z12 HB
  go_upto_region 11 with (fail)
  have hnb : ∀ q, blkOf S2.A = some q → q ≠ b := fun q hq => by have := HRF.out q hq; omega
  have E0 : Blk ((((((((w1.setCell ⟨b, 1, none⟩ (.int .i64 V2.map.W)).setCell ⟨b, 2, none⟩ (.int .i64 V2.map.H)).setCell ⟨b, 3, none⟩ (.slice S2.ms.A S2.ms.n S2.ms.c)).setCell ⟨b, 4, none⟩ (.slice S2.ms.A2 S2.ms.n2 S2.ms.c2)).setCell ⟨b, 5, none⟩ (.int .u64 V2.st)).setCell ⟨b, 6, none⟩ (.int .i64 V2.tick)).setCell ⟨b, 7, none⟩ (.slice S2.A S2.n S2.c)).alloc (.cells #[.int .i64 V2.map.W, .int .i64 V2.map.H, .slice S2.ms.A S2.ms.n S2.ms.c, .slice S2.ms.A2 S2.ms.n2 S2.ms.c2, .int .u64 V2.st, .int .i64 V2.tick, .slice S2.A S2.n S2.c] 54)) b 112 #[.int .u64 seed, .int .i64 V2.map.W, .int .i64 V2.map.H, .slice S2.ms.A S2.ms.n S2.ms.c, .slice S2.ms.A2 S2.ms.n2 S2.ms.c2, .int .u64 V2.st, .int .i64 V2.tick, .slice S2.A S2.n S2.c, .slice rA rn rc, .map rm, .pointer none, .pointer none, .pointer none, .pointer none, .pointer none, .pointer none, .pointer none, .pointer none, .pointer none] := by
    have := ((((((((HB1.out.set_ 1 (.int .i64 V2.map.W)).set_ 2 (.int .i64 V2.map.H)).set_ 3 (.slice S2.ms.A S2.ms.n S2.ms.c)).set_ 4 (.slice S2.ms.A2 S2.ms.n2 S2.ms.c2)).set_ 5 (.int .u64 V2.st)).set_ 6 (.int .i64 V2.tick)).set_ 7 (.slice S2.A S2.n S2.c)).alloc (.cells #[.int .i64 V2.map.W, .int .i64 V2.map.H, .slice S2.ms.A S2.ms.n S2.ms.c, .slice S2.ms.A2 S2.ms.n2 S2.ms.c2, .int .u64 V2.st, .int .i64 V2.tick, .slice S2.A S2.n S2.c] 54))
    simpa using this
  have E1 : Chg (fun q => q = b) w ((((((((w1.setCell ⟨b, 1, none⟩ (.int .i64 V2.map.W)).setCell ⟨b, 2, none⟩ (.int .i64 V2.map.H)).setCell ⟨b, 3, none⟩ (.slice S2.ms.A S2.ms.n S2.ms.c)).setCell ⟨b, 4, none⟩ (.slice S2.ms.A2 S2.ms.n2 S2.ms.c2)).setCell ⟨b, 5, none⟩ (.int .u64 V2.st)).setCell ⟨b, 6, none⟩ (.int .i64 V2.tick)).setCell ⟨b, 7, none⟩ (.slice S2.A S2.n S2.c)).alloc (.cells #[.int .i64 V2.map.W, .int .i64 V2.map.H, .slice S2.ms.A S2.ms.n S2.ms.c, .slice S2.ms.A2 S2.ms.n2 S2.ms.c2, .int .u64 V2.st, .int .i64 V2.tick, .slice S2.A S2.n S2.c] 54)) := (Chg.alloc (Chg.setCell (F := fun q => q = b) (Chg.setCell (F := fun q => q = b) (Chg.setCell (F := fun q => q = b) (Chg.setCell (F := fun q => q = b) (Chg.setCell (F := fun q => q = b) (Chg.setCell (F := fun q => q = b) (Chg.setCell (F := fun q => q = b) (Chg.below (F := fun q => q = b) (Chg.refl (w := w)) HBE.out (Nat.le_refl _)) (p := ⟨b, 1, none⟩) (.inl rfl) _) (p := ⟨b, 2, none⟩) (.inl rfl) _) (p := ⟨b, 3, none⟩) (.inl rfl) _) (p := ⟨b, 4, none⟩) (.inl rfl) _) (p := ⟨b, 5, none⟩) (.inl rfl) _) (p := ⟨b, 6, none⟩) (.inl rfl) _) (p := ⟨b, 7, none⟩) (.inl rfl) _) (.cells #[.int .i64 V2.map.W, .int .i64 V2.map.H, .slice S2.ms.A S2.ms.n S2.ms.c, .slice S2.ms.A2 S2.ms.n2 S2.ms.c2, .int .u64 V2.st, .int .i64 V2.tick, .slice S2.A S2.n S2.c] 54))
  have E2 : Row ((((((((w1.setCell ⟨b, 1, none⟩ (.int .i64 V2.map.W)).setCell ⟨b, 2, none⟩ (.int .i64 V2.map.H)).setCell ⟨b, 3, none⟩ (.slice S2.ms.A S2.ms.n S2.ms.c)).setCell ⟨b, 4, none⟩ (.slice S2.ms.A2 S2.ms.n2 S2.ms.c2)).setCell ⟨b, 5, none⟩ (.int .u64 V2.st)).setCell ⟨b, 6, none⟩ (.int .i64 V2.tick)).setCell ⟨b, 7, none⟩ (.slice S2.A S2.n S2.c)).alloc (.cells #[.int .i64 V2.map.W, .int .i64 V2.map.H, .slice S2.ms.A S2.ms.n S2.ms.c, .slice S2.ms.A2 S2.ms.n2 S2.ms.c2, .int .u64 V2.st, .int .i64 V2.tick, .slice S2.A S2.n S2.c] 54)) 72 8 S2.A S2.n S2.c (entsV V2.l) := HRW.out.keep (fun q hq => (Below.heap_alloc _ _ q (by have := HRW.out.lt hq; simpa using this)).trans ((Below.heap_setCell _ _ _ q (hnb q hq)).trans ((Below.heap_setCell _ _ _ q (hnb q hq)).trans ((Below.heap_setCell _ _ _ q (hnb q hq)).trans ((Below.heap_setCell _ _ _ q (hnb q hq)).trans ((Below.heap_setCell _ _ _ q (hnb q hq)).trans ((Below.heap_setCell _ _ _ q (hnb q hq)).trans ((Below.heap_setCell _ _ _ q (hnb q hq)).trans (rfl)))))))))
  generalize ((((((((w1.setCell ⟨b, 1, none⟩ (.int .i64 V2.map.W)).setCell ⟨b, 2, none⟩ (.int .i64 V2.map.H)).setCell ⟨b, 3, none⟩ (.slice S2.ms.A S2.ms.n S2.ms.c)).setCell ⟨b, 4, none⟩ (.slice S2.ms.A2 S2.ms.n2 S2.ms.c2)).setCell ⟨b, 5, none⟩ (.int .u64 V2.st)).setCell ⟨b, 6, none⟩ (.int .i64 V2.tick)).setCell ⟨b, 7, none⟩ (.slice S2.A S2.n S2.c)).alloc (.cells #[.int .i64 V2.map.W, .int .i64 V2.map.H, .slice S2.ms.A S2.ms.n S2.ms.c, .slice S2.ms.A2 S2.ms.n2 S2.ms.c2, .int .u64 V2.st, .int .i64 V2.tick, .slice S2.A S2.n S2.c] 54)) = w2 at E0 E1 E2 ⊢
  have G0 := Lib.hid E0
  have G1 := Lib.hid E1
  have G2 := Lib.hid E2
  have x12 : w2.cell? ⟨b, 12, none⟩ = some (.pointer none) := E0.cell 12
  have f12 : w2.frozen? ⟨b, 12, none⟩ = false := E0.frozen 12
  have lb2 := E0.lt
  have hsz2 := E1.size
  have HNB := Lib.hid hnb
  clear E0 E1 E2 hnb fz y0 y1 y2 y3 y4 y5 y6 y12 HB1 HBE HRW lb1 hs1
  go_cut [] (fun wx => ∃ pb : Nat, Blk wx b 112 #[.int .u64 seed, .int .i64 V2.map.W, .int .i64 V2.map.H, .slice S2.ms.A S2.ms.n S2.ms.c, .slice S2.ms.A2 S2.ms.n2 S2.ms.c2, .int .u64 V2.st, .int .i64 V2.tick, .slice S2.A S2.n S2.c, .slice rA rn rc, .map rm, .pointer none, .pointer none, .pointer (some ⟨pb, 0, none⟩), .pointer none, .pointer none, .pointer none, .pointer none, .pointer none, .pointer none] ∧ Row wx 72 8 S2.A S2.n S2.c (entsV V2.l) ∧ Chg (fun q => q = b) w wx)
  case first =>
    go_region_law (go_simp; go_at_call 121; refine (bucketNew _).mono ?_; rintro e w3 ⟨ib, rfl, hs3, hb3⟩; have BV : Below w2.heap.size w2 w3 := (by refine Below.trans (by repeat (first | with_reducible exact Below.refl _ _ | with_reducible assumption | with_reducible refine Below.drew ?_ | with_reducible refine below_drews ?_ _ | with_reducible refine Below.alloc ?_ (by first | omega | (simp; done) | (simp; omega)) _ | with_reducible refine Below.setCell ?_ (by first | omega | (simp; done) | (simp; omega)) _)) (hb3.mono ?_); simp); have x12' : w3.cell? ⟨b, 12, none⟩ = some (.pointer none) := (BV.cell (p := ⟨b, 12, none⟩) lb2).trans x12; have f12' : w3.frozen? ⟨b, 12, none⟩ = false := (BV.frozen (p := ⟨b, 12, none⟩) lb2).trans f12; have lb3 : b < w3.heap.size := (by have := BV.size; omega); have HBV := Lib.hid BV; clear hs3 hb3 BV)
    all_goals go_wp2_with fail
    all_goals go_meet
    all_goals
      have e : Blk (w3.setCell ⟨b, 12, none⟩ (.pointer (some ⟨w3.heap.size, 0, none⟩))) b 112 #[.int .u64 seed, .int .i64 V2.map.W, .int .i64 V2.map.H, .slice S2.ms.A S2.ms.n S2.ms.c, .slice S2.ms.A2 S2.ms.n2 S2.ms.c2, .int .u64 V2.st, .int .i64 V2.tick, .slice S2.A S2.n S2.c, .slice rA rn rc, .map rm, .pointer none, .pointer none, .pointer (some ⟨w3.heap.size, 0, none⟩), .pointer none, .pointer none, .pointer none, .pointer none, .pointer none, .pointer none] := by
        have := (G0.out.below HBV.out lb2).set_ 12 (.pointer (some ⟨w3.heap.size, 0, none⟩))
        simpa using this
      have r1 := G2.out.keep (w' := w3) (fun q hq => HBV.out.block q (G2.out.lt hq))
      have r2 := r1.keep (w' := w3.setCell ⟨b, 12, none⟩ (.pointer (some ⟨w3.heap.size, 0, none⟩))) (fun q hq => Below.heap_setCell _ _ _ q (HNB.out q hq))
      have c1 := Chg.setCell (F := fun q => q = b) (Chg.below G1.out HBV.out hsz2) (p := ⟨b, 12, none⟩) (.inl rfl) (.pointer (some ⟨w3.heap.size, 0, none⟩))
      exact ⟨w3.heap.size, e.alloc _, r2.keep (fun q hq => Below.heap_alloc _ _ q (r2.lt hq)), c1.alloc _⟩
  case rest =>
    obtain ⟨pb, e0, e1, e2⟩ := hcut
    have HT := Lib.hid (srvTell2 seed V2 S2 rA rn rc rm pb b ⟨#[106, 111, 105, 110, 101, 100]⟩ wc e0)
    have X := Lib.hid (show _ ∧ _ ∧ _ from ⟨e0, e1, e2⟩)
    clear e0 e1 e2 x12 f12
    go_wp2_with fail
    refine HT.out.mono ?_
    rintro e w4 ⟨rfl, rfl⟩
    go_wp2
    go_ret
    exact ⟨rfl, V2, S2, pb, HLEN.out, X.out.1, X.out.2.1.reads (by decide), X.out.2.2⟩
end Go.Proofs.YthafngfnbnehiaaGreatDoor
