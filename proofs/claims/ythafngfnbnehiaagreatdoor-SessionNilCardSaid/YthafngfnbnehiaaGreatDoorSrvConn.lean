/- Layer 21: a slot is taken on a server where nobody is. (Printed by gen_srvconn.py.) -/
import Derived.Test.YthafngfnbnehiaaGreatDoorSrvNew

set_option linter.unusedSimpArgs false
set_option linter.unusedVariables false
namespace Go.Proofs.YthafngfnbnehiaaGreatDoor
open Go.RowKit
theorem srvPeer2 (seed : Int) (V : WorldV) (S : WorldS) (rA : Option Addr) (rn rc : Nat) (rm : Option Nat) (pb b : Nat) (w : World) (hb : Blk w b 112 #[.int .u64 seed, .int .i64 V.map.W, .int .i64 V.map.H, .slice S.ms.A S.ms.n S.ms.c, .slice S.ms.A2 S.ms.n2 S.ms.c2, .int .u64 V.st, .int .i64 V.tick, .slice S.A S.n S.c, .slice rA rn rc, .map rm, .pointer none, .pointer none, .pointer (some ⟨pb, 0, none⟩), .pointer none, .pointer none, .pointer none, .pointer none, .pointer none, .pointer none]) :
    Calls Tryz.prog 43 #[.pointer (some ⟨b, 0, none⟩), .int .i64 2] w fun e w' => e = .returned (.pointer (some ⟨pb, 0, none⟩)) ∧ w = w' := by
  have z : w.cell? ⟨b, 12, none⟩ = some (.pointer (some ⟨pb, 0, none⟩)) := hb.cell 12
  clear hb
  go_enter Tryz.func43, Tryz.ntmps43
  go_wp2
  go_ret
  exact ⟨rfl, rfl⟩
theorem srvConnected2 (seed : Int) (V : WorldV) (S : WorldS) (rA : Option Addr) (rn rc : Nat) (rm : Option Nat) (pb b : Nat) (w : World) (hb : Blk w b 112 #[.int .u64 seed, .int .i64 V.map.W, .int .i64 V.map.H, .slice S.ms.A S.ms.n S.ms.c, .slice S.ms.A2 S.ms.n2 S.ms.c2, .int .u64 V.st, .int .i64 V.tick, .slice S.A S.n S.c, .slice rA rn rc, .map rm, .pointer none, .pointer none, .pointer (some ⟨pb, 0, none⟩), .pointer none, .pointer none, .pointer none, .pointer none, .pointer none, .pointer none]) :
    Calls Tryz.prog 17 #[.pointer (some ⟨b, 0, none⟩), .int .i64 2] w fun e w' => e = .returned (.bool true) ∧ w = w' := by
  have HP := Lib.hid (srvPeer2 seed V S rA rn rc rm pb b w hb)
  clear hb
  go_enter Tryz.func17, Tryz.ntmps17
  go_wp2_with fail
  refine HP.out.mono ?_
  rintro e w1 ⟨rfl, rfl⟩
  go_wp2
  go_ret
  exact ⟨rfl, rfl⟩
set_option maxRecDepth 100000 in
theorem ixPeer0 (pb : Nat) (w : World) : (Instr.index 110 (.agg #[.pointer none, .pointer none, .pointer (some ⟨pb, 0, none⟩), .pointer none, .pointer none, .pointer none, .pointer none, .pointer none, .pointer none]) (.int .i64 0)).run Tryz.prog w = .ok (.pointer none) w := by kernel_rfl
set_option maxRecDepth 100000 in
theorem ixPeer1 (pb : Nat) (w : World) : (Instr.index 110 (.agg #[.pointer none, .pointer none, .pointer (some ⟨pb, 0, none⟩), .pointer none, .pointer none, .pointer none, .pointer none, .pointer none, .pointer none]) (.int .i64 1)).run Tryz.prog w = .ok (.pointer none) w := by kernel_rfl
set_option maxRecDepth 100000 in
theorem ixPeer2 (pb : Nat) (w : World) : (Instr.index 110 (.agg #[.pointer none, .pointer none, .pointer (some ⟨pb, 0, none⟩), .pointer none, .pointer none, .pointer none, .pointer none, .pointer none, .pointer none]) (.int .i64 2)).run Tryz.prog w = .ok (.pointer (some ⟨pb, 0, none⟩)) w := by kernel_rfl
set_option maxRecDepth 100000 in
theorem ixPeer3 (pb : Nat) (w : World) : (Instr.index 110 (.agg #[.pointer none, .pointer none, .pointer (some ⟨pb, 0, none⟩), .pointer none, .pointer none, .pointer none, .pointer none, .pointer none, .pointer none]) (.int .i64 3)).run Tryz.prog w = .ok (.pointer none) w := by kernel_rfl
set_option maxRecDepth 100000 in
theorem ixPeer4 (pb : Nat) (w : World) : (Instr.index 110 (.agg #[.pointer none, .pointer none, .pointer (some ⟨pb, 0, none⟩), .pointer none, .pointer none, .pointer none, .pointer none, .pointer none, .pointer none]) (.int .i64 4)).run Tryz.prog w = .ok (.pointer none) w := by kernel_rfl
set_option maxRecDepth 100000 in
theorem ixPeer5 (pb : Nat) (w : World) : (Instr.index 110 (.agg #[.pointer none, .pointer none, .pointer (some ⟨pb, 0, none⟩), .pointer none, .pointer none, .pointer none, .pointer none, .pointer none, .pointer none]) (.int .i64 5)).run Tryz.prog w = .ok (.pointer none) w := by kernel_rfl
set_option maxRecDepth 100000 in
theorem ixPeer6 (pb : Nat) (w : World) : (Instr.index 110 (.agg #[.pointer none, .pointer none, .pointer (some ⟨pb, 0, none⟩), .pointer none, .pointer none, .pointer none, .pointer none, .pointer none, .pointer none]) (.int .i64 6)).run Tryz.prog w = .ok (.pointer none) w := by kernel_rfl
set_option maxRecDepth 100000 in
theorem ixPeer7 (pb : Nat) (w : World) : (Instr.index 110 (.agg #[.pointer none, .pointer none, .pointer (some ⟨pb, 0, none⟩), .pointer none, .pointer none, .pointer none, .pointer none, .pointer none, .pointer none]) (.int .i64 7)).run Tryz.prog w = .ok (.pointer none) w := by kernel_rfl
set_option maxRecDepth 100000 in
theorem ixPeer8 (pb : Nat) (w : World) : (Instr.index 110 (.agg #[.pointer none, .pointer none, .pointer (some ⟨pb, 0, none⟩), .pointer none, .pointer none, .pointer none, .pointer none, .pointer none, .pointer none]) (.int .i64 8)).run Tryz.prog w = .ok (.pointer none) w := by kernel_rfl
set_option maxRecDepth 100000 in
set_option maxHeartbeats 4000000 in
theorem srvTell2 (seed : Int) (V : WorldV) (S : WorldS) (rA : Option Addr) (rn rc : Nat) (rm : Option Nat) (pb b : Nat) (what : ByteArray) (w : World) (hb : Blk w b 112 #[.int .u64 seed, .int .i64 V.map.W, .int .i64 V.map.H, .slice S.ms.A S.ms.n S.ms.c, .slice S.ms.A2 S.ms.n2 S.ms.c2, .int .u64 V.st, .int .i64 V.tick, .slice S.A S.n S.c, .slice rA rn rc, .map rm, .pointer none, .pointer none, .pointer (some ⟨pb, 0, none⟩), .pointer none, .pointer none, .pointer none, .pointer none, .pointer none, .pointer none]) :
    Calls Tryz.prog 64 #[.pointer (some ⟨b, 0, none⟩), .int .i64 2, .string what] w fun e w' => e = .returned (.tuple #[]) ∧ w = w' := by
  have ix0 := fun W => ixPeer0 pb W
  have ix1 := fun W => ixPeer1 pb W
  have ix2 := fun W => ixPeer2 pb W
  have ix3 := fun W => ixPeer3 pb W
  have ix4 := fun W => ixPeer4 pb W
  have ix5 := fun W => ixPeer5 pb W
  have ix6 := fun W => ixPeer6 pb W
  have ix7 := fun W => ixPeer7 pb W
  have ix8 := fun W => ixPeer8 pb W
  have z0 : w.cell? ⟨b, 10, none⟩ = some (.pointer none) := hb.cell 10
  have z1 : w.cell? ⟨b, 11, none⟩ = some (.pointer none) := hb.cell 11
  have z2 : w.cell? ⟨b, 12, none⟩ = some (.pointer (some ⟨pb, 0, none⟩)) := hb.cell 12
  have z3 : w.cell? ⟨b, 13, none⟩ = some (.pointer none) := hb.cell 13
  have z4 : w.cell? ⟨b, 14, none⟩ = some (.pointer none) := hb.cell 14
  have z5 : w.cell? ⟨b, 15, none⟩ = some (.pointer none) := hb.cell 15
  have z6 : w.cell? ⟨b, 16, none⟩ = some (.pointer none) := hb.cell 16
  have z7 : w.cell? ⟨b, 17, none⟩ = some (.pointer none) := hb.cell 17
  have z8 : w.cell? ⟨b, 18, none⟩ = some (.pointer none) := hb.cell 18
  clear hb
  go_enter Tryz.func64, Tryz.ntmps64
  go_wp2
  refine wp_loop_rounds 10 ?_
  iterate 10
    rw [rounds_succ]
    go_wp2
  first | go_end0 | refine bodyPost_ret (results_none rfl _ _ _) rfl ?_
  exact ⟨rfl, rfl⟩
set_option maxRecDepth 100000 in
set_option maxHeartbeats 4000000 in
theorem srvWorld (seed : Int) (V : WorldV) (S : WorldS) (rA : Option Addr) (rn rc : Nat) (rm : Option Nat) (pb b : Nat) (w : World) (hb : Blk w b 112 #[.int .u64 seed, .int .i64 V.map.W, .int .i64 V.map.H, .slice S.ms.A S.ms.n S.ms.c, .slice S.ms.A2 S.ms.n2 S.ms.c2, .int .u64 V.st, .int .i64 V.tick, .slice S.A S.n S.c, .slice rA rn rc, .map rm, .pointer none, .pointer none, .pointer (some ⟨pb, 0, none⟩), .pointer none, .pointer none, .pointer none, .pointer none, .pointer none, .pointer none]) (hl : Reads w w.heap.size 8 S.A S.n (entsV V.l)) (hn : S.n ≤ 100000) :
    Calls Tryz.prog 18 #[.pointer (some ⟨b, 0, none⟩)] w fun e w' => ∃ s' : WorldS, e = .returned (.agg #[.int .i64 V.map.W, .int .i64 V.map.H, .slice s'.ms.A s'.ms.n s'.ms.c, .slice s'.ms.A2 s'.ms.n2 s'.ms.c2, .int .u64 V.st, .int .i64 V.tick, .slice s'.A s'.n s'.c]) ∧ s'.n = S.n ∧ Below w.heap.size w w' := by
  have lb := hb.lt
  have z0 : w.cell? ⟨b, 1, none⟩ = some (.int .i64 V.map.W) := hb.cell 1
  have z1 : w.cell? ⟨b, 2, none⟩ = some (.int .i64 V.map.H) := hb.cell 2
  have z2 : w.cell? ⟨b, 3, none⟩ = some (.slice S.ms.A S.ms.n S.ms.c) := hb.cell 3
  have z3 : w.cell? ⟨b, 4, none⟩ = some (.slice S.ms.A2 S.ms.n2 S.ms.c2) := hb.cell 4
  have z4 : w.cell? ⟨b, 5, none⟩ = some (.int .u64 V.st) := hb.cell 5
  have z5 : w.cell? ⟨b, 6, none⟩ = some (.int .i64 V.tick) := hb.cell 6
  have z6 : w.cell? ⟨b, 7, none⟩ = some (.slice S.A S.n S.c) := hb.cell 7
  have HX := Lib.hid (twoBoxesS w #[.int .i64 0, .int .i64 0, .slice none 0 0, .slice none 0 0, .int .u64 0, .int .i64 0, .slice none 0 0] #[.int .i64 V.map.W, .int .i64 V.map.H, .slice S.ms.A S.ms.n S.ms.c, .slice S.ms.A2 S.ms.n2 S.ms.c2, .int .u64 V.st, .int .i64 V.tick, .slice S.A S.n S.c] 54 54)
  have HL := Lib.hid (fun W (hW : Below w.heap.size w W) => cloneE V.l W S.A S.n S.c ((hl.below hW).upto hW.size) hn)
  clear hb hl
  go_enter Tryz.func18, Tryz.ntmps18
  go_wp2_with fail
  obtain ⟨B1, b1, b2⟩ := HX.out
  generalize ((w.alloc (.cells #[.int .i64 0, .int .i64 0, .slice none 0 0, .slice none 0 0, .int .u64 0, .int .i64 0, .slice none 0 0] 54)).alloc (.cells #[.int .i64 V.map.W, .int .i64 V.map.H, .slice S.ms.A S.ms.n S.ms.c, .slice S.ms.A2 S.ms.n2 S.ms.c2, .int .u64 V.st, .int .i64 V.tick, .slice S.A S.n S.c] 54)) = wa at B1 b1 b2 ⊢
  refine (HL.out wa B1).mono ?_
  rintro e w1 ⟨A', c', rfl, hr, hfr, hb1⟩
  have e1 := b1.below hb1 b1.lt
  have e2 := b2.below hb1 b2.lt
  have B2 := Lib.hid (B1.trans (hb1.mono B1.size))
  have l1 := e1.lt
  have l2 := e2.lt
  have x0 : w1.cell? ⟨w.heap.size, 0, none⟩ = some (.int .i64 0) := e1.cell 0
  have x1 : w1.cell? ⟨w.heap.size, 1, none⟩ = some (.int .i64 0) := e1.cell 1
  have x2 : w1.cell? ⟨w.heap.size, 2, none⟩ = some (.slice none 0 0) := e1.cell 2
  have x3 : w1.cell? ⟨w.heap.size, 3, none⟩ = some (.slice none 0 0) := e1.cell 3
  have x4 : w1.cell? ⟨w.heap.size, 4, none⟩ = some (.int .u64 0) := e1.cell 4
  have x5 : w1.cell? ⟨w.heap.size, 5, none⟩ = some (.int .i64 0) := e1.cell 5
  have x6 : w1.cell? ⟨w.heap.size, 6, none⟩ = some (.slice none 0 0) := e1.cell 6
  have y0 : w1.cell? ⟨w.heap.size + 1, 0, none⟩ = some (.int .i64 V.map.W) := e2.cell 0
  have y1 : w1.cell? ⟨w.heap.size + 1, 1, none⟩ = some (.int .i64 V.map.H) := e2.cell 1
  have y2 : w1.cell? ⟨w.heap.size + 1, 2, none⟩ = some (.slice S.ms.A S.ms.n S.ms.c) := e2.cell 2
  have y3 : w1.cell? ⟨w.heap.size + 1, 3, none⟩ = some (.slice S.ms.A2 S.ms.n2 S.ms.c2) := e2.cell 3
  have y4 : w1.cell? ⟨w.heap.size + 1, 4, none⟩ = some (.int .u64 V.st) := e2.cell 4
  have y5 : w1.cell? ⟨w.heap.size + 1, 5, none⟩ = some (.int .i64 V.tick) := e2.cell 5
  have y6 : w1.cell? ⟨w.heap.size + 1, 6, none⟩ = some (.slice S.A S.n S.c) := e2.cell 6
  have q1 : ∀ j, w1.frozen? ⟨w.heap.size, j, none⟩ = false := e1.frozen
  have q2 : ∀ j, w1.frozen? ⟨w.heap.size + 1, j, none⟩ = false := e2.frozen
  have E1 := Lib.hid e1
  clear B1 b1 b2 hb1 hr hfr e1 e2 z0 z1 z2 z3 z4 z5 z6
  go_wp2
  have f0 : Blk ((((((((w1.setCell ⟨w.heap.size + 1, 6, none⟩ (.slice A' S.n c')).setCell ⟨w.heap.size, 0, none⟩ (.int .i64 V.map.W)).setCell ⟨w.heap.size, 1, none⟩ (.int .i64 V.map.H)).setCell ⟨w.heap.size, 2, none⟩ (.slice S.ms.A S.ms.n S.ms.c)).setCell ⟨w.heap.size, 3, none⟩ (.slice S.ms.A2 S.ms.n2 S.ms.c2)).setCell ⟨w.heap.size, 4, none⟩ (.int .u64 V.st)).setCell ⟨w.heap.size, 5, none⟩ (.int .i64 V.tick)).setCell ⟨w.heap.size, 6, none⟩ (.slice A' S.n c')) w.heap.size 54 #[.int .i64 V.map.W, .int .i64 V.map.H, .slice S.ms.A S.ms.n S.ms.c, .slice S.ms.A2 S.ms.n2 S.ms.c2, .int .u64 V.st, .int .i64 V.tick, .slice A' S.n c'] := by
    have := ((((((((E1.out.far (p := ⟨w.heap.size + 1, 6, none⟩) (by show w.heap.size ≠ w.heap.size + 1; omega) (.slice A' S.n c')).set_ 0 (.int .i64 V.map.W)).set_ 1 (.int .i64 V.map.H)).set_ 2 (.slice S.ms.A S.ms.n S.ms.c)).set_ 3 (.slice S.ms.A2 S.ms.n2 S.ms.c2)).set_ 4 (.int .u64 V.st)).set_ 5 (.int .i64 V.tick)).set_ 6 (.slice A' S.n c'))
    simpa using this
  have f1 : Below w.heap.size w ((((((((w1.setCell ⟨w.heap.size + 1, 6, none⟩ (.slice A' S.n c')).setCell ⟨w.heap.size, 0, none⟩ (.int .i64 V.map.W)).setCell ⟨w.heap.size, 1, none⟩ (.int .i64 V.map.H)).setCell ⟨w.heap.size, 2, none⟩ (.slice S.ms.A S.ms.n S.ms.c)).setCell ⟨w.heap.size, 3, none⟩ (.slice S.ms.A2 S.ms.n2 S.ms.c2)).setCell ⟨w.heap.size, 4, none⟩ (.int .u64 V.st)).setCell ⟨w.heap.size, 5, none⟩ (.int .i64 V.tick)).setCell ⟨w.heap.size, 6, none⟩ (.slice A' S.n c')) := (Below.setCell (Below.setCell (Below.setCell (Below.setCell (Below.setCell (Below.setCell (Below.setCell (Below.setCell B2.out (p := ⟨w.heap.size + 1, 6, none⟩) (by show w.heap.size ≤ w.heap.size + 1; omega) _) (p := ⟨w.heap.size, 0, none⟩) (Nat.le_refl _) _) (p := ⟨w.heap.size, 1, none⟩) (Nat.le_refl _) _) (p := ⟨w.heap.size, 2, none⟩) (Nat.le_refl _) _) (p := ⟨w.heap.size, 3, none⟩) (Nat.le_refl _) _) (p := ⟨w.heap.size, 4, none⟩) (Nat.le_refl _) _) (p := ⟨w.heap.size, 5, none⟩) (Nat.le_refl _) _) (p := ⟨w.heap.size, 6, none⟩) (Nat.le_refl _) _)
  generalize ((((((((w1.setCell ⟨w.heap.size + 1, 6, none⟩ (.slice A' S.n c')).setCell ⟨w.heap.size, 0, none⟩ (.int .i64 V.map.W)).setCell ⟨w.heap.size, 1, none⟩ (.int .i64 V.map.H)).setCell ⟨w.heap.size, 2, none⟩ (.slice S.ms.A S.ms.n S.ms.c)).setCell ⟨w.heap.size, 3, none⟩ (.slice S.ms.A2 S.ms.n2 S.ms.c2)).setCell ⟨w.heap.size, 4, none⟩ (.int .u64 V.st)).setCell ⟨w.heap.size, 5, none⟩ (.int .i64 V.tick)).setCell ⟨w.heap.size, 6, none⟩ (.slice A' S.n c')) = wf at f0 f1 ⊢
  have r0 : wf.cell? ⟨w.heap.size, 0, none⟩ = some (.int .i64 V.map.W) := f0.cell 0
  have r1 : wf.cell? ⟨w.heap.size, 1, none⟩ = some (.int .i64 V.map.H) := f0.cell 1
  have r2 : wf.cell? ⟨w.heap.size, 2, none⟩ = some (.slice S.ms.A S.ms.n S.ms.c) := f0.cell 2
  have r3 : wf.cell? ⟨w.heap.size, 3, none⟩ = some (.slice S.ms.A2 S.ms.n2 S.ms.c2) := f0.cell 3
  have r4 : wf.cell? ⟨w.heap.size, 4, none⟩ = some (.int .u64 V.st) := f0.cell 4
  have r5 : wf.cell? ⟨w.heap.size, 5, none⟩ = some (.int .i64 V.tick) := f0.cell 5
  have r6 : wf.cell? ⟨w.heap.size, 6, none⟩ = some (.slice A' S.n c') := f0.cell 6
  clear x0 x1 x2 x3 x4 x5 x6 y0 y1 y2 y3 y4 y5 y6 q1 q2
  exact bodyPost_ret (v := .agg #[.int .i64 V.map.W, .int .i64 V.map.H, .slice S.ms.A S.ms.n S.ms.c, .slice S.ms.A2 S.ms.n2 S.ms.c2, .int .u64 V.st, .int .i64 V.tick, .slice A' S.n c']) (by simp [results, Tryz.results18, go_sem, r0, r1, r2, r3, r4, r5, r6]) rfl ⟨⟨S.ms, A', S.n, c'⟩, rfl, rfl, f1⟩
end Go.Proofs.YthafngfnbnehiaaGreatDoor
