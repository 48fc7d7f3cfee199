/- Layer 21: a server's world, asked; the list is a copy. (Printed by gen_srvworldg.py out of SrvConn.) Layer 21's laws: awake. -/
import Derived.Test.YtojbijapdkohlaaGreatDoorQ40SrvBkt
import Derived.Test.YtojbijapdkohlaaGreatDoorSrvNewG
import Derived.Test.YtojbijapdkohlaaGreatDoorQ43SlotsS
import Derived.Test.YtojbijapdkohlaaGreatDoorRead
import Derived.Test.YtojbijapdkohlaaGreatDoorQ36WClear
import Derived.Test.YtojbijapdkohlaaGreatDoorQ27SlotsP
set_option linter.unusedSimpArgs false
set_option linter.unusedVariables false
namespace Go.Proofs.YtojbijapdkohlaaGreatDoor
open Go.RowKit
set_option maxRecDepth 100000 in
set_option maxHeartbeats 4000000 in
theorem srvWorldG (V : WorldV) (S : WorldS) (b : Nat) (w : World) (lb : b < w.heap.size) (z0 : w.cell? ⟨b, 1, none⟩ = some (.int .i64 V.map.W)) (z1 : w.cell? ⟨b, 2, none⟩ = some (.int .i64 V.map.H)) (z2 : w.cell? ⟨b, 3, none⟩ = some (.slice S.ms.A S.ms.n S.ms.c)) (z3 : w.cell? ⟨b, 4, none⟩ = some (.slice S.ms.A2 S.ms.n2 S.ms.c2)) (z4 : w.cell? ⟨b, 5, none⟩ = some (.int .u64 V.st)) (z5 : w.cell? ⟨b, 6, none⟩ = some (.int .i64 V.tick)) (z6 : w.cell? ⟨b, 7, none⟩ = some (.slice S.A S.n S.c)) (hl : Reads w w.heap.size 8 S.A S.n (entsV V.l)) (hn : S.n ≤ 100000) :
    Calls Tryz.prog 23 #[.pointer (some ⟨b, 0, none⟩)] w fun e w' => ∃ s' : WorldS, e = .returned (.agg #[.int .i64 V.map.W, .int .i64 V.map.H, .slice s'.ms.A s'.ms.n s'.ms.c, .slice s'.ms.A2 s'.ms.n2 s'.ms.c2, .int .u64 V.st, .int .i64 V.tick, .slice s'.A s'.n s'.c]) ∧ s'.n = S.n ∧ Row w' 55 8 s'.A s'.n s'.c (entsV V.l) ∧ Below w.heap.size w w' := by
  have HX := Lib.hid (twoBoxesS w #[.int .i64 0, .int .i64 0, .slice none 0 0, .slice none 0 0, .int .u64 0, .int .i64 0, .slice none 0 0] #[.int .i64 V.map.W, .int .i64 V.map.H, .slice S.ms.A S.ms.n S.ms.c, .slice S.ms.A2 S.ms.n2 S.ms.c2, .int .u64 V.st, .int .i64 V.tick, .slice S.A S.n S.c] 46 46)
  have HL := Lib.hid (fun W (hW : Below w.heap.size w W) => cloneE V.l W S.A S.n S.c ((hl.below hW).upto hW.size) hn)
  clear hl
  go_enter Tryz.func23, Tryz.ntmps23
  go_wp2_with fail
  obtain ⟨B1, b1, b2⟩ := HX.out
  generalize ((w.alloc (.cells #[.int .i64 0, .int .i64 0, .slice none 0 0, .slice none 0 0, .int .u64 0, .int .i64 0, .slice none 0 0] 46)).alloc (.cells #[.int .i64 V.map.W, .int .i64 V.map.H, .slice S.ms.A S.ms.n S.ms.c, .slice S.ms.A2 S.ms.n2 S.ms.c2, .int .u64 V.st, .int .i64 V.tick, .slice S.A S.n S.c] 46)) = wa at B1 b1 b2 ⊢
  refine (HL.out wa B1).mono ?_
  rintro e w1 ⟨A', c', rfl, hr, hfr, hb1⟩
  have e1 := b1.below hb1 b1.lt
  have e2 := b2.below hb1 b2.lt
  have B2 := Lib.hid (B1.trans (hb1.mono B1.size))
  have l1 := e1.lt
  have l2 := e2.lt
  have x0 : w1.cell? ⟨w.heap.size, 0, none⟩ = some (.int .i64 0) := e1.cell 0
  have x1 : w1.cell? ⟨w.heap.size, 1, none⟩ = some (.int .i64 0) := e1.cell 1
  have x2 : w1.cell? ⟨w.heap.size, 2, none⟩ = some (.slice none 0 0) := e1.cell 2
  have x3 : w1.cell? ⟨w.heap.size, 3, none⟩ = some (.slice none 0 0) := e1.cell 3
  have x4 : w1.cell? ⟨w.heap.size, 4, none⟩ = some (.int .u64 0) := e1.cell 4
  have x5 : w1.cell? ⟨w.heap.size, 5, none⟩ = some (.int .i64 0) := e1.cell 5
  have x6 : w1.cell? ⟨w.heap.size, 6, none⟩ = some (.slice none 0 0) := e1.cell 6
  have y0 : w1.cell? ⟨w.heap.size + 1, 0, none⟩ = some (.int .i64 V.map.W) := e2.cell 0
  have y1 : w1.cell? ⟨w.heap.size + 1, 1, none⟩ = some (.int .i64 V.map.H) := e2.cell 1
  have y2 : w1.cell? ⟨w.heap.size + 1, 2, none⟩ = some (.slice S.ms.A S.ms.n S.ms.c) := e2.cell 2
  have y3 : w1.cell? ⟨w.heap.size + 1, 3, none⟩ = some (.slice S.ms.A2 S.ms.n2 S.ms.c2) := e2.cell 3
  have y4 : w1.cell? ⟨w.heap.size + 1, 4, none⟩ = some (.int .u64 V.st) := e2.cell 4
  have y5 : w1.cell? ⟨w.heap.size + 1, 5, none⟩ = some (.int .i64 V.tick) := e2.cell 5
  have y6 : w1.cell? ⟨w.heap.size + 1, 6, none⟩ = some (.slice S.A S.n S.c) := e2.cell 6
  have q1 : ∀ j, w1.frozen? ⟨w.heap.size, j, none⟩ = false := e1.frozen
  have q2 : ∀ j, w1.frozen? ⟨w.heap.size + 1, j, none⟩ = false := e2.frozen
  have E1 := Lib.hid e1
  have k1 := hr.ne_blkR e1 (by decide)
  have k2 := hr.ne_blkR e2 (by decide)
  have HR := Lib.hid hr
  have K1 := Lib.hid k1
  have K2 := Lib.hid k2
  clear k1 k2
  clear B1 b1 b2 hb1 hr hfr e1 e2 z0 z1 z2 z3 z4 z5 z6
  go_wp2
  have f0 : Blk ((((((((w1.setCell ⟨w.heap.size + 1, 6, none⟩ (.slice A' S.n c')).setCell ⟨w.heap.size, 0, none⟩ (.int .i64 V.map.W)).setCell ⟨w.heap.size, 1, none⟩ (.int .i64 V.map.H)).setCell ⟨w.heap.size, 2, none⟩ (.slice S.ms.A S.ms.n S.ms.c)).setCell ⟨w.heap.size, 3, none⟩ (.slice S.ms.A2 S.ms.n2 S.ms.c2)).setCell ⟨w.heap.size, 4, none⟩ (.int .u64 V.st)).setCell ⟨w.heap.size, 5, none⟩ (.int .i64 V.tick)).setCell ⟨w.heap.size, 6, none⟩ (.slice A' S.n c')) w.heap.size 46 #[.int .i64 V.map.W, .int .i64 V.map.H, .slice S.ms.A S.ms.n S.ms.c, .slice S.ms.A2 S.ms.n2 S.ms.c2, .int .u64 V.st, .int .i64 V.tick, .slice A' S.n c'] := by
    have := ((((((((E1.out.far (p := ⟨w.heap.size + 1, 6, none⟩) (by show w.heap.size ≠ w.heap.size + 1; omega) (.slice A' S.n c')).set_ 0 (.int .i64 V.map.W)).set_ 1 (.int .i64 V.map.H)).set_ 2 (.slice S.ms.A S.ms.n S.ms.c)).set_ 3 (.slice S.ms.A2 S.ms.n2 S.ms.c2)).set_ 4 (.int .u64 V.st)).set_ 5 (.int .i64 V.tick)).set_ 6 (.slice A' S.n c'))
    simpa using this
  have f1 : Below w.heap.size w ((((((((w1.setCell ⟨w.heap.size + 1, 6, none⟩ (.slice A' S.n c')).setCell ⟨w.heap.size, 0, none⟩ (.int .i64 V.map.W)).setCell ⟨w.heap.size, 1, none⟩ (.int .i64 V.map.H)).setCell ⟨w.heap.size, 2, none⟩ (.slice S.ms.A S.ms.n S.ms.c)).setCell ⟨w.heap.size, 3, none⟩ (.slice S.ms.A2 S.ms.n2 S.ms.c2)).setCell ⟨w.heap.size, 4, none⟩ (.int .u64 V.st)).setCell ⟨w.heap.size, 5, none⟩ (.int .i64 V.tick)).setCell ⟨w.heap.size, 6, none⟩ (.slice A' S.n c')) := (Below.setCell (Below.setCell (Below.setCell (Below.setCell (Below.setCell (Below.setCell (Below.setCell (Below.setCell B2.out (p := ⟨w.heap.size + 1, 6, none⟩) (by show w.heap.size ≤ w.heap.size + 1; omega) _) (p := ⟨w.heap.size, 0, none⟩) (Nat.le_refl _) _) (p := ⟨w.heap.size, 1, none⟩) (Nat.le_refl _) _) (p := ⟨w.heap.size, 2, none⟩) (Nat.le_refl _) _) (p := ⟨w.heap.size, 3, none⟩) (Nat.le_refl _) _) (p := ⟨w.heap.size, 4, none⟩) (Nat.le_refl _) _) (p := ⟨w.heap.size, 5, none⟩) (Nat.le_refl _) _) (p := ⟨w.heap.size, 6, none⟩) (Nat.le_refl _) _)
  have f2 : Row ((((((((w1.setCell ⟨w.heap.size + 1, 6, none⟩ (.slice A' S.n c')).setCell ⟨w.heap.size, 0, none⟩ (.int .i64 V.map.W)).setCell ⟨w.heap.size, 1, none⟩ (.int .i64 V.map.H)).setCell ⟨w.heap.size, 2, none⟩ (.slice S.ms.A S.ms.n S.ms.c)).setCell ⟨w.heap.size, 3, none⟩ (.slice S.ms.A2 S.ms.n2 S.ms.c2)).setCell ⟨w.heap.size, 4, none⟩ (.int .u64 V.st)).setCell ⟨w.heap.size, 5, none⟩ (.int .i64 V.tick)).setCell ⟨w.heap.size, 6, none⟩ (.slice A' S.n c')) 55 8 A' S.n c' (entsV V.l) := HR.out.keep (fun q hq => (Below.heap_setCell _ _ _ q (K1.out q hq)).trans ((Below.heap_setCell _ _ _ q (K1.out q hq)).trans ((Below.heap_setCell _ _ _ q (K1.out q hq)).trans ((Below.heap_setCell _ _ _ q (K1.out q hq)).trans ((Below.heap_setCell _ _ _ q (K1.out q hq)).trans ((Below.heap_setCell _ _ _ q (K1.out q hq)).trans ((Below.heap_setCell _ _ _ q (K1.out q hq)).trans ((Below.heap_setCell _ _ _ q (K2.out q hq))))))))))
  generalize ((((((((w1.setCell ⟨w.heap.size + 1, 6, none⟩ (.slice A' S.n c')).setCell ⟨w.heap.size, 0, none⟩ (.int .i64 V.map.W)).setCell ⟨w.heap.size, 1, none⟩ (.int .i64 V.map.H)).setCell ⟨w.heap.size, 2, none⟩ (.slice S.ms.A S.ms.n S.ms.c)).setCell ⟨w.heap.size, 3, none⟩ (.slice S.ms.A2 S.ms.n2 S.ms.c2)).setCell ⟨w.heap.size, 4, none⟩ (.int .u64 V.st)).setCell ⟨w.heap.size, 5, none⟩ (.int .i64 V.tick)).setCell ⟨w.heap.size, 6, none⟩ (.slice A' S.n c')) = wf at f0 f1 f2 ⊢
  have r0 : wf.cell? ⟨w.heap.size, 0, none⟩ = some (.int .i64 V.map.W) := f0.cell 0
  have r1 : wf.cell? ⟨w.heap.size, 1, none⟩ = some (.int .i64 V.map.H) := f0.cell 1
  have r2 : wf.cell? ⟨w.heap.size, 2, none⟩ = some (.slice S.ms.A S.ms.n S.ms.c) := f0.cell 2
  have r3 : wf.cell? ⟨w.heap.size, 3, none⟩ = some (.slice S.ms.A2 S.ms.n2 S.ms.c2) := f0.cell 3
  have r4 : wf.cell? ⟨w.heap.size, 4, none⟩ = some (.int .u64 V.st) := f0.cell 4
  have r5 : wf.cell? ⟨w.heap.size, 5, none⟩ = some (.int .i64 V.tick) := f0.cell 5
  have r6 : wf.cell? ⟨w.heap.size, 6, none⟩ = some (.slice A' S.n c') := f0.cell 6
  clear x0 x1 x2 x3 x4 x5 x6 y0 y1 y2 y3 y4 y5 y6 q1 q2
  exact bodyPost_ret (v := .agg #[.int .i64 V.map.W, .int .i64 V.map.H, .slice S.ms.A S.ms.n S.ms.c, .slice S.ms.A2 S.ms.n2 S.ms.c2, .int .u64 V.st, .int .i64 V.tick, .slice A' S.n c']) (by simp [results, Tryz.results23, go_sem, r0, r1, r2, r3, r4, r5, r6]) rfl ⟨⟨S.ms, A', S.n, c'⟩, rfl, rfl, f2, f1⟩
end Go.Proofs.YtojbijapdkohlaaGreatDoor
set_option linter.unusedSimpArgs false
set_option linter.unusedVariables false
namespace Go.Proofs.YtojbijapdkohlaaGreatDoor
open Go.RowKit
def map21 : MapV := ⟨2, 1, [false, false], [⟨32768, 32768⟩, ⟨98304, 32768⟩]⟩
theorem read21 : readF [.spawn, .spawn, .nl] = some map21 := by rfl
theorem formed21 : formedB map21 = true := by rfl
theorem len21 : (newF map21 7 1).l.length = 1 := ballsF_len _ _ _
theorem find21 : findF (newF map21 7 1).l 2 = -1 := by decide +kernel
theorem wldL (v : WorldV) (s : WorldS) (w : World) : (Instr.field 46 (.agg #[.int .i64 v.map.W, .int .i64 v.map.H, .slice s.ms.A s.ms.n s.ms.c, .slice s.ms.A2 s.ms.n2 s.ms.c2, .int .u64 v.st, .int .i64 v.tick, .slice s.A s.n s.c]) 3).run Tryz.prog w = .ok (.slice s.A s.n s.c) w := by kernel_rfl
theorem isTaken_pvs (ps : Peers) (k : Nat) : isTaken ps k = (pvs ps k).isSome := by
  unfold isTaken pvs
  cases ps k <;> rfl
set_option maxRecDepth 100000 in
set_option maxHeartbeats 8000000 in
theorem awake21 (w : World) : Calls Tryz.prog 42 #[] w fun e w' => e = .returned (.bool true) ∧ Below w.heap.size w w' := by
  have hR := fun W => tRead _ _ read21 (by decide) W
  have hs : (⟨(sgBytes [.spawn, .spawn, .nl]).toArray⟩ : ByteArray) = ⟨#[226, 151, 142, 226, 151, 142, 10]⟩ := by rfl
  rw [hs] at hR
  obtain ⟨V, hV⟩ : ∃ V, newF map21 7 1 = V := ⟨_, rfl⟩
  have hl1 := len21
  have hf1 := find21
  have hms : (newF map21 7 1).map = map21 := rfl
  rw [hV] at hl1 hf1 hms
  have hN := fun (s : MapS) W hM => srvNewG map21 s 7 1 V hV W hM formed21 (by decide) (by have := MapAt.len hM; simp [map21] at this; omega) (by have := MapAt.len hM; simp [map21] at this; omega) (by omega)
  have HN := Lib.hid hN
  have HL1 := Lib.hid hl1
  have HF1 := Lib.hid hf1
  have HMS := Lib.hid hms
  have HM21 := Lib.hid (show map21.W = 2 ∧ map21.H = 1 from ⟨rfl, rfl⟩)
  clear hs hN hV hl1 hf1 hms
  go_enter Tryz.func42, Tryz.ntmps42
  go_wp2_with fail
  refine (hR _).mono ?_
  rintro e w1 ⟨s, rfl, hmat, hb1⟩
  have HMT := Lib.hid hmat
  have hs1 := hb1.size
  have HB1 := Lib.hid hb1
  clear hmat hb1 hR
  go_wp2_with fail
  refine (HN.out s _ ((HMT.out.below (Below.alloc (Below.refl _ _) (Nat.le_refl _) _)).upto (by simp))).mono ?_
  rintro e w2 ⟨b, x, rfl, hat, hhs, hps, hbb, hb2⟩
  have HB2 := Lib.hid (HB1.out.trans ((Below.alloc (Below.refl _ _) (Nat.le_refl _) _).mono hs1) |>.trans (hb2.mono (by simp; omega)))
  have hbw : w.heap.size ≤ b := by simp at hbb; omega
  have hn2 : x.S.ms.n2 = 2 := by have := hat.at_.map.len.2; rw [HMS.out] at this; exact this.symm
  have hn1 : x.S.n = 1 := by have := hat.at_.len; rw [HL1.out] at this; exact this.symm
  have HC := Lib.hid (srvConnectG b 2 7 V x w2 hat (by decide) (by decide) (hps 2) (by omega) HF1.out (by omega) (by omega))
  have HAT2 := Lib.hid hat
  clear hat hbb hb2 hn1 hn2 hps hhs
  go_wp2_with fail
  refine HC.out.mono ?_
  rintro e w3 ⟨rfl, x', hat, hms', hhs', hpv, hto⟩
  have hn' : x'.S.n = 2 := by have := hat.at_.len; rw [join_len] at this; have := HL1.out; omega
  generalize (⟨V.map, nextS V.st, V.tick, V.l.take (joinK V.l ((2 : Nat) : Int)) ++ newP ((2 : Nat) : Int) (spawnP V.map V.st) :: V.l.drop (joinK V.l ((2 : Nat) : Int))⟩ : WorldV) = V2 at hat
  have htk : isTaken x'.ps 2 = true := by rw [isTaken_pvs, hpv 2]; rfl
  have HB3 := Lib.hid (HB2.out.trans ((SrvTo.bel HAT2.out hto).mono hbw))
  have HAT := Lib.hid hat
  have HLN := Lib.hid hn'
  have hs3 := HB3.out.size
  have hT := srvConnected x'.ps b 2 (by decide) (by decide) w3 (hat.slot (by decide))
  rw [htk] at hT
  have HT := Lib.hid hT
  have hW := srvWorldG V2 x'.S b w3 hat.lt (hat.blk.cell 1) (hat.blk.cell 2) (hat.blk.cell 3) (hat.blk.cell 4) (hat.blk.cell 5) (hat.blk.cell 6) (hat.blk.cell 7) hat.at_.l (by omega)
  have HW := Lib.hid hW
  clear hat hpv hto HC hn' hms' hhs' htk hT hW
  go_wp2_with fail
  refine HT.out.mono ?_
  rintro e w4 ⟨rfl, rfl⟩
  go_wp2_with fail
  refine HW.out.mono ?_
  rintro e w4 ⟨s', rfl, hs', hr', hb4⟩
  have hn2 : s'.n = 2 := by rw [hs']; exact HLN.out
  have hfld := fun w => wldL V2 s' w
  rw [hn2] at hfld
  have HB4 := Lib.hid (HB3.out.trans (hb4.mono hs3))
  have HN2 := Lib.hid hn2
  rw [hn2]
  clear hb4 hs' hn2 hr'
  go_wp2
  go_ret
  exact ⟨rfl, HB4.out⟩
end Go.Proofs.YtojbijapdkohlaaGreatDoor
