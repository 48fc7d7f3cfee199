/- Layer 21: a slot is left. (Printed by gen_srvdropg.py.) -/
import Derived.Test.YtojbijapdkohlaaGreatDoorQ21SrvBkt
import Derived.Test.YtojbijapdkohlaaGreatDoorQ13WLeave
set_option linter.unusedSimpArgs false
set_option linter.unusedVariables false
namespace Go.Proofs.YtojbijapdkohlaaGreatDoor
open Go.RowKit
def leftLine (k : Nat) : ByteArray := tellLine ⟨#[108, 101, 102, 116]⟩ k
/-- What Drop does with a slot that is taken. -/
def DropX (b k : Nat) (seed : Int) (V : WorldV) (x : SrvX) (w : World) (e : Ending) (w' : World) : Prop :=
  e = .returned (.int .i64 0) ∧ ∃ x' : SrvX, SrvAt w' b seed ⟨V.map, V.st, V.tick, leaveL V.l k⟩ x' ∧ x'.S.ms = x.S.ms ∧ x'.hs = x.hs ∧ (∀ i, pvs x'.ps i = if i = k then none else (pvs x.ps i).map (fun P => toldP P (leftLine k))) ∧ SrvTo b x x' w w' ∧ ∀ i, i ≠ k → peerPtr x'.ps i = peerPtr x.ps i
def DropG (b k : Nat) (seed : Int) (V : WorldV) (x : SrvX) (w : World) (e : Ending) (w' : World) : Prop :=
  e = .returned (.int .i64 0) ∧ ∃ x' : SrvX, SrvAt w' b seed ⟨V.map, V.st, V.tick, leaveL V.l k⟩ x' ∧ x'.S.ms = x.S.ms ∧ x'.hs = x.hs ∧ (∀ i, pvs x'.ps i = if i = k then none else (pvs x.ps i).map (fun P => toldP P (leftLine k))) ∧ SrvTo b x x' w w'
set_option maxRecDepth 100000 in
set_option maxHeartbeats 4000000 in
theorem srvDropFree (b k : Nat) (seed : Int) (V : WorldV) (x : SrvX) (w : World) (h : SrvAt w b seed V x) (k1 : 1 ≤ k) (k8 : k ≤ 8) (hk : x.ps k = none) :
    Calls Tryz.prog 45 #[.pointer (some ⟨b, 0, none⟩), .int .i64 (k : Nat)] w fun e w' => e = .returned (.int .i64 6) ∧ w = w' := by
  have z : w.cell? ⟨b, 10 + k, none⟩ = some (.pointer none) := by rw [h.slot (by omega)]; unfold peerPtr; rw [hk]; rfl
  have HP := Lib.hid (srvPeer b k k1 k8 (.pointer none) w z)
  clear h hk z
  go_enter Tryz.func45, Tryz.ntmps45
  go_wp2_with fail
  refine HP.out.mono ?_
  rintro e w1 ⟨rfl, rfl⟩
  go_wp2
  go_ret
  exact ⟨rfl, rfl⟩
set_option maxRecDepth 100000 in
set_option maxHeartbeats 16000000 in
theorem srvDropX (b k : Nat) (seed : Int) (V : WorldV) (x : SrvX) (w : World) (h : SrvAt w b seed V x) (k1 : 1 ≤ k) (k8 : k ≤ 8) (P : PeerV) (s : PeerS) (hk : x.ps k = some (P, s)) (hn : x.S.n ≤ 100) (h3 : playerF V.l k ≠ -1) :
    Calls Tryz.prog 45 #[.pointer (some ⟨b, 0, none⟩), .int .i64 (k : Nat)] w (DropX b k seed V x w) := by
  have lb := h.lt
  unfold DropX
  obtain ⟨V2, hV2⟩ : ∃ V2 : WorldV, (⟨V.map, V.st, V.tick, leaveL V.l k⟩ : WorldV) = V2 := ⟨_, rfl⟩
  have hvm : V2.map = V.map := by rw [← hV2]
  have hle : leaveE V.l k = 0 := by unfold leaveE; rw [if_neg h3]
  have zk : w.cell? ⟨b, 10 + k, none⟩ = some (.pointer (some ⟨s.b, 0, none⟩)) := by rw [h.slot (by omega)]; unfold peerPtr; rw [hk]; rfl
  have HP := Lib.hid (srvPeer b k k1 k8 (.pointer (some ⟨s.b, 0, none⟩)) w zk)
  have h0 := h.noPeer k1 k8
  have hL := wLeave V x.S k _ h0.at_ (by show x.S.n ≤ 1000; omega)
  rw [hV2, hle] at hL
  rw [hV2]
  have HL := Lib.hid hL
  have HVM := Lib.hid hvm
  have H0 := Lib.hid h0
  have HB0 := Lib.hid (show Chg (fun q => q = b) w (w.setCell ⟨b, 10 + k, none⟩ (.pointer none)) from Chg.setCell (F := fun q => q = b) Chg.refl (p := ⟨b, 10 + k, none⟩) (.inl rfl) _)
  have fk : w.frozen? ⟨b, 10 + k, none⟩ = false := h.blk.frozen _
  have d1 : decide ((k : Int) < 1) = false := decide_eq_false (by omega)
  have d1n : decide (k < 1) = false := decide_eq_false (by omega)
  have d2 : decide ((8 : Int) < (k : Int)) = false := decide_eq_false (by omega)
  have d2n : decide (8 < k) = false := decide_eq_false (by omega)
  have d3 : (k : Int) < 9 := by omega
  have d3n : k < 9 := by omega
  have K := Lib.hid (show _ ∧ _ from ⟨k1, k8⟩)

  have z0 : w.cell? ⟨b, 1, none⟩ = some (.int .i64 V.map.W) := h.blk.cell 1
  have q0 : (w.setCell ⟨b, 10 + k, none⟩ (.pointer none)).cell? ⟨b, 1, none⟩ = some (.int .i64 V.map.W) := h0.blk.cell 1
  have z1 : w.cell? ⟨b, 2, none⟩ = some (.int .i64 V.map.H) := h.blk.cell 2
  have q1 : (w.setCell ⟨b, 10 + k, none⟩ (.pointer none)).cell? ⟨b, 2, none⟩ = some (.int .i64 V.map.H) := h0.blk.cell 2
  have z2 : w.cell? ⟨b, 3, none⟩ = some (.slice x.S.ms.A x.S.ms.n x.S.ms.c) := h.blk.cell 3
  have q2 : (w.setCell ⟨b, 10 + k, none⟩ (.pointer none)).cell? ⟨b, 3, none⟩ = some (.slice x.S.ms.A x.S.ms.n x.S.ms.c) := h0.blk.cell 3
  have z3 : w.cell? ⟨b, 4, none⟩ = some (.slice x.S.ms.A2 x.S.ms.n2 x.S.ms.c2) := h.blk.cell 4
  have q3 : (w.setCell ⟨b, 10 + k, none⟩ (.pointer none)).cell? ⟨b, 4, none⟩ = some (.slice x.S.ms.A2 x.S.ms.n2 x.S.ms.c2) := h0.blk.cell 4
  have z4 : w.cell? ⟨b, 5, none⟩ = some (.int .u64 V.st) := h.blk.cell 5
  have q4 : (w.setCell ⟨b, 10 + k, none⟩ (.pointer none)).cell? ⟨b, 5, none⟩ = some (.int .u64 V.st) := h0.blk.cell 5
  have z5 : w.cell? ⟨b, 6, none⟩ = some (.int .i64 V.tick) := h.blk.cell 6
  have q5 : (w.setCell ⟨b, 10 + k, none⟩ (.pointer none)).cell? ⟨b, 6, none⟩ = some (.int .i64 V.tick) := h0.blk.cell 6
  have z6 : w.cell? ⟨b, 7, none⟩ = some (.slice x.S.A x.S.n x.S.c) := h.blk.cell 7
  have q6 : (w.setCell ⟨b, 10 + k, none⟩ (.pointer none)).cell? ⟨b, 7, none⟩ = some (.slice x.S.A x.S.n x.S.c) := h0.blk.cell 7
  clear hL hV2 hvm hle h h0 hk hn h3 k1 k8
  go_enter Tryz.func45, Tryz.ntmps45
  go_wp2_with fail
  refine HP.out.mono ?_
  rintro e wq ⟨rfl, rfl⟩
  go_wp2_with fail
  refine HL.out.mono ?_
  rintro e w1 ⟨S2, rfl, hat2, hms, hheld, hb1⟩
  have HG := Lib.hid (show _ ∧ _ ∧ _ ∧ _ from ⟨hat2, hms, hheld, hb1⟩)
  have HB1 := Lib.hid (H0.out.blk.below hb1 (by simpa [World.setCell] using lb))
  have lb1 := HB1.out.lt
  have fz : ∀ j, w1.frozen? ⟨b, j, none⟩ = false := HB1.out.frozen
  have y0 : w1.cell? ⟨b, 1, none⟩ = some (.int .i64 V.map.W) := HB1.out.cell 1
  have y1 : w1.cell? ⟨b, 2, none⟩ = some (.int .i64 V.map.H) := HB1.out.cell 2
  have y2 : w1.cell? ⟨b, 3, none⟩ = some (.slice x.S.ms.A x.S.ms.n x.S.ms.c) := HB1.out.cell 3
  have y3 : w1.cell? ⟨b, 4, none⟩ = some (.slice x.S.ms.A2 x.S.ms.n2 x.S.ms.c2) := HB1.out.cell 4
  have y4 : w1.cell? ⟨b, 5, none⟩ = some (.int .u64 V.st) := HB1.out.cell 5
  have y5 : w1.cell? ⟨b, 6, none⟩ = some (.int .i64 V.tick) := HB1.out.cell 6
  have y6 : w1.cell? ⟨b, 7, none⟩ = some (.slice x.S.A x.S.n x.S.c) := HB1.out.cell 7
  clear hb1 hheld hat2 hms z0 z1 z2 z3 z4 z5 z6 q0 q1 q2 q3 q4 q5 q6 zk
  go_wp2_with fail
  have E0 : Blk ((((((((w1.setCell ⟨b, 1, none⟩ (.int .i64 V2.map.W)).setCell ⟨b, 2, none⟩ (.int .i64 V2.map.H)).setCell ⟨b, 3, none⟩ (.slice S2.ms.A S2.ms.n S2.ms.c)).setCell ⟨b, 4, none⟩ (.slice S2.ms.A2 S2.ms.n2 S2.ms.c2)).setCell ⟨b, 5, none⟩ (.int .u64 V2.st)).setCell ⟨b, 6, none⟩ (.int .i64 V2.tick)).setCell ⟨b, 7, none⟩ (.slice S2.A S2.n S2.c)).alloc (.cells #[.int .i64 V2.map.W, .int .i64 V2.map.H, .slice S2.ms.A S2.ms.n S2.ms.c, .slice S2.ms.A2 S2.ms.n2 S2.ms.c2, .int .u64 V2.st, .int .i64 V2.tick, .slice S2.A S2.n S2.c] 46)) b 165 (srvCells seed V2 { x with S := S2, ps := x.ps.set k none }) := ((((((((HB1.out.set_ 1 (.int .i64 V2.map.W)).set_ 2 (.int .i64 V2.map.H)).set_ 3 (.slice S2.ms.A S2.ms.n S2.ms.c)).set_ 4 (.slice S2.ms.A2 S2.ms.n2 S2.ms.c2)).set_ 5 (.int .u64 V2.st)).set_ 6 (.int .i64 V2.tick)).set_ 7 (.slice S2.A S2.n S2.c)).alloc _)
  have E1 : ∀ j, j < w1.heap.size → j ≠ b → ((((((((w1.setCell ⟨b, 1, none⟩ (.int .i64 V2.map.W)).setCell ⟨b, 2, none⟩ (.int .i64 V2.map.H)).setCell ⟨b, 3, none⟩ (.slice S2.ms.A S2.ms.n S2.ms.c)).setCell ⟨b, 4, none⟩ (.slice S2.ms.A2 S2.ms.n2 S2.ms.c2)).setCell ⟨b, 5, none⟩ (.int .u64 V2.st)).setCell ⟨b, 6, none⟩ (.int .i64 V2.tick)).setCell ⟨b, 7, none⟩ (.slice S2.A S2.n S2.c)).alloc (.cells #[.int .i64 V2.map.W, .int .i64 V2.map.H, .slice S2.ms.A S2.ms.n S2.ms.c, .slice S2.ms.A2 S2.ms.n2 S2.ms.c2, .int .u64 V2.st, .int .i64 V2.tick, .slice S2.A S2.n S2.c] 46)).heap[j]? = w1.heap[j]? := fun j hj hne => (Below.heap_alloc _ _ j (by simpa [World.setCell] using hj)).trans ((Below.heap_setCell _ _ _ j hne).trans ((Below.heap_setCell _ _ _ j hne).trans ((Below.heap_setCell _ _ _ j hne).trans ((Below.heap_setCell _ _ _ j hne).trans ((Below.heap_setCell _ _ _ j hne).trans ((Below.heap_setCell _ _ _ j hne).trans (Below.heap_setCell _ _ _ j hne)))))))
  have E2 : Chg (fun q => q = b) w ((((((((w1.setCell ⟨b, 1, none⟩ (.int .i64 V2.map.W)).setCell ⟨b, 2, none⟩ (.int .i64 V2.map.H)).setCell ⟨b, 3, none⟩ (.slice S2.ms.A S2.ms.n S2.ms.c)).setCell ⟨b, 4, none⟩ (.slice S2.ms.A2 S2.ms.n2 S2.ms.c2)).setCell ⟨b, 5, none⟩ (.int .u64 V2.st)).setCell ⟨b, 6, none⟩ (.int .i64 V2.tick)).setCell ⟨b, 7, none⟩ (.slice S2.A S2.n S2.c)).alloc (.cells #[.int .i64 V2.map.W, .int .i64 V2.map.H, .slice S2.ms.A S2.ms.n S2.ms.c, .slice S2.ms.A2 S2.ms.n2 S2.ms.c2, .int .u64 V2.st, .int .i64 V2.tick, .slice S2.A S2.n S2.c] 46)) := ((Chg.setCell (F := fun q => q = b) (Chg.setCell (F := fun q => q = b) (Chg.setCell (F := fun q => q = b) (Chg.setCell (F := fun q => q = b) (Chg.setCell (F := fun q => q = b) (Chg.setCell (F := fun q => q = b) (Chg.setCell (F := fun q => q = b) (Chg.below HB0.out HG.out.2.2.2 (by simp [World.setCell])) (p := ⟨b, 1, none⟩) (.inl rfl) _) (p := ⟨b, 2, none⟩) (.inl rfl) _) (p := ⟨b, 3, none⟩) (.inl rfl) _) (p := ⟨b, 4, none⟩) (.inl rfl) _) (p := ⟨b, 5, none⟩) (.inl rfl) _) (p := ⟨b, 6, none⟩) (.inl rfl) _) (p := ⟨b, 7, none⟩) (.inl rfl) _).alloc _)
  generalize ((((((((w1.setCell ⟨b, 1, none⟩ (.int .i64 V2.map.W)).setCell ⟨b, 2, none⟩ (.int .i64 V2.map.H)).setCell ⟨b, 3, none⟩ (.slice S2.ms.A S2.ms.n S2.ms.c)).setCell ⟨b, 4, none⟩ (.slice S2.ms.A2 S2.ms.n2 S2.ms.c2)).setCell ⟨b, 5, none⟩ (.int .u64 V2.st)).setCell ⟨b, 6, none⟩ (.int .i64 V2.tick)).setCell ⟨b, 7, none⟩ (.slice S2.A S2.n S2.c)).alloc (.cells #[.int .i64 V2.map.W, .int .i64 V2.map.H, .slice S2.ms.A S2.ms.n S2.ms.c, .slice S2.ms.A2 S2.ms.n2 S2.ms.c2, .int .u64 V2.st, .int .i64 V2.tick, .slice S2.A S2.n S2.c] 46)) = w2 at E0 E1 E2 ⊢
  have hsrv : SrvAt w2 b seed V2 { x with S := S2, ps := x.ps.set k none } := H0.out.world HG.out.1 HG.out.2.1 HVM.out HG.out.2.2.1 HG.out.2.2.2 E1 E0
  have HT := Lib.hid (srvTell (x.ps.set k none) k b ⟨#[108, 101, 102, 116]⟩ w2 hsrv.peers (by omega) (by decide) (fun j hj => hsrv.slot hj))
  have E3 : SrvTo b x { x with S := S2, ps := x.ps.set k none } w w2 := SrvTo.own E2 rfl rfl (fun i P s hi' => by
    have hi : x.ps.set k none i = some (P, s) := hi'
    unfold Peers.set at hi
    split at hi
    · cases hi
    · exact .inl hi)
  have X := Lib.hid (show _ ∧ _ ∧ _ from ⟨hsrv, HG.out.2.1, E3⟩)
  clear hsrv E0 E1 E2 E3 y0 y1 y2 y3 y4 y5 y6 fz HG HB1 lb1
  refine HT.out.mono ?_
  rintro e w4 ⟨rfl, ps', hto⟩
  have Y := Lib.hid hto
  clear hto
  go_wp2
  go_ret
  refine ⟨rfl, { x with S := S2, ps := ps' }, X.out.1.told Y.out, X.out.2.1, rfl, fun i => ?_, X.out.2.2.trans (SrvTo.told (x := { x with S := S2, ps := x.ps.set k none }) Y.out), fun i hi => ?_⟩
  case refine_2 =>
    show peerPtr ps' i = _
    rw [Y.out.ptr i]
    unfold peerPtr Peers.set
    rw [if_neg hi]
  show pvs ps' i = _
  rw [Y.out.pvs i, pvs_set]
  unfold toldAtP
  by_cases hi : i = k
  · rw [if_pos hi, if_pos hi]
    rfl
  · simp only [if_neg hi]
    rfl
theorem srvDropG (b k : Nat) (seed : Int) (V : WorldV) (x : SrvX) (w : World) (h : SrvAt w b seed V x) (k1 : 1 ≤ k) (k8 : k ≤ 8) (P : PeerV) (s : PeerS) (hk : x.ps k = some (P, s)) (hn : x.S.n ≤ 100) (h3 : playerF V.l k ≠ -1) :
    Calls Tryz.prog 45 #[.pointer (some ⟨b, 0, none⟩), .int .i64 (k : Nat)] w (DropG b k seed V x w) :=
  (srvDropX b k seed V x w h k1 k8 P s hk hn h3).mono fun e w' hd => by
    obtain ⟨h1, x', h2, h3, h4, h5, h6, -⟩ := hd
    exact ⟨h1, x', h2, h3, h4, h5, h6⟩
end Go.Proofs.YtojbijapdkohlaaGreatDoor
