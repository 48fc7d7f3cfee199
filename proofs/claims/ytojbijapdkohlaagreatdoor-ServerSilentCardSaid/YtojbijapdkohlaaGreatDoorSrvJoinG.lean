/- Layer 21: a slot that is free is taken. (Printed by gen_srvjoing.py.) -/
import Derived.Test.YtojbijapdkohlaaGreatDoorQ21SrvBkt
import Derived.Test.YtojbijapdkohlaaGreatDoorWJoin
set_option linter.unusedSimpArgs false
set_option linter.unusedVariables false
namespace Go.Proofs.YtojbijapdkohlaaGreatDoor
open Go.RowKit
set_option maxRecDepth 100000 in
theorem bucketNewB (w : World) : Calls Tryz.prog 95 #[] w fun e w' => ∃ ib : Nat, e = .returned (.pointer (some ⟨ib, 0, none⟩)) ∧ Blk w' ib 280 #[.int .u32 0, .slice none 0 0, .int .i64 16] ∧ w.heap.size ≤ ib ∧ Below w.heap.size w w' := by
  go_enter Tryz.func95, Tryz.ntmps95
  go_wp2
  go_ret
  exact ⟨w.heap.size, rfl, Blk.new _ _ _, Nat.le_refl _, (by repeat (first | with_reducible exact Below.refl _ _ | with_reducible assumption | with_reducible refine Below.drew ?_ | with_reducible refine below_drews ?_ _ | with_reducible refine Below.alloc ?_ (by first | omega | (simp; done) | (simp; omega)) _ | with_reducible refine Below.setCell ?_ (by first | omega | (simp; done) | (simp; omega)) _))⟩
def joinLine (k : Nat) : ByteArray := tellLine ⟨#[106, 111, 105, 110, 101, 100]⟩ k
/-- What Connect does with a slot that is free. -/
def ConnG (b k : Nat) (seed : Int) (V : WorldV) (x : SrvX) (w : World) (e : Ending) (w' : World) : Prop :=
  e = .returned (.int .i64 0) ∧ ∃ x' : SrvX, SrvAt w' b seed ⟨V.map, nextS V.st, V.tick, V.l.take (joinK V.l k) ++ newP k (spawnP V.map V.st) :: V.l.drop (joinK V.l k)⟩ x' ∧ x'.S.ms = x.S.ms ∧ x'.hs = x.hs ∧ (∀ i, pvs x'.ps i = if i = k then some peerNew else (pvs x.ps i).map (fun P => toldP P (joinLine k))) ∧ SrvTo b x x' w w'
set_option maxRecDepth 100000 in
set_option maxHeartbeats 4000000 in
theorem srvConnectTaken (b k : Nat) (seed : Int) (V : WorldV) (x : SrvX) (w : World) (h : SrvAt w b seed V x) (k1 : 1 ≤ k) (k8 : k ≤ 8) (P : PeerV) (s : PeerS) (hk : x.ps k = some (P, s)) :
    Calls Tryz.prog 46 #[.pointer (some ⟨b, 0, none⟩), .int .i64 (k : Nat)] w fun e w' => e = .returned (.int .i64 10) ∧ w = w' := by
  have z : w.cell? ⟨b, 10 + k, none⟩ = some (.pointer (some ⟨s.b, 0, none⟩)) := by rw [h.slot (by omega)]; unfold peerPtr; rw [hk]; rfl
  have d1 : decide ((k : Int) < 1) = false := decide_eq_false (by omega)
  have d1n : decide (k < 1) = false := decide_eq_false (by omega)
  have d2 : decide ((8 : Int) < (k : Int)) = false := decide_eq_false (by omega)
  have d2n : decide (8 < k) = false := decide_eq_false (by omega)
  have d3 : (k : Int) < 9 := by omega
  have d3n : k < 9 := by omega
  clear h hk
  go_enter Tryz.func46, Tryz.ntmps46
  go_wp2
  go_ret
  exact ⟨rfl, rfl⟩
set_option maxRecDepth 100000 in
set_option maxHeartbeats 16000000 in
theorem srvConnectG (b k : Nat) (seed : Int) (V : WorldV) (x : SrvX) (w : World) (h : SrvAt w b seed V x) (k1 : 1 ≤ k) (k8 : k ≤ 8) (hk : x.ps k = none) (hn : x.S.n ≤ 99) (h3 : findF V.l k = -1) (hp1 : 1 ≤ x.S.ms.n2) (hp2 : x.S.ms.n2 ≤ 100000) :
    Calls Tryz.prog 46 #[.pointer (some ⟨b, 0, none⟩), .int .i64 (k : Nat)] w (ConnG b k seed V x w) := by
  have lb := h.lt
  unfold ConnG
  obtain ⟨V2, hV2⟩ : ∃ V2 : WorldV, (⟨V.map, nextS V.st, V.tick, V.l.take (joinK V.l k) ++ newP k (spawnP V.map V.st) :: V.l.drop (joinK V.l k)⟩ : WorldV) = V2 := ⟨_, rfl⟩
  have hvm : V2.map = V.map := by rw [← hV2]
  have hJ := wJoinYes V x.S k w h.at_ (by omega) (by omega) (by omega) h3 hp1 hp2
  rw [hV2] at hJ ⊢
  have HJ := Lib.hid hJ
  have HVM := Lib.hid hvm
  have H := Lib.hid h
  have HK := Lib.hid hk
  have z0 : w.cell? ⟨b, 1, none⟩ = some (.int .i64 V.map.W) := h.blk.cell 1
  have z1 : w.cell? ⟨b, 2, none⟩ = some (.int .i64 V.map.H) := h.blk.cell 2
  have z2 : w.cell? ⟨b, 3, none⟩ = some (.slice x.S.ms.A x.S.ms.n x.S.ms.c) := h.blk.cell 3
  have z3 : w.cell? ⟨b, 4, none⟩ = some (.slice x.S.ms.A2 x.S.ms.n2 x.S.ms.c2) := h.blk.cell 4
  have z4 : w.cell? ⟨b, 5, none⟩ = some (.int .u64 V.st) := h.blk.cell 5
  have z5 : w.cell? ⟨b, 6, none⟩ = some (.int .i64 V.tick) := h.blk.cell 6
  have z6 : w.cell? ⟨b, 7, none⟩ = some (.slice x.S.A x.S.n x.S.c) := h.blk.cell 7
  have zk : w.cell? ⟨b, 10 + k, none⟩ = some (.pointer none) := by rw [h.slot (by omega)]; unfold peerPtr; rw [hk]; rfl
  have d1 : decide ((k : Int) < 1) = false := decide_eq_false (by omega)
  have d1n : decide (k < 1) = false := decide_eq_false (by omega)
  have d2 : decide ((8 : Int) < (k : Int)) = false := decide_eq_false (by omega)
  have d2n : decide (8 < k) = false := decide_eq_false (by omega)
  have d3 : (k : Int) < 9 := by omega
  have d3n : k < 9 := by omega
  have K := Lib.hid (show _ ∧ _ from ⟨k1, k8⟩)
  clear hJ hV2 hvm h hk hn h3 hp1 hp2 k1 k8
  go_enter Tryz.func46, Tryz.ntmps46
  go_wp2_with fail
  refine HJ.out.mono ?_
  rintro e w1 ⟨S2, rfl, hat2, hms, hheld, hb1⟩
  have HG := Lib.hid (show _ ∧ _ ∧ _ ∧ _ from ⟨hat2, hms, hheld, hb1⟩)
  have HB1 := Lib.hid (H.out.blk.below hb1 lb)
  have lb1 := HB1.out.lt
  have hs1 := hb1.size
  have fz : ∀ j, w1.frozen? ⟨b, j, none⟩ = false := HB1.out.frozen
  have yk : w1.cell? ⟨b, 10 + k, none⟩ = some (.pointer none) := (hb1.cell (p := ⟨b, 10 + k, none⟩) lb).trans zk
  have y0 : w1.cell? ⟨b, 1, none⟩ = some (.int .i64 V.map.W) := HB1.out.cell 1
  have y1 : w1.cell? ⟨b, 2, none⟩ = some (.int .i64 V.map.H) := HB1.out.cell 2
  have y2 : w1.cell? ⟨b, 3, none⟩ = some (.slice x.S.ms.A x.S.ms.n x.S.ms.c) := HB1.out.cell 3
  have y3 : w1.cell? ⟨b, 4, none⟩ = some (.slice x.S.ms.A2 x.S.ms.n2 x.S.ms.c2) := HB1.out.cell 4
  have y4 : w1.cell? ⟨b, 5, none⟩ = some (.int .u64 V.st) := HB1.out.cell 5
  have y5 : w1.cell? ⟨b, 6, none⟩ = some (.int .i64 V.tick) := HB1.out.cell 6
  have y6 : w1.cell? ⟨b, 7, none⟩ = some (.slice x.S.A x.S.n x.S.c) := HB1.out.cell 7
  clear hb1 hheld hat2 hms z0 z1 z2 z3 z4 z5 z6 zk
  go_upto_region 11 with (fail)
  have E0 : Blk ((((((((w1.setCell ⟨b, 1, none⟩ (.int .i64 V2.map.W)).setCell ⟨b, 2, none⟩ (.int .i64 V2.map.H)).setCell ⟨b, 3, none⟩ (.slice S2.ms.A S2.ms.n S2.ms.c)).setCell ⟨b, 4, none⟩ (.slice S2.ms.A2 S2.ms.n2 S2.ms.c2)).setCell ⟨b, 5, none⟩ (.int .u64 V2.st)).setCell ⟨b, 6, none⟩ (.int .i64 V2.tick)).setCell ⟨b, 7, none⟩ (.slice S2.A S2.n S2.c)).alloc (.cells #[.int .i64 V2.map.W, .int .i64 V2.map.H, .slice S2.ms.A S2.ms.n S2.ms.c, .slice S2.ms.A2 S2.ms.n2 S2.ms.c2, .int .u64 V2.st, .int .i64 V2.tick, .slice S2.A S2.n S2.c] 46)) b 165 (srvCells seed V2 { x with S := S2 }) := by
    have := (((((((HB1.out.set_ 1 (.int .i64 V2.map.W)).set_ 2 (.int .i64 V2.map.H)).set_ 3 (.slice S2.ms.A S2.ms.n S2.ms.c)).set_ 4 (.slice S2.ms.A2 S2.ms.n2 S2.ms.c2)).set_ 5 (.int .u64 V2.st)).set_ 6 (.int .i64 V2.tick)).set_ 7 (.slice S2.A S2.n S2.c)).alloc (.cells #[.int .i64 V2.map.W, .int .i64 V2.map.H, .slice S2.ms.A S2.ms.n S2.ms.c, .slice S2.ms.A2 S2.ms.n2 S2.ms.c2, .int .u64 V2.st, .int .i64 V2.tick, .slice S2.A S2.n S2.c] 46)
    exact this
  have E1 : ∀ j, j < w1.heap.size → j ≠ b → ((((((((w1.setCell ⟨b, 1, none⟩ (.int .i64 V2.map.W)).setCell ⟨b, 2, none⟩ (.int .i64 V2.map.H)).setCell ⟨b, 3, none⟩ (.slice S2.ms.A S2.ms.n S2.ms.c)).setCell ⟨b, 4, none⟩ (.slice S2.ms.A2 S2.ms.n2 S2.ms.c2)).setCell ⟨b, 5, none⟩ (.int .u64 V2.st)).setCell ⟨b, 6, none⟩ (.int .i64 V2.tick)).setCell ⟨b, 7, none⟩ (.slice S2.A S2.n S2.c)).alloc (.cells #[.int .i64 V2.map.W, .int .i64 V2.map.H, .slice S2.ms.A S2.ms.n S2.ms.c, .slice S2.ms.A2 S2.ms.n2 S2.ms.c2, .int .u64 V2.st, .int .i64 V2.tick, .slice S2.A S2.n S2.c] 46)).heap[j]? = w1.heap[j]? := fun j hj hne => (Below.heap_alloc _ _ j (by simpa [World.setCell] using hj)).trans ((Below.heap_setCell _ _ _ j hne).trans ((Below.heap_setCell _ _ _ j hne).trans ((Below.heap_setCell _ _ _ j hne).trans ((Below.heap_setCell _ _ _ j hne).trans ((Below.heap_setCell _ _ _ j hne).trans ((Below.heap_setCell _ _ _ j hne).trans (Below.heap_setCell _ _ _ j hne)))))))
  have E2 : Chg (fun q => q = b) w ((((((((w1.setCell ⟨b, 1, none⟩ (.int .i64 V2.map.W)).setCell ⟨b, 2, none⟩ (.int .i64 V2.map.H)).setCell ⟨b, 3, none⟩ (.slice S2.ms.A S2.ms.n S2.ms.c)).setCell ⟨b, 4, none⟩ (.slice S2.ms.A2 S2.ms.n2 S2.ms.c2)).setCell ⟨b, 5, none⟩ (.int .u64 V2.st)).setCell ⟨b, 6, none⟩ (.int .i64 V2.tick)).setCell ⟨b, 7, none⟩ (.slice S2.A S2.n S2.c)).alloc (.cells #[.int .i64 V2.map.W, .int .i64 V2.map.H, .slice S2.ms.A S2.ms.n S2.ms.c, .slice S2.ms.A2 S2.ms.n2 S2.ms.c2, .int .u64 V2.st, .int .i64 V2.tick, .slice S2.A S2.n S2.c] 46)) := (Chg.setCell (F := fun q => q = b) (Chg.setCell (F := fun q => q = b) (Chg.setCell (F := fun q => q = b) (Chg.setCell (F := fun q => q = b) (Chg.setCell (F := fun q => q = b) (Chg.setCell (F := fun q => q = b) (Chg.setCell (F := fun q => q = b) (Chg.below (Chg.refl (F := fun q => q = b) (w := w)) HG.out.2.2.2 (Nat.le_refl _)) (p := ⟨b, 1, none⟩) (.inl rfl) _) (p := ⟨b, 2, none⟩) (.inl rfl) _) (p := ⟨b, 3, none⟩) (.inl rfl) _) (p := ⟨b, 4, none⟩) (.inl rfl) _) (p := ⟨b, 5, none⟩) (.inl rfl) _) (p := ⟨b, 6, none⟩) (.inl rfl) _) (p := ⟨b, 7, none⟩) (.inl rfl) _).alloc _
  generalize ((((((((w1.setCell ⟨b, 1, none⟩ (.int .i64 V2.map.W)).setCell ⟨b, 2, none⟩ (.int .i64 V2.map.H)).setCell ⟨b, 3, none⟩ (.slice S2.ms.A S2.ms.n S2.ms.c)).setCell ⟨b, 4, none⟩ (.slice S2.ms.A2 S2.ms.n2 S2.ms.c2)).setCell ⟨b, 5, none⟩ (.int .u64 V2.st)).setCell ⟨b, 6, none⟩ (.int .i64 V2.tick)).setCell ⟨b, 7, none⟩ (.slice S2.A S2.n S2.c)).alloc (.cells #[.int .i64 V2.map.W, .int .i64 V2.map.H, .slice S2.ms.A S2.ms.n S2.ms.c, .slice S2.ms.A2 S2.ms.n2 S2.ms.c2, .int .u64 V2.st, .int .i64 V2.tick, .slice S2.A S2.n S2.c] 46)) = w2 at E0 E1 E2 ⊢
  have hsrv : SrvAt w2 b seed V2 { x with S := S2 } := H.out.world HG.out.1 HG.out.2.1 HVM.out HG.out.2.2.1 HG.out.2.2.2 E1 E0
  have xk : w2.cell? ⟨b, 10 + k, none⟩ = some (.pointer none) := by rw [hsrv.slot d3n]; unfold peerPtr; rw [show ({ x with S := S2 } : SrvX).ps k = none from HK.out]; rfl
  have fk : w2.frozen? ⟨b, 10 + k, none⟩ = false := hsrv.blk.frozen _
  have lb2 := hsrv.lt
  have HSRV := Lib.hid hsrv
  have HE2 := Lib.hid E2
  have HMS := Lib.hid HG.out.2.1
  clear E0 E1 E2 hsrv fz y0 y1 y2 y3 y4 y5 y6 yk HB1 HG lb1 hs1
  go_cut [] (fun wx => ∃ ps1 : Peers, SrvAt wx b seed V2 { x with S := S2, ps := ps1 } ∧ (∀ i, pvs ps1 i = if i = k then some peerNew else pvs x.ps i) ∧ SrvTo b x { x with S := S2, ps := ps1 } w wx)
  case first =>
    go_region_law (go_simp; go_at_call 95; refine (bucketNewB _).mono ?_; rintro e w3 ⟨ib, rfl, hib, hge, hb3⟩; have BV : Below w2.heap.size w2 w3 := (by refine Below.trans (by repeat (first | with_reducible exact Below.refl _ _ | with_reducible assumption | with_reducible refine Below.drew ?_ | with_reducible refine below_drews ?_ _ | with_reducible refine Below.alloc ?_ (by first | omega | (simp; done) | (simp; omega)) _ | with_reducible refine Below.setCell ?_ (by first | omega | (simp; done) | (simp; omega)) _)) (hb3.mono ?_); simp); have xk' : w3.cell? ⟨b, 10 + k, none⟩ = some (.pointer none) := (BV.cell (p := ⟨b, 10 + k, none⟩) lb2).trans xk; have fk' : w3.frozen? ⟨b, 10 + k, none⟩ = false := (BV.frozen (p := ⟨b, 10 + k, none⟩) lb2).trans fk; have lb3 : b < w3.heap.size := (by have := BV.size; omega); have HBV := Lib.hid BV; have HIB := Lib.hid (show _ ∧ w2.heap.size ≤ ib from ⟨hib, by simpa using hge⟩); clear hge hib hb3 BV)
    all_goals go_wp2_with fail
    all_goals go_meet
    all_goals
      have e := HSRV.out.newPeer K.out.1 K.out.2 HBV.out HIB.out.1 HIB.out.2
      have e2 : Chg (fun q => q = b) w ((w3.setCell ⟨b, 10 + k, none⟩ (.pointer (some ⟨w3.heap.size, 0, none⟩))).alloc (.cells (peerCells peerNew (peerNewS w3.heap.size ib)) 203)) := (Chg.setCell (F := fun q => q = b) (Chg.below HE2.out HBV.out HE2.out.size) (p := ⟨b, 10 + k, none⟩) (.inl rfl) _).alloc _
      have hs3 : w.heap.size ≤ w3.heap.size := Nat.le_trans HE2.out.size HBV.out.size
      have e3 : SrvTo b x { x with S := S2, ps := x.ps.set k (some (peerNew, peerNewS w3.heap.size ib)) } w _ := SrvTo.own e2 rfl rfl (fun i P s hi' => by
        have hi : x.ps.set k (some (peerNew, peerNewS w3.heap.size ib)) i = some (P, s) := hi'
        unfold Peers.set at hi
        split at hi
        · cases hi
          refine .inr fun q hq => ?_
          have h7 := HIB.out.2
          have h8 := HE2.out.size
          rcases hq with hq | hq | hq | hq | hq
          · have : q = w3.heap.size := hq
            omega
          · have : q = ib := hq
            omega
          · cases hq
          · cases hq
          · cases hq
        · exact .inl hi)
      exact ⟨x.ps.set k (some (peerNew, peerNewS w3.heap.size ib)), e, fun i => by rw [pvs_set]; rfl, e3⟩
  case rest =>
    obtain ⟨ps1, e0, e1, e2⟩ := hcut
    have HT := Lib.hid (srvTell ps1 k b ⟨#[106, 111, 105, 110, 101, 100]⟩ wc e0.peers (by omega) (by decide) (fun j hj => e0.slot hj))
    have X := Lib.hid (show _ ∧ _ ∧ _ from ⟨e0, e1, e2⟩)
    clear e0 e1 e2 xk fk
    go_wp2_with fail
    refine HT.out.mono ?_
    rintro e w4 ⟨rfl, ps', hto⟩
    have Y := Lib.hid hto
    clear hto
    go_wp2
    go_ret
    refine ⟨rfl, { x with S := S2, ps := ps' }, X.out.1.told Y.out, HMS.out, rfl, fun i => ?_, X.out.2.2.trans (SrvTo.told (x := { x with S := S2, ps := ps1 }) Y.out)⟩
    show pvs ps' i = _
    rw [Y.out.pvs i, X.out.2.1 i]
    unfold toldAtP
    by_cases hi : i = k
    · rw [if_pos hi, if_pos hi, hi]
      simp
    · simp only [if_neg hi]
      rfl
end Go.Proofs.YtojbijapdkohlaaGreatDoor
