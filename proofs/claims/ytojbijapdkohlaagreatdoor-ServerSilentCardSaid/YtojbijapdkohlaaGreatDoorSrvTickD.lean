/- Layer 21: a tick where no command waits; who is silent too long is dropped. (Printed by gen_srvtickd.py.) -/
import Derived.Test.YtojbijapdkohlaaGreatDoorQ39SrvTickP
set_option linter.unusedSimpArgs false
set_option linter.unusedVariables false
namespace Go.Proofs.YtojbijapdkohlaaGreatDoor
open Go.RowKit
def IdleQ (ps : Peers) : Prop := ∀ i P s, ps i = some (P, s) → P.queue = [] ∧ 0 ≤ P.tokens ∧ P.tokens ≤ 16 ∧ 0 ≤ P.silent ∧ P.silent ≤ 1000000
def TickD (b : Nat) (seed : Int) (V : WorldV) (x : SrvX) (w : World) (e : Ending) (w' : World) : Prop :=
  e = .returned (.slice none 0 0) ∧ ∃ x' : SrvX, SrvAt w' b seed ⟨(tickF V).map, (tickF V).st, (tickF V).tick, (silN ⟨(tickF V).l, fun i => (pvs x.ps i).map fillP⟩ 9).l⟩ x' ∧ x'.S.ms = x.S.ms ∧ x'.hs = keepH x.hs (tickF V).tick (tickF V).l ∧ (∀ i, pvs x'.ps i = (silN ⟨(tickF V).l, fun i => (pvs x.ps i).map fillP⟩ 9).pv i) ∧ SrvTo b x x' w w'
set_option maxRecDepth 100000 in
set_option maxHeartbeats 16000000 in
theorem srvTickD (b : Nat) (seed : Int) (V : WorldV) (x : SrvX) (w : World) (h : SrvAt w b seed V x) (hi : IdleQ x.ps) (hn : x.S.n ≤ 100) (hOk : OkN (isT (pvs x.ps)) (keyL V.l)) (h1 : 1 ≤ x.S.ms.n2) (h2 : x.S.ms.n2 ≤ 100000) (hok : ∀ e ∈ V.l, okE e) (hla : lastI (x.hs.map (·.1)) < (tickF V).tick) (ht : (tickF V).tick ≤ 4294967296) (hm1 : -1 ≤ lastI (x.hs.map (·.1))) :
    Calls Tryz.prog 47 #[.pointer (some ⟨b, 0, none⟩)] w (TickD b seed V x w) := by
  have lb := h.lt
  unfold TickD
  have hOk2 : OkN (isT (fun i => (pvs x.ps i).map fillP)) (keyL (tickF V).l) := by
    rw [tick_key V hok]
    exact hOk.congr fun j _ _ => by unfold isT; simp
  have HOK := Lib.hid (show _ ∧ _ from ⟨hOk2, hn⟩)
  have hn : x.S.n ≤ 1000 := by omega
  clear hOk hOk2
  obtain ⟨V2, hV2⟩ : ∃ V2 : WorldV, tickF V = V2 := ⟨_, rfl⟩
  have hvm : V2.map = V.map := by rw [← hV2]; rfl
  rw [hV2] at hla ht HOK ⊢
  obtain ⟨S0, hS0⟩ : ∃ S0 : SilS, (⟨V2.l, fun i => (pvs x.ps i).map fillP⟩ : SilS) = S0 := ⟨_, rfl⟩
  rw [hS0]
  have HS00 := Lib.hid hS0
  clear hS0
  have HV2 := Lib.hid hV2
  have HVM := Lib.hid hvm
  clear hV2 hvm
  have z0 := h.slot (k := 0) (by decide)
  have z1 := h.slot (k := 1) (by decide)
  have z2 := h.slot (k := 2) (by decide)
  have z3 := h.slot (k := 3) (by decide)
  have z4 := h.slot (k := 4) (by decide)
  have z5 := h.slot (k := 5) (by decide)
  have z6 := h.slot (k := 6) (by decide)
  have z7 := h.slot (k := 7) (by decide)
  have z8 := h.slot (k := 8) (by decide)
  simp only [Nat.reduceAdd] at z0 z1 z2 z3 z4 z5 z6 z7 z8
  have H := Lib.hid h
  clear h
  have HI := Lib.hid hi
  have HH := Lib.hid (show _ ∧ _ ∧ _ ∧ _ ∧ _ ∧ _ ∧ _ from ⟨hn, h1, h2, hok, hla, ht, hm1⟩)
  clear hi hn h1 h2 hok hla ht hm1
  go_enter Tryz.func47, Tryz.ntmps47
  go_wp2
  have G0 := Lib.hid H.out
  clear z0 z1 z2 z3 z4 z5 z6 z7 z8
  go_loopw [3, 18] (fun f i wr => f = .slice none 0 0 ∧ ∃ (k : Nat) (ps' : Peers), k ≤ 9 ∧ i = .int .i64 (k : Nat) ∧ PeersTo w wr x.ps ps' (fun i P => if i < k then fillP P else P)) (fun f i _ => 10 - (intOf i).toNat)
  case atStart => exact ⟨rfl, 0, x.ps, by decide, rfl, (PeersTo.refl G0.out.peers).congr (fun i P s _ => by rw [if_neg (Nat.not_lt_zero _)])⟩
  case round =>
    obtain ⟨rfl, k, ps', hk9, rfl, hto⟩ := hrel
    have HTO := Lib.hid hto
    clear hto
    by_cases hlt : k < 9
    · have ixk : ∀ W, (Instr.index 163 (.agg #[peerPtr x.ps 0, peerPtr x.ps 1, peerPtr x.ps 2, peerPtr x.ps 3, peerPtr x.ps 4, peerPtr x.ps 5, peerPtr x.ps 6, peerPtr x.ps 7, peerPtr x.ps 8]) (.int .i64 (k : Nat))).run Tryz.prog W = .ok (peerPtr x.ps k) W := fun W => ixPeers x.ps k hlt W
      have t0 : decide ((k : Int) < 9) = true := decide_eq_true (by omega)
      have t0n : decide (k < 9) = true := decide_eq_true hlt
      cases hx : x.ps k with
      | none =>
        have hp : peerPtr x.ps k = .pointer none := by unfold peerPtr; rw [hx]; rfl
        rw [hp] at ixk
        have HXX := Lib.hid hx
        clear hx hp
        go_wp2
        exact ⟨⟨rfl, k + 1, ps', by omega, by go_num, HTO.out.congr (fun i P s hi => by
          by_cases h1 : i < k
          · rw [if_pos h1, if_pos (by omega)]
          · by_cases h2 : i = k
            · subst h2; rw [HXX.out] at hi; cases hi
            · rw [if_neg h1, if_neg (by omega)])⟩, by simp [intOf]; omega⟩
      | some y =>
        obtain ⟨P, s⟩ := y
        have hp : peerPtr x.ps k = .pointer (some ⟨s.b, 0, none⟩) := by unfold peerPtr; rw [hx]; rfl
        rw [hp] at ixk
        obtain ⟨s', hs', hsb, hsf⟩ := HTO.out.some_ k P s hx
        rw [if_neg (Nat.lt_irrefl k)] at hs'
        have hpa := HTO.out.at_.at_ k P s' hs'
        obtain ⟨hq0, ht0, ht16, -, -⟩ := HI.out k P s hx
        have hqn : s'.qN = 0 := by
          have h6 := hpa.queue.1
          rw [hq0] at h6
          have h7 : 0 = s'.qN * 6 := h6
          omega
        rw [← hsb] at ixk
        have x7 : wr.cell? ⟨s'.b, 7, none⟩ = some (.pointer (some ⟨s'.ib, 0, none⟩)) := hpa.blk.cell 7
        have HF := Lib.hid (bktFill P.last P.tokens s'.qA s'.qN s'.qC s'.ib wr hpa.ink ht0 ht16)
        have HXX := Lib.hid hx
        have HS' := Lib.hid hs'
        have HPA := Lib.hid hpa
        have HT0 := Lib.hid (show _ ∧ _ ∧ _ from ⟨ht0, ht16, hqn⟩)
        clear hx hp hs' hsb hsf hpa hq0 ht0 ht16 hqn
        go_wp2_with fail
        refine HF.out.mono ?_
        rintro e w1 ⟨rfl, hi1, hc1⟩
        have hb1 : Blk w1 s'.b 203 (peerCells P s') := (hc1.block _ HPA.out.blk.lt (fun e => Blk.ne_ HPA.out.blk HPA.out.ink (by decide) e)).trans HPA.out.blk
        have x7 : w1.cell? ⟨s'.b, 7, none⟩ = some (.pointer (some ⟨s'.ib, 0, none⟩)) := hb1.cell 7
        have hT := bktTake0 (fillT P.tokens) s'.qA s'.qC s'.ib w1 (by have := hi1.cell 1; rw [HT0.out.2.2] at this; exact this) (hi1.cell 2) (by unfold fillT; have := HT0.out; omega)
        have HT := Lib.hid hT
        have HW1 := Lib.hid (show _ ∧ _ ∧ _ from ⟨hi1, hc1, hb1⟩)
        clear hi1 hc1 hb1 hT
        go_wp2_with fail
        refine HT.out.mono ?_
        rintro e w2 ⟨rfl, hd⟩
        have hch : Chg (fun q => s'.fp q) wr w2 := by
          obtain ⟨m, rfl⟩ := hd
          exact (HW1.out.2.1.mono (fun q hq => .inr (.inl hq))).drewN m
        have hp5 : PeerAt w2 (fillP P) s' := by
          obtain ⟨m, rfl⟩ := hd
          have far : ∀ q, q < wr.heap.size → q ≠ s'.ib → w1.heap[q]? = wr.heap[q]? := fun q hq hne => HW1.out.2.1.block q hq hne
          have h5 : PeerAt w1 (fillP P) s' :=
            ⟨HW1.out.2.2, HPA.out.op.keep (fun q hq => far q (HPA.out.op.lt hq) (HPA.out.op.ne_blkR HPA.out.ink (by decide) q hq)), HPA.out.lines.keep (fun q hq => far q (HPA.out.lines.lt hq) (HPA.out.lines.ne_blkR HPA.out.ink (by decide) q hq)), HW1.out.1, HPA.out.queue.keep (fun q hq => far q (HPA.out.queue.lt hq) (HPA.out.queue.ne_blkR HPA.out.ink (by decide) q hq)), HPA.out.l32⟩
          exact h5.keep (fun q hq => rfl)
        obtain ⟨ps2, h2⟩ := HTO.out.stepG k P s s' s' (fillP P) HXX.out (by rw [if_neg (Nat.lt_irrefl k)]; exact HS'.out) hch hp5 rfl (fun q hq => .inl hq)
        have H2 := Lib.hid (h2.congr (g := fun i P => if i < k + 1 then fillP P else P) (fun i P2 s2 hi => by
          by_cases h1 : i = k
          · subst h1
            rw [HXX.out] at hi
            cases hi
            rw [if_pos rfl, if_pos (by omega)]
          · rw [if_neg h1]
            by_cases h3 : i < k
            · rw [if_pos h3, if_pos (by omega)]
            · rw [if_neg h3, if_neg (by omega)]))
        clear hd hch hp5 h2 HT HW1
        go_wp2_with fail
        go_loopw [3, 35] (fun f i wi => f = .slice none 0 0 ∧ i = .int .i64 0 ∧ wi = w2) (fun _ _ _ => 0)
        case atStart => exact ⟨rfl, rfl, rfl⟩
        case round =>
          obtain ⟨rfl, rfl, hwi⟩ := hrel
          subst hwi
          go_wp2
          exact ⟨⟨rfl, k + 1, ps2, by omega, by go_num, H2.out⟩, by simp [intOf]; omega⟩
    · have hk : k = 9 := by omega
      subst hk
      have hto : PeersTo w wr x.ps ps' (fun _ P => fillP P) := HTO.out.congr (fun i P s hi => by
        by_cases h1 : i < 9
        · rw [if_pos h1]
        · have := G0.out.peers.top i (by omega); rw [hi] at this; cases this)
      have hs := G0.out.told hto
      have hbel := SrvTo.told (b := b) hto
      have X1 := Lib.hid (show _ ∧ _ ∧ _ from ⟨hto, hs, hbel⟩)
      have lbr := hs.lt
      have hT := wTick V x.S wr hs.at_ HH.out.1 HH.out.2.1 HH.out.2.2.1 HH.out.2.2.2.1
      rw [HV2.out] at hT
      have HT := Lib.hid hT
      have z0 : wr.cell? ⟨b, 1, none⟩ = some (.int .i64 V.map.W) := hs.blk.cell 1
      have z1 : wr.cell? ⟨b, 2, none⟩ = some (.int .i64 V.map.H) := hs.blk.cell 2
      have z2 : wr.cell? ⟨b, 3, none⟩ = some (.slice x.S.ms.A x.S.ms.n x.S.ms.c) := hs.blk.cell 3
      have z3 : wr.cell? ⟨b, 4, none⟩ = some (.slice x.S.ms.A2 x.S.ms.n2 x.S.ms.c2) := hs.blk.cell 4
      have z4 : wr.cell? ⟨b, 5, none⟩ = some (.int .u64 V.st) := hs.blk.cell 5
      have z5 : wr.cell? ⟨b, 6, none⟩ = some (.int .i64 V.tick) := hs.blk.cell 6
      have z6 : wr.cell? ⟨b, 7, none⟩ = some (.slice x.S.A x.S.n x.S.c) := hs.blk.cell 7
      clear hto hs hbel hT HTO hk9 hlt
      go_wp2_with fail
      refine HT.out.mono ?_
      rintro e w1 ⟨S2, rfl, hat2, hms, hheld, hb1⟩
      have HG := Lib.hid (show _ ∧ _ ∧ _ ∧ _ from ⟨hat2, hms, hheld, hb1⟩)
      have HB1 := Lib.hid (X1.out.2.1.blk.below hb1 lbr)
      have lb1 := HB1.out.lt
      have fz : ∀ j, w1.frozen? ⟨b, j, none⟩ = false := HB1.out.frozen
      have y0 : w1.cell? ⟨b, 1, none⟩ = some (.int .i64 V.map.W) := HB1.out.cell 1
      have y1 : w1.cell? ⟨b, 2, none⟩ = some (.int .i64 V.map.H) := HB1.out.cell 2
      have y2 : w1.cell? ⟨b, 3, none⟩ = some (.slice x.S.ms.A x.S.ms.n x.S.ms.c) := HB1.out.cell 3
      have y3 : w1.cell? ⟨b, 4, none⟩ = some (.slice x.S.ms.A2 x.S.ms.n2 x.S.ms.c2) := HB1.out.cell 4
      have y4 : w1.cell? ⟨b, 5, none⟩ = some (.int .u64 V.st) := HB1.out.cell 5
      have y5 : w1.cell? ⟨b, 6, none⟩ = some (.int .i64 V.tick) := HB1.out.cell 6
      have y6 : w1.cell? ⟨b, 7, none⟩ = some (.slice x.S.A x.S.n x.S.c) := HB1.out.cell 7
      clear hb1 hheld hat2 hms z0 z1 z2 z3 z4 z5 z6
      go_wp2_with fail
      have E0 : Blk (((((((w1.setCell ⟨b, 1, none⟩ (.int .i64 V2.map.W)).setCell ⟨b, 2, none⟩ (.int .i64 V2.map.H)).setCell ⟨b, 3, none⟩ (.slice S2.ms.A S2.ms.n S2.ms.c)).setCell ⟨b, 4, none⟩ (.slice S2.ms.A2 S2.ms.n2 S2.ms.c2)).setCell ⟨b, 5, none⟩ (.int .u64 V2.st)).setCell ⟨b, 6, none⟩ (.int .i64 V2.tick)).setCell ⟨b, 7, none⟩ (.slice S2.A S2.n S2.c)) b 165 (srvCells seed V2 { x with S := S2, ps := ps' }) := (((((((HB1.out.set_ 1 (.int .i64 V2.map.W)).set_ 2 (.int .i64 V2.map.H)).set_ 3 (.slice S2.ms.A S2.ms.n S2.ms.c)).set_ 4 (.slice S2.ms.A2 S2.ms.n2 S2.ms.c2)).set_ 5 (.int .u64 V2.st)).set_ 6 (.int .i64 V2.tick)).set_ 7 (.slice S2.A S2.n S2.c))
      have E1 : ∀ j, j < w1.heap.size → j ≠ b → (((((((w1.setCell ⟨b, 1, none⟩ (.int .i64 V2.map.W)).setCell ⟨b, 2, none⟩ (.int .i64 V2.map.H)).setCell ⟨b, 3, none⟩ (.slice S2.ms.A S2.ms.n S2.ms.c)).setCell ⟨b, 4, none⟩ (.slice S2.ms.A2 S2.ms.n2 S2.ms.c2)).setCell ⟨b, 5, none⟩ (.int .u64 V2.st)).setCell ⟨b, 6, none⟩ (.int .i64 V2.tick)).setCell ⟨b, 7, none⟩ (.slice S2.A S2.n S2.c)).heap[j]? = w1.heap[j]? := fun j hj hne => (Below.heap_setCell _ _ _ j hne).trans ((Below.heap_setCell _ _ _ j hne).trans ((Below.heap_setCell _ _ _ j hne).trans ((Below.heap_setCell _ _ _ j hne).trans ((Below.heap_setCell _ _ _ j hne).trans ((Below.heap_setCell _ _ _ j hne).trans (Below.heap_setCell _ _ _ j hne))))))
      have E2 : Chg (fun q => q = b) wr (((((((w1.setCell ⟨b, 1, none⟩ (.int .i64 V2.map.W)).setCell ⟨b, 2, none⟩ (.int .i64 V2.map.H)).setCell ⟨b, 3, none⟩ (.slice S2.ms.A S2.ms.n S2.ms.c)).setCell ⟨b, 4, none⟩ (.slice S2.ms.A2 S2.ms.n2 S2.ms.c2)).setCell ⟨b, 5, none⟩ (.int .u64 V2.st)).setCell ⟨b, 6, none⟩ (.int .i64 V2.tick)).setCell ⟨b, 7, none⟩ (.slice S2.A S2.n S2.c)) := (Chg.setCell (F := fun q => q = b) (Chg.setCell (F := fun q => q = b) (Chg.setCell (F := fun q => q = b) (Chg.setCell (F := fun q => q = b) (Chg.setCell (F := fun q => q = b) (Chg.setCell (F := fun q => q = b) (Chg.setCell (F := fun q => q = b) (Chg.below (Chg.refl (F := fun q => q = b) (w := wr)) HG.out.2.2.2 (Nat.le_refl _)) (p := ⟨b, 1, none⟩) (.inl rfl) _) (p := ⟨b, 2, none⟩) (.inl rfl) _) (p := ⟨b, 3, none⟩) (.inl rfl) _) (p := ⟨b, 4, none⟩) (.inl rfl) _) (p := ⟨b, 5, none⟩) (.inl rfl) _) (p := ⟨b, 6, none⟩) (.inl rfl) _) (p := ⟨b, 7, none⟩) (.inl rfl) _)
      generalize (((((((w1.setCell ⟨b, 1, none⟩ (.int .i64 V2.map.W)).setCell ⟨b, 2, none⟩ (.int .i64 V2.map.H)).setCell ⟨b, 3, none⟩ (.slice S2.ms.A S2.ms.n S2.ms.c)).setCell ⟨b, 4, none⟩ (.slice S2.ms.A2 S2.ms.n2 S2.ms.c2)).setCell ⟨b, 5, none⟩ (.int .u64 V2.st)).setCell ⟨b, 6, none⟩ (.int .i64 V2.tick)).setCell ⟨b, 7, none⟩ (.slice S2.A S2.n S2.c)) = w2 at E0 E1 E2 ⊢
      have hsrv : SrvAt w2 b seed V2 { x with S := S2, ps := ps' } := X1.out.2.1.world HG.out.1 HG.out.2.1 HVM.out HG.out.2.2.1 HG.out.2.2.2 E1 E0
      have hsl := hsrv.at_.l
      have hlen2 := hsrv.at_.len
      have hlen1 := G0.out.at_.len
      have hlenT : V2.l.length = V.l.length := by rw [← HV2.out]; exact tickF_len V
      have hS2n : S2.n ≤ 1000 := by have := HH.out.1; simp only at hlen2; omega
      have hlb : 0 < S2.n → ∀ q, blkOf S2.A = some q → q ≠ b ∧ blkOf x.rA ≠ some q ∧ q ≠ x.mb := by
        intro h0 q hq
        have hR := hsrv.hiR
        have hM := hsrv.hiM
        rcases hsrv.wld.l with h5 | ⟨⟨c0, h5⟩, h6⟩
        · obtain ⟨g, off, hA, hg, -⟩ := h5.flat h0 (by decide)
          rw [show S2.A = some ⟨g, off, none⟩ from hA] at hq
          have : g = q := by simpa [blkOf] using hq
          subst this
          exact ⟨by omega, fun h7 => by have := hR g h7; omega, by have : b < x.mb := hM; omega⟩
        · have h7 := h6 q hq
          have h8 := h5.cls hq
          refine ⟨by omega, fun h9 => ?_, fun h9 => ?_⟩
          · have := hsrv.ring.cls h9
            rw [h8] at this
            exact absurd (Option.some.inj this) (by decide)
          · have h10 : clsOf w2 x.mb = none := hsrv.lists.cls
            rw [← h9, h8] at h10
            cases h10
      have hP := fun W (hs : SrvAt W b seed V2 { x with S := S2, ps := ps' }) (hsl : Reads W W.heap.size 8 S2.A S2.n (entsV V2.l)) => ((ringPutX b 8 165 _ V2.tick x.rA x.rn x.rc (some x.mb) x.ml x.hs V2.l S2.A S2.n S2.c W hs.blk (by decide) rfl rfl hs.ring (fun mb hmb => by cases hmb; exact hs.lists) (fun h => by cases h) hs.past hsl (fun h0 q hq => ⟨(hlb h0 q hq).1, (hlb h0 q hq).2.1, fun h9 => (hlb h0 q hq).2.2 (Option.some.inj h9).symm⟩) (by omega) HH.out.2.2.2.2.1 HH.out.2.2.2.2.2.1 HH.out.2.2.2.2.2.2 (by decide)).mono (R' := fun e w' => e = .returned (.int .i64 0) ∧ ∃ x3 : SrvX, SrvAt w' b seed V2 x3 ∧ x3.S = S2 ∧ x3.hs = keepH x.hs V2.tick V2.l ∧ x3.ps = ps' ∧ SrvTo b { x with S := S2, ps := ps' } x3 W w') (fun e w' hput => by
          obtain ⟨he, x3, hs3, hS3, hts3, hps3, hch3⟩ := hs.put hput
          exact ⟨he, x3, hs3, hS3, hts3, hps3, hch3⟩))
      have HP := Lib.hid (fun W (hW : Below w2.heap.size w2 W) => hP W (hsrv.below hW) ((hsrv.below hW).at_.l))
      have u6 : w2.cell? ⟨b, 6, none⟩ = some (.int .i64 V2.tick) := hsrv.blk.cell 6
      have u7 : w2.cell? ⟨b, 7, none⟩ = some (.slice S2.A S2.n S2.c) := hsrv.blk.cell 7
      have E3 : SrvTo b x { x with S := S2, ps := ps' } w w2 := X1.out.2.2.trans (SrvTo.own (x := { x with ps := ps' }) E2 rfl rfl (fun i P s hi => .inl hi))
      have X2 := Lib.hid (show _ ∧ _ ∧ _ from ⟨hsrv, HG.out.2.1, E3⟩)
      clear hsrv hsl hlen2 hlen1 hlenT hS2n hlb hP E0 E1 E2 E3 y0 y1 y2 y3 y4 y5 y6 fz HG HB1 lb1
      go_region_held3 (fun w' => w'.cell? ⟨b, 6, none⟩ = some (.int .i64 V2.tick) ∧ w'.cell? ⟨b, 7, none⟩ = some (.slice S2.A S2.n S2.c)) (with_reducible (first | exact ⟨u6, u7⟩ | exact ⟨v6, v7⟩ | go_keep)) (first | (go_at_call 90; refine (HP.out _ (by repeat (first | with_reducible exact Below.refl _ _ | with_reducible assumption | with_reducible refine Below.drew ?_ | with_reducible refine below_drews ?_ _ | with_reducible refine Below.alloc ?_ (by first | omega | (simp; done) | (simp; omega)) _ | with_reducible refine Below.setCell ?_ (by first | omega | (simp; done) | (simp; omega)) _))).mono ?_; rintro e w3 ⟨rfl, x3, hs3, hS3, hts3, hps3, hbe3⟩; have v6 : w3.cell? ⟨b, 6, none⟩ = some (.int .i64 V2.tick) := hs3.blk.cell 6; have v7 : w3.cell? ⟨b, 7, none⟩ = some (.slice S2.A S2.n S2.c) := (by have := hs3.blk.cell 7; rw [this]; show some (Value.slice x3.S.A x3.S.n x3.S.c) = _; rw [hS3]); have hbe4 : SrvTo b x x3 w w3 := X2.out.2.2.trans ((SrvTo.below (show Below w2.heap.size w2 _ from (by repeat (first | with_reducible exact Below.refl _ _ | with_reducible assumption | with_reducible refine Below.drew ?_ | with_reducible refine below_drews ?_ _ | with_reducible refine Below.alloc ?_ (by first | omega | (simp; done) | (simp; omega)) _ | with_reducible refine Below.setCell ?_ (by first | omega | (simp; done) | (simp; omega)) _)))).trans hbe3); have X3 := Lib.hid (show _ ∧ _ ∧ _ ∧ _ ∧ _ from ⟨hs3, hS3, hts3, hps3, hbe4⟩); clear hs3 hS3 hts3 hps3 hbe3 hbe4))
      have hs3 := X3.out.1
      have hps3 := X3.out.2.2.2.1
      have z0 := hs3.slot (k := 0) (by decide)
      have z1 := hs3.slot (k := 1) (by decide)
      have z2 := hs3.slot (k := 2) (by decide)
      have z3 := hs3.slot (k := 3) (by decide)
      have z4 := hs3.slot (k := 4) (by decide)
      have z5 := hs3.slot (k := 5) (by decide)
      have z6 := hs3.slot (k := 6) (by decide)
      have z7 := hs3.slot (k := 7) (by decide)
      have z8 := hs3.slot (k := 8) (by decide)
      simp only [Nat.reduceAdd, hps3] at z0 z1 z2 z3 z4 z5 z6 z7 z8
      clear hs3 hps3 HP HT u6 u7 v6 v7
      go_wp2
      have hsil : ∀ i P s, ps' i = some (P, s) → 0 ≤ P.silent ∧ P.silent ≤ 1000000 := by
        intro i P s hi
        cases hi0 : x.ps i with
        | none => rw [X1.out.1.none_ i hi0] at hi; cases hi
        | some y0 =>
          obtain ⟨P0, s0⟩ := y0
          obtain ⟨s1, h1, -⟩ := X1.out.1.some_ i P0 s0 hi0
          rw [h1] at hi
          cases hi
          exact (HI.out i P0 s0 hi0).2.2.2
      have HSIL := Lib.hid hsil
      have hpw3 : PeersAt w3 ps' := by have := X3.out.1.peers; rw [X3.out.2.2.2.1] at this; exact this
      have HPW3 := Lib.hid hpw3
      clear hsil hpw3 z0 z1 z2 z3 z4 z5 z6 z7 z8
      obtain ⟨wo, rfl⟩ : ∃ wo : World, wo = wr := ⟨_, rfl⟩
      have hS0 := HS00.out
      have hpv0 : ∀ i, pvs ps' i = S0.pv i := fun i => by rw [← hS0]; exact X1.out.1.pvs i
      have hok0 : OkN (isT S0.pv) (keyL S0.l) ∧ S0.pv 0 = none ∧ S0.l.length ≤ 100 := by
        refine ⟨by rw [← hS0]; exact HOK.out.1, by rw [← hpv0]; unfold pvs; rw [HPW3.out.zero]; rfl, ?_⟩
        rw [← hS0]
        have e1 := G0.out.at_.len
        have e2 : V2.l.length = V.l.length := by rw [← HV2.out]; exact tickF_len V
        have e3 := HOK.out.2
        simp only at e1 ⊢
        omega
      have HS0 := Lib.hid (show _ ∧ _ ∧ _ from ⟨hok0, hpv0, show S0.l = V2.l by rw [← hS0]⟩)
      clear hok0 hpv0 hS0
      go_loopw [97] (fun i wr => ∃ (k : Nat) (x2 : SrvX), k ≤ 9 ∧ i = .int .i64 (k : Nat) ∧ SrvAt wr b seed ⟨V2.map, V2.st, V2.tick, (silN S0 k).l⟩ x2 ∧ x2.S.ms = x3.S.ms ∧ x2.hs = x3.hs ∧ (∀ i, pvs x2.ps i = (silN S0 k).pv i) ∧ (∀ i, k ≤ i → peerPtr x2.ps i = peerPtr ps' i) ∧ SrvTo b x3 x2 w3 wr) (fun i _ => 10 - (intOf i).toNat)
      case atStart =>
        refine ⟨0, x3, by decide, rfl, ?_, rfl, rfl, fun i => ?_, fun i _ => by rw [X3.out.2.2.2.1], SrvTo.refl b x3 w3⟩
        · have e : (⟨V2.map, V2.st, V2.tick, (silN S0 0).l⟩ : WorldV) = V2 := by show (⟨V2.map, V2.st, V2.tick, S0.l⟩ : WorldV) = V2; rw [HS0.out.2.2]
          rw [e]
          exact X3.out.1
        · rw [X3.out.2.2.2.1]; exact HS0.out.2.1 i
      case round =>
        obtain ⟨k, x2, hk9, rfl, hs2, hms2, hhs2, hpv2, hpt2, hto2⟩ := hrel
        have hx2k : ∀ (hlt : k < 9), x2.S.n ≤ 100 := fun hlt => by
          have e1 := hs2.at_.len
          have e2 := (silN_ok HS0.out.1.1 HS0.out.1.2.1 k (by omega)).2.2
          have e3 := HS0.out.1.2.2
          simp only at e1
          omega
        have R := Lib.hid (show _ ∧ _ ∧ _ ∧ _ ∧ _ ∧ _ ∧ _ from ⟨hs2, hms2, hhs2, hpv2, hpt2, hto2, hx2k⟩)
        clear hs2 hms2 hhs2 hpv2 hpt2 hto2 hx2k
        by_cases hlt : k < 9
        · have ixk : ∀ W, (Instr.index 163 (.agg #[peerPtr ps' 0, peerPtr ps' 1, peerPtr ps' 2, peerPtr ps' 3, peerPtr ps' 4, peerPtr ps' 5, peerPtr ps' 6, peerPtr ps' 7, peerPtr ps' 8]) (.int .i64 (k : Nat))).run Tryz.prog W = .ok (peerPtr ps' k) W := fun W => ixPeers ps' k hlt W
          have t0 : decide ((k : Int) < 9) = true := decide_eq_true (by omega)
          have t0n : decide (k < 9) = true := decide_eq_true hlt
          have hpk := R.out.2.2.2.2.1 k (Nat.le_refl _)
          have hpvk := R.out.2.2.2.1 k
          cases hx : x2.ps k with
          | none =>
            have hp : peerPtr ps' k = .pointer none := by rw [← hpk]; unfold peerPtr; rw [hx]; rfl
            rw [hp] at ixk
            have hst : silN S0 (k + 1) = silN S0 k := by
              show silStep (silN S0 k) k = _
              unfold silStep
              rw [← hpvk]; unfold pvs; rw [hx]; rfl
            have HST := Lib.hid hst
            clear hx hp hpk hpvk hst
            go_wp2
            exact ⟨⟨k + 1, x2, by omega, by go_num, by rw [HST.out]; exact R.out.1, R.out.2.1, R.out.2.2.1, fun i => by rw [HST.out]; exact R.out.2.2.2.1 i, fun i hi => R.out.2.2.2.2.1 i (by omega), R.out.2.2.2.2.2.1⟩, by simp [intOf]; omega⟩
          | some y =>
            obtain ⟨P, s⟩ := y
            have hp : peerPtr ps' k = .pointer (some ⟨s.b, 0, none⟩) := by rw [← hpk]; unfold peerPtr; rw [hx]; rfl
            rw [hp] at ixk
            have hpa := R.out.1.peers.at_ k P s hx
            obtain ⟨sl, hsl⟩ : ∃ sl, P.silent = sl := ⟨_, rfl⟩
            have x10 : wr.cell? ⟨s.b, 10, none⟩ = some (.int .i64 sl) := by rw [← hsl]; exact hpa.blk.cell 10
            have f10 : wr.frozen? ⟨s.b, 10, none⟩ = false := hpa.blk.frozen 10
            have hstk : (silN S0 k).pv k = some P := by rw [← hpvk]; unfold pvs; rw [hx]; rfl
            have k1 : 1 ≤ k := by
              rcases Nat.eq_zero_or_pos k with h0 | h0
              · have := (R.out.1.peers).zero; rw [h0, this] at hx; cases hx
              · exact h0
            have hrange : -9223372036854775808 ≤ sl + 1 ∧ sl + 1 ≤ 9223372036854775807 := by
              obtain ⟨P0, e1, e2⟩ := silN_silent S0 k k P (Nat.le_refl _) hstk
              rw [← HS0.out.2.1 k] at e1
              unfold pvs at e1
              obtain ⟨y0, e3, e4⟩ := Option.map_eq_some_iff.1 e1
              obtain ⟨P9, s9⟩ := y0
              have e5 := HSIL.out k P9 s9 e3
              simp only at e4
              rw [e4, e2, hsl] at e5
              omega
            have hb5 : PeerAt (wr.setCell ⟨s.b, 10, none⟩ (.int .i64 (sl + 1))) (quietP P) s := hpa.ownStep (by have := hpa.blk.set_ 10 (.int .i64 (sl + 1)); rw [← hsl] at this ⊢; exact this) (Chg.setCell (F := fun q => q = s.b) Chg.refl (p := ⟨s.b, 10, none⟩) (.inl rfl) _) rfl rfl rfl rfl rfl
            obtain ⟨x4, q1, q2, q3, q4, q5, q6⟩ := R.out.1.peerStepX hx (Chg.setCell (F := fun q => s.fp q) Chg.refl (p := ⟨s.b, 10, none⟩) (.inl (.inl rfl)) (.int .i64 (sl + 1))) hb5 rfl (fun q hq => .inl hq)
            have Q := Lib.hid (show _ ∧ _ ∧ _ ∧ _ ∧ _ ∧ _ from ⟨q1, q2, q3, q4, q5, q6⟩)
            have HX := Lib.hid (show _ ∧ _ ∧ _ from ⟨hstk, hsl, k1⟩)
            clear hx hp hpk hpvk hpa hstk k1 hb5 q1 q2 q3 q4 q5 q6 hsl
            by_cases hbig : 40 < sl + 1
            · have t4 : decide (40 < sl + 1) = true := decide_eq_true hbig
              have hst : silN S0 (k + 1) = ⟨leaveL (silN S0 k).l k, fun i => if i = k then none else ((silN S0 k).pv i).map (fun Q => toldP Q (leftLine k))⟩ := by
                show silStep (silN S0 k) k = _
                unfold silStep
                rw [HX.out.1]
                simp only
                rw [HX.out.2.1, if_pos hbig]
              have HST := Lib.hid hst
              clear hst hbig
              have hx4 : ∃ s4, x4.ps k = some (quietP P, s4) := by
                have := Q.out.2.2.2.1 k
                rw [if_pos rfl] at this
                unfold pvs at this
                cases h4 : x4.ps k with
                | none => rw [h4] at this; cases this
                | some y4 =>
                  obtain ⟨P4, s4⟩ := y4
                  rw [h4] at this
                  simp at this
                  exact ⟨s4, by rw [this]⟩
              obtain ⟨s4, hs4⟩ := hx4
              have hD := srvDropX b k seed _ x4 _ Q.out.1 HX.out.2.2 (by omega) (quietP P) s4 hs4 (by rw [Q.out.2.1]; exact R.out.2.2.2.2.2.2 hlt) ((silN_ok HS0.out.1.1 HS0.out.1.2.1 k (by omega)).1.player k HX.out.2.2 (by omega) (by unfold isT; rw [HX.out.1]; rfl))
              have HD := Lib.hid hD
              clear hD hs4
              go_wp2_with fail
              refine HD.out.mono ?_
              rintro e w6 ⟨rfl, x6, d1, d2, d3, d4, d5, d6⟩
              have D := Lib.hid (show _ ∧ _ ∧ _ ∧ _ ∧ _ ∧ _ from ⟨d1, d2, d3, d4, d5, d6⟩)
              clear d1 d2 d3 d4 d5 d6
              go_wp2
              refine ⟨⟨k + 1, x6, by omega, by go_num, by rw [HST.out]; exact D.out.1, (D.out.2.1.trans (by rw [Q.out.2.1])).trans R.out.2.1, (D.out.2.2.1.trans Q.out.2.2.1).trans R.out.2.2.1, fun i => ?_, fun i hi => ?_, R.out.2.2.2.2.2.1.trans (Q.out.2.2.2.2.1.trans D.out.2.2.2.2.1)⟩, by simp [intOf]; omega⟩
              · rw [HST.out, D.out.2.2.2.1 i]
                show _ = if i = k then none else ((silN S0 k).pv i).map _
                by_cases hik : i = k
                · rw [if_pos hik, if_pos hik]
                · rw [if_neg hik, if_neg hik, Q.out.2.2.2.1 i, if_neg hik, R.out.2.2.2.1 i]
              · rw [D.out.2.2.2.2.2 i (by omega), Q.out.2.2.2.2.2 i]; exact R.out.2.2.2.2.1 i (by omega)
            · have t4 : decide (40 < sl + 1) = false := decide_eq_false hbig
              have hst : silN S0 (k + 1) = ⟨(silN S0 k).l, fun i => if i = k then some (quietP P) else (silN S0 k).pv i⟩ := by
                show silStep (silN S0 k) k = _
                unfold silStep
                rw [HX.out.1]
                simp only
                rw [HX.out.2.1, if_neg hbig]
              have HST := Lib.hid hst
              clear hst hbig
              go_wp2
              refine ⟨⟨k + 1, x4, by omega, by go_num, by rw [HST.out]; exact Q.out.1, by rw [Q.out.2.1]; exact R.out.2.1, Q.out.2.2.1.trans R.out.2.2.1, fun i => ?_, fun i hi => ?_, R.out.2.2.2.2.2.1.trans Q.out.2.2.2.2.1⟩, by simp [intOf]; omega⟩
              · rw [HST.out, Q.out.2.2.2.1 i]
                show _ = if i = k then _ else (silN S0 k).pv i
                by_cases hik : i = k
                · rw [if_pos hik, if_pos hik]
                · rw [if_neg hik, if_neg hik]; exact R.out.2.2.2.1 i
              · rw [Q.out.2.2.2.2.2 i]; exact R.out.2.2.2.2.1 i (by omega)
        · have hk : k = 9 := by omega
          subst hk
          clear hk9 hlt
          go_wp2
          go_ret
          exact ⟨rfl, x2, R.out.1, by rw [R.out.2.1, X3.out.2.1]; exact X2.out.2.1, by rw [R.out.2.2.1, X3.out.2.2.1], R.out.2.2.2.1, X3.out.2.2.2.2.trans R.out.2.2.2.2.2.1⟩
end Go.Proofs.YtojbijapdkohlaaGreatDoor
