/- Layer 21: a tick of a server whose peers have nothing in. -/
import Derived.Test.YtojbijapdkohlaaGreatDoorQ21SrvBkt
import Derived.Test.YtojbijapdkohlaaGreatDoorSrvDropG
import Derived.Test.YtojbijapdkohlaaGreatDoorQ18ReadPlain
set_option linter.unusedSimpArgs false
set_option linter.unusedVariables false
namespace Go.Proofs.YtojbijapdkohlaaGreatDoor
open Go.RowKit
theorem PeersTo.keepBlk {w w' : World} {ps ps' : Peers} {f : Nat → PeerV → PeerV} (h : PeersTo w w' ps ps' f) (hps : PeersAt w ps) {g : Nat} {t : TypeId} {cs : Array Value} (hb : Blk w g t cs) (ht : t ∉ peerTs) : Blk w' g t cs :=
  (h.chg.block g hb.lt (fun ⟨i, P, s, hi, hf⟩ => hps.far (q := g) (fun t' h' => by rw [hb.cls] at h'; cases h'; exact ht) i P s hi hf)).trans hb
/-- The ring keeps one more list. -/
theorem SrvAt.put {w w' : World} {b : Nat} {seed : Int} {V : WorldV} {x : SrvX} {tick : Int} {l : List EntV} {e : Ending} (h : SrvAt w b seed V x) (hp : PutX b 8 165 (srvCells seed V x) tick x.rA (some x.mb) x.hs l w e w') :
    e = .returned (.int .i64 0) ∧ ∃ x' : SrvX, SrvAt w' b seed V x' ∧ x'.S = x.S ∧ x'.hs = keepH x.hs tick l ∧ x'.ps = x.ps ∧ SrvTo b x x' w w' := by
  obtain ⟨he, A', n', c', mb, ml, hb, hr, hm, hpa, hA, hmb, hc⟩ := hp
  have lb := h.lt
  have hc : Chg (fun q => q = b ∨ blkOf x.rA = some q ∨ q = x.mb) w w' := hc.mono fun q hq => by
    rcases hq with h1 | h1 | h1
    · exact .inl h1
    · exact .inr (.inl h1)
    · exact .inr (.inr (Option.some.inj h1).symm)
  have hF : ∀ q, (q = b ∨ blkOf x.rA = some q ∨ q = x.mb) → b ≤ q := fun q hq => by
    rcases hq with h1 | h1 | h1
    · omega
    · have := h.hiR q h1; omega
    · have := h.hiM; omega
  have far : ∀ q t, clsOf w q = some t → t ≠ 165 → t ≠ 3 → w'.heap[q]? = w.heap[q]? := fun q t hq h1 h2 => hc.block q (clsOf_lt hq) (fun hh => by
    rcases hh with rfl | hh | rfl
    · rw [h.blk.cls] at hq; exact h1 (Option.some.inj hq).symm
    · rw [h.ring.cls hh] at hq; exact h2 (Option.some.inj hq).symm
    · rw [h.lists.cls] at hq; cases hq)
  have hmb2 : mb = x.mb ∨ w.heap.size ≤ mb := hmb.elim (fun h => .inl (Option.some.inj h).symm) .inr
  refine ⟨he, { x with rA := A', rn := n', rc := c', mb := mb, hs := keepH x.hs tick l, ml := ml }, ⟨hb, ?_, hr, hm, hpa, ?_, ?_, ?_, h.hiP⟩, rfl, rfl, rfl, ⟨hc.mono (fun q hq => by
    rcases hq with h1 | h1 | h1
    · exact .inl h1
    · exact .inr (.inl h1)
    · exact .inr (.inr (.inl h1))), fun q hq => ?_⟩⟩
  · exact h.wld.keepT (fun q hq => hc.block q (by omega) (fun hh => by have := hF q hh; omega)) (fun q hq => far q _ hq (by decide) (by decide))
  · exact h.peers.keep fun i P s hi q hq => by
      obtain ⟨t, h1, h2⟩ := (h.peers.at_ i P s hi).cls hq
      refine far q t h1 ?_ ?_ <;> (rintro rfl; revert h2; decide)
  · intro q hq
    rcases hA q hq with h1 | h1
    · exact h.hiR q h1
    · omega
  · have := h.hiM
    show b < mb
    omega
  · rcases hq with h1 | h1 | h1 | h1
    · exact .inl (.inl h1)
    · rcases hA q h1 with h2 | h2
      · exact .inl (.inr (.inl h2))
      · exact .inr h2
    · have h1 : q = mb := h1
      rcases hmb2 with h2 | h2
      · exact .inl (.inr (.inr (.inl (h1.trans h2))))
      · exact .inr (by omega)
    · exact .inl (.inr (.inr (.inr h1)))
def fillP (P : PeerV) : PeerV := { P with tokens := fillT P.tokens }
def quietP (P : PeerV) : PeerV := { P with silent := P.silent + 1 }
/-- What a peer must be for a tick to do nothing but fill it and count. -/
def Idle (ps : Peers) : Prop := ∀ i P s, ps i = some (P, s) → P.queue = [] ∧ 0 ≤ P.tokens ∧ P.tokens ≤ 16 ∧ 0 ≤ P.silent ∧ P.silent ≤ 39
def TickG (b : Nat) (seed : Int) (V : WorldV) (x : SrvX) (w : World) (e : Ending) (w' : World) : Prop :=
  e = .returned (.slice none 0 0) ∧ ∃ x' : SrvX, SrvAt w' b seed (tickF V) x' ∧ x'.S.ms = x.S.ms ∧ x'.hs = keepH x.hs (tickF V).tick (tickF V).l ∧ (∀ i, pvs x'.ps i = (pvs x.ps i).map (fun P => quietP (fillP P))) ∧ SrvTo b x x' w w'
set_option maxRecDepth 100000 in
set_option maxHeartbeats 16000000 in
theorem srvTickG (b : Nat) (seed : Int) (V : WorldV) (x : SrvX) (w : World) (h : SrvAt w b seed V x) (hi : Idle x.ps) (hn : x.S.n ≤ 1000) (h1 : 1 ≤ x.S.ms.n2) (h2 : x.S.ms.n2 ≤ 100000) (hok : ∀ e ∈ V.l, okE e) (hla : lastI (x.hs.map (·.1)) < (tickF V).tick) (ht : (tickF V).tick ≤ 4294967296) (hm1 : -1 ≤ lastI (x.hs.map (·.1))) :
    Calls Tryz.prog 47 #[.pointer (some ⟨b, 0, none⟩)] w (TickG b seed V x w) := by
  have lb := h.lt
  unfold TickG
  obtain ⟨V2, hV2⟩ : ∃ V2 : WorldV, tickF V = V2 := ⟨_, rfl⟩
  have hvm : V2.map = V.map := by rw [← hV2]; rfl
  rw [hV2] at hla ht ⊢
  have HV2 := Lib.hid hV2
  have HVM := Lib.hid hvm
  clear hV2 hvm
  have z0 := h.slot (k := 0) (by decide)
  have z1 := h.slot (k := 1) (by decide)
  have z2 := h.slot (k := 2) (by decide)
  have z3 := h.slot (k := 3) (by decide)
  have z4 := h.slot (k := 4) (by decide)
  have z5 := h.slot (k := 5) (by decide)
  have z6 := h.slot (k := 6) (by decide)
  have z7 := h.slot (k := 7) (by decide)
  have z8 := h.slot (k := 8) (by decide)
  simp only [Nat.reduceAdd] at z0 z1 z2 z3 z4 z5 z6 z7 z8
  have H := Lib.hid h
  clear h
  have HI := Lib.hid hi
  have HH := Lib.hid (show _ ∧ _ ∧ _ ∧ _ ∧ _ ∧ _ ∧ _ from ⟨hn, h1, h2, hok, hla, ht, hm1⟩)
  clear hi hn h1 h2 hok hla ht hm1
  go_enter Tryz.func47, Tryz.ntmps47
  go_wp2
  have G0 := Lib.hid H.out
  clear z0 z1 z2 z3 z4 z5 z6 z7 z8
  go_loopw [3, 18] (fun f i wr => f = .slice none 0 0 ∧ ∃ (k : Nat) (ps' : Peers), k ≤ 9 ∧ i = .int .i64 (k : Nat) ∧ PeersTo w wr x.ps ps' (fun i P => if i < k then fillP P else P)) (fun f i _ => 10 - (intOf i).toNat)
  case atStart => exact ⟨rfl, 0, x.ps, by decide, rfl, (PeersTo.refl G0.out.peers).congr (fun i P s _ => by rw [if_neg (Nat.not_lt_zero _)])⟩
  case round =>
    obtain ⟨rfl, k, ps', hk9, rfl, hto⟩ := hrel
    have HTO := Lib.hid hto
    clear hto
    by_cases hlt : k < 9
    · have ixk : ∀ W, (Instr.index 163 (.agg #[peerPtr x.ps 0, peerPtr x.ps 1, peerPtr x.ps 2, peerPtr x.ps 3, peerPtr x.ps 4, peerPtr x.ps 5, peerPtr x.ps 6, peerPtr x.ps 7, peerPtr x.ps 8]) (.int .i64 (k : Nat))).run Tryz.prog W = .ok (peerPtr x.ps k) W := fun W => ixPeers x.ps k hlt W
      have t0 : decide ((k : Int) < 9) = true := decide_eq_true (by omega)
      have t0n : decide (k < 9) = true := decide_eq_true hlt
      cases hx : x.ps k with
      | none =>
        have hp : peerPtr x.ps k = .pointer none := by unfold peerPtr; rw [hx]; rfl
        rw [hp] at ixk
        have HXX := Lib.hid hx
        clear hx hp
        go_wp2
        exact ⟨⟨rfl, k + 1, ps', by omega, by go_num, HTO.out.congr (fun i P s hi => by
          by_cases h1 : i < k
          · rw [if_pos h1, if_pos (by omega)]
          · by_cases h2 : i = k
            · subst h2; rw [HXX.out] at hi; cases hi
            · rw [if_neg h1, if_neg (by omega)])⟩, by simp [intOf]; omega⟩
      | some y =>
        obtain ⟨P, s⟩ := y
        have hp : peerPtr x.ps k = .pointer (some ⟨s.b, 0, none⟩) := by unfold peerPtr; rw [hx]; rfl
        rw [hp] at ixk
        obtain ⟨s', hs', hsb, hsf⟩ := HTO.out.some_ k P s hx
        rw [if_neg (Nat.lt_irrefl k)] at hs'
        have hpa := HTO.out.at_.at_ k P s' hs'
        obtain ⟨hq0, ht0, ht16, -, -⟩ := HI.out k P s hx
        have hqn : s'.qN = 0 := by
          have h6 := hpa.queue.1
          rw [hq0] at h6
          have h7 : 0 = s'.qN * 6 := h6
          omega
        rw [← hsb] at ixk
        have x7 : wr.cell? ⟨s'.b, 7, none⟩ = some (.pointer (some ⟨s'.ib, 0, none⟩)) := hpa.blk.cell 7
        have HF := Lib.hid (bktFill P.last P.tokens s'.qA s'.qN s'.qC s'.ib wr hpa.ink ht0 ht16)
        have HXX := Lib.hid hx
        have HS' := Lib.hid hs'
        have HPA := Lib.hid hpa
        have HT0 := Lib.hid (show _ ∧ _ ∧ _ from ⟨ht0, ht16, hqn⟩)
        clear hx hp hs' hsb hsf hpa hq0 ht0 ht16 hqn
        go_wp2_with fail
        refine HF.out.mono ?_
        rintro e w1 ⟨rfl, hi1, hc1⟩
        have hb1 : Blk w1 s'.b 203 (peerCells P s') := (hc1.block _ HPA.out.blk.lt (fun e => Blk.ne_ HPA.out.blk HPA.out.ink (by decide) e)).trans HPA.out.blk
        have x7 : w1.cell? ⟨s'.b, 7, none⟩ = some (.pointer (some ⟨s'.ib, 0, none⟩)) := hb1.cell 7
        have hT := bktTake0 (fillT P.tokens) s'.qA s'.qC s'.ib w1 (by have := hi1.cell 1; rw [HT0.out.2.2] at this; exact this) (hi1.cell 2) (by unfold fillT; have := HT0.out; omega)
        have HT := Lib.hid hT
        have HW1 := Lib.hid (show _ ∧ _ ∧ _ from ⟨hi1, hc1, hb1⟩)
        clear hi1 hc1 hb1 hT
        go_wp2_with fail
        refine HT.out.mono ?_
        rintro e w2 ⟨rfl, hd⟩
        have hch : Chg (fun q => s'.fp q) wr w2 := by
          obtain ⟨m, rfl⟩ := hd
          exact (HW1.out.2.1.mono (fun q hq => .inr (.inl hq))).drewN m
        have hp5 : PeerAt w2 (fillP P) s' := by
          obtain ⟨m, rfl⟩ := hd
          have far : ∀ q, q < wr.heap.size → q ≠ s'.ib → w1.heap[q]? = wr.heap[q]? := fun q hq hne => HW1.out.2.1.block q hq hne
          have h5 : PeerAt w1 (fillP P) s' :=
            ⟨HW1.out.2.2, HPA.out.op.keep (fun q hq => far q (HPA.out.op.lt hq) (HPA.out.op.ne_blkR HPA.out.ink (by decide) q hq)), HPA.out.lines.keep (fun q hq => far q (HPA.out.lines.lt hq) (HPA.out.lines.ne_blkR HPA.out.ink (by decide) q hq)), HW1.out.1, HPA.out.queue.keep (fun q hq => far q (HPA.out.queue.lt hq) (HPA.out.queue.ne_blkR HPA.out.ink (by decide) q hq)), HPA.out.l32⟩
          exact h5.keep (fun q hq => rfl)
        obtain ⟨ps2, h2⟩ := HTO.out.stepG k P s s' s' (fillP P) HXX.out (by rw [if_neg (Nat.lt_irrefl k)]; exact HS'.out) hch hp5 rfl (fun q hq => .inl hq)
        have H2 := Lib.hid (h2.congr (g := fun i P => if i < k + 1 then fillP P else P) (fun i P2 s2 hi => by
          by_cases h1 : i = k
          · subst h1
            rw [HXX.out] at hi
            cases hi
            rw [if_pos rfl, if_pos (by omega)]
          · rw [if_neg h1]
            by_cases h3 : i < k
            · rw [if_pos h3, if_pos (by omega)]
            · rw [if_neg h3, if_neg (by omega)]))
        clear hd hch hp5 h2 HT HW1
        go_wp2_with fail
        go_loopw [3, 35] (fun f i wi => f = .slice none 0 0 ∧ i = .int .i64 0 ∧ wi = w2) (fun _ _ _ => 0)
        case atStart => exact ⟨rfl, rfl, rfl⟩
        case round =>
          obtain ⟨rfl, rfl, hwi⟩ := hrel
          subst hwi
          go_wp2
          exact ⟨⟨rfl, k + 1, ps2, by omega, by go_num, H2.out⟩, by simp [intOf]; omega⟩
    · have hk : k = 9 := by omega
      subst hk
      have hto : PeersTo w wr x.ps ps' (fun _ P => fillP P) := HTO.out.congr (fun i P s hi => by
        by_cases h1 : i < 9
        · rw [if_pos h1]
        · have := G0.out.peers.top i (by omega); rw [hi] at this; cases this)
      have hs := G0.out.told hto
      have hbel := SrvTo.told (b := b) hto
      have X1 := Lib.hid (show _ ∧ _ ∧ _ from ⟨hto, hs, hbel⟩)
      have lbr := hs.lt
      have hT := wTick V x.S wr hs.at_ HH.out.1 HH.out.2.1 HH.out.2.2.1 HH.out.2.2.2.1
      rw [HV2.out] at hT
      have HT := Lib.hid hT
      have z0 : wr.cell? ⟨b, 1, none⟩ = some (.int .i64 V.map.W) := hs.blk.cell 1
      have z1 : wr.cell? ⟨b, 2, none⟩ = some (.int .i64 V.map.H) := hs.blk.cell 2
      have z2 : wr.cell? ⟨b, 3, none⟩ = some (.slice x.S.ms.A x.S.ms.n x.S.ms.c) := hs.blk.cell 3
      have z3 : wr.cell? ⟨b, 4, none⟩ = some (.slice x.S.ms.A2 x.S.ms.n2 x.S.ms.c2) := hs.blk.cell 4
      have z4 : wr.cell? ⟨b, 5, none⟩ = some (.int .u64 V.st) := hs.blk.cell 5
      have z5 : wr.cell? ⟨b, 6, none⟩ = some (.int .i64 V.tick) := hs.blk.cell 6
      have z6 : wr.cell? ⟨b, 7, none⟩ = some (.slice x.S.A x.S.n x.S.c) := hs.blk.cell 7
      clear hto hs hbel hT HTO hk9 hlt
      go_wp2_with fail
      refine HT.out.mono ?_
      rintro e w1 ⟨S2, rfl, hat2, hms, hheld, hb1⟩
      have HG := Lib.hid (show _ ∧ _ ∧ _ ∧ _ from ⟨hat2, hms, hheld, hb1⟩)
      have HB1 := Lib.hid (X1.out.2.1.blk.below hb1 lbr)
      have lb1 := HB1.out.lt
      have fz : ∀ j, w1.frozen? ⟨b, j, none⟩ = false := HB1.out.frozen
      have y0 : w1.cell? ⟨b, 1, none⟩ = some (.int .i64 V.map.W) := HB1.out.cell 1
      have y1 : w1.cell? ⟨b, 2, none⟩ = some (.int .i64 V.map.H) := HB1.out.cell 2
      have y2 : w1.cell? ⟨b, 3, none⟩ = some (.slice x.S.ms.A x.S.ms.n x.S.ms.c) := HB1.out.cell 3
      have y3 : w1.cell? ⟨b, 4, none⟩ = some (.slice x.S.ms.A2 x.S.ms.n2 x.S.ms.c2) := HB1.out.cell 4
      have y4 : w1.cell? ⟨b, 5, none⟩ = some (.int .u64 V.st) := HB1.out.cell 5
      have y5 : w1.cell? ⟨b, 6, none⟩ = some (.int .i64 V.tick) := HB1.out.cell 6
      have y6 : w1.cell? ⟨b, 7, none⟩ = some (.slice x.S.A x.S.n x.S.c) := HB1.out.cell 7
      clear hb1 hheld hat2 hms z0 z1 z2 z3 z4 z5 z6
      go_wp2_with fail
      have E0 : Blk (((((((w1.setCell ⟨b, 1, none⟩ (.int .i64 V2.map.W)).setCell ⟨b, 2, none⟩ (.int .i64 V2.map.H)).setCell ⟨b, 3, none⟩ (.slice S2.ms.A S2.ms.n S2.ms.c)).setCell ⟨b, 4, none⟩ (.slice S2.ms.A2 S2.ms.n2 S2.ms.c2)).setCell ⟨b, 5, none⟩ (.int .u64 V2.st)).setCell ⟨b, 6, none⟩ (.int .i64 V2.tick)).setCell ⟨b, 7, none⟩ (.slice S2.A S2.n S2.c)) b 165 (srvCells seed V2 { x with S := S2, ps := ps' }) := (((((((HB1.out.set_ 1 (.int .i64 V2.map.W)).set_ 2 (.int .i64 V2.map.H)).set_ 3 (.slice S2.ms.A S2.ms.n S2.ms.c)).set_ 4 (.slice S2.ms.A2 S2.ms.n2 S2.ms.c2)).set_ 5 (.int .u64 V2.st)).set_ 6 (.int .i64 V2.tick)).set_ 7 (.slice S2.A S2.n S2.c))
      have E1 : ∀ j, j < w1.heap.size → j ≠ b → (((((((w1.setCell ⟨b, 1, none⟩ (.int .i64 V2.map.W)).setCell ⟨b, 2, none⟩ (.int .i64 V2.map.H)).setCell ⟨b, 3, none⟩ (.slice S2.ms.A S2.ms.n S2.ms.c)).setCell ⟨b, 4, none⟩ (.slice S2.ms.A2 S2.ms.n2 S2.ms.c2)).setCell ⟨b, 5, none⟩ (.int .u64 V2.st)).setCell ⟨b, 6, none⟩ (.int .i64 V2.tick)).setCell ⟨b, 7, none⟩ (.slice S2.A S2.n S2.c)).heap[j]? = w1.heap[j]? := fun j hj hne => (Below.heap_setCell _ _ _ j hne).trans ((Below.heap_setCell _ _ _ j hne).trans ((Below.heap_setCell _ _ _ j hne).trans ((Below.heap_setCell _ _ _ j hne).trans ((Below.heap_setCell _ _ _ j hne).trans ((Below.heap_setCell _ _ _ j hne).trans (Below.heap_setCell _ _ _ j hne))))))
      have E2 : Chg (fun q => q = b) wr (((((((w1.setCell ⟨b, 1, none⟩ (.int .i64 V2.map.W)).setCell ⟨b, 2, none⟩ (.int .i64 V2.map.H)).setCell ⟨b, 3, none⟩ (.slice S2.ms.A S2.ms.n S2.ms.c)).setCell ⟨b, 4, none⟩ (.slice S2.ms.A2 S2.ms.n2 S2.ms.c2)).setCell ⟨b, 5, none⟩ (.int .u64 V2.st)).setCell ⟨b, 6, none⟩ (.int .i64 V2.tick)).setCell ⟨b, 7, none⟩ (.slice S2.A S2.n S2.c)) := (Chg.setCell (F := fun q => q = b) (Chg.setCell (F := fun q => q = b) (Chg.setCell (F := fun q => q = b) (Chg.setCell (F := fun q => q = b) (Chg.setCell (F := fun q => q = b) (Chg.setCell (F := fun q => q = b) (Chg.setCell (F := fun q => q = b) (Chg.below (Chg.refl (F := fun q => q = b) (w := wr)) HG.out.2.2.2 (Nat.le_refl _)) (p := ⟨b, 1, none⟩) (.inl rfl) _) (p := ⟨b, 2, none⟩) (.inl rfl) _) (p := ⟨b, 3, none⟩) (.inl rfl) _) (p := ⟨b, 4, none⟩) (.inl rfl) _) (p := ⟨b, 5, none⟩) (.inl rfl) _) (p := ⟨b, 6, none⟩) (.inl rfl) _) (p := ⟨b, 7, none⟩) (.inl rfl) _)
      generalize (((((((w1.setCell ⟨b, 1, none⟩ (.int .i64 V2.map.W)).setCell ⟨b, 2, none⟩ (.int .i64 V2.map.H)).setCell ⟨b, 3, none⟩ (.slice S2.ms.A S2.ms.n S2.ms.c)).setCell ⟨b, 4, none⟩ (.slice S2.ms.A2 S2.ms.n2 S2.ms.c2)).setCell ⟨b, 5, none⟩ (.int .u64 V2.st)).setCell ⟨b, 6, none⟩ (.int .i64 V2.tick)).setCell ⟨b, 7, none⟩ (.slice S2.A S2.n S2.c)) = w2 at E0 E1 E2 ⊢
      have hsrv : SrvAt w2 b seed V2 { x with S := S2, ps := ps' } := X1.out.2.1.world HG.out.1 HG.out.2.1 HVM.out HG.out.2.2.1 HG.out.2.2.2 E1 E0
      have hsl := hsrv.at_.l
      have hlen2 := hsrv.at_.len
      have hlen1 := G0.out.at_.len
      have hlenT : V2.l.length = V.l.length := by rw [← HV2.out]; exact tickF_len V
      have hS2n : S2.n ≤ 1000 := by have := HH.out.1; simp only at hlen2; omega
      have hlb : 0 < S2.n → ∀ q, blkOf S2.A = some q → q ≠ b ∧ blkOf x.rA ≠ some q ∧ q ≠ x.mb := by
        intro h0 q hq
        have hR := hsrv.hiR
        have hM := hsrv.hiM
        rcases hsrv.wld.l with h5 | ⟨⟨c0, h5⟩, h6⟩
        · obtain ⟨g, off, hA, hg, -⟩ := h5.flat h0 (by decide)
          rw [show S2.A = some ⟨g, off, none⟩ from hA] at hq
          have : g = q := by simpa [blkOf] using hq
          subst this
          exact ⟨by omega, fun h7 => by have := hR g h7; omega, by have : b < x.mb := hM; omega⟩
        · have h7 := h6 q hq
          have h8 := h5.cls hq
          refine ⟨by omega, fun h9 => ?_, fun h9 => ?_⟩
          · have := hsrv.ring.cls h9
            rw [h8] at this
            exact absurd (Option.some.inj this) (by decide)
          · have h10 : clsOf w2 x.mb = none := hsrv.lists.cls
            rw [← h9, h8] at h10
            cases h10
      have hP := fun W (hs : SrvAt W b seed V2 { x with S := S2, ps := ps' }) (hsl : Reads W W.heap.size 8 S2.A S2.n (entsV V2.l)) => ((ringPutX b 8 165 _ V2.tick x.rA x.rn x.rc (some x.mb) x.ml x.hs V2.l S2.A S2.n S2.c W hs.blk (by decide) rfl rfl hs.ring (fun mb hmb => by cases hmb; exact hs.lists) (fun h => by cases h) hs.past hsl (fun h0 q hq => ⟨(hlb h0 q hq).1, (hlb h0 q hq).2.1, fun h9 => (hlb h0 q hq).2.2 (Option.some.inj h9).symm⟩) (by omega) HH.out.2.2.2.2.1 HH.out.2.2.2.2.2.1 HH.out.2.2.2.2.2.2 (by decide)).mono (R' := fun e w' => e = .returned (.int .i64 0) ∧ ∃ x3 : SrvX, SrvAt w' b seed V2 x3 ∧ x3.S = S2 ∧ x3.hs = keepH x.hs V2.tick V2.l ∧ x3.ps = ps' ∧ SrvTo b { x with S := S2, ps := ps' } x3 W w') (fun e w' hput => by
          obtain ⟨he, x3, hs3, hS3, hts3, hps3, hch3⟩ := hs.put hput
          exact ⟨he, x3, hs3, hS3, hts3, hps3, hch3⟩))
      have HP := Lib.hid (fun W (hW : Below w2.heap.size w2 W) => hP W (hsrv.below hW) ((hsrv.below hW).at_.l))
      have u6 : w2.cell? ⟨b, 6, none⟩ = some (.int .i64 V2.tick) := hsrv.blk.cell 6
      have u7 : w2.cell? ⟨b, 7, none⟩ = some (.slice S2.A S2.n S2.c) := hsrv.blk.cell 7
      have E3 : SrvTo b x { x with S := S2, ps := ps' } w w2 := X1.out.2.2.trans (SrvTo.own (x := { x with ps := ps' }) E2 rfl rfl (fun i P s hi => .inl hi))
      have X2 := Lib.hid (show _ ∧ _ ∧ _ from ⟨hsrv, HG.out.2.1, E3⟩)
      clear hsrv hsl hlen2 hlen1 hlenT hS2n hlb hP E0 E1 E2 E3 y0 y1 y2 y3 y4 y5 y6 fz HG HB1 lb1
      go_region_held3 (fun w' => w'.cell? ⟨b, 6, none⟩ = some (.int .i64 V2.tick) ∧ w'.cell? ⟨b, 7, none⟩ = some (.slice S2.A S2.n S2.c)) (with_reducible (first | exact ⟨u6, u7⟩ | exact ⟨v6, v7⟩ | go_keep)) (first | (go_at_call 90; refine (HP.out _ (by repeat (first | with_reducible exact Below.refl _ _ | with_reducible assumption | with_reducible refine Below.drew ?_ | with_reducible refine below_drews ?_ _ | with_reducible refine Below.alloc ?_ (by first | omega | (simp; done) | (simp; omega)) _ | with_reducible refine Below.setCell ?_ (by first | omega | (simp; done) | (simp; omega)) _))).mono ?_; rintro e w3 ⟨rfl, x3, hs3, hS3, hts3, hps3, hbe3⟩; have v6 : w3.cell? ⟨b, 6, none⟩ = some (.int .i64 V2.tick) := hs3.blk.cell 6; have v7 : w3.cell? ⟨b, 7, none⟩ = some (.slice S2.A S2.n S2.c) := (by have := hs3.blk.cell 7; rw [this]; show some (Value.slice x3.S.A x3.S.n x3.S.c) = _; rw [hS3]); have hbe4 : SrvTo b x x3 w w3 := X2.out.2.2.trans ((SrvTo.below (show Below w2.heap.size w2 _ from (by repeat (first | with_reducible exact Below.refl _ _ | with_reducible assumption | with_reducible refine Below.drew ?_ | with_reducible refine below_drews ?_ _ | with_reducible refine Below.alloc ?_ (by first | omega | (simp; done) | (simp; omega)) _ | with_reducible refine Below.setCell ?_ (by first | omega | (simp; done) | (simp; omega)) _)))).trans hbe3); have X3 := Lib.hid (show _ ∧ _ ∧ _ ∧ _ ∧ _ from ⟨hs3, hS3, hts3, hps3, hbe4⟩); clear hs3 hS3 hts3 hps3 hbe3 hbe4))
      have hs3 := X3.out.1
      have hps3 := X3.out.2.2.2.1
      have z0 := hs3.slot (k := 0) (by decide)
      have z1 := hs3.slot (k := 1) (by decide)
      have z2 := hs3.slot (k := 2) (by decide)
      have z3 := hs3.slot (k := 3) (by decide)
      have z4 := hs3.slot (k := 4) (by decide)
      have z5 := hs3.slot (k := 5) (by decide)
      have z6 := hs3.slot (k := 6) (by decide)
      have z7 := hs3.slot (k := 7) (by decide)
      have z8 := hs3.slot (k := 8) (by decide)
      simp only [Nat.reduceAdd, hps3] at z0 z1 z2 z3 z4 z5 z6 z7 z8
      clear hs3 hps3 HP HT u6 u7 v6 v7
      go_wp2
      have hsil : ∀ i P s, ps' i = some (P, s) → 0 ≤ P.silent ∧ P.silent ≤ 39 := by
        intro i P s hi
        cases hi0 : x.ps i with
        | none => rw [X1.out.1.none_ i hi0] at hi; cases hi
        | some y0 =>
          obtain ⟨P0, s0⟩ := y0
          obtain ⟨s1, h1, -⟩ := X1.out.1.some_ i P0 s0 hi0
          rw [h1] at hi
          cases hi
          exact (HI.out i P0 s0 hi0).2.2.2
      have HSIL := Lib.hid hsil
      have hpw3 : PeersAt w3 ps' := by have := X3.out.1.peers; rw [X3.out.2.2.2.1] at this; exact this
      have HPW3 := Lib.hid hpw3
      clear hsil hpw3 z0 z1 z2 z3 z4 z5 z6 z7 z8
      obtain ⟨wo, rfl⟩ : ∃ wo : World, wo = wr := ⟨_, rfl⟩
      go_loopw [97] (fun i wr => ∃ (k : Nat) (ps2 : Peers), k ≤ 9 ∧ i = .int .i64 (k : Nat) ∧ PeersTo w3 wr ps' ps2 (fun i P => if i < k then quietP P else P)) (fun i _ => 10 - (intOf i).toNat)
      case atStart => exact ⟨0, ps', by decide, rfl, (PeersTo.refl HPW3.out).congr (fun i P s _ => by rw [if_neg (Nat.not_lt_zero _)])⟩
      case round =>
        obtain ⟨k, ps2, hk9, rfl, hto⟩ := hrel
        have HTO := Lib.hid hto
        clear hto
        by_cases hlt : k < 9
        · have ixk : ∀ W, (Instr.index 163 (.agg #[peerPtr ps' 0, peerPtr ps' 1, peerPtr ps' 2, peerPtr ps' 3, peerPtr ps' 4, peerPtr ps' 5, peerPtr ps' 6, peerPtr ps' 7, peerPtr ps' 8]) (.int .i64 (k : Nat))).run Tryz.prog W = .ok (peerPtr ps' k) W := fun W => ixPeers ps' k hlt W
          have t0 : decide ((k : Int) < 9) = true := decide_eq_true (by omega)
          have t0n : decide (k < 9) = true := decide_eq_true hlt
          cases hx : ps' k with
          | none =>
            have hp : peerPtr ps' k = .pointer none := by unfold peerPtr; rw [hx]; rfl
            rw [hp] at ixk
            have HXX := Lib.hid hx
            clear hx hp
            go_wp2
            exact ⟨⟨k + 1, ps2, by omega, by go_num, HTO.out.congr (fun i P s hi => by
              by_cases h1 : i < k
              · rw [if_pos h1, if_pos (by omega)]
              · by_cases h2 : i = k
                · subst h2; rw [HXX.out] at hi; cases hi
                · rw [if_neg h1, if_neg (by omega)])⟩, by simp [intOf]; omega⟩
          | some y =>
            obtain ⟨P, s⟩ := y
            have hp : peerPtr ps' k = .pointer (some ⟨s.b, 0, none⟩) := by unfold peerPtr; rw [hx]; rfl
            rw [hp] at ixk
            obtain ⟨s', hs', hsb, hsf⟩ := HTO.out.some_ k P s hx
            rw [if_neg (Nat.lt_irrefl k)] at hs'
            have hpa := HTO.out.at_.at_ k P s' hs'
            obtain ⟨hs0, hs39⟩ := HSIL.out k P s hx
            rw [← hsb] at ixk
            obtain ⟨sl, hsl⟩ : ∃ sl, P.silent = sl := ⟨_, rfl⟩
            have x10 : wr.cell? ⟨s'.b, 10, none⟩ = some (.int .i64 sl) := by rw [← hsl]; exact hpa.blk.cell 10
            have f10 : wr.frozen? ⟨s'.b, 10, none⟩ = false := hpa.blk.frozen 10
            rw [hsl] at hs0 hs39
            have t4 : decide (40 < sl + 1) = false := decide_eq_false (by omega)
            have HXX := Lib.hid hx
            have HS' := Lib.hid hs'
            have HPA := Lib.hid hpa
            have HSL := Lib.hid hsl
            clear hx hp hs' hsb hsf hpa hsl
            go_wp2
            have hc5 : Chg (fun q => s'.fp q) wr (wr.setCell ⟨s'.b, 10, none⟩ (.int .i64 (sl + 1))) := Chg.setCell (F := fun q => s'.fp q) Chg.refl (p := ⟨s'.b, 10, none⟩) (.inl (.inl rfl)) _
            have hne : ∀ q, q ≠ s'.b → (wr.setCell ⟨s'.b, 10, none⟩ (.int .i64 (sl + 1))).heap[q]? = wr.heap[q]? := fun q hq => Below.heap_setCell _ _ _ q hq
            have hb5 : Blk (wr.setCell ⟨s'.b, 10, none⟩ (.int .i64 (sl + 1))) s'.b 203 (peerCells (quietP P) s') := by
              have := HPA.out.blk.set_ 10 (.int .i64 (sl + 1))
              rw [← HSL.out] at this ⊢
              exact this
            have hp5 : PeerAt (wr.setCell ⟨s'.b, 10, none⟩ (.int .i64 (sl + 1))) (quietP P) s' :=
              ⟨hb5, HPA.out.op.keep (fun q hq => hne q (HPA.out.op.ne_blkR HPA.out.blk (by decide) q hq)), HPA.out.lines.keep (fun q hq => hne q (HPA.out.lines.ne_blkR HPA.out.blk (by decide) q hq)), (hne _ (Blk.ne_ HPA.out.ink HPA.out.blk (by decide))).trans HPA.out.ink, HPA.out.queue.keep (fun q hq => hne q (HPA.out.queue.ne_blkR HPA.out.blk (by decide) q hq)), HPA.out.l32⟩
            obtain ⟨ps4, h2⟩ := HTO.out.stepG k P s s' s' (quietP P) HXX.out (by rw [if_neg (Nat.lt_irrefl k)]; exact HS'.out) hc5 hp5 rfl (fun q hq => .inl hq)
            exact ⟨⟨k + 1, ps4, by omega, by go_num, h2.congr (fun i P2 s2 hi => by
              by_cases h1 : i = k
              · subst h1
                rw [HXX.out] at hi
                cases hi
                rw [if_pos rfl, if_pos (by omega)]
              · rw [if_neg h1]
                by_cases h3 : i < k
                · rw [if_pos h3, if_pos (by omega)]
                · rw [if_neg h3, if_neg (by omega)])⟩, by simp [intOf]; omega⟩
        · have hk : k = 9 := by omega
          subst hk
          have hto : PeersTo w3 wr ps' ps2 (fun _ P => quietP P) := HTO.out.congr (fun i P s hi => by
            by_cases h1 : i < 9
            · rw [if_pos h1]
            · have := HPW3.out.top i (by omega); rw [hi] at this; cases this)
          have hto3 : PeersTo w3 wr x3.ps ps2 (fun _ P => quietP P) := by rw [X3.out.2.2.2.1]; exact hto
          have F1 := Lib.hid (X3.out.1.told hto3)
          have F2 := Lib.hid (SrvTo.told (b := b) hto3)
          have F3 := Lib.hid (show ∀ i, pvs ps2 i = (pvs x.ps i).map (fun P => quietP (fillP P)) from fun i => by rw [hto.pvs i, X1.out.1.pvs i, Option.map_map]; rfl)
          clear hto hto3 HTO hk9 hlt
          go_wp2
          go_ret
          exact ⟨rfl, { x3 with ps := ps2 }, F1.out, by show x3.S.ms = _; rw [X3.out.2.1]; exact X2.out.2.1, by show x3.hs = _; rw [X3.out.2.2.1]; try rfl, F3.out, X3.out.2.2.2.2.trans F2.out⟩
end Go.Proofs.YtojbijapdkohlaaGreatDoor
