/- Layer 21: a datagram of a player is taken. -/
import Derived.Test.YtojbijapdkohlaaGreatDoorQ39SrvTickP
import Derived.Test.YtojbijapdkohlaaGreatDoorQ21SrvBkt
set_option linter.unusedSimpArgs false
set_option linter.unusedVariables false
namespace Go.Proofs.YtojbijapdkohlaaGreatDoor
open Go.RowKit
def TakeG (b k : Nat) (seed : Int) (V : WorldV) (x : SrvX) (P : PeerV) (bs : List UInt8) (w : World) (e : Ending) (w' : World) : Prop :=
  e = .returned (.int .i64 (tkCode (keyBV seed k) P bs)) ∧ ∃ x' : SrvX, SrvAt w' b seed V x' ∧ x'.S = x.S ∧ x'.hs = x.hs ∧ (∀ i, pvs x'.ps i = if i = k then some (takeP (keyBV seed k) V.tick P bs) else pvs x.ps i) ∧ SrvTo b x x' w w'
theorem TakeG.refused {b k : Nat} {seed : Int} {V : WorldV} {x : SrvX} {P : PeerV} {s : PeerS} {bs : List UInt8} {w w' : World} {c : Int} (h : SrvAt w b seed V x) (hk : x.ps k = some (P, s)) (hc : tkCode (keyBV seed k) P bs = c) (h0 : c ≠ 0) (hb : Below w.heap.size w w') :
    TakeG b k seed V x P bs w (.returned (.int .i64 c)) w' := by
  refine ⟨by rw [hc], x, h.below hb, rfl, rfl, fun i => ?_, SrvTo.below hb⟩
  have e : takeP (keyBV seed k) V.tick P bs = P := by unfold takeP; rw [if_neg (by rw [hc]; exact h0)]
  rw [e]
  split
  · rename_i e; subst e; unfold pvs; rw [hk]; rfl
  · rfl
theorem below_rd {B g : Nat} {w0 w w' : World} (h : Below B w0 w) (hc : Chg (fun q => q = g) w w') (hg : B ≤ g) (hB : B ≤ w.heap.size) : Below B w0 w' := h.trans (hc.to_below hB (fun q e => e ▸ hg))
def hdrCells (h : HdrV) : Array Value := #[.int .u16 (h.num : Nat), .bool h.any, .int .u16 (h.ack : Nat), .int .u32 (h.mask : Nat)]
/-- While a datagram is read: the reader and the header's box are new; all else is as it was. -/
structure TkAt (w wi : World) (g hx : Nat) (hd : HdrV) (r : RdV) : Prop where
  bel : Below w.heap.size w wi
  size : w.heap.size ≤ wi.heap.size
  rd : RdAt wi g r
  box : Blk wi hx 215 (hdrCells hd)
  hg : w.heap.size ≤ g
  hh : w.heap.size ≤ hx
  ne : hx ≠ g
theorem TkAt.step {w wi wj : World} {g hx : Nat} {hd : HdrV} {r r' : RdV} (h : TkAt w wi g hx hd r) (hr : RdAt wj g r') (hc : Chg (fun q => q = g) wi wj) : TkAt w wj g hx hd r' :=
  ⟨below_rd h.bel hc h.hg h.size, Nat.le_trans h.size hc.size, hr, (hc.block hx h.box.lt h.ne).trans h.box, h.hg, h.hh, h.ne⟩
theorem TkAt.dr {w wi wj : World} {g hx : Nat} {hd : HdrV} {r : RdV} (h : TkAt w wi g hx hd r) (hc : Dr wi wj) : TkAt w wj g hx hd r := by
  obtain ⟨n, rfl⟩ := hc
  have hb : Below wi.heap.size wi (wi.drewN n) := below_drews (Below.refl _ _) n
  exact ⟨h.bel.trans (hb.mono h.size), Nat.le_trans h.size hb.size, h.rd.below hb (Nat.le_refl _), h.box.below hb h.box.lt, h.hg, h.hh, h.ne⟩
set_option maxRecDepth 100000 in
set_option maxHeartbeats 16000000 in
theorem srvTake (b k : Nat) (seed : Int) (V : WorldV) (x : SrvX) (K : Nat) (bs : List UInt8) (A1 : Option Addr) (n1 c1 : Nat) (w : World) (h : SrvAt w b seed V x) (k1 : 1 ≤ k) (k8 : k ≤ 8) (P : PeerV) (s : PeerS) (hk : x.ps k = some (P, s)) (hP : PeerOk K P) (hK : K ≤ 30000)
    (hr : Reads w w.heap.size 1 A1 n1 (bytesV bs)) (hn1 : n1 ≤ 9223372036854775807) (hnc : n1 ≤ c1) :
    Calls Tryz.prog 49 #[.pointer (some ⟨b, 0, none⟩), .int .i64 (k : Nat), .slice A1 n1 c1] w (TakeG b k seed V x P bs w) := by
  have lb := h.lt
  have zk : w.cell? ⟨b, 10 + k, none⟩ = some (.pointer (some ⟨s.b, 0, none⟩)) := by rw [h.slot (by omega)]; unfold peerPtr; rw [hk]; rfl
  have HP := Lib.hid (srvPeer b k k1 k8 (.pointer (some ⟨s.b, 0, none⟩)) w zk)
  have HKEY := Lib.hid (fun W => srvKey seed (k : Nat) W)
  have HO := Lib.hid (frame_open (keyBV seed k) bs w A1 n1 c1 hr hn1 hnc)
  have zs : w.cell? ⟨b, 0, none⟩ = some (.int .u64 seed) := h.blk.cell 0
  have H := Lib.hid (show _ ∧ _ ∧ _ from ⟨h, hk, hP⟩)
  have KE := Lib.hid (keyBV_eq seed k)
  clear h hk hP zk hr hn1 hnc
  go_enter Tryz.func49, Tryz.ntmps49
  go_wp2_with fail
  refine HP.out.mono ?_
  rintro e w0 ⟨rfl, rfl⟩
  go_wp2_with fail
  refine (HKEY.out _).mono ?_
  rintro e w0 ⟨rfl, rfl⟩
  rw [KE.out]
  go_wp2_with fail
  refine HO.out.mono ?_
  rintro e w1 ⟨v1, m1, rfl, ho1, hb1⟩
  obtain ⟨A2, c2, rfl, hr1, hA2⟩ := Row.of_own ho1
  clear ho1
  by_cases he : (openF (keyBV seed k) bs).2 = 0
  · have hcode : tkCode (keyBV seed k) P bs = if tkGood (rdOf (openF (keyBV seed k) bs).1) = true then (tkChan P (rdOf (openF (keyBV seed k) bs).1)).1 else 2 := by unfold tkCode; rw [if_neg (by rw [he]; decide)]
    have hln := openF_len _ _ he
    rw [he]
    obtain ⟨pl, hpl⟩ : ∃ pl, (openF (keyBV seed k) bs).1 = pl := ⟨_, rfl⟩
    rw [hpl] at hcode hr1 hln
    have hpn : pl.length = m1 := by have := hr1.1; simpa [bytesV] using this
    have HN := Lib.hid (rdNew (natsOf pl) w1 A2 m1 c2 (by rw [natsV_of]; exact hr1.reads (by decide)) (by omega) (natsOf_lt pl))
    have C := Lib.hid (show _ ∧ _ from ⟨hcode, hpl⟩)
    clear hcode hpl hr1 hA2 hln hpn
    have s1 := Lib.hid hb1.size
    have HB1 := Lib.hid hb1
    clear hb1 he
    go_wp2_with fail
    refine HN.out.mono ?_
    rintro e w2 ⟨g, rfl, hg, hg1, hb2⟩
    have G0 : w.heap.size ≤ g := Nat.le_trans s1.out hg1
    have B2 := Lib.hid (HB1.out.trans (hb2.mono s1.out))
    have hR := chanRead (rdOf pl) g w2 hg
    have HR := Lib.hid hR
    have s2 := Lib.hid (Nat.le_trans s1.out hb2.size)
    have G := Lib.hid G0
    clear hR hg hg1 hb2 G0
    go_wp2_with fail
    refine HR.out.mono ?_
    rintro e w3 ⟨rfl, hg3, hc3⟩
    have B3 := Lib.hid (below_rd B2.out hc3 G.out s2.out)
    have s3 := Lib.hid (Nat.le_trans s2.out hc3.size)
    have G3 := Lib.hid hg3
    clear hg3 hc3 HR B2 s2 HN
    obtain ⟨hd, hhd⟩ : ∃ hd, hdrRead (rdOf pl) = hd := ⟨_, rfl⟩
    obtain ⟨hgd, hhg⟩ : ∃ hgd, hdrGood (rdOf pl) = hgd := ⟨_, rfl⟩
    rw [hhd, hhg]
    have HD := Lib.hid (show _ ∧ _ from ⟨hhd, hhg⟩)
    clear hhd hhg
    go_wp2_with fail
    have mh : Blk (w3.alloc (.cells #[.int .u16 (hd.num : Nat), .bool hd.any, .int .u16 (hd.ack : Nat), .int .u32 (hd.mask : Nat)] 215)) w3.heap.size 215 #[.int .u16 (hd.num : Nat), .bool hd.any, .int .u16 (hd.ack : Nat), .int .u32 (hd.mask : Nat)] := Blk.new _ _ _
    have mb : Below w3.heap.size w3 (w3.alloc (.cells #[.int .u16 (hd.num : Nat), .bool hd.any, .int .u16 (hd.ack : Nat), .int .u32 (hd.mask : Nat)] 215)) := (Below.refl _ _).alloc (Nat.le_refl _) _
    generalize w3.alloc (.cells #[.int .u16 (hd.num : Nat), .bool hd.any, .int .u16 (hd.ack : Nat), .int .u32 (hd.mask : Nat)] 215) = w4 at mh mb ⊢
    obtain ⟨hx, hhx⟩ : ∃ hx, w3.heap.size = hx := ⟨_, rfl⟩
    rw [hhx] at mh ⊢
    have T4 := Lib.hid (show TkAt w w4 g hx hd (rdHdr (rdOf pl)) from ⟨B3.out.trans (mb.mono s3.out), Nat.le_trans s3.out mb.size, G3.out.below mb (Nat.le_refl _), mh, G.out, hhx ▸ s3.out, by have := G3.out.lt; omega⟩)
    clear mh mb hhx B3 s3 G3 G s1 HB1
    refine (rdTake _ g 32 w4 T4.out.rd (by decide)).mono ?_
    rintro e w5 ⟨rfl, hg5, hc5⟩
    have T5 := Lib.hid (T4.out.step hg5 hc5)
    clear hg5 hc5 T4
    have hw32 := RdV.take_lt (rdHdr (rdOf pl)) 32
    obtain ⟨wants, hwants⟩ : ∃ wants, ((rdHdr (rdOf pl)).take 32).1 = wants := ⟨_, rfl⟩
    rw [hwants] at hw32 ⊢
    have vw := wrap32 (x := wants) (by simpa using hw32)
    go_wp2_with fail
    refine (rdTake _ g 32 w5 T5.out.rd (by decide)).mono ?_
    rintro e w6 ⟨rfl, hg6, hc6⟩
    have T6 := Lib.hid (T5.out.step hg6 hc6)
    clear hg6 hc6 T5
    have ht32 := RdV.take_lt ((rdHdr (rdOf pl)).take 32).2 32
    obtain ⟨tick, htick⟩ : ∃ tick, (((rdHdr (rdOf pl)).take 32).2.take 32).1 = tick := ⟨_, rfl⟩
    rw [htick] at ht32 ⊢
    have vt := wrap32 (x := tick) (by simpa using ht32)
    have W := Lib.hid (show _ ∧ _ ∧ _ ∧ _ from ⟨hwants, htick, hw32, ht32⟩)
    clear hwants htick hw32 ht32
    go_wp2_with fail
    refine (rdTake _ g 1 w6 T6.out.rd (by decide)).mono ?_
    rintro e w7 ⟨rfl, hg7, hc7⟩
    have T7 := Lib.hid (show TkAt w w7 g hx hd (tkBit (rdOf pl)).2 from T6.out.step hg7 hc7)
    clear hg7 hc7 T6
    obtain ⟨bit, hbit⟩ : ∃ bit, (((((rdHdr (rdOf pl)).take 32).2.take 32).2.take 1).1 : Nat) = bit := ⟨_, rfl⟩
    rw [hbit]
    have hflag : tkFlag (rdOf pl) = (decide (bit = 1) && hgd) := by unfold tkFlag tkBit; rw [hbit, HD.out.2]
    clear hbit
    cases hf : (decide (bit = 1) && hgd) with
    | false =>
      rw [hf] at hflag
      have hok : tkOk (rdOf pl) = hgd := by unfold tkOk; rw [hflag, if_neg (by decide), HD.out.2]
      have hrow : tkRow (rdOf pl) = [] := by unfold tkRow; rw [hflag, if_neg (by decide)]
      have hend : tkEnd (rdOf pl) = (tkBit (rdOf pl)).2 := by unfold tkEnd; rw [hflag, if_neg (by decide)]
      have T8 := Lib.hid (show TkAt w w7 g hx hd (tkEnd (rdOf pl)) by rw [hend]; exact T7.out)
      have RW := Lib.hid (show Row w7 121 6 none 0 0 (cmdsV (tkRow (rdOf pl))) ∧ ∀ q, blkOf (none : Option Addr) = some q → w.heap.size ≤ q from ⟨by rw [hrow]; exact Row.nil_, fun q hq => (nomatch hq)⟩)
      clear T7 hend hrow hflag
      have hdx : ¬ (bit = 1 ∧ hgd = true) := fun hh => by rw [hh.1, hh.2] at hf; cases hf
      have hf1 : (decide (bit = 1) && hgd) = false := hf
      obtain ⟨w8, hw8⟩ : ∃ w8, w7 = w8 := ⟨_, rfl⟩
      subst hw8
      cases hgd with
      | false =>
        clear hdx hf1 hf
        by_cases hb1 : bit = 1
        · subst hb1
          have hgood : tkGood (rdOf pl) = false := by unfold tkGood; rw [hok]; rfl
          have B := Lib.hid (show _ ∧ _ from ⟨T8.out.bel, hgood⟩)
          clear hgood hok
          go_wp2
          go_ret
          exact TakeG.refused H.out.1 H.out.2.1 (by rw [C.out.1, B.out.2]; rfl) (by decide) B.out.1
        · have t2 : decide ((bit : Int) = 1) = false := decide_eq_false (by omega)
          have hgood : tkGood (rdOf pl) = false := by unfold tkGood; rw [hok]; rfl
          have B := Lib.hid (show _ ∧ _ from ⟨T8.out.bel, hgood⟩)
          clear hgood hok
          go_wp2
          go_ret
          exact TakeG.refused H.out.1 H.out.2.1 (by rw [C.out.1, B.out.2]; rfl) (by decide) B.out.1
      | true =>
        have hb1 : bit ≠ 1 := fun hh => hdx ⟨hh, rfl⟩
        clear hdx hf1 hf
        have t2 : decide ((bit : Int) = 1) = false := decide_eq_false (by omega)
        have OK := Lib.hid hok
        clear hok
        go_wp2_with fail
        refine (rdDone (tkEnd (rdOf pl)) g w7 T8.out.rd).mono ?_
        rintro e w9 ⟨rfl, hdr⟩
        have T9 := Lib.hid (T8.out.dr hdr)
        have R9 : Row w9 121 6 none 0 0 (cmdsV (tkRow (rdOf pl))) := by obtain ⟨n, rfl⟩ := hdr; exact RW.out.1
        have RW9 := Lib.hid (show _ ∧ _ from ⟨R9, RW.out.2⟩)
        clear hdr R9 RW T8
        obtain ⟨dn, hdn⟩ : ∃ dn, (tkEnd (rdOf pl)).done = dn := ⟨_, rfl⟩
        have hgood : tkGood (rdOf pl) = dn := by unfold tkGood; rw [OK.out, hdn]; rfl
        rw [hdn]
        have GD := Lib.hid hgood
        clear hdn hgood OK
        cases dn with
        | false =>
          go_wp2
          go_ret
          exact TakeG.refused H.out.1 H.out.2.1 (by rw [C.out.1, GD.out]; rfl) (by decide) T9.out.bel
        | true =>
          go_upto_region 15 with (fail)
          have hp9 := (H.out.1.peers.at_ k P s H.out.2.1).below T9.out.bel (Nat.le_refl _)
          have hoN : s.oN ≤ 30000 := by have e1 := hp9.op.1; have e2 := H.out.2.2.op; simp [u16L] at e1; omega
          obtain ⟨q2, hq2⟩ : ∃ q2, tkChan P (rdOf pl) = q2 := ⟨_, rfl⟩
          have CH : chanTakeF (winOf P) P.op hd = q2 := by rw [← hq2]; unfold tkChan; rw [HD.out.1]
          have HC0 := fun W hb hr => chanTake s.b 0 203 (peerCells P s) (winOf P) ⟨H.out.2.2.ack, H.out.2.2.mask⟩ P.op hd (HD.out.1 ▸ hdrRead_ok _) s.oA s.oN s.oC W hb rfl rfl rfl rfl hr hoN (by decide)
          unfold ChanTook at HC0
          simp only [CH] at HC0
          have HC := Lib.hid HC0
          clear HC0
          have HQ := Lib.hid hp9
          have b0 : w9.cell? ⟨hx, 0, none⟩ = some (.int .u16 (hd.num : Nat)) := T9.out.box.cell 0
          have b1 : w9.cell? ⟨hx, 1, none⟩ = some (.bool hd.any) := T9.out.box.cell 1
          have b2 : w9.cell? ⟨hx, 2, none⟩ = some (.int .u16 (hd.ack : Nat)) := T9.out.box.cell 2
          have b3 : w9.cell? ⟨hx, 3, none⟩ = some (.int .u32 (hd.mask : Nat)) := T9.out.box.cell 3
          have lhx := T9.out.box.lt
          have HQ2 := Lib.hid hq2
          clear hp9 hoN hq2 CH
          go_cut [17] (fun s17 wx => s17 = .int .i64 q2.1 ∧ ∃ m, Blk wx s.b 203 ((winCells (peerCells P s) 0 q2.2.1).setIfInBounds (0 + 4) (.slice s.oA m s.oC)) ∧ Row wx 95 1 s.oA m s.oC (u16V q2.2.2) ∧ Chg (fun q => q = s.b ∨ blkOf s.oA = some q) w9 wx)
          case first =>
            go_region_law (go_simp; go_at_call 108; refine (HC.out _ (by exact HQ.out.blk) (by exact HQ.out.op)).mono ?_; rintro e wA ⟨⟨xx, rfl⟩, m, hB, hR, hCh⟩; have CT := Lib.hid (show _ ∧ _ ∧ _ from ⟨hB, hR, hCh⟩); clear hB hR hCh)
            all_goals go_wp2_with fail
            all_goals go_meet
            all_goals exact ⟨rfl, m, CT.out.1, CT.out.2.1, ⟨CT.out.2.2.os, CT.out.2.2.tape, CT.out.2.2.output, CT.out.2.2.size, CT.out.2.2.block⟩⟩
          case rest =>
            obtain ⟨rfl, m, hB, hR, hCh⟩ := hcut
            have pc := HQ.out.chanStep hB hR hCh
            have cc : Chg (fun q => s.fp q) w wc := (Chg.below Chg.refl T9.out.bel (Nat.le_refl _)).trans hCh (fun q hq => .inl (hq.elim .inl (fun e => .inr (.inr (.inl e)))))
            have PC := Lib.hid (show _ ∧ _ from ⟨pc, cc⟩)
            have RC := Lib.hid (show Row wc 121 6 none 0 0 (cmdsV (tkRow (rdOf pl))) from RW9.out.1.keep fun q hq => hCh.block q (RW9.out.1.lt hq) fun hF => by
              have hq2 := RW9.out.2 q hq
              have h1 := (H.out.1.peers.at_ k P s H.out.2.1).lt (q := q) (hF.elim .inl (fun e => .inr (.inr (.inl e))))
              omega)
            have hcode : tkCode (keyBV seed k) P bs = q2.1 := by rw [C.out.1, GD.out, if_pos rfl, HQ2.out]
            have HCO := Lib.hid hcode
            clear hB hR hCh pc cc hcode b0 b1 b2 b3 lhx HC
            by_cases hz : q2.1 = 0
            · rw [hz]
              have hdo : takeP (keyBV seed k) V.tick P bs = tkDo V.tick P (rdOf pl) := by unfold takeP; rw [if_pos (HCO.out.trans hz), C.out.2]
              have DO := Lib.hid hdo
              have COZ := Lib.hid (HCO.out.trans hz)
              clear hdo hz HCO
              have f10 : wc.frozen? ⟨s.b, 10, none⟩ = false := PC.out.1.blk.frozen 10
              have lsb : s.b < wc.heap.size := PC.out.1.blk.lt
              have z10 : wc.cell? ⟨s.b, 10, none⟩ = some (.int .i64 P.silent) := PC.out.1.blk.cell 10
              go_wp2_with fail
              have lsb2 : s.b < (wc.setCell ⟨s.b, 10, none⟩ (.int .i64 0)).heap.size := by simpa [World.setCell] using lsb
              have pd : PeerAt (wc.setCell ⟨s.b, 10, none⟩ (.int .i64 0)) { chanP P q2.2.1 q2.2.2 with silent := 0 } { s with oN := m } := PC.out.1.ownStep (PC.out.1.blk.set_ 10 _) (Chg.setCell (F := fun q => q = s.b) Chg.refl (p := ⟨s.b, 10, none⟩) (.inl rfl) _) rfl rfl rfl rfl rfl
              have cd : Chg (fun q => s.fp q) w (wc.setCell ⟨s.b, 10, none⟩ (.int .i64 0)) := PC.out.2.setCell (p := ⟨s.b, 10, none⟩) (.inl (.inl rfl)) _
              have RD : Row (wc.setCell ⟨s.b, 10, none⟩ (.int .i64 0)) 121 6 none 0 0 (cmdsV (tkRow (rdOf pl))) := RC.out.keep fun q hq => Below.heap_setCell _ _ _ q (fun e => by have e2 : q = s.b := e; have := RW9.out.2 q hq; have := (H.out.1.peers.at_ k P s H.out.2.1).blk.lt; omega)
              generalize wc.setCell ⟨s.b, 10, none⟩ (.int .i64 0) = wd at pd cd RD ⊢
              have hlN : s.lN ≤ 1000 := by have e1 := pd.lines.1; have e2 := (H.out.1.peers.at_ k P s H.out.2.1).l32; rw [strsV_length] at e1; simp at e1; have e3 : (chanP P q2.2.1 q2.2.2).lines = P.lines := rfl; rw [e3] at e1; omega
              have hCF := sndConfirm s.b 5 203 (peerCells { chanP P q2.2.1 q2.2.2 with silent := 0 } { s with oN := m }) P.gone P.lines wants s.lA s.lN s.lC wd pd.blk (by decide) rfl rfl pd.lines (by have := H.out.2.2.gone; omega) hlN (by have := W.out.2.2.1; omega)
              have HCF := Lib.hid hCF
              have CD := Lib.hid (show _ ∧ _ from ⟨pd, cd⟩)
              have RDD := Lib.hid RD
              clear hCF pd cd RD hlN lsb2 f10 z10 lsb PC RC
              refine HCF.out.mono ?_
              rintro e we ⟨rfl, A5, n5, c5, hB5, hR5, hA5, hC5⟩
              have CE := Lib.hid (show PeerAt we (confP { chanP P q2.2.1 q2.2.2 with silent := 0 } wants) { s with oN := m, lA := A5, lN := n5, lC := c5 } ∧ Chg (fun q => s.fp q) w we ∧ w.heap.size ≤ we.heap.size ∧ blkOf A5 = blkOf s.lA from ⟨CD.out.1.confStep hB5 hR5 hC5, CD.out.2.trans hC5 (fun q hq => .inl (.inl hq)), Nat.le_trans CD.out.2.size hC5.size, hA5⟩)
              have RE := Lib.hid (show Row we 121 6 none 0 0 (cmdsV (tkRow (rdOf pl))) from RDD.out.keep fun q hq => hC5.block q (RDD.out.lt hq) (fun e => by have := RW9.out.2 q hq; have := (H.out.1.peers.at_ k P s H.out.2.1).blk.lt; omega))
              clear hB5 hR5 hA5 hC5 HCF RDD
              have y9 : we.cell? ⟨s.b, 9, none⟩ = some (.int .i64 P.accepted) := CE.out.1.blk.cell 9
              have g9 : we.frozen? ⟨s.b, 9, none⟩ = false := CE.out.1.blk.frozen 9
              have ls9 : s.b < we.heap.size := CE.out.1.blk.lt
              have z7 : we.cell? ⟨s.b, 7, none⟩ = some (.pointer (some ⟨s.ib, 0, none⟩)) := CE.out.1.blk.cell 7
              have y6 : we.cell? ⟨b, 6, none⟩ = some (.int .i64 V.tick) := (CE.out.2.1.cellF (p := ⟨b, 6, none⟩) lb (fun hF => Nat.lt_irrefl _ (H.out.1.hiP k P s H.out.2.1 b hF))).trans (H.out.1.blk.cell 6)
              have vi : IntKind.i64.wrap (tick : Int) = (tick : Int) := by have := W.out.2.2.2; simp [IntKind.wrap, IntKind.bits, IntKind.signed]; omega
              by_cases c1 : tick = 4294967295
              · have d1 : ((tick : Int) != 4294967295) = false := by rw [c1]; rfl
                have hacc : tkAcc V.tick tick P.accepted = P.accepted := by unfold tkAcc; rw [if_neg (fun hh => hh.1 c1)]
                have QQ := Lib.hid c1
                clear c1
                have PF := Lib.hid (show PeerAt we { confP { chanP P q2.2.1 q2.2.2 with silent := 0 } wants with accepted := P.accepted } { s with oN := m, lA := A5, lN := n5, lC := c5 } ∧ Chg (fun q => s.fp q) w we ∧ w.heap.size ≤ (we).heap.size from ⟨CE.out.1, CE.out.2.1, CE.out.2.2.1⟩)
                have hI := PF.out.1.inkAt H.out.2.2.queue
                have RF : Row we 121 6 none 0 0 (cmdsV (tkRow (rdOf pl))) := RE.out.keep fun q hq => rfl
                have hnl : 0 ≤ 100000 := by have e1 := RF.1; rw [cmdsV_length] at e1; have := tkRow_len (rdOf pl); omega
                have HOF := Lib.hid (bktOffer s.ib P.tokens (P.last : Nat) P.queue (tkRow (rdOf pl)) s.qA none s.qC 0 0 we hI.1 (RF.reads (by decide)) (fun _ q hq => by
                  have hq2 := RW9.out.2 q hq
                  have h1 := H.out.1.peers.at_ k P s H.out.2.1
                  exact ⟨fun e => by have := h1.lt (q := s.ib) (.inr (.inl rfl)); omega, fun e => by have := h1.queue.lt e; omega⟩) hnl)
                have z7 : (we).cell? ⟨s.b, 7, none⟩ = some (.pointer (some ⟨s.ib, 0, none⟩)) := PF.out.1.blk.cell 7
                have HAC := Lib.hid hacc
                clear hI RF hnl hacc
                go_wp2_with fail
                refine HOF.out.mono ?_
                rintro e wz ⟨rfl, A7, c7, hI7, hf7, hc7⟩
                have E9 := Lib.hid (show _ ∧ _ ∧ _ from ⟨hI7, hf7, hc7⟩)
                clear hI7 hf7 hc7
                go_wp2
                go_ret
                refine ⟨congrArg (fun z => Ending.returned (.int .i64 z)) COZ.out.symm, ?_⟩
                have e9 : tkDo V.tick P (rdOf pl) = offP { confP { chanP P q2.2.1 q2.2.2 with silent := 0 } wants with accepted := P.accepted } (offerF (P.last : Nat) P.queue (tkRow (rdOf pl))) := by
                  unfold tkDo tkOff
                  rw [HQ2.out, show tkWants (rdOf pl) = wants from W.out.1, show tkTick (rdOf pl) = tick from W.out.2.1, HAC.out]; rfl
                rw [DO.out, e9]
                exact H.out.1.peerStep H.out.2.1 (PF.out.2.1.trans E9.out.2.2 (fun q hq => .inl (hq.elim (fun e => .inr (.inl e)) (fun e => .inr (.inr (.inr (.inr e))))))) (PF.out.1.offStep E9.out.1 (tkOff_last P (rdOf pl)) E9.out.2.2) rfl (fun q hq => by
                  rcases hq with e | e | e | e | e
                  · exact .inl (.inl e)
                  · exact .inl (.inr (.inl e))
                  · exact .inl (.inr (.inr (.inl e)))
                  · exact .inl (.inr (.inr (.inr (.inl (CE.out.2.2.2 ▸ e)))))
                  · exact (E9.out.2.1 q e).elim (fun e => .inl (.inr (.inr (.inr (.inr e))))) (fun e => .inr (Nat.le_trans PF.out.2.2 e)))
              · have d1 : ((tick : Int) != 4294967295) = true := by simpa using (show (tick : Int) ≠ 4294967295 by omega)
                by_cases c2 : P.accepted < (tick : Int)
                · have d2 : decide (P.accepted < (tick : Int)) = true := decide_eq_true c2
                  by_cases c3 : (tick : Int) ≤ V.tick
                  · have d3 : decide ((tick : Int) ≤ V.tick) = true := decide_eq_true c3
                    have hacc : tkAcc V.tick tick P.accepted = (tick : Nat) := by unfold tkAcc; rw [if_pos ⟨c1, c2, c3⟩]
                    have QQ := Lib.hid (show _ ∧ _ ∧ _ from ⟨c1, c2, c3⟩)
                    clear c1 c2 c3
                    have PF := Lib.hid (show PeerAt (we.setCell ⟨s.b, 9, none⟩ (.int .i64 (tick : Nat))) { confP { chanP P q2.2.1 q2.2.2 with silent := 0 } wants with accepted := (tick : Nat) } { s with oN := m, lA := A5, lN := n5, lC := c5 } ∧ Chg (fun q => s.fp q) w (we.setCell ⟨s.b, 9, none⟩ (.int .i64 (tick : Nat))) ∧ w.heap.size ≤ ((we.setCell ⟨s.b, 9, none⟩ (.int .i64 (tick : Nat)))).heap.size from ⟨CE.out.1.ownStep (CE.out.1.blk.set_ 9 _) (Chg.setCell (F := fun q => q = s.b) Chg.refl (p := ⟨s.b, 9, none⟩) (.inl rfl) _) rfl rfl rfl rfl rfl, CE.out.2.1.setCell (p := ⟨s.b, 9, none⟩) (.inl (.inl rfl)) _, by simpa [World.setCell] using CE.out.2.2.1⟩)
                    have hI := PF.out.1.inkAt H.out.2.2.queue
                    have RF : Row (we.setCell ⟨s.b, 9, none⟩ (.int .i64 (tick : Nat))) 121 6 none 0 0 (cmdsV (tkRow (rdOf pl))) := RE.out.keep fun q hq => Below.heap_setCell _ _ _ q (fun e => by have e2 : q = s.b := e; have := RW9.out.2 q hq; have := (H.out.1.peers.at_ k P s H.out.2.1).blk.lt; omega)
                    have hnl : 0 ≤ 100000 := by have e1 := RF.1; rw [cmdsV_length] at e1; have := tkRow_len (rdOf pl); omega
                    have HOF := Lib.hid (bktOffer s.ib P.tokens (P.last : Nat) P.queue (tkRow (rdOf pl)) s.qA none s.qC 0 0 (we.setCell ⟨s.b, 9, none⟩ (.int .i64 (tick : Nat))) hI.1 (RF.reads (by decide)) (fun _ q hq => by
                      have hq2 := RW9.out.2 q hq
                      have h1 := H.out.1.peers.at_ k P s H.out.2.1
                      exact ⟨fun e => by have := h1.lt (q := s.ib) (.inr (.inl rfl)); omega, fun e => by have := h1.queue.lt e; omega⟩) hnl)
                    have z7 : ((we.setCell ⟨s.b, 9, none⟩ (.int .i64 (tick : Nat)))).cell? ⟨s.b, 7, none⟩ = some (.pointer (some ⟨s.ib, 0, none⟩)) := PF.out.1.blk.cell 7
                    have HAC := Lib.hid hacc
                    clear hI RF hnl hacc
                    go_wp2_with fail
                    refine HOF.out.mono ?_
                    rintro e wz ⟨rfl, A7, c7, hI7, hf7, hc7⟩
                    have E9 := Lib.hid (show _ ∧ _ ∧ _ from ⟨hI7, hf7, hc7⟩)
                    clear hI7 hf7 hc7
                    go_wp2
                    go_ret
                    refine ⟨congrArg (fun z => Ending.returned (.int .i64 z)) COZ.out.symm, ?_⟩
                    have e9 : tkDo V.tick P (rdOf pl) = offP { confP { chanP P q2.2.1 q2.2.2 with silent := 0 } wants with accepted := (tick : Nat) } (offerF (P.last : Nat) P.queue (tkRow (rdOf pl))) := by
                      unfold tkDo tkOff
                      rw [HQ2.out, show tkWants (rdOf pl) = wants from W.out.1, show tkTick (rdOf pl) = tick from W.out.2.1, HAC.out]; rfl
                    rw [DO.out, e9]
                    exact H.out.1.peerStep H.out.2.1 (PF.out.2.1.trans E9.out.2.2 (fun q hq => .inl (hq.elim (fun e => .inr (.inl e)) (fun e => .inr (.inr (.inr (.inr e))))))) (PF.out.1.offStep E9.out.1 (tkOff_last P (rdOf pl)) E9.out.2.2) rfl (fun q hq => by
                      rcases hq with e | e | e | e | e
                      · exact .inl (.inl e)
                      · exact .inl (.inr (.inl e))
                      · exact .inl (.inr (.inr (.inl e)))
                      · exact .inl (.inr (.inr (.inr (.inl (CE.out.2.2.2 ▸ e)))))
                      · exact (E9.out.2.1 q e).elim (fun e => .inl (.inr (.inr (.inr (.inr e))))) (fun e => .inr (Nat.le_trans PF.out.2.2 e)))
                  · have d3 : decide ((tick : Int) ≤ V.tick) = false := decide_eq_false c3
                    have hacc : tkAcc V.tick tick P.accepted = P.accepted := by unfold tkAcc; rw [if_neg (fun hh => c3 hh.2.2)]
                    have QQ := Lib.hid (show _ ∧ _ ∧ _ from ⟨c1, c2, c3⟩)
                    clear c1 c2 c3
                    have PF := Lib.hid (show PeerAt we { confP { chanP P q2.2.1 q2.2.2 with silent := 0 } wants with accepted := P.accepted } { s with oN := m, lA := A5, lN := n5, lC := c5 } ∧ Chg (fun q => s.fp q) w we ∧ w.heap.size ≤ (we).heap.size from ⟨CE.out.1, CE.out.2.1, CE.out.2.2.1⟩)
                    have hI := PF.out.1.inkAt H.out.2.2.queue
                    have RF : Row we 121 6 none 0 0 (cmdsV (tkRow (rdOf pl))) := RE.out.keep fun q hq => rfl
                    have hnl : 0 ≤ 100000 := by have e1 := RF.1; rw [cmdsV_length] at e1; have := tkRow_len (rdOf pl); omega
                    have HOF := Lib.hid (bktOffer s.ib P.tokens (P.last : Nat) P.queue (tkRow (rdOf pl)) s.qA none s.qC 0 0 we hI.1 (RF.reads (by decide)) (fun _ q hq => by
                      have hq2 := RW9.out.2 q hq
                      have h1 := H.out.1.peers.at_ k P s H.out.2.1
                      exact ⟨fun e => by have := h1.lt (q := s.ib) (.inr (.inl rfl)); omega, fun e => by have := h1.queue.lt e; omega⟩) hnl)
                    have z7 : (we).cell? ⟨s.b, 7, none⟩ = some (.pointer (some ⟨s.ib, 0, none⟩)) := PF.out.1.blk.cell 7
                    have HAC := Lib.hid hacc
                    clear hI RF hnl hacc
                    go_wp2_with fail
                    refine HOF.out.mono ?_
                    rintro e wz ⟨rfl, A7, c7, hI7, hf7, hc7⟩
                    have E9 := Lib.hid (show _ ∧ _ ∧ _ from ⟨hI7, hf7, hc7⟩)
                    clear hI7 hf7 hc7
                    go_wp2
                    go_ret
                    refine ⟨congrArg (fun z => Ending.returned (.int .i64 z)) COZ.out.symm, ?_⟩
                    have e9 : tkDo V.tick P (rdOf pl) = offP { confP { chanP P q2.2.1 q2.2.2 with silent := 0 } wants with accepted := P.accepted } (offerF (P.last : Nat) P.queue (tkRow (rdOf pl))) := by
                      unfold tkDo tkOff
                      rw [HQ2.out, show tkWants (rdOf pl) = wants from W.out.1, show tkTick (rdOf pl) = tick from W.out.2.1, HAC.out]; rfl
                    rw [DO.out, e9]
                    exact H.out.1.peerStep H.out.2.1 (PF.out.2.1.trans E9.out.2.2 (fun q hq => .inl (hq.elim (fun e => .inr (.inl e)) (fun e => .inr (.inr (.inr (.inr e))))))) (PF.out.1.offStep E9.out.1 (tkOff_last P (rdOf pl)) E9.out.2.2) rfl (fun q hq => by
                      rcases hq with e | e | e | e | e
                      · exact .inl (.inl e)
                      · exact .inl (.inr (.inl e))
                      · exact .inl (.inr (.inr (.inl e)))
                      · exact .inl (.inr (.inr (.inr (.inl (CE.out.2.2.2 ▸ e)))))
                      · exact (E9.out.2.1 q e).elim (fun e => .inl (.inr (.inr (.inr (.inr e))))) (fun e => .inr (Nat.le_trans PF.out.2.2 e)))
                · have d2 : decide (P.accepted < (tick : Int)) = false := decide_eq_false c2
                  have hacc : tkAcc V.tick tick P.accepted = P.accepted := by unfold tkAcc; rw [if_neg (fun hh => c2 hh.2.1)]
                  have QQ := Lib.hid (show _ ∧ _ from ⟨c1, c2⟩)
                  clear c1 c2
                  have PF := Lib.hid (show PeerAt we { confP { chanP P q2.2.1 q2.2.2 with silent := 0 } wants with accepted := P.accepted } { s with oN := m, lA := A5, lN := n5, lC := c5 } ∧ Chg (fun q => s.fp q) w we ∧ w.heap.size ≤ (we).heap.size from ⟨CE.out.1, CE.out.2.1, CE.out.2.2.1⟩)
                  have hI := PF.out.1.inkAt H.out.2.2.queue
                  have RF : Row we 121 6 none 0 0 (cmdsV (tkRow (rdOf pl))) := RE.out.keep fun q hq => rfl
                  have hnl : 0 ≤ 100000 := by have e1 := RF.1; rw [cmdsV_length] at e1; have := tkRow_len (rdOf pl); omega
                  have HOF := Lib.hid (bktOffer s.ib P.tokens (P.last : Nat) P.queue (tkRow (rdOf pl)) s.qA none s.qC 0 0 we hI.1 (RF.reads (by decide)) (fun _ q hq => by
                    have hq2 := RW9.out.2 q hq
                    have h1 := H.out.1.peers.at_ k P s H.out.2.1
                    exact ⟨fun e => by have := h1.lt (q := s.ib) (.inr (.inl rfl)); omega, fun e => by have := h1.queue.lt e; omega⟩) hnl)
                  have z7 : (we).cell? ⟨s.b, 7, none⟩ = some (.pointer (some ⟨s.ib, 0, none⟩)) := PF.out.1.blk.cell 7
                  have HAC := Lib.hid hacc
                  clear hI RF hnl hacc
                  go_wp2_with fail
                  refine HOF.out.mono ?_
                  rintro e wz ⟨rfl, A7, c7, hI7, hf7, hc7⟩
                  have E9 := Lib.hid (show _ ∧ _ ∧ _ from ⟨hI7, hf7, hc7⟩)
                  clear hI7 hf7 hc7
                  go_wp2
                  go_ret
                  refine ⟨congrArg (fun z => Ending.returned (.int .i64 z)) COZ.out.symm, ?_⟩
                  have e9 : tkDo V.tick P (rdOf pl) = offP { confP { chanP P q2.2.1 q2.2.2 with silent := 0 } wants with accepted := P.accepted } (offerF (P.last : Nat) P.queue (tkRow (rdOf pl))) := by
                    unfold tkDo tkOff
                    rw [HQ2.out, show tkWants (rdOf pl) = wants from W.out.1, show tkTick (rdOf pl) = tick from W.out.2.1, HAC.out]; rfl
                  rw [DO.out, e9]
                  exact H.out.1.peerStep H.out.2.1 (PF.out.2.1.trans E9.out.2.2 (fun q hq => .inl (hq.elim (fun e => .inr (.inl e)) (fun e => .inr (.inr (.inr (.inr e))))))) (PF.out.1.offStep E9.out.1 (tkOff_last P (rdOf pl)) E9.out.2.2) rfl (fun q hq => by
                    rcases hq with e | e | e | e | e
                    · exact .inl (.inl e)
                    · exact .inl (.inr (.inl e))
                    · exact .inl (.inr (.inr (.inl e)))
                    · exact .inl (.inr (.inr (.inr (.inl (CE.out.2.2.2 ▸ e)))))
                    · exact (E9.out.2.1 q e).elim (fun e => .inl (.inr (.inr (.inr (.inr e))))) (fun e => .inr (Nat.le_trans PF.out.2.2 e)))
            · have t3 : (q2.1 != 0) = true := by simpa using hz
              have hP0 : chanP P q2.2.1 q2.2.2 = P := by
                have e1 := HQ2.out
                unfold tkChan chanTakeF at e1
                split at e1
                · subst e1; exact absurd rfl hz
                · subst e1; rfl
              have HP0 := Lib.hid hP0
              have HZ := Lib.hid hz
              clear hP0 hz
              go_wp2
              go_ret
              refine ⟨congrArg (fun z => Ending.returned (.int .i64 z)) HCO.out.symm, ?_⟩
              have e2 : takeP (keyBV seed k) V.tick P bs = P := by unfold takeP; rw [if_neg (by rw [HCO.out]; exact HZ.out)]
              rw [e2]
              have p1 := PC.out.1
              rw [HP0.out] at p1
              exact H.out.1.peerStep H.out.2.1 PC.out.2 p1 rfl (fun q hq => .inl hq)
    | true =>
      rw [hf] at hflag
      rw [Bool.and_eq_true] at hf
      obtain ⟨hf1, rfl⟩ := hf
      obtain rfl := of_decide_eq_true hf1
      clear hf1
      have hok : tkOk (rdOf pl) = goodS (cmdAll (tkBit (rdOf pl)).2) := by unfold tkOk; rw [hflag, if_pos rfl]; rfl
      have hrow : tkRow (rdOf pl) = readS (cmdAll (tkBit (rdOf pl)).2) := by unfold tkRow; rw [hflag, if_pos rfl]; rfl
      have hend : tkEnd (rdOf pl) = (cmdAll (tkBit (rdOf pl)).2).r := by unfold tkEnd; rw [hflag, if_pos rfl]
      go_wp2_with fail
      refine (cmdTake (tkBit (rdOf pl)).2 g w7 T7.out.rd).mono ?_
      rintro e w8 ⟨A3, n3, c3, rfl, hr8, hA8, hg8, hc8⟩
      have T8 := Lib.hid (show TkAt w w8 g hx hd (tkEnd (rdOf pl)) by rw [hend]; exact T7.out.step hg8 hc8)
      have RW := Lib.hid (show Row w8 121 6 A3 n3 c3 (cmdsV (tkRow (rdOf pl))) ∧ ∀ q, blkOf A3 = some q → w.heap.size ≤ q from ⟨by rw [hrow]; exact hr8, fun q hq => Nat.le_trans T7.out.size (hA8 q hq)⟩)
      clear hr8 hA8 hg8 hc8 hend hrow T7
      obtain ⟨gs, hgs⟩ : ∃ gs, goodS (cmdAll (tkBit (rdOf pl)).2) = gs := ⟨_, rfl⟩
      rw [hgs] at hok ⊢
      clear hgs
      cases gs with
      | false =>
        have hgood : tkGood (rdOf pl) = false := by unfold tkGood; rw [hok]; rfl
        have B := Lib.hid (show _ ∧ _ from ⟨T8.out.bel, hgood⟩)
        clear hgood hok
        go_wp2
        go_ret
        exact TakeG.refused H.out.1 H.out.2.1 (by rw [C.out.1, B.out.2]; rfl) (by decide) B.out.1
      | true =>
        have OK := Lib.hid hok
        clear hok
        go_wp2_with fail
        refine (rdDone (tkEnd (rdOf pl)) g w8 T8.out.rd).mono ?_
        rintro e w9 ⟨rfl, hdr⟩
        have T9 := Lib.hid (T8.out.dr hdr)
        have R9 : Row w9 121 6 A3 n3 c3 (cmdsV (tkRow (rdOf pl))) := by obtain ⟨n, rfl⟩ := hdr; exact RW.out.1
        have RW9 := Lib.hid (show _ ∧ _ from ⟨R9, RW.out.2⟩)
        clear hdr R9 RW T8
        obtain ⟨dn, hdn⟩ : ∃ dn, (tkEnd (rdOf pl)).done = dn := ⟨_, rfl⟩
        have hgood : tkGood (rdOf pl) = dn := by unfold tkGood; rw [OK.out, hdn]; rfl
        rw [hdn]
        have GD := Lib.hid hgood
        clear hdn hgood OK
        cases dn with
        | false =>
          go_wp2
          go_ret
          exact TakeG.refused H.out.1 H.out.2.1 (by rw [C.out.1, GD.out]; rfl) (by decide) T9.out.bel
        | true =>
          go_upto_region 15 with (fail)
          have hp9 := (H.out.1.peers.at_ k P s H.out.2.1).below T9.out.bel (Nat.le_refl _)
          have hoN : s.oN ≤ 30000 := by have e1 := hp9.op.1; have e2 := H.out.2.2.op; simp [u16L] at e1; omega
          obtain ⟨q2, hq2⟩ : ∃ q2, tkChan P (rdOf pl) = q2 := ⟨_, rfl⟩
          have CH : chanTakeF (winOf P) P.op hd = q2 := by rw [← hq2]; unfold tkChan; rw [HD.out.1]
          have HC0 := fun W hb hr => chanTake s.b 0 203 (peerCells P s) (winOf P) ⟨H.out.2.2.ack, H.out.2.2.mask⟩ P.op hd (HD.out.1 ▸ hdrRead_ok _) s.oA s.oN s.oC W hb rfl rfl rfl rfl hr hoN (by decide)
          unfold ChanTook at HC0
          simp only [CH] at HC0
          have HC := Lib.hid HC0
          clear HC0
          have HQ := Lib.hid hp9
          have b0 : w9.cell? ⟨hx, 0, none⟩ = some (.int .u16 (hd.num : Nat)) := T9.out.box.cell 0
          have b1 : w9.cell? ⟨hx, 1, none⟩ = some (.bool hd.any) := T9.out.box.cell 1
          have b2 : w9.cell? ⟨hx, 2, none⟩ = some (.int .u16 (hd.ack : Nat)) := T9.out.box.cell 2
          have b3 : w9.cell? ⟨hx, 3, none⟩ = some (.int .u32 (hd.mask : Nat)) := T9.out.box.cell 3
          have lhx := T9.out.box.lt
          have HQ2 := Lib.hid hq2
          clear hp9 hoN hq2 CH
          go_cut [17] (fun s17 wx => s17 = .int .i64 q2.1 ∧ ∃ m, Blk wx s.b 203 ((winCells (peerCells P s) 0 q2.2.1).setIfInBounds (0 + 4) (.slice s.oA m s.oC)) ∧ Row wx 95 1 s.oA m s.oC (u16V q2.2.2) ∧ Chg (fun q => q = s.b ∨ blkOf s.oA = some q) w9 wx)
          case first =>
            go_region_law (go_simp; go_at_call 108; refine (HC.out _ (by exact HQ.out.blk) (by exact HQ.out.op)).mono ?_; rintro e wA ⟨⟨xx, rfl⟩, m, hB, hR, hCh⟩; have CT := Lib.hid (show _ ∧ _ ∧ _ from ⟨hB, hR, hCh⟩); clear hB hR hCh)
            all_goals go_wp2_with fail
            all_goals go_meet
            all_goals exact ⟨rfl, m, CT.out.1, CT.out.2.1, ⟨CT.out.2.2.os, CT.out.2.2.tape, CT.out.2.2.output, CT.out.2.2.size, CT.out.2.2.block⟩⟩
          case rest =>
            obtain ⟨rfl, m, hB, hR, hCh⟩ := hcut
            have pc := HQ.out.chanStep hB hR hCh
            have cc : Chg (fun q => s.fp q) w wc := (Chg.below Chg.refl T9.out.bel (Nat.le_refl _)).trans hCh (fun q hq => .inl (hq.elim .inl (fun e => .inr (.inr (.inl e)))))
            have PC := Lib.hid (show _ ∧ _ from ⟨pc, cc⟩)
            have RC := Lib.hid (show Row wc 121 6 A3 n3 c3 (cmdsV (tkRow (rdOf pl))) from RW9.out.1.keep fun q hq => hCh.block q (RW9.out.1.lt hq) fun hF => by
              have hq2 := RW9.out.2 q hq
              have h1 := (H.out.1.peers.at_ k P s H.out.2.1).lt (q := q) (hF.elim .inl (fun e => .inr (.inr (.inl e))))
              omega)
            have hcode : tkCode (keyBV seed k) P bs = q2.1 := by rw [C.out.1, GD.out, if_pos rfl, HQ2.out]
            have HCO := Lib.hid hcode
            clear hB hR hCh pc cc hcode b0 b1 b2 b3 lhx HC
            by_cases hz : q2.1 = 0
            · rw [hz]
              have hdo : takeP (keyBV seed k) V.tick P bs = tkDo V.tick P (rdOf pl) := by unfold takeP; rw [if_pos (HCO.out.trans hz), C.out.2]
              have DO := Lib.hid hdo
              have COZ := Lib.hid (HCO.out.trans hz)
              clear hdo hz HCO
              have f10 : wc.frozen? ⟨s.b, 10, none⟩ = false := PC.out.1.blk.frozen 10
              have lsb : s.b < wc.heap.size := PC.out.1.blk.lt
              have z10 : wc.cell? ⟨s.b, 10, none⟩ = some (.int .i64 P.silent) := PC.out.1.blk.cell 10
              go_wp2_with fail
              have lsb2 : s.b < (wc.setCell ⟨s.b, 10, none⟩ (.int .i64 0)).heap.size := by simpa [World.setCell] using lsb
              have pd : PeerAt (wc.setCell ⟨s.b, 10, none⟩ (.int .i64 0)) { chanP P q2.2.1 q2.2.2 with silent := 0 } { s with oN := m } := PC.out.1.ownStep (PC.out.1.blk.set_ 10 _) (Chg.setCell (F := fun q => q = s.b) Chg.refl (p := ⟨s.b, 10, none⟩) (.inl rfl) _) rfl rfl rfl rfl rfl
              have cd : Chg (fun q => s.fp q) w (wc.setCell ⟨s.b, 10, none⟩ (.int .i64 0)) := PC.out.2.setCell (p := ⟨s.b, 10, none⟩) (.inl (.inl rfl)) _
              have RD : Row (wc.setCell ⟨s.b, 10, none⟩ (.int .i64 0)) 121 6 A3 n3 c3 (cmdsV (tkRow (rdOf pl))) := RC.out.keep fun q hq => Below.heap_setCell _ _ _ q (fun e => by have e2 : q = s.b := e; have := RW9.out.2 q hq; have := (H.out.1.peers.at_ k P s H.out.2.1).blk.lt; omega)
              generalize wc.setCell ⟨s.b, 10, none⟩ (.int .i64 0) = wd at pd cd RD ⊢
              have hlN : s.lN ≤ 1000 := by have e1 := pd.lines.1; have e2 := (H.out.1.peers.at_ k P s H.out.2.1).l32; rw [strsV_length] at e1; simp at e1; have e3 : (chanP P q2.2.1 q2.2.2).lines = P.lines := rfl; rw [e3] at e1; omega
              have hCF := sndConfirm s.b 5 203 (peerCells { chanP P q2.2.1 q2.2.2 with silent := 0 } { s with oN := m }) P.gone P.lines wants s.lA s.lN s.lC wd pd.blk (by decide) rfl rfl pd.lines (by have := H.out.2.2.gone; omega) hlN (by have := W.out.2.2.1; omega)
              have HCF := Lib.hid hCF
              have CD := Lib.hid (show _ ∧ _ from ⟨pd, cd⟩)
              have RDD := Lib.hid RD
              clear hCF pd cd RD hlN lsb2 f10 z10 lsb PC RC
              refine HCF.out.mono ?_
              rintro e we ⟨rfl, A5, n5, c5, hB5, hR5, hA5, hC5⟩
              have CE := Lib.hid (show PeerAt we (confP { chanP P q2.2.1 q2.2.2 with silent := 0 } wants) { s with oN := m, lA := A5, lN := n5, lC := c5 } ∧ Chg (fun q => s.fp q) w we ∧ w.heap.size ≤ we.heap.size ∧ blkOf A5 = blkOf s.lA from ⟨CD.out.1.confStep hB5 hR5 hC5, CD.out.2.trans hC5 (fun q hq => .inl (.inl hq)), Nat.le_trans CD.out.2.size hC5.size, hA5⟩)
              have RE := Lib.hid (show Row we 121 6 A3 n3 c3 (cmdsV (tkRow (rdOf pl))) from RDD.out.keep fun q hq => hC5.block q (RDD.out.lt hq) (fun e => by have := RW9.out.2 q hq; have := (H.out.1.peers.at_ k P s H.out.2.1).blk.lt; omega))
              clear hB5 hR5 hA5 hC5 HCF RDD
              have y9 : we.cell? ⟨s.b, 9, none⟩ = some (.int .i64 P.accepted) := CE.out.1.blk.cell 9
              have g9 : we.frozen? ⟨s.b, 9, none⟩ = false := CE.out.1.blk.frozen 9
              have ls9 : s.b < we.heap.size := CE.out.1.blk.lt
              have z7 : we.cell? ⟨s.b, 7, none⟩ = some (.pointer (some ⟨s.ib, 0, none⟩)) := CE.out.1.blk.cell 7
              have y6 : we.cell? ⟨b, 6, none⟩ = some (.int .i64 V.tick) := (CE.out.2.1.cellF (p := ⟨b, 6, none⟩) lb (fun hF => Nat.lt_irrefl _ (H.out.1.hiP k P s H.out.2.1 b hF))).trans (H.out.1.blk.cell 6)
              have vi : IntKind.i64.wrap (tick : Int) = (tick : Int) := by have := W.out.2.2.2; simp [IntKind.wrap, IntKind.bits, IntKind.signed]; omega
              by_cases c1 : tick = 4294967295
              · have d1 : ((tick : Int) != 4294967295) = false := by rw [c1]; rfl
                have hacc : tkAcc V.tick tick P.accepted = P.accepted := by unfold tkAcc; rw [if_neg (fun hh => hh.1 c1)]
                have QQ := Lib.hid c1
                clear c1
                have PF := Lib.hid (show PeerAt we { confP { chanP P q2.2.1 q2.2.2 with silent := 0 } wants with accepted := P.accepted } { s with oN := m, lA := A5, lN := n5, lC := c5 } ∧ Chg (fun q => s.fp q) w we ∧ w.heap.size ≤ (we).heap.size from ⟨CE.out.1, CE.out.2.1, CE.out.2.2.1⟩)
                have hI := PF.out.1.inkAt H.out.2.2.queue
                have RF : Row we 121 6 A3 n3 c3 (cmdsV (tkRow (rdOf pl))) := RE.out.keep fun q hq => rfl
                have hnl : n3 ≤ 100000 := by have e1 := RF.1; rw [cmdsV_length] at e1; have := tkRow_len (rdOf pl); omega
                have HOF := Lib.hid (bktOffer s.ib P.tokens (P.last : Nat) P.queue (tkRow (rdOf pl)) s.qA A3 s.qC n3 c3 we hI.1 (RF.reads (by decide)) (fun _ q hq => by
                  have hq2 := RW9.out.2 q hq
                  have h1 := H.out.1.peers.at_ k P s H.out.2.1
                  exact ⟨fun e => by have := h1.lt (q := s.ib) (.inr (.inl rfl)); omega, fun e => by have := h1.queue.lt e; omega⟩) hnl)
                have z7 : (we).cell? ⟨s.b, 7, none⟩ = some (.pointer (some ⟨s.ib, 0, none⟩)) := PF.out.1.blk.cell 7
                have HAC := Lib.hid hacc
                clear hI RF hnl hacc
                go_wp2_with fail
                refine HOF.out.mono ?_
                rintro e wz ⟨rfl, A7, c7, hI7, hf7, hc7⟩
                have E9 := Lib.hid (show _ ∧ _ ∧ _ from ⟨hI7, hf7, hc7⟩)
                clear hI7 hf7 hc7
                go_wp2
                go_ret
                refine ⟨congrArg (fun z => Ending.returned (.int .i64 z)) COZ.out.symm, ?_⟩
                have e9 : tkDo V.tick P (rdOf pl) = offP { confP { chanP P q2.2.1 q2.2.2 with silent := 0 } wants with accepted := P.accepted } (offerF (P.last : Nat) P.queue (tkRow (rdOf pl))) := by
                  unfold tkDo tkOff
                  rw [HQ2.out, show tkWants (rdOf pl) = wants from W.out.1, show tkTick (rdOf pl) = tick from W.out.2.1, HAC.out]; rfl
                rw [DO.out, e9]
                exact H.out.1.peerStep H.out.2.1 (PF.out.2.1.trans E9.out.2.2 (fun q hq => .inl (hq.elim (fun e => .inr (.inl e)) (fun e => .inr (.inr (.inr (.inr e))))))) (PF.out.1.offStep E9.out.1 (tkOff_last P (rdOf pl)) E9.out.2.2) rfl (fun q hq => by
                  rcases hq with e | e | e | e | e
                  · exact .inl (.inl e)
                  · exact .inl (.inr (.inl e))
                  · exact .inl (.inr (.inr (.inl e)))
                  · exact .inl (.inr (.inr (.inr (.inl (CE.out.2.2.2 ▸ e)))))
                  · exact (E9.out.2.1 q e).elim (fun e => .inl (.inr (.inr (.inr (.inr e))))) (fun e => .inr (Nat.le_trans PF.out.2.2 e)))
              · have d1 : ((tick : Int) != 4294967295) = true := by simpa using (show (tick : Int) ≠ 4294967295 by omega)
                by_cases c2 : P.accepted < (tick : Int)
                · have d2 : decide (P.accepted < (tick : Int)) = true := decide_eq_true c2
                  by_cases c3 : (tick : Int) ≤ V.tick
                  · have d3 : decide ((tick : Int) ≤ V.tick) = true := decide_eq_true c3
                    have hacc : tkAcc V.tick tick P.accepted = (tick : Nat) := by unfold tkAcc; rw [if_pos ⟨c1, c2, c3⟩]
                    have QQ := Lib.hid (show _ ∧ _ ∧ _ from ⟨c1, c2, c3⟩)
                    clear c1 c2 c3
                    have PF := Lib.hid (show PeerAt (we.setCell ⟨s.b, 9, none⟩ (.int .i64 (tick : Nat))) { confP { chanP P q2.2.1 q2.2.2 with silent := 0 } wants with accepted := (tick : Nat) } { s with oN := m, lA := A5, lN := n5, lC := c5 } ∧ Chg (fun q => s.fp q) w (we.setCell ⟨s.b, 9, none⟩ (.int .i64 (tick : Nat))) ∧ w.heap.size ≤ ((we.setCell ⟨s.b, 9, none⟩ (.int .i64 (tick : Nat)))).heap.size from ⟨CE.out.1.ownStep (CE.out.1.blk.set_ 9 _) (Chg.setCell (F := fun q => q = s.b) Chg.refl (p := ⟨s.b, 9, none⟩) (.inl rfl) _) rfl rfl rfl rfl rfl, CE.out.2.1.setCell (p := ⟨s.b, 9, none⟩) (.inl (.inl rfl)) _, by simpa [World.setCell] using CE.out.2.2.1⟩)
                    have hI := PF.out.1.inkAt H.out.2.2.queue
                    have RF : Row (we.setCell ⟨s.b, 9, none⟩ (.int .i64 (tick : Nat))) 121 6 A3 n3 c3 (cmdsV (tkRow (rdOf pl))) := RE.out.keep fun q hq => Below.heap_setCell _ _ _ q (fun e => by have e2 : q = s.b := e; have := RW9.out.2 q hq; have := (H.out.1.peers.at_ k P s H.out.2.1).blk.lt; omega)
                    have hnl : n3 ≤ 100000 := by have e1 := RF.1; rw [cmdsV_length] at e1; have := tkRow_len (rdOf pl); omega
                    have HOF := Lib.hid (bktOffer s.ib P.tokens (P.last : Nat) P.queue (tkRow (rdOf pl)) s.qA A3 s.qC n3 c3 (we.setCell ⟨s.b, 9, none⟩ (.int .i64 (tick : Nat))) hI.1 (RF.reads (by decide)) (fun _ q hq => by
                      have hq2 := RW9.out.2 q hq
                      have h1 := H.out.1.peers.at_ k P s H.out.2.1
                      exact ⟨fun e => by have := h1.lt (q := s.ib) (.inr (.inl rfl)); omega, fun e => by have := h1.queue.lt e; omega⟩) hnl)
                    have z7 : ((we.setCell ⟨s.b, 9, none⟩ (.int .i64 (tick : Nat)))).cell? ⟨s.b, 7, none⟩ = some (.pointer (some ⟨s.ib, 0, none⟩)) := PF.out.1.blk.cell 7
                    have HAC := Lib.hid hacc
                    clear hI RF hnl hacc
                    go_wp2_with fail
                    refine HOF.out.mono ?_
                    rintro e wz ⟨rfl, A7, c7, hI7, hf7, hc7⟩
                    have E9 := Lib.hid (show _ ∧ _ ∧ _ from ⟨hI7, hf7, hc7⟩)
                    clear hI7 hf7 hc7
                    go_wp2
                    go_ret
                    refine ⟨congrArg (fun z => Ending.returned (.int .i64 z)) COZ.out.symm, ?_⟩
                    have e9 : tkDo V.tick P (rdOf pl) = offP { confP { chanP P q2.2.1 q2.2.2 with silent := 0 } wants with accepted := (tick : Nat) } (offerF (P.last : Nat) P.queue (tkRow (rdOf pl))) := by
                      unfold tkDo tkOff
                      rw [HQ2.out, show tkWants (rdOf pl) = wants from W.out.1, show tkTick (rdOf pl) = tick from W.out.2.1, HAC.out]; rfl
                    rw [DO.out, e9]
                    exact H.out.1.peerStep H.out.2.1 (PF.out.2.1.trans E9.out.2.2 (fun q hq => .inl (hq.elim (fun e => .inr (.inl e)) (fun e => .inr (.inr (.inr (.inr e))))))) (PF.out.1.offStep E9.out.1 (tkOff_last P (rdOf pl)) E9.out.2.2) rfl (fun q hq => by
                      rcases hq with e | e | e | e | e
                      · exact .inl (.inl e)
                      · exact .inl (.inr (.inl e))
                      · exact .inl (.inr (.inr (.inl e)))
                      · exact .inl (.inr (.inr (.inr (.inl (CE.out.2.2.2 ▸ e)))))
                      · exact (E9.out.2.1 q e).elim (fun e => .inl (.inr (.inr (.inr (.inr e))))) (fun e => .inr (Nat.le_trans PF.out.2.2 e)))
                  · have d3 : decide ((tick : Int) ≤ V.tick) = false := decide_eq_false c3
                    have hacc : tkAcc V.tick tick P.accepted = P.accepted := by unfold tkAcc; rw [if_neg (fun hh => c3 hh.2.2)]
                    have QQ := Lib.hid (show _ ∧ _ ∧ _ from ⟨c1, c2, c3⟩)
                    clear c1 c2 c3
                    have PF := Lib.hid (show PeerAt we { confP { chanP P q2.2.1 q2.2.2 with silent := 0 } wants with accepted := P.accepted } { s with oN := m, lA := A5, lN := n5, lC := c5 } ∧ Chg (fun q => s.fp q) w we ∧ w.heap.size ≤ (we).heap.size from ⟨CE.out.1, CE.out.2.1, CE.out.2.2.1⟩)
                    have hI := PF.out.1.inkAt H.out.2.2.queue
                    have RF : Row we 121 6 A3 n3 c3 (cmdsV (tkRow (rdOf pl))) := RE.out.keep fun q hq => rfl
                    have hnl : n3 ≤ 100000 := by have e1 := RF.1; rw [cmdsV_length] at e1; have := tkRow_len (rdOf pl); omega
                    have HOF := Lib.hid (bktOffer s.ib P.tokens (P.last : Nat) P.queue (tkRow (rdOf pl)) s.qA A3 s.qC n3 c3 we hI.1 (RF.reads (by decide)) (fun _ q hq => by
                      have hq2 := RW9.out.2 q hq
                      have h1 := H.out.1.peers.at_ k P s H.out.2.1
                      exact ⟨fun e => by have := h1.lt (q := s.ib) (.inr (.inl rfl)); omega, fun e => by have := h1.queue.lt e; omega⟩) hnl)
                    have z7 : (we).cell? ⟨s.b, 7, none⟩ = some (.pointer (some ⟨s.ib, 0, none⟩)) := PF.out.1.blk.cell 7
                    have HAC := Lib.hid hacc
                    clear hI RF hnl hacc
                    go_wp2_with fail
                    refine HOF.out.mono ?_
                    rintro e wz ⟨rfl, A7, c7, hI7, hf7, hc7⟩
                    have E9 := Lib.hid (show _ ∧ _ ∧ _ from ⟨hI7, hf7, hc7⟩)
                    clear hI7 hf7 hc7
                    go_wp2
                    go_ret
                    refine ⟨congrArg (fun z => Ending.returned (.int .i64 z)) COZ.out.symm, ?_⟩
                    have e9 : tkDo V.tick P (rdOf pl) = offP { confP { chanP P q2.2.1 q2.2.2 with silent := 0 } wants with accepted := P.accepted } (offerF (P.last : Nat) P.queue (tkRow (rdOf pl))) := by
                      unfold tkDo tkOff
                      rw [HQ2.out, show tkWants (rdOf pl) = wants from W.out.1, show tkTick (rdOf pl) = tick from W.out.2.1, HAC.out]; rfl
                    rw [DO.out, e9]
                    exact H.out.1.peerStep H.out.2.1 (PF.out.2.1.trans E9.out.2.2 (fun q hq => .inl (hq.elim (fun e => .inr (.inl e)) (fun e => .inr (.inr (.inr (.inr e))))))) (PF.out.1.offStep E9.out.1 (tkOff_last P (rdOf pl)) E9.out.2.2) rfl (fun q hq => by
                      rcases hq with e | e | e | e | e
                      · exact .inl (.inl e)
                      · exact .inl (.inr (.inl e))
                      · exact .inl (.inr (.inr (.inl e)))
                      · exact .inl (.inr (.inr (.inr (.inl (CE.out.2.2.2 ▸ e)))))
                      · exact (E9.out.2.1 q e).elim (fun e => .inl (.inr (.inr (.inr (.inr e))))) (fun e => .inr (Nat.le_trans PF.out.2.2 e)))
                · have d2 : decide (P.accepted < (tick : Int)) = false := decide_eq_false c2
                  have hacc : tkAcc V.tick tick P.accepted = P.accepted := by unfold tkAcc; rw [if_neg (fun hh => c2 hh.2.1)]
                  have QQ := Lib.hid (show _ ∧ _ from ⟨c1, c2⟩)
                  clear c1 c2
                  have PF := Lib.hid (show PeerAt we { confP { chanP P q2.2.1 q2.2.2 with silent := 0 } wants with accepted := P.accepted } { s with oN := m, lA := A5, lN := n5, lC := c5 } ∧ Chg (fun q => s.fp q) w we ∧ w.heap.size ≤ (we).heap.size from ⟨CE.out.1, CE.out.2.1, CE.out.2.2.1⟩)
                  have hI := PF.out.1.inkAt H.out.2.2.queue
                  have RF : Row we 121 6 A3 n3 c3 (cmdsV (tkRow (rdOf pl))) := RE.out.keep fun q hq => rfl
                  have hnl : n3 ≤ 100000 := by have e1 := RF.1; rw [cmdsV_length] at e1; have := tkRow_len (rdOf pl); omega
                  have HOF := Lib.hid (bktOffer s.ib P.tokens (P.last : Nat) P.queue (tkRow (rdOf pl)) s.qA A3 s.qC n3 c3 we hI.1 (RF.reads (by decide)) (fun _ q hq => by
                    have hq2 := RW9.out.2 q hq
                    have h1 := H.out.1.peers.at_ k P s H.out.2.1
                    exact ⟨fun e => by have := h1.lt (q := s.ib) (.inr (.inl rfl)); omega, fun e => by have := h1.queue.lt e; omega⟩) hnl)
                  have z7 : (we).cell? ⟨s.b, 7, none⟩ = some (.pointer (some ⟨s.ib, 0, none⟩)) := PF.out.1.blk.cell 7
                  have HAC := Lib.hid hacc
                  clear hI RF hnl hacc
                  go_wp2_with fail
                  refine HOF.out.mono ?_
                  rintro e wz ⟨rfl, A7, c7, hI7, hf7, hc7⟩
                  have E9 := Lib.hid (show _ ∧ _ ∧ _ from ⟨hI7, hf7, hc7⟩)
                  clear hI7 hf7 hc7
                  go_wp2
                  go_ret
                  refine ⟨congrArg (fun z => Ending.returned (.int .i64 z)) COZ.out.symm, ?_⟩
                  have e9 : tkDo V.tick P (rdOf pl) = offP { confP { chanP P q2.2.1 q2.2.2 with silent := 0 } wants with accepted := P.accepted } (offerF (P.last : Nat) P.queue (tkRow (rdOf pl))) := by
                    unfold tkDo tkOff
                    rw [HQ2.out, show tkWants (rdOf pl) = wants from W.out.1, show tkTick (rdOf pl) = tick from W.out.2.1, HAC.out]; rfl
                  rw [DO.out, e9]
                  exact H.out.1.peerStep H.out.2.1 (PF.out.2.1.trans E9.out.2.2 (fun q hq => .inl (hq.elim (fun e => .inr (.inl e)) (fun e => .inr (.inr (.inr (.inr e))))))) (PF.out.1.offStep E9.out.1 (tkOff_last P (rdOf pl)) E9.out.2.2) rfl (fun q hq => by
                    rcases hq with e | e | e | e | e
                    · exact .inl (.inl e)
                    · exact .inl (.inr (.inl e))
                    · exact .inl (.inr (.inr (.inl e)))
                    · exact .inl (.inr (.inr (.inr (.inl (CE.out.2.2.2 ▸ e)))))
                    · exact (E9.out.2.1 q e).elim (fun e => .inl (.inr (.inr (.inr (.inr e))))) (fun e => .inr (Nat.le_trans PF.out.2.2 e)))
            · have t3 : (q2.1 != 0) = true := by simpa using hz
              have hP0 : chanP P q2.2.1 q2.2.2 = P := by
                have e1 := HQ2.out
                unfold tkChan chanTakeF at e1
                split at e1
                · subst e1; exact absurd rfl hz
                · subst e1; rfl
              have HP0 := Lib.hid hP0
              have HZ := Lib.hid hz
              clear hP0 hz
              go_wp2
              go_ret
              refine ⟨congrArg (fun z => Ending.returned (.int .i64 z)) HCO.out.symm, ?_⟩
              have e2 : takeP (keyBV seed k) V.tick P bs = P := by unfold takeP; rw [if_neg (by rw [HCO.out]; exact HZ.out)]
              rw [e2]
              have p1 := PC.out.1
              rw [HP0.out] at p1
              exact H.out.1.peerStep H.out.2.1 PC.out.2 p1 rfl (fun q hq => .inl hq)
  · have t1 : ((openF (keyBV seed k) bs).2 != 0) = true := by simpa using he
    have hcode : tkCode (keyBV seed k) P bs = (openF (keyBV seed k) bs).2 := by unfold tkCode; rw [if_pos he]
    have C := Lib.hid hcode
    have HB1 := Lib.hid hb1
    clear hcode hb1 hr1 hA2
    go_wp2
    go_ret
    exact TakeG.refused H.out.1 H.out.2.1 C.out he HB1.out
end Go.Proofs.YtojbijapdkohlaaGreatDoor
