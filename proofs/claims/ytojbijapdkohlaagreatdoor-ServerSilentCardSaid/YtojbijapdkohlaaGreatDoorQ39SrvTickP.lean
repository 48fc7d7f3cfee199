/- Layer 21: a slot's key. Layer 22: a datagram is made. (Printed by gen_clisend.py.) Layer 21: what a datagram of a player makes of its peer, as a function. Layer 21: steps of one peer. Layer 21: who is silent too long is dropped: the plain side. -/
import Derived.Test.YtojbijapdkohlaaGreatDoorQ01Steps
import Derived.Laws.Bits64b
import Derived.Test.YtojbijapdkohlaaGreatDoorChanSend
import Derived.Test.YtojbijapdkohlaaGreatDoorCmdPut
import Derived.Test.YtojbijapdkohlaaGreatDoorQ32CliNew
import Derived.Test.YtojbijapdkohlaaGreatDoorQ37FrameOpen
import Derived.Test.YtojbijapdkohlaaGreatDoorCliEnter
import Derived.Test.YtojbijapdkohlaaGreatDoorChanTk
import Derived.Test.YtojbijapdkohlaaGreatDoorChanRead
import Derived.Test.YtojbijapdkohlaaGreatDoorCmdTake
import Derived.Test.YtojbijapdkohlaaGreatDoorConfirm
import Derived.Test.YtojbijapdkohlaaGreatDoorOffer
import Derived.Test.YtojbijapdkohlaaGreatDoorQ21SrvBkt
import Derived.Test.YtojbijapdkohlaaGreatDoorSrvTick
import Derived.Test.YtojbijapdkohlaaGreatDoorSrvDropG
import Derived.Test.YtojbijapdkohlaaGreatDoorQ24Chan
set_option linter.unusedSimpArgs false
set_option linter.unusedVariables false
namespace Go.Proofs.YtojbijapdkohlaaGreatDoor
open Go.RowKit
def keyI (seed slot : Int) : Int := bits .xor .u32 (seed % 4294967296) (slot % 4294967296 * 2654435761 % 4294967296)
theorem keyI_range (seed slot : Int) : 0 ≤ keyI seed slot ∧ keyI seed slot < 4294967296 := by
  unfold keyI bits
  simp only
  rw [IntKind.wrap_u32]
  exact ⟨Int.emod_nonneg _ (by omega), Int.emod_lt_of_pos _ (by omega)⟩
theorem keyI_bv (seed slot : Int) : ∃ k : BitVec 32, keyI seed slot = (k.toNat : Int) := by
  obtain ⟨h0, h1⟩ := keyI_range seed slot
  obtain ⟨n, hn⟩ := Int.eq_ofNat_of_zero_le h0
  exact ⟨BitVec.ofNat 32 n, by rw [hn, BitVec.toNat_ofNat]; omega⟩
set_option maxHeartbeats 2000000 in
theorem srvKey (seed slot : Int) (w : World) : Calls Tryz.prog 102 #[.int .u64 seed, .int .i64 slot] w fun e w' => e = .returned (.int .u32 (keyI seed slot)) ∧ w = w' := by
  go_enter Tryz.func102, Tryz.ntmps102
  go_wp2
  go_ret
  exact ⟨by simp [keyI], rfl⟩
end Go.Proofs.YtojbijapdkohlaaGreatDoor
set_option linter.unusedSimpArgs false
set_option linter.unusedVariables false
namespace Go.Proofs.YtojbijapdkohlaaGreatDoor
open Go.RowKit
theorem Row.blk_ {w : World} {e : TypeId} {size n c q : Nat} {A : Option Addr} {xs : List Value} (h : Row w e size A n c xs) (hq : blkOf A = some q) : ∃ cur, Blk w q e cur := by
  rcases h.2.2.2 with ⟨h3, -⟩ | ⟨g', off, cur, h3, h4, -, -⟩
  · rw [h3] at hq; cases hq
  · rw [h3] at hq
    have : g' = q := by simpa [blkOf] using hq
    subst this
    exact ⟨cur, h4⟩
theorem Row.ne_row {w : World} {e e' : TypeId} {size n c size' n' c' q : Nat} {A A' : Option Addr} {xs xs' : List Value} (h : Row w e size A n c xs) (h' : Row w e' size' A' n' c' xs') (hne : e ≠ e') (hq : blkOf A = some q) : blkOf A' ≠ some q := by
  intro hq'
  obtain ⟨cur, h1⟩ := h.blk_ hq
  obtain ⟨cur', h2⟩ := h'.blk_ hq'
  exact Blk.ne_ h1 h2 hne rfl
def bytes8 (l : List Nat) : List UInt8 := l.map UInt8.ofNat
theorem natsV_bytes {l : List Nat} (h : ∀ x ∈ l, x < 256) : natsV l = bytesV (bytes8 l) := by
  unfold natsV bytesV bytes8
  rw [List.map_map]
  refine List.map_congr_left fun x hx => ?_
  have := h x hx
  simp [byteV]
  omega
theorem packB_lt (l : List Bool) : ∀ x ∈ packB l, x < 256 := by
  intro x hx
  unfold packB at hx
  rw [List.mem_map] at hx
  obtain ⟨i, _, rfl⟩ := hx
  exact byteAt_lt l i
def last8 (pl : List CmdV) : List CmdV := pl.drop (pl.length - 8)
def sendBits (h : HdrV) (rx : Int) (ts : List Int) (pl : List CmdV) : List Bool :=
  hdrBits h ++ (bitsN ((rx + 1) % 4294967296).toNat 32 ++ (bitsN (lastI ts % 4294967296).toNat 32 ++ (if pl = [] then bitsN 0 1 else bitsN 1 1 ++ rowBits (last8 pl))))
def keyBV (seed slot : Int) : BitVec 32 := BitVec.ofInt 32 (keyI seed slot)
theorem keyBV_eq (seed slot : Int) : keyI seed slot = ((keyBV seed slot).toNat : Int) := by
  obtain ⟨h0, h1⟩ := keyI_range seed slot
  unfold keyBV
  rw [BitVec.toNat_ofInt]
  omega
theorem cmdsV_drop (l : List CmdV) (k : Nat) : (cmdsV l).drop (k * 6) = cmdsV (l.drop k) := by
  induction l generalizing k with
  | nil => simp [cmdsV]
  | cons a l ih =>
    cases k with
    | zero => simp
    | succ k =>
      have e : (k + 1) * 6 = (cmdCells a).length + k * 6 := by simp [cmdCells]; omega
      simp only [cmdsV, List.flatMap_cons, List.drop_succ_cons] at ih ⊢
      rw [e, List.drop_length_add_append, ih]
theorem cmdPut' (l : List CmdV) (n : Nat) (hn : l.length = n) (hrow : rowB l = true) (hrg : ∀ c ∈ l, CmdRg c) (lb : List Bool) (A : Option Addr) (g : Nat) (A2 : Option Addr) (c2 : Nat) (w0 w : World) (hp : Puts w0 w g A lb) (hl : lb.length ≤ 90000) (hr : Row w 121 6 A2 n c2 (cmdsV l)) :
    Calls Tryz.prog 197 #[.pointer (some ⟨g, 0, none⟩), .slice A2 n c2] w (PutRet w0 w g A (lb ++ rowBits l)) := by
  subst hn
  exact cmdPut l hrow hrg lb A g A2 c2 w0 w hp hl hr
/-- What a datagram that is made is, and makes of a client. -/
def SentRet (v0 v1 v2 v3 v11 v14 v15 v17 v18 v19 : Value) (seed slot : Int) (h : HdrV) (oA : Option Addr) (op : List Nat) (rx : Int) (ts : List Int) (tA : Option Addr) (tn tc : Nat) (pl : List CmdV) (pA : Option Addr) (pn pc b : Nat) (w : World) (e : Ending) (w' : World) : Prop :=
  ∃ (v : Value) (m : Nat) (oA' : Option Addr) (on' oc' : Nat), e = .returned v ∧ w'.ownsRow w.heap.size 5 1 v m (bytesV (wrapF (keyBV seed slot) (bytes8 (packB (sendBits h rx ts pl)))).1) ∧ on' = op.length + 1 ∧
    Blk w' b 182 #[v0, v1, v2, v3, .int .u64 seed, .int .i64 slot, .int .u16 ((h.num + 1) % 65536 : Nat), .bool h.any, .int .u16 (h.ack : Nat), .int .u32 (h.mask : Nat), .slice oA' on' oc', v11, .int .u32 rx, .slice tA tn tc, v14, v15, .slice pA pn pc, v17, v18, v19] ∧ Row w' 95 1 oA' on' oc' (u16V (op ++ [h.num])) ∧ (∀ q, blkOf oA' = some q → blkOf oA = some q ∨ w.heap.size ≤ q) ∧ Chg (fun q => q = b ∨ blkOf oA = some q) w w'
set_option maxRecDepth 100000 in
set_option maxHeartbeats 16000000 in
theorem cliSend (v0 v1 v2 v3 v11 v14 v15 v17 v18 v19 : Value) (seed slot : Int) (h : HdrV) (hk : h.Ok) (oA : Option Addr) (on oc : Nat) (op : List Nat) (rx : Int) (ts : List Int) (tA : Option Addr) (tn tc : Nat) (pl : List CmdV) (pA : Option Addr) (pn pc b : Nat) (w : World)
    (hb : Blk w b 182 #[v0, v1, v2, v3, .int .u64 seed, .int .i64 slot, .int .u16 (h.num : Nat), .bool h.any, .int .u16 (h.ack : Nat), .int .u32 (h.mask : Nat), .slice oA on oc, v11, .int .u32 rx, .slice tA tn tc, v14, v15, .slice pA pn pc, v17, v18, v19]) (hr : Row w 95 1 oA on oc (u16V op)) (ht : Row w 3 1 tA tn tc (intsV ts)) (hp : Row w 121 6 pA pn pc (cmdsV pl))
    (hop : op.length < 64) (htn : tn ≤ 100000) (hpn : pn ≤ 100000) (hrow : pl ≠ [] → rowB (last8 pl) = true) (hrg : ∀ c ∈ pl, CmdRg c) (hrx : 0 ≤ rx ∧ rx < 4294967296) :
    Calls Tryz.prog 134 #[.pointer (some ⟨b, 0, none⟩)] w (SentRet v0 v1 v2 v3 v11 v14 v15 v17 v18 v19 seed slot h oA op rx ts tA tn tc pl pA pn pc b w) := by
  have hpl : pl.length = pn := by have := hp.1; rw [cmdsV_length] at this; omega
  have lb := hb.lt
  have hg : Blk (w.alloc (.cells #[.slice none 0 0, .int .i64 0] 240)) w.heap.size 240 #[.slice none 0 0, .int .i64 0] := Blk.new _ _ _
  have HB := Lib.hid (hb.alloc (.cells #[.slice none 0 0, .int .i64 0] 240))
  have HR := Lib.hid (hr.keep (w' := (w.alloc (.cells #[.slice none 0 0, .int .i64 0] 240))) (fun q hq => Below.heap_alloc w _ q (hr.lt hq)))
  have HT := Lib.hid (ht.keep (w' := (w.alloc (.cells #[.slice none 0 0, .int .i64 0] 240))) (fun q hq => Below.heap_alloc w _ q (ht.lt hq)))
  have HP := Lib.hid (hp.keep (w' := (w.alloc (.cells #[.slice none 0 0, .int .i64 0] 240))) (fun q hq => Below.heap_alloc w _ q (hp.lt hq)))
  have HG := Lib.hid hg
  have HC := Lib.hid (Chg.alloc (F := fun q => q = b ∨ blkOf oA = some q) (Chg.refl (w := w)) (.cells #[.slice none 0 0, .int .i64 0] 240))
  have HO := Lib.hid (fun q (hq : blkOf oA = some q) => hr.lt hq)
  have HROW := Lib.hid hrow
  have HRG := Lib.hid hrg
  have HPL := Lib.hid hpl
  clear hb hr ht hp hg hrow hrg hpl
  go_enter Tryz.func134, Tryz.ntmps134
  go_wp2_with fail
  refine (chanSend b 182 _ h hk op oA on oc _ HB.out (by decide) (by decide) rfl rfl rfl rfl rfl HR.out hop).mono ?_
  rintro e w1 ⟨rfl, A3, n2, c3, hn2, b1, r1, pv1, ch1⟩
  simp only [List.setIfInBounds_toArray, List.set_cons_succ, List.set_cons_zero] at b1
  have gb : w.heap.size ≠ b := by omega
  have g1 := HG.out.turn ch1 (fun hh => hh.elim gb (fun hh => by have := HO.out _ hh; omega))
  have t1 := HT.out.keep (w' := w1) (fun q hq => ch1.block q (HT.out.lt hq) (fun hh => hh.elim (fun e => by subst e; exact HT.out.ne_blk HB.out (by decide) _ hq rfl) (fun e => HT.out.ne_row HR.out (by decide) hq e)))
  have p1 := HP.out.keep (w' := w1) (fun q hq => ch1.block q (HP.out.lt hq) (fun hh => hh.elim (fun e => by subst e; exact HP.out.ne_blk HB.out (by decide) _ hq rfl) (fun e => HP.out.ne_row HR.out (by decide) hq e)))
  have c1 : Chg (fun q => q = b ∨ blkOf oA = some q) w w1 := HC.out.trans ch1 (fun q hq => .inl hq)
  have pv : ∀ q, blkOf A3 = some q → blkOf oA = some q ∨ w.heap.size ≤ q := fun q hq => (pv1 q hq).elim .inl (fun hh => by simp at hh; exact .inr (by omega))
  have lg1 := g1.lt
  have lb1 := b1.lt
  have PU1 := Lib.hid (Puts.start (w := w1) (g := w.heap.size) (A := none) (l := []) ⟨⟨0, g1, Row.nil_⟩⟩)
  have HB1 := Lib.hid b1
  have HR1 := Lib.hid r1
  have HT1 := Lib.hid t1
  have HP1 := Lib.hid p1
  have HC1 := Lib.hid c1
  have HPV := Lib.hid pv
  have HN2 := Lib.hid hn2
  clear HB HR HT HP HG HC b1 r1 t1 p1 c1 pv pv1 ch1 g1 hn2
  go_wp2_with fail
  refine (chanPut h hk [] none w.heap.size w1 _ PU1.out (by simp) (fun q hq => by cases hq) lg1).mono ?_
  rintro e w2 ⟨rfl, p2, s2, o2⟩
  rw [List.nil_append] at p2
  have PU2 := Lib.hid p2
  have HB2 := Lib.hid (o2 _ _ _ (by decide) (by decide) HB1.out)
  have HT2 := Lib.hid (HT1.out.others o2 (by decide) (by decide))
  have OT2 := Lib.hid o2
  have rx2 := HB2.out.cell 12
  simp only [List.getElem?_toArray, List.getElem?_cons_zero, List.getElem?_cons_succ] at rx2
  have lb2 := HB2.out.lt
  have hx65 := hdrBits_length h
  clear p2 o2
  go_wp2_with fail
  refine (recWants b 12 rx w2 rx2).mono ?_
  rintro e w3 ⟨rfl, rfl⟩
  go_wp2_with fail
  refine (bitsPutI (hdrBits h) none w.heap.size ((rx + 1) % 4294967296).toNat 32 _ _ w1 _ PU2.out (by omega) (by rfl) (by omega) (by omega) (by omega)).mono ?_
  rintro e w3 ⟨rfl, p3, s3, o3⟩
  have PU3 := Lib.hid p3
  have HB3 := Lib.hid (o3 _ _ _ (by decide) (by decide) HB2.out)
  have HT3 := Lib.hid (HT2.out.others o3 (by decide) (by decide))
  have OT3 := Lib.hid (OT2.out.trans o3)
  have z13 : w3.cell? ⟨b, 13, none⟩ = some (.slice tA tn tc) := HB3.out.cell 13
  have lb3 := HB3.out.lt
  clear p3 o3 rx2
  go_wp2_with fail
  refine (ringLast ts b 13 tA tn tc w3 z13 (HT3.out.reads (by decide)) htn).mono ?_
  rintro e w4 ⟨rfl, hb4⟩
  have PU4 := Lib.hid (PU3.out.below hb4)
  have HB4 := Lib.hid (HB3.out.below hb4 lb3)
  have OT4 := Lib.hid (OT3.out.trans (fun b t cs _ _ hb => hb.below hb4 hb.lt))
  have s4 := hb4.size
  obtain ⟨lt, hlt⟩ : ∃ lt, (lastI ts % 4294967296).toNat = lt := ⟨_, rfl⟩
  have hlt2 : lastI ts % 4294967296 = (lt : Int) := by rw [← hlt]; omega
  have hlt3 : lt < 4294967296 := by omega
  have HLT := Lib.hid hlt
  obtain ⟨lx, hlx⟩ : ∃ lx, lastI ts = lx := ⟨_, rfl⟩
  rw [hlx] at hlt2 ⊢
  clear hb4 z13 hlt hlx
  go_wp2_with fail
  refine (bitsPutI _ none w.heap.size lt 32 _ _ w1 _ PU4.out (by first | omega | (rw [IntKind.wrap_u32]; omega)) (by rfl) (by omega) (by omega) (by simp [bitsN_length]; omega)).mono ?_
  rintro e w5 ⟨rfl, p5, s5, o5⟩
  have PU5 := Lib.hid p5
  have HB5 := Lib.hid (o5 _ _ _ (by decide) (by decide) HB4.out)
  have OT5 := Lib.hid (OT4.out.trans o5)
  have z16 : w5.cell? ⟨b, 16, none⟩ = some (.slice pA pn pc) := HB5.out.cell 16
  have lb5 := HB5.out.lt
  have HP5 := Lib.hid (HP1.out.others OT5.out (by decide) (by decide))
  clear p5 o5
  obtain ⟨k, hk8⟩ : ∃ k, pn - 8 = k := ⟨_, rfl⟩
  have e1 : (if (pn : Int) - 8 < 0 then 0 else (pn : Int) - 8) = (k : Int) := by split <;> omega
  have e2 : (if (0 : Int) < (pn : Int) - 8 then (pn : Int) - 8 else 0) = (k : Int) := by split <;> omega
  have e3 : (if (pn : Int) < 8 then 0 else (pn : Int) - 8) = (k : Int) := by split <;> omega
  have e4 : (if (8 : Int) < (pn : Int) then (pn : Int) - 8 else 0) = (k : Int) := by split <;> omega
  have e5 : (if pn < 8 then 0 else (pn : Int) - 8) = (k : Int) := by split <;> omega
  have e6 : (if 8 < pn then (pn : Int) - 8 else 0) = (k : Int) := by split <;> omega
  have hkp : k ≤ pn := by omega
  have kcut := fun w => run_cut eltC pA pn pc .i64 k hkp (k : Int) rfl w
  have hnk : pn - k = (last8 pl).length := by unfold last8; rw [List.length_drop, HPL.out]; omega
  rw [hnk] at kcut
  have h9 : Row w5 121 6 (cutA pA pc k 6) (last8 pl).length (pc - k) (cmdsV (last8 pl)) := by
    have := HP5.out.drop hkp
    rw [cmdsV_drop, hnk] at this
    unfold last8
    rw [HPL.out, hk8]
    unfold last8 at this
    rw [HPL.out, hk8] at this
    exact this
  obtain ⟨A9, hA9⟩ : ∃ A9, cutA pA pc k 6 = A9 := ⟨_, rfl⟩
  obtain ⟨c9, hc9⟩ : ∃ c9, pc - k = c9 := ⟨_, rfl⟩
  obtain ⟨l9, hl9⟩ : ∃ l9, last8 pl = l9 := ⟨_, rfl⟩
  rw [hA9, hc9, hl9] at h9
  simp only [hA9, hc9, hl9] at kcut
  obtain ⟨n9, hn9⟩ : ∃ n9, l9.length = n9 := ⟨_, rfl⟩
  rw [hn9] at h9
  simp only [hn9] at kcut
  have HN9 := Lib.hid hn9
  have H9 := Lib.hid h9
  have HL9 := Lib.hid hl9
  have HNK := Lib.hid hnk
  clear h9 hA9 hc9 hl9 hnk hk8 hn9
  go_upto_region 7 with (fail)
  go_cut [4] (fun s4 wx => s4 = .slice A9 n9 c9 ∧ Below w5.heap.size w5 wx)
  case first =>
    refine wp_region_kin' w5.heap.size (by kernel_rfl) (by kernel_rfl) (fun kk => ?_)
    repeat (first | go_big_quiet_step (fail) | quiet_step (fail))
    refine wpQuiet_nil ?_
    rintro wk ⟨⟨wk0, hwk⟩, rfl⟩
    go_wp2_with fail
    go_meet
    exact ⟨rfl, hwk⟩
  case rest =>
    obtain ⟨rfl, hbc⟩ := hcut
    have PU6 := Lib.hid (PU5.out.below hbc)
    have OT6 := Lib.hid (OT5.out.trans (fun b t cs _ _ hb => hb.below hbc hb.lt))
    have R6 := Lib.hid (H9.out.keep (w' := wc) (fun q hq => hbc.block q (H9.out.lt hq)))
    have s6 := hbc.size
    clear hbc kcut e1 e2 e3 e4 e5 e6 z16
    obtain ⟨w6, hw6⟩ : ∃ w6 : World, w6 = wc := ⟨_, rfl⟩
    subst hw6
    have HLBB := Lib.hid lb
    have HGB := Lib.hid gb
    have HPN := Lib.hid hpn
    clear hlt2 hlt3 hx65 s2 s3 s4 s5 s6 lb lb1 lb2 lb3 lb5 gb lg1 htn hop hpn hrx hkp
    go_upto_if 46 with (fail)
    go_cut [] (fun wx => Puts w1 wx w.heap.size none (sendBits h rx ts pl) ∧ Others w1 wx)
    case first =>
      by_cases hpe : pl = []
      · have h90 : n9 = 0 := by rw [← HN9.out, ← HL9.out, hpe]; rfl
        subst h90
        have HPE := Lib.hid hpe
        clear hpe
        go_wp2_with fail
        have hx65 := hdrBits_length h
        refine (bitsPutI _ none w.heap.size 0 1 _ _ w1 _ PU6.out (by rfl) (by rfl) (by omega) (by omega) (by simp [bitsN_length]; omega)).mono ?_
        rintro e w7 ⟨rfl, p7, s7, o7⟩
        have P7 := Lib.hid p7
        have O7 := Lib.hid (OT6.out.trans o7)
        clear p7 o7 hx65 s7
        go_wp2_with fail
        go_meet
        refine ⟨?_, O7.out⟩
        have := P7.out
        unfold sendBits
        rw [if_pos HPE.out, HLT.out]
        simpa only [List.append_assoc] using this
      · have h90 : 0 < n9 := by rw [← HN9.out, ← HL9.out]; unfold last8; rw [List.length_drop]; have := List.length_pos_iff.2 hpe; omega
        obtain ⟨m9, rfl⟩ : ∃ m9, n9 = m9 + 1 := ⟨n9 - 1, by omega⟩
        have hro : rowB l9 = true := by rw [← HL9.out]; exact HROW.out hpe
        have hrl : ∀ c ∈ l9, CmdRg c := by rw [← HL9.out]; intro c hc; exact HRG.out c (List.mem_of_mem_drop hc)
        have HRO := Lib.hid hro
        have HRL := Lib.hid hrl
        have HPE := Lib.hid hpe
        clear hpe h90 hro hrl
        go_wp2_with fail
        have hx65 := hdrBits_length h
        refine (bitsPutI _ none w.heap.size 1 1 _ _ w1 _ PU6.out (by rfl) (by rfl) (by omega) (by omega) (by simp [bitsN_length]; omega)).mono ?_
        rintro e w7 ⟨rfl, p7, s7, o7⟩
        have P7 := Lib.hid p7
        have O7 := Lib.hid (OT6.out.trans o7)
        have R7 := Lib.hid (R6.out.others o7 (by decide) (by decide))
        clear p7 o7 hx65 s7
        go_wp2_with fail
        have hx65 := hdrBits_length h
        refine (cmdPut' l9 (m9 + 1) HN9.out HRO.out HRL.out _ none w.heap.size A9 c9 w1 _ P7.out (by simp [bitsN_length]; omega) R7.out).mono ?_
        rintro e w8 ⟨rfl, p8, s8, o8⟩
        have P8 := Lib.hid p8
        have O8 := Lib.hid (O7.out.trans o8)
        clear p8 o8 hx65 s8
        go_wp2_with fail
        go_meet
        refine ⟨?_, O8.out⟩
        have := P8.out
        unfold sendBits
        rw [if_neg HPE.out, HLT.out, HL9.out]
        simpa only [List.append_assoc] using this
    case rest =>
      obtain ⟨pz, oz⟩ := hcut
      obtain ⟨wz, hwz⟩ : ∃ wz : World, wz = wc := ⟨_, rfl⟩
      subst hwz
      have hx65 := hdrBits_length h
      have hpn := HPN.out
      have hbz := oz _ _ _ (by decide) (by decide) HB1.out
      have z4 : wz.cell? ⟨b, 4, none⟩ = some (.int .u64 seed) := hbz.cell 4
      have z5 : wz.cell? ⟨b, 5, none⟩ = some (.int .i64 slot) := hbz.cell 5
      obtain ⟨LB, hLB⟩ : ∃ LB, sendBits h rx ts pl = LB := ⟨_, rfl⟩
      rw [hLB] at pz
      have hLl : LB.length ≤ 100000 := by
        rw [← hLB]
        unfold sendBits
        simp only [List.length_append, bitsN_length, hx65]
        split
        · simp [bitsN_length]
        · unfold rowBits
          have := flatBits_len (last8 pl)
          have : (last8 pl).length ≤ 8 := by unfold last8; rw [List.length_drop]; omega
          simp only [List.length_append, bitsN_length]
          omega
      have HLB := Lib.hid hLB
      have HPZ := Lib.hid pz
      have HOZ := Lib.hid oz
      have HBZ := Lib.hid hbz
      have lbz := hbz.lt
      have szz := pz.chg.size
      obtain ⟨aw, hw1, -⟩ := pz.at_
      have HBY := Lib.hid (fun W (hW : Below wz.heap.size wz W) => bitsBytes LB aw w.heap.size W (by obtain ⟨⟨cc, q1, q2⟩⟩ := hw1; exact ⟨⟨cc, q1.below hW q1.lt, q2.keep (fun q hq => hW.block q (q2.lt hq))⟩⟩) hLl)
      obtain ⟨kb, hkb⟩ : ∃ kb, keyBV seed slot = kb := ⟨_, rfl⟩
      have hke := keyBV_eq seed slot
      rw [hkb] at hke
      have HKY := Lib.hid (show ∀ W, Calls Tryz.prog 102 #[.int .u64 seed, .int .i64 slot] W fun e w' => e = .returned (.int .u32 (kb.toNat : Int)) ∧ W = w' from fun W => by rw [← hke]; exact srvKey seed slot W)
      obtain ⟨nb, hnb⟩ : ∃ nb, (packB LB).length = nb := ⟨_, rfl⟩
      have hnbl : nb ≤ 100000 := by rw [← hnb, packB_length]; omega
      rw [hnb] at HBY
      have hW := fun W A c (hr : Reads W W.heap.size 1 A nb (bytesV (bytes8 (packB LB)))) => frame_wrap kb (bytes8 (packB LB)) W A nb c hr (by omega)
      unfold u32V at hW
      have HW := Lib.hid hW
      have HNV := Lib.hid (natsV_bytes (packB_lt LB))
      have HKB := Lib.hid hkb
      clear hW hke hkb hnb hx65 hpn szz hLl hLB pz oz hbz hw1 PU1 PU2 PU3 PU4 PU5 PU6 OT2 OT3 OT4 OT5 OT6 HB2 HB3 HB4 HB5 HT2 HT3 HP5 R6 H9 HT1 HP1
      go_upto_region 12 with (fail)
      go_cut [5] (fun s5 wx => ∃ m, wx.ownsRow w.heap.size 5 1 s5 m (bytesV (wrapF kb (bytes8 (packB LB))).1) ∧ Below wz.heap.size wz wx)
      case first =>
        have HLB1 := Lib.hid HC1.out.size
        have swc := HPZ.out.chg.size
        have sw0 := HC1.out.size
        go_region_held3 (fun w' => w'.cell? ⟨b, 4, none⟩ = some (.int .u64 seed) ∧ w'.cell? ⟨b, 5, none⟩ = some (.int .i64 slot)) (with_reducible (first | exact ⟨z4, z5⟩ | exact ⟨zy4, zy5⟩ | exact ⟨zw4, zw5⟩ | go_keep)) (first
          | (go_at_call 102; refine (HKY.out _).mono ?_; rintro e wk ⟨rfl, rfl⟩)
          | (go_at_call 127; refine (HBY.out _ (by repeat (first | with_reducible exact Below.refl _ _ | with_reducible assumption | with_reducible refine Below.drew ?_ | with_reducible refine below_drews ?_ _ | with_reducible refine Below.alloc ?_ (by first | omega | (simp; done) | (simp; omega)) _ | with_reducible refine Below.setCell ?_ (by first | omega | (simp; done) | (simp; omega)) _))).mono ?_; rintro e wy ⟨Ay, cy, rfl, hry, hfy, hby⟩; have zy4 : wy.cell? ⟨b, 4, none⟩ = some (.int .u64 seed) := (hby.cell (p := ⟨b, 4, none⟩) (by first | exact lbz | (simp; omega))).trans z4; have zy5 : wy.cell? ⟨b, 5, none⟩ = some (.int .i64 slot) := (hby.cell (p := ⟨b, 5, none⟩) (by first | exact lbz | (simp; omega))).trans z5; have BY : Below wz.heap.size wz wy := (by refine Below.trans (by repeat (first | with_reducible exact Below.refl _ _ | with_reducible assumption | with_reducible refine Below.drew ?_ | with_reducible refine below_drews ?_ _ | with_reducible refine Below.alloc ?_ (by first | omega | (simp; done) | (simp; omega)) _ | with_reducible refine Below.setCell ?_ (by first | omega | (simp; done) | (simp; omega)) _)) (hby.mono ?_); simp); have RY := Lib.hid hry; have lby : b < wy.heap.size := (by have := BY.size; omega))
          | (go_at_call 126; refine (HW.out _ _ _ (by rw [← HNV.out]; exact RY.out.reads (by decide))).mono ?_; rintro e ww ⟨v, m, rfl, hown, hbw⟩; have BW : Below wz.heap.size wz ww := BY.trans (hbw.mono BY.size); have HOWN := Lib.hid (own_mono hown (Nat.le_trans (Nat.le_trans sw0 swc) BY.size)); have zw4 : ww.cell? ⟨b, 4, none⟩ = some (.int .u64 seed) := (hbw.cell (p := ⟨b, 4, none⟩) lby).trans zy4; have zw5 : ww.cell? ⟨b, 5, none⟩ = some (.int .i64 slot) := (hbw.cell (p := ⟨b, 5, none⟩) lby).trans zy5; clear hown hbw))
        all_goals go_wp2_with fail
        all_goals go_meet
        all_goals exact ⟨m, HOWN.out, BW⟩
      case rest =>
        obtain ⟨m, hown, hbw⟩ := hcut
        have HOWN := Lib.hid hown
        have HBW := Lib.hid hbw
        have HN2' := HN2.out
        clear hown hbw z4 z5 HN2'
        go_wp2
        go_ret
        refine ⟨_, m, A3, n2, c3, rfl, ?_, HN2.out, HBZ.out.below HBW.out HBZ.out.lt, ?_, HPV.out, ?_⟩
        · rw [HKB.out, HLB.out]
          exact HOWN.out
        · have r := HR1.out.others HOZ.out (by decide) (by decide)
          exact r.keep (fun q hq => HBW.out.block q (r.lt hq))
        · have c := HC1.out.trans HPZ.out.chg (fun q hq => by
            rcases hq with hq | hq
            · exact .inr (by omega)
            · cases hq)
          exact c.below HBW.out c.size
end Go.Proofs.YtojbijapdkohlaaGreatDoor
set_option linter.unusedSimpArgs false
set_option linter.unusedVariables false
namespace Go.Proofs.YtojbijapdkohlaaGreatDoor
open Go.RowKit
def natsOf (l : List UInt8) : List Nat := l.map (·.toNat)
theorem natsOf_lt (l : List UInt8) : ∀ x ∈ natsOf l, x < 256 := by
  intro x hx
  unfold natsOf at hx
  obtain ⟨y, _, rfl⟩ := List.mem_map.1 hx
  exact y.toNat_lt
theorem natsV_of (l : List UInt8) : natsV (natsOf l) = bytesV l := by unfold natsV natsOf bytesV; rw [List.map_map]; rfl
theorem natsOf_length (l : List UInt8) : (natsOf l).length = l.length := by simp [natsOf]
def rdOf (l : List UInt8) : RdV := ⟨natsOf l, 0, false⟩
def tkWants (r : RdV) : Nat := ((rdHdr r).take 32).1
def tkTick (r : RdV) : Nat := (((rdHdr r).take 32).2.take 32).1
def tkBit (r : RdV) : Nat × RdV := (((rdHdr r).take 32).2.take 32).2.take 1
def tkFlag (r : RdV) : Bool := decide ((tkBit r).1 = 1) && hdrGood r
def tkRow (r : RdV) : List CmdV := if tkFlag r = true then cmdRead (tkBit r).2 else []
def tkOk (r : RdV) : Bool := if tkFlag r = true then cmdGood (tkBit r).2 else hdrGood r
def tkEnd (r : RdV) : RdV := if tkFlag r = true then (cmdAll (tkBit r).2).r else (tkBit r).2
def tkGood (r : RdV) : Bool := tkOk r && (tkEnd r).done
def tkAcc (vt : Int) (t : Nat) (acc : Int) : Int := if t ≠ 4294967295 ∧ acc < (t : Int) ∧ (t : Int) ≤ vt then (t : Int) else acc
def winOf (P : PeerV) : WinV := ⟨P.any, P.ack, P.mask⟩
def tkChan (P : PeerV) (r : RdV) : Int × WinV × List Nat := chanTakeF (winOf P) P.op (hdrRead r)
def tkOff (P : PeerV) (r : RdV) : OffS := offerF (P.last : Nat) P.queue (tkRow r)
def tkDo (vt : Int) (P : PeerV) (r : RdV) : PeerV :=
  { P with
    any := (tkChan P r).2.1.any
    ack := (tkChan P r).2.1.last
    mask := (tkChan P r).2.1.mask
    op := (tkChan P r).2.2
    gone := P.gone + goneN P.gone P.lines.length (tkWants r)
    lines := P.lines.drop (goneN P.gone P.lines.length (tkWants r))
    last := (tkOff P r).last.toNat
    queue := (tkOff P r).queue
    accepted := tkAcc vt (tkTick r) P.accepted
    silent := 0 }
def tkCode (key : BitVec 32) (P : PeerV) (b : List UInt8) : Int :=
  if (openF key b).2 ≠ 0 then (openF key b).2 else if tkGood (rdOf (openF key b).1) = true then (tkChan P (rdOf (openF key b).1)).1 else 2
def takeP (key : BitVec 32) (vt : Int) (P : PeerV) (b : List UInt8) : PeerV := if tkCode key P b = 0 then tkDo vt P (rdOf (openF key b).1) else P
structure PeerOk (K : Nat) (P : PeerV) : Prop where
  num : P.num ≤ 65535
  ack : P.ack ≤ 65535
  mask : P.mask ≤ 4294967295
  op : P.op.length ≤ K
  gone : P.gone ≤ K
  queue : P.queue.length ≤ 32
theorem openF_len (key : BitVec 32) (b : List UInt8) (h : (openF key b).2 = 0) : (openF key b).1.length ≤ 1400 ∧ b.length ≤ 1404 := by
  unfold openF at h ⊢
  split
  · rename_i h1; rw [if_pos h1] at h; cases h
  · rename_i h1
    rw [if_neg h1] at h
    split
    · rename_i h2; rw [if_pos h2] at h; cases h
    · rename_i h2
      rw [if_neg h2] at h
      split
      · simp; omega
      · rename_i h3; rw [if_neg h3] at h; cases h
theorem offStep_last (s : OffS) (x : CmdV) : s.last ≤ (offStep s x).last := by
  unfold offStep
  split
  · rename_i h; exact Int.le_of_lt h.1
  · exact Int.le_refl _
theorem offFold_last (l : List CmdV) (s : OffS) : s.last ≤ (l.foldl offStep s).last := by
  induction l generalizing s with
  | nil => exact Int.le_refl _
  | cons a l ih => exact Int.le_trans (offStep_last s a) (ih _)
theorem offerF_last (last : Int) (q l : List CmdV) : last ≤ (offerF last q l).last := by
  unfold offerF
  split
  · exact offFold_last l ⟨last, q, 0⟩
  · exact Int.le_refl _
theorem tkOff_last (P : PeerV) (r : RdV) : (((tkOff P r).last.toNat : Nat) : Int) = (tkOff P r).last := by
  have h := offerF_last (P.last : Nat) P.queue (tkRow r)
  have : 0 ≤ (tkOff P r).last := Int.le_trans (Int.natCast_nonneg _) h
  omega
theorem offStep_len (s : OffS) (x : CmdV) (h : s.queue.length ≤ 32) : (offStep s x).queue.length ≤ 32 := by
  unfold offStep
  split
  · rename_i h1; simp; omega
  · exact h
theorem offFold_len (l : List CmdV) (s : OffS) (h : s.queue.length ≤ 32) : (l.foldl offStep s).queue.length ≤ 32 := by
  induction l generalizing s with
  | nil => exact h
  | cons a l ih => exact ih _ (offStep_len s a h)
theorem goneN_le (gone len wants : Nat) : goneN gone len wants ≤ len := by
  unfold goneN
  split <;> omega
theorem PeerOk.take {K : Nat} {P : PeerV} (h : PeerOk K P) (hl : P.lines.length ≤ 32) (vt : Int) (r : RdV) : PeerOk (K + 32) (tkDo vt P r) := by
  have hg := goneN_le P.gone P.lines.length (tkWants r)
  have hw : (winOf P).Ok := ⟨h.ack, h.mask⟩
  have hc : (tkChan P r).2.1.Ok ∧ (tkChan P r).2.2.length ≤ K := by
    unfold tkChan chanTakeF
    split
    · exact ⟨takeW_ok hw (hdrRead_ok r).num, Nat.le_trans (List.length_filter_le _ _) h.op⟩
    · exact ⟨hw, h.op⟩
  refine ⟨h.num, hc.1.last, hc.1.mask, Nat.le_trans hc.2 (by omega), ?_, ?_⟩
  · show P.gone + goneN P.gone P.lines.length (tkWants r) ≤ K + 32
    have := h.gone
    omega
  · show (offerF (P.last : Nat) P.queue (tkRow r)).queue.length ≤ 32
    unfold offerF
    split
    · exact offFold_len _ _ h.queue
    · exact h.queue
end Go.Proofs.YtojbijapdkohlaaGreatDoor
set_option linter.unusedSimpArgs false
set_option linter.unusedVariables false
namespace Go.Proofs.YtojbijapdkohlaaGreatDoor
open Go.RowKit
theorem cls_ne {w : World} {q : Nat} {t1 t2 : TypeId} (h1 : clsOf w q = some t1) (h2 : clsOf w q = some t2) (h : t1 ≠ t2) : False := by
  rw [h1] at h2
  exact h (Option.some.inj h2)
/-- One peer turned: what of it lies elsewhere lies in new blocks. -/
theorem SrvAt.peerStepX {w w' : World} {b k : Nat} {seed : Int} {V : WorldV} {x : SrvX} {P P' : PeerV} {s s' : PeerS} (h : SrvAt w b seed V x) (hk : x.ps k = some (P, s)) (hc : Chg (fun q => s.fp q) w w') (hp : PeerAt w' P' s') (hsb : s'.b = s.b) (hfp : ∀ q, s'.fp q → s.fp q ∨ w.heap.size ≤ q) :
    ∃ x' : SrvX, SrvAt w' b seed V x' ∧ x'.S = x.S ∧ x'.hs = x.hs ∧ (∀ i, pvs x'.ps i = if i = k then some P' else pvs x.ps i) ∧ SrvTo b x x' w w' ∧ ∀ i, peerPtr x'.ps i = peerPtr x.ps i := by
  obtain ⟨ps'', hto⟩ := (PeersTo.refl h.peers).stepG k P s s s' P' hk hk hc hp hsb hfp
  refine ⟨{ x with ps := ps'' }, h.told hto, rfl, rfl, fun i => ?_, SrvTo.told hto, fun i => hto.ptr i⟩
  show pvs ps'' i = _
  rw [hto.pvs]
  by_cases hi : i = k
  · subst hi
    rw [if_pos rfl]
    unfold pvs
    rw [hk]
    simp
  · rw [if_neg hi]
    cases pvs x.ps i with
    | none => rfl
    | some y => simp [hi]
theorem SrvAt.peerStep {w w' : World} {b k : Nat} {seed : Int} {V : WorldV} {x : SrvX} {P P' : PeerV} {s s' : PeerS} (h : SrvAt w b seed V x) (hk : x.ps k = some (P, s)) (hc : Chg (fun q => s.fp q) w w') (hp : PeerAt w' P' s') (hsb : s'.b = s.b) (hfp : ∀ q, s'.fp q → s.fp q ∨ w.heap.size ≤ q) :
    ∃ x' : SrvX, SrvAt w' b seed V x' ∧ x'.S = x.S ∧ x'.hs = x.hs ∧ (∀ i, pvs x'.ps i = if i = k then some P' else pvs x.ps i) ∧ SrvTo b x x' w w' := by
  obtain ⟨x', h1, h2, h3, h4, h5, -⟩ := h.peerStepX hk hc hp hsb hfp
  exact ⟨x', h1, h2, h3, h4, h5⟩
def chanP (P : PeerV) (v : WinV) (op : List Nat) : PeerV := { P with any := v.any, ack := v.last, mask := v.mask, op := op }
theorem PeerAt.chanStep {w w' : World} {P : PeerV} {s : PeerS} (h : PeerAt w P s) {v : WinV} {op : List Nat} {m : Nat} (hB : Blk w' s.b 203 ((winCells (peerCells P s) 0 v).setIfInBounds (0 + 4) (.slice s.oA m s.oC)))
    (hR : Row w' 95 1 s.oA m s.oC (u16V op)) (hC : Chg (fun q => q = s.b ∨ blkOf s.oA = some q) w w') : PeerAt w' (chanP P v op) { s with oN := m } := by
  refine ⟨hB, hR, ?_, ?_, ?_, h.l32⟩
  · exact h.lines.keep fun q hq => hC.block q (h.lines.lt hq) fun hF => hF.elim (fun e => cls_ne (h.lines.cls hq) (e ▸ h.blk.cls) (by decide)) (fun e => cls_ne (h.lines.cls hq) (h.op.cls e) (by decide))
  · exact (hC.block _ h.ink.lt fun hF => hF.elim (fun e => cls_ne h.ink.cls (e ▸ h.blk.cls) (by decide)) (fun e => cls_ne h.ink.cls (h.op.cls e) (by decide))).trans h.ink
  · exact h.queue.keep fun q hq => hC.block q (h.queue.lt hq) fun hF => hF.elim (fun e => cls_ne (h.queue.cls hq) (e ▸ h.blk.cls) (by decide)) (fun e => cls_ne (h.queue.cls hq) (h.op.cls e) (by decide))
theorem PeerAt.ownStep {w w' : World} {P P' : PeerV} {s : PeerS} (h : PeerAt w P s) (hB : Blk w' s.b 203 (peerCells P' s)) (hC : Chg (fun q => q = s.b) w w') (h1 : P'.op = P.op) (h2 : P'.lines = P.lines) (h3 : P'.last = P.last) (h4 : P'.tokens = P.tokens) (h5 : P'.queue = P.queue) : PeerAt w' P' s := by
  refine ⟨hB, ?_, ?_, ?_, ?_, by rw [h2]; exact h.l32⟩
  · rw [h1]; exact h.op.keep fun q hq => hC.block q (h.op.lt hq) fun e => cls_ne (h.op.cls hq) (e ▸ h.blk.cls) (by decide)
  · rw [h2]; exact h.lines.keep fun q hq => hC.block q (h.lines.lt hq) fun e => cls_ne (h.lines.cls hq) (e ▸ h.blk.cls) (by decide)
  · rw [h3, h4]; exact (hC.block _ h.ink.lt fun e => cls_ne h.ink.cls (e ▸ h.blk.cls) (by decide)).trans h.ink
  · rw [h5]; exact h.queue.keep fun q hq => hC.block q (h.queue.lt hq) fun e => cls_ne (h.queue.cls hq) (e ▸ h.blk.cls) (by decide)
def confP (P : PeerV) (wants : Nat) : PeerV := { P with gone := P.gone + goneN P.gone P.lines.length wants, lines := P.lines.drop (goneN P.gone P.lines.length wants) }
theorem PeerAt.confStep {w w' : World} {P : PeerV} {s : PeerS} (h : PeerAt w P s) {wants n' c' : Nat} {A' : Option Addr} (hB : Blk w' s.b 203 (((peerCells P s).setIfInBounds (5 + 1) (.slice A' n' c')).setIfInBounds 5 (.int .u32 ((P.gone + goneN P.gone P.lines.length wants : Nat) : Int))))
    (hR : Row w' 9 1 A' n' c' (strsV (P.lines.drop (goneN P.gone P.lines.length wants)))) (hC : Chg (fun q => q = s.b) w w') : PeerAt w' (confP P wants) { s with lA := A', lN := n', lC := c' } := by
  refine ⟨hB, ?_, hR, ?_, ?_, ?_⟩
  · exact h.op.keep fun q hq => hC.block q (h.op.lt hq) fun e => cls_ne (h.op.cls hq) (e ▸ h.blk.cls) (by decide)
  · exact (hC.block _ h.ink.lt fun e => cls_ne h.ink.cls (e ▸ h.blk.cls) (by decide)).trans h.ink
  · exact h.queue.keep fun q hq => hC.block q (h.queue.lt hq) fun e => cls_ne (h.queue.cls hq) (e ▸ h.blk.cls) (by decide)
  · show (P.lines.drop _).length ≤ 32
    have := h.l32
    simp; omega
theorem PeerAt.inkAt {w : World} {P : PeerV} {s : PeerS} (h : PeerAt w P s) (h32 : P.queue.length ≤ 32) : InkAt w s.ib P.tokens ⟨(P.last : Nat), P.queue, 0⟩ s.qA s.qC ∧ s.qN = P.queue.length := by
  have e : s.qN = P.queue.length := by have := h.queue.1; rw [cmdsV_length] at this; omega
  have h1 := h.ink
  have h2 := h.queue
  rw [e] at h1 h2
  exact ⟨⟨h1, h2, h32⟩, e⟩
def offP (P : PeerV) (S : OffS) : PeerV := { P with last := S.last.toNat, queue := S.queue }
theorem PeerAt.offStep {w w' : World} {P : PeerV} {s : PeerS} (h : PeerAt w P s) {S : OffS} {A' : Option Addr} {c' : Nat} (hI : InkAt w' s.ib P.tokens S A' c') (h0 : ((S.last.toNat : Nat) : Int) = S.last) (hC : Chg (fun q => q = s.ib ∨ blkOf s.qA = some q) w w') : PeerAt w' (offP P S) { s with qA := A', qN := S.queue.length, qC := c' } := by
  refine ⟨?_, ?_, ?_, ?_, hI.row, h.l32⟩
  · exact (hC.block _ h.blk.lt fun hF => hF.elim (fun e => cls_ne h.blk.cls (e ▸ h.ink.cls) (by decide)) (fun e => cls_ne h.blk.cls (h.queue.cls e) (by decide))).trans h.blk
  · exact h.op.keep fun q hq => hC.block q (h.op.lt hq) fun hF => hF.elim (fun e => cls_ne (h.op.cls hq) (e ▸ h.ink.cls) (by decide)) (fun e => cls_ne (h.op.cls hq) (h.queue.cls e) (by decide))
  · exact h.lines.keep fun q hq => hC.block q (h.lines.lt hq) fun hF => hF.elim (fun e => cls_ne (h.lines.cls hq) (e ▸ h.ink.cls) (by decide)) (fun e => cls_ne (h.lines.cls hq) (h.queue.cls e) (by decide))
  · show Blk w' s.ib _ #[.int .u32 ((S.last.toNat : Nat) : Int), .slice A' S.queue.length c', .int .i64 P.tokens]
    rw [h0]
    exact hI.blk
theorem tkRow_len (r : RdV) : (tkRow r).length ≤ 100 := by
  unfold tkRow
  split
  · unfold cmdRead readS
    split
    · rename_i h
      unfold goodS at h
      have hb : (cmdAll (tkBit r).2).bad = false := by
        cases hb : (cmdAll (tkBit r).2).bad
        · rfl
        · rw [hb] at h; simp at h
      have e := cmdN_len (first := (((tkBit r).2.take 3).2.take 32).1) (r := (((tkBit r).2.take 3).2.take 32).2) (k := ((tkBit r).2.take 3).1 + 1) hb
      have h8 := RdV.take_lt (tkBit r).2 3
      show (cmdAll (tkBit r).2).l.length ≤ 100
      unfold cmdAll
      rw [e]
      omega
    · simp
  · simp
end Go.Proofs.YtojbijapdkohlaaGreatDoor
set_option linter.unusedSimpArgs false
set_option linter.unusedVariables false
namespace Go.Proofs.YtojbijapdkohlaaGreatDoor
open Go.RowKit
/-- Those in the world: players of the slots that are taken, and balls. -/
structure OkN (T : Nat → Bool) (q : List (Int × Int)) : Prop where
  nd : (q.map (·.1)).Nodup
  of_ : ∀ p ∈ q, (p.2 = 1 ∧ ∃ k : Nat, 1 ≤ k ∧ k ≤ 8 ∧ p.1 = (k : Int) ∧ T k = true) ∨ (p.2 = 2 ∧ 9 ≤ p.1)
  has : ∀ k : Nat, 1 ≤ k → k ≤ 8 → T k = true → ((k : Int), (1 : Int)) ∈ q
theorem OkN.player {T : Nat → Bool} {l : List EntV} (h : OkN T (keyL l)) (k : Nat) (h1 : 1 ≤ k) (h8 : k ≤ 8) (hk : T k = true) : playerF l (k : Int) ≠ -1 := by
  intro hp
  obtain ⟨e0, he0, hk0⟩ := List.mem_map.1 (h.has k h1 h8 hk)
  simp only [Prod.mk.injEq] at hk0
  unfold playerF at hp
  rcases findF_spec l k with ⟨h2, h3⟩ | ⟨j, e, h2, h3, h4⟩
  · exact h3 e0 he0 hk0.1
  · rw [if_neg (by omega), h2, Int.toNat_natCast, List.getD_eq_getElem?_getD, h3, Option.getD_some] at hp
    rcases h.of_ (e.id, e.kind) (List.mem_map.2 ⟨e, List.mem_of_getElem? h3, rfl⟩) with ⟨h5, -⟩ | ⟨-, h9⟩
    · rw [if_pos h5] at hp
      omega
    · have : 9 ≤ e.id := h9
      omega
theorem OkN.none_ {T : Nat → Bool} {l : List EntV} (h : OkN T (keyL l)) (k : Nat) (h8 : k ≤ 8) (hk : T k = false) : findF l (k : Int) = -1 := by
  rcases findF_spec l k with ⟨h1, -⟩ | ⟨j, e, h1, h2, h3⟩
  · exact h1
  · exfalso
    rcases h.of_ (e.id, e.kind) (List.mem_map.2 ⟨e, List.mem_of_getElem? h2, rfl⟩) with ⟨-, i, i1, i8, hi, hT⟩ | ⟨-, h9⟩
    · have : i = k := by have : e.id = (i : Int) := hi; omega
      rw [this, hk] at hT
      cases hT
    · have : 9 ≤ e.id := h9
      omega
theorem OkN.perm {T : Nat → Bool} {q r : List (Int × Int)} (h : OkN T q) (p : q.Perm r) : OkN T r :=
  ⟨((p.map (·.1)).nodup_iff).1 h.nd, fun x hx => h.of_ x (p.mem_iff.2 hx), fun k h1 h8 hk => p.mem_iff.1 (h.has k h1 h8 hk)⟩
theorem OkN.off {T : Nat → Bool} {q : List (Int × Int)} {k : Nat} (h : OkN T (((k : Int), (1 : Int)) :: q)) (h1 : 1 ≤ k) (h8 : k ≤ 8) : OkN (setT T k false) q := by
  have hnd := h.nd
  rw [List.map_cons, List.nodup_cons] at hnd
  refine ⟨hnd.2, fun p hp => ?_, fun j j1 j8 hj => ?_⟩
  · rcases h.of_ p (List.mem_cons_of_mem _ hp) with ⟨a, j, j1, j8, hj, hT⟩ | h9
    · refine .inl ⟨a, j, j1, j8, hj, ?_⟩
      unfold setT
      rw [if_neg (fun e => hnd.1 (List.mem_map.2 ⟨p, hp, by rw [hj, e]⟩))]
      exact hT
    · exact .inr h9
  · unfold setT at hj
    split at hj
    · cases hj
    · rename_i hne
      rcases List.mem_cons.1 (h.has j j1 j8 hj) with e | e
      · simp only [Prod.mk.injEq] at e
        omega
      · exact e
theorem OkN.leave {T : Nat → Bool} {l : List EntV} (h : OkN T (keyL l)) (k : Nat) (h1 : 1 ≤ k) (h8 : k ≤ 8) (hk : T k = true) : OkN (setT T k false) (keyL (leaveL l (k : Int))) := by
  have hp := h.player k h1 h8 hk
  rcases playerF_spec l (k : Int) with h2 | ⟨j, e, h2, h3, h4, h5⟩
  · exact absurd h2 hp
  · unfold leaveL
    rw [if_neg hp, h2, Int.toNat_natCast]
    have := keyL_leave l j e h3
    rw [h4, h5] at this
    exact (h.perm this).off h1 h8
theorem OkN.congr {T T' : Nat → Bool} {q : List (Int × Int)} (h : OkN T q) (e : ∀ k, 1 ≤ k → k ≤ 8 → T' k = T k) : OkN T' q :=
  ⟨h.nd, fun p hp => (h.of_ p hp).imp (fun ⟨a, j, j1, j8, hj, hT⟩ => ⟨a, j, j1, j8, hj, by rw [e j j1 j8]; exact hT⟩) id, fun k h1 h8 hk => h.has k h1 h8 (by rw [← e k h1 h8]; exact hk)⟩
/-- Who is there, and what the peers hold. -/
structure SilS where
  l : List EntV
  pv : Nat → Option PeerV
def isT (pv : Nat → Option PeerV) (k : Nat) : Bool := (pv k).isSome
def silStep (S : SilS) (k : Nat) : SilS :=
  match S.pv k with
  | none => S
  | some P => if 40 < P.silent + 1 then ⟨leaveL S.l k, fun i => if i = k then none else (S.pv i).map (fun Q => toldP Q (leftLine k))⟩ else ⟨S.l, fun i => if i = k then some (quietP P) else S.pv i⟩
def silN (S : SilS) : Nat → SilS
  | 0 => S
  | k + 1 => silStep (silN S k) k
theorem silStep_ok {S : SilS} {k : Nat} (h : OkN (isT S.pv) (keyL S.l)) (h8 : k ≤ 8) (h0 : S.pv 0 = none) : OkN (isT (silStep S k).pv) (keyL (silStep S k).l) ∧ (silStep S k).pv 0 = none ∧ (silStep S k).l.length ≤ S.l.length := by
  unfold silStep
  cases hp : S.pv k with
  | none => exact ⟨h, h0, Nat.le_refl _⟩
  | some P =>
    have h1 : 1 ≤ k := by rcases Nat.eq_zero_or_pos k with rfl | h1; (rw [h0] at hp; cases hp); exact h1
    have hT : isT S.pv k = true := by unfold isT; rw [hp]; rfl
    simp only
    split
    · refine ⟨(h.leave k h1 h8 hT).congr fun j j1 j8 => ?_, ?_, leave_len _ _⟩
      · unfold isT setT
        by_cases hj : j = k
        · simp [hj]
        · simp [hj]
      · show (if 0 = k then none else _) = none
        rw [if_neg (by omega), h0]; rfl
    · refine ⟨h.congr fun j j1 j8 => ?_, ?_, Nat.le_refl _⟩
      · unfold isT
        by_cases hj : j = k
        · subst hj; simp [hp]
        · simp [hj]
      · show (if 0 = k then some _ else S.pv 0) = none
        rw [if_neg (by omega), h0]
theorem silN_ok {S : SilS} (h : OkN (isT S.pv) (keyL S.l)) (h0 : S.pv 0 = none) : ∀ k, k ≤ 9 → OkN (isT (silN S k).pv) (keyL (silN S k).l) ∧ (silN S k).pv 0 = none ∧ (silN S k).l.length ≤ S.l.length
  | 0, _ => ⟨h, h0, Nat.le_refl _⟩
  | k + 1, hk => by
    obtain ⟨a, b, c⟩ := silN_ok h h0 k (by omega)
    obtain ⟨a2, b2, c2⟩ := silStep_ok (k := k) a (by omega) b
    exact ⟨a2, b2, Nat.le_trans c2 c⟩
theorem silN_okE {S : SilS} (h : ∀ e ∈ S.l, okE e) : ∀ k, ∀ e ∈ (silN S k).l, okE e
  | 0 => h
  | k + 1 => by
    have ih := silN_okE h k
    show ∀ e ∈ (silStep (silN S k) k).l, okE e
    unfold silStep
    split
    · exact ih
    · split
      · exact leave_ok ih
      · exact ih
theorem silN_silent (S : SilS) : ∀ k i P, k ≤ i → (silN S k).pv i = some P → ∃ P0, S.pv i = some P0 ∧ P0.silent = P.silent
  | 0, i, P, _, h => ⟨P, h, rfl⟩
  | k + 1, i, P, hi, h => by
    have ih := silN_silent S k
    have h2 : (silStep (silN S k) k).pv i = some P := h
    unfold silStep at h2
    split at h2
    · exact ih i P (by omega) h2
    · split at h2
      · have h3 : (if i = k then none else ((silN S k).pv i).map (fun Q => toldP Q (leftLine k))) = some P := h2
        rw [if_neg (by omega)] at h3
        obtain ⟨P1, h4, h5⟩ := Option.map_eq_some_iff.1 h3
        obtain ⟨P0, a, c⟩ := ih i P1 (by omega) h4
        exact ⟨P0, a, by rw [c, ← h5]; rfl⟩
      · have h3 : (if i = k then some _ else (silN S k).pv i) = some P := h2
        rw [if_neg (by omega)] at h3
        exact ih i P (by omega) h3
theorem ptr_none {ps : Peers} {k : Nat} (h : peerPtr ps k = .pointer none) : ps k = none := by
  unfold peerPtr at h
  cases hp : ps k with
  | none => rfl
  | some y => rw [hp] at h; cases h
theorem ptr_some {ps : Peers} {k pb : Nat} (h : peerPtr ps k = .pointer (some ⟨pb, 0, none⟩)) : ∃ P s, ps k = some (P, s) ∧ s.b = pb := by
  unfold peerPtr at h
  cases hp : ps k with
  | none => rw [hp] at h; cases h
  | some y =>
    obtain ⟨P, s⟩ := y
    rw [hp] at h
    injection h with h
    injection h with h
    injection h with h
    exact ⟨P, s, rfl, h⟩
end Go.Proofs.YtojbijapdkohlaaGreatDoor
