/- The law ServerSilent: a server between its rounds, and the channel beside it. Layer 21: a new server, told whole; none where the map or the number of balls won't do. Layer 21: a server's world, asked; the list is a copy. (Printed by gen_srvworldg.py out of SrvConn.) Layer 21's laws: awake. -/
import Derived.Test.YtojbijapdkohlaaGreatDoorQ45SilP
import Derived.Test.YtojbijapdkohlaaGreatDoorRChan
import Derived.Test.YtojbijapdkohlaaGreatDoorQ21SrvBkt
import Derived.Test.YtojbijapdkohlaaGreatDoorSrvJoinG
import Derived.Test.YtojbijapdkohlaaGreatDoorRead
import Derived.Test.YtojbijapdkohlaaGreatDoorQ20RingX
import Derived.Test.YtojbijapdkohlaaGreatDoorQ24Chan
set_option linter.unusedSimpArgs false
set_option linter.unusedVariables false
namespace Go.Proofs.YtojbijapdkohlaaGreatDoor
open Go.RowKit
theorem mod_next (i k : Nat) (hk : 1 ≤ k) : (i + 1) % k = if i % k + 1 = k then 0 else i % k + 1 := by
  have h := Nat.div_add_mod i k
  have hl := Nat.mod_lt i hk
  split
  · rename_i he
    have e : i + 1 = k * (i / k) + k := by
      rw [← h] at *
      generalize k * (i / k) = z at *
      omega
    rw [e, Nat.mul_add_mod, Nat.mod_self]
  · rename_i he
    have e : i + 1 = k * (i / k) + (i % k + 1) := by rw [← Nat.add_assoc, h]
    conv => lhs; rw [e]
    rw [Nat.mul_add_mod, Nat.mod_eq_of_lt (by omega)]
theorem silAt_next (k i : Nat) (hk : 1 ≤ k) : silAt k (i + 1) = if k ≤ 40 ∧ (i + 1) % k = 0 then 0 else silAt k i + 1 := by
  unfold silAt
  by_cases h : k ≤ 40
  · rw [if_pos h, if_pos h]
    by_cases h0 : (i + 1) % k = 0
    · rw [if_pos ⟨h, h0⟩, h0]
    · rw [if_neg (fun hh => h0 hh.2)]
      rw [mod_next i k hk] at h0 ⊢
      split at h0
      · exact absurd rfl h0
      · rename_i h1
        rw [if_neg h1]
  · rw [if_neg h, if_neg h, if_neg (fun hh => h hh.1)]
structure SiS (b i sn k s K : Nat) (seed : Int) (ms : MapS) (x : SrvX) (V : WorldV) (w : World) : Prop where
  srv : SrvAt w b seed V x
  ms : x.S.ms = ms
  len : V.l.length ≤ 2
  ok : ∀ e ∈ V.l, okE e
  q : OkN (isT (pvs x.ps)) (keyL V.l)
  tick : V.tick = (i : Int)
  hs : lastI (x.hs.map (·.1)) = (i : Int)
  z3 : ∀ j, 3 ≤ j → pvs x.ps j = none
  p1 : Sil1 i (pvs x.ps 1)
  p2 : Sil2 k i sn s K (pvs x.ps 2)
section
variable {b i sn k s K : Nat} {seed : Int} {ms : MapS} {x x' : SrvX} {V : WorldV} {w w' : World}
theorem SiS.z0 (h : SiS b i sn k s K seed ms x V w) : pvs x.ps 0 = none := by unfold pvs; rw [h.srv.peers.zero]; rfl
theorem SiS.up {K' : Nat} (h : SiS b i sn k s K seed ms x V w) (hk : K ≤ K') : SiS b i sn k s K' seed ms x V w := ⟨h.srv, h.ms, h.len, h.ok, h.q, h.tick, h.hs, h.z3, h.p1, h.p2.imp (fun ⟨a, P, a1, a2, a3, a4, a5⟩ => ⟨a, P, a1, a2, a3, a4, a5.up hk⟩) id⟩
theorem SiS.below (h : SiS b i sn k s K seed ms x V w) (hb : Below w.heap.size w w') : SiS b i sn k s K seed ms x V w' := ⟨h.srv.below hb, h.ms, h.len, h.ok, h.q, h.tick, h.hs, h.z3, h.p1, h.p2⟩
theorem SiS.idle (h : SiS b i sn k s K seed ms x V w) (hi : i ≤ 1000) (hs : s ≤ 1000) : IdleQ x.ps := by
  intro j P sp hj
  have hp : pvs x.ps j = some P := by unfold pvs; rw [hj]; rfl
  rcases Nat.lt_or_ge j 3 with h3 | h3
  · have : j = 0 ∨ j = 1 ∨ j = 2 := by omega
    rcases this with rfl | rfl | rfl
    · rw [h.z0] at hp; cases hp
    · rcases h.p1 with ⟨a, P1, a1, a2, a3⟩ | ⟨a, a1⟩
      · rw [hp] at a1; cases a1
        exact ⟨a2.1, a2.2.1, a2.2.2, by omega, by omega⟩
      · rw [hp] at a1; cases a1
    · rcases h.p2 with ⟨a, P1, a1, a2, a3, -⟩ | ⟨a, a1⟩
      · rw [hp] at a1; cases a1
        exact ⟨a2.1, a2.2.1, a2.2.2, by omega, by omega⟩
      · rw [hp] at a1; cases a1
  · rw [h.z3 j h3] at hp; cases hp
theorem SiS.ticked (h : SiS b i sn k (silAt k i) K seed ms x V w) (hi : i ≤ 1000) (hk : 1 ≤ k)
    (hs : SrvAt w' b seed ⟨(tickF V).map, (tickF V).st, (tickF V).tick, (silN ⟨(tickF V).l, fun i => (pvs x.ps i).map fillP⟩ 9).l⟩ x') (e1 : x'.S.ms = x.S.ms) (e2 : x'.hs = keepH x.hs (tickF V).tick (tickF V).l) (e3 : ∀ i, pvs x'.ps i = (silN ⟨(tickF V).l, fun i => (pvs x.ps i).map fillP⟩ 9).pv i) :
    SiS b (i + 1) sn k (silAt k i + 1) K seed ms x' ⟨(tickF V).map, (tickF V).st, (tickF V).tick, (silN ⟨(tickF V).l, fun i => (pvs x.ps i).map fillP⟩ 9).l⟩ w' := by
  have hok0 : OkN (isT (fun i => (pvs x.ps i).map fillP)) (keyL (tickF V).l) := by
    rw [tick_key V h.ok]
    exact h.q.congr fun j _ _ => by unfold isT; simp
  have hz : ((fun i => (pvs x.ps i).map fillP) : Nat → Option PeerV) 0 = none := by show (pvs x.ps 0).map fillP = none; rw [h.z0]; rfl
  obtain ⟨S0, hS0⟩ : ∃ S0 : SilS, (⟨(tickF V).l, fun i => (pvs x.ps i).map fillP⟩ : SilS) = S0 := ⟨_, rfl⟩
  have hl0 : S0.l = (tickF V).l := by rw [← hS0]
  have hp0 : S0.pv = fun i => (pvs x.ps i).map fillP := by rw [← hS0]
  rw [hS0] at hs e3 ⊢
  rw [← hl0, ← hp0] at hok0
  rw [← hp0] at hz
  have h1 : Sil1 i (S0.pv 1) := by
    rw [hp0]
    rcases h.p1 with ⟨a, P1, a1, a2, a3⟩ | ⟨a, a1⟩
    · exact .inl ⟨a, fillP P1, by simp only [a1]; rfl, idl_fill a2, a3⟩
    · exact .inr ⟨a, by simp only [a1]; rfl⟩
  have h2 : Sil2 k i sn (silAt k i) K (S0.pv 2) := by
    rw [hp0]
    rcases h.p2 with ⟨a, P1, a1, a2, a3, a4, a5⟩ | ⟨a, a1⟩
    · exact .inl ⟨a, fillP P1, by simp only [a1]; rfl, idl_fill a2, a3, a4, ⟨a5.num, a5.ack, a5.mask, a5.op, a5.gone, a5.queue⟩⟩
    · exact .inr ⟨a, by simp only [a1]; rfl⟩
  obtain ⟨q1, q2, q3, q4⟩ := sil_tick (k := k) hz (fun j hj => by rw [hp0]; show (pvs x.ps j).map fillP = none; rw [h.z3 j hj]; rfl) hk h1 h2
  have hpe : pvs x'.ps = (silN S0 9).pv := funext e3
  obtain ⟨r1, r2, r3⟩ := silN_ok hok0 hz 9 (Nat.le_refl _)
  refine ⟨hs, e1.trans h.ms, ?_, ?_, ?_, ?_, ?_, ?_, ?_, ?_⟩
  · show (silN S0 9).l.length ≤ 2
    rw [hl0, tickF_len] at r3
    exact Nat.le_trans r3 h.len
  · exact silN_okE (by rw [hl0]; exact tickF_ok V h.ok) 9
  · rw [hpe]; exact r1
  · show wrap64 (V.tick + 1) = _; rw [h.tick]; unfold wrap64; omega
  · rw [e2, lastI_keep]
    show wrap64 (V.tick + 1) = _
    rw [h.tick]; unfold wrap64; omega
  · intro j hj; rw [hpe]; exact q4 j hj
  · rw [hpe]; exact q1
  · rw [hpe]; exact q2
theorem SiS.taken (h : SiS b i sn k s K seed ms x V w) (hk : k ≤ 40) (hsn : sn ≤ 1000) :
    ∃ P sp, x.ps 2 = some (P, sp) ∧ PeerOk K P ∧ tkCode (keyBV seed ((2 : Nat) : Int)) P (dgBytes seed 2 ⟨sn % 65536, false, 0, 0⟩ 1 4294967295) = 0 ∧
      ∀ x' w', SrvAt w' b seed V x' → x'.S = x.S → x'.hs = x.hs → (∀ i, pvs x'.ps i = if i = 2 then some (takeP (keyBV seed ((2 : Nat) : Int)) V.tick P (dgBytes seed 2 ⟨sn % 65536, false, 0, 0⟩ 1 4294967295)) else pvs x.ps i) → SiS b i (sn + 1) k 0 (K + 32) seed ms x' V w' := by
  rcases h.p2 with ⟨a, P, a1, a2, a3, a4, a5⟩ | ⟨a, -⟩
  · unfold pvs at a1
    cases hx : x.ps 2 with
    | none => rw [hx] at a1; cases a1
    | some y =>
      obtain ⟨P0, sp⟩ := y
      rw [hx] at a1
      simp at a1
      subst a1
      obtain ⟨t1, t2, t3, t4, t5⟩ := sil_take seed V.tick a2 a4 a5 (h.srv.peers.at_ 2 P0 sp hx).l32 hsn
      refine ⟨P0, sp, rfl, a5, t1, fun x' w' e0 e1 e2 e3 => ⟨e0, by rw [e1]; exact h.ms, h.len, h.ok, ?_, h.tick, by rw [e2]; exact h.hs, ?_, ?_, ?_⟩⟩
      · refine h.q.congr fun j _ _ => ?_
        unfold isT
        rw [e3 j]
        by_cases hj : j = 2
        · subst hj; unfold pvs; rw [hx]; rfl
        · rw [if_neg hj]
      · intro j hj; rw [e3 j, if_neg (by omega)]; exact h.z3 j hj
      · rw [e3 1, if_neg (by decide)]; exact h.p1
      · rw [e3 2, if_pos rfl]
        exact .inl ⟨.inl hk, _, rfl, t2, t3, t4, t5⟩
  · exact absurd (.inl hk) a
theorem SrvTo.keepCls (h : SrvAt w b seed V x) (t : SrvTo b x x' w w') {q : Nat} {ty : TypeId} (hq : clsOf w q = some ty) (hn : ty ∉ 165 :: 3 :: peerTs) : w'.heap[q]? = w.heap[q]? :=
  t.chg.block q (clsOf_lt hq) (fun hf => hn (h.fp_cls hf ty hq))
/-- The channel of a reference, new behind base. -/
structure RcAt (base b cb sn : Nat) (w : World) : Prop where
  n : ∃ vl L, Blk w cb 108 #[.int .i64 (sn : Nat), .bool false, .int .u16 0, .int .u32 0, vl] ∧ w.ownsRow base 4 1 vl sn (boolsV L)
  hb : b < cb
  hb2 : b ≤ base
  hsz : base ≤ w.heap.size
theorem RcAt.srv {base cb : Nat} (h : RcAt base b cb sn w) (hs : SrvAt w b seed V x) (t : SrvTo b x x' w w') : RcAt base b cb sn w' := by
  obtain ⟨vl, L, h1, h2⟩ := h.n
  exact ⟨⟨vl, L, (t.keepCls hs h1.cls (by decide)).trans h1, own_keepB h2 (fun q hq => t.keepCls hs (own_block h2 hq) (by decide))⟩, h.hb, h.hb2, Nat.le_trans h.hsz t.chg.size⟩
theorem RcAt.below {base cb : Nat} (h : RcAt base b cb sn w) (hb : Below w.heap.size w w') : RcAt base b cb sn w' := by
  obtain ⟨vl, L, h1, h2⟩ := h.n
  exact ⟨⟨vl, L, h1.below hb h1.lt, own_keepB h2 (fun q hq => hb.block q (clsOf_lt (own_block h2 hq)))⟩, h.hb, h.hb2, Nat.le_trans h.hsz hb.size⟩
/-- A header is sent by the channel; the server beside it stays. -/
theorem RcAt.send {base cb : Nat} (h : RcAt base b cb sn w) (hS : SiS b i sn k s K seed ms x V w) (hsn : sn ≤ 1000) :
    Calls Tryz.prog 51 #[.pointer (some ⟨cb, 0, none⟩)] w fun e w' => e = .returned (.agg #[.int .u16 ((sn % 65536 : Nat) : Int), .bool false, .int .u16 ((0 : Nat) : Int), .int .u32 ((0 : Nat) : Int)]) ∧ RcAt base b cb (sn + 1) w' ∧ SiS b i sn k s K seed ms x V w' ∧ Below b w w' := by
  obtain ⟨vl, L, h1, h2⟩ := h.n
  refine (refSend cb 0 108 _ sn ⟨false, 0, 0⟩ base vl sn L w h1 (by decide) rfl rfl rfl rfl rfl h2 h.hsz (by omega) (by omega)).mono ?_
  rintro e w' ⟨he, vl', L', h3, h4, h5, h6, h7⟩
  have far : ∀ q, clsOf w q ≠ some 108 → clsOf w q ≠ some 4 → q < w.heap.size → w'.heap[q]? = w.heap[q]? := fun q n1 n2 hq => h7.block q hq fun hF => hF.elim (fun e => n1 (e ▸ h1.cls)) (fun e => n2 (own_block h2 e))
  have hlow : ∀ q, q < b → w'.heap[q]? = w.heap[q]? := fun q hq => h7.block q (by have := hS.srv.lt; omega) fun hF => hF.elim (fun e => by have := h.hb; omega) (fun e => by have := (h2.lt q e).1; have := h.hb2; omega)
  refine ⟨he, ⟨⟨vl', L', h6, h4⟩, h.hb, h.hb2, Nat.le_trans h.hsz h7.size⟩, ⟨hS.srv.keep hlow (fun q hq => far q (by rw [hq]; decide) (by rw [hq]; decide) (clsOf_lt hq)) (fun q hq => ?_), hS.ms, hS.len, hS.ok, hS.q, hS.tick, hS.hs, hS.z3, hS.p1, hS.p2⟩, ?_⟩
  · have hc := hS.srv.fp_cls hq
    exact far q (fun e => absurd (hc _ e) (by decide)) (fun e => absurd (hc _ e) (by decide)) (hS.srv.fp_lt hq)
  · exact h7.to_below (Nat.le_of_lt hS.srv.lt) fun q hF => hF.elim (fun e => by have := h.hb; omega) (fun e => by have := (h2.lt q e).1; have := h.hb2; omega)
end
end Go.Proofs.YtojbijapdkohlaaGreatDoor
set_option linter.unusedSimpArgs false
set_option linter.unusedVariables false
namespace Go.Proofs.YtojbijapdkohlaaGreatDoor
open Go.RowKit
set_option maxRecDepth 100000 in
set_option maxHeartbeats 4000000 in
theorem srvNewNo (m : MapV) (s : MapS) (seed balls : Int) (w : World) (h : MapAt w w.heap.size m s) (hno : newOk m balls = false) :
    Calls Tryz.prog 44 #[(.agg #[.int .i64 m.W, .int .i64 m.H, .slice s.A s.n s.c, .slice s.A2 s.n2 s.c2]), .int .u64 seed, .int .i64 balls] w fun e w' => e = .returned (.tuple #[.pointer none, .int .i64 1]) ∧ Below w.heap.size w w' := by
  have HW := Lib.hid (fun W (hW : Below w.heap.size w W) => wNewNo m s seed balls W ((h.below hW).upto hW.size) hno)
  clear h hno
  go_enter Tryz.func44, Tryz.ntmps44
  go_wp2_with fail
  refine (HW.out _ (by repeat (first | with_reducible exact Below.refl _ _ | with_reducible assumption | with_reducible refine Below.drew ?_ | with_reducible refine below_drews ?_ _ | with_reducible refine Below.alloc ?_ (by first | omega | (simp; done) | (simp; omega)) _ | with_reducible refine Below.setCell ?_ (by first | omega | (simp; done) | (simp; omega)) _))).mono ?_
  rintro e w1 ⟨⟨v, S, rfl⟩, hb1⟩
  have HB := Lib.hid ((Below.alloc (Below.refl _ _) (Nat.le_refl _) _).trans (hb1.mono (by simp)) : Below w.heap.size w w1)
  have hs1 := HB.out.size
  clear hb1
  go_wp2
  go_ret2
  have hB := HB.out
  exact ⟨rfl, (by repeat (first | with_reducible exact Below.refl _ _ | with_reducible assumption | with_reducible refine Below.drew ?_ | with_reducible refine below_drews ?_ _ | with_reducible refine Below.alloc ?_ (by first | omega | (simp; done) | (simp; omega)) _ | with_reducible refine Below.setCell ?_ (by first | omega | (simp; done) | (simp; omega)) _))⟩
/-- What New makes. -/
def NewG (V : WorldV) (seed : Int) (w : World) (e : Ending) (w' : World) : Prop :=
  ∃ (b : Nat) (x : SrvX), e = .returned (.tuple #[.pointer (some ⟨b, 0, none⟩), .int .i64 0]) ∧ SrvAt w' b seed V x ∧ x.hs = [(0, V.l)] ∧ (∀ i, x.ps i = none) ∧ w.heap.size ≤ b ∧ Below w.heap.size w w'
set_option maxRecDepth 100000 in
set_option maxHeartbeats 8000000 in
theorem srvNewG (m : MapV) (s : MapS) (seed : Int) (balls : Nat) (V : WorldV) (hV : newF m seed balls = V) (w : World) (h : MapAt w w.heap.size m s) (hf : formedB m = true) (hb : balls ≤ 8) (hn1 : s.n ≤ 100000) (hn2 : s.n2 ≤ 100000) (hn3 : V.l.length ≤ 100) :
    Calls Tryz.prog 44 #[(.agg #[.int .i64 m.W, .int .i64 m.H, .slice s.A s.n s.c, .slice s.A2 s.n2 s.c2]), .int .u64 seed, .int .i64 balls] w (NewG V seed w) := by
  have HW := Lib.hid (fun W (hW : Below w.heap.size w W) => wNewYes m s seed balls W ((h.below hW).upto hW.size) hf hb hn1 hn2)
  rw [hV] at HW
  clear h hf hV
  go_enter Tryz.func44, Tryz.ntmps44
  go_wp2_with fail
  refine (HW.out _ (by repeat (first | with_reducible exact Below.refl _ _ | with_reducible assumption | with_reducible refine Below.drew ?_ | with_reducible refine below_drews ?_ _ | with_reducible refine Below.alloc ?_ (by first | omega | (simp; done) | (simp; omega)) _ | with_reducible refine Below.setCell ?_ (by first | omega | (simp; done) | (simp; omega)) _))).mono ?_
  rintro e w1 ⟨S, rfl, hat, hb1⟩
  have HB := Lib.hid ((Below.alloc (Below.refl _ _) (Nat.le_refl _) _).trans (hb1.mono (by simp)) : Below w.heap.size w w1)
  have HAT := Lib.hid hat
  have hs1 := HB.out.size
  clear hb1 hat
  go_upto_region 5 with (fail)
  obtain ⟨B2, b1, b2⟩ := twoBoxesS w1 #[.int .i64 V.map.W, .int .i64 V.map.H, .slice S.ms.A S.ms.n S.ms.c, .slice S.ms.A2 S.ms.n2 S.ms.c2, .int .u64 V.st, .int .i64 V.tick, .slice S.A S.n S.c] #[.int .u64 seed, .int .i64 V.map.W, .int .i64 V.map.H, .slice S.ms.A S.ms.n S.ms.c, .slice S.ms.A2 S.ms.n2 S.ms.c2, .int .u64 V.st, .int .i64 V.tick, .slice S.A S.n S.c, .slice none 0 0, .map none, .pointer none, .pointer none, .pointer none, .pointer none, .pointer none, .pointer none, .pointer none, .pointer none, .pointer none] 46 165
  generalize ((w1.alloc (.cells #[.int .i64 V.map.W, .int .i64 V.map.H, .slice S.ms.A S.ms.n S.ms.c, .slice S.ms.A2 S.ms.n2 S.ms.c2, .int .u64 V.st, .int .i64 V.tick, .slice S.A S.n S.c] 46)).alloc (.cells #[.int .u64 seed, .int .i64 V.map.W, .int .i64 V.map.H, .slice S.ms.A S.ms.n S.ms.c, .slice S.ms.A2 S.ms.n2 S.ms.c2, .int .u64 V.st, .int .i64 V.tick, .slice S.A S.n S.c, .slice none 0 0, .map none, .pointer none, .pointer none, .pointer none, .pointer none, .pointer none, .pointer none, .pointer none, .pointer none, .pointer none] 165)) = w2 at B2 b1 b2 ⊢
  have hl2 := b2.lt
  have z6 : w2.cell? ⟨w1.heap.size, 6, none⟩ = some (.slice S.A S.n S.c) := b1.cell 6
  have HB2 := Lib.hid B2
  have HS2 := Lib.hid b2
  have hlen := HAT.out.len
  have hA : 0 < S.n → ∀ q, blkOf S.A = some q → q < w1.heap.size := fun h0 q hq => by
    obtain ⟨g, off, hA, hg, -⟩ := HAT.out.l.flat h0 (by decide)
    rw [hA] at hq
    have : g = q := by simpa [blkOf] using hq
    omega
  have HL2 := Lib.hid ((HAT.out.l.below B2).upto B2.size)
  have HA := Lib.hid (show 0 < S.n → ∀ q, blkOf S.A = some q → q ≠ w1.heap.size + 1 ∧ blkOf none ≠ some q ∧ (none : Option Nat) ≠ some q from fun h0 q hq => ⟨by have := hA h0 q hq; omega, by simp [blkOf], by simp⟩)
  clear B2 b1 b2 hA
  go_cut [] (fun wx => ∃ (A3 : Option Addr) (n3 c3 mb : Nat) (ml : List (Int × Value)), Blk wx (w1.heap.size + 1) 165 #[.int .u64 seed, .int .i64 V.map.W, .int .i64 V.map.H, .slice S.ms.A S.ms.n S.ms.c, .slice S.ms.A2 S.ms.n2 S.ms.c2, .int .u64 V.st, .int .i64 V.tick, .slice S.A S.n S.c, .slice A3 n3 c3, .map (some mb), .pointer none, .pointer none, .pointer none, .pointer none, .pointer none, .pointer none, .pointer none, .pointer none, .pointer none] ∧ Chg (fun q => q = w1.heap.size + 1) w2 wx ∧ Row wx 3 1 A3 n3 c3 (intsV [0]) ∧ IMap wx mb ml ∧ PastAt wx ml [(0, V.l)] ∧ (∀ q, blkOf A3 = some q → w2.heap.size ≤ q) ∧ w2.heap.size ≤ mb)
  case first =>
    go_region_held3 (fun w' => w'.cell? ⟨w1.heap.size, 6, none⟩ = some (.slice S.A S.n S.c)) (with_reducible (first | exact z6 | exact z7 | go_keep)) (first | (go_at_call 90; refine (ringPutX (w1.heap.size + 1) 8 165 _ 0 none 0 0 none [] [] V.l S.A S.n S.c _ (by first | exact HS2.out | exact HS2.out.drew) (by decide) rfl rfl Row.nil_ (fun mb h => by cases h) (fun _ => rfl) (PastAt.nil _) (by first | exact HL2.out | exact HL2.out.drew) HA.out (by omega) (by decide) (by decide) (by decide) (by decide)).mono ?_; rintro e w3 ⟨rfl, A3, n3, c3, mb, ml, hb3, hr3, hm3, hp3, hA3, hmb, hch⟩; simp only [List.setIfInBounds_toArray, List.set_cons_succ, List.set_cons_zero] at hb3; have hch : Chg (fun q => q = w1.heap.size + 1) w2 w3 := (⟨hch.os, hch.tape, hch.output, hch.size, fun q hq hn => hch.block q hq (fun h => by rcases h with h | h | h; exact hn h; cases h; cases h)⟩); have z7 : w3.cell? ⟨w1.heap.size, 6, none⟩ = some (.slice S.A S.n S.c) := (hch.cellF (p := ⟨w1.heap.size, 6, none⟩) (by show w1.heap.size < _; first | omega | (simp; omega)) (by show ¬ (w1.heap.size = w1.heap.size + 1); omega)).trans z6; have HX3 := Lib.hid (show _ ∧ _ ∧ _ ∧ _ ∧ _ ∧ _ ∧ _ from ⟨hb3, hch, hr3, hm3, hp3, hA3, hmb⟩); clear hb3 hr3 hm3 hp3 hA3 hmb hch))
    all_goals go_wp2_with fail
    all_goals go_meet
    all_goals
      obtain ⟨y1, y2, y3, y4, y5, y6, y7⟩ := HX3.out
      exact ⟨A3, n3, c3, mb, ml, y1, ⟨y2.os, y2.tape, y2.output, y2.size, y2.block⟩, y3, y4, y5, (fun q hq => (y6 q hq).elim (fun h => by cases h) id), y7.elim (fun h => by cases h) id⟩
  case rest =>
    obtain ⟨A3, n3, c3, mb, ml, hb3, hch, hr3, hm3, hp3, hA3, hmb⟩ := hcut
    have X := Lib.hid (show _ ∧ _ from ⟨hb3, hch⟩)
    have Y := Lib.hid (show _ ∧ _ ∧ _ ∧ _ ∧ _ from ⟨hr3, hm3, hp3, hA3, hmb⟩)
    clear hb3 hch z6 hr3 hm3 hp3 hA3 hmb
    go_wp2
    go_ret2
    have h2 : Below w1.heap.size w2 wc := X.out.2.to_below (by have := HB2.out.size; omega) (fun k hk => by omega)
    have h3 : WorldAt wc (w1.heap.size + 1) V S := (((HAT.out.below HB2.out)).below h2).upto (by omega)
    refine ⟨w1.heap.size + 1, ⟨S, A3, n3, c3, mb, [(0, V.l)], ml, fun _ => none⟩, rfl, ⟨X.out.1, Clear.new h3, Y.out.1, Y.out.2.1, Y.out.2.2.1, ⟨fun i P s h => (nomatch h), rfl, fun _ _ => rfl, fun i j P s P' s' _ h => (nomatch h)⟩, fun q hq => Nat.lt_of_lt_of_le hl2 (Y.out.2.2.2.1 q hq), Nat.lt_of_lt_of_le hl2 Y.out.2.2.2.2, fun i P s h => (nomatch h)⟩, rfl, fun _ => rfl, by omega, ?_⟩
    exact HB.out.trans ((HB2.out.mono hs1).trans (h2.mono hs1))
end Go.Proofs.YtojbijapdkohlaaGreatDoor
set_option linter.unusedSimpArgs false
set_option linter.unusedVariables false
namespace Go.Proofs.YtojbijapdkohlaaGreatDoor
open Go.RowKit
set_option maxRecDepth 100000 in
set_option maxHeartbeats 4000000 in
theorem srvWorldG (V : WorldV) (S : WorldS) (b : Nat) (w : World) (lb : b < w.heap.size) (z0 : w.cell? ⟨b, 1, none⟩ = some (.int .i64 V.map.W)) (z1 : w.cell? ⟨b, 2, none⟩ = some (.int .i64 V.map.H)) (z2 : w.cell? ⟨b, 3, none⟩ = some (.slice S.ms.A S.ms.n S.ms.c)) (z3 : w.cell? ⟨b, 4, none⟩ = some (.slice S.ms.A2 S.ms.n2 S.ms.c2)) (z4 : w.cell? ⟨b, 5, none⟩ = some (.int .u64 V.st)) (z5 : w.cell? ⟨b, 6, none⟩ = some (.int .i64 V.tick)) (z6 : w.cell? ⟨b, 7, none⟩ = some (.slice S.A S.n S.c)) (hl : Reads w w.heap.size 8 S.A S.n (entsV V.l)) (hn : S.n ≤ 100000) :
    Calls Tryz.prog 23 #[.pointer (some ⟨b, 0, none⟩)] w fun e w' => ∃ s' : WorldS, e = .returned (.agg #[.int .i64 V.map.W, .int .i64 V.map.H, .slice s'.ms.A s'.ms.n s'.ms.c, .slice s'.ms.A2 s'.ms.n2 s'.ms.c2, .int .u64 V.st, .int .i64 V.tick, .slice s'.A s'.n s'.c]) ∧ s'.n = S.n ∧ Row w' 55 8 s'.A s'.n s'.c (entsV V.l) ∧ Below w.heap.size w w' := by
  have HX := Lib.hid (twoBoxesS w #[.int .i64 0, .int .i64 0, .slice none 0 0, .slice none 0 0, .int .u64 0, .int .i64 0, .slice none 0 0] #[.int .i64 V.map.W, .int .i64 V.map.H, .slice S.ms.A S.ms.n S.ms.c, .slice S.ms.A2 S.ms.n2 S.ms.c2, .int .u64 V.st, .int .i64 V.tick, .slice S.A S.n S.c] 46 46)
  have HL := Lib.hid (fun W (hW : Below w.heap.size w W) => cloneE V.l W S.A S.n S.c ((hl.below hW).upto hW.size) hn)
  clear hl
  go_enter Tryz.func23, Tryz.ntmps23
  go_wp2_with fail
  obtain ⟨B1, b1, b2⟩ := HX.out
  generalize ((w.alloc (.cells #[.int .i64 0, .int .i64 0, .slice none 0 0, .slice none 0 0, .int .u64 0, .int .i64 0, .slice none 0 0] 46)).alloc (.cells #[.int .i64 V.map.W, .int .i64 V.map.H, .slice S.ms.A S.ms.n S.ms.c, .slice S.ms.A2 S.ms.n2 S.ms.c2, .int .u64 V.st, .int .i64 V.tick, .slice S.A S.n S.c] 46)) = wa at B1 b1 b2 ⊢
  refine (HL.out wa B1).mono ?_
  rintro e w1 ⟨A', c', rfl, hr, hfr, hb1⟩
  have e1 := b1.below hb1 b1.lt
  have e2 := b2.below hb1 b2.lt
  have B2 := Lib.hid (B1.trans (hb1.mono B1.size))
  have l1 := e1.lt
  have l2 := e2.lt
  have x0 : w1.cell? ⟨w.heap.size, 0, none⟩ = some (.int .i64 0) := e1.cell 0
  have x1 : w1.cell? ⟨w.heap.size, 1, none⟩ = some (.int .i64 0) := e1.cell 1
  have x2 : w1.cell? ⟨w.heap.size, 2, none⟩ = some (.slice none 0 0) := e1.cell 2
  have x3 : w1.cell? ⟨w.heap.size, 3, none⟩ = some (.slice none 0 0) := e1.cell 3
  have x4 : w1.cell? ⟨w.heap.size, 4, none⟩ = some (.int .u64 0) := e1.cell 4
  have x5 : w1.cell? ⟨w.heap.size, 5, none⟩ = some (.int .i64 0) := e1.cell 5
  have x6 : w1.cell? ⟨w.heap.size, 6, none⟩ = some (.slice none 0 0) := e1.cell 6
  have y0 : w1.cell? ⟨w.heap.size + 1, 0, none⟩ = some (.int .i64 V.map.W) := e2.cell 0
  have y1 : w1.cell? ⟨w.heap.size + 1, 1, none⟩ = some (.int .i64 V.map.H) := e2.cell 1
  have y2 : w1.cell? ⟨w.heap.size + 1, 2, none⟩ = some (.slice S.ms.A S.ms.n S.ms.c) := e2.cell 2
  have y3 : w1.cell? ⟨w.heap.size + 1, 3, none⟩ = some (.slice S.ms.A2 S.ms.n2 S.ms.c2) := e2.cell 3
  have y4 : w1.cell? ⟨w.heap.size + 1, 4, none⟩ = some (.int .u64 V.st) := e2.cell 4
  have y5 : w1.cell? ⟨w.heap.size + 1, 5, none⟩ = some (.int .i64 V.tick) := e2.cell 5
  have y6 : w1.cell? ⟨w.heap.size + 1, 6, none⟩ = some (.slice S.A S.n S.c) := e2.cell 6
  have q1 : ∀ j, w1.frozen? ⟨w.heap.size, j, none⟩ = false := e1.frozen
  have q2 : ∀ j, w1.frozen? ⟨w.heap.size + 1, j, none⟩ = false := e2.frozen
  have E1 := Lib.hid e1
  have k1 := hr.ne_blkR e1 (by decide)
  have k2 := hr.ne_blkR e2 (by decide)
  have HR := Lib.hid hr
  have K1 := Lib.hid k1
  have K2 := Lib.hid k2
  clear k1 k2
  clear B1 b1 b2 hb1 hr hfr e1 e2 z0 z1 z2 z3 z4 z5 z6
  go_wp2
  have f0 : Blk ((((((((w1.setCell ⟨w.heap.size + 1, 6, none⟩ (.slice A' S.n c')).setCell ⟨w.heap.size, 0, none⟩ (.int .i64 V.map.W)).setCell ⟨w.heap.size, 1, none⟩ (.int .i64 V.map.H)).setCell ⟨w.heap.size, 2, none⟩ (.slice S.ms.A S.ms.n S.ms.c)).setCell ⟨w.heap.size, 3, none⟩ (.slice S.ms.A2 S.ms.n2 S.ms.c2)).setCell ⟨w.heap.size, 4, none⟩ (.int .u64 V.st)).setCell ⟨w.heap.size, 5, none⟩ (.int .i64 V.tick)).setCell ⟨w.heap.size, 6, none⟩ (.slice A' S.n c')) w.heap.size 46 #[.int .i64 V.map.W, .int .i64 V.map.H, .slice S.ms.A S.ms.n S.ms.c, .slice S.ms.A2 S.ms.n2 S.ms.c2, .int .u64 V.st, .int .i64 V.tick, .slice A' S.n c'] := by
    have := ((((((((E1.out.far (p := ⟨w.heap.size + 1, 6, none⟩) (by show w.heap.size ≠ w.heap.size + 1; omega) (.slice A' S.n c')).set_ 0 (.int .i64 V.map.W)).set_ 1 (.int .i64 V.map.H)).set_ 2 (.slice S.ms.A S.ms.n S.ms.c)).set_ 3 (.slice S.ms.A2 S.ms.n2 S.ms.c2)).set_ 4 (.int .u64 V.st)).set_ 5 (.int .i64 V.tick)).set_ 6 (.slice A' S.n c'))
    simpa using this
  have f1 : Below w.heap.size w ((((((((w1.setCell ⟨w.heap.size + 1, 6, none⟩ (.slice A' S.n c')).setCell ⟨w.heap.size, 0, none⟩ (.int .i64 V.map.W)).setCell ⟨w.heap.size, 1, none⟩ (.int .i64 V.map.H)).setCell ⟨w.heap.size, 2, none⟩ (.slice S.ms.A S.ms.n S.ms.c)).setCell ⟨w.heap.size, 3, none⟩ (.slice S.ms.A2 S.ms.n2 S.ms.c2)).setCell ⟨w.heap.size, 4, none⟩ (.int .u64 V.st)).setCell ⟨w.heap.size, 5, none⟩ (.int .i64 V.tick)).setCell ⟨w.heap.size, 6, none⟩ (.slice A' S.n c')) := (Below.setCell (Below.setCell (Below.setCell (Below.setCell (Below.setCell (Below.setCell (Below.setCell (Below.setCell B2.out (p := ⟨w.heap.size + 1, 6, none⟩) (by show w.heap.size ≤ w.heap.size + 1; omega) _) (p := ⟨w.heap.size, 0, none⟩) (Nat.le_refl _) _) (p := ⟨w.heap.size, 1, none⟩) (Nat.le_refl _) _) (p := ⟨w.heap.size, 2, none⟩) (Nat.le_refl _) _) (p := ⟨w.heap.size, 3, none⟩) (Nat.le_refl _) _) (p := ⟨w.heap.size, 4, none⟩) (Nat.le_refl _) _) (p := ⟨w.heap.size, 5, none⟩) (Nat.le_refl _) _) (p := ⟨w.heap.size, 6, none⟩) (Nat.le_refl _) _)
  have f2 : Row ((((((((w1.setCell ⟨w.heap.size + 1, 6, none⟩ (.slice A' S.n c')).setCell ⟨w.heap.size, 0, none⟩ (.int .i64 V.map.W)).setCell ⟨w.heap.size, 1, none⟩ (.int .i64 V.map.H)).setCell ⟨w.heap.size, 2, none⟩ (.slice S.ms.A S.ms.n S.ms.c)).setCell ⟨w.heap.size, 3, none⟩ (.slice S.ms.A2 S.ms.n2 S.ms.c2)).setCell ⟨w.heap.size, 4, none⟩ (.int .u64 V.st)).setCell ⟨w.heap.size, 5, none⟩ (.int .i64 V.tick)).setCell ⟨w.heap.size, 6, none⟩ (.slice A' S.n c')) 55 8 A' S.n c' (entsV V.l) := HR.out.keep (fun q hq => (Below.heap_setCell _ _ _ q (K1.out q hq)).trans ((Below.heap_setCell _ _ _ q (K1.out q hq)).trans ((Below.heap_setCell _ _ _ q (K1.out q hq)).trans ((Below.heap_setCell _ _ _ q (K1.out q hq)).trans ((Below.heap_setCell _ _ _ q (K1.out q hq)).trans ((Below.heap_setCell _ _ _ q (K1.out q hq)).trans ((Below.heap_setCell _ _ _ q (K1.out q hq)).trans ((Below.heap_setCell _ _ _ q (K2.out q hq))))))))))
  generalize ((((((((w1.setCell ⟨w.heap.size + 1, 6, none⟩ (.slice A' S.n c')).setCell ⟨w.heap.size, 0, none⟩ (.int .i64 V.map.W)).setCell ⟨w.heap.size, 1, none⟩ (.int .i64 V.map.H)).setCell ⟨w.heap.size, 2, none⟩ (.slice S.ms.A S.ms.n S.ms.c)).setCell ⟨w.heap.size, 3, none⟩ (.slice S.ms.A2 S.ms.n2 S.ms.c2)).setCell ⟨w.heap.size, 4, none⟩ (.int .u64 V.st)).setCell ⟨w.heap.size, 5, none⟩ (.int .i64 V.tick)).setCell ⟨w.heap.size, 6, none⟩ (.slice A' S.n c')) = wf at f0 f1 f2 ⊢
  have r0 : wf.cell? ⟨w.heap.size, 0, none⟩ = some (.int .i64 V.map.W) := f0.cell 0
  have r1 : wf.cell? ⟨w.heap.size, 1, none⟩ = some (.int .i64 V.map.H) := f0.cell 1
  have r2 : wf.cell? ⟨w.heap.size, 2, none⟩ = some (.slice S.ms.A S.ms.n S.ms.c) := f0.cell 2
  have r3 : wf.cell? ⟨w.heap.size, 3, none⟩ = some (.slice S.ms.A2 S.ms.n2 S.ms.c2) := f0.cell 3
  have r4 : wf.cell? ⟨w.heap.size, 4, none⟩ = some (.int .u64 V.st) := f0.cell 4
  have r5 : wf.cell? ⟨w.heap.size, 5, none⟩ = some (.int .i64 V.tick) := f0.cell 5
  have r6 : wf.cell? ⟨w.heap.size, 6, none⟩ = some (.slice A' S.n c') := f0.cell 6
  clear x0 x1 x2 x3 x4 x5 x6 y0 y1 y2 y3 y4 y5 y6 q1 q2
  exact bodyPost_ret (v := .agg #[.int .i64 V.map.W, .int .i64 V.map.H, .slice S.ms.A S.ms.n S.ms.c, .slice S.ms.A2 S.ms.n2 S.ms.c2, .int .u64 V.st, .int .i64 V.tick, .slice A' S.n c']) (by simp [results, Tryz.results23, go_sem, r0, r1, r2, r3, r4, r5, r6]) rfl ⟨⟨S.ms, A', S.n, c'⟩, rfl, rfl, f2, f1⟩
end Go.Proofs.YtojbijapdkohlaaGreatDoor
set_option linter.unusedSimpArgs false
set_option linter.unusedVariables false
namespace Go.Proofs.YtojbijapdkohlaaGreatDoor
open Go.RowKit
def map21 : MapV := ⟨2, 1, [false, false], [⟨32768, 32768⟩, ⟨98304, 32768⟩]⟩
theorem read21 : readF [.spawn, .spawn, .nl] = some map21 := by rfl
theorem formed21 : formedB map21 = true := by rfl
theorem len21 : (newF map21 7 1).l.length = 1 := ballsF_len _ _ _
theorem find21 : findF (newF map21 7 1).l 2 = -1 := by decide +kernel
theorem wldL (v : WorldV) (s : WorldS) (w : World) : (Instr.field 46 (.agg #[.int .i64 v.map.W, .int .i64 v.map.H, .slice s.ms.A s.ms.n s.ms.c, .slice s.ms.A2 s.ms.n2 s.ms.c2, .int .u64 v.st, .int .i64 v.tick, .slice s.A s.n s.c]) 3).run Tryz.prog w = .ok (.slice s.A s.n s.c) w := by kernel_rfl
theorem isTaken_pvs (ps : Peers) (k : Nat) : isTaken ps k = (pvs ps k).isSome := by
  unfold isTaken pvs
  cases ps k <;> rfl
set_option maxRecDepth 100000 in
set_option maxHeartbeats 8000000 in
theorem awake21 (w : World) : Calls Tryz.prog 42 #[] w fun e w' => e = .returned (.bool true) ∧ Below w.heap.size w w' := by
  have hR := fun W => tRead _ _ read21 (by decide) W
  have hs : (⟨(sgBytes [.spawn, .spawn, .nl]).toArray⟩ : ByteArray) = ⟨#[226, 151, 142, 226, 151, 142, 10]⟩ := by rfl
  rw [hs] at hR
  obtain ⟨V, hV⟩ : ∃ V, newF map21 7 1 = V := ⟨_, rfl⟩
  have hl1 := len21
  have hf1 := find21
  have hms : (newF map21 7 1).map = map21 := rfl
  rw [hV] at hl1 hf1 hms
  have hN := fun (s : MapS) W hM => srvNewG map21 s 7 1 V hV W hM formed21 (by decide) (by have := MapAt.len hM; simp [map21] at this; omega) (by have := MapAt.len hM; simp [map21] at this; omega) (by omega)
  have HN := Lib.hid hN
  have HL1 := Lib.hid hl1
  have HF1 := Lib.hid hf1
  have HMS := Lib.hid hms
  have HM21 := Lib.hid (show map21.W = 2 ∧ map21.H = 1 from ⟨rfl, rfl⟩)
  clear hs hN hV hl1 hf1 hms
  go_enter Tryz.func42, Tryz.ntmps42
  go_wp2_with fail
  refine (hR _).mono ?_
  rintro e w1 ⟨s, rfl, hmat, hb1⟩
  have HMT := Lib.hid hmat
  have hs1 := hb1.size
  have HB1 := Lib.hid hb1
  clear hmat hb1 hR
  go_wp2_with fail
  refine (HN.out s _ ((HMT.out.below (Below.alloc (Below.refl _ _) (Nat.le_refl _) _)).upto (by simp))).mono ?_
  rintro e w2 ⟨b, x, rfl, hat, hhs, hps, hbb, hb2⟩
  have HB2 := Lib.hid (HB1.out.trans ((Below.alloc (Below.refl _ _) (Nat.le_refl _) _).mono hs1) |>.trans (hb2.mono (by simp; omega)))
  have hbw : w.heap.size ≤ b := by simp at hbb; omega
  have hn2 : x.S.ms.n2 = 2 := by have := hat.at_.map.len.2; rw [HMS.out] at this; exact this.symm
  have hn1 : x.S.n = 1 := by have := hat.at_.len; rw [HL1.out] at this; exact this.symm
  have HC := Lib.hid (srvConnectG b 2 7 V x w2 hat (by decide) (by decide) (hps 2) (by omega) HF1.out (by omega) (by omega))
  have HAT2 := Lib.hid hat
  clear hat hbb hb2 hn1 hn2 hps hhs
  go_wp2_with fail
  refine HC.out.mono ?_
  rintro e w3 ⟨rfl, x', hat, hms', hhs', hpv, hto⟩
  have hn' : x'.S.n = 2 := by have := hat.at_.len; rw [join_len] at this; have := HL1.out; omega
  generalize (⟨V.map, nextS V.st, V.tick, V.l.take (joinK V.l ((2 : Nat) : Int)) ++ newP ((2 : Nat) : Int) (spawnP V.map V.st) :: V.l.drop (joinK V.l ((2 : Nat) : Int))⟩ : WorldV) = V2 at hat
  have htk : isTaken x'.ps 2 = true := by rw [isTaken_pvs, hpv 2]; rfl
  have HB3 := Lib.hid (HB2.out.trans ((SrvTo.bel HAT2.out hto).mono hbw))
  have HAT := Lib.hid hat
  have HLN := Lib.hid hn'
  have hs3 := HB3.out.size
  have hT := srvConnected x'.ps b 2 (by decide) (by decide) w3 (hat.slot (by decide))
  rw [htk] at hT
  have HT := Lib.hid hT
  have hW := srvWorldG V2 x'.S b w3 hat.lt (hat.blk.cell 1) (hat.blk.cell 2) (hat.blk.cell 3) (hat.blk.cell 4) (hat.blk.cell 5) (hat.blk.cell 6) (hat.blk.cell 7) hat.at_.l (by omega)
  have HW := Lib.hid hW
  clear hat hpv hto HC hn' hms' hhs' htk hT hW
  go_wp2_with fail
  refine HT.out.mono ?_
  rintro e w4 ⟨rfl, rfl⟩
  go_wp2_with fail
  refine HW.out.mono ?_
  rintro e w4 ⟨s', rfl, hs', hr', hb4⟩
  have hn2 : s'.n = 2 := by rw [hs']; exact HLN.out
  have hfld := fun w => wldL V2 s' w
  rw [hn2] at hfld
  have HB4 := Lib.hid (HB3.out.trans (hb4.mono hs3))
  have HN2 := Lib.hid hn2
  rw [hn2]
  clear hb4 hs' hn2 hr'
  go_wp2
  go_ret
  exact ⟨rfl, HB4.out⟩
end Go.Proofs.YtojbijapdkohlaaGreatDoor
