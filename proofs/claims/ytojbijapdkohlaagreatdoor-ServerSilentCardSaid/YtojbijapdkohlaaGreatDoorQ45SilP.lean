/- The law ServerSlots: what a server is between its rounds. The law ServerSilent: what a server is between its rounds. -/
import Derived.Test.YtojbijapdkohlaaGreatDoorQ24Chan
import Derived.Test.YtojbijapdkohlaaGreatDoorSrvTick
import Derived.Test.YtojbijapdkohlaaGreatDoorSrvJoinG
import Derived.Test.YtojbijapdkohlaaGreatDoorSrvTickD
import Derived.Test.YtojbijapdkohlaaGreatDoorSrvTake
import Derived.Test.YtojbijapdkohlaaGreatDoorQ43DgramP
set_option linter.unusedSimpArgs false
set_option linter.unusedVariables false
namespace Go.Proofs.YtojbijapdkohlaaGreatDoor
open Go.RowKit
def takenC (T : Nat → Bool) : Array Value := #[.bool (T 0), .bool (T 1), .bool (T 2), .bool (T 3), .bool (T 4), .bool (T 5), .bool (T 6), .bool (T 7), .bool (T 8)]
theorem takenC_at (T : Nat → Bool) (k : Nat) (hk : k < 9) : (takenC T)[k]? = some (.bool (T k)) := by
  have h : k = 0 ∨ k = 1 ∨ k = 2 ∨ k = 3 ∨ k = 4 ∨ k = 5 ∨ k = 6 ∨ k = 7 ∨ k = 8 := by omega
  rcases h with rfl | rfl | rfl | rfl | rfl | rfl | rfl | rfl | rfl <;> rfl
theorem takenC_set (T : Nat → Bool) (k : Nat) (h1 : 1 ≤ k) (h8 : k ≤ 8) (v : Bool) : (takenC T).setIfInBounds k (.bool v) = takenC (setT T k v) := by
  rcases eight h1 h8 with rfl | rfl | rfl | rfl | rfl | rfl | rfl | rfl <;> rfl
theorem setT_self (T : Nat → Bool) (k : Nat) : setT T k (T k) = T := by
  funext j
  unfold setT
  split
  · rename_i h; rw [h]
  · rfl
/-- A server behind so many ticks, whose slots that are taken are T. -/
structure SlS (b i t : Nat) (seed : Int) (ms : MapS) (x : SrvX) (V : WorldV) (T : Nat → Bool) (w : World) : Prop where
  srv : SrvAt w b seed V x
  ms : x.S.ms = ms
  len : V.l.length ≤ t
  ok : ∀ e ∈ V.l, okE e
  q : OkQ T (keyL V.l)
  tick : V.tick = (i : Int)
  hs : lastI (x.hs.map (·.1)) = (i : Int)
  ps : ∀ k, 1 ≤ k → k ≤ 8 → (pvs x.ps k).isSome = T k
  idle : ∀ j P, pvs x.ps j = some P → P.queue = [] ∧ 0 ≤ P.tokens ∧ P.tokens ≤ 16 ∧ 0 ≤ P.silent ∧ P.silent ≤ (i : Int)
theorem lastI_keep (hs : List (Int × List EntV)) (t : Int) (l : List EntV) : lastI ((keepH hs t l).map (·.1)) = t := by
  unfold keepH
  split
  · rename_i h
    rw [List.map_tail, List.map_append]
    unfold lastI
    simp only [List.map_cons, List.map_nil, List.length_tail, List.length_append, List.length_map, List.length_singleton]
    rw [List.getElem?_tail, show hs.length + 1 - 1 - 1 + 1 = hs.length by simp at h; omega, List.getElem?_append_right (by simp)]
    simp
  · exact lastI_map hs t l
section
variable {b i t : Nat} {seed : Int} {ms : MapS} {x x' : SrvX} {V : WorldV} {T : Nat → Bool} {w w' : World}
theorem SlS.slot (h : SlS b i t seed ms x V T w) {k : Nat} (h1 : 1 ≤ k) (h8 : k ≤ 8) : (T k = true → ∃ P s, x.ps k = some (P, s)) ∧ (T k = false → x.ps k = none) := by
  have := h.ps k h1 h8
  unfold pvs at this
  cases hx : x.ps k with
  | none => rw [hx] at this; exact ⟨(fun hT => by rw [hT] at this; cases this), fun _ => rfl⟩
  | some y => rw [hx] at this; exact ⟨fun _ => ⟨y.1, y.2, rfl⟩, (fun hT => by rw [hT] at this; cases this)⟩
theorem SlS.drop (h : SlS b i t seed ms x V T w) {k : Nat} (h1 : 1 ≤ k) (h8 : k ≤ 8) (hT : T k = true) (hs : SrvAt w' b seed ⟨V.map, V.st, V.tick, leaveL V.l k⟩ x') (e1 : x'.S.ms = x.S.ms) (e2 : x'.hs = x.hs) (e3 : ∀ i, pvs x'.ps i = if i = k then none else (pvs x.ps i).map (fun P => toldP P (leftLine k))) :
    SlS b i t seed ms x' ⟨V.map, V.st, V.tick, leaveL V.l k⟩ (setT T k false) w' where
  srv := hs
  ms := e1.trans h.ms
  len := Nat.le_trans (leave_len _ _) h.len
  ok := leave_ok h.ok
  q := h.q.leave k h1 h8 hT
  tick := h.tick
  hs := by rw [e2]; exact h.hs
  ps := fun j j1 j8 => by
    rw [e3 j]
    unfold setT
    split
    · rfl
    · rw [Option.isSome_map]; exact h.ps j j1 j8
  idle := fun j P hj => by
    rw [e3 j] at hj
    split at hj
    · cases hj
    · cases hp : pvs x.ps j with
      | none => rw [hp] at hj; cases hj
      | some P0 => rw [hp] at hj; cases hj; exact h.idle j P0 hp
theorem SlS.join (h : SlS b i t seed ms x V T w) {k : Nat} (h1 : 1 ≤ k) (h8 : k ≤ 8) (hT : T k = false) (hs : SrvAt w' b seed ⟨V.map, nextS V.st, V.tick, V.l.take (joinK V.l k) ++ newP k (spawnP V.map V.st) :: V.l.drop (joinK V.l k)⟩ x') (e1 : x'.S.ms = x.S.ms) (e2 : x'.hs = x.hs) (e3 : ∀ i, pvs x'.ps i = if i = k then some peerNew else (pvs x.ps i).map (fun P => toldP P (joinLine k))) :
    SlS b i (t + 1) seed ms x' ⟨V.map, nextS V.st, V.tick, V.l.take (joinK V.l k) ++ newP k (spawnP V.map V.st) :: V.l.drop (joinK V.l k)⟩ (setT T k true) w' where
  srv := hs
  ms := e1.trans h.ms
  len := by show (V.l.take _ ++ _ :: V.l.drop _).length ≤ _; rw [join_len]; have := h.len; omega
  ok := join_ok h.ok
  q := h.q.join k h1 h8 hT _ _
  tick := h.tick
  hs := by rw [e2]; exact h.hs
  ps := fun j j1 j8 => by
    rw [e3 j]
    unfold setT
    split
    · rfl
    · rw [Option.isSome_map]; exact h.ps j j1 j8
  idle := fun j P hj => by
    rw [e3 j] at hj
    split at hj
    · cases hj
      exact ⟨rfl, by decide, by decide, by decide, by show (0 : Int) ≤ _; omega⟩
    · cases hp : pvs x.ps j with
      | none => rw [hp] at hj; cases hj
      | some P0 => rw [hp] at hj; cases hj; exact h.idle j P0 hp
theorem SlS.ticked (h : SlS b i t seed ms x V T w) (hi : i ≤ 1000) (hs : SrvAt w' b seed (tickF V) x') (e1 : x'.S.ms = x.S.ms) (e2 : x'.hs = keepH x.hs (tickF V).tick (tickF V).l) (e3 : ∀ i, pvs x'.ps i = (pvs x.ps i).map (fun P => quietP (fillP P))) :
    SlS b (i + 1) t seed ms x' (tickF V) T w' where
  srv := hs
  ms := e1.trans h.ms
  len := by rw [tickF_len]; exact h.len
  ok := tickF_ok V h.ok
  q := by rw [tick_key V h.ok]; exact h.q
  tick := by show wrap64 (V.tick + 1) = _; rw [h.tick]; unfold wrap64; omega
  hs := by
    rw [e2, lastI_keep]
    show wrap64 (V.tick + 1) = _
    rw [h.tick]
    unfold wrap64
    omega
  ps := fun j j1 j8 => by rw [e3 j, Option.isSome_map]; exact h.ps j j1 j8
  idle := fun j P hj => by
    rw [e3 j] at hj
    cases hp : pvs x.ps j with
    | none => rw [hp] at hj; cases hj
    | some P0 =>
      rw [hp] at hj
      cases hj
      obtain ⟨a1, a2, a3, a4, a5⟩ := h.idle j P0 hp
      refine ⟨a1, ?_, ?_, ?_, ?_⟩
      · show 0 ≤ fillT P0.tokens
        unfold fillT; omega
      · show fillT P0.tokens ≤ 16
        unfold fillT; omega
      · show 0 ≤ P0.silent + 1
        omega
      · show P0.silent + 1 ≤ _
        omega
theorem SlS.idles (h : SlS b i t seed ms x V T w) (hi : i ≤ 39) : Idle x.ps := by
  intro j P s hj
  have : pvs x.ps j = some P := by unfold pvs; rw [hj]; rfl
  obtain ⟨a1, a2, a3, a4, a5⟩ := h.idle j P this
  exact ⟨a1, a2, a3, a4, by omega⟩
/-- A block that is none of the server's. -/
structure TakAt (b tb : Nat) (x : SrvX) (T : Nat → Bool) (w : World) : Prop where
  blk : Blk w tb 93 (takenC T)
  far : ¬ x.fp b tb
  gt : b < tb
theorem TakAt.step {tb : Nat} (h : TakAt b tb x T w) (ht : SrvTo b x x' w w') : TakAt b tb x' T w' :=
  ⟨(ht.chg.block tb h.blk.lt h.far).trans h.blk, fun hq => (ht.fp tb hq).elim h.far (fun hh => by have := h.blk.lt; omega), h.gt⟩
theorem TakAt.below {tb : Nat} (h : TakAt b tb x T w) (hb : Below w.heap.size w w') : TakAt b tb x T w' := ⟨h.blk.below hb h.blk.lt, h.far, h.gt⟩
theorem SlS.below (h : SlS b i t seed ms x V T w) (hb : Below w.heap.size w w') : SlS b i t seed ms x V T w' := ⟨h.srv.below hb, h.ms, h.len, h.ok, h.q, h.tick, h.hs, h.ps, h.idle⟩
theorem SlS.put {tb k : Nat} {T' : Nat → Bool} (h : SlS b i t seed ms x V T' w) (ht : TakAt b tb x T w) (h1 : 1 ≤ k) (h8 : k ≤ 8) (v : Bool) : SlS b i t seed ms x V T' (w.setCell ⟨tb, k, none⟩ (.bool v)) ∧ TakAt b tb x (setT T k v) (w.setCell ⟨tb, k, none⟩ (.bool v)) := by
  have hz : ∀ q, q ≠ tb → (w.setCell ⟨tb, k, none⟩ (.bool v)).heap[q]? = w.heap[q]? := fun q hq => Below.heap_setCell _ _ _ q hq
  have hcl := ht.blk.cls
  refine ⟨⟨h.srv.keep (fun q hq => hz q (by have := ht.gt; omega)) (fun q hq => hz q (fun e => ?_)) (fun q hq => hz q (fun e => ht.far (e ▸ hq))), h.ms, h.len, h.ok, h.q, h.tick, h.hs, h.ps, h.idle⟩, ?_, ht.far, ht.gt⟩
  · rw [e, hcl] at hq
    exact absurd (Option.some.inj hq) (by decide)
  · have := ht.blk.set_ k (.bool v)
    rwa [takenC_set T k h1 h8 v] at this
end
end Go.Proofs.YtojbijapdkohlaaGreatDoor
set_option linter.unusedSimpArgs false
set_option linter.unusedVariables false
namespace Go.Proofs.YtojbijapdkohlaaGreatDoor
open Go.RowKit
def IdlP (P : PeerV) : Prop := P.queue = [] ∧ 0 ≤ P.tokens ∧ P.tokens ≤ 16
/-- The window of a peer to whom so many headers came, numbered from 0. -/
def WinIs (sn : Nat) (P : PeerV) : Prop := (sn = 0 ∧ P.any = false) ∨ (1 ≤ sn ∧ P.any = true ∧ P.ack = sn - 1)
def Sil1 (i : Nat) (o : Option PeerV) : Prop := (i ≤ 40 ∧ ∃ P, o = some P ∧ IdlP P ∧ P.silent = (i : Int)) ∨ (40 < i ∧ o = none)
def Sil2 (k i sn : Nat) (s K : Nat) (o : Option PeerV) : Prop := ((k ≤ 40 ∨ i ≤ 40) ∧ ∃ P, o = some P ∧ IdlP P ∧ P.silent = (s : Int) ∧ WinIs sn P ∧ PeerOk K P) ∨ (¬ (k ≤ 40 ∨ i ≤ 40) ∧ o = none)
def silAt (k i : Nat) : Nat := if k ≤ 40 then i % k else i
theorem silStep_none {S : SilS} {k : Nat} (h : S.pv k = none) : silStep S k = S := by unfold silStep; rw [h]
theorem silStep_far {S : SilS} {k j : Nat} (h : S.pv j = none) (hj : j ≠ k) : (silStep S k).pv j = none := by
  unfold silStep
  split
  · exact h
  · split
    · show (if j = k then none else (S.pv j).map _) = none
      rw [if_neg hj, h]; rfl
    · show (if j = k then some _ else S.pv j) = none
      rw [if_neg hj, h]
theorem silN_two (S : SilS) (h0 : S.pv 0 = none) (h3 : ∀ j, 3 ≤ j → S.pv j = none) : silN S 9 = silStep (silStep S 1) 2 := by
  have e1 : silN S 1 = S := silStep_none h0
  have e3 : silN S 3 = silStep (silStep S 1) 2 := by show silStep (silStep (silN S 1) 1) 2 = _; rw [e1]
  have f : ∀ j, 3 ≤ j → (silN S 3).pv j = none := fun j hj => by rw [e3]; exact silStep_far (silStep_far (h3 j hj) (by omega)) (by omega)
  have e4 : silN S 4 = silN S 3 := silStep_none (f 3 (by omega))
  have e5 : silN S 5 = silN S 3 := by show silStep (silN S 4) 4 = _; rw [e4]; exact silStep_none (f 4 (by omega))
  have e6 : silN S 6 = silN S 3 := by show silStep (silN S 5) 5 = _; rw [e5]; exact silStep_none (f 5 (by omega))
  have e7 : silN S 7 = silN S 3 := by show silStep (silN S 6) 6 = _; rw [e6]; exact silStep_none (f 6 (by omega))
  have e8 : silN S 8 = silN S 3 := by show silStep (silN S 7) 7 = _; rw [e7]; exact silStep_none (f 7 (by omega))
  show silStep (silN S 8) 8 = _
  rw [e8, silStep_none (f 8 (by omega)), e3]
theorem idl_fill {P : PeerV} (h : IdlP P) : IdlP (fillP P) := by
  obtain ⟨a, b, c⟩ := h
  refine ⟨a, ?_, ?_⟩
  · show 0 ≤ fillT P.tokens
    unfold fillT; omega
  · show fillT P.tokens ≤ 16
    unfold fillT; omega
theorem PeerOk.up {K K' : Nat} {P : PeerV} (h : PeerOk K P) (hk : K ≤ K') : PeerOk K' P := ⟨h.num, h.ack, h.mask, Nat.le_trans h.op hk, Nat.le_trans h.gone hk, h.queue⟩
/-- A tick of two. -/
theorem sil_tick {k i sn K : Nat} {S : SilS} (h0 : S.pv 0 = none) (h3 : ∀ j, 3 ≤ j → S.pv j = none) (hk : 1 ≤ k) (h1 : Sil1 i (S.pv 1)) (h2 : Sil2 k i sn (silAt k i) K (S.pv 2)) :
    Sil1 (i + 1) ((silN S 9).pv 1) ∧ Sil2 k (i + 1) sn (silAt k i + 1) K ((silN S 9).pv 2) ∧ (silN S 9).pv 0 = none ∧ ∀ j, 3 ≤ j → (silN S 9).pv j = none := by
  rw [silN_two S h0 h3]
  have hz : (silStep (silStep S 1) 2).pv 0 = none := silStep_far (silStep_far h0 (by decide)) (by decide)
  have hf : ∀ j, 3 ≤ j → (silStep (silStep S 1) 2).pv j = none := fun j hj => silStep_far (silStep_far (h3 j hj) (by omega)) (by omega)
  -- the first
  have A : Sil1 (i + 1) ((silStep S 1).pv 1) ∧ Sil2 k i sn (silAt k i) K ((silStep S 1).pv 2) := by
    rcases h1 with ⟨hi, P, hp, hid, hs⟩ | ⟨hi, hp⟩
    · by_cases hb : 40 < P.silent + 1
      · have e : silStep S 1 = ⟨leaveL S.l 1, fun i => if i = 1 then none else (S.pv i).map (fun Q => toldP Q (leftLine 1))⟩ := by unfold silStep; rw [hp]; simp only; rw [if_pos hb]; rfl
        rw [e]
        refine ⟨.inr ⟨by omega, rfl⟩, ?_⟩
        show Sil2 k i sn (silAt k i) K ((S.pv 2).map (fun Q => toldP Q (leftLine 1)))
        rcases h2 with ⟨a, P2, a2, a3, a4, a5, a6⟩ | ⟨a, a2⟩
        · rw [a2]; exact .inl ⟨a, toldP P2 (leftLine 1), rfl, a3, a4, a5, ⟨a6.num, a6.ack, a6.mask, a6.op, a6.gone, a6.queue⟩⟩
        · rw [a2]; exact .inr ⟨a, rfl⟩
      · have e : silStep S 1 = ⟨S.l, fun i => if i = 1 then some (quietP P) else S.pv i⟩ := by unfold silStep; rw [hp]; simp only; rw [if_neg hb]
        rw [e]
        refine ⟨.inl ⟨by omega, quietP P, rfl, hid, by show P.silent + 1 = _; omega⟩, h2⟩
    · rw [silStep_none hp]
      exact ⟨.inr ⟨by omega, hp⟩, h2⟩
  obtain ⟨A1, A2⟩ := A
  generalize silStep S 1 = S1 at A1 A2 hz hf ⊢
  rcases A2 with ⟨hi, P, hp, hid, hs, hw, hok⟩ | ⟨hi, hp⟩
  · by_cases hb : 40 < P.silent + 1
    · have e : silStep S1 2 = ⟨leaveL S1.l 2, fun i => if i = 2 then none else (S1.pv i).map (fun Q => toldP Q (leftLine 2))⟩ := by unfold silStep; rw [hp]; simp only; rw [if_pos hb]; rfl
      rw [e] at hz hf ⊢
      refine ⟨?_, .inr ⟨?_, rfl⟩, hz, hf⟩
      · show Sil1 (i + 1) ((S1.pv 1).map (fun Q => toldP Q (leftLine 2)))
        rcases A1 with ⟨a, P2, a2, a3, a4⟩ | ⟨a, a2⟩
        · rw [a2]; exact .inl ⟨a, toldP P2 (leftLine 2), rfl, a3, a4⟩
        · rw [a2]; exact .inr ⟨a, rfl⟩
      · rw [hs] at hb
        unfold silAt at hb
        split at hb
        · rename_i h40
          have := Nat.mod_lt i hk
          omega
        · omega
    · have e : silStep S1 2 = ⟨S1.l, fun i => if i = 2 then some (quietP P) else S1.pv i⟩ := by unfold silStep; rw [hp]; simp only; rw [if_neg hb]
      rw [e] at hz hf ⊢
      refine ⟨A1, .inl ⟨?_, quietP P, rfl, hid, by show P.silent + 1 = _; omega, hw, ⟨hok.num, hok.ack, hok.mask, hok.op, hok.gone, hok.queue⟩⟩, hz, hf⟩
      rcases hi with h | h
      · exact .inl h
      · by_cases h40 : k ≤ 40
        · exact .inl h40
        · right
          rw [hs] at hb
          unfold silAt at hb
          rw [if_neg h40] at hb
          omega
  · rw [silStep_none hp] at hz hf ⊢
    exact ⟨A1, .inr ⟨by omega, hp⟩, hz, hf⟩
theorem win_next {sn : Nat} {P : PeerV} (h : WinIs sn P) (hsn : sn ≤ 1000) : (takeW (winOf P) sn).2 = true ∧ (takeW (winOf P) sn).1.any = true ∧ (takeW (winOf P) sn).1.last = sn := by
  rcases h with ⟨-, h1⟩ | ⟨h0, h1, h2⟩
  · have e : takeW (winOf P) sn = (⟨true, sn, 0⟩, true) := by unfold takeW winOf; rw [if_pos (by exact h1)]
    rw [e]; exact ⟨rfl, rfl, rfl⟩
  · have e1 : stepsI (winOf P).last sn = 1 := by show stepsI P.ack sn = 1; rw [h2]; unfold stepsI; omega
    unfold takeW
    rw [if_neg (by show ¬ P.any = false; rw [h1]; decide), e1, if_pos (by decide)]
    exact ⟨rfl, rfl, rfl⟩
theorem offer_none (last : Int) (q : List CmdV) : offerF last q [] = ⟨last, q, 0⟩ := by
  unfold offerF
  rw [if_neg (by decide)]
/-- A datagram without a row, and its peer. -/
theorem sil_take (seed : Int) {sn K : Nat} {P : PeerV} (vt : Int) (hi : IdlP P) (hw : WinIs sn P) (hk : PeerOk K P) (hl : P.lines.length ≤ 32) (hsn : sn ≤ 1000) :
    tkCode (keyBV seed ((2 : Nat) : Int)) P (dgBytes seed 2 ⟨sn % 65536, false, 0, 0⟩ 1 4294967295) = 0 ∧ IdlP (takeP (keyBV seed ((2 : Nat) : Int)) vt P (dgBytes seed 2 ⟨sn % 65536, false, 0, 0⟩ 1 4294967295)) ∧ (takeP (keyBV seed ((2 : Nat) : Int)) vt P (dgBytes seed 2 ⟨sn % 65536, false, 0, 0⟩ 1 4294967295)).silent = 0 ∧
      WinIs (sn + 1) (takeP (keyBV seed ((2 : Nat) : Int)) vt P (dgBytes seed 2 ⟨sn % 65536, false, 0, 0⟩ 1 4294967295)) ∧ PeerOk (K + 32) (takeP (keyBV seed ((2 : Nat) : Int)) vt P (dgBytes seed 2 ⟨sn % 65536, false, 0, 0⟩ 1 4294967295)) := by
  obtain ⟨pl, h1, h2, h3, h4, h5, h6⟩ := dg_take seed 2 ⟨sn % 65536, false, 0, 0⟩ ⟨by show sn % 65536 ≤ 65535; omega, Nat.zero_le _, Nat.zero_le _⟩ (.inr ⟨rfl, rfl⟩) 1 4294967295 (by decide) (by decide)
  have hm : sn % 65536 = sn := by omega
  rw [hm] at h1 h3 ⊢
  obtain ⟨w1, w2, w3⟩ := win_next hw hsn
  have hch : tkChan P (rdOf pl) = (0, (takeW (winOf P) sn).1, P.op.filter fun n => !hasW (theirs ⟨sn, false, 0, 0⟩) n) := by
    unfold tkChan chanTakeF
    rw [h3, if_pos w1]
  have hcode : tkCode (keyBV seed ((2 : Nat) : Int)) P (dgBytes seed 2 ⟨sn, false, 0, 0⟩ 1 4294967295) = 0 := by
    unfold tkCode
    rw [h1, if_neg (fun hh => hh rfl), if_pos h2, hch]
  have hP : takeP (keyBV seed ((2 : Nat) : Int)) vt P (dgBytes seed 2 ⟨sn, false, 0, 0⟩ 1 4294967295) = tkDo vt P (rdOf pl) := by
    unfold takeP
    rw [if_pos hcode, h1]
  rw [hP]
  have hoff : tkOff P (rdOf pl) = ⟨(P.last : Nat), P.queue, 0⟩ := by unfold tkOff; rw [h6, offer_none]
  refine ⟨hcode, ⟨?_, hi.2⟩, rfl, .inr ⟨by omega, ?_, ?_⟩, hk.take hl vt _⟩
  · show (tkOff P (rdOf pl)).queue = []
    rw [hoff]; exact hi.1
  · show (tkChan P (rdOf pl)).2.1.any = true
    rw [hch]; exact w2
  · show (tkChan P (rdOf pl)).2.1.last = sn + 1 - 1
    rw [hch]; exact w3
end Go.Proofs.YtojbijapdkohlaaGreatDoor
