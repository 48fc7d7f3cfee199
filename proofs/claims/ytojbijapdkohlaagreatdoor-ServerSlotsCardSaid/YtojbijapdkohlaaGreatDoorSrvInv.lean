/- Layer 21: a server, told whole: its block, its world, its ring, its peers. -/
import Derived.Test.YtojbijapdkohlaaGreatDoorSrvTell
import Derived.Test.YtojbijapdkohlaaGreatDoorQ36WClear
import Derived.Test.YtojbijapdkohlaaGreatDoorRingX
set_option linter.unusedSimpArgs false
set_option linter.unusedVariables false
namespace Go.Proofs.YtojbijapdkohlaaGreatDoor
open Go.RowKit
def peerTs : List TypeId := [203, 95, 9, 280, 121]
theorem PeerAt.cls {w : World} {P : PeerV} {s : PeerS} (h : PeerAt w P s) {q : Nat} (hq : s.fp q) : ∃ t, clsOf w q = some t ∧ t ∈ peerTs := by
  rcases hq with rfl | rfl | hq | hq | hq
  · exact ⟨_, h.blk.cls, by decide⟩
  · exact ⟨_, h.ink.cls, by decide⟩
  · exact ⟨_, h.op.cls hq, by decide⟩
  · exact ⟨_, h.lines.cls hq, by decide⟩
  · exact ⟨_, h.queue.cls hq, by decide⟩
theorem PeersAt.far {w : World} {ps : Peers} {q : Nat} (h : PeersAt w ps) (hq : ∀ t, clsOf w q = some t → t ∉ peerTs) : ∀ i P s, ps i = some (P, s) → ¬ s.fp q := fun i P s hi hf => by
  obtain ⟨t, h1, h2⟩ := (h.at_ i P s hi).cls hf
  exact hq t h1 h2
theorem PeersAt.lt {w : World} {ps : Peers} {q i : Nat} {P : PeerV} {s : PeerS} (h : PeersAt w ps) (hi : ps i = some (P, s)) (hq : s.fp q) : q < w.heap.size := (h.at_ i P s hi).lt hq
theorem PeersAt.below {w w' : World} {ps : Peers} (h : PeersAt w ps) (hb : Below w.heap.size w w') : PeersAt w' ps := h.keep fun i P s hi q hq => hb.block q (h.lt hi hq)
theorem Clear.keepT {b : Nat} {w w' : World} {v : WorldV} {s : WorldS} (h : Clear b w v s) (hb : ∀ q, q < b → w'.heap[q]? = w.heap[q]?) (ht : ∀ q, clsOf w q = some 55 → w'.heap[q]? = w.heap[q]?) : Clear b w' v s := by
  have hc : ∀ p : Addr, p.block < b → w'.cell? p = w.cell? p := fun p hp => by
    unfold World.cell?
    rw [hb _ hp]
  refine ⟨{ h.map with walls := h.map.walls.keep hc, spawns := h.map.spawns.keep hc }, ?_, h.nc⟩
  rcases h.l with h | ⟨⟨c0, h⟩, h2⟩
  · exact .inl (h.keep hc)
  · exact .inr ⟨⟨c0, h.keep (fun g hg => ht g (h.cls hg))⟩, h2⟩
structure SrvX where
  S : WorldS
  rA : Option Addr
  rn : Nat
  rc : Nat
  mb : Nat
  hs : List (Int × List EntV)
  ml : List (Int × Value)
  ps : Peers
def srvCells (seed : Int) (V : WorldV) (x : SrvX) : Array Value := #[.int .u64 seed, .int .i64 V.map.W, .int .i64 V.map.H, .slice x.S.ms.A x.S.ms.n x.S.ms.c, .slice x.S.ms.A2 x.S.ms.n2 x.S.ms.c2, .int .u64 V.st, .int .i64 V.tick, .slice x.S.A x.S.n x.S.c, .slice x.rA x.rn x.rc, .map (some x.mb), peerPtr x.ps 0, peerPtr x.ps 1, peerPtr x.ps 2, peerPtr x.ps 3, peerPtr x.ps 4, peerPtr x.ps 5, peerPtr x.ps 6, peerPtr x.ps 7, peerPtr x.ps 8]
structure SrvAt (w : World) (b : Nat) (seed : Int) (V : WorldV) (x : SrvX) : Prop where
  blk : Blk w b 165 (srvCells seed V x)
  wld : Clear b w V x.S
  ring : Row w 3 1 x.rA x.rn x.rc (intsV (x.hs.map (·.1)))
  lists : IMap w x.mb x.ml
  past : PastAt w x.ml x.hs
  peers : PeersAt w x.ps
  hiR : ∀ q, blkOf x.rA = some q → b < q
  hiM : b < x.mb
  hiP : ∀ i P s, x.ps i = some (P, s) → ∀ q, s.fp q → b < q
theorem SrvAt.lt {w : World} {b : Nat} {seed : Int} {V : WorldV} {x : SrvX} (h : SrvAt w b seed V x) : b < w.heap.size := h.blk.lt
theorem SrvAt.at_ {w : World} {b : Nat} {seed : Int} {V : WorldV} {x : SrvX} (h : SrvAt w b seed V x) : WorldAt w w.heap.size V x.S := h.wld.at_ (Nat.le_of_lt h.lt)
theorem SrvAt.below {w w' : World} {b : Nat} {seed : Int} {V : WorldV} {x : SrvX} (h : SrvAt w b seed V x) (hb : Below w.heap.size w w') : SrvAt w' b seed V x :=
  ⟨h.blk.below hb h.lt, h.wld.below hb (Nat.le_refl _) (Nat.le_of_lt h.lt), h.ring.keep (fun g hg => hb.block g (h.ring.lt hg)), h.lists.keep (hb.block _ h.lists.lt), h.past.keep (fun q hq => hb.block q (clsOf_lt hq)), h.peers.below hb, h.hiR, h.hiM, h.hiP⟩
/-- The world is another one: what a function of world gave, stored. -/
theorem SrvAt.world {w w1 w2 : World} {b : Nat} {seed : Int} {V V' : WorldV} {x : SrvX} {S' : WorldS} (h : SrvAt w b seed V x) (hat : WorldAt w1 w1.heap.size V' S') (hms : S'.ms = x.S.ms) (hm : V'.map = V.map) (hk : Held w w1 x.S S' V'.l) (hB : Below w.heap.size w w1)
    (hz : ∀ j : Nat, j < w1.heap.size → j ≠ b → w2.heap[j]? = w1.heap[j]?) (hb2 : Blk w2 b 165 (srvCells seed V' { x with S := S' })) : SrvAt w2 b seed V' { x with S := S' } := by
  have h1 := h.below hB
  have lb1 := h1.lt
  have hc : Clear b w1 V' S' := h.wld.held hat hms hm hk hB h.lt
  have hlt : ∀ q t, clsOf w1 q = some t → q < w1.heap.size := fun q t hq => by
    rcases Nat.lt_or_ge q w1.heap.size with hlt | hge
    · exact hlt
    · unfold clsOf at hq; rw [Array.getElem?_eq_none hge] at hq; cases hq
  have hsv : clsOf w1 b = some 165 := h1.blk.cls
  have hE : ∀ q, clsOf w1 q = some 55 → w2.heap[q]? = w1.heap[q]? := fun q hq => hz q (hlt q _ hq) (fun e => by rw [e, hsv] at hq; exact absurd (Option.some.inj hq) (by decide))
  refine ⟨hb2, hc.keepT (fun q hq => hz q (by omega) (by omega)) hE, ?_, ?_, h1.past.keep hE, ?_, h.hiR, h.hiM, h.hiP⟩
  · exact h1.ring.keep (fun g hg => hz g (h1.ring.lt hg) (by have := h.hiR g hg; omega))
  · exact h1.lists.keep (hz _ h1.lists.lt (by have := h.hiM; show x.mb ≠ b; omega))
  · exact h1.peers.keep (fun i P s hi q hq => hz q (h1.peers.lt hi hq) (by have := h.hiP i P s hi q hq; omega))
theorem PeersTo.ptr {w w' : World} {ps ps' : Peers} {f : Nat → PeerV → PeerV} (h : PeersTo w w' ps ps' f) (i : Nat) : peerPtr ps' i = peerPtr ps i := by
  unfold peerPtr
  cases hi : ps i with
  | none => rw [h.none_ i hi]
  | some y =>
    obtain ⟨P, s⟩ := y
    obtain ⟨s', h1, h2, -⟩ := h.some_ i P s hi
    rw [h1]
    show Value.pointer (some ⟨s'.b, 0, none⟩) = _
    rw [h2]
    rfl
/-- The peers turned, each in its own places. -/
theorem SrvAt.told {w w' : World} {b : Nat} {seed : Int} {V : WorldV} {x : SrvX} {ps' : Peers} {f : Nat → PeerV → PeerV} (h : SrvAt w b seed V x) (hp : PeersTo w w' x.ps ps' f) : SrvAt w' b seed V { x with ps := ps' } := by
  have lb := h.lt
  have far : ∀ q, q < w.heap.size → (∀ t, clsOf w q = some t → t ∉ peerTs) → w'.heap[q]? = w.heap[q]? := fun q hl ht => hp.chg.block q hl (fun ⟨i, P, s, hi, hf⟩ => h.peers.far ht i P s hi hf)
  have hlt : ∀ q t, clsOf w q = some t → q < w.heap.size := fun q t hq => by
    rcases Nat.lt_or_ge q w.heap.size with hlt | hge
    · exact hlt
    · unfold clsOf at hq; rw [Array.getElem?_eq_none hge] at hq; cases hq
  have hE : ∀ q, clsOf w q = some 55 → w'.heap[q]? = w.heap[q]? := fun q hq => far q (hlt q _ hq) (fun t ht => by rw [hq] at ht; cases ht; decide)
  refine ⟨?_, ?_, ?_, ?_, h.past.keep hE, hp.at_, h.hiR, h.hiM, ?_⟩
  · have e : srvCells seed V { x with ps := ps' } = srvCells seed V x := by
      unfold srvCells
      simp only [hp.ptr]
    rw [e]
    exact (far b lb (fun t ht => by rw [h.blk.cls] at ht; cases ht; decide)).trans h.blk
  · exact h.wld.keepT (fun q hq => hp.chg.block q (by omega) (fun ⟨i, P, s, hi, hf⟩ => by have := h.hiP i P s hi q hf; omega)) (fun q hq => far q (hlt q _ hq) (fun t ht => by rw [hq] at ht; cases ht; decide))
  · exact h.ring.keep (fun g hg => far g (h.ring.lt hg) (fun t ht => by rw [h.ring.cls hg] at ht; cases ht; decide))
  · exact h.lists.keep (far _ h.lists.lt (fun t ht => by rw [h.lists.cls] at ht; cases ht))
  · intro i P' s' hi' q hq
    have hi : ps' i = some (P', s') := hi'
    cases hi0 : x.ps i with
    | none => rw [hp.none_ i hi0] at hi; cases hi
    | some y =>
      obtain ⟨P, s⟩ := y
      obtain ⟨s2, h1, h2, h3⟩ := hp.some_ i P s hi0
      rw [hi] at h1
      cases h1
      rcases h3 q hq with h4 | h4
      · exact h.hiP i P s hi0 q h4
      · omega
theorem PeersTo.bel {w w' : World} {ps' : Peers} {f : Nat → PeerV → PeerV} {b : Nat} {seed : Int} {V : WorldV} {x : SrvX} (h : SrvAt w b seed V x) (hp : PeersTo w w' x.ps ps' f) : Below b w w' :=
  hp.chg.to_below (Nat.le_of_lt h.lt) (fun q ⟨i, P, s, hi, hf⟩ => Nat.le_of_lt (h.hiP i P s hi q hf))
/-- What the peers hold, without where. -/
def pvs (ps : Peers) (i : Nat) : Option PeerV := (ps i).map (·.1)
theorem PeersTo.pvs {w w' : World} {ps ps' : Peers} {f : Nat → PeerV → PeerV} (h : PeersTo w w' ps ps' f) (i : Nat) : pvs ps' i = (pvs ps i).map (f i) := by
  unfold Go.Proofs.YtojbijapdkohlaaGreatDoor.pvs
  cases hi : ps i with
  | none => rw [h.none_ i hi]; rfl
  | some y =>
    obtain ⟨P, s⟩ := y
    obtain ⟨s', h1, -⟩ := h.some_ i P s hi
    rw [h1]
    rfl
/-- One more peer turned. -/
theorem PeersTo.stepG {w wr w5 : World} {ps ps' : Peers} {f : Nat → PeerV → PeerV} (h : PeersTo w wr ps ps' f) (k : Nat) (P : PeerV) (s s' s5 : PeerS) (P5 : PeerV) (hk : ps k = some (P, s)) (hk' : ps' k = some (f k P, s'))
    (hc : Chg (fun q => s'.fp q) wr w5) (hp : PeerAt w5 P5 s5) (hsb : s5.b = s'.b) (hfp : ∀ q, s5.fp q → s'.fp q ∨ wr.heap.size ≤ q) :
    ∃ ps'', PeersTo w w5 ps ps'' (fun i P => if i = k then P5 else f i P) := by
  have h0 : k ≠ 0 := fun e => by have := h.at_.zero; rw [← e, hk'] at this; cases this
  have h9 : k < 9 := by
    rcases Nat.lt_or_ge k 9 with h1 | h1
    · exact h1
    · have := h.at_.top k h1; rw [hk'] at this; cases this
  obtain ⟨sk, hsk, hskb, hskf⟩ := h.some_ k P s hk
  have hse : sk = s' := by rw [hk'] at hsk; cases hsk; rfl
  subst hse
  refine ⟨ps'.set k (some (P5, s5)), ?_, ?_, ?_, ?_⟩
  · refine h.at_.set k h0 h9 _ _ hp fun j P' s'' hj hpj q hq => ⟨?_, fun hq2 => ?_⟩
    · exact hc.block q ((h.at_.at_ j P' s'' hpj).lt hq) (fun hh => h.at_.disj j k P' s'' _ _ hj hpj hk' q hq hh)
    · rcases hfp q hq2 with h2 | h2
      · exact h.at_.disj j k P' s'' _ _ hj hpj hk' q hq h2
      · have := (h.at_.at_ j P' s'' hpj).lt hq; omega
  · intro i hi
    unfold Peers.set
    rw [if_neg (fun e => by rw [e, hk] at hi; cases hi)]
    exact h.none_ i hi
  · intro i P' s'' hi
    unfold Peers.set
    by_cases hik : i = k
    · subst hik
      rw [hk] at hi
      cases hi
      refine ⟨s5, by rw [if_pos rfl, if_pos rfl], hsb.trans hskb, fun q hq => ?_⟩
      rcases hfp q hq with h2 | h2
      · exact hskf q h2
      · exact .inr (Nat.le_trans h.chg.size h2)
    · rw [if_neg hik, if_neg hik]
      exact h.some_ i P' s'' hi
  · refine h.chg.trans hc fun q hq => ?_
    rcases hskf q hq with h2 | h2
    · exact .inl ⟨k, P, s, hk, h2⟩
    · exact .inr h2
/-- The blocks that are a server's own, and that turn. -/
def SrvX.fp (b : Nat) (x : SrvX) (q : Nat) : Prop := q = b ∨ blkOf x.rA = some q ∨ q = x.mb ∨ ∃ i P s, x.ps i = some (P, s) ∧ s.fp q
/-- What a step of a server leaves: other blocks as they were; its own are its own, or new ones. -/
structure SrvTo (b : Nat) (x x' : SrvX) (w w' : World) : Prop where
  chg : Chg (x.fp b) w w'
  fp : ∀ q, x'.fp b q → x.fp b q ∨ w.heap.size ≤ q
theorem SrvTo.refl (b : Nat) (x : SrvX) (w : World) : SrvTo b x x w w := ⟨Chg.refl, fun _ h => .inl h⟩
theorem SrvTo.trans {b : Nat} {x y z : SrvX} {w a c : World} (h1 : SrvTo b x y w a) (h2 : SrvTo b y z a c) : SrvTo b x z w c :=
  ⟨h1.chg.trans h2.chg h1.fp, fun q hq => (h2.fp q hq).elim (h1.fp q) (fun h => .inr (Nat.le_trans h1.chg.size h))⟩
theorem SrvAt.fp_ge {w : World} {b : Nat} {seed : Int} {V : WorldV} {x : SrvX} (h : SrvAt w b seed V x) {q : Nat} (hq : x.fp b q) : b ≤ q := by
  rcases hq with rfl | hq | rfl | ⟨i, P, s, hi, hq⟩
  · exact Nat.le_refl _
  · exact Nat.le_of_lt (h.hiR q hq)
  · exact Nat.le_of_lt h.hiM
  · exact Nat.le_of_lt (h.hiP i P s hi q hq)
theorem SrvAt.fp_lt {w : World} {b : Nat} {seed : Int} {V : WorldV} {x : SrvX} (h : SrvAt w b seed V x) {q : Nat} (hq : x.fp b q) : q < w.heap.size := by
  rcases hq with rfl | hq | rfl | ⟨i, P, s, hi, hq⟩
  · exact h.lt
  · exact h.ring.lt hq
  · exact h.lists.lt
  · exact h.peers.lt hi hq
theorem SrvAt.fp_cls {w : World} {b : Nat} {seed : Int} {V : WorldV} {x : SrvX} (h : SrvAt w b seed V x) {q : Nat} (hq : x.fp b q) : ∀ t, clsOf w q = some t → t ∈ 165 :: 3 :: peerTs := by
  intro t ht
  rcases hq with rfl | hq | rfl | ⟨i, P, s, hi, hq⟩
  · rw [h.blk.cls] at ht; cases ht; exact List.mem_cons_self
  · rw [h.ring.cls hq] at ht; cases ht; exact List.mem_cons_of_mem _ List.mem_cons_self
  · rw [h.lists.cls] at ht; cases ht
  · obtain ⟨t', h1, h2⟩ := (h.peers.at_ i P s hi).cls hq
    rw [h1] at ht
    cases ht
    exact List.mem_cons_of_mem _ (List.mem_cons_of_mem _ h2)
theorem SrvTo.bel {w w' : World} {b : Nat} {seed : Int} {V : WorldV} {x x' : SrvX} (h : SrvAt w b seed V x) (t : SrvTo b x x' w w') : Below b w w' := t.chg.to_below (Nat.le_of_lt h.lt) (fun _ hq => h.fp_ge hq)
theorem SrvTo.told {w w' : World} {b : Nat} {x : SrvX} {ps' : Peers} {f : Nat → PeerV → PeerV} (hp : PeersTo w w' x.ps ps' f) : SrvTo b x { x with ps := ps' } w w' := by
  refine ⟨hp.chg.mono fun q ⟨i, P, s, hi, hf⟩ => .inr (.inr (.inr ⟨i, P, s, hi, hf⟩)), fun q hq => ?_⟩
  rcases hq with rfl | hq | rfl | ⟨i, P, s, hi, hq⟩
  · exact .inl (.inl rfl)
  · exact .inl (.inr (.inl hq))
  · exact .inl (.inr (.inr (.inl rfl)))
  · have hi' : ps' i = some (P, s) := hi
    cases h0 : x.ps i with
    | none => rw [hp.none_ i h0] at hi'; cases hi'
    | some y =>
      obtain ⟨P0, s0⟩ := y
      obtain ⟨s1, h1, -, h3⟩ := hp.some_ i P0 s0 h0
      rw [hi'] at h1
      cases h1
      rcases h3 q hq with h4 | h4
      · exact .inl (.inr (.inr (.inr ⟨i, P0, s0, h0, h4⟩)))
      · exact .inr h4
/-- The server's block alone turned; peers went, or came with new blocks. -/
theorem SrvTo.own {w w' : World} {b : Nat} {x x' : SrvX} (hc : Chg (fun q => q = b) w w') (h1 : x'.rA = x.rA) (h2 : x'.mb = x.mb) (h3 : ∀ i P s, x'.ps i = some (P, s) → x.ps i = some (P, s) ∨ ∀ q, s.fp q → w.heap.size ≤ q) : SrvTo b x x' w w' := by
  refine ⟨hc.mono fun q hq => .inl hq, fun q hq => ?_⟩
  rcases hq with rfl | hq | rfl | ⟨i, P, s, hi, hq⟩
  · exact .inl (.inl rfl)
  · exact .inl (.inr (.inl (h1 ▸ hq)))
  · exact .inl (.inr (.inr (.inl h2)))
  · rcases h3 i P s hi with h4 | h4
    · exact .inl (.inr (.inr (.inr ⟨i, P, s, h4, hq⟩)))
    · exact .inr (h4 q hq)
theorem SrvTo.below {w w' : World} {b : Nat} {x : SrvX} (hb : Below w.heap.size w w') : SrvTo b x x w w' := ⟨Chg.below Chg.refl hb (Nat.le_refl _), fun _ h => .inl h⟩
/-- Blocks that are none of a server's turned. -/
theorem SrvAt.keep {w w' : World} {b : Nat} {seed : Int} {V : WorldV} {x : SrvX} (h : SrvAt w b seed V x) (h1 : ∀ q, q < b → w'.heap[q]? = w.heap[q]?) (h2 : ∀ q, clsOf w q = some 55 → w'.heap[q]? = w.heap[q]?) (h3 : ∀ q, x.fp b q → w'.heap[q]? = w.heap[q]?) : SrvAt w' b seed V x :=
  ⟨(h3 b (.inl rfl)).trans h.blk, h.wld.keepT h1 h2, h.ring.keep (fun g hg => h3 g (.inr (.inl hg))), h.lists.keep (h3 _ (.inr (.inr (.inl rfl)))), h.past.keep h2, h.peers.keep (fun i P s hi q hq => h3 q (.inr (.inr (.inr ⟨i, P, s, hi, hq⟩)))), h.hiR, h.hiM, h.hiP⟩
end Go.Proofs.YtojbijapdkohlaaGreatDoor
