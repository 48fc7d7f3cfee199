/- Layer 21: a server, told whole: its block, its world, its ring, its peers. Layer 21: a server is made. (Printed by gen_srvnew.py.) Layer 21: a slot's peer, asked of any server; whether it is taken. Layer 21: a peer comes, or goes, in a server told whole. Layer 19: an intake with nothing in it: Fill(1), Take(2). -/
import Derived.Test.YtojbijapdkohlaaGreatDoorQ04SrvTell
import Derived.Test.YtojbijapdkohlaaGreatDoorQ20RingX
import Derived.Test.YtojbijapdkohlaaGreatDoorQ03SrvPut
import Derived.Test.YtojbijapdkohlaaGreatDoorWNew
set_option linter.unusedSimpArgs false
set_option linter.unusedVariables false
namespace Go.Proofs.YtojbijapdkohlaaGreatDoor
open Go.RowKit
def peerTs : List TypeId := [203, 95, 9, 280, 121]
theorem PeerAt.cls {w : World} {P : PeerV} {s : PeerS} (h : PeerAt w P s) {q : Nat} (hq : s.fp q) : ∃ t, clsOf w q = some t ∧ t ∈ peerTs := by
  rcases hq with rfl | rfl | hq | hq | hq
  · exact ⟨_, h.blk.cls, by decide⟩
  · exact ⟨_, h.ink.cls, by decide⟩
  · exact ⟨_, h.op.cls hq, by decide⟩
  · exact ⟨_, h.lines.cls hq, by decide⟩
  · exact ⟨_, h.queue.cls hq, by decide⟩
theorem PeersAt.far {w : World} {ps : Peers} {q : Nat} (h : PeersAt w ps) (hq : ∀ t, clsOf w q = some t → t ∉ peerTs) : ∀ i P s, ps i = some (P, s) → ¬ s.fp q := fun i P s hi hf => by
  obtain ⟨t, h1, h2⟩ := (h.at_ i P s hi).cls hf
  exact hq t h1 h2
theorem PeersAt.lt {w : World} {ps : Peers} {q i : Nat} {P : PeerV} {s : PeerS} (h : PeersAt w ps) (hi : ps i = some (P, s)) (hq : s.fp q) : q < w.heap.size := (h.at_ i P s hi).lt hq
theorem PeersAt.below {w w' : World} {ps : Peers} (h : PeersAt w ps) (hb : Below w.heap.size w w') : PeersAt w' ps := h.keep fun i P s hi q hq => hb.block q (h.lt hi hq)
theorem Clear.keepT {b : Nat} {w w' : World} {v : WorldV} {s : WorldS} (h : Clear b w v s) (hb : ∀ q, q < b → w'.heap[q]? = w.heap[q]?) (ht : ∀ q, clsOf w q = some 55 → w'.heap[q]? = w.heap[q]?) : Clear b w' v s := by
  have hc : ∀ p : Addr, p.block < b → w'.cell? p = w.cell? p := fun p hp => by
    unfold World.cell?
    rw [hb _ hp]
  refine ⟨{ h.map with walls := h.map.walls.keep hc, spawns := h.map.spawns.keep hc }, ?_, h.nc⟩
  rcases h.l with h | ⟨⟨c0, h⟩, h2⟩
  · exact .inl (h.keep hc)
  · exact .inr ⟨⟨c0, h.keep (fun g hg => ht g (h.cls hg))⟩, h2⟩
structure SrvX where
  S : WorldS
  rA : Option Addr
  rn : Nat
  rc : Nat
  mb : Nat
  hs : List (Int × List EntV)
  ml : List (Int × Value)
  ps : Peers
def srvCells (seed : Int) (V : WorldV) (x : SrvX) : Array Value := #[.int .u64 seed, .int .i64 V.map.W, .int .i64 V.map.H, .slice x.S.ms.A x.S.ms.n x.S.ms.c, .slice x.S.ms.A2 x.S.ms.n2 x.S.ms.c2, .int .u64 V.st, .int .i64 V.tick, .slice x.S.A x.S.n x.S.c, .slice x.rA x.rn x.rc, .map (some x.mb), peerPtr x.ps 0, peerPtr x.ps 1, peerPtr x.ps 2, peerPtr x.ps 3, peerPtr x.ps 4, peerPtr x.ps 5, peerPtr x.ps 6, peerPtr x.ps 7, peerPtr x.ps 8]
structure SrvAt (w : World) (b : Nat) (seed : Int) (V : WorldV) (x : SrvX) : Prop where
  blk : Blk w b 165 (srvCells seed V x)
  wld : Clear b w V x.S
  ring : Row w 3 1 x.rA x.rn x.rc (intsV (x.hs.map (·.1)))
  lists : IMap w x.mb x.ml
  past : PastAt w x.ml x.hs
  peers : PeersAt w x.ps
  hiR : ∀ q, blkOf x.rA = some q → b < q
  hiM : b < x.mb
  hiP : ∀ i P s, x.ps i = some (P, s) → ∀ q, s.fp q → b < q
theorem SrvAt.lt {w : World} {b : Nat} {seed : Int} {V : WorldV} {x : SrvX} (h : SrvAt w b seed V x) : b < w.heap.size := h.blk.lt
theorem SrvAt.at_ {w : World} {b : Nat} {seed : Int} {V : WorldV} {x : SrvX} (h : SrvAt w b seed V x) : WorldAt w w.heap.size V x.S := h.wld.at_ (Nat.le_of_lt h.lt)
theorem SrvAt.below {w w' : World} {b : Nat} {seed : Int} {V : WorldV} {x : SrvX} (h : SrvAt w b seed V x) (hb : Below w.heap.size w w') : SrvAt w' b seed V x :=
  ⟨h.blk.below hb h.lt, h.wld.below hb (Nat.le_refl _) (Nat.le_of_lt h.lt), h.ring.keep (fun g hg => hb.block g (h.ring.lt hg)), h.lists.keep (hb.block _ h.lists.lt), h.past.keep (fun q hq => hb.block q (clsOf_lt hq)), h.peers.below hb, h.hiR, h.hiM, h.hiP⟩
/-- The world is another one: what a function of world gave, stored. -/
theorem SrvAt.world {w w1 w2 : World} {b : Nat} {seed : Int} {V V' : WorldV} {x : SrvX} {S' : WorldS} (h : SrvAt w b seed V x) (hat : WorldAt w1 w1.heap.size V' S') (hms : S'.ms = x.S.ms) (hm : V'.map = V.map) (hk : Held w w1 x.S S' V'.l) (hB : Below w.heap.size w w1)
    (hz : ∀ j : Nat, j < w1.heap.size → j ≠ b → w2.heap[j]? = w1.heap[j]?) (hb2 : Blk w2 b 165 (srvCells seed V' { x with S := S' })) : SrvAt w2 b seed V' { x with S := S' } := by
  have h1 := h.below hB
  have lb1 := h1.lt
  have hc : Clear b w1 V' S' := h.wld.held hat hms hm hk hB h.lt
  have hlt : ∀ q t, clsOf w1 q = some t → q < w1.heap.size := fun q t hq => by
    rcases Nat.lt_or_ge q w1.heap.size with hlt | hge
    · exact hlt
    · unfold clsOf at hq; rw [Array.getElem?_eq_none hge] at hq; cases hq
  have hsv : clsOf w1 b = some 165 := h1.blk.cls
  have hE : ∀ q, clsOf w1 q = some 55 → w2.heap[q]? = w1.heap[q]? := fun q hq => hz q (hlt q _ hq) (fun e => by rw [e, hsv] at hq; exact absurd (Option.some.inj hq) (by decide))
  refine ⟨hb2, hc.keepT (fun q hq => hz q (by omega) (by omega)) hE, ?_, ?_, h1.past.keep hE, ?_, h.hiR, h.hiM, h.hiP⟩
  · exact h1.ring.keep (fun g hg => hz g (h1.ring.lt hg) (by have := h.hiR g hg; omega))
  · exact h1.lists.keep (hz _ h1.lists.lt (by have := h.hiM; show x.mb ≠ b; omega))
  · exact h1.peers.keep (fun i P s hi q hq => hz q (h1.peers.lt hi hq) (by have := h.hiP i P s hi q hq; omega))
theorem PeersTo.ptr {w w' : World} {ps ps' : Peers} {f : Nat → PeerV → PeerV} (h : PeersTo w w' ps ps' f) (i : Nat) : peerPtr ps' i = peerPtr ps i := by
  unfold peerPtr
  cases hi : ps i with
  | none => rw [h.none_ i hi]
  | some y =>
    obtain ⟨P, s⟩ := y
    obtain ⟨s', h1, h2, -⟩ := h.some_ i P s hi
    rw [h1]
    show Value.pointer (some ⟨s'.b, 0, none⟩) = _
    rw [h2]
    rfl
/-- The peers turned, each in its own places. -/
theorem SrvAt.told {w w' : World} {b : Nat} {seed : Int} {V : WorldV} {x : SrvX} {ps' : Peers} {f : Nat → PeerV → PeerV} (h : SrvAt w b seed V x) (hp : PeersTo w w' x.ps ps' f) : SrvAt w' b seed V { x with ps := ps' } := by
  have lb := h.lt
  have far : ∀ q, q < w.heap.size → (∀ t, clsOf w q = some t → t ∉ peerTs) → w'.heap[q]? = w.heap[q]? := fun q hl ht => hp.chg.block q hl (fun ⟨i, P, s, hi, hf⟩ => h.peers.far ht i P s hi hf)
  have hlt : ∀ q t, clsOf w q = some t → q < w.heap.size := fun q t hq => by
    rcases Nat.lt_or_ge q w.heap.size with hlt | hge
    · exact hlt
    · unfold clsOf at hq; rw [Array.getElem?_eq_none hge] at hq; cases hq
  have hE : ∀ q, clsOf w q = some 55 → w'.heap[q]? = w.heap[q]? := fun q hq => far q (hlt q _ hq) (fun t ht => by rw [hq] at ht; cases ht; decide)
  refine ⟨?_, ?_, ?_, ?_, h.past.keep hE, hp.at_, h.hiR, h.hiM, ?_⟩
  · have e : srvCells seed V { x with ps := ps' } = srvCells seed V x := by
      unfold srvCells
      simp only [hp.ptr]
    rw [e]
    exact (far b lb (fun t ht => by rw [h.blk.cls] at ht; cases ht; decide)).trans h.blk
  · exact h.wld.keepT (fun q hq => hp.chg.block q (by omega) (fun ⟨i, P, s, hi, hf⟩ => by have := h.hiP i P s hi q hf; omega)) (fun q hq => far q (hlt q _ hq) (fun t ht => by rw [hq] at ht; cases ht; decide))
  · exact h.ring.keep (fun g hg => far g (h.ring.lt hg) (fun t ht => by rw [h.ring.cls hg] at ht; cases ht; decide))
  · exact h.lists.keep (far _ h.lists.lt (fun t ht => by rw [h.lists.cls] at ht; cases ht))
  · intro i P' s' hi' q hq
    have hi : ps' i = some (P', s') := hi'
    cases hi0 : x.ps i with
    | none => rw [hp.none_ i hi0] at hi; cases hi
    | some y =>
      obtain ⟨P, s⟩ := y
      obtain ⟨s2, h1, h2, h3⟩ := hp.some_ i P s hi0
      rw [hi] at h1
      cases h1
      rcases h3 q hq with h4 | h4
      · exact h.hiP i P s hi0 q h4
      · omega
theorem PeersTo.bel {w w' : World} {ps' : Peers} {f : Nat → PeerV → PeerV} {b : Nat} {seed : Int} {V : WorldV} {x : SrvX} (h : SrvAt w b seed V x) (hp : PeersTo w w' x.ps ps' f) : Below b w w' :=
  hp.chg.to_below (Nat.le_of_lt h.lt) (fun q ⟨i, P, s, hi, hf⟩ => Nat.le_of_lt (h.hiP i P s hi q hf))
/-- What the peers hold, without where. -/
def pvs (ps : Peers) (i : Nat) : Option PeerV := (ps i).map (·.1)
theorem PeersTo.pvs {w w' : World} {ps ps' : Peers} {f : Nat → PeerV → PeerV} (h : PeersTo w w' ps ps' f) (i : Nat) : pvs ps' i = (pvs ps i).map (f i) := by
  unfold Go.Proofs.YtojbijapdkohlaaGreatDoor.pvs
  cases hi : ps i with
  | none => rw [h.none_ i hi]; rfl
  | some y =>
    obtain ⟨P, s⟩ := y
    obtain ⟨s', h1, -⟩ := h.some_ i P s hi
    rw [h1]
    rfl
/-- One more peer turned. -/
theorem PeersTo.stepG {w wr w5 : World} {ps ps' : Peers} {f : Nat → PeerV → PeerV} (h : PeersTo w wr ps ps' f) (k : Nat) (P : PeerV) (s s' s5 : PeerS) (P5 : PeerV) (hk : ps k = some (P, s)) (hk' : ps' k = some (f k P, s'))
    (hc : Chg (fun q => s'.fp q) wr w5) (hp : PeerAt w5 P5 s5) (hsb : s5.b = s'.b) (hfp : ∀ q, s5.fp q → s'.fp q ∨ wr.heap.size ≤ q) :
    ∃ ps'', PeersTo w w5 ps ps'' (fun i P => if i = k then P5 else f i P) := by
  have h0 : k ≠ 0 := fun e => by have := h.at_.zero; rw [← e, hk'] at this; cases this
  have h9 : k < 9 := by
    rcases Nat.lt_or_ge k 9 with h1 | h1
    · exact h1
    · have := h.at_.top k h1; rw [hk'] at this; cases this
  obtain ⟨sk, hsk, hskb, hskf⟩ := h.some_ k P s hk
  have hse : sk = s' := by rw [hk'] at hsk; cases hsk; rfl
  subst hse
  refine ⟨ps'.set k (some (P5, s5)), ?_, ?_, ?_, ?_⟩
  · refine h.at_.set k h0 h9 _ _ hp fun j P' s'' hj hpj q hq => ⟨?_, fun hq2 => ?_⟩
    · exact hc.block q ((h.at_.at_ j P' s'' hpj).lt hq) (fun hh => h.at_.disj j k P' s'' _ _ hj hpj hk' q hq hh)
    · rcases hfp q hq2 with h2 | h2
      · exact h.at_.disj j k P' s'' _ _ hj hpj hk' q hq h2
      · have := (h.at_.at_ j P' s'' hpj).lt hq; omega
  · intro i hi
    unfold Peers.set
    rw [if_neg (fun e => by rw [e, hk] at hi; cases hi)]
    exact h.none_ i hi
  · intro i P' s'' hi
    unfold Peers.set
    by_cases hik : i = k
    · subst hik
      rw [hk] at hi
      cases hi
      refine ⟨s5, by rw [if_pos rfl, if_pos rfl], hsb.trans hskb, fun q hq => ?_⟩
      rcases hfp q hq with h2 | h2
      · exact hskf q h2
      · exact .inr (Nat.le_trans h.chg.size h2)
    · rw [if_neg hik, if_neg hik]
      exact h.some_ i P' s'' hi
  · refine h.chg.trans hc fun q hq => ?_
    rcases hskf q hq with h2 | h2
    · exact .inl ⟨k, P, s, hk, h2⟩
    · exact .inr h2
/-- The blocks that are a server's own, and that turn. -/
def SrvX.fp (b : Nat) (x : SrvX) (q : Nat) : Prop := q = b ∨ blkOf x.rA = some q ∨ q = x.mb ∨ ∃ i P s, x.ps i = some (P, s) ∧ s.fp q
/-- What a step of a server leaves: other blocks as they were; its own are its own, or new ones. -/
structure SrvTo (b : Nat) (x x' : SrvX) (w w' : World) : Prop where
  chg : Chg (x.fp b) w w'
  fp : ∀ q, x'.fp b q → x.fp b q ∨ w.heap.size ≤ q
theorem SrvTo.refl (b : Nat) (x : SrvX) (w : World) : SrvTo b x x w w := ⟨Chg.refl, fun _ h => .inl h⟩
theorem SrvTo.trans {b : Nat} {x y z : SrvX} {w a c : World} (h1 : SrvTo b x y w a) (h2 : SrvTo b y z a c) : SrvTo b x z w c :=
  ⟨h1.chg.trans h2.chg h1.fp, fun q hq => (h2.fp q hq).elim (h1.fp q) (fun h => .inr (Nat.le_trans h1.chg.size h))⟩
theorem SrvAt.fp_ge {w : World} {b : Nat} {seed : Int} {V : WorldV} {x : SrvX} (h : SrvAt w b seed V x) {q : Nat} (hq : x.fp b q) : b ≤ q := by
  rcases hq with rfl | hq | rfl | ⟨i, P, s, hi, hq⟩
  · exact Nat.le_refl _
  · exact Nat.le_of_lt (h.hiR q hq)
  · exact Nat.le_of_lt h.hiM
  · exact Nat.le_of_lt (h.hiP i P s hi q hq)
theorem SrvAt.fp_lt {w : World} {b : Nat} {seed : Int} {V : WorldV} {x : SrvX} (h : SrvAt w b seed V x) {q : Nat} (hq : x.fp b q) : q < w.heap.size := by
  rcases hq with rfl | hq | rfl | ⟨i, P, s, hi, hq⟩
  · exact h.lt
  · exact h.ring.lt hq
  · exact h.lists.lt
  · exact h.peers.lt hi hq
theorem SrvAt.fp_cls {w : World} {b : Nat} {seed : Int} {V : WorldV} {x : SrvX} (h : SrvAt w b seed V x) {q : Nat} (hq : x.fp b q) : ∀ t, clsOf w q = some t → t ∈ 165 :: 3 :: peerTs := by
  intro t ht
  rcases hq with rfl | hq | rfl | ⟨i, P, s, hi, hq⟩
  · rw [h.blk.cls] at ht; cases ht; exact List.mem_cons_self
  · rw [h.ring.cls hq] at ht; cases ht; exact List.mem_cons_of_mem _ List.mem_cons_self
  · rw [h.lists.cls] at ht; cases ht
  · obtain ⟨t', h1, h2⟩ := (h.peers.at_ i P s hi).cls hq
    rw [h1] at ht
    cases ht
    exact List.mem_cons_of_mem _ (List.mem_cons_of_mem _ h2)
theorem SrvTo.bel {w w' : World} {b : Nat} {seed : Int} {V : WorldV} {x x' : SrvX} (h : SrvAt w b seed V x) (t : SrvTo b x x' w w') : Below b w w' := t.chg.to_below (Nat.le_of_lt h.lt) (fun _ hq => h.fp_ge hq)
theorem SrvTo.told {w w' : World} {b : Nat} {x : SrvX} {ps' : Peers} {f : Nat → PeerV → PeerV} (hp : PeersTo w w' x.ps ps' f) : SrvTo b x { x with ps := ps' } w w' := by
  refine ⟨hp.chg.mono fun q ⟨i, P, s, hi, hf⟩ => .inr (.inr (.inr ⟨i, P, s, hi, hf⟩)), fun q hq => ?_⟩
  rcases hq with rfl | hq | rfl | ⟨i, P, s, hi, hq⟩
  · exact .inl (.inl rfl)
  · exact .inl (.inr (.inl hq))
  · exact .inl (.inr (.inr (.inl rfl)))
  · have hi' : ps' i = some (P, s) := hi
    cases h0 : x.ps i with
    | none => rw [hp.none_ i h0] at hi'; cases hi'
    | some y =>
      obtain ⟨P0, s0⟩ := y
      obtain ⟨s1, h1, -, h3⟩ := hp.some_ i P0 s0 h0
      rw [hi'] at h1
      cases h1
      rcases h3 q hq with h4 | h4
      · exact .inl (.inr (.inr (.inr ⟨i, P0, s0, h0, h4⟩)))
      · exact .inr h4
/-- The server's block alone turned; peers went, or came with new blocks. -/
theorem SrvTo.own {w w' : World} {b : Nat} {x x' : SrvX} (hc : Chg (fun q => q = b) w w') (h1 : x'.rA = x.rA) (h2 : x'.mb = x.mb) (h3 : ∀ i P s, x'.ps i = some (P, s) → x.ps i = some (P, s) ∨ ∀ q, s.fp q → w.heap.size ≤ q) : SrvTo b x x' w w' := by
  refine ⟨hc.mono fun q hq => .inl hq, fun q hq => ?_⟩
  rcases hq with rfl | hq | rfl | ⟨i, P, s, hi, hq⟩
  · exact .inl (.inl rfl)
  · exact .inl (.inr (.inl (h1 ▸ hq)))
  · exact .inl (.inr (.inr (.inl h2)))
  · rcases h3 i P s hi with h4 | h4
    · exact .inl (.inr (.inr (.inr ⟨i, P, s, h4, hq⟩)))
    · exact .inr (h4 q hq)
theorem SrvTo.below {w w' : World} {b : Nat} {x : SrvX} (hb : Below w.heap.size w w') : SrvTo b x x w w' := ⟨Chg.below Chg.refl hb (Nat.le_refl _), fun _ h => .inl h⟩
/-- Blocks that are none of a server's turned. -/
theorem SrvAt.keep {w w' : World} {b : Nat} {seed : Int} {V : WorldV} {x : SrvX} (h : SrvAt w b seed V x) (h1 : ∀ q, q < b → w'.heap[q]? = w.heap[q]?) (h2 : ∀ q, clsOf w q = some 55 → w'.heap[q]? = w.heap[q]?) (h3 : ∀ q, x.fp b q → w'.heap[q]? = w.heap[q]?) : SrvAt w' b seed V x :=
  ⟨(h3 b (.inl rfl)).trans h.blk, h.wld.keepT h1 h2, h.ring.keep (fun g hg => h3 g (.inr (.inl hg))), h.lists.keep (h3 _ (.inr (.inr (.inl rfl)))), h.past.keep h2, h.peers.keep (fun i P s hi q hq => h3 q (.inr (.inr (.inr ⟨i, P, s, hi, hq⟩)))), h.hiR, h.hiM, h.hiP⟩
end Go.Proofs.YtojbijapdkohlaaGreatDoor
set_option linter.unusedSimpArgs false
set_option linter.unusedVariables false
namespace Go.Proofs.YtojbijapdkohlaaGreatDoor
open Go.RowKit
def SrvNew (V : WorldV) (seed : Int) (w : World) (e : Ending) (w' : World) : Prop :=
  ∃ (b : Nat) (S : WorldS) (A3 : Option Addr) (c3 mb : Nat), e = .returned (.tuple #[.pointer (some ⟨b, 0, none⟩), .int .i64 0]) ∧ Blk w' b 165 #[.int .u64 seed, .int .i64 V.map.W, .int .i64 V.map.H, .slice S.ms.A S.ms.n S.ms.c, .slice S.ms.A2 S.ms.n2 S.ms.c2, .int .u64 V.st, .int .i64 V.tick, .slice S.A S.n S.c, .slice A3 1 c3, .map (some mb), .pointer none, .pointer none, .pointer none, .pointer none, .pointer none, .pointer none, .pointer none, .pointer none, .pointer none] ∧ WorldAt w' b V S ∧ w.heap.size ≤ b ∧ Below w.heap.size w w'
theorem twoBoxesS (w : World) (cs1 cs2 : Array Value) (t1 t2 : TypeId) : Below w.heap.size w ((w.alloc (.cells cs1 t1)).alloc (.cells cs2 t2)) ∧ Blk ((w.alloc (.cells cs1 t1)).alloc (.cells cs2 t2)) w.heap.size t1 cs1 ∧ Blk ((w.alloc (.cells cs1 t1)).alloc (.cells cs2 t2)) (w.heap.size + 1) t2 cs2 := by
  refine ⟨(by repeat (first | with_reducible exact Below.refl _ _ | with_reducible assumption | with_reducible refine Below.drew ?_ | with_reducible refine below_drews ?_ _ | with_reducible refine Below.alloc ?_ (by first | omega | (simp; done) | (simp; omega)) _ | with_reducible refine Below.setCell ?_ (by first | omega | (simp; done) | (simp; omega)) _)), (Blk.new _ _ _).alloc _, ?_⟩
  have := Blk.new (w.alloc (.cells cs1 t1)) t2 cs2
  simpa using this
theorem WorldAt.blkA {w : World} {B : Nat} {v : WorldV} {s : WorldS} (h : WorldAt w B v s) (hn : 0 < s.n) : ∀ q, blkOf s.A = some q → q < B := by
  intro q hq
  obtain ⟨g, off, hA, hg, -⟩ := h.l.flat hn (by decide)
  rw [hA] at hq
  have : g = q := by simpa [blkOf] using hq
  omega
set_option maxRecDepth 100000 in
set_option maxHeartbeats 8000000 in
theorem srvNewYes (m : MapV) (s : MapS) (seed : Int) (balls : Nat) (V : WorldV) (hV : newF m seed balls = V) (w : World) (h : MapAt w w.heap.size m s) (hf : formedB m = true) (hb : balls ≤ 8) (hn1 : s.n ≤ 100000) (hn2 : s.n2 ≤ 100000) (hn3 : V.l.length ≤ 100) (hpos : 0 < V.l.length) :
    Calls Tryz.prog 44 #[(.agg #[.int .i64 m.W, .int .i64 m.H, .slice s.A s.n s.c, .slice s.A2 s.n2 s.c2]), .int .u64 seed, .int .i64 balls] w (SrvNew V seed w) := by
  have HW := Lib.hid (fun W (hW : Below w.heap.size w W) => wNewYes m s seed balls W ((h.below hW).upto hW.size) hf hb hn1 hn2)
  rw [hV] at HW
  clear h hf hV
  go_enter Tryz.func44, Tryz.ntmps44
  go_wp2_with fail
  refine (HW.out _ (by repeat (first | with_reducible exact Below.refl _ _ | with_reducible assumption | with_reducible refine Below.drew ?_ | with_reducible refine below_drews ?_ _ | with_reducible refine Below.alloc ?_ (by first | omega | (simp; done) | (simp; omega)) _ | with_reducible refine Below.setCell ?_ (by first | omega | (simp; done) | (simp; omega)) _))).mono ?_
  rintro e w1 ⟨S, rfl, hat, hb1⟩
  have HB := Lib.hid ((Below.alloc (Below.refl _ _) (Nat.le_refl _) _).trans (hb1.mono (by simp)) : Below w.heap.size w w1)
  have HAT := Lib.hid hat
  have hs1 := HB.out.size
  clear hb1 hat
  go_upto_region 5 with (fail)
  obtain ⟨B2, b1, b2⟩ := twoBoxesS w1 #[.int .i64 V.map.W, .int .i64 V.map.H, .slice S.ms.A S.ms.n S.ms.c, .slice S.ms.A2 S.ms.n2 S.ms.c2, .int .u64 V.st, .int .i64 V.tick, .slice S.A S.n S.c] #[.int .u64 seed, .int .i64 V.map.W, .int .i64 V.map.H, .slice S.ms.A S.ms.n S.ms.c, .slice S.ms.A2 S.ms.n2 S.ms.c2, .int .u64 V.st, .int .i64 V.tick, .slice S.A S.n S.c, .slice none 0 0, .map none, .pointer none, .pointer none, .pointer none, .pointer none, .pointer none, .pointer none, .pointer none, .pointer none, .pointer none] 46 165
  generalize ((w1.alloc (.cells #[.int .i64 V.map.W, .int .i64 V.map.H, .slice S.ms.A S.ms.n S.ms.c, .slice S.ms.A2 S.ms.n2 S.ms.c2, .int .u64 V.st, .int .i64 V.tick, .slice S.A S.n S.c] 46)).alloc (.cells #[.int .u64 seed, .int .i64 V.map.W, .int .i64 V.map.H, .slice S.ms.A S.ms.n S.ms.c, .slice S.ms.A2 S.ms.n2 S.ms.c2, .int .u64 V.st, .int .i64 V.tick, .slice S.A S.n S.c, .slice none 0 0, .map none, .pointer none, .pointer none, .pointer none, .pointer none, .pointer none, .pointer none, .pointer none, .pointer none, .pointer none] 165)) = w2 at B2 b1 b2 ⊢
  have hl2 := b2.lt
  have z6 : w2.cell? ⟨w1.heap.size, 6, none⟩ = some (.slice S.A S.n S.c) := b1.cell 6
  have HB2 := Lib.hid B2
  have HS2 := Lib.hid b2
  have hlen := HAT.out.len
  have hA := HAT.out.blkA (by omega)
  have HL2 := Lib.hid ((HAT.out.l.below B2).upto B2.size)
  have HA := Lib.hid (show ∀ q, blkOf S.A = some q → q ≠ w1.heap.size + 1 from fun q hq => by have := hA q hq; omega)
  clear B2 b1 b2 hA
  go_cut [] (fun wx => ∃ (A3 : Option Addr) (c3 mb : Nat), Blk wx (w1.heap.size + 1) 165 #[.int .u64 seed, .int .i64 V.map.W, .int .i64 V.map.H, .slice S.ms.A S.ms.n S.ms.c, .slice S.ms.A2 S.ms.n2 S.ms.c2, .int .u64 V.st, .int .i64 V.tick, .slice S.A S.n S.c, .slice A3 1 c3, .map (some mb), .pointer none, .pointer none, .pointer none, .pointer none, .pointer none, .pointer none, .pointer none, .pointer none, .pointer none] ∧ Chg (fun q => q = w1.heap.size + 1) w2 wx)
  case first =>
    go_region_held3 (fun w' => w'.cell? ⟨w1.heap.size, 6, none⟩ = some (.slice S.A S.n S.c)) (with_reducible (first | exact z6 | exact z7 | go_keep)) (first | (go_at_call 90; refine (ringPutNew (w1.heap.size + 1) 165 _ 0 V.l S.A S.n S.c _ (by first | exact HS2.out | exact HS2.out.drew) (by decide) rfl rfl (by first | exact HL2.out | exact HL2.out.drew) HA.out (by omega) (by omega) (by omega)).mono ?_; rintro e w3 ⟨rfl, A3, c3, mb, hb3, hr3, hA3, hmb, hch⟩; simp only [List.setIfInBounds_toArray, List.set_cons_succ, List.set_cons_zero] at hb3; have z7 : w3.cell? ⟨w1.heap.size, 6, none⟩ = some (.slice S.A S.n S.c) := (hch.cellF (p := ⟨w1.heap.size, 6, none⟩) (by show w1.heap.size < _; first | omega | (simp; omega)) (by show ¬ (w1.heap.size = w1.heap.size + 1); omega)).trans z6; have HB3 := Lib.hid hb3; have HCH := Lib.hid hch; clear hb3 hr3 hA3 hmb hch))
    all_goals go_wp2_with fail
    all_goals go_meet
    all_goals exact ⟨A3, c3, mb, HB3.out, ⟨HCH.out.os, HCH.out.tape, HCH.out.output, HCH.out.size, HCH.out.block⟩⟩
  case rest =>
    obtain ⟨A3, c3, mb, hb3, hch⟩ := hcut
    have X := Lib.hid (show _ ∧ _ from ⟨hb3, hch⟩)
    clear hb3 hch z6
    go_wp2
    go_ret2
    refine ⟨w1.heap.size + 1, S, A3, c3, mb, rfl, X.out.1, ?_, by omega, ?_⟩
    · have h1 := (HAT.out.below HB2.out)
      have h2 : Below w1.heap.size w2 wc := X.out.2.to_below (by have := HB2.out.size; omega) (fun k hk => by omega)
      exact (h1.below h2).upto (by omega)
    · have h2 : Below w.heap.size w2 wc := X.out.2.to_below (by have := HB2.out.size; omega) (fun k hk => by omega)
      exact HB.out.trans ((HB2.out.mono hs1).trans h2)
end Go.Proofs.YtojbijapdkohlaaGreatDoor
set_option linter.unusedSimpArgs false
set_option linter.unusedVariables false
namespace Go.Proofs.YtojbijapdkohlaaGreatDoor
open Go.RowKit
set_option maxRecDepth 100000 in
theorem srvPeer (b k : Nat) (h1 : 1 ≤ k) (h8 : k ≤ 8) (v : Value) (w : World) (hx : w.cell? ⟨b, 10 + k, none⟩ = some v) :
    Calls Tryz.prog 91 #[.pointer (some ⟨b, 0, none⟩), .int .i64 (k : Nat)] w fun e w' => e = .returned v ∧ w = w' := by
  have d1 : decide ((k : Int) < 1) = false := decide_eq_false (by omega)
  have d1n : decide (k < 1) = false := decide_eq_false (by omega)
  have d2 : decide ((8 : Int) < (k : Int)) = false := decide_eq_false (by omega)
  have d2n : decide (8 < k) = false := decide_eq_false (by omega)
  have d3 : (k : Int) < 9 := by omega
  have d3n : k < 9 := by omega
  go_enter Tryz.func91, Tryz.ntmps91
  go_wp2
  go_ret
  exact ⟨rfl, rfl⟩
def isTaken (ps : Peers) (k : Nat) : Bool := (ps k).isSome
set_option maxRecDepth 100000 in
theorem srvConnected (ps : Peers) (b k : Nat) (h1 : 1 ≤ k) (h8 : k ≤ 8) (w : World) (hx : w.cell? ⟨b, 10 + k, none⟩ = some (peerPtr ps k)) :
    Calls Tryz.prog 48 #[.pointer (some ⟨b, 0, none⟩), .int .i64 (k : Nat)] w fun e w' => e = .returned (.bool (isTaken ps k)) ∧ w = w' := by
  unfold isTaken
  unfold peerPtr at hx
  cases hp : ps k with
  | none =>
    rw [hp] at hx
    have HP := Lib.hid (srvPeer b k h1 h8 (.pointer none) w hx)
    clear hx hp
    go_enter Tryz.func48, Tryz.ntmps48
    go_wp2_with fail
    refine HP.out.mono ?_
    rintro e w1 ⟨rfl, rfl⟩
    go_wp2
    go_ret
    exact ⟨rfl, rfl⟩
  | some y =>
    rw [hp] at hx
    obtain ⟨P, s⟩ := y
    have HP := Lib.hid (srvPeer b k h1 h8 (.pointer (some ⟨s.b, 0, none⟩)) w hx)
    clear hx hp
    go_enter Tryz.func48, Tryz.ntmps48
    go_wp2_with fail
    refine HP.out.mono ?_
    rintro e w1 ⟨rfl, rfl⟩
    go_wp2
    go_ret
    exact ⟨rfl, rfl⟩
end Go.Proofs.YtojbijapdkohlaaGreatDoor
set_option linter.unusedSimpArgs false
set_option linter.unusedVariables false
namespace Go.Proofs.YtojbijapdkohlaaGreatDoor
open Go.RowKit
theorem srvCells_set (seed : Int) (V : WorldV) (x : SrvX) (k : Nat) (h1 : 1 ≤ k) (h8 : k ≤ 8) (y : Option (PeerV × PeerS)) : srvCells seed V { x with ps := x.ps.set k y } = (srvCells seed V x).setIfInBounds (10 + k) (.pointer (y.map fun z => ⟨z.2.b, 0, none⟩)) := by
  have h : k = 1 ∨ k = 2 ∨ k = 3 ∨ k = 4 ∨ k = 5 ∨ k = 6 ∨ k = 7 ∨ k = 8 := by omega
  rcases h with rfl | rfl | rfl | rfl | rfl | rfl | rfl | rfl <;> rfl
theorem srvCells_at (seed : Int) (V : WorldV) (x : SrvX) (k : Nat) (h8 : k < 9) : (srvCells seed V x)[10 + k]? = some (peerPtr x.ps k) := by
  have h : k = 0 ∨ k = 1 ∨ k = 2 ∨ k = 3 ∨ k = 4 ∨ k = 5 ∨ k = 6 ∨ k = 7 ∨ k = 8 := by omega
  rcases h with rfl | rfl | rfl | rfl | rfl | rfl | rfl | rfl | rfl <;> rfl
theorem SrvAt.slot {w : World} {b : Nat} {seed : Int} {V : WorldV} {x : SrvX} (h : SrvAt w b seed V x) {k : Nat} (h8 : k < 9) : w.cell? ⟨b, 10 + k, none⟩ = some (peerPtr x.ps k) := (h.blk.cell _).trans (srvCells_at seed V x k h8)
def peerNew : PeerV := ⟨0, false, 0, 0, [], 0, [], 0, [], 16, 0, -1, 0⟩
def peerNewS (pb ib : Nat) : PeerS := ⟨pb, none, 0, 0, none, 0, 0, ib, none, 0, 0⟩
theorem peerNew_cells (pb ib : Nat) : peerCells peerNew (peerNewS pb ib) = #[.int .u16 0, .bool false, .int .u16 0, .int .u32 0, .slice none 0 0, .int .u32 0, .slice none 0 0, .pointer (some ⟨ib, 0, none⟩), .int .u32 0, .int .i64 (-1), .int .i64 0] := rfl
/-- A new peer's blocks stand, its place is stored. -/
theorem SrvAt.newPeer {w w3 : World} {b ib k : Nat} {seed : Int} {V : WorldV} {x : SrvX} (h : SrvAt w b seed V x) (h1 : 1 ≤ k) (h8 : k ≤ 8) (hB : Below w.heap.size w w3) (hib : Blk w3 ib 280 #[.int .u32 0, .slice none 0 0, .int .i64 16]) (hge : w.heap.size ≤ ib) :
    SrvAt ((w3.setCell ⟨b, 10 + k, none⟩ (.pointer (some ⟨w3.heap.size, 0, none⟩))).alloc (.cells (peerCells peerNew (peerNewS w3.heap.size ib)) 203)) b seed V { x with ps := x.ps.set k (some (peerNew, peerNewS w3.heap.size ib)) } := by
  have h3 := h.below hB
  have lb := h.lt
  have lb3 := h3.lt
  have lib := hib.lt
  have hs := hB.size
  have hz : ∀ q, q < w3.heap.size → q ≠ b → ((w3.setCell ⟨b, 10 + k, none⟩ (.pointer (some ⟨w3.heap.size, 0, none⟩))).alloc (.cells (peerCells peerNew (peerNewS w3.heap.size ib)) 203)).heap[q]? = w3.heap[q]? := fun q hq hne => (Below.heap_alloc _ _ q (by simpa [World.setCell] using hq)).trans (Below.heap_setCell _ _ _ q hne)
  have hsz : (w3.setCell ⟨b, 10 + k, none⟩ (.pointer (some ⟨w3.heap.size, 0, none⟩))).heap.size = w3.heap.size := by simp [World.setCell]
  have hblk : Blk ((w3.setCell ⟨b, 10 + k, none⟩ (.pointer (some ⟨w3.heap.size, 0, none⟩))).alloc (.cells (peerCells peerNew (peerNewS w3.heap.size ib)) 203)) w3.heap.size 203 (peerCells peerNew (peerNewS w3.heap.size ib)) := by
    have := Blk.new (w3.setCell ⟨b, 10 + k, none⟩ (.pointer (some ⟨w3.heap.size, 0, none⟩))) 203 (peerCells peerNew (peerNewS w3.heap.size ib))
    rwa [hsz] at this
  have hp : PeerAt ((w3.setCell ⟨b, 10 + k, none⟩ (.pointer (some ⟨w3.heap.size, 0, none⟩))).alloc (.cells (peerCells peerNew (peerNewS w3.heap.size ib)) 203)) peerNew (peerNewS w3.heap.size ib) :=
    ⟨hblk, Row.nil_, Row.nil_, (hz ib lib (by omega)).trans hib, Row.nil_, by decide⟩
  have hb : Blk ((w3.setCell ⟨b, 10 + k, none⟩ (.pointer (some ⟨w3.heap.size, 0, none⟩))).alloc (.cells (peerCells peerNew (peerNewS w3.heap.size ib)) 203)) b 165 ((srvCells seed V x).setIfInBounds (10 + k) (.pointer (some ⟨w3.heap.size, 0, none⟩))) := (h3.blk.set_ _ _).alloc _
  have hfp : ∀ q, (peerNewS w3.heap.size ib).fp q → q = w3.heap.size ∨ q = ib := fun q hq => by
    rcases hq with hq | hq | hq | hq | hq
    · exact .inl hq
    · exact .inr hq
    · cases hq
    · cases hq
    · cases hq
  generalize ((w3.setCell ⟨b, 10 + k, none⟩ (.pointer (some ⟨w3.heap.size, 0, none⟩))).alloc (.cells (peerCells peerNew (peerNewS w3.heap.size ib)) 203)) = wf at hz hblk hp hb ⊢
  have hent : ∀ q t, clsOf w3 q = some t → q < w3.heap.size := fun q t hq => by
    rcases Nat.lt_or_ge q w3.heap.size with hlt | hge
    · exact hlt
    · unfold clsOf at hq; rw [Array.getElem?_eq_none hge] at hq; cases hq
  have hsv : clsOf w3 b = some 165 := h3.blk.cls
  have hE : ∀ q, clsOf w3 q = some 55 → wf.heap[q]? = w3.heap[q]? := fun q hq => hz q (hent q _ hq) (fun e => by rw [e, hsv] at hq; exact absurd (Option.some.inj hq) (by decide))
  refine ⟨?_, ?_, ?_, ?_, h3.past.keep hE, ?_, h.hiR, h.hiM, ?_⟩
  · rw [srvCells_set seed V x k h1 h8]
    exact hb
  · exact h3.wld.keepT (fun q hq => hz q (by omega) (by omega)) (fun q hq => hz q (hent q _ hq) (fun e => by rw [e, hsv] at hq; exact absurd (Option.some.inj hq) (by decide)))
  · exact h3.ring.keep (fun g hg => hz g (h3.ring.lt hg) (by have := h.hiR g hg; omega))
  · exact h3.lists.keep (hz _ h3.lists.lt (by have := h.hiM; omega))
  · exact h3.peers.set k (by omega) (by omega) peerNew _ hp (fun j P' s' hj hpj q hq => ⟨hz q (h3.peers.lt hpj hq) (by have := h.hiP j P' s' hpj q hq; omega), fun hq2 => by
      have := h.peers.lt hpj hq
      rcases hfp q hq2 with e | e <;> omega⟩)
  · intro i P s hi' q hq
    have hi : x.ps.set k (some (peerNew, peerNewS w3.heap.size ib)) i = some (P, s) := hi'
    unfold Peers.set at hi
    split at hi
    · cases hi
      rcases hfp q hq with e | e <;> omega
    · exact h.hiP i P s hi q hq
/-- A peer's place is cleared. -/
theorem SrvAt.noPeer {w : World} {b k : Nat} {seed : Int} {V : WorldV} {x : SrvX} (h : SrvAt w b seed V x) (h1 : 1 ≤ k) (h8 : k ≤ 8) : SrvAt (w.setCell ⟨b, 10 + k, none⟩ (.pointer none)) b seed V { x with ps := x.ps.set k none } := by
  have hz : ∀ q, q ≠ b → (w.setCell ⟨b, 10 + k, none⟩ (.pointer none)).heap[q]? = w.heap[q]? := fun q hne => Below.heap_setCell _ _ _ q hne
  have hb : Blk (w.setCell ⟨b, 10 + k, none⟩ (.pointer none)) b 165 ((srvCells seed V x).setIfInBounds (10 + k) (.pointer none)) := h.blk.set_ _ _
  generalize w.setCell ⟨b, 10 + k, none⟩ (.pointer none) = wf at hz hb ⊢
  have hsv : clsOf w b = some 165 := h.blk.cls
  have hP : ∀ i P s, (x.ps.set k none) i = some (P, s) → x.ps i = some (P, s) := fun i P s hi => by
    unfold Peers.set at hi
    split at hi
    · cases hi
    · exact hi
  have hE : ∀ q, clsOf w q = some 55 → wf.heap[q]? = w.heap[q]? := fun q hq => hz q (fun e => by rw [e, hsv] at hq; exact absurd (Option.some.inj hq) (by decide))
  refine ⟨?_, ?_, ?_, ?_, h.past.keep hE, ?_, h.hiR, h.hiM, fun i P s hi => h.hiP i P s (hP i P s hi)⟩
  · rw [srvCells_set seed V x k h1 h8]
    exact hb
  · exact h.wld.keepT (fun q hq => hz q (by omega)) (fun q hq => hz q (fun e => by rw [e, hsv] at hq; exact absurd (Option.some.inj hq) (by decide)))
  · exact h.ring.keep (fun g hg => hz g (by have := h.hiR g hg; omega))
  · exact h.lists.keep (hz _ (by have := h.hiM; omega))
  · exact (h.peers.drop k).keep (fun i P s hi q hq => hz q (by have := h.hiP i P s (hP i P s hi) q hq; omega))
theorem pvs_set (ps : Peers) (k : Nat) (y : Option (PeerV × PeerS)) (i : Nat) : pvs (ps.set k y) i = if i = k then y.map (·.1) else pvs ps i := by
  unfold pvs Peers.set
  split <;> rfl
end Go.Proofs.YtojbijapdkohlaaGreatDoor
set_option linter.unusedSimpArgs false
set_option linter.unusedVariables false
namespace Go.Proofs.YtojbijapdkohlaaGreatDoor
open Go.RowKit
def fillT (t : Int) : Int := t + min 1 (16 - t)
set_option maxRecDepth 100000 in
theorem bktFill (last tok : Int) (A : Option Addr) (n c ib : Nat) (w : World) (hb : Blk w ib 280 #[.int .u32 last, .slice A n c, .int .i64 tok]) (h0 : 0 ≤ tok) (h16 : tok ≤ 16) :
    Calls Tryz.prog 96 #[.pointer (some ⟨ib, 0, none⟩), .int .i64 1] w fun e w' => e = .returned (.tuple #[]) ∧ Blk w' ib 280 #[.int .u32 last, .slice A n c, .int .i64 (fillT tok)] ∧ Chg (fun q => q = ib) w w' := by
  have z2 : w.cell? ⟨ib, 2, none⟩ = some (.int .i64 tok) := hb.cell 2
  have f2 : w.frozen? ⟨ib, 2, none⟩ = false := hb.frozen 2
  have HB := Lib.hid hb
  clear hb
  go_enter Tryz.func96, Tryz.ntmps96
  go_wp2
  go_region
  all_goals
    first | go_end0 | refine bodyPost_ret (results_none rfl _ _ _) rfl ?_
    have e : (tok + if 16 - tok < 1 then 16 - tok else 1) = fillT tok := by unfold fillT; split <;> omega
    rw [e]
    have e1 : Blk (w.setCell ⟨ib, 2, none⟩ (.int .i64 (fillT tok))) ib 280 #[.int .u32 last, .slice A n c, .int .i64 (fillT tok)] := HB.out.set_ 2 (.int .i64 (fillT tok))
    exact ⟨rfl, e1, (Chg.setCell (F := fun q => q = ib) Chg.refl (p := ⟨ib, 2, none⟩) (.inl rfl) _).drewN 1⟩
set_option maxRecDepth 100000 in
theorem bktTokens (tok : Int) (ib : Nat) (w : World) (z2 : w.cell? ⟨ib, 2, none⟩ = some (.int .i64 tok)) :
    Calls Tryz.prog 162 #[.pointer (some ⟨ib, 0, none⟩)] w fun e w' => e = .returned (.int .i64 tok) ∧ w = w' := by
  go_enter Tryz.func162, Tryz.ntmps162
  go_wp2
  go_ret
  exact ⟨rfl, rfl⟩
set_option maxRecDepth 100000 in
theorem bktWaits (A : Option Addr) (n c ib : Nat) (w : World) (z1 : w.cell? ⟨ib, 1, none⟩ = some (.slice A n c)) :
    Calls Tryz.prog 118 #[.pointer (some ⟨ib, 0, none⟩)] w fun e w' => e = .returned (.int .i64 (n : Nat)) ∧ w = w' := by
  go_enter Tryz.func118, Tryz.ntmps118
  go_wp2
  go_ret
  exact ⟨rfl, rfl⟩
set_option maxRecDepth 100000 in
theorem bktTake0 (tok : Int) (A : Option Addr) (c ib : Nat) (w : World) (z1 : w.cell? ⟨ib, 1, none⟩ = some (.slice A 0 c)) (z2 : w.cell? ⟨ib, 2, none⟩ = some (.int .i64 tok)) (h0 : 0 ≤ tok) :
    Calls Tryz.prog 97 #[.pointer (some ⟨ib, 0, none⟩), .int .i64 2] w fun e w' => e = .returned (.slice none 0 0) ∧ Dr w w' := by
  have HT := Lib.hid (fun W (hW : Dr w W) => bktTokens tok ib W (by obtain ⟨n, rfl⟩ := hW; exact z2))
  have HW := Lib.hid (fun W (hW : Dr w W) => bktWaits A 0 c ib W (by obtain ⟨n, rfl⟩ := hW; exact z1))
  obtain ⟨a, ha⟩ : ∃ a, (if tok < 2 then tok else 2) = a := ⟨_, rfl⟩
  have ha0 : 0 ≤ a := by rw [← ha]; split <;> omega
  have e1 : (if (0 : Int) < a then (0 : Int) else a) = 0 := by split <;> omega
  clear ha0
  go_enter Tryz.func97, Tryz.ntmps97
  go_wp2_with (first
    | (go_at_call 162; refine (HT.out _ (Dr.refl _)).mono ?_; rintro e w1 ⟨rfl, rfl⟩)
    | (go_at_call 118; refine (HW.out _ (Dr.refl _)).mono ?_; rintro e w1 ⟨rfl, rfl⟩))
  all_goals (go_ret; exact ⟨rfl, Dr.refl _⟩)
end Go.Proofs.YtojbijapdkohlaaGreatDoor
