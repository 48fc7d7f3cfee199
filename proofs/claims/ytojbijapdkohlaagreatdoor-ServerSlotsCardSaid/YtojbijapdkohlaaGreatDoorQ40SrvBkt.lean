/- Layer 21: a slot's peer, asked of any server; whether it is taken. Layer 21: a peer comes, or goes, in a server told whole. Layer 19: an intake with nothing in it: Fill(1), Take(2). -/
import Derived.Test.YtojbijapdkohlaaGreatDoorSrvInv
import Derived.Test.YtojbijapdkohlaaGreatDoorSrvNew
set_option linter.unusedSimpArgs false
set_option linter.unusedVariables false
namespace Go.Proofs.YtojbijapdkohlaaGreatDoor
open Go.RowKit
set_option maxRecDepth 100000 in
theorem srvPeer (b k : Nat) (h1 : 1 ≤ k) (h8 : k ≤ 8) (v : Value) (w : World) (hx : w.cell? ⟨b, 10 + k, none⟩ = some v) :
    Calls Tryz.prog 91 #[.pointer (some ⟨b, 0, none⟩), .int .i64 (k : Nat)] w fun e w' => e = .returned v ∧ w = w' := by
  have d1 : decide ((k : Int) < 1) = false := decide_eq_false (by omega)
  have d1n : decide (k < 1) = false := decide_eq_false (by omega)
  have d2 : decide ((8 : Int) < (k : Int)) = false := decide_eq_false (by omega)
  have d2n : decide (8 < k) = false := decide_eq_false (by omega)
  have d3 : (k : Int) < 9 := by omega
  have d3n : k < 9 := by omega
  go_enter Tryz.func91, Tryz.ntmps91
  go_wp2
  go_ret
  exact ⟨rfl, rfl⟩
def isTaken (ps : Peers) (k : Nat) : Bool := (ps k).isSome
set_option maxRecDepth 100000 in
theorem srvConnected (ps : Peers) (b k : Nat) (h1 : 1 ≤ k) (h8 : k ≤ 8) (w : World) (hx : w.cell? ⟨b, 10 + k, none⟩ = some (peerPtr ps k)) :
    Calls Tryz.prog 48 #[.pointer (some ⟨b, 0, none⟩), .int .i64 (k : Nat)] w fun e w' => e = .returned (.bool (isTaken ps k)) ∧ w = w' := by
  unfold isTaken
  unfold peerPtr at hx
  cases hp : ps k with
  | none =>
    rw [hp] at hx
    have HP := Lib.hid (srvPeer b k h1 h8 (.pointer none) w hx)
    clear hx hp
    go_enter Tryz.func48, Tryz.ntmps48
    go_wp2_with fail
    refine HP.out.mono ?_
    rintro e w1 ⟨rfl, rfl⟩
    go_wp2
    go_ret
    exact ⟨rfl, rfl⟩
  | some y =>
    rw [hp] at hx
    obtain ⟨P, s⟩ := y
    have HP := Lib.hid (srvPeer b k h1 h8 (.pointer (some ⟨s.b, 0, none⟩)) w hx)
    clear hx hp
    go_enter Tryz.func48, Tryz.ntmps48
    go_wp2_with fail
    refine HP.out.mono ?_
    rintro e w1 ⟨rfl, rfl⟩
    go_wp2
    go_ret
    exact ⟨rfl, rfl⟩
end Go.Proofs.YtojbijapdkohlaaGreatDoor
set_option linter.unusedSimpArgs false
set_option linter.unusedVariables false
namespace Go.Proofs.YtojbijapdkohlaaGreatDoor
open Go.RowKit
theorem srvCells_set (seed : Int) (V : WorldV) (x : SrvX) (k : Nat) (h1 : 1 ≤ k) (h8 : k ≤ 8) (y : Option (PeerV × PeerS)) : srvCells seed V { x with ps := x.ps.set k y } = (srvCells seed V x).setIfInBounds (10 + k) (.pointer (y.map fun z => ⟨z.2.b, 0, none⟩)) := by
  have h : k = 1 ∨ k = 2 ∨ k = 3 ∨ k = 4 ∨ k = 5 ∨ k = 6 ∨ k = 7 ∨ k = 8 := by omega
  rcases h with rfl | rfl | rfl | rfl | rfl | rfl | rfl | rfl <;> rfl
theorem srvCells_at (seed : Int) (V : WorldV) (x : SrvX) (k : Nat) (h8 : k < 9) : (srvCells seed V x)[10 + k]? = some (peerPtr x.ps k) := by
  have h : k = 0 ∨ k = 1 ∨ k = 2 ∨ k = 3 ∨ k = 4 ∨ k = 5 ∨ k = 6 ∨ k = 7 ∨ k = 8 := by omega
  rcases h with rfl | rfl | rfl | rfl | rfl | rfl | rfl | rfl | rfl <;> rfl
theorem SrvAt.slot {w : World} {b : Nat} {seed : Int} {V : WorldV} {x : SrvX} (h : SrvAt w b seed V x) {k : Nat} (h8 : k < 9) : w.cell? ⟨b, 10 + k, none⟩ = some (peerPtr x.ps k) := (h.blk.cell _).trans (srvCells_at seed V x k h8)
def peerNew : PeerV := ⟨0, false, 0, 0, [], 0, [], 0, [], 16, 0, -1, 0⟩
def peerNewS (pb ib : Nat) : PeerS := ⟨pb, none, 0, 0, none, 0, 0, ib, none, 0, 0⟩
theorem peerNew_cells (pb ib : Nat) : peerCells peerNew (peerNewS pb ib) = #[.int .u16 0, .bool false, .int .u16 0, .int .u32 0, .slice none 0 0, .int .u32 0, .slice none 0 0, .pointer (some ⟨ib, 0, none⟩), .int .u32 0, .int .i64 (-1), .int .i64 0] := rfl
/-- A new peer's blocks stand, its place is stored. -/
theorem SrvAt.newPeer {w w3 : World} {b ib k : Nat} {seed : Int} {V : WorldV} {x : SrvX} (h : SrvAt w b seed V x) (h1 : 1 ≤ k) (h8 : k ≤ 8) (hB : Below w.heap.size w w3) (hib : Blk w3 ib 280 #[.int .u32 0, .slice none 0 0, .int .i64 16]) (hge : w.heap.size ≤ ib) :
    SrvAt ((w3.setCell ⟨b, 10 + k, none⟩ (.pointer (some ⟨w3.heap.size, 0, none⟩))).alloc (.cells (peerCells peerNew (peerNewS w3.heap.size ib)) 203)) b seed V { x with ps := x.ps.set k (some (peerNew, peerNewS w3.heap.size ib)) } := by
  have h3 := h.below hB
  have lb := h.lt
  have lb3 := h3.lt
  have lib := hib.lt
  have hs := hB.size
  have hz : ∀ q, q < w3.heap.size → q ≠ b → ((w3.setCell ⟨b, 10 + k, none⟩ (.pointer (some ⟨w3.heap.size, 0, none⟩))).alloc (.cells (peerCells peerNew (peerNewS w3.heap.size ib)) 203)).heap[q]? = w3.heap[q]? := fun q hq hne => (Below.heap_alloc _ _ q (by simpa [World.setCell] using hq)).trans (Below.heap_setCell _ _ _ q hne)
  have hsz : (w3.setCell ⟨b, 10 + k, none⟩ (.pointer (some ⟨w3.heap.size, 0, none⟩))).heap.size = w3.heap.size := by simp [World.setCell]
  have hblk : Blk ((w3.setCell ⟨b, 10 + k, none⟩ (.pointer (some ⟨w3.heap.size, 0, none⟩))).alloc (.cells (peerCells peerNew (peerNewS w3.heap.size ib)) 203)) w3.heap.size 203 (peerCells peerNew (peerNewS w3.heap.size ib)) := by
    have := Blk.new (w3.setCell ⟨b, 10 + k, none⟩ (.pointer (some ⟨w3.heap.size, 0, none⟩))) 203 (peerCells peerNew (peerNewS w3.heap.size ib))
    rwa [hsz] at this
  have hp : PeerAt ((w3.setCell ⟨b, 10 + k, none⟩ (.pointer (some ⟨w3.heap.size, 0, none⟩))).alloc (.cells (peerCells peerNew (peerNewS w3.heap.size ib)) 203)) peerNew (peerNewS w3.heap.size ib) :=
    ⟨hblk, Row.nil_, Row.nil_, (hz ib lib (by omega)).trans hib, Row.nil_, by decide⟩
  have hb : Blk ((w3.setCell ⟨b, 10 + k, none⟩ (.pointer (some ⟨w3.heap.size, 0, none⟩))).alloc (.cells (peerCells peerNew (peerNewS w3.heap.size ib)) 203)) b 165 ((srvCells seed V x).setIfInBounds (10 + k) (.pointer (some ⟨w3.heap.size, 0, none⟩))) := (h3.blk.set_ _ _).alloc _
  have hfp : ∀ q, (peerNewS w3.heap.size ib).fp q → q = w3.heap.size ∨ q = ib := fun q hq => by
    rcases hq with hq | hq | hq | hq | hq
    · exact .inl hq
    · exact .inr hq
    · cases hq
    · cases hq
    · cases hq
  generalize ((w3.setCell ⟨b, 10 + k, none⟩ (.pointer (some ⟨w3.heap.size, 0, none⟩))).alloc (.cells (peerCells peerNew (peerNewS w3.heap.size ib)) 203)) = wf at hz hblk hp hb ⊢
  have hent : ∀ q t, clsOf w3 q = some t → q < w3.heap.size := fun q t hq => by
    rcases Nat.lt_or_ge q w3.heap.size with hlt | hge
    · exact hlt
    · unfold clsOf at hq; rw [Array.getElem?_eq_none hge] at hq; cases hq
  have hsv : clsOf w3 b = some 165 := h3.blk.cls
  have hE : ∀ q, clsOf w3 q = some 55 → wf.heap[q]? = w3.heap[q]? := fun q hq => hz q (hent q _ hq) (fun e => by rw [e, hsv] at hq; exact absurd (Option.some.inj hq) (by decide))
  refine ⟨?_, ?_, ?_, ?_, h3.past.keep hE, ?_, h.hiR, h.hiM, ?_⟩
  · rw [srvCells_set seed V x k h1 h8]
    exact hb
  · exact h3.wld.keepT (fun q hq => hz q (by omega) (by omega)) (fun q hq => hz q (hent q _ hq) (fun e => by rw [e, hsv] at hq; exact absurd (Option.some.inj hq) (by decide)))
  · exact h3.ring.keep (fun g hg => hz g (h3.ring.lt hg) (by have := h.hiR g hg; omega))
  · exact h3.lists.keep (hz _ h3.lists.lt (by have := h.hiM; omega))
  · exact h3.peers.set k (by omega) (by omega) peerNew _ hp (fun j P' s' hj hpj q hq => ⟨hz q (h3.peers.lt hpj hq) (by have := h.hiP j P' s' hpj q hq; omega), fun hq2 => by
      have := h.peers.lt hpj hq
      rcases hfp q hq2 with e | e <;> omega⟩)
  · intro i P s hi' q hq
    have hi : x.ps.set k (some (peerNew, peerNewS w3.heap.size ib)) i = some (P, s) := hi'
    unfold Peers.set at hi
    split at hi
    · cases hi
      rcases hfp q hq with e | e <;> omega
    · exact h.hiP i P s hi q hq
/-- A peer's place is cleared. -/
theorem SrvAt.noPeer {w : World} {b k : Nat} {seed : Int} {V : WorldV} {x : SrvX} (h : SrvAt w b seed V x) (h1 : 1 ≤ k) (h8 : k ≤ 8) : SrvAt (w.setCell ⟨b, 10 + k, none⟩ (.pointer none)) b seed V { x with ps := x.ps.set k none } := by
  have hz : ∀ q, q ≠ b → (w.setCell ⟨b, 10 + k, none⟩ (.pointer none)).heap[q]? = w.heap[q]? := fun q hne => Below.heap_setCell _ _ _ q hne
  have hb : Blk (w.setCell ⟨b, 10 + k, none⟩ (.pointer none)) b 165 ((srvCells seed V x).setIfInBounds (10 + k) (.pointer none)) := h.blk.set_ _ _
  generalize w.setCell ⟨b, 10 + k, none⟩ (.pointer none) = wf at hz hb ⊢
  have hsv : clsOf w b = some 165 := h.blk.cls
  have hP : ∀ i P s, (x.ps.set k none) i = some (P, s) → x.ps i = some (P, s) := fun i P s hi => by
    unfold Peers.set at hi
    split at hi
    · cases hi
    · exact hi
  have hE : ∀ q, clsOf w q = some 55 → wf.heap[q]? = w.heap[q]? := fun q hq => hz q (fun e => by rw [e, hsv] at hq; exact absurd (Option.some.inj hq) (by decide))
  refine ⟨?_, ?_, ?_, ?_, h.past.keep hE, ?_, h.hiR, h.hiM, fun i P s hi => h.hiP i P s (hP i P s hi)⟩
  · rw [srvCells_set seed V x k h1 h8]
    exact hb
  · exact h.wld.keepT (fun q hq => hz q (by omega)) (fun q hq => hz q (fun e => by rw [e, hsv] at hq; exact absurd (Option.some.inj hq) (by decide)))
  · exact h.ring.keep (fun g hg => hz g (by have := h.hiR g hg; omega))
  · exact h.lists.keep (hz _ (by have := h.hiM; omega))
  · exact (h.peers.drop k).keep (fun i P s hi q hq => hz q (by have := h.hiP i P s (hP i P s hi) q hq; omega))
theorem pvs_set (ps : Peers) (k : Nat) (y : Option (PeerV × PeerS)) (i : Nat) : pvs (ps.set k y) i = if i = k then y.map (·.1) else pvs ps i := by
  unfold pvs Peers.set
  split <;> rfl
end Go.Proofs.YtojbijapdkohlaaGreatDoor
set_option linter.unusedSimpArgs false
set_option linter.unusedVariables false
namespace Go.Proofs.YtojbijapdkohlaaGreatDoor
open Go.RowKit
def fillT (t : Int) : Int := t + min 1 (16 - t)
set_option maxRecDepth 100000 in
theorem bktFill (last tok : Int) (A : Option Addr) (n c ib : Nat) (w : World) (hb : Blk w ib 280 #[.int .u32 last, .slice A n c, .int .i64 tok]) (h0 : 0 ≤ tok) (h16 : tok ≤ 16) :
    Calls Tryz.prog 96 #[.pointer (some ⟨ib, 0, none⟩), .int .i64 1] w fun e w' => e = .returned (.tuple #[]) ∧ Blk w' ib 280 #[.int .u32 last, .slice A n c, .int .i64 (fillT tok)] ∧ Chg (fun q => q = ib) w w' := by
  have z2 : w.cell? ⟨ib, 2, none⟩ = some (.int .i64 tok) := hb.cell 2
  have f2 : w.frozen? ⟨ib, 2, none⟩ = false := hb.frozen 2
  have HB := Lib.hid hb
  clear hb
  go_enter Tryz.func96, Tryz.ntmps96
  go_wp2
  go_region
  all_goals
    first | go_end0 | refine bodyPost_ret (results_none rfl _ _ _) rfl ?_
    have e : (tok + if 16 - tok < 1 then 16 - tok else 1) = fillT tok := by unfold fillT; split <;> omega
    rw [e]
    have e1 : Blk (w.setCell ⟨ib, 2, none⟩ (.int .i64 (fillT tok))) ib 280 #[.int .u32 last, .slice A n c, .int .i64 (fillT tok)] := HB.out.set_ 2 (.int .i64 (fillT tok))
    exact ⟨rfl, e1, (Chg.setCell (F := fun q => q = ib) Chg.refl (p := ⟨ib, 2, none⟩) (.inl rfl) _).drewN 1⟩
set_option maxRecDepth 100000 in
theorem bktTokens (tok : Int) (ib : Nat) (w : World) (z2 : w.cell? ⟨ib, 2, none⟩ = some (.int .i64 tok)) :
    Calls Tryz.prog 162 #[.pointer (some ⟨ib, 0, none⟩)] w fun e w' => e = .returned (.int .i64 tok) ∧ w = w' := by
  go_enter Tryz.func162, Tryz.ntmps162
  go_wp2
  go_ret
  exact ⟨rfl, rfl⟩
set_option maxRecDepth 100000 in
theorem bktWaits (A : Option Addr) (n c ib : Nat) (w : World) (z1 : w.cell? ⟨ib, 1, none⟩ = some (.slice A n c)) :
    Calls Tryz.prog 118 #[.pointer (some ⟨ib, 0, none⟩)] w fun e w' => e = .returned (.int .i64 (n : Nat)) ∧ w = w' := by
  go_enter Tryz.func118, Tryz.ntmps118
  go_wp2
  go_ret
  exact ⟨rfl, rfl⟩
set_option maxRecDepth 100000 in
theorem bktTake0 (tok : Int) (A : Option Addr) (c ib : Nat) (w : World) (z1 : w.cell? ⟨ib, 1, none⟩ = some (.slice A 0 c)) (z2 : w.cell? ⟨ib, 2, none⟩ = some (.int .i64 tok)) (h0 : 0 ≤ tok) :
    Calls Tryz.prog 97 #[.pointer (some ⟨ib, 0, none⟩), .int .i64 2] w fun e w' => e = .returned (.slice none 0 0) ∧ Dr w w' := by
  have HT := Lib.hid (fun W (hW : Dr w W) => bktTokens tok ib W (by obtain ⟨n, rfl⟩ := hW; exact z2))
  have HW := Lib.hid (fun W (hW : Dr w W) => bktWaits A 0 c ib W (by obtain ⟨n, rfl⟩ := hW; exact z1))
  obtain ⟨a, ha⟩ : ∃ a, (if tok < 2 then tok else 2) = a := ⟨_, rfl⟩
  have ha0 : 0 ≤ a := by rw [← ha]; split <;> omega
  have e1 : (if (0 : Int) < a then (0 : Int) else a) = 0 := by split <;> omega
  clear ha0
  go_enter Tryz.func97, Tryz.ntmps97
  go_wp2_with (first
    | (go_at_call 162; refine (HT.out _ (Dr.refl _)).mono ?_; rintro e w1 ⟨rfl, rfl⟩)
    | (go_at_call 118; refine (HW.out _ (Dr.refl _)).mono ?_; rintro e w1 ⟨rfl, rfl⟩))
  all_goals (go_ret; exact ⟨rfl, Dr.refl _⟩)
end Go.Proofs.YtojbijapdkohlaaGreatDoor
