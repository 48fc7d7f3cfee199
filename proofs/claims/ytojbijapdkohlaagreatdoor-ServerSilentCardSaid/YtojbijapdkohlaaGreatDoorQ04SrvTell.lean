/- Go's strconv.Itoa at one digit; layer 16: a line queued. Layer 16: a line queued, by a sender that lies 5 cells into its block. Formed commands. Layer 21: a server's peers, told. Layer 21: all others are told a line. -/
import Derived.Test.YtojbijapdkohlaaGreatDoorQ03SrvPut
import Derived.WalkLawsBesides
import Derived.Deep.DeepCutAuto
import Derived.Test.YtojbijapdkohlaaGreatDoorQ01Steps
import Derived.Deep.RegionLaw
set_option linter.unusedSimpArgs false
set_option linter.unusedVariables false
namespace Go.Proofs.YtojbijapdkohlaaGreatDoor
open Go.RowKit
def digS (k : Nat) : ByteArray := ⟨#[UInt8.ofNat (48 + k)]⟩
theorem digit_cases {k : Nat} (h : k ≤ 9) : k = 0 ∨ k = 1 ∨ k = 2 ∨ k = 3 ∨ k = 4 ∨ k = 5 ∨ k = 6 ∨ k = 7 ∨ k = 8 ∨ k = 9 := by omega
theorem smallS (k : Nat) (h : k ≤ 9) (w : World) : Calls Tryz.prog 244 #[.int .i64 (k : Nat)] w fun e w' => e = .returned (.string (digS k)) ∧ w = w' := by
  rcases digit_cases h with rfl | rfl | rfl | rfl | rfl | rfl | rfl | rfl | rfl | rfl
  all_goals
    go_enter Tryz.func244, Tryz.ntmps244
    go_wp2
    go_ret
    exact ⟨rfl, rfl⟩
theorem fmtS (k : Nat) (h : k ≤ 9) (w : World) : Calls Tryz.prog 238 #[.int .i64 (k : Nat), .int .i64 10] w fun e w' => e = .returned (.string (digS k)) ∧ w = w' := by
  have hs := smallS k h w
  have t1 : decide ((0 : Int) ≤ (k : Int)) = true := decide_eq_true (by omega)
  have t2 : decide ((k : Int) < 100) = true := decide_eq_true (by omega)
  have t2n : decide (k < 100) = true := decide_eq_true (by omega)
  go_enter Tryz.func238, Tryz.ntmps238
  go_wp2_with fail
  refine hs.mono ?_
  rintro e w1 ⟨rfl, rfl⟩
  go_wp2
  go_ret
  exact ⟨rfl, rfl⟩
theorem itoaIn (k : Nat) (h : k ≤ 9) (w : World) : Calls Tryz.prog 216 #[.int .i64 (k : Nat)] w fun e w' => e = .returned (.string (digS k)) ∧ w = w' := by
  have hs := fmtS k h w
  go_enter Tryz.func216, Tryz.ntmps216
  go_wp2_with fail
  refine hs.mono ?_
  rintro e w1 ⟨rfl, rfl⟩
  go_wp2
  go_ret
  exact ⟨rfl, rfl⟩
theorem itoaS (k : Nat) (h : k ≤ 9) (w : World) : Calls Tryz.prog 159 #[.int .i64 (k : Nat)] w fun e w' => e = .returned (.string (digS k)) ∧ w = w' := by
  have hs := itoaIn k h w
  go_enter Tryz.func159, Tryz.ntmps159
  go_wp2_with fail
  refine hs.mono ?_
  rintro e w1 ⟨rfl, rfl⟩
  go_wp2
  go_ret
  exact ⟨rfl, rfl⟩
theorem lineS (n : Int) (w : World) : Calls Tryz.prog 215 #[.int .i64 n] w fun e w' => e = .returned (.bool (decide (1 ≤ n ∧ n ≤ 60))) ∧ w = w' := by
  go_enter Tryz.func215, Tryz.ntmps215
  go_wp2
  all_goals
    go_ret
    refine ⟨ret_bool ?_, rfl⟩
    rw [Bool.eq_iff_iff]
    simp
    try omega
end Go.Proofs.YtojbijapdkohlaaGreatDoor
set_option linter.unusedSimpArgs false
set_option linter.unusedVariables false
namespace Go.Proofs.YtojbijapdkohlaaGreatDoor
open Go.RowKit
def strsV (l : List ByteArray) : List Value := l.map Value.string
theorem strsV_length (l : List ByteArray) : (strsV l).length = l.length := by simp [strsV]
set_option maxRecDepth 100000 in
theorem eltS : Elt Tryz.prog 141 9 1 16 := Elt.mk' Tryz.underlying141 (.string ⟨#[]⟩) (by kernel_rfl) rfl (by decide) (by decide)
/-- What a line that is queued makes of a sender. -/
def Queued (b : Nat) (t : TypeId) (cs : Array Value) (l : List ByteArray) (text : ByteArray) (A : Option Addr) (w : World) (e : Ending) (w' : World) : Prop :=
  (l.length = 32 ∧ e = .returned (.int .i64 7) ∧ w = w') ∨ (e = .returned (.int .i64 0) ∧ ∃ (A' : Option Addr) (n' c' : Nat), n' = l.length + 1 ∧ l.length ≠ 32 ∧ Blk w' b t (cs.setIfInBounds 6 (.slice A' n' c')) ∧ Row w' 9 1 A' n' c' (strsV (l ++ [text])) ∧
    (∀ q, blkOf A' = some q → blkOf A = some q ∨ w.heap.size ≤ q) ∧ Chg (fun q => q = b ∨ blkOf A = some q) w w')
set_option maxRecDepth 100000 in
set_option maxHeartbeats 4000000 in
theorem sndQueue (b : Nat) (t : TypeId) (cs : Array Value) (l : List ByteArray) (text : ByteArray) (A : Option Addr) (n c : Nat) (w : World) (hb : Blk w b t cs) (ht : 9 ≠ t) (k6 : cs[6]? = some (.slice A n c)) (hr : Row w 9 1 A n c (strsV l)) (hn : l.length ≤ 32) (h1 : 1 ≤ text.size) (h2 : text.size ≤ 60) :
    Calls Tryz.prog 158 #[.pointer (some ⟨b, 5, none⟩), .string text] w (Queued b t cs l text A w) := by
  have hl : l.length = n := by have := hr.1; rw [strsV_length] at this; omega
  have z6 : w.cell? ⟨b, 6, none⟩ = some (.slice A n c) := (hb.cell 6).trans k6
  have f6 : w.frozen? ⟨b, 6, none⟩ = false := hb.frozen 6
  have lb := hb.lt
  have hL := fun W => lineS (text.size : Int) W
  rw [decide_eq_true (by omega)] at hL
  have HB := Lib.hid hb
  have HR := Lib.hid hr
  have HL := Lib.hid hl
  have HLN := Lib.hid hL
  clear hb hr k6 hL
  by_cases h32 : n = 32
  · have t1 : ((n : Int) == 32) = true := by rw [beq_iff_eq]; omega
    have t1n : (n == 32) = true := by rw [beq_iff_eq]; exact h32
    have H32 := Lib.hid (hl.trans h32)
    clear hl h32
    go_enter Tryz.func158, Tryz.ntmps158
    go_wp2_with fail
    refine (HLN.out _).mono ?_
    rintro e w1 ⟨rfl, rfl⟩
    go_wp2
    go_ret
    exact .inl ⟨H32.out, rfl, rfl⟩
  · have t1 : ((n : Int) == 32) = false := beq_eq_false_iff_ne.2 (by omega)
    have t1n : (n == 32) = false := beq_eq_false_iff_ne.2 h32
    have H32 := Lib.hid h32
    clear h32 hl
    go_enter Tryz.func158, Tryz.ntmps158
    go_wp2_with fail
    refine (HLN.out _).mono ?_
    rintro e w1 ⟨rfl, rfl⟩
    have hrow := HR.out.keep (w' := w.alloc (.cells #[.string text] 9)) (fun q hq => Below.heap_alloc _ _ q (HR.out.lt hq))
    have HRW := Lib.hid hrow
    clear hrow
    go_wp2_with (at_builtin; refine wpList_row rfl (.tmp 24) (.tmp 26) rfl eltS A n c (strsV l) rfl HRW.out (w.heap.size + 1) (some ⟨w.heap.size, 0, none⟩) 1 1 [.string text] rfl (Reads.blk (size := 1) (n := 1) (g := w.heap.size) (heap_alloc_new w (.cells #[.string text] 9)) (by omega) rfl) (by simp [Value.oneCell']) (by have := HL.out; omega) ?_; intro A3 c3 w3 hr3 hg3 hb3; have mb3 := (HB.out.alloc (.cells #[.string text] 9)).grown hg3 (fun e => HR.out.ne_blkR HB.out ht b e.symm rfl); have s6 : w3.cell? ⟨b, 6, none⟩ = some (.slice A n c) := (mb3.cell 6).trans ((HB.out.cell 6).symm.trans z6); have t6 : w3.frozen? ⟨b, 6, none⟩ = false := mb3.frozen 6)
    have k3 := hr3.ne_blkR mb3 ht
    go_ret
    refine .inr ⟨rfl, A3, n + 1, c3, by have := HL.out; omega, by have := HL.out; have := H32.out; omega, mb3.set_ 6 _, ?_, ?_, ?_⟩
    · have := hr3.keep (w' := w3.setCell ⟨b, 6, none⟩ (.slice A3 (n + 1) c3)) (fun q hq => Below.heap_setCell _ _ _ q (k3 q hq))
      simpa [strsV] using this
    · intro q hq
      rcases hb3 with h | h
      · exact .inl (h.symm.trans hq)
      · rw [h] at hq
        simp at hq
        exact .inr (by omega)
    · exact Chg.setCell (F := fun q => q = b ∨ blkOf A = some q) (Chg.grown (Chg.alloc (Chg.refl (w := w)) _) hg3 (fun k hk => .inl (.inr hk))) (p := ⟨b, 6, none⟩) (.inl (.inl rfl)) _
end Go.Proofs.YtojbijapdkohlaaGreatDoor
set_option linter.unusedSimpArgs false
set_option linter.unusedVariables false
namespace Go.Proofs.YtojbijapdkohlaaGreatDoor
open Go.RowKit
structure CmdV where
  num : Int
  mx : Int
  my : Int
  fire : Bool
  view : Int
  frac : Int
def cmdOk (q : CmdV) : Bool := decide (1 ≤ q.num ∧ q.num ≤ 2147483648 ∧ -127 ≤ q.mx ∧ -127 ≤ q.my ∧ ((q.fire = true ∧ q.view ≤ 2147483648) ∨ (q.fire = false ∧ q.view = 0 ∧ q.frac = 0)))
set_option maxHeartbeats 4000000 in
theorem cmdFormed (q : CmdV) (w : World) : Calls Tryz.prog 164 #[.agg #[.int .u32 q.num, .int .i8 q.mx, .int .i8 q.my, .bool q.fire, .int .u32 q.view, .int .u8 q.frac]] w fun e w' => e = .returned (.bool (cmdOk q)) ∧ Below w.heap.size w w' := by
  obtain ⟨a, b, c, d, e, f⟩ := q
  cases d
  all_goals
    go_enter Tryz.func164, Tryz.ntmps164
    go_wp2
    all_goals
      go_ret
      refine ⟨ret_bool ?_, (by repeat (first | with_reducible exact Below.refl _ _ | with_reducible assumption | with_reducible refine Below.drew ?_ | with_reducible refine below_drews ?_ _ | with_reducible refine Below.alloc ?_ (by first | omega | (simp; done) | (simp; omega)) _ | with_reducible refine Below.setCell ?_ (by first | omega | (simp; done) | (simp; omega)) _))⟩
      rw [Bool.eq_iff_iff]
      simp [cmdOk]
      try omega
def cmdCells (c : CmdV) : List Value := [.int .u32 c.num, .int .i8 c.mx, .int .i8 c.my, .bool c.fire, .int .u32 c.view, .int .u8 c.frac]
def cmdsV (l : List CmdV) : List Value := l.flatMap cmdCells
theorem cmdCells_one (c : CmdV) : ∀ u ∈ cmdCells c, u.oneCell' = true := by
  intro u hu
  unfold cmdCells at hu
  simp only [List.mem_cons, List.not_mem_nil, or_false] at hu
  rcases hu with h | h | h | h | h | h <;> subst h <;> rfl
end Go.Proofs.YtojbijapdkohlaaGreatDoor
set_option linter.unusedSimpArgs false
set_option linter.unusedVariables false
namespace Go.Proofs.YtojbijapdkohlaaGreatDoor
open Go.RowKit
def u16L (l : List Nat) : List Value := l.map fun x => Value.int .u16 ((x : Nat) : Int)
/-- What a peer holds. -/
structure PeerV where
  num : Nat
  any : Bool
  ack : Nat
  mask : Nat
  op : List Nat
  gone : Nat
  lines : List ByteArray
  last : Nat
  queue : List CmdV
  tokens : Int
  applied : Nat
  accepted : Int
  silent : Int
/-- Where it lies. -/
structure PeerS where
  b : Nat
  oA : Option Addr
  oN : Nat
  oC : Nat
  lA : Option Addr
  lN : Nat
  lC : Nat
  ib : Nat
  qA : Option Addr
  qN : Nat
  qC : Nat
def peerCells (P : PeerV) (s : PeerS) : Array Value := #[.int .u16 (P.num : Nat), .bool P.any, .int .u16 (P.ack : Nat), .int .u32 (P.mask : Nat), .slice s.oA s.oN s.oC, .int .u32 (P.gone : Nat), .slice s.lA s.lN s.lC, .pointer (some ⟨s.ib, 0, none⟩), .int .u32 (P.applied : Nat), .int .i64 P.accepted, .int .i64 P.silent]
structure PeerAt (w : World) (P : PeerV) (s : PeerS) : Prop where
  blk : Blk w s.b 203 (peerCells P s)
  op : Row w 95 1 s.oA s.oN s.oC (u16L P.op)
  lines : Row w 9 1 s.lA s.lN s.lC (strsV P.lines)
  ink : Blk w s.ib 280 #[.int .u32 (P.last : Nat), .slice s.qA s.qN s.qC, .int .i64 P.tokens]
  queue : Row w 121 6 s.qA s.qN s.qC (cmdsV P.queue)
  l32 : P.lines.length ≤ 32
def PeerS.fp (s : PeerS) (q : Nat) : Prop := q = s.b ∨ q = s.ib ∨ blkOf s.oA = some q ∨ blkOf s.lA = some q ∨ blkOf s.qA = some q
theorem PeerAt.keep {w w' : World} {P : PeerV} {s : PeerS} (h : PeerAt w P s) (hk : ∀ q, s.fp q → w'.heap[q]? = w.heap[q]?) : PeerAt w' P s where
  blk := (hk _ (.inl rfl)).trans h.blk
  op := h.op.keep fun q hq => hk q (.inr (.inr (.inl hq)))
  lines := h.lines.keep fun q hq => hk q (.inr (.inr (.inr (.inl hq))))
  ink := (hk _ (.inr (.inl rfl))).trans h.ink
  queue := h.queue.keep fun q hq => hk q (.inr (.inr (.inr (.inr hq))))
  l32 := h.l32
theorem PeerAt.lt {w : World} {P : PeerV} {s : PeerS} (h : PeerAt w P s) {q : Nat} (hq : s.fp q) : q < w.heap.size := by
  rcases hq with rfl | rfl | hq | hq | hq
  · exact h.blk.lt
  · exact h.ink.lt
  · exact h.op.lt hq
  · exact h.lines.lt hq
  · exact h.queue.lt hq
theorem PeerAt.below {w w' : World} {B : Nat} {P : PeerV} {s : PeerS} (h : PeerAt w P s) (hb : Below B w w') (hB : w.heap.size ≤ B) : PeerAt w' P s := h.keep fun q hq => hb.block q (Nat.lt_of_lt_of_le (h.lt hq) hB)
/-- The peers of a server: of each slot from 0 to 8, what it holds and where. -/
abbrev Peers := Nat → Option (PeerV × PeerS)
structure PeersAt (w : World) (ps : Peers) : Prop where
  at_ : ∀ i P s, ps i = some (P, s) → PeerAt w P s
  zero : ps 0 = none
  top : ∀ i, 9 ≤ i → ps i = none
  disj : ∀ i j P s P' s', i ≠ j → ps i = some (P, s) → ps j = some (P', s') → ∀ q, s.fp q → ¬ s'.fp q
def peerPtr (ps : Peers) (i : Nat) : Value := .pointer ((ps i).map fun x => ⟨x.2.b, 0, none⟩)
def peersV (ps : Peers) : List Value := [peerPtr ps 0, peerPtr ps 1, peerPtr ps 2, peerPtr ps 3, peerPtr ps 4, peerPtr ps 5, peerPtr ps 6, peerPtr ps 7, peerPtr ps 8]
def Peers.set (ps : Peers) (i : Nat) (x : Option (PeerV × PeerS)) : Peers := fun j => if j = i then x else ps j
/-- One peer turned, the others as they were. -/
theorem PeersAt.set {w w' : World} {ps : Peers} (h : PeersAt w ps) (i : Nat) (hi : i ≠ 0) (hi9 : i < 9) (P : PeerV) (s : PeerS) (hp : PeerAt w' P s) (hk : ∀ j P' s', j ≠ i → ps j = some (P', s') → ∀ q, s'.fp q → w'.heap[q]? = w.heap[q]? ∧ ¬ s.fp q) : PeersAt w' (ps.set i (some (P, s))) where
  at_ := fun j P' s' hj => by
    unfold Peers.set at hj
    split at hj
    · cases hj; exact hp
    · rename_i hji
      exact (h.at_ j P' s' hj).keep fun q hq => (hk j P' s' hji hj q hq).1
  zero := by unfold Peers.set; rw [if_neg (Ne.symm hi)]; exact h.zero
  top := fun j hj => by unfold Peers.set; rw [if_neg (by omega)]; exact h.top j hj
  disj := fun a b P1 s1 P2 s2 hab h1 h2 q hq hq2 => by
    unfold Peers.set at h1 h2
    split at h1
    · rename_i ha
      split at h2
      · rename_i hb; exact hab (ha.trans hb.symm)
      · rename_i hb
        cases h1
        exact (hk b P2 s2 hb h2 q hq2).2 hq
    · rename_i ha
      split at h2
      · rename_i hb
        cases h2
        exact (hk a P1 s1 ha h1 q hq).2 hq2
      · exact h.disj a b P1 s1 P2 s2 hab h1 h2 q hq hq2
theorem PeersAt.drop {w : World} {ps : Peers} (h : PeersAt w ps) (i : Nat) : PeersAt w (ps.set i none) where
  at_ := fun j P s hj => by
    unfold Peers.set at hj
    split at hj
    · cases hj
    · exact h.at_ j P s hj
  zero := by
    unfold Peers.set
    split
    · rfl
    · exact h.zero
  top := fun j hj => by
    unfold Peers.set
    split
    · rfl
    · exact h.top j hj
  disj := fun a b P1 s1 P2 s2 hab h1 h2 => by
    unfold Peers.set at h1 h2
    split at h1
    · cases h1
    · split at h2
      · cases h2
      · exact h.disj a b P1 s1 P2 s2 hab h1 h2
theorem PeersAt.keep {w w' : World} {ps : Peers} (h : PeersAt w ps) (hk : ∀ i P s, ps i = some (P, s) → ∀ q, s.fp q → w'.heap[q]? = w.heap[q]?) : PeersAt w' ps where
  at_ := fun j P s hj => (h.at_ j P s hj).keep (hk j P s hj)
  zero := h.zero
  top := h.top
  disj := h.disj
end Go.Proofs.YtojbijapdkohlaaGreatDoor
set_option linter.unusedSimpArgs false
set_option linter.unusedVariables false
namespace Go.Proofs.YtojbijapdkohlaaGreatDoor
open Go.RowKit
set_option maxRecDepth 100000 in
theorem ixP0 (ps : Peers) (w : World) : (Instr.index 163 (.agg (peersV ps).toArray) (.int .i64 0)).run Tryz.prog w = .ok (peerPtr ps 0) w := by kernel_rfl
set_option maxRecDepth 100000 in
theorem ixP1 (ps : Peers) (w : World) : (Instr.index 163 (.agg (peersV ps).toArray) (.int .i64 1)).run Tryz.prog w = .ok (peerPtr ps 1) w := by kernel_rfl
set_option maxRecDepth 100000 in
theorem ixP2 (ps : Peers) (w : World) : (Instr.index 163 (.agg (peersV ps).toArray) (.int .i64 2)).run Tryz.prog w = .ok (peerPtr ps 2) w := by kernel_rfl
set_option maxRecDepth 100000 in
theorem ixP3 (ps : Peers) (w : World) : (Instr.index 163 (.agg (peersV ps).toArray) (.int .i64 3)).run Tryz.prog w = .ok (peerPtr ps 3) w := by kernel_rfl
set_option maxRecDepth 100000 in
theorem ixP4 (ps : Peers) (w : World) : (Instr.index 163 (.agg (peersV ps).toArray) (.int .i64 4)).run Tryz.prog w = .ok (peerPtr ps 4) w := by kernel_rfl
set_option maxRecDepth 100000 in
theorem ixP5 (ps : Peers) (w : World) : (Instr.index 163 (.agg (peersV ps).toArray) (.int .i64 5)).run Tryz.prog w = .ok (peerPtr ps 5) w := by kernel_rfl
set_option maxRecDepth 100000 in
theorem ixP6 (ps : Peers) (w : World) : (Instr.index 163 (.agg (peersV ps).toArray) (.int .i64 6)).run Tryz.prog w = .ok (peerPtr ps 6) w := by kernel_rfl
set_option maxRecDepth 100000 in
theorem ixP7 (ps : Peers) (w : World) : (Instr.index 163 (.agg (peersV ps).toArray) (.int .i64 7)).run Tryz.prog w = .ok (peerPtr ps 7) w := by kernel_rfl
set_option maxRecDepth 100000 in
theorem ixP8 (ps : Peers) (w : World) : (Instr.index 163 (.agg (peersV ps).toArray) (.int .i64 8)).run Tryz.prog w = .ok (peerPtr ps 8) w := by kernel_rfl
theorem ixPeers (ps : Peers) (k : Nat) (hk : k < 9) (w : World) : (Instr.index 163 (.agg (peersV ps).toArray) (.int .i64 (k : Nat))).run Tryz.prog w = .ok (peerPtr ps k) w := by
  have h : k = 0 ∨ k = 1 ∨ k = 2 ∨ k = 3 ∨ k = 4 ∨ k = 5 ∨ k = 6 ∨ k = 7 ∨ k = 8 := by omega
  rcases h with rfl | rfl | rfl | rfl | rfl | rfl | rfl | rfl | rfl
  · exact ixP0 ps w
  · exact ixP1 ps w
  · exact ixP2 ps w
  · exact ixP3 ps w
  · exact ixP4 ps w
  · exact ixP5 ps w
  · exact ixP6 ps w
  · exact ixP7 ps w
  · exact ixP8 ps w
def tellLine (what : ByteArray) (slot : Nat) : ByteArray := (what ++ ⟨#[32]⟩) ++ digS slot
/-- A peer that is told a line. -/
def toldP (P : PeerV) (text : ByteArray) : PeerV := { P with lines := if P.lines.length = 32 then P.lines else P.lines ++ [text] }
def toldAtP (slot : Nat) (text : ByteArray) (i : Nat) (P : PeerV) : PeerV := if i = slot then P else toldP P text
/-- How peers stand to those that they were: each holds f of what it held, its block is the same, its other places are its own or new. -/
structure PeersTo (w w' : World) (ps ps' : Peers) (f : Nat → PeerV → PeerV) : Prop where
  at_ : PeersAt w' ps'
  none_ : ∀ i, ps i = none → ps' i = none
  some_ : ∀ i P s, ps i = some (P, s) → ∃ s', ps' i = some (f i P, s') ∧ s'.b = s.b ∧ ∀ q, s'.fp q → s.fp q ∨ w.heap.size ≤ q
  chg : Chg (fun q => ∃ i P s, ps i = some (P, s) ∧ s.fp q) w w'
theorem PeersTo.refl {w : World} {ps : Peers} (h : PeersAt w ps) : PeersTo w w ps ps (fun _ P => P) := ⟨h, fun _ h => h, fun i P s h => ⟨s, h, rfl, fun q hq => .inl hq⟩, Chg.refl⟩
theorem digS_size (k : Nat) : (digS k).size = 1 := rfl
theorem tell_size (what : ByteArray) (slot : Nat) (h : what.size ≤ 8) : 1 ≤ (tellLine what slot).size ∧ (tellLine what slot).size ≤ 60 := by
  unfold tellLine
  rw [ByteArray.size_append, ByteArray.size_append, digS_size]
  have : (⟨#[32]⟩ : ByteArray).size = 1 := rfl
  omega
theorem PeersTo.congr {w w' : World} {ps ps' : Peers} {f g : Nat → PeerV → PeerV} (h : PeersTo w w' ps ps' f) (hfg : ∀ i P s, ps i = some (P, s) → f i P = g i P) : PeersTo w w' ps ps' g :=
  ⟨h.at_, h.none_, fun i P s hi => by
    obtain ⟨s', h1, h2, h3⟩ := h.some_ i P s hi
    exact ⟨s', by rw [← hfg i P s hi]; exact h1, h2, h3⟩, h.chg⟩
theorem PeersTo.below {w wr w' : World} {ps ps' : Peers} {f : Nat → PeerV → PeerV} (h : PeersTo w wr ps ps' f) (hb : Below wr.heap.size wr w') : PeersTo w w' ps ps' f :=
  ⟨h.at_.keep (fun i P s hi q hq => hb.block q ((h.at_.at_ i P s hi).lt hq)), h.none_, h.some_, h.chg.below hb h.chg.size⟩
theorem Row.hasBlk {w : World} {e : TypeId} {size n c q : Nat} {A : Option Addr} {xs : List Value} (h : Row w e size A n c xs) (hq : blkOf A = some q) : ∃ cur, Blk w q e cur := by
  rcases h.2.2.2 with ⟨h3, -⟩ | ⟨g', off, cur, h3, h4, -, -⟩
  · rw [h3] at hq; cases hq
  · rw [h3] at hq
    have : g' = q := by simpa [blkOf] using hq
    subst this
    exact ⟨cur, h4⟩
theorem Row.neRow {w : World} {e e' : TypeId} {size n c size' n' c' q : Nat} {A A' : Option Addr} {xs xs' : List Value} (h : Row w e size A n c xs) (h' : Row w e' size' A' n' c' xs') (hne : e ≠ e') (hq : blkOf A = some q) : blkOf A' ≠ some q := by
  intro hq'
  obtain ⟨cur, h1⟩ := h.hasBlk hq
  obtain ⟨cur', h2⟩ := h'.hasBlk hq'
  exact Blk.ne_ h1 h2 hne rfl
/-- A peer of whose block the line list's place alone has turned. -/
theorem PeerAt.queued {w w' : World} {P : PeerV} {s : PeerS} {A' : Option Addr} {n' c' : Nat} {l' : List ByteArray} (h : PeerAt w P s) (hc : Chg (fun q => q = s.b ∨ blkOf s.lA = some q) w w') (hb : Blk w' s.b 203 ((peerCells P s).setIfInBounds 6 (.slice A' n' c'))) (hr : Row w' 9 1 A' n' c' (strsV l')) (h32 : l'.length ≤ 32) :
    PeerAt w' { P with lines := l' } { s with lA := A', lN := n', lC := c' } where
  blk := by simpa [peerCells] using hb
  op := h.op.keep fun q hq => hc.block q (h.op.lt hq) (fun hh => hh.elim (fun e => h.op.ne_blkR h.blk (by decide) q hq e) (fun e => h.op.neRow h.lines (by decide) hq e))
  lines := hr
  ink := (hc.block _ h.ink.lt (fun hh => hh.elim (fun e => Blk.ne_ h.ink h.blk (by decide) e) (fun e => h.lines.ne_blkR h.ink (by decide) _ e rfl))).trans h.ink
  queue := h.queue.keep fun q hq => hc.block q (h.queue.lt hq) (fun hh => hh.elim (fun e => h.queue.ne_blkR h.blk (by decide) q hq e) (fun e => h.queue.neRow h.lines (by decide) hq e))
  l32 := h32
/-- One more peer is told. -/
theorem PeersTo.step {w wr w5 : World} {ps ps' : Peers} {f : Nat → PeerV → PeerV} (h : PeersTo w wr ps ps' f) (k : Nat) (P : PeerV) (s s' : PeerS) (hk : ps k = some (P, s)) (hk' : ps' k = some (f k P, s')) {A' : Option Addr} {n' c' : Nat} {l' : List ByteArray}
    (hc : Chg (fun q => q = s'.b ∨ blkOf s'.lA = some q) wr w5) (hb : Blk w5 s'.b 203 ((peerCells (f k P) s').setIfInBounds 6 (.slice A' n' c'))) (hr : Row w5 9 1 A' n' c' (strsV l')) (hA : ∀ q, blkOf A' = some q → blkOf s'.lA = some q ∨ wr.heap.size ≤ q) (h32 : l'.length ≤ 32) :
    ∃ ps'', PeersTo w w5 ps ps'' (fun i P => if i = k then { f k P with lines := l' } else f i P) := by
  have h0 : k ≠ 0 := fun e => by have := h.at_.zero; rw [← e, hk'] at this; cases this
  have hp := (h.at_.at_ k _ s' hk').queued hc hb hr h32
  have h9 : k < 9 := by
    rcases Nat.lt_or_ge k 9 with h1 | h1
    · exact h1
    · have := h.at_.top k h1; rw [hk'] at this; cases this
  have hfp : ∀ q, ({ s' with lA := A', lN := n', lC := c' } : PeerS).fp q → s'.fp q ∨ wr.heap.size ≤ q := by
    intro q hq
    rcases hq with h1 | h1 | h1 | h1 | h1
    · exact .inl (.inl h1)
    · exact .inl (.inr (.inl h1))
    · exact .inl (.inr (.inr (.inl h1)))
    · exact (hA q h1).elim (fun h2 => .inl (.inr (.inr (.inr (.inl h2))))) .inr
    · exact .inl (.inr (.inr (.inr (.inr h1))))
  obtain ⟨sk, hsk, hskb, hskf⟩ := h.some_ k P s hk
  have hse : sk = s' := by rw [hk'] at hsk; cases hsk; rfl
  subst hse
  refine ⟨ps'.set k (some ({ f k P with lines := l' }, { sk with lA := A', lN := n', lC := c' })), ?_, ?_, ?_, ?_⟩
  · refine h.at_.set k h0 h9 _ _ hp fun j P' s'' hj hpj q hq => ⟨?_, fun hq2 => ?_⟩
    · exact hc.block q ((h.at_.at_ j P' s'' hpj).lt hq) (fun hh => h.at_.disj j k P' s'' _ _ hj hpj hk' q hq (hh.elim .inl (fun e => .inr (.inr (.inr (.inl e))))))
    · rcases hfp q hq2 with h2 | h2
      · exact h.at_.disj j k P' s'' _ _ hj hpj hk' q hq h2
      · have := (h.at_.at_ j P' s'' hpj).lt hq; omega
  · intro i hi
    unfold Peers.set
    rw [if_neg (fun e => by rw [e, hk] at hi; cases hi)]
    exact h.none_ i hi
  · intro i P' s'' hi
    unfold Peers.set
    by_cases hik : i = k
    · subst hik
      rw [hk] at hi
      cases hi
      refine ⟨{ sk with lA := A', lN := n', lC := c' }, by rw [if_pos rfl, if_pos rfl], hskb, fun q hq => ?_⟩
      rcases hfp q hq with h2 | h2
      · exact hskf q h2
      · exact .inr (Nat.le_trans h.chg.size h2)
    · rw [if_neg hik, if_neg hik]
      exact h.some_ i P' s'' hi
  · refine h.chg.trans hc fun q hq => ?_
    have hq2 : sk.fp q := hq.elim .inl (fun e => .inr (.inr (.inr (.inl e))))
    rcases hskf q hq2 with h2 | h2
    · exact .inl ⟨k, P, s, hk, h2⟩
    · exact .inr h2
set_option maxRecDepth 100000 in
set_option maxHeartbeats 8000000 in
theorem srvTell (ps : Peers) (slot b : Nat) (what : ByteArray) (w : World) (hps : PeersAt w ps) (h9 : slot ≤ 9) (hwh : what.size ≤ 8) (hcell : ∀ k, k < 9 → w.cell? ⟨b, 10 + k, none⟩ = some (peerPtr ps k)) :
    Calls Tryz.prog 93 #[.pointer (some ⟨b, 0, none⟩), .int .i64 (slot : Nat), .string what] w fun e w' => e = .returned (.tuple #[]) ∧ ∃ ps', PeersTo w w' ps ps' (toldAtP slot (tellLine what slot)) := by
  have z0 := hcell 0 (by decide)
  have z1 := hcell 1 (by decide)
  have z2 := hcell 2 (by decide)
  have z3 := hcell 3 (by decide)
  have z4 := hcell 4 (by decide)
  have z5 := hcell 5 (by decide)
  have z6 := hcell 6 (by decide)
  have z7 := hcell 7 (by decide)
  have z8 := hcell 8 (by decide)
  simp only [Nat.reduceAdd] at z0 z1 z2 z3 z4 z5 z6 z7 z8
  obtain ⟨tx1, tx2⟩ := tell_size what slot hwh
  obtain ⟨text, htx⟩ : ∃ text : ByteArray, (what ++ ⟨#[32]⟩) ++ digS slot = text := ⟨_, rfl⟩
  have htl : tellLine what slot = text := htx
  rw [htl] at tx1 tx2 ⊢
  have HTX := Lib.hid htx
  have HPS := Lib.hid hps
  clear hps hcell htl htx
  go_enter Tryz.func93, Tryz.ntmps93
  go_wp2
  go_loopw [12] (fun i wr => ∃ (k : Nat) (ps' : Peers), k ≤ 9 ∧ i = .int .i64 (k : Nat) ∧ PeersTo w wr ps ps' (fun i P => if i < k then toldAtP slot text i P else P)) (fun i _ => 10 - (intOf i).toNat)
  case atStart => exact ⟨0, ps, by decide, rfl, (PeersTo.refl HPS.out).congr (fun i P s _ => by rw [if_neg (Nat.not_lt_zero _)])⟩
  case round =>
    obtain ⟨k, ps', hk9, rfl, hto⟩ := hrel
    have HTO := Lib.hid hto
    clear hto
    by_cases hlt : k < 9
    · have ixk : ∀ W, (Instr.index 163 (.agg #[peerPtr ps 0, peerPtr ps 1, peerPtr ps 2, peerPtr ps 3, peerPtr ps 4, peerPtr ps 5, peerPtr ps 6, peerPtr ps 7, peerPtr ps 8]) (.int .i64 (k : Nat))).run Tryz.prog W = .ok (peerPtr ps k) W := fun W => ixPeers ps k hlt W
      have t0 : decide ((k : Int) < 9) = true := decide_eq_true (by omega)
      have t0n : decide (k < 9) = true := decide_eq_true hlt
      cases hx : ps k with
      | none =>
        have hp : peerPtr ps k = .pointer none := by unfold peerPtr; rw [hx]; rfl
        rw [hp] at ixk
        have HXX := Lib.hid hx
        clear hx hp
        go_wp2
        exact ⟨⟨k + 1, ps', by omega, by go_num, HTO.out.congr (fun i P s hi => by
          by_cases h1 : i < k
          · rw [if_pos h1, if_pos (by omega)]
          · by_cases h2 : i = k
            · subst h2; rw [HXX.out] at hi; cases hi
            · rw [if_neg h1, if_neg (by omega)])⟩, by simp [intOf]; omega⟩
      | some x =>
        obtain ⟨P, s⟩ := x
        have hp : peerPtr ps k = .pointer (some ⟨s.b, 0, none⟩) := by unfold peerPtr; rw [hx]; rfl
        rw [hp] at ixk
        have HXX := Lib.hid hx
        clear hx hp
        by_cases hks : k = slot
        · have t1 : ((k : Int) != (slot : Int)) = false := by rw [hks]; simp
          have t1n : (k != slot) = false := by rw [hks]; simp
          have HKS := Lib.hid hks
          clear hks
          go_wp2
          exact ⟨⟨k + 1, ps', by omega, by go_num, HTO.out.congr (fun i P s hi => by
            by_cases h1 : i < k
            · rw [if_pos h1, if_pos (by omega)]
            · by_cases h2 : i = k
              · rw [if_neg h1, if_pos (by omega)]; unfold toldAtP; rw [if_pos (h2.trans HKS.out)]
              · rw [if_neg h1, if_neg (by omega)])⟩, by simp [intOf]; omega⟩
        · have t1 : ((k : Int) != (slot : Int)) = true := bne_iff_ne.2 (by omega)
          have t1n : (k != slot) = true := bne_iff_ne.2 hks
          obtain ⟨s', hs', hsb, hsf⟩ := HTO.out.some_ k P s HXX.out
          rw [if_neg (Nat.lt_irrefl k)] at hs'
          have hpa := HTO.out.at_.at_ k P s' hs'
          have hI := fun W => itoaS slot h9 W
          have HI := Lib.hid hI
          have HS' := Lib.hid hs'
          have HKS := Lib.hid hks
          rw [← hsb] at ixk
          have HQ := Lib.hid (fun W (hW : PeerAt W P s') (hl : P.lines.length ≤ 32) => sndQueue s'.b 203 (peerCells P s') P.lines text s'.lA s'.lN s'.lC W hW.blk (by decide) (by rfl) hW.lines hl tx1 tx2)
          have HPA := Lib.hid hpa
          clear hI hs' hks hsf hpa hsb
          have hl32 := HPA.out.l32
          have htx := HTX.out
          have b1 : ¬ 9223372036854775807 < what.size + 1 := by omega
          have b2 : ¬ 9223372036854775807 < what.size + 1 + 1 := by omega
          have b3 : ¬ 9223372036854775807 < what.size + 1 + (digS slot).size := by rw [digS_size]; omega
          have b4 : (digS slot).size = 1 := rfl
          go_upto_region 4 with (fail)
          go_region_held3 (fun w' => True) (first | trivial | go_keep) (first
            | (go_at_call 159; refine (HI.out _).mono ?_; rintro e w1 ⟨rfl, rfl⟩)
            | (go_at_call 158; refine (HQ.out _ (by first | exact HPA.out | exact HPA.out.keep (fun _ _ => rfl)) hl32).mono ?_; rintro e w5 hqd; obtain ⟨v, rfl⟩ : ∃ v, e = .returned (.int .i64 v) := (by rcases hqd with ⟨-, h, -⟩ | ⟨h, -⟩ <;> exact ⟨_, h⟩); have HQD := Lib.hid hqd; clear hqd))
          all_goals
            have hnew : ∃ ps2, PeersTo w w5 ps ps2 (fun i P => if i < k + 1 then toldAtP slot text i P else P) := by
              rcases HQD.out with ⟨h32, -, hw⟩ | ⟨-, A', n', c', hn', h32, hb5, hr5, hA5, hch⟩
              · subst hw
                refine ⟨ps', (PeersTo.below HTO.out (w' := _) (by first | exact Below.refl _ _ | exact (Below.refl _ _).drew)).congr fun i P2 s2 hi => ?_⟩
                by_cases h1 : i < k
                · rw [if_pos h1, if_pos (by omega)]
                · by_cases h2 : i = k
                  · subst h2
                    rw [HXX.out] at hi
                    cases hi
                    rw [if_neg h1, if_pos (by omega)]
                    unfold toldAtP toldP
                    rw [if_neg HKS.out, if_pos h32]
                  · rw [if_neg h1, if_neg (by omega)]
              · have hch2 : Chg (fun q => q = s'.b ∨ blkOf s'.lA = some q) wr w5 := ⟨hch.os, hch.tape, hch.output, hch.size, hch.block⟩
                obtain ⟨ps2, h2⟩ := HTO.out.step k P s s' HXX.out (by rw [if_neg (Nat.lt_irrefl k)]; exact HS'.out) hch2 (by rw [if_neg (Nat.lt_irrefl k)]; exact hb5) hr5 hA5 (by rw [List.length_append]; simp; omega)
                refine ⟨ps2, h2.congr fun i P2 s2 hi => ?_⟩
                by_cases h1 : i = k
                · subst h1
                  rw [HXX.out] at hi
                  cases hi
                  rw [if_pos rfl, if_neg (Nat.lt_irrefl _), if_pos (by omega)]
                  unfold toldAtP toldP
                  rw [if_neg HKS.out, if_neg h32]
                · rw [if_neg h1]
                  by_cases h3 : i < k
                  · rw [if_pos h3, if_pos (by omega)]
                  · rw [if_neg h3, if_neg (by omega)]
            obtain ⟨ps2, h2⟩ := hnew
            have H2 := Lib.hid h2
            clear h2 HQD
            go_wp2
            exact ⟨⟨k + 1, ps2, by omega, by go_num, H2.out⟩, by simp [intOf]; omega⟩
    · have hk : k = 9 := by omega
      subst hk
      go_wp2
      first | go_end0 | refine bodyPost_ret (results_none rfl _ _ _) rfl ?_
      refine ⟨rfl, ps', HTO.out.congr fun i P s hi => ?_⟩
      by_cases h1 : i < 9
      · rw [if_pos h1]
      · have := HPS.out.top i (by omega); rw [hi] at this; cases this
end Go.Proofs.YtojbijapdkohlaaGreatDoor
