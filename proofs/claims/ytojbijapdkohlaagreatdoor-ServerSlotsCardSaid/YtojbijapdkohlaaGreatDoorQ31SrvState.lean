/- Go's strconv.Itoa at one digit; layer 16: a line queued. Layer 16: a line queued, by a sender that lies 5 cells into its block. Formed commands. Layer 21: a server's peers, told. -/
import Derived.Test.YtojbijapdkohlaaGreatDoorSrvPut
import Derived.WalkLawsBesides
import Derived.Deep.DeepCutAuto
import Derived.Test.YtojbijapdkohlaaGreatDoorFix
set_option linter.unusedSimpArgs false
set_option linter.unusedVariables false
namespace Go.Proofs.YtojbijapdkohlaaGreatDoor
open Go.RowKit
def digS (k : Nat) : ByteArray := ⟨#[UInt8.ofNat (48 + k)]⟩
theorem digit_cases {k : Nat} (h : k ≤ 9) : k = 0 ∨ k = 1 ∨ k = 2 ∨ k = 3 ∨ k = 4 ∨ k = 5 ∨ k = 6 ∨ k = 7 ∨ k = 8 ∨ k = 9 := by omega
theorem smallS (k : Nat) (h : k ≤ 9) (w : World) : Calls Tryz.prog 244 #[.int .i64 (k : Nat)] w fun e w' => e = .returned (.string (digS k)) ∧ w = w' := by
  rcases digit_cases h with rfl | rfl | rfl | rfl | rfl | rfl | rfl | rfl | rfl | rfl
  all_goals
    go_enter Tryz.func244, Tryz.ntmps244
    go_wp2
    go_ret
    exact ⟨rfl, rfl⟩
theorem fmtS (k : Nat) (h : k ≤ 9) (w : World) : Calls Tryz.prog 238 #[.int .i64 (k : Nat), .int .i64 10] w fun e w' => e = .returned (.string (digS k)) ∧ w = w' := by
  have hs := smallS k h w
  have t1 : decide ((0 : Int) ≤ (k : Int)) = true := decide_eq_true (by omega)
  have t2 : decide ((k : Int) < 100) = true := decide_eq_true (by omega)
  have t2n : decide (k < 100) = true := decide_eq_true (by omega)
  go_enter Tryz.func238, Tryz.ntmps238
  go_wp2_with fail
  refine hs.mono ?_
  rintro e w1 ⟨rfl, rfl⟩
  go_wp2
  go_ret
  exact ⟨rfl, rfl⟩
theorem itoaIn (k : Nat) (h : k ≤ 9) (w : World) : Calls Tryz.prog 216 #[.int .i64 (k : Nat)] w fun e w' => e = .returned (.string (digS k)) ∧ w = w' := by
  have hs := fmtS k h w
  go_enter Tryz.func216, Tryz.ntmps216
  go_wp2_with fail
  refine hs.mono ?_
  rintro e w1 ⟨rfl, rfl⟩
  go_wp2
  go_ret
  exact ⟨rfl, rfl⟩
theorem itoaS (k : Nat) (h : k ≤ 9) (w : World) : Calls Tryz.prog 159 #[.int .i64 (k : Nat)] w fun e w' => e = .returned (.string (digS k)) ∧ w = w' := by
  have hs := itoaIn k h w
  go_enter Tryz.func159, Tryz.ntmps159
  go_wp2_with fail
  refine hs.mono ?_
  rintro e w1 ⟨rfl, rfl⟩
  go_wp2
  go_ret
  exact ⟨rfl, rfl⟩
theorem lineS (n : Int) (w : World) : Calls Tryz.prog 215 #[.int .i64 n] w fun e w' => e = .returned (.bool (decide (1 ≤ n ∧ n ≤ 60))) ∧ w = w' := by
  go_enter Tryz.func215, Tryz.ntmps215
  go_wp2
  all_goals
    go_ret
    refine ⟨ret_bool ?_, rfl⟩
    rw [Bool.eq_iff_iff]
    simp
    try omega
end Go.Proofs.YtojbijapdkohlaaGreatDoor
set_option linter.unusedSimpArgs false
set_option linter.unusedVariables false
namespace Go.Proofs.YtojbijapdkohlaaGreatDoor
open Go.RowKit
def strsV (l : List ByteArray) : List Value := l.map Value.string
theorem strsV_length (l : List ByteArray) : (strsV l).length = l.length := by simp [strsV]
set_option maxRecDepth 100000 in
theorem eltS : Elt Tryz.prog 141 9 1 16 := Elt.mk' Tryz.underlying141 (.string ⟨#[]⟩) (by kernel_rfl) rfl (by decide) (by decide)
/-- What a line that is queued makes of a sender. -/
def Queued (b : Nat) (t : TypeId) (cs : Array Value) (l : List ByteArray) (text : ByteArray) (A : Option Addr) (w : World) (e : Ending) (w' : World) : Prop :=
  (l.length = 32 ∧ e = .returned (.int .i64 7) ∧ w = w') ∨ (e = .returned (.int .i64 0) ∧ ∃ (A' : Option Addr) (n' c' : Nat), n' = l.length + 1 ∧ l.length ≠ 32 ∧ Blk w' b t (cs.setIfInBounds 6 (.slice A' n' c')) ∧ Row w' 9 1 A' n' c' (strsV (l ++ [text])) ∧
    (∀ q, blkOf A' = some q → blkOf A = some q ∨ w.heap.size ≤ q) ∧ Chg (fun q => q = b ∨ blkOf A = some q) w w')
set_option maxRecDepth 100000 in
set_option maxHeartbeats 4000000 in
theorem sndQueue (b : Nat) (t : TypeId) (cs : Array Value) (l : List ByteArray) (text : ByteArray) (A : Option Addr) (n c : Nat) (w : World) (hb : Blk w b t cs) (ht : 9 ≠ t) (k6 : cs[6]? = some (.slice A n c)) (hr : Row w 9 1 A n c (strsV l)) (hn : l.length ≤ 32) (h1 : 1 ≤ text.size) (h2 : text.size ≤ 60) :
    Calls Tryz.prog 158 #[.pointer (some ⟨b, 5, none⟩), .string text] w (Queued b t cs l text A w) := by
  have hl : l.length = n := by have := hr.1; rw [strsV_length] at this; omega
  have z6 : w.cell? ⟨b, 6, none⟩ = some (.slice A n c) := (hb.cell 6).trans k6
  have f6 : w.frozen? ⟨b, 6, none⟩ = false := hb.frozen 6
  have lb := hb.lt
  have hL := fun W => lineS (text.size : Int) W
  rw [decide_eq_true (by omega)] at hL
  have HB := Lib.hid hb
  have HR := Lib.hid hr
  have HL := Lib.hid hl
  have HLN := Lib.hid hL
  clear hb hr k6 hL
  by_cases h32 : n = 32
  · have t1 : ((n : Int) == 32) = true := by rw [beq_iff_eq]; omega
    have t1n : (n == 32) = true := by rw [beq_iff_eq]; exact h32
    have H32 := Lib.hid (hl.trans h32)
    clear hl h32
    go_enter Tryz.func158, Tryz.ntmps158
    go_wp2_with fail
    refine (HLN.out _).mono ?_
    rintro e w1 ⟨rfl, rfl⟩
    go_wp2
    go_ret
    exact .inl ⟨H32.out, rfl, rfl⟩
  · have t1 : ((n : Int) == 32) = false := beq_eq_false_iff_ne.2 (by omega)
    have t1n : (n == 32) = false := beq_eq_false_iff_ne.2 h32
    have H32 := Lib.hid h32
    clear h32 hl
    go_enter Tryz.func158, Tryz.ntmps158
    go_wp2_with fail
    refine (HLN.out _).mono ?_
    rintro e w1 ⟨rfl, rfl⟩
    have hrow := HR.out.keep (w' := w.alloc (.cells #[.string text] 9)) (fun q hq => Below.heap_alloc _ _ q (HR.out.lt hq))
    have HRW := Lib.hid hrow
    clear hrow
    go_wp2_with (at_builtin; refine wpList_row rfl (.tmp 24) (.tmp 26) rfl eltS A n c (strsV l) rfl HRW.out (w.heap.size + 1) (some ⟨w.heap.size, 0, none⟩) 1 1 [.string text] rfl (Reads.blk (size := 1) (n := 1) (g := w.heap.size) (heap_alloc_new w (.cells #[.string text] 9)) (by omega) rfl) (by simp [Value.oneCell']) (by have := HL.out; omega) ?_; intro A3 c3 w3 hr3 hg3 hb3; have mb3 := (HB.out.alloc (.cells #[.string text] 9)).grown hg3 (fun e => HR.out.ne_blkR HB.out ht b e.symm rfl); have s6 : w3.cell? ⟨b, 6, none⟩ = some (.slice A n c) := (mb3.cell 6).trans ((HB.out.cell 6).symm.trans z6); have t6 : w3.frozen? ⟨b, 6, none⟩ = false := mb3.frozen 6)
    have k3 := hr3.ne_blkR mb3 ht
    go_ret
    refine .inr ⟨rfl, A3, n + 1, c3, by have := HL.out; omega, by have := HL.out; have := H32.out; omega, mb3.set_ 6 _, ?_, ?_, ?_⟩
    · have := hr3.keep (w' := w3.setCell ⟨b, 6, none⟩ (.slice A3 (n + 1) c3)) (fun q hq => Below.heap_setCell _ _ _ q (k3 q hq))
      simpa [strsV] using this
    · intro q hq
      rcases hb3 with h | h
      · exact .inl (h.symm.trans hq)
      · rw [h] at hq
        simp at hq
        exact .inr (by omega)
    · exact Chg.setCell (F := fun q => q = b ∨ blkOf A = some q) (Chg.grown (Chg.alloc (Chg.refl (w := w)) _) hg3 (fun k hk => .inl (.inr hk))) (p := ⟨b, 6, none⟩) (.inl (.inl rfl)) _
end Go.Proofs.YtojbijapdkohlaaGreatDoor
set_option linter.unusedSimpArgs false
set_option linter.unusedVariables false
namespace Go.Proofs.YtojbijapdkohlaaGreatDoor
open Go.RowKit
structure CmdV where
  num : Int
  mx : Int
  my : Int
  fire : Bool
  view : Int
  frac : Int
def cmdOk (q : CmdV) : Bool := decide (1 ≤ q.num ∧ q.num ≤ 2147483648 ∧ -127 ≤ q.mx ∧ -127 ≤ q.my ∧ ((q.fire = true ∧ q.view ≤ 2147483648) ∨ (q.fire = false ∧ q.view = 0 ∧ q.frac = 0)))
set_option maxHeartbeats 4000000 in
theorem cmdFormed (q : CmdV) (w : World) : Calls Tryz.prog 164 #[.agg #[.int .u32 q.num, .int .i8 q.mx, .int .i8 q.my, .bool q.fire, .int .u32 q.view, .int .u8 q.frac]] w fun e w' => e = .returned (.bool (cmdOk q)) ∧ Below w.heap.size w w' := by
  obtain ⟨a, b, c, d, e, f⟩ := q
  cases d
  all_goals
    go_enter Tryz.func164, Tryz.ntmps164
    go_wp2
    all_goals
      go_ret
      refine ⟨ret_bool ?_, (by repeat (first | with_reducible exact Below.refl _ _ | with_reducible assumption | with_reducible refine Below.drew ?_ | with_reducible refine below_drews ?_ _ | with_reducible refine Below.alloc ?_ (by first | omega | (simp; done) | (simp; omega)) _ | with_reducible refine Below.setCell ?_ (by first | omega | (simp; done) | (simp; omega)) _))⟩
      rw [Bool.eq_iff_iff]
      simp [cmdOk]
      try omega
def cmdCells (c : CmdV) : List Value := [.int .u32 c.num, .int .i8 c.mx, .int .i8 c.my, .bool c.fire, .int .u32 c.view, .int .u8 c.frac]
def cmdsV (l : List CmdV) : List Value := l.flatMap cmdCells
theorem cmdCells_one (c : CmdV) : ∀ u ∈ cmdCells c, u.oneCell' = true := by
  intro u hu
  unfold cmdCells at hu
  simp only [List.mem_cons, List.not_mem_nil, or_false] at hu
  rcases hu with h | h | h | h | h | h <;> subst h <;> rfl
end Go.Proofs.YtojbijapdkohlaaGreatDoor
set_option linter.unusedSimpArgs false
set_option linter.unusedVariables false
namespace Go.Proofs.YtojbijapdkohlaaGreatDoor
open Go.RowKit
def u16L (l : List Nat) : List Value := l.map fun x => Value.int .u16 ((x : Nat) : Int)
/-- What a peer holds. -/
structure PeerV where
  num : Nat
  any : Bool
  ack : Nat
  mask : Nat
  op : List Nat
  gone : Nat
  lines : List ByteArray
  last : Nat
  queue : List CmdV
  tokens : Int
  applied : Nat
  accepted : Int
  silent : Int
/-- Where it lies. -/
structure PeerS where
  b : Nat
  oA : Option Addr
  oN : Nat
  oC : Nat
  lA : Option Addr
  lN : Nat
  lC : Nat
  ib : Nat
  qA : Option Addr
  qN : Nat
  qC : Nat
def peerCells (P : PeerV) (s : PeerS) : Array Value := #[.int .u16 (P.num : Nat), .bool P.any, .int .u16 (P.ack : Nat), .int .u32 (P.mask : Nat), .slice s.oA s.oN s.oC, .int .u32 (P.gone : Nat), .slice s.lA s.lN s.lC, .pointer (some ⟨s.ib, 0, none⟩), .int .u32 (P.applied : Nat), .int .i64 P.accepted, .int .i64 P.silent]
structure PeerAt (w : World) (P : PeerV) (s : PeerS) : Prop where
  blk : Blk w s.b 203 (peerCells P s)
  op : Row w 95 1 s.oA s.oN s.oC (u16L P.op)
  lines : Row w 9 1 s.lA s.lN s.lC (strsV P.lines)
  ink : Blk w s.ib 280 #[.int .u32 (P.last : Nat), .slice s.qA s.qN s.qC, .int .i64 P.tokens]
  queue : Row w 121 6 s.qA s.qN s.qC (cmdsV P.queue)
  l32 : P.lines.length ≤ 32
def PeerS.fp (s : PeerS) (q : Nat) : Prop := q = s.b ∨ q = s.ib ∨ blkOf s.oA = some q ∨ blkOf s.lA = some q ∨ blkOf s.qA = some q
theorem PeerAt.keep {w w' : World} {P : PeerV} {s : PeerS} (h : PeerAt w P s) (hk : ∀ q, s.fp q → w'.heap[q]? = w.heap[q]?) : PeerAt w' P s where
  blk := (hk _ (.inl rfl)).trans h.blk
  op := h.op.keep fun q hq => hk q (.inr (.inr (.inl hq)))
  lines := h.lines.keep fun q hq => hk q (.inr (.inr (.inr (.inl hq))))
  ink := (hk _ (.inr (.inl rfl))).trans h.ink
  queue := h.queue.keep fun q hq => hk q (.inr (.inr (.inr (.inr hq))))
  l32 := h.l32
theorem PeerAt.lt {w : World} {P : PeerV} {s : PeerS} (h : PeerAt w P s) {q : Nat} (hq : s.fp q) : q < w.heap.size := by
  rcases hq with rfl | rfl | hq | hq | hq
  · exact h.blk.lt
  · exact h.ink.lt
  · exact h.op.lt hq
  · exact h.lines.lt hq
  · exact h.queue.lt hq
theorem PeerAt.below {w w' : World} {B : Nat} {P : PeerV} {s : PeerS} (h : PeerAt w P s) (hb : Below B w w') (hB : w.heap.size ≤ B) : PeerAt w' P s := h.keep fun q hq => hb.block q (Nat.lt_of_lt_of_le (h.lt hq) hB)
/-- The peers of a server: of each slot from 0 to 8, what it holds and where. -/
abbrev Peers := Nat → Option (PeerV × PeerS)
structure PeersAt (w : World) (ps : Peers) : Prop where
  at_ : ∀ i P s, ps i = some (P, s) → PeerAt w P s
  zero : ps 0 = none
  top : ∀ i, 9 ≤ i → ps i = none
  disj : ∀ i j P s P' s', i ≠ j → ps i = some (P, s) → ps j = some (P', s') → ∀ q, s.fp q → ¬ s'.fp q
def peerPtr (ps : Peers) (i : Nat) : Value := .pointer ((ps i).map fun x => ⟨x.2.b, 0, none⟩)
def peersV (ps : Peers) : List Value := [peerPtr ps 0, peerPtr ps 1, peerPtr ps 2, peerPtr ps 3, peerPtr ps 4, peerPtr ps 5, peerPtr ps 6, peerPtr ps 7, peerPtr ps 8]
def Peers.set (ps : Peers) (i : Nat) (x : Option (PeerV × PeerS)) : Peers := fun j => if j = i then x else ps j
/-- One peer turned, the others as they were. -/
theorem PeersAt.set {w w' : World} {ps : Peers} (h : PeersAt w ps) (i : Nat) (hi : i ≠ 0) (hi9 : i < 9) (P : PeerV) (s : PeerS) (hp : PeerAt w' P s) (hk : ∀ j P' s', j ≠ i → ps j = some (P', s') → ∀ q, s'.fp q → w'.heap[q]? = w.heap[q]? ∧ ¬ s.fp q) : PeersAt w' (ps.set i (some (P, s))) where
  at_ := fun j P' s' hj => by
    unfold Peers.set at hj
    split at hj
    · cases hj; exact hp
    · rename_i hji
      exact (h.at_ j P' s' hj).keep fun q hq => (hk j P' s' hji hj q hq).1
  zero := by unfold Peers.set; rw [if_neg (Ne.symm hi)]; exact h.zero
  top := fun j hj => by unfold Peers.set; rw [if_neg (by omega)]; exact h.top j hj
  disj := fun a b P1 s1 P2 s2 hab h1 h2 q hq hq2 => by
    unfold Peers.set at h1 h2
    split at h1
    · rename_i ha
      split at h2
      · rename_i hb; exact hab (ha.trans hb.symm)
      · rename_i hb
        cases h1
        exact (hk b P2 s2 hb h2 q hq2).2 hq
    · rename_i ha
      split at h2
      · rename_i hb
        cases h2
        exact (hk a P1 s1 ha h1 q hq).2 hq2
      · exact h.disj a b P1 s1 P2 s2 hab h1 h2 q hq hq2
theorem PeersAt.drop {w : World} {ps : Peers} (h : PeersAt w ps) (i : Nat) : PeersAt w (ps.set i none) where
  at_ := fun j P s hj => by
    unfold Peers.set at hj
    split at hj
    · cases hj
    · exact h.at_ j P s hj
  zero := by
    unfold Peers.set
    split
    · rfl
    · exact h.zero
  top := fun j hj => by
    unfold Peers.set
    split
    · rfl
    · exact h.top j hj
  disj := fun a b P1 s1 P2 s2 hab h1 h2 => by
    unfold Peers.set at h1 h2
    split at h1
    · cases h1
    · split at h2
      · cases h2
      · exact h.disj a b P1 s1 P2 s2 hab h1 h2
theorem PeersAt.keep {w w' : World} {ps : Peers} (h : PeersAt w ps) (hk : ∀ i P s, ps i = some (P, s) → ∀ q, s.fp q → w'.heap[q]? = w.heap[q]?) : PeersAt w' ps where
  at_ := fun j P s hj => (h.at_ j P s hj).keep (hk j P s hj)
  zero := h.zero
  top := h.top
  disj := h.disj
end Go.Proofs.YtojbijapdkohlaaGreatDoor
