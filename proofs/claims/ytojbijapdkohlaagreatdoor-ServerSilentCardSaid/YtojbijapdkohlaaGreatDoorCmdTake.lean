/- Layer 9: a row of commands is read. -/
import Derived.Test.YtojbijapdkohlaaGreatDoorChanRead
import Derived.Test.YtojbijapdkohlaaGreatDoorCmdRow
import Derived.Test.YtojbijapdkohlaaGreatDoorCliEnter
import Derived.Test.YtojbijapdkohlaaGreatDoorQ20RingX
set_option linter.unusedSimpArgs false
set_option linter.unusedVariables false
namespace Go.Proofs.YtojbijapdkohlaaGreatDoor
open Go.RowKit
theorem wrap8 {x : Nat} (h : x < 256) : IntKind.u8.wrap (x : Int) = (x : Int) := by rw [IntKind.wrap_u8]; omega
/-- One command read: the command, whether a way is none, and the reader behind it. -/
def oneCmd (first i : Nat) (r : RdV) : CmdV × Bool × RdV :=
  if (((r.take 8).2.take 8).2.take 1).1 = 1 then
    (⟨((first : Int) + (i : Int)) % 4294967296, IntKind.i8.wrap (((r.take 8).1 : Nat) - 127), IntKind.i8.wrap ((((r.take 8).2.take 8).1 : Nat) - 127), true, ((((((r.take 8).2.take 8).2.take 1).2.take 32).1 : Nat) : Int), (((((((r.take 8).2.take 8).2.take 1).2.take 32).2.take 8).1 : Nat) : Int)⟩,
      decide (254 < (r.take 8).1) || decide (254 < ((r.take 8).2.take 8).1), (((((r.take 8).2.take 8).2.take 1).2.take 32).2.take 8).2)
  else
    (⟨((first : Int) + (i : Int)) % 4294967296, IntKind.i8.wrap (((r.take 8).1 : Nat) - 127), IntKind.i8.wrap ((((r.take 8).2.take 8).1 : Nat) - 127), false, 0, 0⟩,
      decide (254 < (r.take 8).1) || decide (254 < ((r.take 8).2.take 8).1), (((r.take 8).2.take 8).2.take 1).2)
structure CmdS where
  l : List CmdV
  bad : Bool
  r : RdV
def cmdN (first : Nat) (r : RdV) : Nat → CmdS
  | 0 => ⟨[], false, r⟩
  | k + 1 => if (cmdN first r k).bad = true then cmdN first r k else ⟨(cmdN first r k).l ++ [(oneCmd first k (cmdN first r k).r).1], (oneCmd first k (cmdN first r k).r).2.1, (oneCmd first k (cmdN first r k).r).2.2⟩
def cmdAll (r : RdV) : CmdS := cmdN ((r.take 3).2.take 32).1 ((r.take 3).2.take 32).2 ((r.take 3).1 + 1)
def goodS (S : CmdS) : Bool := !S.bad && !S.r.fail && rowB S.l
def readS (S : CmdS) : List CmdV := if goodS S = true then S.l else []
def cmdGood (r : RdV) : Bool := goodS (cmdAll r)
def cmdRead (r : RdV) : List CmdV := readS (cmdAll r)
theorem cmdN_len {first : Nat} {r : RdV} {k : Nat} (h : (cmdN first r k).bad = false) : (cmdN first r k).l.length = k := by
  induction k with
  | zero => rfl
  | succ k ih =>
    unfold cmdN at h ⊢
    split at h
    · rename_i hb
      rw [hb] at h
      cases h
    · rename_i hb
      rw [if_neg hb]
      simp only [List.length_append, List.length_singleton]
      rw [ih (by simpa using hb)]
theorem cmdN_bad {first : Nat} {r : RdV} {k n : Nat} (h : (cmdN first r k).bad = true) (hk : k ≤ n) : cmdN first r n = cmdN first r k := by
  induction n with
  | zero =>
    obtain rfl : k = 0 := by omega
    rfl
  | succ n ih =>
    rcases Nat.lt_or_ge n k with h1 | h1
    · obtain rfl : k = n + 1 := by omega
      rfl
    · have h2 := ih h1
      show (if (cmdN first r n).bad = true then cmdN first r n else _) = _
      rw [h2, if_pos h]
/-- What Take hands back: a slice that holds the row. -/
def TookS (S : CmdS) (g : Nat) (w : World) (e : Ending) (w' : World) : Prop :=
  ∃ (A : Option Addr) (n c : Nat), e = .returned (.tuple #[.slice A n c, .bool (goodS S)]) ∧ Row w' 121 6 A n c (cmdsV (readS S)) ∧ (∀ q, blkOf A = some q → w.heap.size ≤ q) ∧ RdAt w' g S.r ∧ Chg (fun q => q = g) w w'
def CmdTook (r : RdV) (g : Nat) (w : World) (e : Ending) (w' : World) : Prop := TookS (cmdAll r) g w e w'
theorem TookS.none_ {S : CmdS} {g : Nat} {w w' : World} (hS : goodS S = false) (h : RdAt w' g S.r) (hc : Chg (fun q => q = g) w w') : TookS S g w (.returned (.tuple #[.slice none 0 0, .bool false])) w' := by
  refine ⟨none, 0, 0, by rw [hS], ?_, fun q hq => (nomatch hq), h, hc⟩
  unfold readS
  rw [hS]
  exact Row.nil_
theorem Row.clip {w : World} {e : TypeId} {size n c : Nat} {A : Option Addr} {xs : List Value} (h : Row w e size A n c xs) : Row w e size A n n xs := by
  refine ⟨h.1, Nat.le_refl _, Nat.le_trans h.2.1 h.2.2.1, ?_⟩
  rcases h.2.2.2 with ⟨h1, h2⟩ | ⟨g, off, cur, h1, h2, h3, h4⟩
  · exact .inl ⟨h1, by have := h.2.1; omega⟩
  · exact .inr ⟨g, off, cur, h1, h2, Nat.le_trans (Nat.add_le_add_left (Nat.mul_le_mul_right _ h.2.1) _) h3, h4⟩
theorem cmdAppended {w W w6 : World} {g : Nat} {r : RdV} {A A3 : Option Addr} {k c : Nat} {xs : List Value} (hA : ∀ q, blkOf A = some q → w.heap.size ≤ q) (hc : Chg (fun q => q = g) w W) (hg : W.grownBy w6 (blkOf A)) (hb : blkOf A3 = blkOf A ∨ blkOf A3 = some W.heap.size) (hs : w.heap.size ≤ W.heap.size) (hr : RdAt W g r) (hrow : Row W 121 6 A k c xs) :
    (∀ q, blkOf A3 = some q → w.heap.size ≤ q) ∧ RdAt w6 g r ∧ Chg (fun q => q = g) w w6 := by
  refine ⟨fun q hq => ?_, ?_, hc.grown hg (fun q hq => .inr (hA q hq))⟩
  · rcases hb with e | e
    · exact hA q (e.symm.trans hq)
    · rw [e] at hq
      cases hq
      exact hs
  · obtain ⟨A', c', q1, q2⟩ := hr.n
    refine ⟨⟨A', c', q1.grown hg (fun e => hrow.ne_blk q1 (by decide) g e.symm rfl), q2.keep (fun q hq => hg.block q (q2.lt hq) (fun e => ?_))⟩, hr.ok⟩
    have h1 := hrow.cls (q := q) (by rw [e])
    have h2 := q2.cls hq
    rw [h1] at h2
    exact absurd (Option.some.inj h2) (by decide)
set_option maxRecDepth 100000 in
set_option maxHeartbeats 8000000 in
theorem cmdTake (r : RdV) (g : Nat) (w : World) (h : RdAt w g r) : Calls Tryz.prog 106 #[.pointer (some ⟨g, 0, none⟩)] w (CmdTook r g w) := by
  have lg := h.lt
  have T1 := Lib.hid (fun W (hW : RdAt W g r) => rdTake r g 3 W hW (by decide))
  have T2 := Lib.hid (fun W (hW : RdAt W g (r.take 3).2) => rdTake _ g 32 W hW (by decide))
  have b1 := RdV.take_lt r 3
  have b2 := RdV.take_lt (r.take 3).2 32
  unfold CmdTook cmdAll
  generalize (r.take 3).2.take 32 = p2 at T2 b2 ⊢
  obtain ⟨first, r2⟩ := p2
  generalize r.take 3 = p1 at T1 T2 b1 ⊢
  obtain ⟨x1, r1⟩ := p1
  simp only at T1 T2 b1 b2 ⊢
  have hx8 : x1 < 8 := by simpa using b1
  have hf : first < 4294967296 := by simpa using b2
  have vf := wrap32 hf
  obtain ⟨n, hn⟩ : ∃ n, x1 + 1 = n := ⟨_, rfl⟩
  have hni : (x1 : Int) + 1 = (n : Int) := by omega
  have hn8 : n ≤ 8 := by omega
  rw [hn]
  have H := Lib.hid h
  have HN := Lib.hid hn
  clear h hn b1 b2
  go_enter Tryz.func106, Tryz.ntmps106
  go_wp2_with fail
  refine (T1.out _ H.out).mono ?_
  rintro e w1 ⟨rfl, h1, c1⟩
  have C1 := Lib.hid (show _ ∧ _ from ⟨h1, c1⟩)
  clear h1 c1
  go_wp2_with fail
  refine (T2.out _ C1.out.1).mono ?_
  rintro e w2 ⟨rfl, h2, c2⟩
  have C2 := Lib.hid (show _ ∧ _ from ⟨h2, C1.out.2.trans c2 (fun q hq => .inl hq)⟩)
  clear h2 c2 T1 T2
  go_wp2
  go_loopw [6, 18] (fun s i wr => ∃ (k : Nat) (A : Option Addr) (c : Nat), k ≤ n ∧ i = .int .i64 (k : Nat) ∧ s = .slice A k c ∧ (cmdN first r2 k).bad = false ∧ Row wr 121 6 A k c (cmdsV (cmdN first r2 k).l) ∧ (∀ q, blkOf A = some q → w.heap.size ≤ q) ∧ RdAt wr g (cmdN first r2 k).r ∧ Chg (fun q => q = g) w wr) (fun _ i _ => n - (intOf i).toNat)
  case atStart => exact ⟨0, none, 0, Nat.zero_le _, rfl, rfl, rfl, Row.nil_, fun q hq => (nomatch hq), C2.out.1, C2.out.2⟩
  case round =>
    obtain ⟨k, A, c, hk, rfl, rfl, hbad, hrow, hA, hrd, hch⟩ := hrel
    by_cases hlt : k < n
    · have hst : cmdN first r2 (k + 1) = ⟨(cmdN first r2 k).l ++ [(oneCmd first k (cmdN first r2 k).r).1], (oneCmd first k (cmdN first r2 k).r).2.1, (oneCmd first k (cmdN first r2 k).r).2.2⟩ := by
        show (if (cmdN first r2 k).bad = true then _ else _) = _
        rw [if_neg (by rw [hbad]; decide)]
      have hbd := fun (h : (cmdN first r2 (k + 1)).bad = true) => cmdN_bad h (n := n) (by omega)
      rw [hst] at hbd
      have hlk := cmdN_len hbad
      generalize cmdN first r2 k = S at hst hbd hlk hrow hrd
      obtain ⟨lk, bk, rk⟩ := S
      unfold oneCmd at hst hbd
      simp only at hst hbd hlk hrow hrd
      have T1 := Lib.hid (fun W (hW : RdAt W g rk) => rdTake rk g 8 W hW (by decide))
      have T2 := Lib.hid (fun W (hW : RdAt W g (rk.take 8).2) => rdTake _ g 8 W hW (by decide))
      have T3 := Lib.hid (fun W (hW : RdAt W g ((rk.take 8).2.take 8).2) => rdTake _ g 1 W hW (by decide))
      have T4 := Lib.hid (fun W (hW : RdAt W g (((rk.take 8).2.take 8).2.take 1).2) => rdTake _ g 32 W hW (by decide))
      have T5 := Lib.hid (fun W (hW : RdAt W g ((((rk.take 8).2.take 8).2.take 1).2.take 32).2) => rdTake _ g 8 W hW (by decide))
      have b1 := RdV.take_lt rk 8
      have b2 := RdV.take_lt (rk.take 8).2 8
      have b4 := RdV.take_lt (((rk.take 8).2.take 8).2.take 1).2 32
      have b5 := RdV.take_lt ((((rk.take 8).2.take 8).2.take 1).2.take 32).2 8
      generalize ((((rk.take 8).2.take 8).2.take 1).2.take 32).2.take 8 = p5 at T5 b5 hst hbd
      obtain ⟨q5, r5⟩ := p5
      generalize (((rk.take 8).2.take 8).2.take 1).2.take 32 = p4 at T4 T5 b4 hst hbd
      obtain ⟨v4, r4⟩ := p4
      generalize ((rk.take 8).2.take 8).2.take 1 = p3 at T3 T4 hst hbd
      obtain ⟨f3, r3⟩ := p3
      generalize (rk.take 8).2.take 8 = p2 at T2 T3 b2 hst hbd
      obtain ⟨y, ry⟩ := p2
      generalize rk.take 8 = p1 at T1 T2 b1 hst hbd
      obtain ⟨x, rx⟩ := p1
      simp only at T1 T2 T3 T4 T5 b1 b2 b4 b5 hst hbd
      have w1' : x < 256 := by simpa using b1
      have w2' : y < 256 := by simpa using b2
      have v5 := wrap8 (x := q5) (by simpa using b5)
      have v4' := wrap32 (x := v4) (by simpa using b4)
      have vk := wrap32 (x := k) (by omega)
      obtain ⟨mxv, hmx⟩ : ∃ m, IntKind.i8.wrap ((x : Int) - 127) = m := ⟨_, rfl⟩
      obtain ⟨myv, hmy⟩ : ∃ m, IntKind.i8.wrap ((y : Int) - 127) = m := ⟨_, rfl⟩
      simp only [hmx, hmy] at hst hbd
      have HS := Lib.hid (show _ ∧ _ ∧ _ ∧ _ ∧ _ ∧ _ from ⟨hst, hbd, hlk, hrow, hA, hch⟩)
      clear b1 b2 b4 b5 hst hbd hlk hrow hA hch hbad
      go_wp2_with fail
      refine (T1.out _ hrd).mono ?_
      rintro e w3 ⟨rfl, h3, c3⟩
      have C3 := Lib.hid (show _ ∧ _ from ⟨h3, HS.out.2.2.2.2.2.trans c3 (fun q hq => .inl hq)⟩)
      have R3 := Lib.hid (HS.out.2.2.2.1.keep (w' := w3) (fun q hq => c3.block q (HS.out.2.2.2.1.lt hq) (by
        obtain ⟨A9, c9, e9, -⟩ := hrd.n
        exact HS.out.2.2.2.1.ne_blk e9 (by decide) q hq)))
      clear h3 c3 hrd
      go_wp2_with fail
      refine (T2.out _ C3.out.1).mono ?_
      rintro e w4 ⟨rfl, h4, c4⟩
      have C4 := Lib.hid (show _ ∧ _ from ⟨h4, C3.out.2.trans c4 (fun q hq => .inl hq)⟩)
      have R4 := Lib.hid (R3.out.keep (w' := w4) (fun q hq => c4.block q (R3.out.lt hq) (by
        obtain ⟨A9, c9, e9, -⟩ := C3.out.1.n
        exact R3.out.ne_blk e9 (by decide) q hq)))
      clear h4 c4
      go_wp2_with fail
      refine (T3.out _ C4.out.1).mono ?_
      rintro e w5 ⟨rfl, h5, c5⟩
      have C5 := Lib.hid (show _ ∧ _ from ⟨h5, C4.out.2.trans c5 (fun q hq => .inl hq)⟩)
      have R5 := Lib.hid (R4.out.keep (w' := w5) (fun q hq => c5.block q (R4.out.lt hq) (by
        obtain ⟨A9, c9, e9, -⟩ := C4.out.1.n
        exact R4.out.ne_blk e9 (by decide) q hq)))
      clear h5 c5 T1 T2 T3
      by_cases hf1 : f3 = 1
      · have t3 : ((f3 : Int) == 1) = true := by rw [beq_iff_eq]; omega
        have hst := HS.out.1
        have hbd := HS.out.2.1
        simp only [if_pos hf1] at hst hbd
        have HST := Lib.hid (show _ ∧ _ from ⟨hst, hbd⟩)
        clear hst hbd hf1
        go_wp2_with fail
        refine (T4.out _ (C5.out.1.below ((Below.refl w5.heap.size w5).alloc (Nat.le_refl _) _) (Nat.le_refl _))).mono ?_
        rintro e w8 ⟨rfl, h8, c8⟩
        have lg5 := C5.out.1.lt
        have C8 := Lib.hid (show _ ∧ _ ∧ _ from ⟨h8, (Blk.new w5 121 #[.int .u32 (((first : Int) + (k : Int)) % 4294967296), .int .i8 mxv, .int .i8 myv, .bool true, .int .u32 0, .int .u8 0]).turn c8 (by omega), (C5.out.2.alloc (.cells #[.int .u32 (((first : Int) + (k : Int)) % 4294967296), .int .i8 mxv, .int .i8 myv, .bool true, .int .u32 0, .int .u8 0] 121)).trans c8 (fun q hq => .inl hq)⟩)
        have R8 := Lib.hid ((R5.out.keep (w' := (w5.alloc (.cells #[.int .u32 (((first : Int) + (k : Int)) % 4294967296), .int .i8 mxv, .int .i8 myv, .bool true, .int .u32 0, .int .u8 0] 121))) (fun q hq => Below.heap_alloc _ _ q (R5.out.lt hq))).keep (w' := w8) (fun q hq => c8.block q (by have := R5.out.lt hq; simp; omega) (by
          obtain ⟨A9, c9, e9, -⟩ := C5.out.1.n
          exact R5.out.ne_blk e9 (by decide) q hq)))
        clear h8 c8
        go_wp2_with fail
        refine (T5.out _ C8.out.1).mono ?_
        rintro e w7 ⟨rfl, h7, c7⟩
        have C7 := Lib.hid (show _ ∧ _ ∧ _ from ⟨h7, C8.out.2.1.turn c7 (by omega), C8.out.2.2.trans c7 (fun q hq => .inl hq)⟩)
        have R7 := Lib.hid (R8.out.keep (w' := w7) (fun q hq => c7.block q (R8.out.lt hq) (by
          obtain ⟨A9, c9, e9, -⟩ := C8.out.1.n
          exact R8.out.ne_blk e9 (by decide) q hq)))
        clear h7 c7 T4 T5
        have e0 : Blk ((w7.setCell ⟨w5.heap.size, 4, none⟩ (.int .u32 (v4 : Nat))).setCell ⟨w5.heap.size, 5, none⟩ (.int .u8 (q5 : Nat))) w5.heap.size 121 #[.int .u32 (((first : Int) + (k : Int)) % 4294967296), .int .i8 mxv, .int .i8 myv, .bool true, .int .u32 (v4 : Nat), .int .u8 (q5 : Nat)] := (C7.out.2.1.set_ 4 _).set_ 5 _
        have s7 : ((w7.setCell ⟨w5.heap.size, 4, none⟩ (.int .u32 (v4 : Nat))).setCell ⟨w5.heap.size, 5, none⟩ (.int .u8 (q5 : Nat))).heap.size = w7.heap.size := by simp [World.setCell]
        have z7 : ∀ q, q ≠ w5.heap.size → ((w7.setCell ⟨w5.heap.size, 4, none⟩ (.int .u32 (v4 : Nat))).setCell ⟨w5.heap.size, 5, none⟩ (.int .u8 (q5 : Nat))).heap[q]? = w7.heap[q]? := fun q hq => (Below.heap_setCell _ _ _ q hq).trans (Below.heap_setCell _ _ _ q hq)
        have RT := Lib.hid (R7.out.keep (w' := ((w7.setCell ⟨w5.heap.size, 4, none⟩ (.int .u32 (v4 : Nat))).setCell ⟨w5.heap.size, 5, none⟩ (.int .u8 (q5 : Nat)))) (fun q hq => z7 q (by have := R5.out.lt hq; omega)))
        have HRW := Lib.hid (RT.out.keep (w' := ((w7.setCell ⟨w5.heap.size, 4, none⟩ (.int .u32 (v4 : Nat))).setCell ⟨w5.heap.size, 5, none⟩ (.int .u8 (q5 : Nat))).alloc (.cells #[.int .u32 (((first : Int) + (k : Int)) % 4294967296), .int .i8 mxv, .int .i8 myv, .bool true, .int .u32 (v4 : Nat), .int .u8 (q5 : Nat)] 121)) (fun q hq => Below.heap_alloc _ _ q (RT.out.lt hq)))
        have hch7 : Chg (fun q => q = g) w ((w7.setCell ⟨w5.heap.size, 4, none⟩ (.int .u32 (v4 : Nat))).setCell ⟨w5.heap.size, 5, none⟩ (.int .u8 (q5 : Nat))) := Chg.setCell (F := fun q => q = g) (Chg.setCell (F := fun q => q = g) C7.out.2.2 (p := ⟨w5.heap.size, 4, none⟩) (.inr C5.out.2.size) _) (p := ⟨w5.heap.size, 5, none⟩) (.inr C5.out.2.size) _
        have HCH := Lib.hid (hch7.alloc (.cells #[.int .u32 (((first : Int) + (k : Int)) % 4294967296), .int .i8 mxv, .int .i8 myv, .bool true, .int .u32 (v4 : Nat), .int .u8 (q5 : Nat)] 121))
        have hrd7 : RdAt ((w7.setCell ⟨w5.heap.size, 4, none⟩ (.int .u32 (v4 : Nat))).setCell ⟨w5.heap.size, 5, none⟩ (.int .u8 (q5 : Nat))) g r5 := by
          obtain ⟨A', c', q1, q2⟩ := C7.out.1.n
          exact ⟨⟨A', c', (z7 g (by omega)).trans q1, q2.keep (fun q hq => z7 q (q2.ne_blk C7.out.2.1 (by decide) q hq))⟩, C7.out.1.ok⟩
        have HRD7 := Lib.hid hrd7
        have n4 := C7.out.2.1.cell 4
        have n5 := C7.out.2.1.cell 5
        have p4 := C7.out.2.1.frozen 4
        have p5 := C7.out.2.1.frozen 5
        have y0 := e0.cell 0
        have y1 := e0.cell 1
        have y2 := e0.cell 2
        have y3 := e0.cell 3
        have y4 := e0.cell 4
        have y5 := e0.cell 5
        have l7 := C7.out.2.1.lt
        have lw5 : w.heap.size ≤ w7.heap.size := C7.out.2.2.size
        have hk2 := HS.out.2.2.1
        have hRDS : Reads (((w7.setCell ⟨w5.heap.size, 4, none⟩ (.int .u32 (v4 : Nat))).setCell ⟨w5.heap.size, 5, none⟩ (.int .u8 (q5 : Nat))).alloc (.cells #[.int .u32 (((first : Int) + (k : Int)) % 4294967296), .int .i8 mxv, .int .i8 myv, .bool true, .int .u32 (v4 : Nat), .int .u8 (q5 : Nat)] 121)) (w7.heap.size + 1) 6 (some ⟨w7.heap.size, 0, none⟩) 1 (cmdCells (⟨(((first : Int) + (k : Int)) % 4294967296), mxv, myv, true, ((v4 : Nat) : Int), ((q5 : Nat) : Int)⟩ : CmdV)) := Reads.blk (size := 6) (n := 1) (g := w7.heap.size) (by have := heap_alloc_new ((w7.setCell ⟨w5.heap.size, 4, none⟩ (.int .u32 (v4 : Nat))).setCell ⟨w5.heap.size, 5, none⟩ (.int .u8 (q5 : Nat))) (.cells #[.int .u32 (((first : Int) + (k : Int)) % 4294967296), .int .i8 mxv, .int .i8 myv, .bool true, .int .u32 (v4 : Nat), .int .u8 (q5 : Nat)] 121); rw [s7] at this; exact this) (by omega) rfl
        have HRDS := Lib.hid hRDS
        have HRD6 := Lib.hid (fun w6 A3 (c9 : Nat) (hg6 : World.grownBy (((w7.setCell ⟨w5.heap.size, 4, none⟩ (.int .u32 (v4 : Nat))).setCell ⟨w5.heap.size, 5, none⟩ (.int .u8 (q5 : Nat))).alloc (.cells #[.int .u32 (((first : Int) + (k : Int)) % 4294967296), .int .i8 mxv, .int .i8 myv, .bool true, .int .u32 (v4 : Nat), .int .u8 (q5 : Nat)] 121)) w6 (blkOf A)) (hb6 : blkOf A3 = blkOf A ∨ blkOf A3 = some (((w7.setCell ⟨w5.heap.size, 4, none⟩ (.int .u32 (v4 : Nat))).setCell ⟨w5.heap.size, 5, none⟩ (.int .u8 (q5 : Nat))).alloc (.cells #[.int .u32 (((first : Int) + (k : Int)) % 4294967296), .int .i8 mxv, .int .i8 myv, .bool true, .int .u32 (v4 : Nat), .int .u8 (q5 : Nat)] 121)).heap.size) => cmdAppended HS.out.2.2.2.2.1 HCH.out hg6 hb6 HCH.out.size (HRD7.out.below ((Below.refl _ _).alloc (Nat.le_refl _) _) (Nat.le_refl _)) HRW.out)
        clear e0 s7 z7 hch7 hrd7 hRDS
        by_cases hxb : 254 < x
        · have u1 : decide ((254 : Int) < (x : Int)) = true := decide_eq_true (by omega)
          have u1n : decide (254 < x) = true := decide_eq_true hxb
          have E0 := Lib.hid (HST.out.2 (by simp [hxb]))
          go_wp2_with (at_builtin; refine wpList_row rfl (.tmp 52) (.tmp 54) rfl eltC A k c (cmdsV lk) rfl HRW.out (w7.heap.size + 1) (some ⟨w7.heap.size, 0, none⟩) 1 1 (cmdCells (⟨(((first : Int) + (k : Int)) % 4294967296), mxv, myv, true, ((v4 : Nat) : Int), ((q5 : Nat) : Int)⟩ : CmdV)) rfl HRDS.out (cmdCells_one _) (by omega) ?_; intro A3 c3 w6 hr6 hg6 hb6)
          have hrd6 := HRD6.out _ _ 0 hg6 hb6
          have hrow6 : Row w6 121 6 A3 (k + 1) c3 (cmdsV (lk ++ [(⟨(((first : Int) + (k : Int)) % 4294967296), mxv, myv, true, ((v4 : Nat) : Int), ((q5 : Nat) : Int)⟩ : CmdV)])) := by
            have := hr6
            rw [show cmdsV (lk ++ [(⟨(((first : Int) + (k : Int)) % 4294967296), mxv, myv, true, ((v4 : Nat) : Int), ((q5 : Nat) : Int)⟩ : CmdV)]) = cmdsV lk ++ cmdCells (⟨(((first : Int) + (k : Int)) % 4294967296), mxv, myv, true, ((v4 : Nat) : Int), ((q5 : Nat) : Int)⟩ : CmdV) by simp [cmdsV]]
            exact this
          have X6 := Lib.hid (show _ ∧ _ from ⟨hrow6, hrd6⟩)
          clear hrd6 hrow6 hr6 hg6 hb6
          go_wp2
          go_ret2
          have e0 := E0.out
          rw [e0]
          exact TookS.none_ (by unfold goodS; simp [hxb]) X6.out.2.2.1 X6.out.2.2.2
        · have u1 : decide ((254 : Int) < (x : Int)) = false := decide_eq_false (by omega)
          have u1n : decide (254 < x) = false := decide_eq_false hxb
          by_cases hyb : 254 < y
          · have u2 : decide ((254 : Int) < (y : Int)) = true := decide_eq_true (by omega)
            have u2n : decide (254 < y) = true := decide_eq_true hyb
            have E0 := Lib.hid (HST.out.2 (by simp [hyb]))
            go_wp2_with (at_builtin; refine wpList_row rfl (.tmp 52) (.tmp 54) rfl eltC A k c (cmdsV lk) rfl HRW.out (w7.heap.size + 1) (some ⟨w7.heap.size, 0, none⟩) 1 1 (cmdCells (⟨(((first : Int) + (k : Int)) % 4294967296), mxv, myv, true, ((v4 : Nat) : Int), ((q5 : Nat) : Int)⟩ : CmdV)) rfl HRDS.out (cmdCells_one _) (by omega) ?_; intro A3 c3 w6 hr6 hg6 hb6)
            have hrd6 := HRD6.out _ _ 0 hg6 hb6
            have hrow6 : Row w6 121 6 A3 (k + 1) c3 (cmdsV (lk ++ [(⟨(((first : Int) + (k : Int)) % 4294967296), mxv, myv, true, ((v4 : Nat) : Int), ((q5 : Nat) : Int)⟩ : CmdV)])) := by
              have := hr6
              rw [show cmdsV (lk ++ [(⟨(((first : Int) + (k : Int)) % 4294967296), mxv, myv, true, ((v4 : Nat) : Int), ((q5 : Nat) : Int)⟩ : CmdV)]) = cmdsV lk ++ cmdCells (⟨(((first : Int) + (k : Int)) % 4294967296), mxv, myv, true, ((v4 : Nat) : Int), ((q5 : Nat) : Int)⟩ : CmdV) by simp [cmdsV]]
              exact this
            have X6 := Lib.hid (show _ ∧ _ from ⟨hrow6, hrd6⟩)
            clear hrd6 hrow6 hr6 hg6 hb6
            go_wp2
            go_ret2
            have e0 := E0.out
            rw [e0]
            exact TookS.none_ (by unfold goodS; simp [hyb]) X6.out.2.2.1 X6.out.2.2.2
          · have u2 : decide ((254 : Int) < (y : Int)) = false := decide_eq_false (by omega)
            have u2n : decide (254 < y) = false := decide_eq_false hyb
            go_wp2_with (at_builtin; refine wpList_row rfl (.tmp 52) (.tmp 54) rfl eltC A k c (cmdsV lk) rfl HRW.out (w7.heap.size + 1) (some ⟨w7.heap.size, 0, none⟩) 1 1 (cmdCells (⟨(((first : Int) + (k : Int)) % 4294967296), mxv, myv, true, ((v4 : Nat) : Int), ((q5 : Nat) : Int)⟩ : CmdV)) rfl HRDS.out (cmdCells_one _) (by omega) ?_; intro A3 c3 w6 hr6 hg6 hb6)
            have hrd6 := HRD6.out _ _ 0 hg6 hb6
            have hrow6 : Row w6 121 6 A3 (k + 1) c3 (cmdsV (lk ++ [(⟨(((first : Int) + (k : Int)) % 4294967296), mxv, myv, true, ((v4 : Nat) : Int), ((q5 : Nat) : Int)⟩ : CmdV)])) := by
              have := hr6
              rw [show cmdsV (lk ++ [(⟨(((first : Int) + (k : Int)) % 4294967296), mxv, myv, true, ((v4 : Nat) : Int), ((q5 : Nat) : Int)⟩ : CmdV)]) = cmdsV lk ++ cmdCells (⟨(((first : Int) + (k : Int)) % 4294967296), mxv, myv, true, ((v4 : Nat) : Int), ((q5 : Nat) : Int)⟩ : CmdV) by simp [cmdsV]]
              exact this
            have X6 := Lib.hid (show _ ∧ _ from ⟨hrow6, hrd6⟩)
            clear hrd6 hrow6 hr6 hg6 hb6
            exact ⟨⟨k + 1, A3, c3, by omega, by go_num, rfl, by rw [HST.out.1]; simp [hxb, hyb], by rw [HST.out.1]; exact X6.out.1, X6.out.2.1, by rw [HST.out.1]; exact X6.out.2.2.1, X6.out.2.2.2⟩, by simp [intOf]; omega⟩
      · have t3 : ((f3 : Int) == 1) = false := beq_eq_false_iff_ne.2 (by omega)
        have hst := HS.out.1
        have hbd := HS.out.2.1
        simp only [if_neg hf1] at hst hbd
        have HST := Lib.hid (show _ ∧ _ from ⟨hst, hbd⟩)
        clear hst hbd hf1 T4 T5
        have R6 := Lib.hid (R5.out.keep (w' := (w5.alloc (.cells #[.int .u32 (((first : Int) + (k : Int)) % 4294967296), .int .i8 mxv, .int .i8 myv, .bool false, .int .u32 0, .int .u8 0] 121))) (fun q hq => Below.heap_alloc _ _ q (R5.out.lt hq)))
        have HRW := Lib.hid (R6.out.keep (w' := (w5.alloc (.cells #[.int .u32 (((first : Int) + (k : Int)) % 4294967296), .int .i8 mxv, .int .i8 myv, .bool false, .int .u32 0, .int .u8 0] 121)).alloc (.cells #[.int .u32 (((first : Int) + (k : Int)) % 4294967296), .int .i8 mxv, .int .i8 myv, .bool false, .int .u32 0, .int .u8 0] 121)) (fun q hq => Below.heap_alloc _ _ q (R6.out.lt hq)))
        have HCH := Lib.hid ((C5.out.2.alloc (.cells #[.int .u32 (((first : Int) + (k : Int)) % 4294967296), .int .i8 mxv, .int .i8 myv, .bool false, .int .u32 0, .int .u8 0] 121)).alloc (.cells #[.int .u32 (((first : Int) + (k : Int)) % 4294967296), .int .i8 mxv, .int .i8 myv, .bool false, .int .u32 0, .int .u8 0] 121))
        have hk2 := HS.out.2.2.1
        have HRD6 := Lib.hid (fun w6 A3 (c9 : Nat) (hg6 : World.grownBy ((w5.alloc (.cells #[.int .u32 (((first : Int) + (k : Int)) % 4294967296), .int .i8 mxv, .int .i8 myv, .bool false, .int .u32 0, .int .u8 0] 121)).alloc (.cells #[.int .u32 (((first : Int) + (k : Int)) % 4294967296), .int .i8 mxv, .int .i8 myv, .bool false, .int .u32 0, .int .u8 0] 121)) w6 (blkOf A)) (hb6 : blkOf A3 = blkOf A ∨ blkOf A3 = some ((w5.alloc (.cells #[.int .u32 (((first : Int) + (k : Int)) % 4294967296), .int .i8 mxv, .int .i8 myv, .bool false, .int .u32 0, .int .u8 0] 121)).alloc (.cells #[.int .u32 (((first : Int) + (k : Int)) % 4294967296), .int .i8 mxv, .int .i8 myv, .bool false, .int .u32 0, .int .u8 0] 121)).heap.size) => cmdAppended HS.out.2.2.2.2.1 HCH.out hg6 hb6 (by simp; have := C5.out.2.size; omega) (C5.out.1.below (((Below.refl w5.heap.size w5).alloc (Nat.le_refl _) _).alloc (by simp) _) (Nat.le_refl _)) HRW.out)
        by_cases hxb : 254 < x
        · have u1 : decide ((254 : Int) < (x : Int)) = true := decide_eq_true (by omega)
          have u1n : decide (254 < x) = true := decide_eq_true hxb
          have E0 := Lib.hid (HST.out.2 (by simp [hxb]))
          go_wp2_with (at_builtin; refine wpList_row rfl (.tmp 52) (.tmp 54) rfl eltC A k c (cmdsV lk) rfl HRW.out (w5.heap.size + 2) (some ⟨w5.heap.size + 1, 0, none⟩) 1 1 (cmdCells (⟨(((first : Int) + (k : Int)) % 4294967296), mxv, myv, false, 0, 0⟩ : CmdV)) rfl (Reads.blk (size := 6) (n := 1) (g := w5.heap.size + 1) (by have := heap_alloc_new (w5.alloc (.cells #[.int .u32 (((first : Int) + (k : Int)) % 4294967296), .int .i8 mxv, .int .i8 myv, .bool false, .int .u32 0, .int .u8 0] 121)) (.cells #[.int .u32 (((first : Int) + (k : Int)) % 4294967296), .int .i8 mxv, .int .i8 myv, .bool false, .int .u32 0, .int .u8 0] 121); simpa using this) (by omega) rfl) (cmdCells_one _) (by omega) ?_; intro A3 c3 w6 hr6 hg6 hb6)
          have hrd6 := HRD6.out _ _ 0 hg6 hb6
          have hrow6 : Row w6 121 6 A3 (k + 1) c3 (cmdsV (lk ++ [(⟨(((first : Int) + (k : Int)) % 4294967296), mxv, myv, false, 0, 0⟩ : CmdV)])) := by
            have := hr6
            rw [show cmdsV (lk ++ [(⟨(((first : Int) + (k : Int)) % 4294967296), mxv, myv, false, 0, 0⟩ : CmdV)]) = cmdsV lk ++ cmdCells (⟨(((first : Int) + (k : Int)) % 4294967296), mxv, myv, false, 0, 0⟩ : CmdV) by simp [cmdsV]]
            exact this
          have X6 := Lib.hid (show _ ∧ _ from ⟨hrow6, hrd6⟩)
          clear hrd6 hrow6 hr6 hg6 hb6
          go_wp2
          go_ret2
          have e0 := E0.out
          rw [e0]
          exact TookS.none_ (by unfold goodS; simp [hxb]) X6.out.2.2.1 X6.out.2.2.2
        · have u1 : decide ((254 : Int) < (x : Int)) = false := decide_eq_false (by omega)
          have u1n : decide (254 < x) = false := decide_eq_false hxb
          by_cases hyb : 254 < y
          · have u2 : decide ((254 : Int) < (y : Int)) = true := decide_eq_true (by omega)
            have u2n : decide (254 < y) = true := decide_eq_true hyb
            have E0 := Lib.hid (HST.out.2 (by simp [hyb]))
            go_wp2_with (at_builtin; refine wpList_row rfl (.tmp 52) (.tmp 54) rfl eltC A k c (cmdsV lk) rfl HRW.out (w5.heap.size + 2) (some ⟨w5.heap.size + 1, 0, none⟩) 1 1 (cmdCells (⟨(((first : Int) + (k : Int)) % 4294967296), mxv, myv, false, 0, 0⟩ : CmdV)) rfl (Reads.blk (size := 6) (n := 1) (g := w5.heap.size + 1) (by have := heap_alloc_new (w5.alloc (.cells #[.int .u32 (((first : Int) + (k : Int)) % 4294967296), .int .i8 mxv, .int .i8 myv, .bool false, .int .u32 0, .int .u8 0] 121)) (.cells #[.int .u32 (((first : Int) + (k : Int)) % 4294967296), .int .i8 mxv, .int .i8 myv, .bool false, .int .u32 0, .int .u8 0] 121); simpa using this) (by omega) rfl) (cmdCells_one _) (by omega) ?_; intro A3 c3 w6 hr6 hg6 hb6)
            have hrd6 := HRD6.out _ _ 0 hg6 hb6
            have hrow6 : Row w6 121 6 A3 (k + 1) c3 (cmdsV (lk ++ [(⟨(((first : Int) + (k : Int)) % 4294967296), mxv, myv, false, 0, 0⟩ : CmdV)])) := by
              have := hr6
              rw [show cmdsV (lk ++ [(⟨(((first : Int) + (k : Int)) % 4294967296), mxv, myv, false, 0, 0⟩ : CmdV)]) = cmdsV lk ++ cmdCells (⟨(((first : Int) + (k : Int)) % 4294967296), mxv, myv, false, 0, 0⟩ : CmdV) by simp [cmdsV]]
              exact this
            have X6 := Lib.hid (show _ ∧ _ from ⟨hrow6, hrd6⟩)
            clear hrd6 hrow6 hr6 hg6 hb6
            go_wp2
            go_ret2
            have e0 := E0.out
            rw [e0]
            exact TookS.none_ (by unfold goodS; simp [hyb]) X6.out.2.2.1 X6.out.2.2.2
          · have u2 : decide ((254 : Int) < (y : Int)) = false := decide_eq_false (by omega)
            have u2n : decide (254 < y) = false := decide_eq_false hyb
            go_wp2_with (at_builtin; refine wpList_row rfl (.tmp 52) (.tmp 54) rfl eltC A k c (cmdsV lk) rfl HRW.out (w5.heap.size + 2) (some ⟨w5.heap.size + 1, 0, none⟩) 1 1 (cmdCells (⟨(((first : Int) + (k : Int)) % 4294967296), mxv, myv, false, 0, 0⟩ : CmdV)) rfl (Reads.blk (size := 6) (n := 1) (g := w5.heap.size + 1) (by have := heap_alloc_new (w5.alloc (.cells #[.int .u32 (((first : Int) + (k : Int)) % 4294967296), .int .i8 mxv, .int .i8 myv, .bool false, .int .u32 0, .int .u8 0] 121)) (.cells #[.int .u32 (((first : Int) + (k : Int)) % 4294967296), .int .i8 mxv, .int .i8 myv, .bool false, .int .u32 0, .int .u8 0] 121); simpa using this) (by omega) rfl) (cmdCells_one _) (by omega) ?_; intro A3 c3 w6 hr6 hg6 hb6)
            have hrd6 := HRD6.out _ _ 0 hg6 hb6
            have hrow6 : Row w6 121 6 A3 (k + 1) c3 (cmdsV (lk ++ [(⟨(((first : Int) + (k : Int)) % 4294967296), mxv, myv, false, 0, 0⟩ : CmdV)])) := by
              have := hr6
              rw [show cmdsV (lk ++ [(⟨(((first : Int) + (k : Int)) % 4294967296), mxv, myv, false, 0, 0⟩ : CmdV)]) = cmdsV lk ++ cmdCells (⟨(((first : Int) + (k : Int)) % 4294967296), mxv, myv, false, 0, 0⟩ : CmdV) by simp [cmdsV]]
              exact this
            have X6 := Lib.hid (show _ ∧ _ from ⟨hrow6, hrd6⟩)
            clear hrd6 hrow6 hr6 hg6 hb6
            exact ⟨⟨k + 1, A3, c3, by omega, by go_num, rfl, by rw [HST.out.1]; simp [hxb, hyb], by rw [HST.out.1]; exact X6.out.1, X6.out.2.1, by rw [HST.out.1]; exact X6.out.2.2.1, X6.out.2.2.2⟩, by simp [intOf]; omega⟩
    · have hkn : k = n := by omega
      subst hkn
      obtain ⟨S, hS⟩ : ∃ S, cmdN first r2 k = S := ⟨_, rfl⟩
      rw [hS] at hbad hrow hrd
      have O := Lib.hid (rdOK _ g wr hrd)
      have HSS := Lib.hid hS
      clear hS
      have hlen : k ≤ 9223372036854775807 := by omega
      have HRWW := Lib.hid (cmdRow S.l wr A k c (hrow.reads (by decide)) hlen)
      have X := Lib.hid (show _ ∧ _ ∧ _ ∧ _ ∧ _ from ⟨hbad, hrow, hA, hrd, hch⟩)
      have hkc := hrow.2.1
      clear hbad hrow hA hrd hch
      obtain ⟨fl, hfl⟩ : ∃ fl, S.r.fail = fl := ⟨_, rfl⟩
      have O5 := O.out
      rw [hfl] at O5
      have HF := Lib.hid hfl
      clear hfl O
      cases fl with
      | true =>
        rw [Bool.not_true] at O5
        have O6 := Lib.hid O5
        clear O5
        go_wp2_with fail
        refine O6.out.mono ?_
        rintro e w3 ⟨rfl, rfl⟩
        go_wp2
        go_ret2
        rw [HSS.out]
        exact TookS.none_ (by unfold goodS; rw [HF.out]; simp) X.out.2.2.2.1 X.out.2.2.2.2
      | false =>
        rw [Bool.not_false] at O5
        have O6 := Lib.hid O5
        clear O5
        obtain ⟨rb, hrb⟩ : ∃ rb, rowB S.l = rb := ⟨_, rfl⟩
        have HRB := Lib.hid hrb
        have HRX := HRWW.out
        rw [hrb] at HRX
        have HRY := Lib.hid HRX
        clear HRX HRWW hrb
        cases rb with
        | true =>
          have hg1 : goodS S = true := by unfold goodS; rw [HF.out, HRB.out, X.out.1]; rfl
          have HG := Lib.hid hg1
          clear hg1
          go_wp2_with fail
          refine O6.out.mono ?_
          rintro e w3 ⟨rfl, rfl⟩
          go_wp2_with fail
          refine HRY.out.mono ?_
          rintro e w4 ⟨rfl, hb4⟩
          have HB4 := Lib.hid hb4
          clear hb4
          go_wp2
          go_ret2
          rw [HSS.out]
          have hrr : readS S = S.l := by unfold readS; rw [if_pos HG.out]
          exact ⟨A, k, k, by rw [HG.out]; rfl, by rw [hrr]; exact (X.out.2.1.keep (fun q hq => HB4.out.block q (X.out.2.1.lt hq))).clip, X.out.2.2.1, X.out.2.2.2.1.below HB4.out (Nat.le_refl _), Chg.below X.out.2.2.2.2 HB4.out X.out.2.2.2.2.size⟩
        | false =>
          go_wp2_with fail
          refine O6.out.mono ?_
          rintro e w3 ⟨rfl, rfl⟩
          go_wp2_with fail
          refine HRY.out.mono ?_
          rintro e w4 ⟨rfl, hb4⟩
          have HB4 := Lib.hid hb4
          clear hb4
          go_wp2
          go_ret2
          rw [HSS.out]
          exact TookS.none_ (by unfold goodS; rw [HRB.out]; simp) (X.out.2.2.2.1.below HB4.out (Nat.le_refl _)) (Chg.below X.out.2.2.2.2 HB4.out X.out.2.2.2.2.size)
end Go.Proofs.YtojbijapdkohlaaGreatDoor
