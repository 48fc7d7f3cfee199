/- Layer 14: a header is read. -/
import Derived.Test.YtojbijapdkohlaaGreatDoorQ29Rd
import Derived.Test.YtojbijapdkohlaaGreatDoorQ24Chan
set_option linter.unusedSimpArgs false
set_option linter.unusedVariables false
namespace Go.Proofs.YtojbijapdkohlaaGreatDoor
open Go.RowKit
/-- Numbers that have no more bits than they are asked for. -/
theorem wrap16 {x : Nat} (h : x < 65536) : IntKind.u16.wrap (x : Int) = (x : Int) := by simp [IntKind.wrap, IntKind.bits, IntKind.signed]; omega
theorem wrap32 {x : Nat} (h : x < 4294967296) : IntKind.u32.wrap (x : Int) = (x : Int) := by rw [IntKind.wrap_u32]; omega
def hdrOf (r : RdV) : HdrV := ⟨(r.take 16).1, ((r.take 16).2.take 1).1 == 1, (((r.take 16).2.take 1).2.take 16).1, ((((r.take 16).2.take 1).2.take 16).2.take 32).1⟩
def rdHdr (r : RdV) : RdV := ((((r.take 16).2.take 1).2.take 16).2.take 32).2
def hdrGood (r : RdV) : Bool := !(rdHdr r).fail && ((hdrOf r).any || ((hdrOf r).ack == 0 && (hdrOf r).mask == 0))
def hdrRead (r : RdV) : HdrV := if hdrGood r = true then hdrOf r else ⟨0, false, 0, 0⟩
theorem hdrOf_ok (r : RdV) : (hdrOf r).Ok := by
  have h1 := RdV.take_lt r 16
  have h2 := RdV.take_lt ((r.take 16).2.take 1).2 16
  have h3 := RdV.take_lt (((r.take 16).2.take 1).2.take 16).2 32
  exact ⟨by show (r.take 16).1 ≤ 65535; omega, by show (((r.take 16).2.take 1).2.take 16).1 ≤ 65535; omega, by show ((((r.take 16).2.take 1).2.take 16).2.take 32).1 ≤ 4294967295; omega⟩
theorem hdrRead_ok (r : RdV) : (hdrRead r).Ok := by
  unfold hdrRead
  split
  · exact hdrOf_ok r
  · exact ⟨Nat.zero_le _, Nat.zero_le _, Nat.zero_le _⟩
set_option maxRecDepth 100000 in
set_option maxHeartbeats 8000000 in
theorem chanRead (r : RdV) (g : Nat) (w : World) (h : RdAt w g r) :
    Calls Tryz.prog 104 #[.pointer (some ⟨g, 0, none⟩)] w fun e w' => e = .returned (.tuple #[.agg #[.int .u16 ((hdrRead r).num : Nat), .bool (hdrRead r).any, .int .u16 ((hdrRead r).ack : Nat), .int .u32 ((hdrRead r).mask : Nat)], .bool (hdrGood r)]) ∧ RdAt w' g (rdHdr r) ∧ Chg (fun q => q = g) w w' := by
  have lg := h.lt
  have T1 := Lib.hid (fun W (hW : RdAt W g r) => rdTake r g 16 W hW (by decide))
  have T2 := Lib.hid (fun W (hW : RdAt W g (r.take 16).2) => rdTake _ g 1 W hW (by decide))
  have T3 := Lib.hid (fun W (hW : RdAt W g ((r.take 16).2.take 1).2) => rdTake _ g 16 W hW (by decide))
  have T4 := Lib.hid (fun W (hW : RdAt W g (((r.take 16).2.take 1).2.take 16).2) => rdTake _ g 32 W hW (by decide))
  have b1 := RdV.take_lt r 16
  have b3 := RdV.take_lt ((r.take 16).2.take 1).2 16
  have b4 := RdV.take_lt (((r.take 16).2.take 1).2.take 16).2 32
  unfold hdrRead hdrGood hdrOf rdHdr
  generalize (((r.take 16).2.take 1).2.take 16).2.take 32 = p4 at T4 b4 ⊢
  obtain ⟨x4, r4⟩ := p4
  generalize hp3 : ((r.take 16).2.take 1).2.take 16 = p3 at T3 T4 b3 ⊢
  obtain ⟨x3, r3⟩ := p3
  generalize hp2 : (r.take 16).2.take 1 = p2 at T2 T3 ⊢
  obtain ⟨x2, r2⟩ := p2
  generalize hp1 : r.take 16 = p1 at T1 T2 b1 ⊢
  obtain ⟨x1, r1⟩ := p1
  clear hp1 hp2 hp3
  simp only at T1 T2 T3 T4 b1 b3 b4 ⊢
  have v1 := wrap16 (x := x1) (by simpa using b1)
  have v3 := wrap16 (x := x3) (by simpa using b3)
  have v4 := wrap32 (x := x4) (by simpa using b4)
  have v2 : ((x2 : Int) == 1) = (x2 == 1) := by rw [Bool.eq_iff_iff, beq_iff_eq, beq_iff_eq]; omega
  obtain ⟨an, han⟩ : ∃ an, (x2 == 1) = an := ⟨_, rfl⟩
  rw [han] at v2
  simp only [han]
  generalize hval : (Value.tuple #[.agg #[.int .u16 _, .bool _, .int .u16 _, .int .u32 _], .bool _]) = val
  have HV := Lib.hid hval
  clear hval
  have H := Lib.hid h
  clear h han b1 b3 b4
  go_enter Tryz.func104, Tryz.ntmps104
  go_wp2_with fail
  refine (T1.out _ (H.out.below ((Below.refl w.heap.size w).alloc (Nat.le_refl _) _) (Nat.le_refl _))).mono ?_
  rintro e w1 ⟨rfl, h1, c1⟩
  have m1 := Blk.turn (Blk.new w 215 #[.int .u16 0, .bool false, .int .u16 0, .int .u32 0]) c1 (by omega)
  have C1 := Lib.hid (show _ ∧ _ ∧ _ from ⟨h1, m1, Chg.trans (F := fun q => q = g) ((Chg.refl (w := w)).alloc _) c1 (fun q hq => .inl hq)⟩)
  clear h1 m1 c1
  go_wp2_with fail
  refine (T2.out _ C1.out.1).mono ?_
  rintro e w2 ⟨rfl, h2, c2⟩
  have C2 := Lib.hid (show _ ∧ _ ∧ _ from ⟨h2, C1.out.2.1.turn c2 (by omega), C1.out.2.2.trans c2 (fun q hq => .inl hq)⟩)
  clear h2 c2
  go_wp2_with fail
  refine (T3.out _ C2.out.1).mono ?_
  rintro e w3 ⟨rfl, h3, c3⟩
  have C3 := Lib.hid (show _ ∧ _ ∧ _ from ⟨h3, C2.out.2.1.turn c3 (by omega), C2.out.2.2.trans c3 (fun q hq => .inl hq)⟩)
  clear h3 c3
  go_wp2_with fail
  refine (T4.out _ C3.out.1).mono ?_
  rintro e w4 ⟨rfl, h4, c4⟩
  have C4 := Lib.hid (show _ ∧ _ ∧ _ from ⟨h4, C3.out.2.1.turn c4 (by omega), C3.out.2.2.trans c4 (fun q hq => .inl hq)⟩)
  have O4 := Lib.hid (rdOK r4 g _ (h4.below ((Below.refl w4.heap.size w4).alloc (Nat.le_refl _) (.cells #[.int .u16 (x1 : Nat), .bool an, .int .u16 (x3 : Nat), .int .u32 (x4 : Nat)] 215)) (Nat.le_refl _)))
  have l4 := C4.out.2.1.lt
  have y0 := C4.out.2.1.cell 0
  have y1 := C4.out.2.1.cell 1
  have y2 := C4.out.2.1.cell 2
  have y3 := C4.out.2.1.cell 3
  have f0 := C4.out.2.1.frozen 0
  have f1 := C4.out.2.1.frozen 1
  have f2 := C4.out.2.1.frozen 2
  have f3 := C4.out.2.1.frozen 3
  clear h4 c4 T1 T2 T3 T4
  go_wp2_with fail
  obtain ⟨fl, hfl⟩ : ∃ fl, r4.fail = fl := ⟨_, rfl⟩
  have HF := Lib.hid hfl
  clear hfl
  cases fl with
  | true =>
    have O5 := O4.out
    rw [HF.out, Bool.not_true] at O5
    clear O4
    refine O5.mono ?_
    rintro e w5 ⟨rfl, rfl⟩
    cases an with
    | true =>
      go_wp2
      have g0 : Blk (((((w4.setCell ⟨w.heap.size, 0, none⟩ (.int .u16 0)).setCell ⟨w.heap.size, 1, none⟩ (.bool false)).setCell ⟨w.heap.size, 2, none⟩ (.int .u16 0)).setCell ⟨w.heap.size, 3, none⟩ (.int .u32 0)).alloc (.cells #[.int .u16 (x1 : Nat), .bool true, .int .u16 (x3 : Nat), .int .u32 (x4 : Nat)] 215)) w.heap.size 215 #[.int .u16 0, .bool false, .int .u16 0, .int .u32 0] := (((((C4.out.2.1.set_ 0 _).set_ 1 _).set_ 2 _).set_ 3 _).alloc _)
      have g1 : RdAt (((((w4.setCell ⟨w.heap.size, 0, none⟩ (.int .u16 0)).setCell ⟨w.heap.size, 1, none⟩ (.bool false)).setCell ⟨w.heap.size, 2, none⟩ (.int .u16 0)).setCell ⟨w.heap.size, 3, none⟩ (.int .u32 0)).alloc (.cells #[.int .u16 (x1 : Nat), .bool true, .int .u16 (x3 : Nat), .int .u32 (x4 : Nat)] 215)) g r4 := by
        obtain ⟨A', c', q1, q2⟩ := C4.out.1.n
        have hz : ∀ q, q < w4.heap.size → q ≠ w.heap.size → (((((w4.setCell ⟨w.heap.size, 0, none⟩ (.int .u16 0)).setCell ⟨w.heap.size, 1, none⟩ (.bool false)).setCell ⟨w.heap.size, 2, none⟩ (.int .u16 0)).setCell ⟨w.heap.size, 3, none⟩ (.int .u32 0)).alloc (.cells #[.int .u16 (x1 : Nat), .bool true, .int .u16 (x3 : Nat), .int .u32 (x4 : Nat)] 215)).heap[q]? = w4.heap[q]? := fun q hq hne => (Below.heap_alloc _ _ q (by simpa [World.setCell] using hq)).trans ((Below.heap_setCell _ _ _ q hne).trans ((Below.heap_setCell _ _ _ q hne).trans ((Below.heap_setCell _ _ _ q hne).trans (Below.heap_setCell _ _ _ q hne))))
        exact ⟨⟨A', c', (hz g q1.lt (by omega)).trans q1, q2.keep (fun q hq => hz q (q2.lt hq) (q2.ne_blk C4.out.2.1 (by decide) q hq))⟩, C4.out.1.ok⟩
      have g2 : Chg (fun q => q = g) w (((((w4.setCell ⟨w.heap.size, 0, none⟩ (.int .u16 0)).setCell ⟨w.heap.size, 1, none⟩ (.bool false)).setCell ⟨w.heap.size, 2, none⟩ (.int .u16 0)).setCell ⟨w.heap.size, 3, none⟩ (.int .u32 0)).alloc (.cells #[.int .u16 (x1 : Nat), .bool true, .int .u16 (x3 : Nat), .int .u32 (x4 : Nat)] 215)) := (Chg.setCell (F := fun q => q = g) (Chg.setCell (F := fun q => q = g) (Chg.setCell (F := fun q => q = g) (Chg.setCell (F := fun q => q = g) C4.out.2.2 (p := ⟨w.heap.size, 0, none⟩) (.inr (Nat.le_refl _)) _) (p := ⟨w.heap.size, 1, none⟩) (.inr (Nat.le_refl _)) _) (p := ⟨w.heap.size, 2, none⟩) (.inr (Nat.le_refl _)) _) (p := ⟨w.heap.size, 3, none⟩) (.inr (Nat.le_refl _)) _).alloc _
      clear y0 y1 y2 y3 f0 f1 f2 f3
      generalize (((((w4.setCell ⟨w.heap.size, 0, none⟩ (.int .u16 0)).setCell ⟨w.heap.size, 1, none⟩ (.bool false)).setCell ⟨w.heap.size, 2, none⟩ (.int .u16 0)).setCell ⟨w.heap.size, 3, none⟩ (.int .u32 0)).alloc (.cells #[.int .u16 (x1 : Nat), .bool true, .int .u16 (x3 : Nat), .int .u32 (x4 : Nat)] 215)) = wf at g0 g1 g2 ⊢
      have s0 := g0.cell 0
      have s1 := g0.cell 1
      have s2 := g0.cell 2
      have s3 := g0.cell 3
      refine bodyPost_ret (v := .tuple #[.agg #[.int .u16 0, .bool false, .int .u16 0, .int .u32 0], .bool false]) (by simp [results, Tryz.results104, go_sem, s0, s1, s2, s3]) rfl ?_
      exact ⟨by rw [← HV.out]; simp [HF.out], g1, g2⟩
    | false =>
      go_wp2
      have g0 : Blk (((((w4.setCell ⟨w.heap.size, 0, none⟩ (.int .u16 0)).setCell ⟨w.heap.size, 1, none⟩ (.bool false)).setCell ⟨w.heap.size, 2, none⟩ (.int .u16 0)).setCell ⟨w.heap.size, 3, none⟩ (.int .u32 0)).alloc (.cells #[.int .u16 (x1 : Nat), .bool false, .int .u16 (x3 : Nat), .int .u32 (x4 : Nat)] 215)) w.heap.size 215 #[.int .u16 0, .bool false, .int .u16 0, .int .u32 0] := (((((C4.out.2.1.set_ 0 _).set_ 1 _).set_ 2 _).set_ 3 _).alloc _)
      have g1 : RdAt (((((w4.setCell ⟨w.heap.size, 0, none⟩ (.int .u16 0)).setCell ⟨w.heap.size, 1, none⟩ (.bool false)).setCell ⟨w.heap.size, 2, none⟩ (.int .u16 0)).setCell ⟨w.heap.size, 3, none⟩ (.int .u32 0)).alloc (.cells #[.int .u16 (x1 : Nat), .bool false, .int .u16 (x3 : Nat), .int .u32 (x4 : Nat)] 215)) g r4 := by
        obtain ⟨A', c', q1, q2⟩ := C4.out.1.n
        have hz : ∀ q, q < w4.heap.size → q ≠ w.heap.size → (((((w4.setCell ⟨w.heap.size, 0, none⟩ (.int .u16 0)).setCell ⟨w.heap.size, 1, none⟩ (.bool false)).setCell ⟨w.heap.size, 2, none⟩ (.int .u16 0)).setCell ⟨w.heap.size, 3, none⟩ (.int .u32 0)).alloc (.cells #[.int .u16 (x1 : Nat), .bool false, .int .u16 (x3 : Nat), .int .u32 (x4 : Nat)] 215)).heap[q]? = w4.heap[q]? := fun q hq hne => (Below.heap_alloc _ _ q (by simpa [World.setCell] using hq)).trans ((Below.heap_setCell _ _ _ q hne).trans ((Below.heap_setCell _ _ _ q hne).trans ((Below.heap_setCell _ _ _ q hne).trans (Below.heap_setCell _ _ _ q hne))))
        exact ⟨⟨A', c', (hz g q1.lt (by omega)).trans q1, q2.keep (fun q hq => hz q (q2.lt hq) (q2.ne_blk C4.out.2.1 (by decide) q hq))⟩, C4.out.1.ok⟩
      have g2 : Chg (fun q => q = g) w (((((w4.setCell ⟨w.heap.size, 0, none⟩ (.int .u16 0)).setCell ⟨w.heap.size, 1, none⟩ (.bool false)).setCell ⟨w.heap.size, 2, none⟩ (.int .u16 0)).setCell ⟨w.heap.size, 3, none⟩ (.int .u32 0)).alloc (.cells #[.int .u16 (x1 : Nat), .bool false, .int .u16 (x3 : Nat), .int .u32 (x4 : Nat)] 215)) := (Chg.setCell (F := fun q => q = g) (Chg.setCell (F := fun q => q = g) (Chg.setCell (F := fun q => q = g) (Chg.setCell (F := fun q => q = g) C4.out.2.2 (p := ⟨w.heap.size, 0, none⟩) (.inr (Nat.le_refl _)) _) (p := ⟨w.heap.size, 1, none⟩) (.inr (Nat.le_refl _)) _) (p := ⟨w.heap.size, 2, none⟩) (.inr (Nat.le_refl _)) _) (p := ⟨w.heap.size, 3, none⟩) (.inr (Nat.le_refl _)) _).alloc _
      clear y0 y1 y2 y3 f0 f1 f2 f3
      generalize (((((w4.setCell ⟨w.heap.size, 0, none⟩ (.int .u16 0)).setCell ⟨w.heap.size, 1, none⟩ (.bool false)).setCell ⟨w.heap.size, 2, none⟩ (.int .u16 0)).setCell ⟨w.heap.size, 3, none⟩ (.int .u32 0)).alloc (.cells #[.int .u16 (x1 : Nat), .bool false, .int .u16 (x3 : Nat), .int .u32 (x4 : Nat)] 215)) = wf at g0 g1 g2 ⊢
      have s0 := g0.cell 0
      have s1 := g0.cell 1
      have s2 := g0.cell 2
      have s3 := g0.cell 3
      refine bodyPost_ret (v := .tuple #[.agg #[.int .u16 0, .bool false, .int .u16 0, .int .u32 0], .bool false]) (by simp [results, Tryz.results104, go_sem, s0, s1, s2, s3]) rfl ?_
      exact ⟨by rw [← HV.out]; simp [HF.out], g1, g2⟩
  | false =>
    have O5 := O4.out
    rw [HF.out, Bool.not_false] at O5
    clear O4
    refine O5.mono ?_
    rintro e w5 ⟨rfl, rfl⟩
    cases an with
    | true =>
      go_wp2
      have g0 : Blk (((((w4.setCell ⟨w.heap.size, 0, none⟩ (.int .u16 (x1 : Nat))).setCell ⟨w.heap.size, 1, none⟩ (.bool true)).setCell ⟨w.heap.size, 2, none⟩ (.int .u16 (x3 : Nat))).setCell ⟨w.heap.size, 3, none⟩ (.int .u32 (x4 : Nat))).alloc (.cells #[.int .u16 (x1 : Nat), .bool true, .int .u16 (x3 : Nat), .int .u32 (x4 : Nat)] 215)) w.heap.size 215 #[.int .u16 (x1 : Nat), .bool true, .int .u16 (x3 : Nat), .int .u32 (x4 : Nat)] := (((((C4.out.2.1.set_ 0 _).set_ 1 _).set_ 2 _).set_ 3 _).alloc _)
      have g1 : RdAt (((((w4.setCell ⟨w.heap.size, 0, none⟩ (.int .u16 (x1 : Nat))).setCell ⟨w.heap.size, 1, none⟩ (.bool true)).setCell ⟨w.heap.size, 2, none⟩ (.int .u16 (x3 : Nat))).setCell ⟨w.heap.size, 3, none⟩ (.int .u32 (x4 : Nat))).alloc (.cells #[.int .u16 (x1 : Nat), .bool true, .int .u16 (x3 : Nat), .int .u32 (x4 : Nat)] 215)) g r4 := by
        obtain ⟨A', c', q1, q2⟩ := C4.out.1.n
        have hz : ∀ q, q < w4.heap.size → q ≠ w.heap.size → (((((w4.setCell ⟨w.heap.size, 0, none⟩ (.int .u16 (x1 : Nat))).setCell ⟨w.heap.size, 1, none⟩ (.bool true)).setCell ⟨w.heap.size, 2, none⟩ (.int .u16 (x3 : Nat))).setCell ⟨w.heap.size, 3, none⟩ (.int .u32 (x4 : Nat))).alloc (.cells #[.int .u16 (x1 : Nat), .bool true, .int .u16 (x3 : Nat), .int .u32 (x4 : Nat)] 215)).heap[q]? = w4.heap[q]? := fun q hq hne => (Below.heap_alloc _ _ q (by simpa [World.setCell] using hq)).trans ((Below.heap_setCell _ _ _ q hne).trans ((Below.heap_setCell _ _ _ q hne).trans ((Below.heap_setCell _ _ _ q hne).trans (Below.heap_setCell _ _ _ q hne))))
        exact ⟨⟨A', c', (hz g q1.lt (by omega)).trans q1, q2.keep (fun q hq => hz q (q2.lt hq) (q2.ne_blk C4.out.2.1 (by decide) q hq))⟩, C4.out.1.ok⟩
      have g2 : Chg (fun q => q = g) w (((((w4.setCell ⟨w.heap.size, 0, none⟩ (.int .u16 (x1 : Nat))).setCell ⟨w.heap.size, 1, none⟩ (.bool true)).setCell ⟨w.heap.size, 2, none⟩ (.int .u16 (x3 : Nat))).setCell ⟨w.heap.size, 3, none⟩ (.int .u32 (x4 : Nat))).alloc (.cells #[.int .u16 (x1 : Nat), .bool true, .int .u16 (x3 : Nat), .int .u32 (x4 : Nat)] 215)) := (Chg.setCell (F := fun q => q = g) (Chg.setCell (F := fun q => q = g) (Chg.setCell (F := fun q => q = g) (Chg.setCell (F := fun q => q = g) C4.out.2.2 (p := ⟨w.heap.size, 0, none⟩) (.inr (Nat.le_refl _)) _) (p := ⟨w.heap.size, 1, none⟩) (.inr (Nat.le_refl _)) _) (p := ⟨w.heap.size, 2, none⟩) (.inr (Nat.le_refl _)) _) (p := ⟨w.heap.size, 3, none⟩) (.inr (Nat.le_refl _)) _).alloc _
      clear y0 y1 y2 y3 f0 f1 f2 f3
      generalize (((((w4.setCell ⟨w.heap.size, 0, none⟩ (.int .u16 (x1 : Nat))).setCell ⟨w.heap.size, 1, none⟩ (.bool true)).setCell ⟨w.heap.size, 2, none⟩ (.int .u16 (x3 : Nat))).setCell ⟨w.heap.size, 3, none⟩ (.int .u32 (x4 : Nat))).alloc (.cells #[.int .u16 (x1 : Nat), .bool true, .int .u16 (x3 : Nat), .int .u32 (x4 : Nat)] 215)) = wf at g0 g1 g2 ⊢
      have s0 := g0.cell 0
      have s1 := g0.cell 1
      have s2 := g0.cell 2
      have s3 := g0.cell 3
      refine bodyPost_ret (v := .tuple #[.agg #[.int .u16 (x1 : Nat), .bool true, .int .u16 (x3 : Nat), .int .u32 (x4 : Nat)], .bool true]) (by simp [results, Tryz.results104, go_sem, s0, s1, s2, s3]) rfl ?_
      exact ⟨by rw [← HV.out]; simp [HF.out], g1, g2⟩
    | false =>
      by_cases h3 : x3 = 0
      · by_cases h4 : x4 = 0
        · subst h3 h4
          go_wp2
          have g0 : Blk (((((w4.setCell ⟨w.heap.size, 0, none⟩ (.int .u16 (x1 : Nat))).setCell ⟨w.heap.size, 1, none⟩ (.bool false)).setCell ⟨w.heap.size, 2, none⟩ (.int .u16 0)).setCell ⟨w.heap.size, 3, none⟩ (.int .u32 0)).alloc (.cells #[.int .u16 (x1 : Nat), .bool false, .int .u16 0, .int .u32 0] 215)) w.heap.size 215 #[.int .u16 (x1 : Nat), .bool false, .int .u16 0, .int .u32 0] := (((((C4.out.2.1.set_ 0 _).set_ 1 _).set_ 2 _).set_ 3 _).alloc _)
          have g1 : RdAt (((((w4.setCell ⟨w.heap.size, 0, none⟩ (.int .u16 (x1 : Nat))).setCell ⟨w.heap.size, 1, none⟩ (.bool false)).setCell ⟨w.heap.size, 2, none⟩ (.int .u16 0)).setCell ⟨w.heap.size, 3, none⟩ (.int .u32 0)).alloc (.cells #[.int .u16 (x1 : Nat), .bool false, .int .u16 0, .int .u32 0] 215)) g r4 := by
            obtain ⟨A', c', q1, q2⟩ := C4.out.1.n
            have hz : ∀ q, q < w4.heap.size → q ≠ w.heap.size → (((((w4.setCell ⟨w.heap.size, 0, none⟩ (.int .u16 (x1 : Nat))).setCell ⟨w.heap.size, 1, none⟩ (.bool false)).setCell ⟨w.heap.size, 2, none⟩ (.int .u16 0)).setCell ⟨w.heap.size, 3, none⟩ (.int .u32 0)).alloc (.cells #[.int .u16 (x1 : Nat), .bool false, .int .u16 0, .int .u32 0] 215)).heap[q]? = w4.heap[q]? := fun q hq hne => (Below.heap_alloc _ _ q (by simpa [World.setCell] using hq)).trans ((Below.heap_setCell _ _ _ q hne).trans ((Below.heap_setCell _ _ _ q hne).trans ((Below.heap_setCell _ _ _ q hne).trans (Below.heap_setCell _ _ _ q hne))))
            exact ⟨⟨A', c', (hz g q1.lt (by omega)).trans q1, q2.keep (fun q hq => hz q (q2.lt hq) (q2.ne_blk C4.out.2.1 (by decide) q hq))⟩, C4.out.1.ok⟩
          have g2 : Chg (fun q => q = g) w (((((w4.setCell ⟨w.heap.size, 0, none⟩ (.int .u16 (x1 : Nat))).setCell ⟨w.heap.size, 1, none⟩ (.bool false)).setCell ⟨w.heap.size, 2, none⟩ (.int .u16 0)).setCell ⟨w.heap.size, 3, none⟩ (.int .u32 0)).alloc (.cells #[.int .u16 (x1 : Nat), .bool false, .int .u16 0, .int .u32 0] 215)) := (Chg.setCell (F := fun q => q = g) (Chg.setCell (F := fun q => q = g) (Chg.setCell (F := fun q => q = g) (Chg.setCell (F := fun q => q = g) C4.out.2.2 (p := ⟨w.heap.size, 0, none⟩) (.inr (Nat.le_refl _)) _) (p := ⟨w.heap.size, 1, none⟩) (.inr (Nat.le_refl _)) _) (p := ⟨w.heap.size, 2, none⟩) (.inr (Nat.le_refl _)) _) (p := ⟨w.heap.size, 3, none⟩) (.inr (Nat.le_refl _)) _).alloc _
          clear y0 y1 y2 y3 f0 f1 f2 f3
          generalize (((((w4.setCell ⟨w.heap.size, 0, none⟩ (.int .u16 (x1 : Nat))).setCell ⟨w.heap.size, 1, none⟩ (.bool false)).setCell ⟨w.heap.size, 2, none⟩ (.int .u16 0)).setCell ⟨w.heap.size, 3, none⟩ (.int .u32 0)).alloc (.cells #[.int .u16 (x1 : Nat), .bool false, .int .u16 0, .int .u32 0] 215)) = wf at g0 g1 g2 ⊢
          have s0 := g0.cell 0
          have s1 := g0.cell 1
          have s2 := g0.cell 2
          have s3 := g0.cell 3
          refine bodyPost_ret (v := .tuple #[.agg #[.int .u16 (x1 : Nat), .bool false, .int .u16 0, .int .u32 0], .bool true]) (by simp [results, Tryz.results104, go_sem, s0, s1, s2, s3]) rfl ?_
          exact ⟨by rw [← HV.out]; simp [HF.out], g1, g2⟩
        · subst h3
          have t4 : ((x4 : Int) != 0) = true := bne_iff_ne.2 (by omega)
          have HN := Lib.hid h4
          clear h4
          go_wp2
          have g0 : Blk (((((w4.setCell ⟨w.heap.size, 0, none⟩ (.int .u16 0)).setCell ⟨w.heap.size, 1, none⟩ (.bool false)).setCell ⟨w.heap.size, 2, none⟩ (.int .u16 0)).setCell ⟨w.heap.size, 3, none⟩ (.int .u32 0)).alloc (.cells #[.int .u16 (x1 : Nat), .bool false, .int .u16 0, .int .u32 (x4 : Nat)] 215)) w.heap.size 215 #[.int .u16 0, .bool false, .int .u16 0, .int .u32 0] := (((((C4.out.2.1.set_ 0 _).set_ 1 _).set_ 2 _).set_ 3 _).alloc _)
          have g1 : RdAt (((((w4.setCell ⟨w.heap.size, 0, none⟩ (.int .u16 0)).setCell ⟨w.heap.size, 1, none⟩ (.bool false)).setCell ⟨w.heap.size, 2, none⟩ (.int .u16 0)).setCell ⟨w.heap.size, 3, none⟩ (.int .u32 0)).alloc (.cells #[.int .u16 (x1 : Nat), .bool false, .int .u16 0, .int .u32 (x4 : Nat)] 215)) g r4 := by
            obtain ⟨A', c', q1, q2⟩ := C4.out.1.n
            have hz : ∀ q, q < w4.heap.size → q ≠ w.heap.size → (((((w4.setCell ⟨w.heap.size, 0, none⟩ (.int .u16 0)).setCell ⟨w.heap.size, 1, none⟩ (.bool false)).setCell ⟨w.heap.size, 2, none⟩ (.int .u16 0)).setCell ⟨w.heap.size, 3, none⟩ (.int .u32 0)).alloc (.cells #[.int .u16 (x1 : Nat), .bool false, .int .u16 0, .int .u32 (x4 : Nat)] 215)).heap[q]? = w4.heap[q]? := fun q hq hne => (Below.heap_alloc _ _ q (by simpa [World.setCell] using hq)).trans ((Below.heap_setCell _ _ _ q hne).trans ((Below.heap_setCell _ _ _ q hne).trans ((Below.heap_setCell _ _ _ q hne).trans (Below.heap_setCell _ _ _ q hne))))
            exact ⟨⟨A', c', (hz g q1.lt (by omega)).trans q1, q2.keep (fun q hq => hz q (q2.lt hq) (q2.ne_blk C4.out.2.1 (by decide) q hq))⟩, C4.out.1.ok⟩
          have g2 : Chg (fun q => q = g) w (((((w4.setCell ⟨w.heap.size, 0, none⟩ (.int .u16 0)).setCell ⟨w.heap.size, 1, none⟩ (.bool false)).setCell ⟨w.heap.size, 2, none⟩ (.int .u16 0)).setCell ⟨w.heap.size, 3, none⟩ (.int .u32 0)).alloc (.cells #[.int .u16 (x1 : Nat), .bool false, .int .u16 0, .int .u32 (x4 : Nat)] 215)) := (Chg.setCell (F := fun q => q = g) (Chg.setCell (F := fun q => q = g) (Chg.setCell (F := fun q => q = g) (Chg.setCell (F := fun q => q = g) C4.out.2.2 (p := ⟨w.heap.size, 0, none⟩) (.inr (Nat.le_refl _)) _) (p := ⟨w.heap.size, 1, none⟩) (.inr (Nat.le_refl _)) _) (p := ⟨w.heap.size, 2, none⟩) (.inr (Nat.le_refl _)) _) (p := ⟨w.heap.size, 3, none⟩) (.inr (Nat.le_refl _)) _).alloc _
          clear y0 y1 y2 y3 f0 f1 f2 f3
          generalize (((((w4.setCell ⟨w.heap.size, 0, none⟩ (.int .u16 0)).setCell ⟨w.heap.size, 1, none⟩ (.bool false)).setCell ⟨w.heap.size, 2, none⟩ (.int .u16 0)).setCell ⟨w.heap.size, 3, none⟩ (.int .u32 0)).alloc (.cells #[.int .u16 (x1 : Nat), .bool false, .int .u16 0, .int .u32 (x4 : Nat)] 215)) = wf at g0 g1 g2 ⊢
          have s0 := g0.cell 0
          have s1 := g0.cell 1
          have s2 := g0.cell 2
          have s3 := g0.cell 3
          refine bodyPost_ret (v := .tuple #[.agg #[.int .u16 0, .bool false, .int .u16 0, .int .u32 0], .bool false]) (by simp [results, Tryz.results104, go_sem, s0, s1, s2, s3]) rfl ?_
          exact ⟨by rw [← HV.out]; simp [HF.out, HN.out], g1, g2⟩
      · have t3 : ((x3 : Int) != 0) = true := bne_iff_ne.2 (by omega)
        have HN := Lib.hid h3
        clear h3
        go_wp2
        have g0 : Blk (((((w4.setCell ⟨w.heap.size, 0, none⟩ (.int .u16 0)).setCell ⟨w.heap.size, 1, none⟩ (.bool false)).setCell ⟨w.heap.size, 2, none⟩ (.int .u16 0)).setCell ⟨w.heap.size, 3, none⟩ (.int .u32 0)).alloc (.cells #[.int .u16 (x1 : Nat), .bool false, .int .u16 (x3 : Nat), .int .u32 (x4 : Nat)] 215)) w.heap.size 215 #[.int .u16 0, .bool false, .int .u16 0, .int .u32 0] := (((((C4.out.2.1.set_ 0 _).set_ 1 _).set_ 2 _).set_ 3 _).alloc _)
        have g1 : RdAt (((((w4.setCell ⟨w.heap.size, 0, none⟩ (.int .u16 0)).setCell ⟨w.heap.size, 1, none⟩ (.bool false)).setCell ⟨w.heap.size, 2, none⟩ (.int .u16 0)).setCell ⟨w.heap.size, 3, none⟩ (.int .u32 0)).alloc (.cells #[.int .u16 (x1 : Nat), .bool false, .int .u16 (x3 : Nat), .int .u32 (x4 : Nat)] 215)) g r4 := by
          obtain ⟨A', c', q1, q2⟩ := C4.out.1.n
          have hz : ∀ q, q < w4.heap.size → q ≠ w.heap.size → (((((w4.setCell ⟨w.heap.size, 0, none⟩ (.int .u16 0)).setCell ⟨w.heap.size, 1, none⟩ (.bool false)).setCell ⟨w.heap.size, 2, none⟩ (.int .u16 0)).setCell ⟨w.heap.size, 3, none⟩ (.int .u32 0)).alloc (.cells #[.int .u16 (x1 : Nat), .bool false, .int .u16 (x3 : Nat), .int .u32 (x4 : Nat)] 215)).heap[q]? = w4.heap[q]? := fun q hq hne => (Below.heap_alloc _ _ q (by simpa [World.setCell] using hq)).trans ((Below.heap_setCell _ _ _ q hne).trans ((Below.heap_setCell _ _ _ q hne).trans ((Below.heap_setCell _ _ _ q hne).trans (Below.heap_setCell _ _ _ q hne))))
          exact ⟨⟨A', c', (hz g q1.lt (by omega)).trans q1, q2.keep (fun q hq => hz q (q2.lt hq) (q2.ne_blk C4.out.2.1 (by decide) q hq))⟩, C4.out.1.ok⟩
        have g2 : Chg (fun q => q = g) w (((((w4.setCell ⟨w.heap.size, 0, none⟩ (.int .u16 0)).setCell ⟨w.heap.size, 1, none⟩ (.bool false)).setCell ⟨w.heap.size, 2, none⟩ (.int .u16 0)).setCell ⟨w.heap.size, 3, none⟩ (.int .u32 0)).alloc (.cells #[.int .u16 (x1 : Nat), .bool false, .int .u16 (x3 : Nat), .int .u32 (x4 : Nat)] 215)) := (Chg.setCell (F := fun q => q = g) (Chg.setCell (F := fun q => q = g) (Chg.setCell (F := fun q => q = g) (Chg.setCell (F := fun q => q = g) C4.out.2.2 (p := ⟨w.heap.size, 0, none⟩) (.inr (Nat.le_refl _)) _) (p := ⟨w.heap.size, 1, none⟩) (.inr (Nat.le_refl _)) _) (p := ⟨w.heap.size, 2, none⟩) (.inr (Nat.le_refl _)) _) (p := ⟨w.heap.size, 3, none⟩) (.inr (Nat.le_refl _)) _).alloc _
        clear y0 y1 y2 y3 f0 f1 f2 f3
        generalize (((((w4.setCell ⟨w.heap.size, 0, none⟩ (.int .u16 0)).setCell ⟨w.heap.size, 1, none⟩ (.bool false)).setCell ⟨w.heap.size, 2, none⟩ (.int .u16 0)).setCell ⟨w.heap.size, 3, none⟩ (.int .u32 0)).alloc (.cells #[.int .u16 (x1 : Nat), .bool false, .int .u16 (x3 : Nat), .int .u32 (x4 : Nat)] 215)) = wf at g0 g1 g2 ⊢
        have s0 := g0.cell 0
        have s1 := g0.cell 1
        have s2 := g0.cell 2
        have s3 := g0.cell 3
        refine bodyPost_ret (v := .tuple #[.agg #[.int .u16 0, .bool false, .int .u16 0, .int .u32 0], .bool false]) (by simp [results, Tryz.results104, go_sem, s0, s1, s2, s3]) rfl ?_
        exact ⟨by rw [← HV.out]; simp [HF.out, HN.out], g1, g2⟩
end Go.Proofs.YtojbijapdkohlaaGreatDoor
