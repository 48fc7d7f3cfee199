/- Layer 19: a row is offered. -/
import Derived.Test.YtojbijapdkohlaaGreatDoorCmdTake
import Derived.Test.YtojbijapdkohlaaGreatDoorCliEnter
import Derived.Test.YtojbijapdkohlaaGreatDoorQ21SrvBkt
set_option linter.unusedSimpArgs false
set_option linter.unusedVariables false
namespace Go.Proofs.YtojbijapdkohlaaGreatDoor
open Go.RowKit
structure OffS where
  last : Int
  queue : List CmdV
  cnt : Nat
def offStep (s : OffS) (x : CmdV) : OffS := if s.last < x.num ∧ s.queue.length < 32 then ⟨x.num, s.queue ++ [x], s.cnt + 1⟩ else s
def offerF (last : Int) (queue : List CmdV) (l : List CmdV) : OffS := if rowB l = true then l.foldl offStep ⟨last, queue, 0⟩ else ⟨last, queue, 0⟩
theorem take_snocO {α : Type} (l : List α) (k : Nat) (x : α) (h : l[k]? = some x) : l.take (k + 1) = l.take k ++ [x] := by
  have hk : k < l.length := (List.getElem?_eq_some_iff.1 h).1
  rw [List.take_succ_eq_append_getElem hk, (List.getElem?_eq_some_iff.1 h).2]
def xcells (x : CmdV) : Array Value := #[.int .u32 x.num, .int .i8 x.mx, .int .i8 x.my, .bool x.fire, .int .u32 x.view, .int .u8 x.frac]
/-- An intake that lies at ib. -/
structure InkAt (w : World) (ib : Nat) (tok : Int) (s : OffS) (A : Option Addr) (c : Nat) : Prop where
  blk : Blk w ib 280 #[.int .u32 s.last, .slice A s.queue.length c, .int .i64 tok]
  row : Row w 121 6 A s.queue.length c (cmdsV s.queue)
  l32 : s.queue.length ≤ 32
theorem InkAt.below {w w' : World} {ib c : Nat} {tok : Int} {s : OffS} {A : Option Addr} (h : InkAt w ib tok s A c) (hb : Below w.heap.size w w') : InkAt w' ib tok s A c :=
  ⟨h.blk.below hb h.blk.lt, h.row.keep (fun q hq => hb.block q (h.row.lt hq)), h.l32⟩
def Offered (ib : Nat) (tok : Int) (S : OffS) (A : Option Addr) (w : World) (e : Ending) (w' : World) : Prop :=
  e = .returned (.int .i64 (S.cnt : Nat)) ∧ ∃ A' c', InkAt w' ib tok S A' c' ∧ (∀ q, blkOf A' = some q → blkOf A = some q ∨ w.heap.size ≤ q) ∧ Chg (fun q => q = ib ∨ blkOf A = some q) w w'
set_option maxRecDepth 100000 in
set_option maxHeartbeats 8000000 in
theorem bktOffer (ib : Nat) (tok last : Int) (queue : List CmdV) (l : List CmdV) (A A1 : Option Addr) (c n1 c1 : Nat) (w : World) (h : InkAt w ib tok ⟨last, queue, 0⟩ A c) (hl : Reads w w.heap.size 6 A1 n1 (cmdsV l)) (hd : 0 < n1 → ∀ g, blkOf A1 = some g → g ≠ ib ∧ blkOf A ≠ some g) (hn1 : n1 ≤ 100000) :
    Calls Tryz.prog 110 #[.pointer (some ⟨ib, 0, none⟩), .slice A1 n1 c1] w (Offered ib tok (offerF last queue l) A w) := by
  have hll := hl.cmd_len
  have HL := Lib.hid hll
  have hcr := cmdRow l w A1 n1 c1 hl (by omega)
  unfold offerF
  cases hrow : rowB l with
  | false =>
    rw [hrow] at hcr
    rw [if_neg (by decide)]
    have HCR := Lib.hid hcr
    clear hcr hrow hll hl hd
    go_enter Tryz.func110, Tryz.ntmps110
    go_wp2_with fail
    refine HCR.out.mono ?_
    rintro e w1 ⟨rfl, hb1⟩
    go_wp2
    go_ret
    exact ⟨rfl, A, c, h.below hb1, fun q hq => .inl hq, Chg.below Chg.refl hb1 (Nat.le_refl _)⟩
  | true =>
    rw [hrow] at hcr
    rw [if_pos rfl]
    have HCR := Lib.hid hcr
    have HLL := Lib.hid hl
    have HD := Lib.hid hd
    have H := Lib.hid h
    clear hcr hrow hll hl hd h
    go_enter Tryz.func110, Tryz.ntmps110
    go_wp2_with fail
    refine HCR.out.mono ?_
    rintro e w1 ⟨rfl, hb1⟩
    have h1 := H.out.below hb1
    have H1 := Lib.hid (show _ ∧ _ from ⟨h1, Chg.below (F := fun q => q = ib ∨ blkOf A = some q) (Chg.refl (w := w)) hb1 (Nat.le_refl _)⟩)
    clear h1 hb1 HCR
    go_wp2
    go_loopw [17, 5] (fun i n wr => ∃ (k : Nat) (S : OffS) (A' : Option Addr) (c' : Nat), k ≤ n1 ∧ i = .int .i64 (k : Nat) ∧ n = .int .i64 (S.cnt : Nat) ∧ S.cnt ≤ k ∧ (l.take k).foldl offStep ⟨last, queue, 0⟩ = S ∧ InkAt wr ib tok S A' c' ∧ (∀ q, blkOf A' = some q → blkOf A = some q ∨ w.heap.size ≤ q) ∧ Chg (fun q => q = ib ∨ blkOf A = some q) w wr) (fun i _ _ => n1 - (intOf i).toNat)
    case atStart => exact ⟨0, ⟨last, queue, 0⟩, A, c, Nat.zero_le _, rfl, rfl, Nat.le_refl _, rfl, H1.out.1, fun q hq => .inl hq, H1.out.2⟩
    case round =>
      obtain ⟨k, S, A', c', hk, rfl, rfl, hcnt, hfold, hink, hA', hch⟩ := hrel
      by_cases hlt : k < n1
      · obtain ⟨g, off, x, rfl, hg, hx, e0, e1, e2, e3, e4, e5⟩ := HLL.out.cmdAt hlt
        have hgF : ¬ (g = ib ∨ blkOf A = some g) := fun hh => hh.elim (HD.out (by omega) g rfl).1 (HD.out (by omega) g rfl).2
        have x0 := (hch.cellF (p := ⟨g, off + k * 6, none⟩) hg hgF).trans e0
        have x1 := (hch.cellF (p := ⟨g, off + k * 6 + 1, none⟩) hg hgF).trans e1
        have x2 := (hch.cellF (p := ⟨g, off + k * 6 + 2, none⟩) hg hgF).trans e2
        have x3 := (hch.cellF (p := ⟨g, off + k * 6 + 3, none⟩) hg hgF).trans e3
        have x4 := (hch.cellF (p := ⟨g, off + k * 6 + 4, none⟩) hg hgF).trans e4
        have x5 := (hch.cellF (p := ⟨g, off + k * 6 + 5, none⟩) hg hgF).trans e5
        have hst : (l.take (k + 1)).foldl offStep ⟨last, queue, 0⟩ = offStep S x := by rw [take_snocO l k x hx, List.foldl_append, hfold]; rfl
        have z0 : wr.cell? ⟨ib, 0, none⟩ = some (.int .u32 S.last) := hink.blk.cell 0
        obtain ⟨m, hm⟩ : ∃ m, S.queue.length = m := ⟨_, rfl⟩
        have hl32 := hink.l32
        rw [hm] at hl32
        have z1 : wr.cell? ⟨ib, 1, none⟩ = some (.slice A' m c') := by rw [← hm]; exact hink.blk.cell 1
        have f0 := hink.blk.frozen 0
        have f1 := hink.blk.frozen 1
        have li := hink.blk.lt
        have X := Lib.hid (show _ ∧ _ ∧ _ ∧ _ ∧ _ from ⟨hst, hink, hA', hch, hm⟩)
        clear hst hfold hink hA' hch hm hx e0 e1 e2 e3 e4 e5
        by_cases hgt : S.last < x.num
        · have t1 : decide (S.last < x.num) = true := decide_eq_true hgt
          by_cases hln : m < 32
          · have t2 : decide ((m : Int) < 32) = true := decide_eq_true (by omega)
            have t2n : decide (m < 32) = true := decide_eq_true hln
            go_wp2
            go_quiet (fail)
            go_wp2
            have hS : offStep S x = ⟨x.num, S.queue ++ [x], S.cnt + 1⟩ := by unfold offStep; rw [if_pos ⟨hgt, by have := X.out.2.2.2.2; omega⟩]
            have hB : Below wr.heap.size wr ((wr.alloc (.cells #[.int .u32 x.num, .int .i8 x.mx, .int .i8 x.my, .bool x.fire, .int .u32 x.view, .int .u8 x.frac] 121)).drewN nq) := below_drews ((Below.refl _ _).alloc (Nat.le_refl _) _) _
            have mbx : Blk ((wr.alloc (.cells #[.int .u32 x.num, .int .i8 x.mx, .int .i8 x.my, .bool x.fire, .int .u32 x.view, .int .u8 x.frac] 121)).drewN nq) wr.heap.size 121 (xcells x) := Blk.new _ _ _
            have hsz : ((wr.alloc (.cells #[.int .u32 x.num, .int .i8 x.mx, .int .i8 x.my, .bool x.fire, .int .u32 x.view, .int .u8 x.frac] 121)).drewN nq).heap.size = wr.heap.size + 1 := by simp
            generalize ((wr.alloc (.cells #[.int .u32 x.num, .int .i8 x.mx, .int .i8 x.my, .bool x.fire, .int .u32 x.view, .int .u8 x.frac] 121)).drewN nq) = wb at hB mbx hsz ⊢
            have hib := X.out.2.1.below hB
            have q0 : wb.cell? ⟨wr.heap.size, 0, none⟩ = some (.int .u32 x.num) := mbx.cell 0
            have q1 : wb.cell? ⟨wr.heap.size, 1, none⟩ = some (.int .i8 x.mx) := mbx.cell 1
            have q2 : wb.cell? ⟨wr.heap.size, 2, none⟩ = some (.int .i8 x.my) := mbx.cell 2
            have q3 : wb.cell? ⟨wr.heap.size, 3, none⟩ = some (.bool x.fire) := mbx.cell 3
            have q4 : wb.cell? ⟨wr.heap.size, 4, none⟩ = some (.int .u32 x.view) := mbx.cell 4
            have q5 : wb.cell? ⟨wr.heap.size, 5, none⟩ = some (.int .u8 x.frac) := mbx.cell 5
            have y1 : wb.cell? ⟨ib, 1, none⟩ = some (.slice A' m c') := by rw [← X.out.2.2.2.2]; exact hib.blk.cell 1
            have lib := hib.blk.lt
            have lbx := mbx.lt
            have hrow := hib.row
            rw [X.out.2.2.2.2] at hrow
            have HB := Lib.hid (show _ ∧ _ ∧ _ ∧ _ from ⟨hB, mbx, hib, hS⟩)
            have HW := Lib.hid (hrow.keep (w' := wb.alloc (.cells (xcells x) 121)) (fun q hq => Below.heap_alloc _ _ q (hrow.lt hq)))
            have HV := Lib.hid (show Reads (wb.alloc (.cells (xcells x) 121)) (wb.heap.size + 1) 6 (some ⟨wb.heap.size, 0, none⟩) 1 (cmdCells x) from Reads.blk (size := 6) (n := 1) (g := wb.heap.size) (heap_alloc_new wb (.cells (xcells x) 121)) (by omega) rfl)
            have HR0 := Lib.hid hrow
            have HZ := Lib.hid hsz
            clear hB mbx hib hS hrow x0 x1 x2 x3 x4 x5 z0 z1 f0 f1 li hsz
            go_region_law (refine step_row rfl (.tmp 40) (.tmp 42) rfl eltC A' m c' (cmdsV S.queue) (by simp [Act.eval, Act.put]) (by exact HW.out) (wb.heap.size + 1) (some ⟨wb.heap.size, 0, none⟩) 1 1 (cmdCells x) (by simp [Act.eval, Act.put]) (by exact HV.out) (cmdCells_one x) (by omega) ?_; intro A2 c2 w2 hr2 hg2 hb2; have ob2 : Blk w2 ib 280 _ := (HB.out.2.2.1.blk.alloc (.cells (xcells x) 121)).drew.grown hg2 (fun e => HR0.out.ne_blk HB.out.2.2.1.blk (by decide) ib e.symm rfl); have y1 := ob2.cell 1; have p1 := ob2.frozen 1)
            all_goals
              have hA'l : ∀ q, blkOf A' = some q → q < wb.heap.size := fun q hq => HR0.out.lt hq
              have hbx2 : w2.heap[wr.heap.size]? = wb.heap[wr.heap.size]? := (hg2.block wr.heap.size (by show _ < (wb.alloc _).heap.size; simp; omega) (fun e => Nat.lt_irrefl _ (X.out.2.1.row.lt e.symm))).trans (Below.heap_alloc _ _ _ lbx)
              have hne : wr.heap.size ≠ ib := fun e => by have := X.out.2.1.blk.lt; omega
              have obS := ob2.set_ 1 (.slice A2 (m + 1) c2)
              have v0 : (w2.setCell ⟨ib, 1, none⟩ (.slice A2 (m + 1) c2)).cell? ⟨wr.heap.size, 0, none⟩ = some (.int .u32 x.num) := (World.cell?_of_block (Below.heap_setCell _ _ _ _ hne)).trans ((World.cell?_of_block hbx2).trans q0)
              have r0 := obS.frozen 0
              have r1 := obS.cell 0
              have hl1 : (S.queue ++ [x]).length = m + 1 := by simp [X.out.2.2.2.2]
              have hne2 : ∀ q, blkOf A2 = some q → q ≠ ib := fun q hq e => hr2.ne_blk ob2 (by decide) q hq e
              have fin : InkAt ((w2.setCell ⟨ib, 1, none⟩ (.slice A2 (m + 1) c2)).setCell ⟨ib, 0, none⟩ (.int .u32 x.num)) ib tok ⟨x.num, S.queue ++ [x], S.cnt + 1⟩ A2 c2 := by
                refine ⟨?_, ?_, by rw [hl1]; omega⟩
                · have := obS.set_ 0 (.int .u32 x.num)
                  simp only [hl1]
                  simpa using this
                · simp only [hl1]
                  have := hr2.keep (w' := (w2.setCell ⟨ib, 1, none⟩ (.slice A2 (m + 1) c2)).setCell ⟨ib, 0, none⟩ (.int .u32 x.num)) (fun g hg => (Below.heap_setCell _ _ _ g (hne2 g hg)).trans (Below.heap_setCell _ _ _ g (hne2 g hg)))
                  simpa [cmdsV_snoc] using this
              have FIN := Lib.hid fin
              have hw2 : Chg (fun q => q = ib ∨ blkOf A = some q) w ((w2.setCell ⟨ib, 1, none⟩ (.slice A2 (m + 1) c2)).setCell ⟨ib, 0, none⟩ (.int .u32 x.num)) := by
                have c1 : Chg (fun q => q = ib ∨ blkOf A = some q) w wb := Chg.below X.out.2.2.2.1 HB.out.1 X.out.2.2.2.1.size
                have c2 := ((c1.alloc (.cells (xcells x) 121)).drewN 1).grown hg2 (fun q hq => (X.out.2.2.1 q hq).elim (fun e => .inl (.inr e)) .inr)
                exact (c2.setCell (.inl (.inl rfl)) _).setCell (.inl (.inl rfl)) _
              have hA2o : ∀ q, blkOf A2 = some q → blkOf A = some q ∨ w.heap.size ≤ q := by
                intro q hq
                rcases hb2 with e | e
                · exact X.out.2.2.1 q (e ▸ hq)
                · right
                  have e2 : blkOf A2 = some (wb.heap.size + 1) := by rw [e]; congr 1; show (wb.alloc _).heap.size = _; simp
                  rw [e2] at hq; injection hq with hq
                  have h9 := X.out.2.2.2.1.size
                  omega
              have HW2 := Lib.hid hw2
              clear fin hw2 obS
              go_wp2
              exact ⟨⟨k + 1, ⟨x.num, S.queue ++ [x], S.cnt + 1⟩, A2, c2, by omega, by go_num, by go_num, by show S.cnt + 1 ≤ k + 1; omega, by rw [X.out.1, HB.out.2.2.2], FIN.out, hA2o, HW2.out⟩, by simp [intOf]; omega⟩
          · have t2 : decide ((m : Int) < 32) = false := decide_eq_false (by omega)
            have t2n : decide (m < 32) = false := decide_eq_false hln
            have hS : offStep S x = S := by unfold offStep; rw [if_neg (fun hh => hln (by have := X.out.2.2.2.2; omega))]
            have HS := Lib.hid hS
            clear hS
            go_wp2
            go_quiet (fail)
            go_wp2
            have hB : Below wr.heap.size wr ((wr.alloc (.cells (xcells x) 121)).drewN nq) := below_drews ((Below.refl _ _).alloc (Nat.le_refl _) _) _
            exact ⟨⟨k + 1, S, A', c', by omega, by go_num, rfl, by omega, by rw [X.out.1, HS.out], X.out.2.1.below hB, X.out.2.2.1, Chg.below X.out.2.2.2.1 hB X.out.2.2.2.1.size⟩, by simp [intOf]; omega⟩
        · have t1 : decide (S.last < x.num) = false := decide_eq_false hgt
          have hS : offStep S x = S := by unfold offStep; rw [if_neg (fun hh => hgt hh.1)]
          have HS := Lib.hid hS
          clear hS
          go_wp2
          go_quiet (fail)
          go_wp2
          have hB : Below wr.heap.size wr ((wr.alloc (.cells (xcells x) 121)).drewN nq) := below_drews ((Below.refl _ _).alloc (Nat.le_refl _) _) _
          exact ⟨⟨k + 1, S, A', c', by omega, by go_num, rfl, by omega, by rw [X.out.1, HS.out], X.out.2.1.below hB, X.out.2.2.1, Chg.below X.out.2.2.2.1 hB X.out.2.2.2.1.size⟩, by simp [intOf]; omega⟩
      · have hkn : k = n1 := by omega
        subst hkn
        have hfin : l.foldl offStep ⟨last, queue, 0⟩ = S := by rw [← hfold, List.take_of_length_le (by rw [HL.out]; exact Nat.le_refl _)]
        have X := Lib.hid (show _ ∧ _ ∧ _ ∧ _ from ⟨hfin, hink, hA', hch⟩)
        clear hfold hfin hink hA' hch
        go_wp2
        go_ret
        rw [X.out.1]
        exact ⟨rfl, A', c', X.out.2.1, X.out.2.2.1, X.out.2.2.2⟩
end Go.Proofs.YtojbijapdkohlaaGreatDoor
