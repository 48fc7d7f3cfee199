/- Layer 14: a header is taken by a channel that lies anywhere in its block. -/
import Derived.Test.YtojbijapdkohlaaGreatDoorQ27ChanTake
import Derived.Test.YtojbijapdkohlaaGreatDoorQ20RingX
set_option linter.unusedSimpArgs false
set_option linter.unusedVariables false
namespace Go.Proofs.YtojbijapdkohlaaGreatDoor
open Go.RowKit
def theirs (h : HdrV) : WinV := ⟨h.any, h.ack, h.mask⟩
def chanTakeF (v : WinV) (op : List Nat) (h : HdrV) : Int × WinV × List Nat :=
  if (takeW v h.num).2 = true then (0, (takeW v h.num).1, op.filter fun n => !hasW (theirs h) n) else (8, v, op)
def winCells (cs : Array Value) (o : Nat) (v : WinV) : Array Value := ((cs.setIfInBounds (o + 1) (.bool v.any)).setIfInBounds (o + 2) (.int .u16 (v.last : Nat))).setIfInBounds (o + 3) (.int .u32 (v.mask : Nat))
/-- What Take leaves of a channel. -/
def ChanTook (b o : Nat) (t : TypeId) (cs : Array Value) (v : WinV) (op : List Nat) (h : HdrV) (A : Option Addr) (c : Nat) (w : World) (e : Ending) (w' : World) : Prop :=
  (∃ x, e = .returned (.tuple #[x, .int .i64 (chanTakeF v op h).1])) ∧ ∃ m, Blk w' b t ((winCells cs o (chanTakeF v op h).2.1).setIfInBounds (o + 4) (.slice A m c)) ∧ Row w' 95 1 A m c (u16V (chanTakeF v op h).2.2) ∧ Chg (fun q => q = b ∨ blkOf A = some q) w w'
set_option maxRecDepth 100000 in
set_option maxHeartbeats 8000000 in
theorem chanTake (b o : Nat) (t : TypeId) (cs : Array Value) (v : WinV) (hv : v.Ok) (op : List Nat) (h : HdrV) (hh : h.Ok) (A : Option Addr) (n c : Nat) (w : World) (hb : Blk w b t cs) (k1 : cs[o + 1]? = some (.bool v.any)) (k2 : cs[o + 2]? = some (.int .u16 (v.last : Nat))) (k3 : cs[o + 3]? = some (.int .u32 (v.mask : Nat))) (k4 : cs[o + 4]? = some (.slice A n c))
    (hr : Row w 95 1 A n c (u16V op)) (hn : n ≤ 30000) (ht : 95 ≠ t) :
    Calls Tryz.prog 108 #[.pointer (some ⟨b, o, none⟩), .agg #[.int .u16 (h.num : Nat), .bool h.any, .int .u16 (h.ack : Nat), .int .u32 (h.mask : Nat)]] w (ChanTook b o t cs v op h A c w) := by
  have lb := hb.lt
  have z1 : w.cell? ⟨b, o + 1, none⟩ = some (.bool v.any) := (hb.cell _).trans k1
  have z2 : w.cell? ⟨b, o + 2, none⟩ = some (.int .u16 (v.last : Nat)) := (hb.cell _).trans k2
  have z3 : w.cell? ⟨b, o + 3, none⟩ = some (.int .u32 (v.mask : Nat)) := (hb.cell _).trans k3
  have hT := fun W => serTake v hv h.num W
  unfold ChanTook chanTakeF
  obtain ⟨r, hr0⟩ : ∃ r, takeW v h.num = r := ⟨_, rfl⟩
  have hok := takeW_ok hv hh.num
  simp only [hr0] at hT hok ⊢
  obtain ⟨v2, ok⟩ := r
  simp only at hT hok ⊢
  have HT := Lib.hid hT
  have HB := Lib.hid hb
  have HR := Lib.hid hr
  have K := Lib.hid (show _ ∧ _ ∧ _ ∧ _ from ⟨k1, k2, k3, k4⟩)
  have HH := Lib.hid hh
  have HO := Lib.hid hok
  have k0 : o + 4 < cs.size := (Array.getElem?_eq_some_iff.1 k4).1
  clear hT hr0 hb hr k1 k2 k3 k4 hok hv hh
  cases ok with
  | false =>
    rw [if_neg (by decide)]
    go_enter Tryz.func108, Tryz.ntmps108
    go_wp2
    have mh : Blk (w.alloc (.cells #[.int .u16 (h.num : Nat), .bool h.any, .int .u16 (h.ack : Nat), .int .u32 (h.mask : Nat)] 215)) w.heap.size 215 #[.int .u16 (h.num : Nat), .bool h.any, .int .u16 (h.ack : Nat), .int .u32 (h.mask : Nat)] := Blk.new _ _ _
    have mB : Blk (w.alloc (.cells #[.int .u16 (h.num : Nat), .bool h.any, .int .u16 (h.ack : Nat), .int .u32 (h.mask : Nat)] 215)) b t cs := HB.out.alloc _
    have mr := HR.out.keep (w' := w.alloc (.cells #[.int .u16 (h.num : Nat), .bool h.any, .int .u16 (h.ack : Nat), .int .u32 (h.mask : Nat)] 215)) (fun q hq => Below.heap_alloc _ _ q (HR.out.lt hq))
    have mb : Below w.heap.size w (w.alloc (.cells #[.int .u16 (h.num : Nat), .bool h.any, .int .u16 (h.ack : Nat), .int .u32 (h.mask : Nat)] 215)) := (Below.refl _ _).alloc (Nat.le_refl _) _
    have hsz : (w.alloc (.cells #[.int .u16 (h.num : Nat), .bool h.any, .int .u16 (h.ack : Nat), .int .u32 (h.mask : Nat)] 215)).heap.size = w.heap.size + 1 := by simp
    generalize w.alloc (.cells #[.int .u16 (h.num : Nat), .bool h.any, .int .u16 (h.ack : Nat), .int .u32 (h.mask : Nat)] 215) = wa at mh mB mr mb hsz ⊢
    have x1 : wa.cell? ⟨b, o + 1, none⟩ = some (.bool v.any) := (mB.cell _).trans K.out.1
    have x2 : wa.cell? ⟨b, o + 2, none⟩ = some (.int .u16 (v.last : Nat)) := (mB.cell _).trans K.out.2.1
    have x3 : wa.cell? ⟨b, o + 3, none⟩ = some (.int .u32 (v.mask : Nat)) := (mB.cell _).trans K.out.2.2.1
    have x4 : wa.cell? ⟨w.heap.size, 0, none⟩ = some (.int .u16 (h.num : Nat)) := mh.cell 0
    have lb1 : b < wa.heap.size := by omega
    have lh1 : w.heap.size < wa.heap.size := by omega
    have MH := Lib.hid (show _ ∧ _ ∧ _ ∧ _ from ⟨mh, mB, mr, mb⟩)
    clear mh mB mr mb hsz
    go_cut [6, 7] (fun p k wx => k = .bool false ∧ ∃ q, p = .pointer (some ⟨q, 0, none⟩) ∧ Blk wx q 172 #[.bool v2.any, .int .u16 (v2.last : Nat), .int .u32 (v2.mask : Nat)] ∧ wa.heap.size ≤ q ∧ Below wa.heap.size wa wx)
    case first =>
      go_region_law (go_simp; go_at_call 178; refine (HT.out _).mono ?_; rintro e w1 ⟨rfl, hb1⟩; have BV : Below wa.heap.size wa w1 := (by refine Below.trans (by repeat (first | with_reducible exact Below.refl _ _ | with_reducible assumption | with_reducible refine Below.drew ?_ | with_reducible refine below_drews ?_ _ | with_reducible refine Below.alloc ?_ (by first | omega | (simp; done) | (simp; omega)) _ | with_reducible refine Below.setCell ?_ (by first | omega | (simp; done) | (simp; omega)) _)) (hb1.mono ?_); first | exact Nat.le_refl _ | simp); have hs1 := hb1.size; (try simp at hs1); obtain ⟨hc1, hf1⟩ := bcell hb1; have HBV := Lib.hid BV; have HB1 := Lib.hid hb1; clear hb1 BV)
      all_goals go_wp2_with fail
      all_goals go_meet
      all_goals first
        | with_reducible exact ⟨rfl, w1.heap.size, rfl, Blk.new _ _ _, hs1, HBV.out.alloc hs1 _⟩
        | exact ⟨rfl, wa.heap.size, rfl, (((Blk.below (show Blk (wa.alloc (.cells #[.bool false, .int .u16 0, .int .u32 0] 172)).drew wa.heap.size 172 #[.bool false, .int .u16 0, .int .u32 0] from Blk.new _ _ _) HB1.out (by simp)).set_ 0 _).set_ 1 _).set_ 2 _, Nat.le_refl _, ((HBV.out.setCell (p := ⟨wa.heap.size, 0, none⟩) (Nat.le_refl _) _).setCell (p := ⟨wa.heap.size, 1, none⟩) (Nat.le_refl _) _).setCell (p := ⟨wa.heap.size, 2, none⟩) (Nat.le_refl _) _⟩
    case rest =>
      obtain ⟨rfl, q, rfl, hq, hq1, hq2⟩ := hcut
      have Q := Lib.hid (show _ ∧ _ ∧ _ from ⟨hq, hq1, hq2⟩)
      clear hq hq1 hq2 x1 x2 x3 x4
      go_wp2
      go_ret2
      obtain ⟨m1, m2, m3, m4⟩ := MH.out
      have hB := m4.trans (Q.out.2.2.mono m4.size)
      refine ⟨⟨_, rfl⟩, n, ?_, HR.out.keep (fun q hq => hB.block q (HR.out.lt hq)), Chg.below Chg.refl hB (Nat.le_refl _)⟩
      have e : (winCells cs o v).setIfInBounds (o + 4) (.slice A n c) = cs := by
        unfold winCells
        rw [set_sameX K.out.1, set_sameX K.out.2.1, set_sameX K.out.2.2.1, set_sameX K.out.2.2.2]
      rw [e]
      exact HB.out.below hB lb
  | true =>
    rw [if_pos rfl]
    go_enter Tryz.func108, Tryz.ntmps108
    go_wp2
    have mh : Blk (w.alloc (.cells #[.int .u16 (h.num : Nat), .bool h.any, .int .u16 (h.ack : Nat), .int .u32 (h.mask : Nat)] 215)) w.heap.size 215 #[.int .u16 (h.num : Nat), .bool h.any, .int .u16 (h.ack : Nat), .int .u32 (h.mask : Nat)] := Blk.new _ _ _
    have mB : Blk (w.alloc (.cells #[.int .u16 (h.num : Nat), .bool h.any, .int .u16 (h.ack : Nat), .int .u32 (h.mask : Nat)] 215)) b t cs := HB.out.alloc _
    have mr := HR.out.keep (w' := w.alloc (.cells #[.int .u16 (h.num : Nat), .bool h.any, .int .u16 (h.ack : Nat), .int .u32 (h.mask : Nat)] 215)) (fun q hq => Below.heap_alloc _ _ q (HR.out.lt hq))
    have mb : Below w.heap.size w (w.alloc (.cells #[.int .u16 (h.num : Nat), .bool h.any, .int .u16 (h.ack : Nat), .int .u32 (h.mask : Nat)] 215)) := (Below.refl _ _).alloc (Nat.le_refl _) _
    have hsz : (w.alloc (.cells #[.int .u16 (h.num : Nat), .bool h.any, .int .u16 (h.ack : Nat), .int .u32 (h.mask : Nat)] 215)).heap.size = w.heap.size + 1 := by simp
    generalize w.alloc (.cells #[.int .u16 (h.num : Nat), .bool h.any, .int .u16 (h.ack : Nat), .int .u32 (h.mask : Nat)] 215) = wa at mh mB mr mb hsz ⊢
    have x1 : wa.cell? ⟨b, o + 1, none⟩ = some (.bool v.any) := (mB.cell _).trans K.out.1
    have x2 : wa.cell? ⟨b, o + 2, none⟩ = some (.int .u16 (v.last : Nat)) := (mB.cell _).trans K.out.2.1
    have x3 : wa.cell? ⟨b, o + 3, none⟩ = some (.int .u32 (v.mask : Nat)) := (mB.cell _).trans K.out.2.2.1
    have x4 : wa.cell? ⟨w.heap.size, 0, none⟩ = some (.int .u16 (h.num : Nat)) := mh.cell 0
    have lb1 : b < wa.heap.size := by omega
    have lh1 : w.heap.size < wa.heap.size := by omega
    have MH := Lib.hid (show _ ∧ _ ∧ _ ∧ _ from ⟨mh, mB, mr, mb⟩)
    clear mh mB mr mb hsz
    go_cut [6, 7] (fun p k wx => k = .bool true ∧ ∃ q, p = .pointer (some ⟨q, 0, none⟩) ∧ Blk wx q 172 #[.bool v2.any, .int .u16 (v2.last : Nat), .int .u32 (v2.mask : Nat)] ∧ wa.heap.size ≤ q ∧ Below wa.heap.size wa wx)
    case first =>
      go_region_law (go_simp; go_at_call 178; refine (HT.out _).mono ?_; rintro e w1 ⟨rfl, hb1⟩; have BV : Below wa.heap.size wa w1 := (by refine Below.trans (by repeat (first | with_reducible exact Below.refl _ _ | with_reducible assumption | with_reducible refine Below.drew ?_ | with_reducible refine below_drews ?_ _ | with_reducible refine Below.alloc ?_ (by first | omega | (simp; done) | (simp; omega)) _ | with_reducible refine Below.setCell ?_ (by first | omega | (simp; done) | (simp; omega)) _)) (hb1.mono ?_); first | exact Nat.le_refl _ | simp); have hs1 := hb1.size; (try simp at hs1); obtain ⟨hc1, hf1⟩ := bcell hb1; have HBV := Lib.hid BV; have HB1 := Lib.hid hb1; clear hb1 BV)
      all_goals go_wp2_with fail
      all_goals go_meet
      all_goals first
        | with_reducible exact ⟨rfl, w1.heap.size, rfl, Blk.new _ _ _, hs1, HBV.out.alloc hs1 _⟩
        | exact ⟨rfl, wa.heap.size, rfl, (((Blk.below (show Blk (wa.alloc (.cells #[.bool false, .int .u16 0, .int .u32 0] 172)).drew wa.heap.size 172 #[.bool false, .int .u16 0, .int .u32 0] from Blk.new _ _ _) HB1.out (by simp)).set_ 0 _).set_ 1 _).set_ 2 _, Nat.le_refl _, ((HBV.out.setCell (p := ⟨wa.heap.size, 0, none⟩) (Nat.le_refl _) _).setCell (p := ⟨wa.heap.size, 1, none⟩) (Nat.le_refl _) _).setCell (p := ⟨wa.heap.size, 2, none⟩) (Nat.le_refl _) _⟩
    case rest =>
      obtain ⟨rfl, q, rfl, hq, hq1, hq2⟩ := hcut
      have Q := Lib.hid (show _ ∧ _ ∧ _ from ⟨hq, hq1, hq2⟩)
      clear hq hq1 hq2 x1 x2 x3 x4
      obtain ⟨m1, m2, m3, m4⟩ := MH.out
      have e1 := m1.below Q.out.2.2 lh1
      have e2 := m2.below Q.out.2.2 lb1
      have e3 := m3.keep (w' := wc) (fun g hg => Q.out.2.2.block g (m3.lt hg))
      have e4 := m4.trans (Q.out.2.2.mono m4.size)
      have c1 : wc.cell? ⟨w.heap.size, 1, none⟩ = some (.bool h.any) := e1.cell 1
      have c2 : wc.cell? ⟨w.heap.size, 2, none⟩ = some (.int .u16 (h.ack : Nat)) := e1.cell 2
      have c3 : wc.cell? ⟨w.heap.size, 3, none⟩ = some (.int .u32 (h.mask : Nat)) := e1.cell 3
      have d1 : wc.cell? ⟨q, 0, none⟩ = some (.bool v2.any) := Q.out.1.cell 0
      have d2 : wc.cell? ⟨q, 1, none⟩ = some (.int .u16 (v2.last : Nat)) := Q.out.1.cell 1
      have d3 : wc.cell? ⟨q, 2, none⟩ = some (.int .u32 (v2.mask : Nat)) := Q.out.1.cell 2
      have x1 : wc.cell? ⟨b, o + 1, none⟩ = some (.bool v.any) := (e2.cell _).trans K.out.1
      have x2 : wc.cell? ⟨b, o + 2, none⟩ = some (.int .u16 (v.last : Nat)) := (e2.cell _).trans K.out.2.1
      have x3 : wc.cell? ⟨b, o + 3, none⟩ = some (.int .u32 (v.mask : Nat)) := (e2.cell _).trans K.out.2.2.1
      have x4 : wc.cell? ⟨b, o + 4, none⟩ = some (.slice A n c) := (e2.cell _).trans K.out.2.2.2
      have f1 := e2.frozen (o + 1)
      have f2 := e2.frozen (o + 2)
      have f3 := e2.frozen (o + 3)
      have f4 := e2.frozen (o + 4)
      have lb2 := e2.lt
      have lh2 := e1.lt
      have E := Lib.hid (show _ ∧ _ ∧ _ ∧ _ from ⟨e1, e2, e3, e4⟩)
      clear m1 m2 m3 m4 e1 e2 e3 e4
      go_wp2_with fail
      obtain ⟨e1, e2, e3, e4⟩ := E.out
      have hnb := e3.ne_blkS e2 ht
      have s0 : (((wc.setCell ⟨b, o + 1, none⟩ (.bool v2.any)).setCell ⟨b, o + 1 + 1, none⟩ (.int .u16 (v2.last : Nat))).setCell ⟨b, o + 1 + 2, none⟩ (.int .u32 (v2.mask : Nat))).heap.size = wc.heap.size := by simp [World.setCell]
      have E0 : Blk (((((wc.setCell ⟨b, o + 1, none⟩ (.bool v2.any)).setCell ⟨b, o + 1 + 1, none⟩ (.int .u16 (v2.last : Nat))).setCell ⟨b, o + 1 + 2, none⟩ (.int .u32 (v2.mask : Nat))).alloc (.cells #[.bool h.any, .int .u16 (h.ack : Nat), .int .u32 (h.mask : Nat)] 172)).alloc (.cells #[.slice none 0 0] 173)) b t (winCells cs o v2) := ((((e2.set_ (o + 1) _).set_ (o + 1 + 1) _).set_ (o + 1 + 2) _).alloc _).alloc _
      have E1 : Blk (((((wc.setCell ⟨b, o + 1, none⟩ (.bool v2.any)).setCell ⟨b, o + 1 + 1, none⟩ (.int .u16 (v2.last : Nat))).setCell ⟨b, o + 1 + 2, none⟩ (.int .u32 (v2.mask : Nat))).alloc (.cells #[.bool h.any, .int .u16 (h.ack : Nat), .int .u32 (h.mask : Nat)] 172)).alloc (.cells #[.slice none 0 0] 173)) wc.heap.size 172 #[.bool h.any, .int .u16 (h.ack : Nat), .int .u32 (h.mask : Nat)] := by
        have := (Blk.new (((wc.setCell ⟨b, o + 1, none⟩ (.bool v2.any)).setCell ⟨b, o + 1 + 1, none⟩ (.int .u16 (v2.last : Nat))).setCell ⟨b, o + 1 + 2, none⟩ (.int .u32 (v2.mask : Nat))) 172 #[.bool h.any, .int .u16 (h.ack : Nat), .int .u32 (h.mask : Nat)]).alloc (.cells #[.slice none 0 0] 173)
        rwa [s0] at this
      have E2 : Blk (((((wc.setCell ⟨b, o + 1, none⟩ (.bool v2.any)).setCell ⟨b, o + 1 + 1, none⟩ (.int .u16 (v2.last : Nat))).setCell ⟨b, o + 1 + 2, none⟩ (.int .u32 (v2.mask : Nat))).alloc (.cells #[.bool h.any, .int .u16 (h.ack : Nat), .int .u32 (h.mask : Nat)] 172)).alloc (.cells #[.slice none 0 0] 173)) (wc.heap.size + 1) 173 #[.slice none 0 0] := by
        have := Blk.new ((((wc.setCell ⟨b, o + 1, none⟩ (.bool v2.any)).setCell ⟨b, o + 1 + 1, none⟩ (.int .u16 (v2.last : Nat))).setCell ⟨b, o + 1 + 2, none⟩ (.int .u32 (v2.mask : Nat))).alloc (.cells #[.bool h.any, .int .u16 (h.ack : Nat), .int .u32 (h.mask : Nat)] 172)) 173 #[.slice none 0 0]
        rw [show ((((wc.setCell ⟨b, o + 1, none⟩ (.bool v2.any)).setCell ⟨b, o + 1 + 1, none⟩ (.int .u16 (v2.last : Nat))).setCell ⟨b, o + 1 + 2, none⟩ (.int .u32 (v2.mask : Nat))).alloc (.cells #[.bool h.any, .int .u16 (h.ack : Nat), .int .u32 (h.mask : Nat)] 172)).heap.size = wc.heap.size + 1 by simp [World.setCell]] at this
        exact this
      have E3 : Row (((((wc.setCell ⟨b, o + 1, none⟩ (.bool v2.any)).setCell ⟨b, o + 1 + 1, none⟩ (.int .u16 (v2.last : Nat))).setCell ⟨b, o + 1 + 2, none⟩ (.int .u32 (v2.mask : Nat))).alloc (.cells #[.bool h.any, .int .u16 (h.ack : Nat), .int .u32 (h.mask : Nat)] 172)).alloc (.cells #[.slice none 0 0] 173)) 95 1 A n c (u16V op) := e3.keep (fun g hg => (Below.heap_alloc _ _ g (by have := e3.lt hg; simp [World.setCell]; omega)).trans ((Below.heap_alloc _ _ g (by have := e3.lt hg; simpa [World.setCell] using this)).trans ((Below.heap_setCell _ _ _ g (hnb g hg)).trans ((Below.heap_setCell _ _ _ g (hnb g hg)).trans (Below.heap_setCell _ _ _ g (hnb g hg))))))
      have E4 : Chg (fun g => g = b ∨ blkOf A = some g) w (((((wc.setCell ⟨b, o + 1, none⟩ (.bool v2.any)).setCell ⟨b, o + 1 + 1, none⟩ (.int .u16 (v2.last : Nat))).setCell ⟨b, o + 1 + 2, none⟩ (.int .u32 (v2.mask : Nat))).alloc (.cells #[.bool h.any, .int .u16 (h.ack : Nat), .int .u32 (h.mask : Nat)] 172)).alloc (.cells #[.slice none 0 0] 173)) := (((Chg.setCell (F := fun g => g = b ∨ blkOf A = some g) (Chg.setCell (F := fun g => g = b ∨ blkOf A = some g) (Chg.setCell (F := fun g => g = b ∨ blkOf A = some g) (Chg.below Chg.refl e4 (Nat.le_refl _)) (p := ⟨b, o + 1, none⟩) (.inl (.inl rfl)) _) (p := ⟨b, o + 1 + 1, none⟩) (.inl (.inl rfl)) _) (p := ⟨b, o + 1 + 2, none⟩) (.inl (.inl rfl)) _).alloc _).alloc _)
      generalize (((((wc.setCell ⟨b, o + 1, none⟩ (.bool v2.any)).setCell ⟨b, o + 1 + 1, none⟩ (.int .u16 (v2.last : Nat))).setCell ⟨b, o + 1 + 2, none⟩ (.int .u32 (v2.mask : Nat))).alloc (.cells #[.bool h.any, .int .u16 (h.ack : Nat), .int .u32 (h.mask : Nat)] 172)).alloc (.cells #[.slice none 0 0] 173)) = ws at E0 E1 E2 E3 E4 ⊢
      have hlt : ∀ g, blkOf A = some g → g < wc.heap.size := fun g hg => e3.lt hg
      have hD := delAck (theirs h) ⟨HH.out.ack, HH.out.mask⟩ op A n c wc.heap.size (wc.heap.size + 1) wc.heap.size 0 ws E3 hlt ⟨E1, ⟨none, 0, 0, [], E2, Row.nil_, fun g hg => (nomatch hg), Nat.le_refl _⟩, Nat.le_refl _, Nat.le_succ _⟩ (by omega)
      have X := Lib.hid (show _ ∧ _ ∧ _ ∧ _ from ⟨E0, E4, hnb, hlt⟩)
      clear E0 E1 E2 E3 E4 hnb hlt e1 e2 e3 e4 s0 c1 c2 c3 d1 d2 d3 x1 x2 x3 x4 f1 f2 f3 f4
      refine hD.mono ?_
      rintro e w6 ⟨m, rfl, hr6, ha6, hc6⟩
      have hb6 : Blk w6 b t (winCells cs o v2) := (hc6.block b X.out.1.lt (fun hh => by
        rcases hh with hh | hh
        · exact X.out.2.2.1 b hh rfl
        · omega)).trans X.out.1
      have f4 := hb6.frozen (o + 4)
      have hw4 : (winCells cs o v2)[o + 4]? = some (.slice A n c) := by
        unfold winCells
        rw [Array.getElem?_setIfInBounds_ne (by omega), Array.getElem?_setIfInBounds_ne (by omega), Array.getElem?_setIfInBounds_ne (by omega)]
        exact K.out.2.2.2
      have x4 : w6.cell? ⟨b, o + 4, none⟩ = some (.slice A n c) := (hb6.cell _).trans hw4
      obtain ⟨A9, k9, c9, l9, v9, -, -, -⟩ := ha6.var
      have y9 : w6.cell? ⟨wc.heap.size + 1, 0, none⟩ = some (.slice A9 k9 c9) := v9.cell 0
      have lb6 := hb6.lt
      have Y := Lib.hid (show _ ∧ _ ∧ _ from ⟨hr6, hc6, hb6⟩)
      clear hD hr6 ha6 hc6 hb6 hw4 v9
      go_wp2
      go_ret2
      have hnm : ∀ g, blkOf A = some g → g ≠ b := X.out.2.2.1
      refine ⟨⟨_, rfl⟩, m, Y.out.2.2.set_ _ _, Y.out.1.keep (fun g hg => Below.heap_setCell _ _ _ g (hnm g hg)), ?_⟩
      have hc : Chg (fun g => g = b ∨ blkOf A = some g) w w6 := X.out.2.1.trans Y.out.2.1 (fun g hg => hg.elim (fun h => .inl (.inr h)) (fun h => .inr (Nat.le_trans (by have := MH.out.2.2.2.size; have := Q.out.2.2.size; omega) h)))
      exact Chg.setCell (F := fun g => g = b ∨ blkOf A = some g) hc (p := ⟨b, o + 4, none⟩) (.inl (.inl rfl)) _
end Go.Proofs.YtojbijapdkohlaaGreatDoor
