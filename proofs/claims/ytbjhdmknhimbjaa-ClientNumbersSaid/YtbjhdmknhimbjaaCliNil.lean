/- Layer 22: a client that holds no list yet: List, Own. -/
import Derived.Test.YtbjhdmknhimbjaaCli
import Derived.Test.YtbjhdmknhimbjaaFind
set_option linter.unusedSimpArgs false
set_option linter.unusedVariables false
namespace Go.Proofs.Ytbjhdmknhimbjaa
open Go.RowKit
set_option maxRecDepth 100000 in
theorem zeroL (w : World) : (zeroValue 80).run Try.prog w = .ok (.slice none 0 0) w := by kernel_rfl
set_option maxRecDepth 100000 in
set_option maxHeartbeats 2000000 in
theorem ringGetNil (b o : Nat) (tick : Int) (w : World) (h0 : w.cell? ⟨b, o + 1, none⟩ = some (.map none)) :
    Calls Try.prog 33 #[.pointer (some ⟨b, o, none⟩), .int .i64 tick] w fun e w' => ∃ A c, e = .returned (.tuple #[.slice A 0 c, .bool false]) ∧ Fresh w w' 43 8 A 0 c [] := by
  have hC := fun W => cloneE [] W none 0 0 Reads.none_ (by omega)
  have hlk := fun W => run_lookup_nil_ok (w := W) Try.underlying69 Try.underlying3 (zeroL W) tick
  go_enter Try.func33, Try.ntmps33
  go_wp2_with fail
  refine (hC _).mono ?_
  rintro e w1 ⟨A', c', rfl, hf⟩
  go_wp2
  go_ret2
  exact ⟨A', c', rfl, hf⟩
set_option maxRecDepth 100000 in
set_option maxHeartbeats 2000000 in
theorem cliListNil (b : Nat) (w : World) (h0 : w.cell? ⟨b, 13, none⟩ = some (.slice none 0 0)) (h1 : w.cell? ⟨b, 14, none⟩ = some (.map none)) :
    Calls Try.prog 17 #[.pointer (some ⟨b, 0, none⟩)] w fun e w' => ∃ A c, e = .returned (.slice A 0 c) ∧ Row w' 43 8 A 0 c [] ∧ Below w.heap.size w w' := by
  have hb := World.block_lt_of_cell? w _ h0
  have hb2 : b < w.heap.size := hb
  have HL := Lib.hid (fun W (hW : Below w.heap.size w W) => ringLast [] b 13 none 0 0 W ((hW.cell (p := ⟨b, 13, none⟩) hb).trans h0) Reads.none_ (by omega))
  have HG := Lib.hid (fun t W (hW : Below w.heap.size w W) => ringGetNil b 13 t W ((hW.cell (p := ⟨b, 14, none⟩) hb).trans h1))
  clear h0 h1
  go_enter Try.func17, Try.ntmps17
  go_wp2
  go_region_held3 (fun w' => True) (first | trivial | go_keep) (first
    | (go_at_call 20; refine (HL.out _ (by repeat (first | with_reducible exact Below.refl _ _ | with_reducible assumption | with_reducible refine Below.drew ?_ | with_reducible refine below_drews ?_ _ | with_reducible refine Below.alloc ?_ (by first | omega | (simp; done) | (simp; omega)) _ | with_reducible refine Below.setCell ?_ (by first | omega | (simp; done) | (simp; omega)) _))).mono ?_; rintro e w1 ⟨rfl, hb1⟩; have B1 : Below w.heap.size w w1 := Below.trans (by repeat (first | with_reducible exact Below.refl _ _ | with_reducible assumption | with_reducible refine Below.drew ?_ | with_reducible refine below_drews ?_ _ | with_reducible refine Below.alloc ?_ (by first | omega | (simp; done) | (simp; omega)) _ | with_reducible refine Below.setCell ?_ (by first | omega | (simp; done) | (simp; omega)) _)) (hb1.mono (by simp)))
    | (go_at_call 33; refine (HG.out _ _ (by repeat (first | with_reducible exact Below.refl _ _ | with_reducible assumption | with_reducible refine Below.drew ?_ | with_reducible refine below_drews ?_ _ | with_reducible refine Below.alloc ?_ (by first | omega | (simp; done) | (simp; omega)) _ | with_reducible refine Below.setCell ?_ (by first | omega | (simp; done) | (simp; omega)) _))).mono ?_; rintro e w2 ⟨A2, c2, rfl, hr2, hf2, hb2⟩; have B2 : Below w.heap.size w w2 := Below.trans (by repeat (first | with_reducible exact Below.refl _ _ | with_reducible assumption | with_reducible refine Below.drew ?_ | with_reducible refine below_drews ?_ _ | with_reducible refine Below.alloc ?_ (by first | omega | (simp; done) | (simp; omega)) _ | with_reducible refine Below.setCell ?_ (by first | omega | (simp; done) | (simp; omega)) _)) (hb2.mono B1.size)))
  all_goals go_wp2
  all_goals go_ret
  all_goals exact ⟨A2, c2, rfl, hr2, B2⟩
set_option maxRecDepth 100000 in
set_option maxHeartbeats 2000000 in
theorem cliOwnNil (b : Nat) (slot : Int) (w : World) (h0 : w.cell? ⟨b, 13, none⟩ = some (.slice none 0 0)) (h1 : w.cell? ⟨b, 14, none⟩ = some (.map none)) (h2 : w.cell? ⟨b, 5, none⟩ = some (.int .i64 slot)) :
    Calls Try.prog 9 #[.pointer (some ⟨b, 0, none⟩)] w fun e w' => e = .returned (.tuple #[.agg #[.int .i64 0, .int .i64 0, .int .i64 0, .int .i64 0, .int .i64 0, .int .i64 0, .int .i64 0, .int .i64 0], .bool false]) ∧ Below w.heap.size w w' := by
  have hb := World.block_lt_of_cell? w _ h0
  have hb2 : b < w.heap.size := hb
  have HL := Lib.hid (fun W (hW : Below w.heap.size w W) => cliListNil b W ((hW.cell (p := ⟨b, 13, none⟩) hb).trans h0) ((hW.cell (p := ⟨b, 14, none⟩) hb).trans h1))
  have HF := Lib.hid (fun W (A : Option Addr) c (hr : Reads W W.heap.size 8 A 0 (entsV [])) => wFind [] slot W A 0 c hr (by omega))
  have HZ : findF [] slot = -1 := rfl
  clear h0 h1
  go_enter Try.func9, Try.ntmps9
  go_wp2_with fail
  refine (HL.out _ (by repeat (first | with_reducible exact Below.refl _ _ | with_reducible assumption | with_reducible refine Below.drew ?_ | with_reducible refine below_drews ?_ _ | with_reducible refine Below.alloc ?_ (by first | omega | (simp; done) | (simp; omega)) _ | with_reducible refine Below.setCell ?_ (by first | omega | (simp; done) | (simp; omega)) _))).mono ?_
  rintro e w1 ⟨A, c, rfl, hr1, hb1⟩
  have B1 : Below w.heap.size w w1 := Below.trans (by repeat (first | with_reducible exact Below.refl _ _ | with_reducible assumption | with_reducible refine Below.drew ?_ | with_reducible refine below_drews ?_ _ | with_reducible refine Below.alloc ?_ (by first | omega | (simp; done) | (simp; omega)) _ | with_reducible refine Below.setCell ?_ (by first | omega | (simp; done) | (simp; omega)) _)) (hb1.mono (by simp))
  have z5 : w1.cell? ⟨b, 5, none⟩ = some (.int .i64 slot) := (B1.cell (p := ⟨b, 5, none⟩) hb).trans h2
  have mb : Blk w1 w.heap.size 43 #[.int .i64 0, .int .i64 0, .int .i64 0, .int .i64 0, .int .i64 0, .int .i64 0, .int .i64 0, .int .i64 0] := Blk.below (Blk.new _ _ _) hb1 (by simp)
  have HR1 := Lib.hid hr1
  have HB1 := Lib.hid B1
  have MB := Lib.hid mb
  have l1 := mb.lt
  clear hr1 B1 mb hb1
  go_wp2_with fail
  refine (HF.out _ _ _ (HR1.out.reads (by decide))).mono ?_
  rintro e w2 ⟨rfl, hb2'⟩
  have B2 : Below w.heap.size w w2 := HB1.out.trans (hb2'.mono HB1.out.size)
  have mb2 := MB.out.below hb2' l1
  have q : ∀ j, w2.frozen? ⟨w.heap.size, j, none⟩ = false := mb2.frozen
  have r0 := mb2.cell 0
  have r1 := mb2.cell 1
  have r2 := mb2.cell 2
  have r3 := mb2.cell 3
  have r4 := mb2.cell 4
  have r5 := mb2.cell 5
  have r6 := mb2.cell 6
  have r7 := mb2.cell 7
  have HB2 := Lib.hid B2
  have MB2 := Lib.hid mb2
  simp only [List.getElem?_toArray, List.getElem?_cons_zero, List.getElem?_cons_succ] at r0 r1 r2 r3 r4 r5 r6 r7
  clear B2 mb2 hb2'
  go_wp2
  have e0 : Blk ((((((((w2.setCell ⟨w.heap.size, 0, none⟩ (.int .i64 0)).setCell ⟨w.heap.size, 1, none⟩ (.int .i64 0)).setCell ⟨w.heap.size, 2, none⟩ (.int .i64 0)).setCell ⟨w.heap.size, 3, none⟩ (.int .i64 0)).setCell ⟨w.heap.size, 4, none⟩ (.int .i64 0)).setCell ⟨w.heap.size, 5, none⟩ (.int .i64 0)).setCell ⟨w.heap.size, 6, none⟩ (.int .i64 0)).setCell ⟨w.heap.size, 7, none⟩ (.int .i64 0)) w.heap.size 43 #[.int .i64 0, .int .i64 0, .int .i64 0, .int .i64 0, .int .i64 0, .int .i64 0, .int .i64 0, .int .i64 0] := ((((((((MB2.out.set_ 0 _).set_ 1 _).set_ 2 _).set_ 3 _).set_ 4 _).set_ 5 _).set_ 6 _).set_ 7 _)
  have e1 : Below w.heap.size w ((((((((w2.setCell ⟨w.heap.size, 0, none⟩ (.int .i64 0)).setCell ⟨w.heap.size, 1, none⟩ (.int .i64 0)).setCell ⟨w.heap.size, 2, none⟩ (.int .i64 0)).setCell ⟨w.heap.size, 3, none⟩ (.int .i64 0)).setCell ⟨w.heap.size, 4, none⟩ (.int .i64 0)).setCell ⟨w.heap.size, 5, none⟩ (.int .i64 0)).setCell ⟨w.heap.size, 6, none⟩ (.int .i64 0)).setCell ⟨w.heap.size, 7, none⟩ (.int .i64 0)) := by have B2 := HB2.out; exact (by repeat (first | with_reducible exact Below.refl _ _ | with_reducible assumption | with_reducible refine Below.drew ?_ | with_reducible refine below_drews ?_ _ | with_reducible refine Below.alloc ?_ (by first | omega | (simp; done) | (simp; omega)) _ | with_reducible refine Below.setCell ?_ (by first | omega | (simp; done) | (simp; omega)) _))
  generalize ((((((((w2.setCell ⟨w.heap.size, 0, none⟩ (.int .i64 0)).setCell ⟨w.heap.size, 1, none⟩ (.int .i64 0)).setCell ⟨w.heap.size, 2, none⟩ (.int .i64 0)).setCell ⟨w.heap.size, 3, none⟩ (.int .i64 0)).setCell ⟨w.heap.size, 4, none⟩ (.int .i64 0)).setCell ⟨w.heap.size, 5, none⟩ (.int .i64 0)).setCell ⟨w.heap.size, 6, none⟩ (.int .i64 0)).setCell ⟨w.heap.size, 7, none⟩ (.int .i64 0)) = wf at e0 e1 ⊢
  have q0 : wf.cell? ⟨w.heap.size, 0, none⟩ = some (.int .i64 0) := e0.cell 0
  have q1 : wf.cell? ⟨w.heap.size, 1, none⟩ = some (.int .i64 0) := e0.cell 1
  have q2 : wf.cell? ⟨w.heap.size, 2, none⟩ = some (.int .i64 0) := e0.cell 2
  have q3 : wf.cell? ⟨w.heap.size, 3, none⟩ = some (.int .i64 0) := e0.cell 3
  have q4 : wf.cell? ⟨w.heap.size, 4, none⟩ = some (.int .i64 0) := e0.cell 4
  have q5 : wf.cell? ⟨w.heap.size, 5, none⟩ = some (.int .i64 0) := e0.cell 5
  have q6 : wf.cell? ⟨w.heap.size, 6, none⟩ = some (.int .i64 0) := e0.cell 6
  have q7 : wf.cell? ⟨w.heap.size, 7, none⟩ = some (.int .i64 0) := e0.cell 7
  clear r0 r1 r2 r3 r4 r5 r6 r7 q
  exact bodyPost_ret (v := .tuple #[.agg #[.int .i64 0, .int .i64 0, .int .i64 0, .int .i64 0, .int .i64 0, .int .i64 0, .int .i64 0, .int .i64 0], .bool false]) (by simp [results, Try.results9, go_sem, q0, q1, q2, q3, q4, q5, q6, q7]) rfl ⟨rfl, e1⟩
end Go.Proofs.Ytbjhdmknhimbjaa
