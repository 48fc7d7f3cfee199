/- The walk of world.Leave. -/
import Derived.Test.YtojbijapdkohlaaGreatDoorQ19WDel
import Derived.Test.YtojbijapdkohlaaGreatDoorWHitW
set_option linter.unusedSimpArgs false
set_option linter.unusedVariables false
namespace Go.Proofs.YtojbijapdkohlaaGreatDoor
open Go.RowKit
/-- What a world's function hands back, with an error. -/
def GivesE (w w' : World) (v : WorldV) (s : WorldS) (r : Ending) (v' : WorldV) (e : Int) : Prop :=
  ∃ s' : WorldS, r = .returned (.tuple #[(.agg #[.int .i64 v'.map.W, .int .i64 v'.map.H, .slice s'.ms.A s'.ms.n s'.ms.c, .slice s'.ms.A2 s'.ms.n2 s'.ms.c2, .int .u64 v'.st, .int .i64 v'.tick, .slice s'.A s'.n s'.c]), .int .i64 e]) ∧ WorldAt w' w'.heap.size v' s' ∧ s'.ms = s.ms ∧ Held w w' s s' v'.l ∧ Below w.heap.size w w'
def leaveL (l : List EntV) (id : Int) : List EntV := if playerF l id = -1 then l else l.take (playerF l id).toNat ++ l.drop ((playerF l id).toNat + 1)
def leaveE (l : List EntV) (id : Int) : Int := if playerF l id = -1 then 6 else 0
set_option maxRecDepth 100000 in
set_option maxHeartbeats 8000000 in
theorem wLeave (v : WorldV) (s : WorldS) (id : Int) (w : World) (h : WorldAt w w.heap.size v s) (hn : s.n ≤ 1000) :
    Calls Tryz.prog 92 #[(.agg #[.int .i64 v.map.W, .int .i64 v.map.H, .slice s.ms.A s.ms.n s.ms.c, .slice s.ms.A2 s.ms.n2 s.ms.c2, .int .u64 v.st, .int .i64 v.tick, .slice s.A s.n s.c]), .int .i64 id] w fun r w' => GivesE w w' v s r ⟨v.map, v.st, v.tick, leaveL v.l id⟩ (leaveE v.l id) := by
  have hP := fun W (hW : Below w.heap.size w W) => wPlayer v s id W ((h.l.below hW).upto hW.size) (by omega)
  have hC := fun W (hW : Below w.heap.size w W) => cloneE v.l W s.A s.n s.c ((h.l.below hW).upto hW.size) (by omega)
  have hlen := h.len
  have HP := Lib.hid hP
  have HC := Lib.hid hC
  have HW := Lib.hid h
  clear h hP hC
  rcases playerF_spec v.l id with h1 | ⟨k, e, h1, h2, -, -⟩
  · have e1 : leaveL v.l id = v.l := by unfold leaveL; rw [if_pos h1]
    have e2 : leaveE v.l id = 6 := by unfold leaveE; rw [if_pos h1]
    rw [e1, e2]
    clear e1 e2 hlen
    go_enter Tryz.func92, Tryz.ntmps92
    go_wp2_with (go_at_call 156; refine (HP.out _ (by repeat (first | with_reducible exact Below.refl _ _ | with_reducible assumption | with_reducible refine Below.drew ?_ | with_reducible refine below_drews ?_ _ | with_reducible refine Below.alloc ?_ (by first | omega | (simp; done) | (simp; omega)) _ | with_reducible refine Below.setCell ?_ (by first | omega | (simp; done) | (simp; omega)) _))).mono ?_; rw [h1]; rintro r w1 ⟨rfl, hb1⟩; obtain ⟨hc1, hf1⟩ := bcell hb1; have hs1 := hb1.size; (try simp at hs1); have l1 : w.heap.size < w1.heap.size := (by omega); have l2 : w.heap.size + 1 < w1.heap.size := (by omega); have B1 : Below w.heap.size w w1 := Below.trans (by repeat (first | with_reducible exact Below.refl _ _ | with_reducible assumption | with_reducible refine Below.drew ?_ | with_reducible refine below_drews ?_ _ | with_reducible refine Below.alloc ?_ (by first | omega | (simp; done) | (simp; omega)) _ | with_reducible refine Below.setCell ?_ (by first | omega | (simp; done) | (simp; omega)) _)) (hb1.mono (by simp; omega)))
    refine bodyPost_ret (v := .tuple #[(.agg #[.int .i64 v.map.W, .int .i64 v.map.H, .slice s.ms.A s.ms.n s.ms.c, .slice s.ms.A2 s.ms.n2 s.ms.c2, .int .u64 v.st, .int .i64 v.tick, .slice s.A s.n s.c]), .int .i64 6]) (by simp [results, Tryz.results92, go_sem, hc1, hf1, l1, l2]) rfl ?_
    have B9 : Below w.heap.size w (((((((w1.setCell ⟨w.heap.size + 1, 0, none⟩ (.int .i64 v.map.W)).setCell ⟨w.heap.size + 1, 1, none⟩ (.int .i64 v.map.H)).setCell ⟨w.heap.size + 1, 2, none⟩ (.slice s.ms.A s.ms.n s.ms.c)).setCell ⟨w.heap.size + 1, 3, none⟩ (.slice s.ms.A2 s.ms.n2 s.ms.c2)).setCell ⟨w.heap.size + 1, 4, none⟩ (.int .u64 v.st)).setCell ⟨w.heap.size + 1, 5, none⟩ (.int .i64 v.tick)).setCell ⟨w.heap.size + 1, 6, none⟩ (.slice s.A s.n s.c)) := (by repeat (first | with_reducible exact Below.refl _ _ | with_reducible assumption | with_reducible refine Below.drew ?_ | with_reducible refine below_drews ?_ _ | with_reducible refine Below.alloc ?_ (by first | omega | (simp; done) | (simp; omega)) _ | with_reducible refine Below.setCell ?_ (by first | omega | (simp; done) | (simp; omega)) _))
    exact ⟨s, rfl, (HW.out.below B9).upto B9.size, rfl, .inl ⟨rfl, rfl⟩, B9⟩
  · have e1 : leaveL v.l id = v.l.take k ++ v.l.drop (k + 1) := by unfold leaveL; rw [if_neg (by omega), h1, Int.toNat_natCast]
    have e2 : leaveE v.l id = 0 := by unfold leaveE; rw [if_neg (by omega)]
    rw [e1, e2]
    have hk : k < s.n := by rw [← hlen]; exact (List.getElem?_eq_some_iff.1 h2).1
    have H2 := Lib.hid h2
    clear e1 e2 hlen h2
    obtain ⟨m, st, tick, l⟩ := v
    obtain ⟨ms, A0, n, c0⟩ := s
    simp only at hk hn
    go_enter Tryz.func92, Tryz.ntmps92
    go_wp2_with (go_at_call 156; refine (HP.out _ (by repeat (first | with_reducible exact Below.refl _ _ | with_reducible assumption | with_reducible refine Below.drew ?_ | with_reducible refine below_drews ?_ _ | with_reducible refine Below.alloc ?_ (by first | omega | (simp; done) | (simp; omega)) _ | with_reducible refine Below.setCell ?_ (by first | omega | (simp; done) | (simp; omega)) _))).mono ?_; rw [h1]; rintro r w1 ⟨rfl, hb1⟩; obtain ⟨hc1, hf1⟩ := bcell hb1; have hs1 := hb1.size; (try simp at hs1); have l1 : w.heap.size < w1.heap.size := (by omega); have l2 : w.heap.size + 1 < w1.heap.size := (by omega); have B1 : Below w.heap.size w w1 := Below.trans (by repeat (first | with_reducible exact Below.refl _ _ | with_reducible assumption | with_reducible refine Below.drew ?_ | with_reducible refine below_drews ?_ _ | with_reducible refine Below.alloc ?_ (by first | omega | (simp; done) | (simp; omega)) _ | with_reducible refine Below.setCell ?_ (by first | omega | (simp; done) | (simp; omega)) _)) (hb1.mono (by simp; omega)))
    have mb : Blk w1 w.heap.size 46 #[.int .i64 m.W, .int .i64 m.H, .slice ms.A ms.n ms.c, .slice ms.A2 ms.n2 ms.c2, .int .u64 st, .int .i64 tick, .slice A0 n c0] := Blk.below ((Blk.new _ _ _).alloc _) hb1 (by simp; omega)
    have mz : Blk w1 (w.heap.size + 1) 46 #[.int .i64 0, .int .i64 0, .slice none 0 0, .slice none 0 0, .int .u64 0, .int .i64 0, .slice none 0 0] := by
      have := Blk.below (Blk.new (w.alloc _) _ _) hb1 (by simp)
      simpa using this
    refine (HC.out _ B1).mono ?_
    rintro r w2 ⟨A, c, rfl, hr2, hf2, hb2⟩
    obtain ⟨g, off, rfl, hgl, -⟩ := hr2.ent (e := e) H2.out
    have hg2 : w1.heap.size ≤ g := hf2 g rfl
    have mb2 := Blk.below mb hb2 l1
    have mz2 := Blk.below mz hb2 l2
    have B2 : Below w.heap.size w w2 := B1.trans (hb2.mono (by omega))
    have hne : g ≠ w.heap.size := by omega
    have hne2 : g ≠ w.heap.size + 1 := by omega
    have HR2 := Lib.hid hr2
    have HB2 := Lib.hid mb2
    have HZ2 := Lib.hid mz2
    have HBB2 := Lib.hid B2
    clear hr2 mb2 mz2 B2 mb mz hc1 hf1 hb2
    go_wp2_with fail
    refine (wDelete l k n c g off _ HR2.out hk).mono ?_
    rintro r w5 ⟨rfl, hr5, hc5⟩
    have mb5 := HB2.out.chg hc5 (Ne.symm hne)
    have mz5 := HZ2.out.chg hc5 (Ne.symm hne2)
    have B5 : Below w.heap.size w w5 := HBB2.out.trans (hc5.to_below HBB2.out.size (fun q hq => by subst hq; omega))
    have y0 : w5.cell? ⟨w.heap.size, 0, none⟩ = some (.int .i64 m.W) := mb5.cell 0
    have y1 : w5.cell? ⟨w.heap.size, 1, none⟩ = some (.int .i64 m.H) := mb5.cell 1
    have y2 : w5.cell? ⟨w.heap.size, 2, none⟩ = some (.slice ms.A ms.n ms.c) := mb5.cell 2
    have y3 : w5.cell? ⟨w.heap.size, 3, none⟩ = some (.slice ms.A2 ms.n2 ms.c2) := mb5.cell 3
    have y4 : w5.cell? ⟨w.heap.size, 4, none⟩ = some (.int .u64 st) := mb5.cell 4
    have y5 : w5.cell? ⟨w.heap.size, 5, none⟩ = some (.int .i64 tick) := mb5.cell 5
    have y6 : w5.cell? ⟨w.heap.size, 6, none⟩ = some (.slice A0 n c0) := mb5.cell 6
    have f0 := mb5.frozen 0
    have f1 := mb5.frozen 1
    have f2 := mb5.frozen 2
    have f3 := mb5.frozen 3
    have f4 := mb5.frozen 4
    have f5 := mb5.frozen 5
    have f6 := mb5.frozen 6
    have x0 : w5.cell? ⟨w.heap.size + 1, 0, none⟩ = some (.int .i64 0) := mz5.cell 0
    have x1 : w5.cell? ⟨w.heap.size + 1, 1, none⟩ = some (.int .i64 0) := mz5.cell 1
    have x2 : w5.cell? ⟨w.heap.size + 1, 2, none⟩ = some (.slice none 0 0) := mz5.cell 2
    have x3 : w5.cell? ⟨w.heap.size + 1, 3, none⟩ = some (.slice none 0 0) := mz5.cell 3
    have x4 : w5.cell? ⟨w.heap.size + 1, 4, none⟩ = some (.int .u64 0) := mz5.cell 4
    have x5 : w5.cell? ⟨w.heap.size + 1, 5, none⟩ = some (.int .i64 0) := mz5.cell 5
    have x6 : w5.cell? ⟨w.heap.size + 1, 6, none⟩ = some (.slice none 0 0) := mz5.cell 6
    have z0 := mz5.frozen 0
    have z1 := mz5.frozen 1
    have z2 := mz5.frozen 2
    have z3 := mz5.frozen 3
    have z4 := mz5.frozen 4
    have z5 := mz5.frozen 5
    have z6 := mz5.frozen 6
    have l5 : w.heap.size < w5.heap.size := mb5.lt
    have l6 : w.heap.size + 1 < w5.heap.size := mz5.lt
    have hz6 : Blk (w5.setCell ⟨w.heap.size, 6, none⟩ (.slice (some ⟨g, off, none⟩) (n - 1) c)) (w.heap.size + 1) 46 #[.int .i64 0, .int .i64 0, .slice none 0 0, .slice none 0 0, .int .u64 0, .int .i64 0, .slice none 0 0] := mz5.far (p := ⟨w.heap.size, 6, none⟩) (by simp) _
    have hr6 : Row (w5.setCell ⟨w.heap.size, 6, none⟩ (.slice (some ⟨g, off, none⟩) (n - 1) c)) 55 8 (some ⟨g, off, none⟩) (n - 1) c (entsV (l.take k ++ l.drop (k + 1))) := hr5.far (p := ⟨w.heap.size, 6, none⟩) (fun q hq => by cases hq; exact hne) _
    have HZ6 := Lib.hid hz6
    have HR6 := Lib.hid hr6
    have HBB5 := Lib.hid B5
    clear hz6 hr6 mb5 mz5 hr5 hc5 B5
    go_wp2
    have b5 := HBB5.out
    have hB7 : Below w.heap.size w ((((((((w5.setCell ⟨w.heap.size, 6, none⟩ (.slice (some ⟨g, off, none⟩) (n - 1) c)).setCell ⟨w.heap.size + 1, 0, none⟩ (.int .i64 m.W)).setCell ⟨w.heap.size + 1, 1, none⟩ (.int .i64 m.H)).setCell ⟨w.heap.size + 1, 2, none⟩ (.slice ms.A ms.n ms.c)).setCell ⟨w.heap.size + 1, 3, none⟩ (.slice ms.A2 ms.n2 ms.c2)).setCell ⟨w.heap.size + 1, 4, none⟩ (.int .u64 st)).setCell ⟨w.heap.size + 1, 5, none⟩ (.int .i64 tick)).setCell ⟨w.heap.size + 1, 6, none⟩ (.slice (some ⟨g, off, none⟩) (n - 1) c)) := (by repeat (first | with_reducible exact Below.refl _ _ | with_reducible assumption | with_reducible refine Below.drew ?_ | with_reducible refine below_drews ?_ _ | with_reducible refine Below.alloc ?_ (by first | omega | (simp; done) | (simp; omega)) _ | with_reducible refine Below.setCell ?_ (by first | omega | (simp; done) | (simp; omega)) _))
    have hz7 : Blk ((((((((w5.setCell ⟨w.heap.size, 6, none⟩ (.slice (some ⟨g, off, none⟩) (n - 1) c)).setCell ⟨w.heap.size + 1, 0, none⟩ (.int .i64 m.W)).setCell ⟨w.heap.size + 1, 1, none⟩ (.int .i64 m.H)).setCell ⟨w.heap.size + 1, 2, none⟩ (.slice ms.A ms.n ms.c)).setCell ⟨w.heap.size + 1, 3, none⟩ (.slice ms.A2 ms.n2 ms.c2)).setCell ⟨w.heap.size + 1, 4, none⟩ (.int .u64 st)).setCell ⟨w.heap.size + 1, 5, none⟩ (.int .i64 tick)).setCell ⟨w.heap.size + 1, 6, none⟩ (.slice (some ⟨g, off, none⟩) (n - 1) c)) (w.heap.size + 1) 46 #[.int .i64 m.W, .int .i64 m.H, .slice ms.A ms.n ms.c, .slice ms.A2 ms.n2 ms.c2, .int .u64 st, .int .i64 tick, .slice (some ⟨g, off, none⟩) (n - 1) c] := (((((((HZ6.out.set_ 0 (.int .i64 m.W)).set_ 1 (.int .i64 m.H)).set_ 2 (.slice ms.A ms.n ms.c)).set_ 3 (.slice ms.A2 ms.n2 ms.c2)).set_ 4 (.int .u64 st)).set_ 5 (.int .i64 tick)).set_ 6 (.slice (some ⟨g, off, none⟩) (n - 1) c))
    have hzz : ∀ j : Nat, j ≠ w.heap.size + 1 → ((((((((w5.setCell ⟨w.heap.size, 6, none⟩ (.slice (some ⟨g, off, none⟩) (n - 1) c)).setCell ⟨w.heap.size + 1, 0, none⟩ (.int .i64 m.W)).setCell ⟨w.heap.size + 1, 1, none⟩ (.int .i64 m.H)).setCell ⟨w.heap.size + 1, 2, none⟩ (.slice ms.A ms.n ms.c)).setCell ⟨w.heap.size + 1, 3, none⟩ (.slice ms.A2 ms.n2 ms.c2)).setCell ⟨w.heap.size + 1, 4, none⟩ (.int .u64 st)).setCell ⟨w.heap.size + 1, 5, none⟩ (.int .i64 tick)).setCell ⟨w.heap.size + 1, 6, none⟩ (.slice (some ⟨g, off, none⟩) (n - 1) c)).heap[j]? = (w5.setCell ⟨w.heap.size, 6, none⟩ (.slice (some ⟨g, off, none⟩) (n - 1) c)).heap[j]? := fun j hj => (Below.heap_setCell _ _ _ j hj).trans ((Below.heap_setCell _ _ _ j hj).trans ((Below.heap_setCell _ _ _ j hj).trans ((Below.heap_setCell _ _ _ j hj).trans ((Below.heap_setCell _ _ _ j hj).trans ((Below.heap_setCell _ _ _ j hj).trans (Below.heap_setCell _ _ _ j hj))))))
    have hr7 := HR6.out.keep (w' := ((((((((w5.setCell ⟨w.heap.size, 6, none⟩ (.slice (some ⟨g, off, none⟩) (n - 1) c)).setCell ⟨w.heap.size + 1, 0, none⟩ (.int .i64 m.W)).setCell ⟨w.heap.size + 1, 1, none⟩ (.int .i64 m.H)).setCell ⟨w.heap.size + 1, 2, none⟩ (.slice ms.A ms.n ms.c)).setCell ⟨w.heap.size + 1, 3, none⟩ (.slice ms.A2 ms.n2 ms.c2)).setCell ⟨w.heap.size + 1, 4, none⟩ (.int .u64 st)).setCell ⟨w.heap.size + 1, 5, none⟩ (.int .i64 tick)).setCell ⟨w.heap.size + 1, 6, none⟩ (.slice (some ⟨g, off, none⟩) (n - 1) c))) (fun q hq => by cases hq; exact hzz _ hne2)
    clear hzz
    generalize ((((((((w5.setCell ⟨w.heap.size, 6, none⟩ (.slice (some ⟨g, off, none⟩) (n - 1) c)).setCell ⟨w.heap.size + 1, 0, none⟩ (.int .i64 m.W)).setCell ⟨w.heap.size + 1, 1, none⟩ (.int .i64 m.H)).setCell ⟨w.heap.size + 1, 2, none⟩ (.slice ms.A ms.n ms.c)).setCell ⟨w.heap.size + 1, 3, none⟩ (.slice ms.A2 ms.n2 ms.c2)).setCell ⟨w.heap.size + 1, 4, none⟩ (.int .u64 st)).setCell ⟨w.heap.size + 1, 5, none⟩ (.int .i64 tick)).setCell ⟨w.heap.size + 1, 6, none⟩ (.slice (some ⟨g, off, none⟩) (n - 1) c)) = wf at hB7 hz7 hr7 ⊢
    have q0 : wf.cell? ⟨w.heap.size + 1, 0, none⟩ = some (.int .i64 m.W) := hz7.cell 0
    have q1 : wf.cell? ⟨w.heap.size + 1, 1, none⟩ = some (.int .i64 m.H) := hz7.cell 1
    have q2 : wf.cell? ⟨w.heap.size + 1, 2, none⟩ = some (.slice ms.A ms.n ms.c) := hz7.cell 2
    have q3 : wf.cell? ⟨w.heap.size + 1, 3, none⟩ = some (.slice ms.A2 ms.n2 ms.c2) := hz7.cell 3
    have q4 : wf.cell? ⟨w.heap.size + 1, 4, none⟩ = some (.int .u64 st) := hz7.cell 4
    have q5 : wf.cell? ⟨w.heap.size + 1, 5, none⟩ = some (.int .i64 tick) := hz7.cell 5
    have q6 : wf.cell? ⟨w.heap.size + 1, 6, none⟩ = some (.slice (some ⟨g, off, none⟩) (n - 1) c) := hz7.cell 6
    refine bodyPost_ret (v := .tuple #[.agg #[.int .i64 m.W, .int .i64 m.H, .slice ms.A ms.n ms.c, .slice ms.A2 ms.n2 ms.c2, .int .u64 st, .int .i64 tick, .slice (some ⟨g, off, none⟩) (n - 1) c], .int .i64 0]) (by simp [results, Tryz.results92, go_sem, q0, q1, q2, q3, q4, q5, q6]) rfl ?_
    exact ⟨⟨ms, some ⟨g, off, none⟩, n - 1, c⟩, rfl, Row.worldAt HW.out hB7 hB7.size hr7 _ _, rfl, .inr ⟨hr7, fun q hq => by have hq : g = q := (by simpa [blkOf] using hq); omega⟩, hB7⟩
end Go.Proofs.YtojbijapdkohlaaGreatDoor
