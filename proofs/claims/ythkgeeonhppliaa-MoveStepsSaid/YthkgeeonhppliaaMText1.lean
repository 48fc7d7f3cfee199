/- The reference's maps: a tile's middle, a spawn looked for, two maps held against each other. -/
import Derived.Test.YthkgeeonhppliaaMRef
import Derived.Test.YthkgeeonhppliaaMapF
import Derived.Test.YthkgeeonhppliaaKinTail
set_option linter.unusedSimpArgs false
set_option linter.unusedVariables false
namespace Go.Proofs.Ythkgeeonhppliaa
open Go.RowKit
theorem twoBoxes (w : World) (cs1 cs2 : Array Value) (t1 t2 : TypeId) : Below w.heap.size w ((w.alloc (.cells cs1 t1)).alloc (.cells cs2 t2)) ∧ Blk ((w.alloc (.cells cs1 t1)).alloc (.cells cs2 t2)) w.heap.size t1 cs1 ∧ Blk ((w.alloc (.cells cs1 t1)).alloc (.cells cs2 t2)) (w.heap.size + 1) t2 cs2 := by
  refine ⟨(by repeat (first | with_reducible exact Below.refl _ _ | with_reducible assumption | with_reducible refine Below.drew ?_ | with_reducible refine below_drews ?_ _ | with_reducible refine Below.alloc ?_ (by first | omega | (simp; done) | (simp; omega)) _ | with_reducible refine Below.setCell ?_ (by first | omega | (simp; done) | (simp; omega)) _)), (Blk.new _ _ _).alloc _, ?_⟩
  have := Blk.new (w.alloc (.cells cs1 t1)) t2 cs2
  simpa using this
theorem rMiddle (x y : Int) (h0 : 0 ≤ x) (h1 : x ≤ 100000) (h2 : 0 ≤ y) (h3 : y ≤ 100000) (w : World) : Calls Try.prog 92 #[.int .i64 x, .int .i64 y] w fun e w' => e = .returned (.agg #[.int .i64 (middle x y).x, .int .i64 (middle x y).y]) ∧ Below w.heap.size w w' := by
  unfold middle
  go_enter Try.func92, Try.ntmps92
  go_wp2
  exact bodyPost_ret (v := (.agg #[.int .i64 (x * 65536 + 32768), .int .i64 (y * 65536 + 32768)])) (by simp [results, Try.results92, go_sem]) rfl ⟨rfl, (by repeat (first | with_reducible exact Below.refl _ _ | with_reducible assumption | with_reducible refine Below.drew ?_ | with_reducible refine below_drews ?_ _ | with_reducible refine Below.alloc ?_ (by first | omega | (simp; done) | (simp; omega)) _ | with_reducible refine Below.setCell ?_ (by first | omega | (simp; done) | (simp; omega)) _))⟩
set_option maxRecDepth 100000 in
set_option maxHeartbeats 2000000 in
theorem rSpawns (m : MapV) (s : MapS) (p : VecV) (w : World) (h : MapAt w w.heap.size m s) (hn : s.n2 ≤ 100000) :
    Calls Try.prog 91 #[(.agg #[.int .i64 m.W, .int .i64 m.H, .slice s.A s.n s.c, .slice s.A2 s.n2 s.c2]), (.agg #[.int .i64 p.x, .int .i64 p.y])] w fun e w' => e = .returned (.bool (decide (p ∈ m.spawns))) ∧ Below w.heap.size w w' := by
  obtain ⟨W, H, walls, l⟩ := m
  obtain ⟨A1, n1, c1, A, n, c⟩ := s
  have hl := h.len.2
  have hr := h.spawns
  simp only at hl hr hn ⊢
  have HL := Lib.hid hl
  have HR := Lib.hid hr
  clear h hl hr
  go_enter Try.func91, Try.ntmps91
  go_wp2
  obtain ⟨B1, b1, b2⟩ := twoBoxes w #[.int .i64 W, .int .i64 H, .slice A1 n1 c1, .slice A n c] #[.int .i64 p.x, .int .i64 p.y] 45 28
  generalize ((w.alloc (.cells #[.int .i64 W, .int .i64 H, .slice A1 n1 c1, .slice A n c] 45)).alloc (.cells #[.int .i64 p.x, .int .i64 p.y] 28)) = w1 at B1 b1 b2 ⊢
  have hs1 := b2.lt
  have hr1 := Lib.hid ((HR.out.below B1).upto B1.size)
  have HB1 := Lib.hid B1
  have Hb1 := Lib.hid b1
  have Hb2 := Lib.hid b2
  clear HR B1 b1 b2
  go_loopw [5] (fun i wr => ∃ k : Nat, k ≤ n ∧ i = .int .i64 k ∧ (∀ v ∈ l.take k, v ≠ p) ∧ Below w1.heap.size w1 wr) (fun i _ => n - (intOf i).toNat)
  case atStart => exact ⟨0, Nat.zero_le _, rfl, by simp, Below.refl _ _⟩
  case round =>
    obtain ⟨k, hk, rfl, he, hbr⟩ := hrel
    have HE := Lib.hid he
    have hsr := hbr.size
    have l0 : w.heap.size < wr.heap.size := by omega
    have l1 : w.heap.size + 1 < wr.heap.size := by omega
    have p0 : wr.cell? ⟨w.heap.size, 3, none⟩ = some (.slice A n c) := (Hb1.out.below hbr (by omega)).cell 3
    have p1 : wr.cell? ⟨w.heap.size + 1, 0, none⟩ = some (.int .i64 p.x) := (Hb2.out.below hbr (by omega)).cell 0
    have p2 : wr.cell? ⟨w.heap.size + 1, 1, none⟩ = some (.int .i64 p.y) := (Hb2.out.below hbr (by omega)).cell 1
    have B2 : Below w.heap.size w wr := HB1.out.trans (hbr.mono HB1.out.size)
    have HBR := Lib.hid hbr
    have HB2 := Lib.hid B2
    clear he
    by_cases hlt : k < n
    · obtain ⟨g, off, rfl, hg, hc⟩ := (hr1.out.below hbr).flat (by omega) (by omega)
      obtain ⟨v, hv⟩ : ∃ v, l[k]? = some v := ⟨_, List.getElem?_eq_getElem (by rw [HL.out]; exact hlt)⟩
      obtain ⟨i0, i1⟩ := vecsV_at l k v hv
      have c0 : wr.cell? ⟨g, off + k * 2, none⟩ = some (.int .i64 v.x) := hc _ _ i0
      have c1' : wr.cell? ⟨g, off + k * 2 + 1, none⟩ = some (.int .i64 v.y) := by have := hc _ _ i1; rwa [← Nat.add_assoc] at this
      have lg : g < wr.heap.size := by omega
      have HV := Lib.hid hv
      clear hc hv i0 i1 hbr B2
      obtain ⟨q, hq⟩ : ∃ q, decide (v = p) = q := ⟨_, rfl⟩
      have keq : ∀ W, (binOp .eql 28 (.agg #[.int .i64 v.x, .int .i64 v.y]) (.agg #[.int .i64 p.x, .int .i64 p.y])).run Try.prog W = .ok (.bool q) W := fun W => by rw [eqlVec, hq]
      have HQ := Lib.hid hq
      clear hq
      go_wp2
      refine wp_region_kin' wr.heap.size (by kernel_rfl) (by kernel_rfl) (fun kk => ?_)
      repeat (first | go_big_quiet_step (fail) | quiet_step (fail))
      refine wpQuiet_nil ?_
      rintro wk ⟨⟨wk0, hwk⟩, rfl⟩
      have B3 : Below w.heap.size w wk := HB2.out.trans (hwk.mono HB2.out.size)
      have B4 : Below w1.heap.size w1 wk := HBR.out.trans (hwk.mono HBR.out.size)
      cases q with
      | true =>
        have hp := of_decide_eq_true HQ.out
        have hin : decide (p ∈ l) = true := by
          rw [decide_eq_true_eq, ← hp]
          exact List.mem_of_getElem? HV.out
        have HIN := Lib.hid hin
        clear hin hp
        go_wp2
        go_ret
        exact ⟨ret_bool HIN.out.symm, B3⟩
      | false =>
        have hp := of_decide_eq_false HQ.out
        go_wp2
        refine ⟨⟨k + 1, hlt, by go_num, ?_, B4⟩, by simp [intOf]; omega⟩
        intro u hu
        rw [List.take_add_one, HV.out] at hu
        rcases List.mem_append.1 hu with hu | hu
        · exact HE.out u hu
        · simp at hu; rw [hu]; exact hp
    · obtain rfl : k = n := by omega
      have hno : decide (p ∈ l) = false := by
        rw [decide_eq_false_iff_not]
        intro hp
        refine HE.out p ?_ rfl
        rw [List.take_of_length_le (by rw [HL.out]; exact Nat.le_refl _)]
        exact hp
      have HNO := Lib.hid hno
      clear hno
      go_wp2
      go_ret
      exact ⟨ret_bool HNO.out.symm, HB2.out⟩
end Go.Proofs.Ythkgeeonhppliaa
