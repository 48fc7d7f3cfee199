/- The reference's maps: two maps held against each other. -/
import Derived.Test.YthkgeeonhppliaaMText1
set_option linter.unusedSimpArgs false
set_option linter.unusedVariables false
namespace Go.Proofs.Ythkgeeonhppliaa
open Go.RowKit
def sameMap (a b : MapV) : Bool := decide (a.W = b.W ∧ a.H = b.H ∧ a.walls = b.walls ∧ a.spawns = b.spawns)
theorem boolsV_at' (l : List Bool) (k : Nat) (b : Bool) (h : l[k]? = some b) : (boolsV l)[k]? = some (.bool b) := by unfold boolsV; rw [List.getElem?_map, h]; rfl
theorem take_eq_step {α : Type} {l l' : List α} {k : Nat} {x : α} (h : l.take k = l'.take k) (h1 : l[k]? = some x) (h2 : l'[k]? = some x) : l.take (k + 1) = l'.take (k + 1) := by
  rw [List.take_add_one, List.take_add_one, h, h1, h2]
set_option maxRecDepth 100000 in
set_option maxHeartbeats 4000000 in
theorem rSameNo (a b : MapV) (s s' : MapS) (w : World) (h : MapAt w w.heap.size a s) (h' : MapAt w w.heap.size b s')
    (hno : a.W ≠ b.W ∨ a.H ≠ b.H ∨ s.n ≠ s'.n ∨ s.n2 ≠ s'.n2) :
    Calls Try.prog 94 #[(.agg #[.int .i64 a.W, .int .i64 a.H, .slice s.A s.n s.c, .slice s.A2 s.n2 s.c2]), (.agg #[.int .i64 b.W, .int .i64 b.H, .slice s'.A s'.n s'.c, .slice s'.A2 s'.n2 s'.c2])] w fun e w' => e = .returned (.bool (sameMap a b)) ∧ Below w.heap.size w w' := by
  have hr : sameMap a b = false := by
    unfold sameMap
    rw [decide_eq_false_iff_not]
    rintro ⟨h1, h2, h3, h4⟩
    have l1 := h.len
    have l2 := h'.len
    rw [h3, h4] at l1
    rcases hno with h | h | h | h
    · exact h h1
    · exact h h2
    · exact h (by omega)
    · exact h (by omega)
  rw [hr]
  have hk : (a.W != b.W) = true ∨ (a.W != b.W) = false ∧ (a.H != b.H) = true ∨ (a.W != b.W) = false ∧ (a.H != b.H) = false ∧ ((s.n : Int) != (s'.n : Int)) = true ∨ (a.W != b.W) = false ∧ (a.H != b.H) = false ∧ ((s.n : Int) != (s'.n : Int)) = false ∧ ((s.n2 : Int) != (s'.n2 : Int)) = true := by
    simp only [bne_iff_ne, bne_eq_false_iff_eq, ne_eq]
    by_cases h1 : a.W = b.W
    · by_cases h2 : a.H = b.H
      · by_cases h3 : s.n = s'.n
        · refine .inr (.inr (.inr ⟨h1, h2, by omega, ?_⟩))
          rcases hno with h | h | h | h
          · exact absurd h1 h
          · exact absurd h2 h
          · exact absurd h3 h
          · omega
        · exact .inr (.inr (.inl ⟨h1, h2, by omega⟩))
      · exact .inr (.inl ⟨h1, h2⟩)
    · exact .inl h1
  clear h h' hno hr
  obtain ⟨aW, aH, aw, asp⟩ := a
  obtain ⟨bW, bH, bw, bsp⟩ := b
  obtain ⟨A1, n1, c1, A, n, c⟩ := s
  obtain ⟨B1, m1, d1, B, m, d⟩ := s'
  simp only at hk ⊢
  rcases hk with h1 | ⟨h1, h2⟩ | ⟨h1, h2, h3⟩ | ⟨h1, h2, h3, h4⟩
  all_goals
    go_enter Try.func94, Try.ntmps94
    go_wp2
    go_ret
    exact ⟨rfl, (by repeat (first | with_reducible exact Below.refl _ _ | with_reducible assumption | with_reducible refine Below.drew ?_ | with_reducible refine below_drews ?_ _ | with_reducible refine Below.alloc ?_ (by first | omega | (simp; done) | (simp; omega)) _ | with_reducible refine Below.setCell ?_ (by first | omega | (simp; done) | (simp; omega)) _))⟩
set_option maxRecDepth 100000 in
set_option maxHeartbeats 8000000 in
theorem rSameYes (a b : MapV) (s s' : MapS) (w : World) (h : MapAt w w.heap.size a s) (h' : MapAt w w.heap.size b s')
    (hW : a.W = b.W) (hH : a.H = b.H) (hn : s.n = s'.n) (hn2 : s.n2 = s'.n2) (hn3 : s.n ≤ 100000) (hn4 : s.n2 ≤ 100000) :
    Calls Try.prog 94 #[(.agg #[.int .i64 a.W, .int .i64 a.H, .slice s.A s.n s.c, .slice s.A2 s.n2 s.c2]), (.agg #[.int .i64 b.W, .int .i64 b.H, .slice s'.A s'.n s'.c, .slice s'.A2 s'.n2 s'.c2])] w fun e w' => e = .returned (.bool (sameMap a b)) ∧ Below w.heap.size w w' := by
  obtain ⟨aW, aH, aw, asp⟩ := a
  obtain ⟨bW, bH, bw, bsp⟩ := b
  obtain ⟨A1, n1, c1, A, n, c⟩ := s
  obtain ⟨B1, m1, d1, B, m, d⟩ := s'
  have hl := h.len
  have hl' := h'.len
  have hw := h.walls
  have hw' := h'.walls
  have hs := h.spawns
  have hs' := h'.spawns
  simp only at hl hl' hw hw' hs hs' hW hH hn hn2 hn3 hn4
  subst hW hH hn hn2
  obtain ⟨r, hr⟩ : ∃ r, sameMap ⟨aW, aH, aw, asp⟩ ⟨aW, aH, bw, bsp⟩ = r := ⟨_, rfl⟩
  rw [hr]
  simp only
  unfold sameMap at hr
  simp only [true_and] at hr
  have HRR := Lib.hid hr
  have HL := Lib.hid hl
  have HL' := Lib.hid hl'
  have HW := Lib.hid hw
  have HW' := Lib.hid hw'
  have HS := Lib.hid hs
  have HS' := Lib.hid hs'
  have y1 : (aW != aW) = false := by simp
  have y2 : (aH != aH) = false := by simp
  have y3 : ((n1 : Int) != (n1 : Int)) = false := by simp
  have y4 : ((n : Int) != (n : Int)) = false := by simp
  clear h h' hl hl' hw hw' hs hs' hr
  go_enter Try.func94, Try.ntmps94
  obtain ⟨Bw, b1, b2⟩ := twoBoxes w #[.int .i64 aW, .int .i64 aH, .slice A1 n1 c1, .slice A n c] #[.int .i64 aW, .int .i64 aH, .slice B1 n1 d1, .slice B n d] 45 45
  have BW := Lib.hid Bw
  have Hb1 := Lib.hid b1
  have Hb2 := Lib.hid b2
  clear Bw b1 b2
  go_wp2
  have Bw := BW.out
  have b1 := Hb1.out
  have b2 := Hb2.out
  clear BW Hb1 Hb2
  generalize ((w.alloc (.cells #[.int .i64 aW, .int .i64 aH, .slice A1 n1 c1, .slice A n c] 45)).alloc (.cells #[.int .i64 aW, .int .i64 aH, .slice B1 n1 d1, .slice B n d] 45)) = w1 at Bw b1 b2 ⊢
  have hs1 := b2.lt
  have HB1 := Lib.hid Bw
  have Hb1 := Lib.hid b1
  have Hb2 := Lib.hid b2
  have hz := Bw.size
  clear Bw b1 b2
  go_loopw [5] (fun i wr => ∃ k : Nat, k ≤ n1 ∧ i = .int .i64 k ∧ aw.take k = bw.take k ∧ Below w1.heap.size w1 wr) (fun i _ => n1 - (intOf i).toNat)
  case atStart => exact ⟨0, Nat.zero_le _, rfl, by simp, Below.refl _ _⟩
  case round =>
    obtain ⟨k, hk, rfl, he, hbr⟩ := hrel
    have HE := Lib.hid he
    have hsr := hbr.size
    have l0 : w.heap.size < wr.heap.size := by omega
    have l1 : w.heap.size + 1 < wr.heap.size := by omega
    have e1 := Hb1.out.below hbr (by omega)
    have e2 := Hb2.out.below hbr (by omega)
    have p0 : wr.cell? ⟨w.heap.size, 2, none⟩ = some (.slice A1 n1 c1) := e1.cell 2
    have p1 : wr.cell? ⟨w.heap.size + 1, 2, none⟩ = some (.slice B1 n1 d1) := e2.cell 2
    have p2 : wr.cell? ⟨w.heap.size, 3, none⟩ = some (.slice A n c) := e1.cell 3
    have p3 : wr.cell? ⟨w.heap.size + 1, 3, none⟩ = some (.slice B n d) := e2.cell 3
    have B2 : Below w.heap.size w wr := HB1.out.trans (hbr.mono HB1.out.size)
    have HBR := Lib.hid hbr
    have HB2 := Lib.hid B2
    clear he e1 e2
    by_cases hlt : k < n1
    · obtain ⟨g, off, rfl, hg, hc⟩ := (HW.out.below B2).flat (by omega) (by omega)
      obtain ⟨g', off', rfl, hg', hc'⟩ := (HW'.out.below B2).flat (by omega) (by omega)
      obtain ⟨x, hx⟩ : ∃ x, aw[k]? = some x := ⟨_, List.getElem?_eq_getElem (by have := HL.out; omega)⟩
      obtain ⟨y, hy⟩ : ∃ y, bw[k]? = some y := ⟨_, List.getElem?_eq_getElem (by have := HL'.out; omega)⟩
      have f0 : wr.cell? ⟨g, off + k, none⟩ = some (.bool x) := hc _ _ (boolsV_at' _ _ _ hx)
      have f1 : wr.cell? ⟨g', off' + k, none⟩ = some (.bool y) := hc' _ _ (boolsV_at' _ _ _ hy)
      have lg : g < wr.heap.size := by omega
      have lg' : g' < wr.heap.size := by omega
      have HX := Lib.hid hx
      have HY := Lib.hid hy
      clear hc hc' hx hy hbr B2
      cases x <;> cases y
      all_goals
        go_wp2
        refine wp_region_kin' wr.heap.size (by kernel_rfl) (by kernel_rfl) (fun kk => ?_)
        repeat (first | go_big_quiet_step (fail) | quiet_step (fail))
        refine wpQuiet_nil ?_
        rintro wk ⟨⟨wk0, hwk⟩, rfl⟩
        have B3 := Lib.hid (HB2.out.trans (hwk.mono HB2.out.size))
        have B4 := Lib.hid (HBR.out.trans (hwk.mono HBR.out.size))
        clear hwk kk
        go_wp2
      all_goals first
        | exact ⟨⟨k + 1, hlt, by go_num, take_eq_step HE.out HX.out HY.out, B4.out⟩, by simp [intOf]; omega⟩
        | (go_ret
           refine ⟨ret_bool ?_, B3.out⟩
           rw [← HRR.out, eq_comm, decide_eq_false_iff_not]
           rintro ⟨h1, -⟩
           have hx := HX.out
           rw [h1, HY.out] at hx
           cases hx)
    · obtain rfl : k = n1 := by omega
      have hweq : aw = bw := by
        have := HE.out
        rw [List.take_of_length_le (by have := HL.out; omega), List.take_of_length_le (by have := HL'.out; omega)] at this
        exact this
      have HWEQ := Lib.hid hweq
      obtain ⟨wo, hwo⟩ : ∃ wo : World, wo = wr := ⟨_, rfl⟩
      subst hwo
      clear HE hweq B2
      go_wp2
      go_loopw [6] (fun i wr => ∃ k : Nat, k ≤ n ∧ i = .int .i64 k ∧ asp.take k = bsp.take k ∧ Below wo.heap.size wo wr) (fun i _ => n - (intOf i).toNat)
      case atStart => exact ⟨0, Nat.zero_le _, rfl, by simp, Below.refl _ _⟩
      case round =>
        obtain ⟨j, hj, rfl, he, hbq⟩ := hrel
        have HE := Lib.hid he
        have hsq := hbq.size
        have q2 : wr.cell? ⟨w.heap.size, 3, none⟩ = some (.slice A n c) := (hbq.cell (p := ⟨w.heap.size, 3, none⟩) l0).trans p2
        have q3 : wr.cell? ⟨w.heap.size + 1, 3, none⟩ = some (.slice B n d) := (hbq.cell (p := ⟨w.heap.size + 1, 3, none⟩) l1).trans p3
        have l2 : w.heap.size < wr.heap.size := by omega
        have l3 : w.heap.size + 1 < wr.heap.size := by omega
        have B5 : Below w.heap.size w wr := HB2.out.trans (hbq.mono HB2.out.size)
        have HBQ := Lib.hid hbq
        have HB5 := Lib.hid B5
        clear he
        by_cases hlt : j < n
        · obtain ⟨g, off, rfl, hg, hc⟩ := (HS.out.below B5).flat (by omega) (by omega)
          obtain ⟨g', off', rfl, hg', hc'⟩ := (HS'.out.below B5).flat (by omega) (by omega)
          obtain ⟨x, hx⟩ : ∃ x, asp[j]? = some x := ⟨_, List.getElem?_eq_getElem (by have := HL.out; omega)⟩
          obtain ⟨y, hy⟩ : ∃ y, bsp[j]? = some y := ⟨_, List.getElem?_eq_getElem (by have := HL'.out; omega)⟩
          obtain ⟨i0, i1⟩ := vecsV_at asp j x hx
          obtain ⟨k0, k1⟩ := vecsV_at bsp j y hy
          have f0 : wr.cell? ⟨g, off + j * 2, none⟩ = some (.int .i64 x.x) := hc _ _ i0
          have f1 : wr.cell? ⟨g, off + j * 2 + 1, none⟩ = some (.int .i64 x.y) := by have := hc _ _ i1; rwa [← Nat.add_assoc] at this
          have f2 : wr.cell? ⟨g', off' + j * 2, none⟩ = some (.int .i64 y.x) := hc' _ _ k0
          have f3 : wr.cell? ⟨g', off' + j * 2 + 1, none⟩ = some (.int .i64 y.y) := by have := hc' _ _ k1; rwa [← Nat.add_assoc] at this
          have lg : g < wr.heap.size := by omega
          have lg' : g' < wr.heap.size := by omega
          have HX := Lib.hid hx
          have HY := Lib.hid hy
          clear hc hc' hx hy hbq B5 i0 i1 k0 k1
          obtain ⟨q, hq⟩ : ∃ q, (!decide (x = y)) = q := ⟨_, rfl⟩
          have kneq : ∀ W, (binOp .neq 28 (.agg #[.int .i64 x.x, .int .i64 x.y]) (.agg #[.int .i64 y.x, .int .i64 y.y])).run Try.prog W = .ok (.bool q) W := fun W => by rw [neqVec, hq]
          have HQ := Lib.hid hq
          clear hq
          go_wp2
          refine wp_region_kin' wr.heap.size (by kernel_rfl) (by kernel_rfl) (fun kk => ?_)
          repeat (first | go_big_quiet_step (fail) | quiet_step (fail))
          refine wpQuiet_nil ?_
          rintro wk ⟨⟨wk0, hwk⟩, rfl⟩
          have B3 := Lib.hid (HB5.out.trans (hwk.mono HB5.out.size))
          have B4 := Lib.hid (HBQ.out.trans (hwk.mono HBQ.out.size))
          clear hwk kk
          cases q with
          | false =>
            have hxy : x = y := by have := HQ.out; simpa using this
            subst hxy
            go_wp2
            exact ⟨⟨j + 1, hlt, by go_num, take_eq_step HE.out HX.out HY.out, B4.out⟩, by simp [intOf]; omega⟩
          | true =>
            have hxy : x ≠ y := by have := HQ.out; simpa using this
            have HXY := Lib.hid hxy
            clear hxy
            go_wp2
            go_ret
            refine ⟨ret_bool ?_, B3.out⟩
            rw [← HRR.out, eq_comm, decide_eq_false_iff_not]
            rintro ⟨-, h1⟩
            have hx := HX.out
            rw [h1, HY.out] at hx
            exact HXY.out (by cases hx; rfl)
        · obtain rfl : j = n := by omega
          have hseq : asp = bsp := by
            have := HE.out
            rw [List.take_of_length_le (by have := HL.out; omega), List.take_of_length_le (by have := HL'.out; omega)] at this
            exact this
          have HSEQ := Lib.hid hseq
          clear hseq
          go_wp2
          go_ret
          refine ⟨ret_bool ?_, HB5.out⟩
          rw [← HRR.out, eq_comm, decide_eq_true_eq]
          exact ⟨HWEQ.out, HSEQ.out⟩
end Go.Proofs.Ythkgeeonhppliaa
