/- slices.Equal at rows that are the same; world.Same at worlds that are the same. (Printed by gen_same.py.) -/
import Derived.Test.YthkgeeonhppliaaWMem
import Derived.Test.YthkgeeonhppliaaKin
set_option linter.unusedSimpArgs false
set_option linter.unusedVariables false
namespace Go.Proofs.Ythkgeeonhppliaa
open Go.RowKit
theorem boolsV_at (l : List Bool) (k : Nat) (b : Bool) (h : l[k]? = some b) : (boolsV l)[k]? = some (.bool b) := by unfold boolsV; rw [List.getElem?_map, h]; rfl
theorem boolsV_length (l : List Bool) : (boolsV l).length = l.length := by unfold boolsV; simp
theorem vecsV_length' (l : List VecV) : (vecsV l).length = l.length * 2 := flat_length (f := fun v : VecV => [.int .i64 v.x, .int .i64 v.y]) (size := 2) (fun _ => rfl) l
set_option maxRecDepth 100000 in
set_option maxHeartbeats 4000000 in
theorem eqE (l : List EntV) (w : World) (A A' : Option Addr) (n c c' : Nat) (h : Reads w w.heap.size 8 A n (entsV l)) (h' : Reads w w.heap.size 8 A' n (entsV l)) (hn : n ≤ 100000) :
    Calls Try.prog 52 #[.slice A n c, .slice A' n c'] w fun e w' => e = .returned (.bool true) ∧ Below w.heap.size w w' := by
  have hll : l.length = n := by have := h.1; rw [entsV_length] at this; omega
  have HH := Lib.hid h
  have HH' := Lib.hid h'
  have HLL := Lib.hid hll
  have hnn : ((n : Int) != (n : Int)) = false := bne_self_eq_false _
  clear h h' hll
  go_enter Try.func52, Try.ntmps52
  go_wp2
  go_loopw [13] (fun i wr => ∃ k : Nat, k ≤ n ∧ i = .int .i64 (k : Nat) ∧ Below w.heap.size w wr) (fun i _ => n - (intOf i).toNat)
  case atStart => exact ⟨0, Nat.zero_le _, rfl, Below.refl _ _⟩
  case round =>
    obtain ⟨k, hk, rfl, hbr⟩ := hrel
    have hbs := hbr.size
    by_cases hlt : k < n
    · obtain ⟨e, he⟩ : ∃ e, l[k]? = some e := ⟨_, List.getElem?_eq_getElem (by have := HLL.out; omega)⟩
      obtain ⟨g, off, rfl, hg, hc⟩ := HH.out.flat (by omega) (by decide)
      obtain ⟨g', off', rfl, hg', hc'⟩ := HH'.out.flat (by omega) (by decide)
      have hg2 : g < wr.heap.size := by omega
      have hg2' : g' < wr.heap.size := by omega
      have qa0 : wr.cell? ⟨g, off + k * 8, none⟩ = some (.int .i64 e.id) := by exact (hbr.cell (p := ⟨g, off + (k * 8 + 0), none⟩) (by show g < _; omega)).trans (hc _ _ (((entsV_at he 0 (by decide)).trans rfl)))
      have qa1 : wr.cell? ⟨g, off + k * 8 + 1, none⟩ = some (.int .i64 e.kind) := by rw [Nat.add_assoc]; exact (hbr.cell (p := ⟨g, off + (k * 8 + 1), none⟩) (by show g < _; omega)).trans (hc _ _ (((entsV_at he 1 (by decide)).trans rfl)))
      have qa2 : wr.cell? ⟨g, off + k * 8 + 2, none⟩ = some (.int .i64 e.at_.x) := by rw [Nat.add_assoc]; exact (hbr.cell (p := ⟨g, off + (k * 8 + 2), none⟩) (by show g < _; omega)).trans (hc _ _ (((entsV_at he 2 (by decide)).trans rfl)))
      have qa3 : wr.cell? ⟨g, off + k * 8 + 3, none⟩ = some (.int .i64 e.at_.y) := by rw [Nat.add_assoc]; exact (hbr.cell (p := ⟨g, off + (k * 8 + 3), none⟩) (by show g < _; omega)).trans (hc _ _ (((entsV_at he 3 (by decide)).trans rfl)))
      have qa4 : wr.cell? ⟨g, off + k * 8 + 4, none⟩ = some (.int .i64 e.vel.x) := by rw [Nat.add_assoc]; exact (hbr.cell (p := ⟨g, off + (k * 8 + 4), none⟩) (by show g < _; omega)).trans (hc _ _ (((entsV_at he 4 (by decide)).trans rfl)))
      have qa5 : wr.cell? ⟨g, off + k * 8 + 5, none⟩ = some (.int .i64 e.vel.y) := by rw [Nat.add_assoc]; exact (hbr.cell (p := ⟨g, off + (k * 8 + 5), none⟩) (by show g < _; omega)).trans (hc _ _ (((entsV_at he 5 (by decide)).trans rfl)))
      have qa6 : wr.cell? ⟨g, off + k * 8 + 6, none⟩ = some (.int .i64 e.health) := by rw [Nat.add_assoc]; exact (hbr.cell (p := ⟨g, off + (k * 8 + 6), none⟩) (by show g < _; omega)).trans (hc _ _ (((entsV_at he 6 (by decide)).trans rfl)))
      have qa7 : wr.cell? ⟨g, off + k * 8 + 7, none⟩ = some (.int .i64 e.wait) := by rw [Nat.add_assoc]; exact (hbr.cell (p := ⟨g, off + (k * 8 + 7), none⟩) (by show g < _; omega)).trans (hc _ _ (((entsV_at he 7 (by decide)).trans rfl)))
      have qb0 : wr.cell? ⟨g', off' + k * 8, none⟩ = some (.int .i64 e.id) := by exact (hbr.cell (p := ⟨g', off' + (k * 8 + 0), none⟩) (by show g' < _; omega)).trans (hc' _ _ (((entsV_at he 0 (by decide)).trans rfl)))
      have qb1 : wr.cell? ⟨g', off' + k * 8 + 1, none⟩ = some (.int .i64 e.kind) := by rw [Nat.add_assoc]; exact (hbr.cell (p := ⟨g', off' + (k * 8 + 1), none⟩) (by show g' < _; omega)).trans (hc' _ _ (((entsV_at he 1 (by decide)).trans rfl)))
      have qb2 : wr.cell? ⟨g', off' + k * 8 + 2, none⟩ = some (.int .i64 e.at_.x) := by rw [Nat.add_assoc]; exact (hbr.cell (p := ⟨g', off' + (k * 8 + 2), none⟩) (by show g' < _; omega)).trans (hc' _ _ (((entsV_at he 2 (by decide)).trans rfl)))
      have qb3 : wr.cell? ⟨g', off' + k * 8 + 3, none⟩ = some (.int .i64 e.at_.y) := by rw [Nat.add_assoc]; exact (hbr.cell (p := ⟨g', off' + (k * 8 + 3), none⟩) (by show g' < _; omega)).trans (hc' _ _ (((entsV_at he 3 (by decide)).trans rfl)))
      have qb4 : wr.cell? ⟨g', off' + k * 8 + 4, none⟩ = some (.int .i64 e.vel.x) := by rw [Nat.add_assoc]; exact (hbr.cell (p := ⟨g', off' + (k * 8 + 4), none⟩) (by show g' < _; omega)).trans (hc' _ _ (((entsV_at he 4 (by decide)).trans rfl)))
      have qb5 : wr.cell? ⟨g', off' + k * 8 + 5, none⟩ = some (.int .i64 e.vel.y) := by rw [Nat.add_assoc]; exact (hbr.cell (p := ⟨g', off' + (k * 8 + 5), none⟩) (by show g' < _; omega)).trans (hc' _ _ (((entsV_at he 5 (by decide)).trans rfl)))
      have qb6 : wr.cell? ⟨g', off' + k * 8 + 6, none⟩ = some (.int .i64 e.health) := by rw [Nat.add_assoc]; exact (hbr.cell (p := ⟨g', off' + (k * 8 + 6), none⟩) (by show g' < _; omega)).trans (hc' _ _ (((entsV_at he 6 (by decide)).trans rfl)))
      have qb7 : wr.cell? ⟨g', off' + k * 8 + 7, none⟩ = some (.int .i64 e.wait) := by rw [Nat.add_assoc]; exact (hbr.cell (p := ⟨g', off' + (k * 8 + 7), none⟩) (by show g' < _; omega)).trans (hc' _ _ (((entsV_at he 7 (by decide)).trans rfl)))
      have HBR := Lib.hid hbr
      have hq : ∀ W, (binOp .neq 30 (.agg #[.int .i64 e.id, .int .i64 e.kind, .int .i64 e.at_.x, .int .i64 e.at_.y, .int .i64 e.vel.x, .int .i64 e.vel.y, .int .i64 e.health, .int .i64 e.wait]) (.agg #[.int .i64 e.id, .int .i64 e.kind, .int .i64 e.at_.x, .int .i64 e.at_.y, .int .i64 e.vel.x, .int .i64 e.vel.y, .int .i64 e.health, .int .i64 e.wait])).run Try.prog W = .ok (.bool false) W := fun W => (neqEnt e e W).trans (by simp)
      clear hbr hc hc' HH HH' he
      go_wp2
      refine wp_region_kin' wr.heap.size (by kernel_rfl) (by kernel_rfl) (fun kk => ?_)
      repeat (first | go_big_quiet_step (fail) | quiet_step (fail))
      refine wpQuiet_nil ?_
      rintro _ ⟨⟨wk, hwk⟩, rfl⟩
      go_wp2
      go_roundw
      case rel => exact ⟨k + 1, by omega, by go_num, HBR.out.trans (hwk.mono hbs)⟩
      case measure => simp [intOf]; omega
    · go_wp2
      go_ret
      exact ⟨rfl, hbr⟩
set_option maxRecDepth 100000 in
set_option maxHeartbeats 4000000 in
theorem eqB (l : List Bool) (w : World) (A A' : Option Addr) (n c c' : Nat) (h : Reads w w.heap.size 1 A n (boolsV l)) (h' : Reads w w.heap.size 1 A' n (boolsV l)) (hn : n ≤ 100000) :
    Calls Try.prog 53 #[.slice A n c, .slice A' n c'] w fun e w' => e = .returned (.bool true) ∧ Below w.heap.size w w' := by
  have hll : l.length = n := by have := h.1; rw [boolsV_length] at this; omega
  have HH := Lib.hid h
  have HH' := Lib.hid h'
  have HLL := Lib.hid hll
  have hnn : ((n : Int) != (n : Int)) = false := bne_self_eq_false _
  clear h h' hll
  go_enter Try.func53, Try.ntmps53
  go_wp2
  go_loopw [13] (fun i wr => ∃ k : Nat, k ≤ n ∧ i = .int .i64 (k : Nat) ∧ Below w.heap.size w wr) (fun i _ => n - (intOf i).toNat)
  case atStart => exact ⟨0, Nat.zero_le _, rfl, Below.refl _ _⟩
  case round =>
    obtain ⟨k, hk, rfl, hbr⟩ := hrel
    have hbs := hbr.size
    by_cases hlt : k < n
    · obtain ⟨e, he⟩ : ∃ e, l[k]? = some e := ⟨_, List.getElem?_eq_getElem (by have := HLL.out; omega)⟩
      obtain ⟨g, off, rfl, hg, hc⟩ := HH.out.flat (by omega) (by decide)
      obtain ⟨g', off', rfl, hg', hc'⟩ := HH'.out.flat (by omega) (by decide)
      have hg2 : g < wr.heap.size := by omega
      have hg2' : g' < wr.heap.size := by omega
      have qa0 : wr.cell? ⟨g, off + k, none⟩ = some (.bool e) := by exact (hbr.cell (p := ⟨g, off + k, none⟩) (by show g < _; omega)).trans (hc _ _ (boolsV_at l k e he))
      have qb0 : wr.cell? ⟨g', off' + k, none⟩ = some (.bool e) := by exact (hbr.cell (p := ⟨g', off' + k, none⟩) (by show g' < _; omega)).trans (hc' _ _ (boolsV_at l k e he))
      have HBR := Lib.hid hbr
      have hq : (e != e) = false := bne_self_eq_false _
      clear hbr hc hc' HH HH' he
      go_wp2
      refine wp_region_kin' wr.heap.size (by kernel_rfl) (by kernel_rfl) (fun kk => ?_)
      repeat (first | go_big_quiet_step (fail) | quiet_step (fail))
      refine wpQuiet_nil ?_
      rintro _ ⟨⟨wk, hwk⟩, rfl⟩
      go_wp2
      go_roundw
      case rel => exact ⟨k + 1, by omega, by go_num, HBR.out.trans (hwk.mono hbs)⟩
      case measure => simp [intOf]; omega
    · go_wp2
      go_ret
      exact ⟨rfl, hbr⟩
set_option maxRecDepth 100000 in
set_option maxHeartbeats 4000000 in
theorem eqV (l : List VecV) (w : World) (A A' : Option Addr) (n c c' : Nat) (h : Reads w w.heap.size 2 A n (vecsV l)) (h' : Reads w w.heap.size 2 A' n (vecsV l)) (hn : n ≤ 100000) :
    Calls Try.prog 54 #[.slice A n c, .slice A' n c'] w fun e w' => e = .returned (.bool true) ∧ Below w.heap.size w w' := by
  have hll : l.length = n := by have := h.1; rw [vecsV_length'] at this; omega
  have HH := Lib.hid h
  have HH' := Lib.hid h'
  have HLL := Lib.hid hll
  have hnn : ((n : Int) != (n : Int)) = false := bne_self_eq_false _
  clear h h' hll
  go_enter Try.func54, Try.ntmps54
  go_wp2
  go_loopw [13] (fun i wr => ∃ k : Nat, k ≤ n ∧ i = .int .i64 (k : Nat) ∧ Below w.heap.size w wr) (fun i _ => n - (intOf i).toNat)
  case atStart => exact ⟨0, Nat.zero_le _, rfl, Below.refl _ _⟩
  case round =>
    obtain ⟨k, hk, rfl, hbr⟩ := hrel
    have hbs := hbr.size
    by_cases hlt : k < n
    · obtain ⟨e, he⟩ : ∃ e, l[k]? = some e := ⟨_, List.getElem?_eq_getElem (by have := HLL.out; omega)⟩
      obtain ⟨g, off, rfl, hg, hc⟩ := HH.out.flat (by omega) (by decide)
      obtain ⟨g', off', rfl, hg', hc'⟩ := HH'.out.flat (by omega) (by decide)
      have hg2 : g < wr.heap.size := by omega
      have hg2' : g' < wr.heap.size := by omega
      have qa0 : wr.cell? ⟨g, off + k * 2, none⟩ = some (.int .i64 e.x) := by exact (hbr.cell (p := ⟨g, off + (k * 2 + 0), none⟩) (by show g < _; omega)).trans (hc _ _ ((vecsV_at l k e he).1))
      have qa1 : wr.cell? ⟨g, off + k * 2 + 1, none⟩ = some (.int .i64 e.y) := by rw [Nat.add_assoc]; exact (hbr.cell (p := ⟨g, off + (k * 2 + 1), none⟩) (by show g < _; omega)).trans (hc _ _ ((vecsV_at l k e he).2))
      have qb0 : wr.cell? ⟨g', off' + k * 2, none⟩ = some (.int .i64 e.x) := by exact (hbr.cell (p := ⟨g', off' + (k * 2 + 0), none⟩) (by show g' < _; omega)).trans (hc' _ _ ((vecsV_at l k e he).1))
      have qb1 : wr.cell? ⟨g', off' + k * 2 + 1, none⟩ = some (.int .i64 e.y) := by rw [Nat.add_assoc]; exact (hbr.cell (p := ⟨g', off' + (k * 2 + 1), none⟩) (by show g' < _; omega)).trans (hc' _ _ ((vecsV_at l k e he).2))
      have HBR := Lib.hid hbr
      have hq : ∀ W, (binOp .neq 28 (.agg #[.int .i64 e.x, .int .i64 e.y]) (.agg #[.int .i64 e.x, .int .i64 e.y])).run Try.prog W = .ok (.bool false) W := fun W => (neqVec e e W).trans (by simp)
      clear hbr hc hc' HH HH' he
      go_wp2
      refine wp_region_kin' wr.heap.size (by kernel_rfl) (by kernel_rfl) (fun kk => ?_)
      repeat (first | go_big_quiet_step (fail) | quiet_step (fail))
      refine wpQuiet_nil ?_
      rintro _ ⟨⟨wk, hwk⟩, rfl⟩
      go_wp2
      go_roundw
      case rel => exact ⟨k + 1, by omega, by go_num, HBR.out.trans (hwk.mono hbs)⟩
      case measure => simp [intOf]; omega
    · go_wp2
      go_ret
      exact ⟨rfl, hbr⟩
set_option maxRecDepth 100000 in
set_option maxHeartbeats 8000000 in
theorem wSame (v : WorldV) (s s' : WorldS) (w : World) (h : WorldAt w w.heap.size v s) (h' : WorldAt w w.heap.size v s') (hn : s.n ≤ 100000) (hn1 : s.ms.n ≤ 100000) (hn2 : s.ms.n2 ≤ 100000) :
    Calls Try.prog 28 #[(.agg #[.int .i64 v.map.W, .int .i64 v.map.H, .slice s.ms.A s.ms.n s.ms.c, .slice s.ms.A2 s.ms.n2 s.ms.c2, .int .u64 v.st, .int .i64 v.tick, .slice s.A s.n s.c]), (.agg #[.int .i64 v.map.W, .int .i64 v.map.H, .slice s'.ms.A s'.ms.n s'.ms.c, .slice s'.ms.A2 s'.ms.n2 s'.ms.c2, .int .u64 v.st, .int .i64 v.tick, .slice s'.A s'.n s'.c])] w fun r w' => r = .returned (.bool true) ∧ Below w.heap.size w w' := by
  obtain ⟨⟨A, n, c, A2, n2, c2⟩, A3, n3, c3⟩ := s
  obtain ⟨⟨B, m, d, B2, m2, d2⟩, B3, m3, d3⟩ := s'
  have l1 := h.len
  have l2 := h'.len
  have l3 := h.map.len
  have l4 := h'.map.len
  simp only at l1 l2 l3 l4 hn hn1 hn2
  obtain rfl : m3 = n3 := by omega
  obtain rfl : m = n := by omega
  obtain rfl : m2 = n2 := by omega
  have HE := Lib.hid (fun W (hW : Below w.heap.size w W) => eqE v.l W A3 B3 m3 c3 d3 ((h.l.below hW).upto hW.size) ((h'.l.below hW).upto hW.size) hn)
  have HB := Lib.hid (fun W (hW : Below w.heap.size w W) => eqB v.map.walls W A B m c d ((h.map.walls.below hW).upto hW.size) ((h'.map.walls.below hW).upto hW.size) hn1)
  have HV := Lib.hid (fun W (hW : Below w.heap.size w W) => eqV v.map.spawns W A2 B2 m2 c2 d2 ((h.map.spawns.below hW).upto hW.size) ((h'.map.spawns.below hW).upto hW.size) hn2)
  have t1 : (v.st == v.st) = true := beq_self_eq_true _
  have t2 : (v.tick == v.tick) = true := beq_self_eq_true _
  have t3 : (v.map.W == v.map.W) = true := beq_self_eq_true _
  have t4 : (v.map.H == v.map.H) = true := beq_self_eq_true _
  clear h h' l1 l2 l3 l4
  go_enter Try.func28, Try.ntmps28
  go_wp2_with (first
    | (go_at_call 52; refine (HE.out _ (by repeat (first | with_reducible exact Below.refl _ _ | with_reducible assumption | with_reducible refine Below.drew ?_ | with_reducible refine below_drews ?_ _ | with_reducible refine Below.alloc ?_ (by first | omega | (simp; done) | (simp; omega)) _ | with_reducible refine Below.setCell ?_ (by first | omega | (simp; done) | (simp; omega)) _))).mono ?_; rintro e w1 ⟨rfl, hb1⟩; obtain ⟨hc1, hf1⟩ := bcell hb1; have hs1 := hb1.size; (try simp at hs1); have l1 : w.heap.size < w1.heap.size := (by omega); have l2 : w.heap.size + 1 < w1.heap.size := (by omega); have B1 : Below w.heap.size w w1 := Below.trans (by repeat (first | with_reducible exact Below.refl _ _ | with_reducible assumption | with_reducible refine Below.drew ?_ | with_reducible refine below_drews ?_ _ | with_reducible refine Below.alloc ?_ (by first | omega | (simp; done) | (simp; omega)) _ | with_reducible refine Below.setCell ?_ (by first | omega | (simp; done) | (simp; omega)) _)) (hb1.mono (by simp; omega)))
    | (go_at_call 53; refine (HB.out _ (by repeat (first | with_reducible exact Below.refl _ _ | with_reducible assumption | with_reducible refine Below.drew ?_ | with_reducible refine below_drews ?_ _ | with_reducible refine Below.alloc ?_ (by first | omega | (simp; done) | (simp; omega)) _ | with_reducible refine Below.setCell ?_ (by first | omega | (simp; done) | (simp; omega)) _))).mono ?_; rintro e w2 ⟨rfl, hb2⟩; obtain ⟨hc2, hf2⟩ := bcell hb2; have hs2 := hb2.size; (try simp at hs2); have l3 : w.heap.size < w2.heap.size := (by omega); have l4 : w.heap.size + 1 < w2.heap.size := (by omega); have B2 : Below w.heap.size w w2 := B1.trans (hb2.mono (by omega)))
    | (go_at_call 54; refine (HV.out _ (by repeat (first | with_reducible exact Below.refl _ _ | with_reducible assumption | with_reducible refine Below.drew ?_ | with_reducible refine below_drews ?_ _ | with_reducible refine Below.alloc ?_ (by first | omega | (simp; done) | (simp; omega)) _ | with_reducible refine Below.setCell ?_ (by first | omega | (simp; done) | (simp; omega)) _))).mono ?_; rintro e w3 ⟨rfl, hb3⟩; have B3 : Below w.heap.size w w3 := B2.trans (hb3.mono (by omega))))
  go_ret
  exact ⟨rfl, (by repeat (first | with_reducible exact Below.refl _ _ | with_reducible assumption | with_reducible refine Below.drew ?_ | with_reducible refine below_drews ?_ _ | with_reducible refine Below.alloc ?_ (by first | omega | (simp; done) | (simp; omega)) _ | with_reducible refine Below.setCell ?_ (by first | omega | (simp; done) | (simp; omega)) _))⟩
end Go.Proofs.Ythkgeeonhppliaa
