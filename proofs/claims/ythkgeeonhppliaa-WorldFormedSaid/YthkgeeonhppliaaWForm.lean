/- The walk of the law WorldFormed. (Printed by gen_form.py.) -/
import Derived.Test.YthkgeeonhppliaaWClear
import Derived.Test.YthkgeeonhppliaaWFormP
import Derived.Test.YthkgeeonhppliaaWRef10
import Derived.Deep.DeepCutAuto
set_option linter.unusedSimpArgs false
set_option linter.unusedVariables false
namespace Go.Proofs.Ythkgeeonhppliaa
open Go.RowKit
set_option maxRecDepth 100000 in
set_option maxHeartbeats 4000000 in
theorem lawFormedNo (m : MapV) (s : MapS) (seed balls : Int) (A : Option Addr) (n c : Nat) (w : World) (h : MapAt w w.heap.size m s) (hno : ¬ (s.n ≤ 400 ∧ s.n2 ≤ 400) ∨ 100 < n) :
    Calls Try.prog 8 #[(.agg #[.int .i64 m.W, .int .i64 m.H, .slice s.A s.n s.c, .slice s.A2 s.n2 s.c2]), .agg #[.int .u64 seed, .int .i64 balls], .slice A n c] w fun r w' => r = .returned (.bool true) ∧ Below w.heap.size w w' := by
  have hF := fun W => few13 m s W
  obtain ⟨f, hf⟩ : ∃ f, decide (s.n ≤ 400 ∧ s.n2 ≤ 400) = f := ⟨_, rfl⟩
  obtain ⟨d, hd⟩ : ∃ d, decide ((100 : Int) < (n : Int)) = d := ⟨_, rfl⟩
  simp only [hf] at hF
  have hno' : f = false ∨ d = true := by
    rcases hno with h1 | h1
    · exact .inl (by rw [← hf]; exact decide_eq_false h1)
    · exact .inr (by rw [← hd]; exact decide_eq_true (by omega))
  have HN := Lib.hid hno'
  clear hno hno' h hf
  go_enter Try.func8, Try.ntmps8
  cases f
  rotate_left
  cases d
  · exact absurd HN.out (by simp)
  all_goals
    go_wp2_with (first
      | (go_at_call 22; refine (awake13 _).mono ?_; rintro e w1 ⟨rfl, hb1⟩; obtain ⟨hc1, hf1⟩ := bcell hb1; have hs1 := hb1.size; (try simp at hs1); have l1 : w.heap.size < w1.heap.size := (by omega); have l2 : w.heap.size + 1 < w1.heap.size := (by omega); have B1 : Below w.heap.size w w1 := Below.trans (by repeat (first | with_reducible exact Below.refl _ _ | with_reducible assumption | with_reducible refine Below.drew ?_ | with_reducible refine below_drews ?_ _ | with_reducible refine Below.alloc ?_ (by first | omega | (simp; done) | (simp; omega)) _ | with_reducible refine Below.setCell ?_ (by first | omega | (simp; done) | (simp; omega)) _)) (hb1.mono (by (try simp) <;> omega)))
      | (go_at_call 23; refine (hF _).mono ?_; rintro e w1 ⟨rfl, hb1⟩; obtain ⟨hc1, hf1⟩ := bcell hb1; have hs1 := hb1.size; (try simp at hs1); have l1 : w.heap.size < w1.heap.size := (by omega); have l2 : w.heap.size + 1 < w1.heap.size := (by omega); have B1 : Below w.heap.size w w1 := Below.trans (by repeat (first | with_reducible exact Below.refl _ _ | with_reducible assumption | with_reducible refine Below.drew ?_ | with_reducible refine below_drews ?_ _ | with_reducible refine Below.alloc ?_ (by first | omega | (simp; done) | (simp; omega)) _ | with_reducible refine Below.setCell ?_ (by first | omega | (simp; done) | (simp; omega)) _)) (hb1.mono (by (try simp) <;> omega))))
    go_ret
    exact ⟨rfl, (by repeat (first | with_reducible exact Below.refl _ _ | with_reducible assumption | with_reducible refine Below.drew ?_ | with_reducible refine below_drews ?_ _ | with_reducible refine Below.alloc ?_ (by first | omega | (simp; done) | (simp; omega)) _ | with_reducible refine Below.setCell ?_ (by first | omega | (simp; done) | (simp; omega)) _))⟩
set_option maxRecDepth 100000 in
set_option maxHeartbeats 4000000 in
theorem lawFormedErr (m : MapV) (s : MapS) (seed balls : Int) (A : Option Addr) (n c : Nat) (w : World) (h : MapAt w w.heap.size m s) (hf : s.n ≤ 400 ∧ s.n2 ≤ 400) (hn : n ≤ 100) (hno : newOk m balls = false) :
    Calls Try.prog 8 #[(.agg #[.int .i64 m.W, .int .i64 m.H, .slice s.A s.n s.c, .slice s.A2 s.n2 s.c2]), .agg #[.int .u64 seed, .int .i64 balls], .slice A n c] w fun r w' => r = .returned (.bool true) ∧ Below w.heap.size w w' := by
  have hF := fun W => few13 m s W
  have hd : decide ((100 : Int) < (n : Int)) = false := decide_eq_false (by omega)
  simp only [decide_eq_true hf] at hF
  have hNew := fun W (hW : Below w.heap.size w W) => wNewNo m s seed balls W ((h.below hW).upto hW.size) hno
  have HNEW := Lib.hid hNew
  clear h hf hn hno hNew
  go_enter Try.func8, Try.ntmps8
  go_wp2_with (first
    | (go_at_call 22; refine (awake13 _).mono ?_; rintro e w1 ⟨rfl, hb1⟩; obtain ⟨hc1, hf1⟩ := bcell hb1; have hs1 := hb1.size; (try simp at hs1); have l1 : w.heap.size < w1.heap.size := (by omega); have l2 : w.heap.size + 1 < w1.heap.size := (by omega); have B1 : Below w.heap.size w w1 := Below.trans (by repeat (first | with_reducible exact Below.refl _ _ | with_reducible assumption | with_reducible refine Below.drew ?_ | with_reducible refine below_drews ?_ _ | with_reducible refine Below.alloc ?_ (by first | omega | (simp; done) | (simp; omega)) _ | with_reducible refine Below.setCell ?_ (by first | omega | (simp; done) | (simp; omega)) _)) (hb1.mono (by (try simp) <;> omega)))
    | (go_at_call 23; refine (hF _).mono ?_; rintro e w1 ⟨rfl, hb1⟩; obtain ⟨hc1, hf1⟩ := bcell hb1; have hs1 := hb1.size; (try simp at hs1); have l1 : w.heap.size < w1.heap.size := (by omega); have l2 : w.heap.size + 1 < w1.heap.size := (by omega); have B1 : Below w.heap.size w w1 := Below.trans (by repeat (first | with_reducible exact Below.refl _ _ | with_reducible assumption | with_reducible refine Below.drew ?_ | with_reducible refine below_drews ?_ _ | with_reducible refine Below.alloc ?_ (by first | omega | (simp; done) | (simp; omega)) _ | with_reducible refine Below.setCell ?_ (by first | omega | (simp; done) | (simp; omega)) _)) (hb1.mono (by (try simp) <;> omega)))
    | (go_at_call 24; refine (HNEW.out _ (by first | assumption | exact B1)).mono ?_; rintro r w2 ⟨⟨v, s2, rfl⟩, hb2⟩; have B2 : Below w.heap.size w w2 := B1.trans (hb2.mono B1.size); have hs2 := B2.size))
  go_ret
  exact ⟨rfl, (by repeat (first | with_reducible exact Below.refl _ _ | with_reducible assumption | with_reducible refine Below.drew ?_ | with_reducible refine below_drews ?_ _ | with_reducible refine Below.alloc ?_ (by first | omega | (simp; done) | (simp; omega)) _ | with_reducible refine Below.setCell ?_ (by first | omega | (simp; done) | (simp; omega)) _))⟩
set_option maxRecDepth 100000 in
set_option maxHeartbeats 16000000 in
theorem lawFormedYes (m : MapV) (s0 : MapS) (seed : Int) (balls : Nat) (l : List OpV) (A : Option Addr) (n c : Nat) (w : World) (h : MapAt w w.heap.size m s0) (hl : Reads w w.heap.size 9 A n (opsV l)) (hlo : ∀ o ∈ l, OpFine o) (hf : s0.n ≤ 400 ∧ s0.n2 ≤ 400) (hn : n ≤ 100) (hfm : formedB m = true) (hb : balls ≤ 8) :
    Calls Try.prog 8 #[(.agg #[.int .i64 m.W, .int .i64 m.H, .slice s0.A s0.n s0.c, .slice s0.A2 s0.n2 s0.c2]), .agg #[.int .u64 seed, .int .i64 balls], .slice A n c] w fun r w' => r = .returned (.bool true) ∧ Below w.heap.size w w' := by
  have hF := fun W => few13 m s0 W
  have hd : decide ((100 : Int) < (n : Int)) = false := decide_eq_false (by omega)
  simp only [decide_eq_true hf] at hF
  have hNew := fun W (hW : Below w.heap.size w W) => wNewYes m s0 seed balls W ((h.below hW).upto hW.size) hfm hb (by omega) (by omega)
  have hsp : 1 ≤ m.spawns.length ∧ m.spawns.length ≤ 100000 := by
    have h1 := h.len.2
    have h2 := hfm
    unfold formedB sizeOk at h2
    simp only [Bool.and_eq_true, decide_eq_true_eq] at h2
    omega
  have HNEW := Lib.hid hNew
  have HSP := Lib.hid hsp
  have HL := Lib.hid hl
  have HLO := Lib.hid hlo
  have hll : l.length = n := by have := hl.1; rw [opsV_length] at this; omega
  have HLL := Lib.hid hll
  have HFM := Lib.hid hfm
  clear h hf hNew hsp hl hlo hll hfm
  go_enter Try.func8, Try.ntmps8
  go_wp2_with (first
    | (go_at_call 22; refine (awake13 _).mono ?_; rintro e w1 ⟨rfl, hb1⟩; obtain ⟨hc1, hf1⟩ := bcell hb1; have hs1 := hb1.size; (try simp at hs1); have l1 : w.heap.size < w1.heap.size := (by omega); have l2 : w.heap.size + 1 < w1.heap.size := (by omega); have B1 : Below w.heap.size w w1 := Below.trans (by repeat (first | with_reducible exact Below.refl _ _ | with_reducible assumption | with_reducible refine Below.drew ?_ | with_reducible refine below_drews ?_ _ | with_reducible refine Below.alloc ?_ (by first | omega | (simp; done) | (simp; omega)) _ | with_reducible refine Below.setCell ?_ (by first | omega | (simp; done) | (simp; omega)) _)) (hb1.mono (by (try simp) <;> omega)))
    | (go_at_call 23; refine (hF _).mono ?_; rintro e w1 ⟨rfl, hb1⟩; obtain ⟨hc1, hf1⟩ := bcell hb1; have hs1 := hb1.size; (try simp at hs1); have l1 : w.heap.size < w1.heap.size := (by omega); have l2 : w.heap.size + 1 < w1.heap.size := (by omega); have B1 : Below w.heap.size w w1 := Below.trans (by repeat (first | with_reducible exact Below.refl _ _ | with_reducible assumption | with_reducible refine Below.drew ?_ | with_reducible refine below_drews ?_ _ | with_reducible refine Below.alloc ?_ (by first | omega | (simp; done) | (simp; omega)) _ | with_reducible refine Below.setCell ?_ (by first | omega | (simp; done) | (simp; omega)) _)) (hb1.mono (by (try simp) <;> omega)))
    | (go_at_call 24; refine (HNEW.out _ (by first | assumption | exact B1)).mono ?_; rintro r w2 ⟨s2, rfl, hat, hb2⟩; have B2 : Below w.heap.size w w2 := B1.trans (hb2.mono B1.size); have hs2 := B2.size))
  have cl : Clear w2.heap.size (w2.alloc (.cells #[.int .i64 (newF m seed balls).map.W, .int .i64 (newF m seed balls).map.H, .slice s2.ms.A s2.ms.n s2.ms.c, .slice s2.ms.A2 s2.ms.n2 s2.ms.c2, .int .u64 (newF m seed balls).st, .int .i64 (newF m seed balls).tick, .slice s2.A s2.n s2.c] 58)) (newF m seed balls) s2 := (Clear.new hat).below ((Below.refl w2.heap.size w2).alloc (Nat.le_refl _) _) (Nat.le_refl _) (Nat.le_refl _)
  have bk : Blk (w2.alloc (.cells #[.int .i64 (newF m seed balls).map.W, .int .i64 (newF m seed balls).map.H, .slice s2.ms.A s2.ms.n s2.ms.c, .slice s2.ms.A2 s2.ms.n2 s2.ms.c2, .int .u64 (newF m seed balls).st, .int .i64 (newF m seed balls).tick, .slice s2.A s2.n s2.c] 58)) w2.heap.size 58 #[.int .i64 (newF m seed balls).map.W, .int .i64 (newF m seed balls).map.H, .slice s2.ms.A s2.ms.n s2.ms.c, .slice s2.ms.A2 s2.ms.n2 s2.ms.c2, .int .u64 (newF m seed balls).st, .int .i64 (newF m seed balls).tick, .slice s2.A s2.n s2.c] := Blk.new _ _ _
  have B3 : Below w.heap.size w (w2.alloc (.cells #[.int .i64 (newF m seed balls).map.W, .int .i64 (newF m seed balls).map.H, .slice s2.ms.A s2.ms.n s2.ms.c, .slice s2.ms.A2 s2.ms.n2 s2.ms.c2, .int .u64 (newF m seed balls).st, .int .i64 (newF m seed balls).tick, .slice s2.A s2.n s2.c] 58)) := B2.alloc hs2 _
  have hv0 : (newF m seed balls).l.length ≤ 8 := by have := ballsF_len m balls seed; show (ballsF m balls seed).2.length ≤ 8; omega
  have hv1 : ∀ e ∈ (newF m seed balls).l, okE e := ballsF_ok m balls seed
  have hvm : (newF m seed balls).map = m := rfl
  have hvf : FineW (newF m seed balls) := fine_newF HFM.out balls hb seed
  generalize newF m seed balls = v0 at cl bk B3 hv0 hv1 hvm hvf ⊢
  generalize (w2.alloc (.cells #[.int .i64 v0.map.W, .int .i64 v0.map.H, .slice s2.ms.A s2.ms.n s2.ms.c, .slice s2.ms.A2 s2.ms.n2 s2.ms.c2, .int .u64 v0.st, .int .i64 v0.tick, .slice s2.A s2.n s2.c] 58)) = W3 at cl bk B3 ⊢
  have hbw : w.heap.size ≤ w2.heap.size := hs2
  generalize w2.heap.size = b7 at cl bk hbw ⊢
  have HCL := Lib.hid cl
  have HBK := Lib.hid bk
  have HB3 := Lib.hid B3
  have HV0 := Lib.hid hv0
  have HV1 := Lib.hid hv1
  have HVM := Lib.hid hvm
  have HVF := Lib.hid hvf
  clear cl bk B3 hv0 hv1 hvm hvf hat hb2 B2 hs2 B1 hb1 hc1 hf1 hs1 l1 l2 hF HNEW
  (try clear hb1)
  (try clear hc1)
  (try clear hf1)
  (try clear hs1)
  (try clear B1)
  (try clear l1)
  (try clear l2)
  go_loopw [9] (fun i wr => ∃ (k : Nat) (v : WorldV) (s : WorldS), k ≤ n ∧ i = .int .i64 (k : Nat) ∧ Blk wr b7 58 #[.int .i64 v.map.W, .int .i64 v.map.H, .slice s.ms.A s.ms.n s.ms.c, .slice s.ms.A2 s.ms.n2 s.ms.c2, .int .u64 v.st, .int .i64 v.tick, .slice s.A s.n s.c] ∧ Clear b7 wr v s ∧ v.l.length ≤ 8 + k ∧ (∀ e ∈ v.l, okE e) ∧ v.map = m ∧ FineW v ∧ Below w.heap.size w wr) (fun i _ => n - (intOf i).toNat)
  case atStart => exact ⟨0, v0, s2, Nat.zero_le _, rfl, HBK.out, HCL.out, HV0.out, HV1.out, HVM.out, HVF.out, HB3.out⟩
  case round =>
    obtain ⟨k, v, s, hk, rfl, hbk, hcl, hvl, hvo, hvm, hvf, hbr⟩ := hrel
    have hbl := hbk.lt
    by_cases hlt : k < n
    · have hlen := (hcl.at_ (Nat.le_of_lt hbl)).len
      have hn2 : 1 ≤ s.ms.n2 ∧ s.ms.n2 ≤ 100000 := by have := (hcl.at_ (Nat.le_of_lt hbl)).map.len.2; rw [hvm] at this; have := HSP.out; omega
      have hsn : s.n ≤ 999 := by omega
      have HLEN := Lib.hid hlen
      have HVFR := Lib.hid hvf
      clear hlen hvf
      have hlk : l.length = n := HLL.out
      obtain ⟨o, ho⟩ : ∃ o, l[k]? = some o := ⟨_, List.getElem?_eq_getElem (by omega)⟩
      have hok0 : OpOk o := (HLO.out o (List.mem_of_getElem? ho)).1
      have HOF := Lib.hid (HLO.out o (List.mem_of_getElem? ho))
      have hgood : Good v s := ⟨by have := hcl.at_ (Nat.le_of_lt hbk.lt) |>.len; omega, hn2.1, hn2.2, hvo⟩
      obtain ⟨gs, os, rfl, hgs, hcs⟩ := HL.out.flat (by omega) (by decide)
      have hsz : w.heap.size ≤ wr.heap.size := hbr.size
      have p0 : wr.drew.cell? ⟨b7, 0, none⟩ = some (.int .i64 v.map.W) := hbk.cell 0
      have p1 : wr.drew.cell? ⟨b7, 1, none⟩ = some (.int .i64 v.map.H) := hbk.cell 1
      have p2 : wr.drew.cell? ⟨b7, 2, none⟩ = some (.slice s.ms.A s.ms.n s.ms.c) := hbk.cell 2
      have p3 : wr.drew.cell? ⟨b7, 3, none⟩ = some (.slice s.ms.A2 s.ms.n2 s.ms.c2) := hbk.cell 3
      have p4 : wr.drew.cell? ⟨b7, 4, none⟩ = some (.int .u64 v.st) := hbk.cell 4
      have p5 : wr.drew.cell? ⟨b7, 5, none⟩ = some (.int .i64 v.tick) := hbk.cell 5
      have p6 : wr.drew.cell? ⟨b7, 6, none⟩ = some (.slice s.A s.n s.c) := hbk.cell 6
      have q0 : wr.drew.cell? ⟨gs, os + k * 9, none⟩ = some (.int .i64 o.kind) := by exact (hbr.cell (p := ⟨gs, os + (k * 9 + 0), none⟩) (by show gs < _; omega)).trans (hcs _ _ ((opsV_at ho 0 (by decide)).trans rfl))
      have q1 : wr.drew.cell? ⟨gs, os + k * 9 + 1, none⟩ = some (.int .i64 o.id) := by rw [Nat.add_assoc]; exact (hbr.cell (p := ⟨gs, os + (k * 9 + 1), none⟩) (by show gs < _; omega)).trans (hcs _ _ ((opsV_at ho 1 (by decide)).trans rfl))
      have q2 : wr.drew.cell? ⟨gs, os + k * 9 + 2, none⟩ = some (.int .i64 o.by_) := by rw [Nat.add_assoc]; exact (hbr.cell (p := ⟨gs, os + (k * 9 + 2), none⟩) (by show gs < _; omega)).trans (hcs _ _ ((opsV_at ho 2 (by decide)).trans rfl))
      have q3 : wr.drew.cell? ⟨gs, os + k * 9 + 3, none⟩ = some (.int .u32 o.c.num) := by rw [Nat.add_assoc]; exact (hbr.cell (p := ⟨gs, os + (k * 9 + 3), none⟩) (by show gs < _; omega)).trans (hcs _ _ ((opsV_at ho 3 (by decide)).trans rfl))
      have q4 : wr.drew.cell? ⟨gs, os + k * 9 + 4, none⟩ = some (.int .i8 o.c.mx) := by rw [Nat.add_assoc]; exact (hbr.cell (p := ⟨gs, os + (k * 9 + 4), none⟩) (by show gs < _; omega)).trans (hcs _ _ ((opsV_at ho 4 (by decide)).trans rfl))
      have q5 : wr.drew.cell? ⟨gs, os + k * 9 + 5, none⟩ = some (.int .i8 o.c.my) := by rw [Nat.add_assoc]; exact (hbr.cell (p := ⟨gs, os + (k * 9 + 5), none⟩) (by show gs < _; omega)).trans (hcs _ _ ((opsV_at ho 5 (by decide)).trans rfl))
      have q6 : wr.drew.cell? ⟨gs, os + k * 9 + 6, none⟩ = some (.bool o.c.fire) := by rw [Nat.add_assoc]; exact (hbr.cell (p := ⟨gs, os + (k * 9 + 6), none⟩) (by show gs < _; omega)).trans (hcs _ _ ((opsV_at ho 6 (by decide)).trans rfl))
      have q7 : wr.drew.cell? ⟨gs, os + k * 9 + 7, none⟩ = some (.int .u32 o.c.view) := by rw [Nat.add_assoc]; exact (hbr.cell (p := ⟨gs, os + (k * 9 + 7), none⟩) (by show gs < _; omega)).trans (hcs _ _ ((opsV_at ho 7 (by decide)).trans rfl))
      have q8 : wr.drew.cell? ⟨gs, os + k * 9 + 8, none⟩ = some (.int .u8 o.c.frac) := by rw [Nat.add_assoc]; exact (hbr.cell (p := ⟨gs, os + (k * 9 + 8), none⟩) (by show gs < _; omega)).trans (hcs _ _ ((opsV_at ho 8 (by decide)).trans rfl))
      have m1 : b7 < wr.heap.size := hbk.lt
      have m2 : gs < wr.heap.size := by omega
      have mne1 : b7 ≠ wr.heap.size := by omega
      have mne2 : gs ≠ wr.heap.size := by omega
      have hA := fun W (hW : Below wr.heap.size wr W) => wAct v s o W ((hcl.at_ (Nat.le_of_lt m1)).below hW |>.upto hW.size) hgood hok0
      have hidx : (0 : Int) ≤ (k : Int) := by omega
      have hidx2 : (k : Int) < (n : Int) := by omega
      have HCL0 := Lib.hid hcl
      have HBK0 := Lib.hid hbk
      have HBQW := Lib.hid hbr
      have HVOR := Lib.hid hvo
      have HVLR := Lib.hid hvl
      have HVMR := Lib.hid hvm
      obtain ⟨⟨X5, E5⟩, hX5⟩ : ∃ x, actV v o = x := ⟨_, rfl⟩
      have HFX := Lib.hid (show FineW X5 by have := fine_act HVFR.out o ⟨HOF.out.2.1, HOF.out.1.2.1, HOF.out.2.2, HOF.out.1.2.2⟩; rw [hX5] at this; exact this)
      have HX5 := Lib.hid hX5
      have HMX := Lib.hid (show X5.map = v.map by have := actV_map v o; rw [hX5] at this; exact this)
      have HLX := Lib.hid (show X5.l.length ≤ v.l.length + 1 by have := actV_len v o; rw [hX5] at this; exact this)
      have HOX := Lib.hid (show ∀ e ∈ X5.l, okE e by have := actV_ok v o hvo; rw [hX5] at this; exact this)
      rw [hX5] at hA
      have HA6 := Lib.hid hA
      clear hA hcs ho hok0 hgood hX5 hcl hbk hbr hvo hvl hvm hn2
      have Ap0 : ∀ ob, (wr.alloc ob).drew.cell? ⟨b7, 0, none⟩ = some (.int .i64 v.map.W) := fun ob => (World.cell?_alloc_lt wr ob ⟨b7, 0, none⟩ m1).trans p0
      have Ap1 : ∀ ob, (wr.alloc ob).drew.cell? ⟨b7, 1, none⟩ = some (.int .i64 v.map.H) := fun ob => (World.cell?_alloc_lt wr ob ⟨b7, 1, none⟩ m1).trans p1
      have Ap2 : ∀ ob, (wr.alloc ob).drew.cell? ⟨b7, 2, none⟩ = some (.slice s.ms.A s.ms.n s.ms.c) := fun ob => (World.cell?_alloc_lt wr ob ⟨b7, 2, none⟩ m1).trans p2
      have Ap3 : ∀ ob, (wr.alloc ob).drew.cell? ⟨b7, 3, none⟩ = some (.slice s.ms.A2 s.ms.n2 s.ms.c2) := fun ob => (World.cell?_alloc_lt wr ob ⟨b7, 3, none⟩ m1).trans p3
      have Ap4 : ∀ ob, (wr.alloc ob).drew.cell? ⟨b7, 4, none⟩ = some (.int .u64 v.st) := fun ob => (World.cell?_alloc_lt wr ob ⟨b7, 4, none⟩ m1).trans p4
      have Ap5 : ∀ ob, (wr.alloc ob).drew.cell? ⟨b7, 5, none⟩ = some (.int .i64 v.tick) := fun ob => (World.cell?_alloc_lt wr ob ⟨b7, 5, none⟩ m1).trans p5
      have Ap6 : ∀ ob, (wr.alloc ob).drew.cell? ⟨b7, 6, none⟩ = some (.slice s.A s.n s.c) := fun ob => (World.cell?_alloc_lt wr ob ⟨b7, 6, none⟩ m1).trans p6
      have Aq0 : ∀ ob, (wr.alloc ob).drew.cell? ⟨gs, os + k * 9, none⟩ = some (.int .i64 o.kind) := fun ob => (World.cell?_alloc_lt wr ob ⟨gs, os + k * 9, none⟩ m2).trans q0
      have Aq1 : ∀ ob, (wr.alloc ob).drew.cell? ⟨gs, os + k * 9 + 1, none⟩ = some (.int .i64 o.id) := fun ob => (World.cell?_alloc_lt wr ob ⟨gs, os + k * 9 + 1, none⟩ m2).trans q1
      have Aq2 : ∀ ob, (wr.alloc ob).drew.cell? ⟨gs, os + k * 9 + 2, none⟩ = some (.int .i64 o.by_) := fun ob => (World.cell?_alloc_lt wr ob ⟨gs, os + k * 9 + 2, none⟩ m2).trans q2
      have Aq3 : ∀ ob, (wr.alloc ob).drew.cell? ⟨gs, os + k * 9 + 3, none⟩ = some (.int .u32 o.c.num) := fun ob => (World.cell?_alloc_lt wr ob ⟨gs, os + k * 9 + 3, none⟩ m2).trans q3
      have Aq4 : ∀ ob, (wr.alloc ob).drew.cell? ⟨gs, os + k * 9 + 4, none⟩ = some (.int .i8 o.c.mx) := fun ob => (World.cell?_alloc_lt wr ob ⟨gs, os + k * 9 + 4, none⟩ m2).trans q4
      have Aq5 : ∀ ob, (wr.alloc ob).drew.cell? ⟨gs, os + k * 9 + 5, none⟩ = some (.int .i8 o.c.my) := fun ob => (World.cell?_alloc_lt wr ob ⟨gs, os + k * 9 + 5, none⟩ m2).trans q5
      have Aq6 : ∀ ob, (wr.alloc ob).drew.cell? ⟨gs, os + k * 9 + 6, none⟩ = some (.bool o.c.fire) := fun ob => (World.cell?_alloc_lt wr ob ⟨gs, os + k * 9 + 6, none⟩ m2).trans q6
      have Aq7 : ∀ ob, (wr.alloc ob).drew.cell? ⟨gs, os + k * 9 + 7, none⟩ = some (.int .u32 o.c.view) := fun ob => (World.cell?_alloc_lt wr ob ⟨gs, os + k * 9 + 7, none⟩ m2).trans q7
      have Aq8 : ∀ ob, (wr.alloc ob).drew.cell? ⟨gs, os + k * 9 + 8, none⟩ = some (.int .u8 o.c.frac) := fun ob => (World.cell?_alloc_lt wr ob ⟨gs, os + k * 9 + 8, none⟩ m2).trans q8
      go_upto_region 9 with (fail)
      go_cut [10] (fun s15 wx => ∃ (g : Nat) (s5 : WorldS), s15 = .pointer (some ⟨g, 0, none⟩) ∧ Blk wx g 58 #[.int .i64 X5.map.W, .int .i64 X5.map.H, .slice s.ms.A s.ms.n s.ms.c, .slice s.ms.A2 s.ms.n2 s.ms.c2, .int .u64 X5.st, .int .i64 X5.tick, .slice s5.A s5.n s5.c] ∧ s5.ms = s.ms ∧ Clear b7 wx X5 s5 ∧ Below wr.heap.size wr wx ∧ g ≠ b7)
      case first =>
        go_region_held3 (fun w' => w'.cell? ⟨b7, 0, none⟩ = some (.int .i64 v.map.W) ∧ w'.cell? ⟨b7, 1, none⟩ = some (.int .i64 v.map.H) ∧ w'.cell? ⟨b7, 2, none⟩ = some (.slice s.ms.A s.ms.n s.ms.c) ∧ w'.cell? ⟨b7, 3, none⟩ = some (.slice s.ms.A2 s.ms.n2 s.ms.c2) ∧ w'.cell? ⟨b7, 4, none⟩ = some (.int .u64 v.st) ∧ w'.cell? ⟨b7, 5, none⟩ = some (.int .i64 v.tick) ∧ w'.cell? ⟨b7, 6, none⟩ = some (.slice s.A s.n s.c) ∧ w'.cell? ⟨gs, os + k * 9, none⟩ = some (.int .i64 o.kind) ∧ w'.cell? ⟨gs, os + k * 9 + 1, none⟩ = some (.int .i64 o.id) ∧ w'.cell? ⟨gs, os + k * 9 + 2, none⟩ = some (.int .i64 o.by_) ∧ w'.cell? ⟨gs, os + k * 9 + 3, none⟩ = some (.int .u32 o.c.num) ∧ w'.cell? ⟨gs, os + k * 9 + 4, none⟩ = some (.int .i8 o.c.mx) ∧ w'.cell? ⟨gs, os + k * 9 + 5, none⟩ = some (.int .i8 o.c.my) ∧ w'.cell? ⟨gs, os + k * 9 + 6, none⟩ = some (.bool o.c.fire) ∧ w'.cell? ⟨gs, os + k * 9 + 7, none⟩ = some (.int .u32 o.c.view) ∧ w'.cell? ⟨gs, os + k * 9 + 8, none⟩ = some (.int .u8 o.c.frac)) (first | (with_reducible exact ⟨p0, p1, p2, p3, p4, p5, p6, q0, q1, q2, q3, q4, q5, q6, q7, q8⟩) | (with_reducible exact ⟨Ap0 _, Ap1 _, Ap2 _, Ap3 _, Ap4 _, Ap5 _, Ap6 _, Aq0 _, Aq1 _, Aq2 _, Aq3 _, Aq4 _, Aq5 _, Aq6 _, Aq7 _, Aq8 _⟩) | (with_reducible exact ⟨Dp0, Dp1, Dp2, Dp3, Dp4, Dp5, Dp6, Dq0, Dq1, Dq2, Dq3, Dq4, Dq5, Dq6, Dq7, Dq8⟩) | (with_reducible exact ⟨Ep0 _, Ep1 _, Ep2 _, Ep3 _, Ep4 _, Ep5 _, Ep6 _, Eq0 _, Eq1 _, Eq2 _, Eq3 _, Eq4 _, Eq5 _, Eq6 _, Eq7 _, Eq8 _⟩) | (with_reducible exact ⟨(cell_far7 mne1 _ _ _ _ _ _ _).trans Dp0, (cell_far7 mne1 _ _ _ _ _ _ _).trans Dp1, (cell_far7 mne1 _ _ _ _ _ _ _).trans Dp2, (cell_far7 mne1 _ _ _ _ _ _ _).trans Dp3, (cell_far7 mne1 _ _ _ _ _ _ _).trans Dp4, (cell_far7 mne1 _ _ _ _ _ _ _).trans Dp5, (cell_far7 mne1 _ _ _ _ _ _ _).trans Dp6, (cell_far7 mne2 _ _ _ _ _ _ _).trans Dq0, (cell_far7 mne2 _ _ _ _ _ _ _).trans Dq1, (cell_far7 mne2 _ _ _ _ _ _ _).trans Dq2, (cell_far7 mne2 _ _ _ _ _ _ _).trans Dq3, (cell_far7 mne2 _ _ _ _ _ _ _).trans Dq4, (cell_far7 mne2 _ _ _ _ _ _ _).trans Dq5, (cell_far7 mne2 _ _ _ _ _ _ _).trans Dq6, (cell_far7 mne2 _ _ _ _ _ _ _).trans Dq7, (cell_far7 mne2 _ _ _ _ _ _ _).trans Dq8⟩) | go_keep) (first | (go_at_call 25; refine (HA6.out _ (by repeat (first | with_reducible exact Below.refl _ _ | with_reducible assumption | with_reducible refine Below.drew ?_ | with_reducible refine below_drews ?_ _ | with_reducible refine Below.alloc ?_ (by first | omega | (simp; done) | (simp; omega)) _ | with_reducible refine Below.setCell ?_ (by first | omega | (simp; done) | (simp; omega)) _))).mono ?_; rintro r w5 ⟨s5, rfl, hat5, hms5, hk5, hb5⟩; have hB5 : Below wr.heap.size wr w5 := Below.trans (by repeat (first | with_reducible exact Below.refl _ _ | with_reducible assumption | with_reducible refine Below.drew ?_ | with_reducible refine below_drews ?_ _ | with_reducible refine Below.alloc ?_ (by first | omega | (simp; done) | (simp; omega)) _ | with_reducible refine Below.setCell ?_ (by first | omega | (simp; done) | (simp; omega)) _)) (hb5.mono (by simp)); have hs5 := hB5.size; have Dp0 := (hB5.cell (p := ⟨b7, 0, none⟩) m1).trans p0; have Dp1 := (hB5.cell (p := ⟨b7, 1, none⟩) m1).trans p1; have Dp2 := (hB5.cell (p := ⟨b7, 2, none⟩) m1).trans p2; have Dp3 := (hB5.cell (p := ⟨b7, 3, none⟩) m1).trans p3; have Dp4 := (hB5.cell (p := ⟨b7, 4, none⟩) m1).trans p4; have Dp5 := (hB5.cell (p := ⟨b7, 5, none⟩) m1).trans p5; have Dp6 := (hB5.cell (p := ⟨b7, 6, none⟩) m1).trans p6; have Dq0 := (hB5.cell (p := ⟨gs, os + k * 9, none⟩) m2).trans q0; have Dq1 := (hB5.cell (p := ⟨gs, os + k * 9 + 1, none⟩) m2).trans q1; have Dq2 := (hB5.cell (p := ⟨gs, os + k * 9 + 2, none⟩) m2).trans q2; have Dq3 := (hB5.cell (p := ⟨gs, os + k * 9 + 3, none⟩) m2).trans q3; have Dq4 := (hB5.cell (p := ⟨gs, os + k * 9 + 4, none⟩) m2).trans q4; have Dq5 := (hB5.cell (p := ⟨gs, os + k * 9 + 5, none⟩) m2).trans q5; have Dq6 := (hB5.cell (p := ⟨gs, os + k * 9 + 6, none⟩) m2).trans q6; have Dq7 := (hB5.cell (p := ⟨gs, os + k * 9 + 7, none⟩) m2).trans q7; have Dq8 := (hB5.cell (p := ⟨gs, os + k * 9 + 8, none⟩) m2).trans q8; have Ep0 : ∀ ob, (w5.alloc ob).cell? ⟨b7, 0, none⟩ = some (.int .i64 v.map.W) := fun ob => (World.cell?_alloc_lt w5 ob ⟨b7, 0, none⟩ (Nat.lt_of_lt_of_le m1 hs5)).trans Dp0; have Ep1 : ∀ ob, (w5.alloc ob).cell? ⟨b7, 1, none⟩ = some (.int .i64 v.map.H) := fun ob => (World.cell?_alloc_lt w5 ob ⟨b7, 1, none⟩ (Nat.lt_of_lt_of_le m1 hs5)).trans Dp1; have Ep2 : ∀ ob, (w5.alloc ob).cell? ⟨b7, 2, none⟩ = some (.slice s.ms.A s.ms.n s.ms.c) := fun ob => (World.cell?_alloc_lt w5 ob ⟨b7, 2, none⟩ (Nat.lt_of_lt_of_le m1 hs5)).trans Dp2; have Ep3 : ∀ ob, (w5.alloc ob).cell? ⟨b7, 3, none⟩ = some (.slice s.ms.A2 s.ms.n2 s.ms.c2) := fun ob => (World.cell?_alloc_lt w5 ob ⟨b7, 3, none⟩ (Nat.lt_of_lt_of_le m1 hs5)).trans Dp3; have Ep4 : ∀ ob, (w5.alloc ob).cell? ⟨b7, 4, none⟩ = some (.int .u64 v.st) := fun ob => (World.cell?_alloc_lt w5 ob ⟨b7, 4, none⟩ (Nat.lt_of_lt_of_le m1 hs5)).trans Dp4; have Ep5 : ∀ ob, (w5.alloc ob).cell? ⟨b7, 5, none⟩ = some (.int .i64 v.tick) := fun ob => (World.cell?_alloc_lt w5 ob ⟨b7, 5, none⟩ (Nat.lt_of_lt_of_le m1 hs5)).trans Dp5; have Ep6 : ∀ ob, (w5.alloc ob).cell? ⟨b7, 6, none⟩ = some (.slice s.A s.n s.c) := fun ob => (World.cell?_alloc_lt w5 ob ⟨b7, 6, none⟩ (Nat.lt_of_lt_of_le m1 hs5)).trans Dp6; have Eq0 : ∀ ob, (w5.alloc ob).cell? ⟨gs, os + k * 9, none⟩ = some (.int .i64 o.kind) := fun ob => (World.cell?_alloc_lt w5 ob ⟨gs, os + k * 9, none⟩ (Nat.lt_of_lt_of_le m2 hs5)).trans Dq0; have Eq1 : ∀ ob, (w5.alloc ob).cell? ⟨gs, os + k * 9 + 1, none⟩ = some (.int .i64 o.id) := fun ob => (World.cell?_alloc_lt w5 ob ⟨gs, os + k * 9 + 1, none⟩ (Nat.lt_of_lt_of_le m2 hs5)).trans Dq1; have Eq2 : ∀ ob, (w5.alloc ob).cell? ⟨gs, os + k * 9 + 2, none⟩ = some (.int .i64 o.by_) := fun ob => (World.cell?_alloc_lt w5 ob ⟨gs, os + k * 9 + 2, none⟩ (Nat.lt_of_lt_of_le m2 hs5)).trans Dq2; have Eq3 : ∀ ob, (w5.alloc ob).cell? ⟨gs, os + k * 9 + 3, none⟩ = some (.int .u32 o.c.num) := fun ob => (World.cell?_alloc_lt w5 ob ⟨gs, os + k * 9 + 3, none⟩ (Nat.lt_of_lt_of_le m2 hs5)).trans Dq3; have Eq4 : ∀ ob, (w5.alloc ob).cell? ⟨gs, os + k * 9 + 4, none⟩ = some (.int .i8 o.c.mx) := fun ob => (World.cell?_alloc_lt w5 ob ⟨gs, os + k * 9 + 4, none⟩ (Nat.lt_of_lt_of_le m2 hs5)).trans Dq4; have Eq5 : ∀ ob, (w5.alloc ob).cell? ⟨gs, os + k * 9 + 5, none⟩ = some (.int .i8 o.c.my) := fun ob => (World.cell?_alloc_lt w5 ob ⟨gs, os + k * 9 + 5, none⟩ (Nat.lt_of_lt_of_le m2 hs5)).trans Dq5; have Eq6 : ∀ ob, (w5.alloc ob).cell? ⟨gs, os + k * 9 + 6, none⟩ = some (.bool o.c.fire) := fun ob => (World.cell?_alloc_lt w5 ob ⟨gs, os + k * 9 + 6, none⟩ (Nat.lt_of_lt_of_le m2 hs5)).trans Dq6; have Eq7 : ∀ ob, (w5.alloc ob).cell? ⟨gs, os + k * 9 + 7, none⟩ = some (.int .u32 o.c.view) := fun ob => (World.cell?_alloc_lt w5 ob ⟨gs, os + k * 9 + 7, none⟩ (Nat.lt_of_lt_of_le m2 hs5)).trans Dq7; have Eq8 : ∀ ob, (w5.alloc ob).cell? ⟨gs, os + k * 9 + 8, none⟩ = some (.int .u8 o.c.frac) := fun ob => (World.cell?_alloc_lt w5 ob ⟨gs, os + k * 9 + 8, none⟩ (Nat.lt_of_lt_of_le m2 hs5)).trans Dq8; (try (have Z5 : Blk w5 wr.heap.size 58 #[.int .i64 0, .int .i64 0, .slice none 0 0, .slice none 0 0, .int .u64 0, .int .i64 0, .slice none 0 0] := (by with_reducible exact Blk.below (show Blk (wr.alloc (.cells #[.int .i64 0, .int .i64 0, .slice none 0 0, .slice none 0 0, .int .u64 0, .int .i64 0, .slice none 0 0] 58)).drew wr.heap.size 58 #[.int .i64 0, .int .i64 0, .slice none 0 0, .slice none 0 0, .int .u64 0, .int .i64 0, .slice none 0 0] from (Blk.new _ _ _).drew) hb5 (by simp)); have Y0 : w5.cell? ⟨wr.heap.size, 0, none⟩ = some (.int .i64 0) := Z5.cell 0; have FZ0 : w5.frozen? ⟨wr.heap.size, 0, none⟩ = false := Z5.frozen 0; have Y1 : w5.cell? ⟨wr.heap.size, 1, none⟩ = some (.int .i64 0) := Z5.cell 1; have FZ1 : w5.frozen? ⟨wr.heap.size, 1, none⟩ = false := Z5.frozen 1; have Y2 : w5.cell? ⟨wr.heap.size, 2, none⟩ = some (.slice none 0 0) := Z5.cell 2; have FZ2 : w5.frozen? ⟨wr.heap.size, 2, none⟩ = false := Z5.frozen 2; have Y3 : w5.cell? ⟨wr.heap.size, 3, none⟩ = some (.slice none 0 0) := Z5.cell 3; have FZ3 : w5.frozen? ⟨wr.heap.size, 3, none⟩ = false := Z5.frozen 3; have Y4 : w5.cell? ⟨wr.heap.size, 4, none⟩ = some (.int .u64 0) := Z5.cell 4; have FZ4 : w5.frozen? ⟨wr.heap.size, 4, none⟩ = false := Z5.frozen 4; have Y5 : w5.cell? ⟨wr.heap.size, 5, none⟩ = some (.int .i64 0) := Z5.cell 5; have FZ5 : w5.frozen? ⟨wr.heap.size, 5, none⟩ = false := Z5.frozen 5; have Y6 : w5.cell? ⟨wr.heap.size, 6, none⟩ = some (.slice none 0 0) := Z5.cell 6; have FZ6 : w5.frozen? ⟨wr.heap.size, 6, none⟩ = false := Z5.frozen 6))))
        all_goals (go_wp2_with fail; go_meet)
        · have e1 : Clear b7 (w5.alloc (.cells #[.int .i64 X5.map.W, .int .i64 X5.map.H, .slice s.ms.A s.ms.n s.ms.c, .slice s.ms.A2 s.ms.n2 s.ms.c2, .int .u64 X5.st, .int .i64 X5.tick, .slice s5.A s5.n s5.c] 58)) X5 s5 := Clear.heldFar (g := w5.heap.size) HCL0.out (by repeat (first | with_reducible exact Below.refl _ _ | with_reducible assumption | with_reducible refine Below.drew ?_ | with_reducible refine below_drews ?_ _ | with_reducible refine Below.alloc ?_ (by first | omega | (simp; done) | (simp; omega)) _ | with_reducible refine Below.setCell ?_ (by first | omega | (simp; done) | (simp; omega)) _)) hat5 hms5 HMX.out hk5 hb5 m1 (fun j hj _ => Below.heap_alloc w5 (.cells #[.int .i64 X5.map.W, .int .i64 X5.map.H, .slice s.ms.A s.ms.n s.ms.c, .slice s.ms.A2 s.ms.n2 s.ms.c2, .int .u64 X5.st, .int .i64 X5.tick, .slice s5.A s5.n s5.c] 58) j hj) hs5 (.inr (Nat.le_refl _))
          exact ⟨w5.heap.size, s5, rfl, Blk.new _ _ _, hms5, e1, hB5.alloc hs5 _, by omega⟩
        · have e0 : Blk (((((((w5.setCell ⟨wr.heap.size, 0, none⟩ (.int .i64 X5.map.W)).setCell ⟨wr.heap.size, 1, none⟩ (.int .i64 X5.map.H)).setCell ⟨wr.heap.size, 2, none⟩ (.slice s.ms.A s.ms.n s.ms.c)).setCell ⟨wr.heap.size, 3, none⟩ (.slice s.ms.A2 s.ms.n2 s.ms.c2)).setCell ⟨wr.heap.size, 4, none⟩ (.int .u64 X5.st)).setCell ⟨wr.heap.size, 5, none⟩ (.int .i64 X5.tick)).setCell ⟨wr.heap.size, 6, none⟩ (.slice s5.A s5.n s5.c)) wr.heap.size 58 #[.int .i64 X5.map.W, .int .i64 X5.map.H, .slice s.ms.A s.ms.n s.ms.c, .slice s.ms.A2 s.ms.n2 s.ms.c2, .int .u64 X5.st, .int .i64 X5.tick, .slice s5.A s5.n s5.c] := (((((((Z5.set_ 0 _).set_ 1 _).set_ 2 _).set_ 3 _).set_ 4 _).set_ 5 _).set_ 6 _)
          have e2 : ∀ jj : Nat, jj ≠ wr.heap.size → (((((((w5.setCell ⟨wr.heap.size, 0, none⟩ (.int .i64 X5.map.W)).setCell ⟨wr.heap.size, 1, none⟩ (.int .i64 X5.map.H)).setCell ⟨wr.heap.size, 2, none⟩ (.slice s.ms.A s.ms.n s.ms.c)).setCell ⟨wr.heap.size, 3, none⟩ (.slice s.ms.A2 s.ms.n2 s.ms.c2)).setCell ⟨wr.heap.size, 4, none⟩ (.int .u64 X5.st)).setCell ⟨wr.heap.size, 5, none⟩ (.int .i64 X5.tick)).setCell ⟨wr.heap.size, 6, none⟩ (.slice s5.A s5.n s5.c)).heap[jj]? = w5.heap[jj]? := fun jj hjj => ((Below.heap_setCell _ _ _ jj hjj).trans ((Below.heap_setCell _ _ _ jj hjj).trans ((Below.heap_setCell _ _ _ jj hjj).trans ((Below.heap_setCell _ _ _ jj hjj).trans ((Below.heap_setCell _ _ _ jj hjj).trans ((Below.heap_setCell _ _ _ jj hjj).trans (Below.heap_setCell _ _ _ jj hjj)))))))
          have e1 : Clear b7 (((((((w5.setCell ⟨wr.heap.size, 0, none⟩ (.int .i64 X5.map.W)).setCell ⟨wr.heap.size, 1, none⟩ (.int .i64 X5.map.H)).setCell ⟨wr.heap.size, 2, none⟩ (.slice s.ms.A s.ms.n s.ms.c)).setCell ⟨wr.heap.size, 3, none⟩ (.slice s.ms.A2 s.ms.n2 s.ms.c2)).setCell ⟨wr.heap.size, 4, none⟩ (.int .u64 X5.st)).setCell ⟨wr.heap.size, 5, none⟩ (.int .i64 X5.tick)).setCell ⟨wr.heap.size, 6, none⟩ (.slice s5.A s5.n s5.c)) X5 s5 := Clear.heldFar (g := wr.heap.size) HCL0.out (by repeat (first | with_reducible exact Below.refl _ _ | with_reducible assumption | with_reducible refine Below.drew ?_ | with_reducible refine below_drews ?_ _ | with_reducible refine Below.alloc ?_ (by first | omega | (simp; done) | (simp; omega)) _ | with_reducible refine Below.setCell ?_ (by first | omega | (simp; done) | (simp; omega)) _)) hat5 hms5 HMX.out hk5 hb5 m1 (fun jj _ hjj => e2 jj hjj) (Nat.le_refl _) (.inl (by simp))
          exact ⟨wr.heap.size, s5, rfl, e0, hms5, e1, (by repeat (first | with_reducible exact Below.refl _ _ | with_reducible assumption | with_reducible refine Below.drew ?_ | with_reducible refine below_drews ?_ _ | with_reducible refine Below.alloc ?_ (by first | omega | (simp; done) | (simp; omega)) _ | with_reducible refine Below.setCell ?_ (by first | omega | (simp; done) | (simp; omega)) _)), by omega⟩
      case rest =>
        obtain ⟨g, s5, rfl, hg5, hms5, hcl5, hB5, hgb⟩ := hcut
        have hbk5 : Blk wc b7 58 #[.int .i64 v.map.W, .int .i64 v.map.H, .slice s.ms.A s.ms.n s.ms.c, .slice s.ms.A2 s.ms.n2 s.ms.c2, .int .u64 v.st, .int .i64 v.tick, .slice s.A s.n s.c] := HBK0.out.below hB5 m1
        have l5 := hbk5.lt
        have l6 := hg5.lt
        have y0 : wc.cell? ⟨g, 0, none⟩ = some (.int .i64 X5.map.W) := hg5.cell 0
        have y1 : wc.cell? ⟨g, 1, none⟩ = some (.int .i64 X5.map.H) := hg5.cell 1
        have y2 : wc.cell? ⟨g, 2, none⟩ = some (.slice s.ms.A s.ms.n s.ms.c) := hg5.cell 2
        have y3 : wc.cell? ⟨g, 3, none⟩ = some (.slice s.ms.A2 s.ms.n2 s.ms.c2) := hg5.cell 3
        have y4 : wc.cell? ⟨g, 4, none⟩ = some (.int .u64 X5.st) := hg5.cell 4
        have y5 : wc.cell? ⟨g, 5, none⟩ = some (.int .i64 X5.tick) := hg5.cell 5
        have y6 : wc.cell? ⟨g, 6, none⟩ = some (.slice s5.A s5.n s5.c) := hg5.cell 6
        have z0 : wc.cell? ⟨b7, 0, none⟩ = some (.int .i64 v.map.W) := hbk5.cell 0
        have z1 : wc.cell? ⟨b7, 1, none⟩ = some (.int .i64 v.map.H) := hbk5.cell 1
        have z2 : wc.cell? ⟨b7, 2, none⟩ = some (.slice s.ms.A s.ms.n s.ms.c) := hbk5.cell 2
        have z3 : wc.cell? ⟨b7, 3, none⟩ = some (.slice s.ms.A2 s.ms.n2 s.ms.c2) := hbk5.cell 3
        have z4 : wc.cell? ⟨b7, 4, none⟩ = some (.int .u64 v.st) := hbk5.cell 4
        have z5 : wc.cell? ⟨b7, 5, none⟩ = some (.int .i64 v.tick) := hbk5.cell 5
        have z6 : wc.cell? ⟨b7, 6, none⟩ = some (.slice s.A s.n s.c) := hbk5.cell 6
        have fz0 : wc.frozen? ⟨b7, 0, none⟩ = false := hbk5.frozen 0
        have fz1 : wc.frozen? ⟨b7, 1, none⟩ = false := hbk5.frozen 1
        have fz2 : wc.frozen? ⟨b7, 2, none⟩ = false := hbk5.frozen 2
        have fz3 : wc.frozen? ⟨b7, 3, none⟩ = false := hbk5.frozen 3
        have fz4 : wc.frozen? ⟨b7, 4, none⟩ = false := hbk5.frozen 4
        have fz5 : wc.frozen? ⟨b7, 5, none⟩ = false := hbk5.frozen 5
        have fz6 : wc.frozen? ⟨b7, 6, none⟩ = false := hbk5.frozen 6
        have HBK5 := Lib.hid hbk5
        have HCL5 := Lib.hid hcl5
        have HB5 := Lib.hid hB5
        have HMS5 := Lib.hid hms5
        clear hbk5 hcl5 hB5 hms5 hg5 p0 p1 p2 p3 p4 p5 p6 q0 q1 q2 q3 q4 q5 q6 q7 q8 Ap0 Ap1 Ap2 Ap3 Ap4 Ap5 Ap6 Aq0 Aq1 Aq2 Aq3 Aq4 Aq5 Aq6 Aq7 Aq8
        go_upto_region 11 with (fail)
        have e0 : Blk (((((((wc.setCell ⟨b7, 0, none⟩ (.int .i64 X5.map.W)).setCell ⟨b7, 1, none⟩ (.int .i64 X5.map.H)).setCell ⟨b7, 2, none⟩ (.slice s.ms.A s.ms.n s.ms.c)).setCell ⟨b7, 3, none⟩ (.slice s.ms.A2 s.ms.n2 s.ms.c2)).setCell ⟨b7, 4, none⟩ (.int .u64 X5.st)).setCell ⟨b7, 5, none⟩ (.int .i64 X5.tick)).setCell ⟨b7, 6, none⟩ (.slice s5.A s5.n s5.c)) b7 58 #[.int .i64 X5.map.W, .int .i64 X5.map.H, .slice s.ms.A s.ms.n s.ms.c, .slice s.ms.A2 s.ms.n2 s.ms.c2, .int .u64 X5.st, .int .i64 X5.tick, .slice s5.A s5.n s5.c] := (((((((HBK5.out.set_ 0 _).set_ 1 _).set_ 2 _).set_ 3 _).set_ 4 _).set_ 5 _).set_ 6 _)
        have e2 : ∀ jj : Nat, jj ≠ b7 → (((((((wc.setCell ⟨b7, 0, none⟩ (.int .i64 X5.map.W)).setCell ⟨b7, 1, none⟩ (.int .i64 X5.map.H)).setCell ⟨b7, 2, none⟩ (.slice s.ms.A s.ms.n s.ms.c)).setCell ⟨b7, 3, none⟩ (.slice s.ms.A2 s.ms.n2 s.ms.c2)).setCell ⟨b7, 4, none⟩ (.int .u64 X5.st)).setCell ⟨b7, 5, none⟩ (.int .i64 X5.tick)).setCell ⟨b7, 6, none⟩ (.slice s5.A s5.n s5.c)).heap[jj]? = wc.heap[jj]? := fun jj hjj => ((Below.heap_setCell _ _ _ jj hjj).trans ((Below.heap_setCell _ _ _ jj hjj).trans ((Below.heap_setCell _ _ _ jj hjj).trans ((Below.heap_setCell _ _ _ jj hjj).trans ((Below.heap_setCell _ _ _ jj hjj).trans ((Below.heap_setCell _ _ _ jj hjj).trans (Below.heap_setCell _ _ _ jj hjj)))))))
        have e1 : Clear b7 (((((((wc.setCell ⟨b7, 0, none⟩ (.int .i64 X5.map.W)).setCell ⟨b7, 1, none⟩ (.int .i64 X5.map.H)).setCell ⟨b7, 2, none⟩ (.slice s.ms.A s.ms.n s.ms.c)).setCell ⟨b7, 3, none⟩ (.slice s.ms.A2 s.ms.n2 s.ms.c2)).setCell ⟨b7, 4, none⟩ (.int .u64 X5.st)).setCell ⟨b7, 5, none⟩ (.int .i64 X5.tick)).setCell ⟨b7, 6, none⟩ (.slice s5.A s5.n s5.c)) X5 s5 := Clear.box HCL5.out e2
        have e3 : Below w.heap.size w (((((((wc.setCell ⟨b7, 0, none⟩ (.int .i64 X5.map.W)).setCell ⟨b7, 1, none⟩ (.int .i64 X5.map.H)).setCell ⟨b7, 2, none⟩ (.slice s.ms.A s.ms.n s.ms.c)).setCell ⟨b7, 3, none⟩ (.slice s.ms.A2 s.ms.n2 s.ms.c2)).setCell ⟨b7, 4, none⟩ (.int .u64 X5.st)).setCell ⟨b7, 5, none⟩ (.int .i64 X5.tick)).setCell ⟨b7, 6, none⟩ (.slice s5.A s5.n s5.c)) := by have hb5 := HB5.out; have hbq5 := HBQW.out; have hb6 := hbq5.trans (hb5.mono hbq5.size); exact (by repeat (first | with_reducible exact Below.refl _ _ | with_reducible assumption | with_reducible refine Below.drew ?_ | with_reducible refine below_drews ?_ _ | with_reducible refine Below.alloc ?_ (by first | omega | (simp; done) | (simp; omega)) _ | with_reducible refine Below.setCell ?_ (by first | omega | (simp; done) | (simp; omega)) _))
        generalize (((((((wc.setCell ⟨b7, 0, none⟩ (.int .i64 X5.map.W)).setCell ⟨b7, 1, none⟩ (.int .i64 X5.map.H)).setCell ⟨b7, 2, none⟩ (.slice s.ms.A s.ms.n s.ms.c)).setCell ⟨b7, 3, none⟩ (.slice s.ms.A2 s.ms.n2 s.ms.c2)).setCell ⟨b7, 4, none⟩ (.int .u64 X5.st)).setCell ⟨b7, 5, none⟩ (.int .i64 X5.tick)).setCell ⟨b7, 6, none⟩ (.slice s5.A s5.n s5.c)) = w8 at e0 e1 e3 ⊢
        clear e2 y0 z0 fz0 y1 z1 fz1 y2 z2 fz2 y3 z3 fz3 y4 z4 fz4 y5 z5 fz5 y6 z6 fz6
        have l8 := e0.lt
        have a8 := e1.at_ (Nat.le_of_lt l8)
        have hxl : X5.l.length = s5.n := a8.len
        have hxb : s5.n ≤ 999 := by have := HLX.out; have := HVLR.out; omega
        have HLIST := Lib.hid (fun W (hW : Below w8.heap.size w8 W) => rListY X5.l s5.A s5.n s5.c W ((a8.l.below hW).upto hW.size) (by omega) (fun e he => (HFX.out.e e he).ok) (fun k a b h1 h2 => rises_next HFX.out.r h1 h2))
        have HSTA := Lib.hid (fun (j : Nat) (e : EntV) (he : X5.l[j]? = some e) W (hW : Below w8.heap.size w8 W) => (by have := mStands X5.map s.ms e.at_.x e.at_.y W (by have := (a8.map.below hW).upto hW.size; rw [HMS5.out] at this; exact this); rw [(HFX.out.e e (List.mem_of_getElem? he)).st] at this; exact this : Calls Try.prog 14 _ W _))
        have HXL := Lib.hid hxl
        have HE0 := Lib.hid e0
        have HE1 := Lib.hid e1
        have HE3 := Lib.hid e3
        have HA8 := Lib.hid a8.l
        have f0 : w8.cell? ⟨b7, 0, none⟩ = some (.int .i64 X5.map.W) := e0.cell 0
        have f1 : w8.cell? ⟨b7, 1, none⟩ = some (.int .i64 X5.map.H) := e0.cell 1
        have f2 : w8.cell? ⟨b7, 2, none⟩ = some (.slice s.ms.A s.ms.n s.ms.c) := e0.cell 2
        have f3 : w8.cell? ⟨b7, 3, none⟩ = some (.slice s.ms.A2 s.ms.n2 s.ms.c2) := e0.cell 3
        have f4 : w8.cell? ⟨b7, 4, none⟩ = some (.int .u64 X5.st) := e0.cell 4
        have f5 : w8.cell? ⟨b7, 5, none⟩ = some (.int .i64 X5.tick) := e0.cell 5
        have f6 : w8.cell? ⟨b7, 6, none⟩ = some (.slice s5.A s5.n s5.c) := e0.cell 6
        clear e0 e1 e3 a8 hxl
        go_wp2_with ((go_at_call 26; refine (HLIST.out _ (Below.refl _ _)).mono ?_; rintro e w9 ⟨rfl, hb9⟩; obtain ⟨hc9, hf9⟩ := bcell hb9; have hs9 := hb9.size; have l9 : b7 < w9.heap.size := (by omega)))
        have HB9 := Lib.hid hb9
        have g6 : w9.cell? ⟨b7, 6, none⟩ = some (.slice s5.A s5.n s5.c) := (hc9 _ _ l8).trans f6
        clear hb9 hc9 hf9
        obtain ⟨wo, rfl⟩ : ∃ wo : World, wo = wr := ⟨_, rfl⟩
        go_loopw [12] (fun i wq => ∃ j : Nat, j ≤ s5.n ∧ i = .int .i64 (j : Nat) ∧ Below w9.heap.size w9 wq) (fun i _ => s5.n - (intOf i).toNat)
        case atStart => exact ⟨0, Nat.zero_le _, rfl, Below.refl _ _⟩
        case round =>
          obtain ⟨j, hj, rfl, hbq⟩ := hrel
          have hsq := hbq.size
          have hb8 : Below w8.heap.size w8 wr := HB9.out.trans (hbq.mono HB9.out.size)
          have hs8 := hb8.size
          have c6 : wr.cell? ⟨b7, 6, none⟩ = some (.slice s5.A s5.n s5.c) := (hb8.cell (p := ⟨b7, 6, none⟩) l8).trans f6
          by_cases hjn : j < s5.n
          · obtain ⟨e, he⟩ : ∃ e, X5.l[j]? = some e := ⟨_, List.getElem?_eq_getElem (by have := HXL.out; omega)⟩
            obtain ⟨ga, oa, hA, hga, hca⟩ := HA8.out.flat (by omega) (by decide)
            have hs9a := HSTA.out j e he
            rw [hA] at c6
            have c0 : wr.cell? ⟨b7, 0, none⟩ = some (.int .i64 X5.map.W) := (hb8.cell (p := ⟨b7, 0, none⟩) l8).trans f0
            have c1 : wr.cell? ⟨b7, 1, none⟩ = some (.int .i64 X5.map.H) := (hb8.cell (p := ⟨b7, 1, none⟩) l8).trans f1
            have c2 : wr.cell? ⟨b7, 2, none⟩ = some (.slice s.ms.A s.ms.n s.ms.c) := (hb8.cell (p := ⟨b7, 2, none⟩) l8).trans f2
            have c3 : wr.cell? ⟨b7, 3, none⟩ = some (.slice s.ms.A2 s.ms.n2 s.ms.c2) := (hb8.cell (p := ⟨b7, 3, none⟩) l8).trans f3
            have d2 : wr.cell? ⟨ga, oa + j * 8 + 2, none⟩ = some (.int .i64 e.at_.x) := by rw [Nat.add_assoc]; exact (hb8.cell (p := ⟨ga, oa + (j * 8 + 2), none⟩) (by show ga < _; omega)).trans (hca _ _ ((entsV_at he 2 (by decide)).trans rfl))
            have d3 : wr.cell? ⟨ga, oa + j * 8 + 3, none⟩ = some (.int .i64 e.at_.y) := by rw [Nat.add_assoc]; exact (hb8.cell (p := ⟨ga, oa + (j * 8 + 3), none⟩) (by show ga < _; omega)).trans (hca _ _ ((entsV_at he 3 (by decide)).trans rfl))
            have HSA := Lib.hid hs9a
            have HB8 := Lib.hid hb8
            have HBQ2 := Lib.hid hbq
            have lga : ga < wr.heap.size := by omega
            have lb7 : b7 < wr.heap.size := by omega
            clear hs9a hb8 hbq hca hA f0 f1 f2 f3 f4 f5 f6
            go_wp2
            refine wp_region_kin' wr.heap.size (by kernel_rfl) (by kernel_rfl) (fun kk => ?_)
            repeat (first | go_big_quiet_step ((go_at_call 14; exact kin_of (Nat.le_refl _) (HSA.out _ (HB8.out.trans ((Kin.below _).mono hs8))))) | quiet_step ((go_at_call 14; exact kin_of (Nat.le_refl _) (HSA.out _ (HB8.out.trans ((Kin.below _).mono hs8))))))
            refine wpQuiet_nil ?_
            rintro _ ⟨⟨wk, hwk⟩, rfl⟩
            go_wp2
            go_roundw
            case rel => exact ⟨j + 1, hjn, by go_num, HBQ2.out.trans (hwk.mono hsq)⟩
            case measure => simp [intOf]; omega
          · have HB8 := Lib.hid hb8
            clear hb8 hbq
            go_wp2_with fail
            refine ⟨⟨k + 1, X5, s5, by omega, by go_num, ?_, ?_, ?_, HOX.out, HMX.out.trans HVMR.out, HFX.out, HE3.out.trans (HB8.out.mono HE3.out.size)⟩, by simp [intOf]; omega⟩
            · rw [HMS5.out]; exact HE0.out.below HB8.out l8
            · exact HE1.out.below HB8.out (Nat.le_refl _) (Nat.le_of_lt l8)
            · have := HLX.out; have := HVLR.out; omega
    · go_wp2
      go_ret
      exact ⟨rfl, hbr⟩
theorem lawFormed (m : MapV) (s : MapS) (seed balls : Int) (l : List OpV) (A : Option Addr) (n c : Nat) (w : World) (h : MapAt w w.heap.size m s) (hl : Reads w w.heap.size 9 A n (opsV l)) (hlo : ∀ o ∈ l, OpOk o ∧ -128 ≤ o.c.mx ∧ -128 ≤ o.c.my) :
    Calls Try.prog 8 #[(.agg #[.int .i64 m.W, .int .i64 m.H, .slice s.A s.n s.c, .slice s.A2 s.n2 s.c2]), .agg #[.int .u64 seed, .int .i64 balls], .slice A n c] w fun r w' => r = .returned (.bool true) ∧ Below w.heap.size w w' := by
  by_cases h1 : s.n ≤ 400 ∧ s.n2 ≤ 400
  · by_cases h2 : n ≤ 100
    · cases h3 : newOk m balls with
      | false => exact lawFormedErr m s seed balls A n c w h h1 h2 h3
      | true =>
        unfold newOk at h3
        simp only [Bool.and_eq_true, decide_eq_true_eq] at h3
        obtain ⟨b, rfl⟩ := Int.eq_ofNat_of_zero_le h3.2.1
        exact lawFormedYes m s seed b l A n c w h hl hlo h1 h2 h3.1 (by omega)
    · exact lawFormedNo m s seed balls A n c w h (.inr (by omega))
  · exact lawFormedNo m s seed balls A n c w h (.inl h1)
end Go.Proofs.Ythkgeeonhppliaa
