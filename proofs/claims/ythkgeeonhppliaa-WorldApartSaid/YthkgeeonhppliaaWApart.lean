/- The walk of the law WorldApart. (Printed by gen_apart.py.) -/
import Derived.Test.YthkgeeonhppliaaWClear
import Derived.Deep.DeepCutAuto
set_option linter.unusedSimpArgs false
set_option linter.unusedVariables false
namespace Go.Proofs.Ythkgeeonhppliaa
open Go.RowKit
theorem apart_at (l : List EntV) (id : Int) (f : EntV → EntV) (hi : ∀ e, (f e).id = e.id ∧ (f e).kind = e.kind) (j : Nat) (a b : EntV) (ha : l[j]? = some a) (hb : (atPlayer l id f)[j]? = some b) : b = a ∨ b.id = id ∧ b.kind = 1 := by
  rcases atPlayer_spec l id f with ⟨_, h2⟩ | ⟨k, e, _, h2, h3, h4, h5⟩
  · rw [h2, ha] at hb; injection hb with hb; exact .inl hb.symm
  · rw [h5] at hb
    by_cases hkj : k = j
    · subst hkj
      rw [List.getElem?_set_self (List.getElem?_eq_some_iff.1 h2).1] at hb
      injection hb with hb
      subst hb
      exact .inr ⟨(hi e).1.trans h3, (hi e).2.trans h4⟩
    · rw [List.getElem?_set_ne hkj, ha] at hb; injection hb with hb; exact .inl hb.symm
theorem hitE_same (e : EntV) (b : Int) : (hitE e b).id = e.id ∧ (hitE e b).kind = e.kind := by
  unfold hitE
  split <;> exact ⟨rfl, rfl⟩
theorem apart_act (v : WorldV) (o : OpV) (ho : o.kind = 3 ∨ o.kind = 4) : (actV v o).1.l.length = v.l.length ∧ (actV v o).1.st = v.st ∧ (actV v o).1.tick = v.tick ∧
    ∀ (j : Nat) (a b : EntV), v.l[j]? = some a → (actV v o).1.l[j]? = some b → b = a ∨ b.id = o.id ∧ b.kind = 1 := by
  rcases ho with h | h
  · have e : actV v o = (⟨v.map, v.st, v.tick, atPlayer v.l o.id (hitP o.by_)⟩, 0) := by unfold actV; rw [if_neg (by omega), if_neg (by omega), if_pos h]
    rw [e]
    refine ⟨atPlayer_len _ _ _, rfl, rfl, fun j a b ha hb => apart_at v.l o.id (hitP o.by_) (fun e => ?_) j a b ha hb⟩
    unfold hitP
    split
    · exact ⟨rfl, rfl⟩
    · exact hitE_same e _
  · have e : actV v o = (⟨v.map, v.st, v.tick, atPlayer v.l o.id (goP v.map o.c)⟩, 0) := by unfold actV; rw [if_neg (by omega), if_neg (by omega), if_neg (by omega), if_pos h]
    rw [e]
    refine ⟨atPlayer_len _ _ _, rfl, rfl, fun j a b ha hb => apart_at v.l o.id (goP v.map o.c) (fun e => ?_) j a b ha hb⟩
    unfold goP walkF
    split
    · split <;> exact ⟨rfl, rfl⟩
    · exact ⟨rfl, rfl⟩
set_option maxRecDepth 100000 in
set_option maxHeartbeats 4000000 in
theorem lawApartNo (m : MapV) (s : MapS) (seed balls : Int) (A : Option Addr) (n c : Nat) (w : World) (h : MapAt w w.heap.size m s) (hno : ¬ (s.n ≤ 400 ∧ s.n2 ≤ 400) ∨ 100 < n) :
    Calls Try.prog 9 #[(.agg #[.int .i64 m.W, .int .i64 m.H, .slice s.A s.n s.c, .slice s.A2 s.n2 s.c2]), .agg #[.int .u64 seed, .int .i64 balls], .slice A n c] w fun r w' => r = .returned (.bool true) ∧ Below w.heap.size w w' := by
  have hF := fun W => few13 m s W
  obtain ⟨f, hf⟩ : ∃ f, decide (s.n ≤ 400 ∧ s.n2 ≤ 400) = f := ⟨_, rfl⟩
  obtain ⟨d, hd⟩ : ∃ d, decide ((100 : Int) < (n : Int)) = d := ⟨_, rfl⟩
  simp only [hf] at hF
  have hno' : f = false ∨ d = true := by
    rcases hno with h1 | h1
    · exact .inl (by rw [← hf]; exact decide_eq_false h1)
    · exact .inr (by rw [← hd]; exact decide_eq_true (by omega))
  have HN := Lib.hid hno'
  clear hno hno' h hf
  go_enter Try.func9, Try.ntmps9
  cases f
  rotate_left
  cases d
  · exact absurd HN.out (by simp)
  all_goals
    go_wp2_with (first
      | (go_at_call 22; refine (awake13 _).mono ?_; rintro e w1 ⟨rfl, hb1⟩; obtain ⟨hc1, hf1⟩ := bcell hb1; have hs1 := hb1.size; (try simp at hs1); have l1 : w.heap.size < w1.heap.size := (by omega); have l2 : w.heap.size + 1 < w1.heap.size := (by omega); have B1 : Below w.heap.size w w1 := Below.trans (by repeat (first | with_reducible exact Below.refl _ _ | with_reducible assumption | with_reducible refine Below.drew ?_ | with_reducible refine below_drews ?_ _ | with_reducible refine Below.alloc ?_ (by first | omega | (simp; done) | (simp; omega)) _ | with_reducible refine Below.setCell ?_ (by first | omega | (simp; done) | (simp; omega)) _)) (hb1.mono (by (try simp) <;> omega)))
      | (go_at_call 23; refine (hF _).mono ?_; rintro e w1 ⟨rfl, hb1⟩; obtain ⟨hc1, hf1⟩ := bcell hb1; have hs1 := hb1.size; (try simp at hs1); have l1 : w.heap.size < w1.heap.size := (by omega); have l2 : w.heap.size + 1 < w1.heap.size := (by omega); have B1 : Below w.heap.size w w1 := Below.trans (by repeat (first | with_reducible exact Below.refl _ _ | with_reducible assumption | with_reducible refine Below.drew ?_ | with_reducible refine below_drews ?_ _ | with_reducible refine Below.alloc ?_ (by first | omega | (simp; done) | (simp; omega)) _ | with_reducible refine Below.setCell ?_ (by first | omega | (simp; done) | (simp; omega)) _)) (hb1.mono (by (try simp) <;> omega))))
    go_ret
    exact ⟨rfl, (by repeat (first | with_reducible exact Below.refl _ _ | with_reducible assumption | with_reducible refine Below.drew ?_ | with_reducible refine below_drews ?_ _ | with_reducible refine Below.alloc ?_ (by first | omega | (simp; done) | (simp; omega)) _ | with_reducible refine Below.setCell ?_ (by first | omega | (simp; done) | (simp; omega)) _))⟩
set_option maxRecDepth 100000 in
set_option maxHeartbeats 4000000 in
theorem lawApartErr (m : MapV) (s : MapS) (seed balls : Int) (A : Option Addr) (n c : Nat) (w : World) (h : MapAt w w.heap.size m s) (hf : s.n ≤ 400 ∧ s.n2 ≤ 400) (hn : n ≤ 100) (hno : newOk m balls = false) :
    Calls Try.prog 9 #[(.agg #[.int .i64 m.W, .int .i64 m.H, .slice s.A s.n s.c, .slice s.A2 s.n2 s.c2]), .agg #[.int .u64 seed, .int .i64 balls], .slice A n c] w fun r w' => r = .returned (.bool true) ∧ Below w.heap.size w w' := by
  have hF := fun W => few13 m s W
  have hd : decide ((100 : Int) < (n : Int)) = false := decide_eq_false (by omega)
  simp only [decide_eq_true hf] at hF
  have hNew := fun W (hW : Below w.heap.size w W) => wNewNo m s seed balls W ((h.below hW).upto hW.size) hno
  have HNEW := Lib.hid hNew
  clear h hf hn hno hNew
  go_enter Try.func9, Try.ntmps9
  go_wp2_with (first
    | (go_at_call 22; refine (awake13 _).mono ?_; rintro e w1 ⟨rfl, hb1⟩; obtain ⟨hc1, hf1⟩ := bcell hb1; have hs1 := hb1.size; (try simp at hs1); have l1 : w.heap.size < w1.heap.size := (by omega); have l2 : w.heap.size + 1 < w1.heap.size := (by omega); have B1 : Below w.heap.size w w1 := Below.trans (by repeat (first | with_reducible exact Below.refl _ _ | with_reducible assumption | with_reducible refine Below.drew ?_ | with_reducible refine below_drews ?_ _ | with_reducible refine Below.alloc ?_ (by first | omega | (simp; done) | (simp; omega)) _ | with_reducible refine Below.setCell ?_ (by first | omega | (simp; done) | (simp; omega)) _)) (hb1.mono (by (try simp) <;> omega)))
    | (go_at_call 23; refine (hF _).mono ?_; rintro e w1 ⟨rfl, hb1⟩; obtain ⟨hc1, hf1⟩ := bcell hb1; have hs1 := hb1.size; (try simp at hs1); have l1 : w.heap.size < w1.heap.size := (by omega); have l2 : w.heap.size + 1 < w1.heap.size := (by omega); have B1 : Below w.heap.size w w1 := Below.trans (by repeat (first | with_reducible exact Below.refl _ _ | with_reducible assumption | with_reducible refine Below.drew ?_ | with_reducible refine below_drews ?_ _ | with_reducible refine Below.alloc ?_ (by first | omega | (simp; done) | (simp; omega)) _ | with_reducible refine Below.setCell ?_ (by first | omega | (simp; done) | (simp; omega)) _)) (hb1.mono (by (try simp) <;> omega)))
    | (go_at_call 24; refine (HNEW.out _ (by first | assumption | exact B1)).mono ?_; rintro r w2 ⟨⟨v, s2, rfl⟩, hb2⟩; have B2 : Below w.heap.size w w2 := B1.trans (hb2.mono B1.size); have hs2 := B2.size))
  go_ret
  exact ⟨rfl, (by repeat (first | with_reducible exact Below.refl _ _ | with_reducible assumption | with_reducible refine Below.drew ?_ | with_reducible refine below_drews ?_ _ | with_reducible refine Below.alloc ?_ (by first | omega | (simp; done) | (simp; omega)) _ | with_reducible refine Below.setCell ?_ (by first | omega | (simp; done) | (simp; omega)) _))⟩
set_option maxRecDepth 100000 in
set_option maxHeartbeats 16000000 in
theorem lawApartYes (m : MapV) (s0 : MapS) (seed : Int) (balls : Nat) (l : List OpV) (A : Option Addr) (n c : Nat) (w : World) (h : MapAt w w.heap.size m s0) (hl : Reads w w.heap.size 9 A n (opsV l)) (hlo : ∀ o ∈ l, OpFine o) (hf : s0.n ≤ 400 ∧ s0.n2 ≤ 400) (hn : n ≤ 100) (hfm : formedB m = true) (hb : balls ≤ 8) :
    Calls Try.prog 9 #[(.agg #[.int .i64 m.W, .int .i64 m.H, .slice s0.A s0.n s0.c, .slice s0.A2 s0.n2 s0.c2]), .agg #[.int .u64 seed, .int .i64 balls], .slice A n c] w fun r w' => r = .returned (.bool true) ∧ Below w.heap.size w w' := by
  have hF := fun W => few13 m s0 W
  have hd : decide ((100 : Int) < (n : Int)) = false := decide_eq_false (by omega)
  simp only [decide_eq_true hf] at hF
  have hNew := fun W (hW : Below w.heap.size w W) => wNewYes m s0 seed balls W ((h.below hW).upto hW.size) hfm hb (by omega) (by omega)
  have hsp : 1 ≤ m.spawns.length ∧ m.spawns.length ≤ 100000 := by
    have h1 := h.len.2
    have h2 := hfm
    unfold formedB sizeOk at h2
    simp only [Bool.and_eq_true, decide_eq_true_eq] at h2
    omega
  have HNEW := Lib.hid hNew
  have HSP := Lib.hid hsp
  have HL := Lib.hid hl
  have HLO := Lib.hid hlo
  have hll : l.length = n := by have := hl.1; rw [opsV_length] at this; omega
  have HLL := Lib.hid hll
  clear h hf hNew hsp hl hlo hll hfm
  go_enter Try.func9, Try.ntmps9
  go_wp2_with (first
    | (go_at_call 22; refine (awake13 _).mono ?_; rintro e w1 ⟨rfl, hb1⟩; obtain ⟨hc1, hf1⟩ := bcell hb1; have hs1 := hb1.size; (try simp at hs1); have l1 : w.heap.size < w1.heap.size := (by omega); have l2 : w.heap.size + 1 < w1.heap.size := (by omega); have B1 : Below w.heap.size w w1 := Below.trans (by repeat (first | with_reducible exact Below.refl _ _ | with_reducible assumption | with_reducible refine Below.drew ?_ | with_reducible refine below_drews ?_ _ | with_reducible refine Below.alloc ?_ (by first | omega | (simp; done) | (simp; omega)) _ | with_reducible refine Below.setCell ?_ (by first | omega | (simp; done) | (simp; omega)) _)) (hb1.mono (by (try simp) <;> omega)))
    | (go_at_call 23; refine (hF _).mono ?_; rintro e w1 ⟨rfl, hb1⟩; obtain ⟨hc1, hf1⟩ := bcell hb1; have hs1 := hb1.size; (try simp at hs1); have l1 : w.heap.size < w1.heap.size := (by omega); have l2 : w.heap.size + 1 < w1.heap.size := (by omega); have B1 : Below w.heap.size w w1 := Below.trans (by repeat (first | with_reducible exact Below.refl _ _ | with_reducible assumption | with_reducible refine Below.drew ?_ | with_reducible refine below_drews ?_ _ | with_reducible refine Below.alloc ?_ (by first | omega | (simp; done) | (simp; omega)) _ | with_reducible refine Below.setCell ?_ (by first | omega | (simp; done) | (simp; omega)) _)) (hb1.mono (by (try simp) <;> omega)))
    | (go_at_call 24; refine (HNEW.out _ (by first | assumption | exact B1)).mono ?_; rintro r w2 ⟨s2, rfl, hat, hb2⟩; have B2 : Below w.heap.size w w2 := B1.trans (hb2.mono B1.size); have hs2 := B2.size))
  have cl : Clear w2.heap.size (w2.alloc (.cells #[.int .i64 (newF m seed balls).map.W, .int .i64 (newF m seed balls).map.H, .slice s2.ms.A s2.ms.n s2.ms.c, .slice s2.ms.A2 s2.ms.n2 s2.ms.c2, .int .u64 (newF m seed balls).st, .int .i64 (newF m seed balls).tick, .slice s2.A s2.n s2.c] 58)) (newF m seed balls) s2 := (Clear.new hat).below ((Below.refl w2.heap.size w2).alloc (Nat.le_refl _) _) (Nat.le_refl _) (Nat.le_refl _)
  have bk : Blk (w2.alloc (.cells #[.int .i64 (newF m seed balls).map.W, .int .i64 (newF m seed balls).map.H, .slice s2.ms.A s2.ms.n s2.ms.c, .slice s2.ms.A2 s2.ms.n2 s2.ms.c2, .int .u64 (newF m seed balls).st, .int .i64 (newF m seed balls).tick, .slice s2.A s2.n s2.c] 58)) w2.heap.size 58 #[.int .i64 (newF m seed balls).map.W, .int .i64 (newF m seed balls).map.H, .slice s2.ms.A s2.ms.n s2.ms.c, .slice s2.ms.A2 s2.ms.n2 s2.ms.c2, .int .u64 (newF m seed balls).st, .int .i64 (newF m seed balls).tick, .slice s2.A s2.n s2.c] := Blk.new _ _ _
  have B3 : Below w.heap.size w (w2.alloc (.cells #[.int .i64 (newF m seed balls).map.W, .int .i64 (newF m seed balls).map.H, .slice s2.ms.A s2.ms.n s2.ms.c, .slice s2.ms.A2 s2.ms.n2 s2.ms.c2, .int .u64 (newF m seed balls).st, .int .i64 (newF m seed balls).tick, .slice s2.A s2.n s2.c] 58)) := B2.alloc hs2 _
  have hv0 : (newF m seed balls).l.length ≤ 8 := by have := ballsF_len m balls seed; show (ballsF m balls seed).2.length ≤ 8; omega
  have hv1 : ∀ e ∈ (newF m seed balls).l, okE e := ballsF_ok m balls seed
  have hvm : (newF m seed balls).map = m := rfl
  generalize newF m seed balls = v0 at cl bk B3 hv0 hv1 hvm ⊢
  generalize (w2.alloc (.cells #[.int .i64 v0.map.W, .int .i64 v0.map.H, .slice s2.ms.A s2.ms.n s2.ms.c, .slice s2.ms.A2 s2.ms.n2 s2.ms.c2, .int .u64 v0.st, .int .i64 v0.tick, .slice s2.A s2.n s2.c] 58)) = W3 at cl bk B3 ⊢
  have hbw : w.heap.size ≤ w2.heap.size := hs2
  generalize w2.heap.size = b7 at cl bk hbw ⊢
  have HCL := Lib.hid cl
  have HBK := Lib.hid bk
  have HB3 := Lib.hid B3
  have HV0 := Lib.hid hv0
  have HV1 := Lib.hid hv1
  have HVM := Lib.hid hvm
  clear cl bk B3 hv0 hv1 hvm hat hb2 B2 hs2 B1 hb1 hc1 hf1 hs1 l1 l2 hF HNEW
  (try clear hb1)
  (try clear hc1)
  (try clear hf1)
  (try clear hs1)
  (try clear B1)
  (try clear l1)
  (try clear l2)
  go_loopw [9] (fun i wr => ∃ (k : Nat) (v : WorldV) (s : WorldS), k ≤ n ∧ i = .int .i64 (k : Nat) ∧ Blk wr b7 58 #[.int .i64 v.map.W, .int .i64 v.map.H, .slice s.ms.A s.ms.n s.ms.c, .slice s.ms.A2 s.ms.n2 s.ms.c2, .int .u64 v.st, .int .i64 v.tick, .slice s.A s.n s.c] ∧ Clear b7 wr v s ∧ v.l.length ≤ 8 + k ∧ (∀ e ∈ v.l, okE e) ∧ v.map = m ∧ Below w.heap.size w wr) (fun i _ => n - (intOf i).toNat)
  case atStart => exact ⟨0, v0, s2, Nat.zero_le _, rfl, HBK.out, HCL.out, HV0.out, HV1.out, HVM.out, HB3.out⟩
  case round =>
    obtain ⟨k, v, s, hk, rfl, hbk, hcl, hvl, hvo, hvm, hbr⟩ := hrel
    have hbl := hbk.lt
    by_cases hlt : k < n
    · have hlen := (hcl.at_ (Nat.le_of_lt hbl)).len
      have hn2 : 1 ≤ s.ms.n2 ∧ s.ms.n2 ≤ 100000 := by have := (hcl.at_ (Nat.le_of_lt hbl)).map.len.2; rw [hvm] at this; have := HSP.out; omega
      have hsn : s.n ≤ 999 := by omega
      have HLEN := Lib.hid hlen
      clear hlen
      have hlk : l.length = n := HLL.out
      obtain ⟨o, ho⟩ : ∃ o, l[k]? = some o := ⟨_, List.getElem?_eq_getElem (by omega)⟩
      have hok0 : OpOk o := (HLO.out o (List.mem_of_getElem? ho)).1
      have HOF := Lib.hid (HLO.out o (List.mem_of_getElem? ho))
      have hgood : Good v s := ⟨by have := hcl.at_ (Nat.le_of_lt hbk.lt) |>.len; omega, hn2.1, hn2.2, hvo⟩
      obtain ⟨gs, os, rfl, hgs, hcs⟩ := HL.out.flat (by omega) (by decide)
      have hsz : w.heap.size ≤ wr.heap.size := hbr.size
      have p0 : wr.cell? ⟨b7, 0, none⟩ = some (.int .i64 v.map.W) := hbk.cell 0
      have p1 : wr.cell? ⟨b7, 1, none⟩ = some (.int .i64 v.map.H) := hbk.cell 1
      have p2 : wr.cell? ⟨b7, 2, none⟩ = some (.slice s.ms.A s.ms.n s.ms.c) := hbk.cell 2
      have p3 : wr.cell? ⟨b7, 3, none⟩ = some (.slice s.ms.A2 s.ms.n2 s.ms.c2) := hbk.cell 3
      have p4 : wr.cell? ⟨b7, 4, none⟩ = some (.int .u64 v.st) := hbk.cell 4
      have p5 : wr.cell? ⟨b7, 5, none⟩ = some (.int .i64 v.tick) := hbk.cell 5
      have p6 : wr.cell? ⟨b7, 6, none⟩ = some (.slice s.A s.n s.c) := hbk.cell 6
      have q0 : wr.cell? ⟨gs, os + k * 9, none⟩ = some (.int .i64 o.kind) := by exact (hbr.cell (p := ⟨gs, os + (k * 9 + 0), none⟩) (by show gs < _; omega)).trans (hcs _ _ ((opsV_at ho 0 (by decide)).trans rfl))
      have q1 : wr.cell? ⟨gs, os + k * 9 + 1, none⟩ = some (.int .i64 o.id) := by rw [Nat.add_assoc]; exact (hbr.cell (p := ⟨gs, os + (k * 9 + 1), none⟩) (by show gs < _; omega)).trans (hcs _ _ ((opsV_at ho 1 (by decide)).trans rfl))
      have q2 : wr.cell? ⟨gs, os + k * 9 + 2, none⟩ = some (.int .i64 o.by_) := by rw [Nat.add_assoc]; exact (hbr.cell (p := ⟨gs, os + (k * 9 + 2), none⟩) (by show gs < _; omega)).trans (hcs _ _ ((opsV_at ho 2 (by decide)).trans rfl))
      have q3 : wr.cell? ⟨gs, os + k * 9 + 3, none⟩ = some (.int .u32 o.c.num) := by rw [Nat.add_assoc]; exact (hbr.cell (p := ⟨gs, os + (k * 9 + 3), none⟩) (by show gs < _; omega)).trans (hcs _ _ ((opsV_at ho 3 (by decide)).trans rfl))
      have q4 : wr.cell? ⟨gs, os + k * 9 + 4, none⟩ = some (.int .i8 o.c.mx) := by rw [Nat.add_assoc]; exact (hbr.cell (p := ⟨gs, os + (k * 9 + 4), none⟩) (by show gs < _; omega)).trans (hcs _ _ ((opsV_at ho 4 (by decide)).trans rfl))
      have q5 : wr.cell? ⟨gs, os + k * 9 + 5, none⟩ = some (.int .i8 o.c.my) := by rw [Nat.add_assoc]; exact (hbr.cell (p := ⟨gs, os + (k * 9 + 5), none⟩) (by show gs < _; omega)).trans (hcs _ _ ((opsV_at ho 5 (by decide)).trans rfl))
      have q6 : wr.cell? ⟨gs, os + k * 9 + 6, none⟩ = some (.bool o.c.fire) := by rw [Nat.add_assoc]; exact (hbr.cell (p := ⟨gs, os + (k * 9 + 6), none⟩) (by show gs < _; omega)).trans (hcs _ _ ((opsV_at ho 6 (by decide)).trans rfl))
      have q7 : wr.cell? ⟨gs, os + k * 9 + 7, none⟩ = some (.int .u32 o.c.view) := by rw [Nat.add_assoc]; exact (hbr.cell (p := ⟨gs, os + (k * 9 + 7), none⟩) (by show gs < _; omega)).trans (hcs _ _ ((opsV_at ho 7 (by decide)).trans rfl))
      have q8 : wr.cell? ⟨gs, os + k * 9 + 8, none⟩ = some (.int .u8 o.c.frac) := by rw [Nat.add_assoc]; exact (hbr.cell (p := ⟨gs, os + (k * 9 + 8), none⟩) (by show gs < _; omega)).trans (hcs _ _ ((opsV_at ho 8 (by decide)).trans rfl))
      have m1 : b7 < wr.heap.size := hbk.lt
      have m2 : gs < wr.heap.size := by omega
      have mne1 : b7 ≠ wr.heap.size := by omega
      have mne2 : gs ≠ wr.heap.size := by omega
      have hA := fun W (hW : Below wr.heap.size wr W) => wAct v s o W ((hcl.at_ (Nat.le_of_lt m1)).below hW |>.upto hW.size) hgood hok0
      have hidx : (0 : Int) ≤ (k : Int) := by omega
      have hidx2 : (k : Int) < (n : Int) := by omega
      have HCL0 := Lib.hid hcl
      have HBK0 := Lib.hid hbk
      have HBQW := Lib.hid hbr
      have HVOR := Lib.hid hvo
      have HVLR := Lib.hid hvl
      have HVMR := Lib.hid hvm
      obtain ⟨⟨X5, E5⟩, hX5⟩ : ∃ x, actV v o = x := ⟨_, rfl⟩
      have HAP := Lib.hid (fun hh => show X5.l.length = v.l.length ∧ X5.st = v.st ∧ X5.tick = v.tick ∧ ∀ (j : Nat) (a b : EntV), v.l[j]? = some a → X5.l[j]? = some b → b = a ∨ b.id = o.id ∧ b.kind = 1 by have := apart_act v o hh; rw [hX5] at this; exact this)
      have HX5 := Lib.hid hX5
      have HMX := Lib.hid (show X5.map = v.map by have := actV_map v o; rw [hX5] at this; exact this)
      have HLX := Lib.hid (show X5.l.length ≤ v.l.length + 1 by have := actV_len v o; rw [hX5] at this; exact this)
      have HOX := Lib.hid (show ∀ e ∈ X5.l, okE e by have := actV_ok v o hvo; rw [hX5] at this; exact this)
      rw [hX5] at hA
      have HA6 := Lib.hid hA
      clear hA hcs ho hok0 hgood hX5 hcl hbk hbr hvo hvl hvm hn2
      go_wp2_with fail
      refine (HA6.out _ (by repeat (first | with_reducible exact Below.refl _ _ | with_reducible assumption | with_reducible refine Below.drew ?_ | with_reducible refine below_drews ?_ _ | with_reducible refine Below.alloc ?_ (by first | omega | (simp; done) | (simp; omega)) _ | with_reducible refine Below.setCell ?_ (by first | omega | (simp; done) | (simp; omega)) _))).mono ?_
      rintro r w5 ⟨s5, rfl, hat5, hms5, hk5, hb5⟩
      have hB5 : Below wr.heap.size wr w5 := Below.trans (by repeat (first | with_reducible exact Below.refl _ _ | with_reducible assumption | with_reducible refine Below.drew ?_ | with_reducible refine below_drews ?_ _ | with_reducible refine Below.alloc ?_ (by first | omega | (simp; done) | (simp; omega)) _ | with_reducible refine Below.setCell ?_ (by first | omega | (simp; done) | (simp; omega)) _)) (hb5.mono (by simp))
      have hs5 := hB5.size
      have hbo5 : Blk w5 wr.heap.size 66 #[.int .i64 o.kind, .int .i64 o.id, .int .i64 o.by_, .int .u32 o.c.num, .int .i8 o.c.mx, .int .i8 o.c.my, .bool o.c.fire, .int .u32 o.c.view, .int .u8 o.c.frac] := Blk.below (Blk.new _ _ _) hb5 (by simp)
      have e1 : Clear b7 (w5.alloc (.cells #[.int .i64 X5.map.W, .int .i64 X5.map.H, .slice s.ms.A s.ms.n s.ms.c, .slice s.ms.A2 s.ms.n2 s.ms.c2, .int .u64 X5.st, .int .i64 X5.tick, .slice s5.A s5.n s5.c] 58)) X5 s5 := Clear.heldFar (g := w5.heap.size) HCL0.out (by repeat (first | with_reducible exact Below.refl _ _ | with_reducible assumption | with_reducible refine Below.drew ?_ | with_reducible refine below_drews ?_ _ | with_reducible refine Below.alloc ?_ (by first | omega | (simp; done) | (simp; omega)) _ | with_reducible refine Below.setCell ?_ (by first | omega | (simp; done) | (simp; omega)) _)) hat5 hms5 HMX.out hk5 hb5 m1 (fun j hj _ => Below.heap_alloc w5 (.cells #[.int .i64 X5.map.W, .int .i64 X5.map.H, .slice s.ms.A s.ms.n s.ms.c, .slice s.ms.A2 s.ms.n2 s.ms.c2, .int .u64 X5.st, .int .i64 X5.tick, .slice s5.A s5.n s5.c] 58) j hj) hs5 (.inr (Nat.le_refl _))
      have e2 : Clear b7 (w5.alloc (.cells #[.int .i64 X5.map.W, .int .i64 X5.map.H, .slice s.ms.A s.ms.n s.ms.c, .slice s.ms.A2 s.ms.n2 s.ms.c2, .int .u64 X5.st, .int .i64 X5.tick, .slice s5.A s5.n s5.c] 58)) v s := HCL0.out.below (hB5.alloc hs5 _) (Nat.le_refl _) (Nat.le_of_lt m1)
      have e3 : Below wr.heap.size wr (w5.alloc (.cells #[.int .i64 X5.map.W, .int .i64 X5.map.H, .slice s.ms.A s.ms.n s.ms.c, .slice s.ms.A2 s.ms.n2 s.ms.c2, .int .u64 X5.st, .int .i64 X5.tick, .slice s5.A s5.n s5.c] 58)) := hB5.alloc hs5 _
      have e4 : Blk (w5.alloc (.cells #[.int .i64 X5.map.W, .int .i64 X5.map.H, .slice s.ms.A s.ms.n s.ms.c, .slice s.ms.A2 s.ms.n2 s.ms.c2, .int .u64 X5.st, .int .i64 X5.tick, .slice s5.A s5.n s5.c] 58)) w5.heap.size 58 #[.int .i64 X5.map.W, .int .i64 X5.map.H, .slice s.ms.A s.ms.n s.ms.c, .slice s.ms.A2 s.ms.n2 s.ms.c2, .int .u64 X5.st, .int .i64 X5.tick, .slice s5.A s5.n s5.c] := Blk.new _ _ _
      have e5 : Blk (w5.alloc (.cells #[.int .i64 X5.map.W, .int .i64 X5.map.H, .slice s.ms.A s.ms.n s.ms.c, .slice s.ms.A2 s.ms.n2 s.ms.c2, .int .u64 X5.st, .int .i64 X5.tick, .slice s5.A s5.n s5.c] 58)) wr.heap.size 66 #[.int .i64 o.kind, .int .i64 o.id, .int .i64 o.by_, .int .u32 o.c.num, .int .i8 o.c.mx, .int .i8 o.c.my, .bool o.c.fire, .int .u32 o.c.view, .int .u8 o.c.frac] := hbo5.alloc _
      have HMS5 := Lib.hid hms5
      have HHA := Lib.hid hat5
      have HHK := Lib.hid hk5
      have HHB := Lib.hid hb5
      clear hat5 hk5 hb5 hbo5 hB5
      go_upto_region 11 with (fail)
      generalize (w5.alloc (.cells #[.int .i64 X5.map.W, .int .i64 X5.map.H, .slice s.ms.A s.ms.n s.ms.c, .slice s.ms.A2 s.ms.n2 s.ms.c2, .int .u64 X5.st, .int .i64 X5.tick, .slice s5.A s5.n s5.c] 58)) = w6 at e1 e2 e3 e4 e5 ⊢
      have hs5' : wr.heap.size ≤ w5.heap.size := hs5
      generalize w5.heap.size = b11 at e4 hs5' ⊢
      generalize hb10 : wr.heap.size = b10 at e5 mne1 mne2 ⊢
      have ebk : Blk w6 b7 58 #[.int .i64 v.map.W, .int .i64 v.map.H, .slice s.ms.A s.ms.n s.ms.c, .slice s.ms.A2 s.ms.n2 s.ms.c2, .int .u64 v.st, .int .i64 v.tick, .slice s.A s.n s.c] := HBK0.out.below e3 m1
      have y0 : w6.cell? ⟨b11, 0, none⟩ = some (.int .i64 X5.map.W) := by first | exact e4.cell 0 | (rw [hms5]; exact e4.cell 0)
      have y1 : w6.cell? ⟨b11, 1, none⟩ = some (.int .i64 X5.map.H) := by first | exact e4.cell 1 | (rw [hms5]; exact e4.cell 1)
      have y2 : w6.cell? ⟨b11, 2, none⟩ = some (.slice s5.ms.A s5.ms.n s5.ms.c) := by first | exact e4.cell 2 | (rw [hms5]; exact e4.cell 2)
      have y3 : w6.cell? ⟨b11, 3, none⟩ = some (.slice s5.ms.A2 s5.ms.n2 s5.ms.c2) := by first | exact e4.cell 3 | (rw [hms5]; exact e4.cell 3)
      have y4 : w6.cell? ⟨b11, 4, none⟩ = some (.int .u64 X5.st) := by first | exact e4.cell 4 | (rw [hms5]; exact e4.cell 4)
      have y5 : w6.cell? ⟨b11, 5, none⟩ = some (.int .i64 X5.tick) := by first | exact e4.cell 5 | (rw [hms5]; exact e4.cell 5)
      have y6 : w6.cell? ⟨b11, 6, none⟩ = some (.slice s5.A s5.n s5.c) := by first | exact e4.cell 6 | (rw [hms5]; exact e4.cell 6)
      have z0 : w6.cell? ⟨b7, 0, none⟩ = some (.int .i64 v.map.W) := ebk.cell 0
      have z1 : w6.cell? ⟨b7, 1, none⟩ = some (.int .i64 v.map.H) := ebk.cell 1
      have z2 : w6.cell? ⟨b7, 2, none⟩ = some (.slice s.ms.A s.ms.n s.ms.c) := ebk.cell 2
      have z3 : w6.cell? ⟨b7, 3, none⟩ = some (.slice s.ms.A2 s.ms.n2 s.ms.c2) := ebk.cell 3
      have z4 : w6.cell? ⟨b7, 4, none⟩ = some (.int .u64 v.st) := ebk.cell 4
      have z5 : w6.cell? ⟨b7, 5, none⟩ = some (.int .i64 v.tick) := ebk.cell 5
      have z6 : w6.cell? ⟨b7, 6, none⟩ = some (.slice s.A s.n s.c) := ebk.cell 6
      have fz0 : w6.frozen? ⟨b7, 0, none⟩ = false := ebk.frozen 0
      have fz1 : w6.frozen? ⟨b7, 1, none⟩ = false := ebk.frozen 1
      have fz2 : w6.frozen? ⟨b7, 2, none⟩ = false := ebk.frozen 2
      have fz3 : w6.frozen? ⟨b7, 3, none⟩ = false := ebk.frozen 3
      have fz4 : w6.frozen? ⟨b7, 4, none⟩ = false := ebk.frozen 4
      have fz5 : w6.frozen? ⟨b7, 5, none⟩ = false := ebk.frozen 5
      have fz6 : w6.frozen? ⟨b7, 6, none⟩ = false := ebk.frozen 6
      have o0 : w6.cell? ⟨b10, 0, none⟩ = some (.int .i64 o.kind) := e5.cell 0
      have o1 : w6.cell? ⟨b10, 1, none⟩ = some (.int .i64 o.id) := e5.cell 1
      have l7 := ebk.lt
      have l10 := e5.lt
      have l11 := e4.lt
      have HE1 := Lib.hid e1
      have HE2 := Lib.hid e2
      have HE3 := Lib.hid e3
      have HEBK := Lib.hid ebk
      clear hms5 e1 e2 e3 e4 e5 ebk p0 p1 p2 p3 p4 p5 p6 q0 q1 q2 q3 q4 q5 q6 q7 q8
      obtain ⟨x3, hx3⟩ : ∃ x, (o.kind == 3) = x := ⟨_, rfl⟩
      obtain ⟨x4, hx4⟩ : ∃ x, (o.kind == 4) = x := ⟨_, rfl⟩
      have hko : (x3 = false ∧ x4 = false) ∨ ((x3 = true ∨ x3 = false ∧ x4 = true) ∧ (o.kind = 3 ∨ o.kind = 4)) := by
        cases x3
        · cases x4
          · exact .inl ⟨rfl, rfl⟩
          · exact .inr ⟨.inr ⟨rfl, rfl⟩, .inr (by simpa using hx4)⟩
        · exact .inr ⟨.inl rfl, .inl (by simpa using hx3)⟩
      rcases hko with ⟨rfl, rfl⟩ | ⟨hk34, hor⟩
      · go_wp2_with fail
        refine ⟨⟨k + 1, X5, s5, by omega, by go_num, ?_, ?_, ?_, HOX.out, HMX.out.trans HVMR.out, ?_⟩, by simp [intOf]; omega⟩
        · have e0 : Blk (((((((w6.setCell ⟨b7, 0, none⟩ (.int .i64 X5.map.W)).setCell ⟨b7, 1, none⟩ (.int .i64 X5.map.H)).setCell ⟨b7, 2, none⟩ (.slice s5.ms.A s5.ms.n s5.ms.c)).setCell ⟨b7, 3, none⟩ (.slice s5.ms.A2 s5.ms.n2 s5.ms.c2)).setCell ⟨b7, 4, none⟩ (.int .u64 X5.st)).setCell ⟨b7, 5, none⟩ (.int .i64 X5.tick)).setCell ⟨b7, 6, none⟩ (.slice s5.A s5.n s5.c)) b7 58 #[.int .i64 X5.map.W, .int .i64 X5.map.H, .slice s5.ms.A s5.ms.n s5.ms.c, .slice s5.ms.A2 s5.ms.n2 s5.ms.c2, .int .u64 X5.st, .int .i64 X5.tick, .slice s5.A s5.n s5.c] := (((((((HEBK.out.set_ 0 _).set_ 1 _).set_ 2 _).set_ 3 _).set_ 4 _).set_ 5 _).set_ 6 _)
          exact e0
        · have e2 : ∀ jj : Nat, jj ≠ b7 → (((((((w6.setCell ⟨b7, 0, none⟩ (.int .i64 X5.map.W)).setCell ⟨b7, 1, none⟩ (.int .i64 X5.map.H)).setCell ⟨b7, 2, none⟩ (.slice s5.ms.A s5.ms.n s5.ms.c)).setCell ⟨b7, 3, none⟩ (.slice s5.ms.A2 s5.ms.n2 s5.ms.c2)).setCell ⟨b7, 4, none⟩ (.int .u64 X5.st)).setCell ⟨b7, 5, none⟩ (.int .i64 X5.tick)).setCell ⟨b7, 6, none⟩ (.slice s5.A s5.n s5.c)).heap[jj]? = w6.heap[jj]? := fun jj hjj => ((Below.heap_setCell _ _ _ jj hjj).trans ((Below.heap_setCell _ _ _ jj hjj).trans ((Below.heap_setCell _ _ _ jj hjj).trans ((Below.heap_setCell _ _ _ jj hjj).trans ((Below.heap_setCell _ _ _ jj hjj).trans ((Below.heap_setCell _ _ _ jj hjj).trans (Below.heap_setCell _ _ _ jj hjj)))))))
          exact Clear.box HE1.out e2
        · have := HLX.out; have := HVLR.out; omega
        · have hb6 : Below w.heap.size w w6 := HBQW.out.trans (HE3.out.mono HBQW.out.size); exact (by repeat (first | with_reducible exact Below.refl _ _ | with_reducible assumption | with_reducible refine Below.drew ?_ | with_reducible refine below_drews ?_ _ | with_reducible refine Below.alloc ?_ (by first | omega | (simp; done) | (simp; omega)) _ | with_reducible refine Below.setCell ?_ (by first | omega | (simp; done) | (simp; omega)) _))
      · obtain ⟨ap1, ap2, ap3, ap4⟩ := HAP.out hor
        have a8 := HE1.out.at_ (Nat.le_of_lt l7)
        have a9 := HE2.out.at_ (Nat.le_of_lt l7)
        have hn5 : s5.n = s.n := by have := a8.len; have := a9.len; omega
        have tt1 : ((s5.n : Int) != (s.n : Int)) = false := by rw [hn5]; exact bne_self_eq_false _
        have tt2 : (X5.st != v.st) = false := by rw [ap2]; exact bne_self_eq_false _
        have tt3 : (X5.tick != v.tick) = false := by rw [ap3]; exact bne_self_eq_false _
        have hn6 : s5.n ≤ 999 := by omega
        have HN5 := Lib.hid hn5
        have HRX := Lib.hid a8.l
        have HRV := Lib.hid a9.l
        have HAP4 := Lib.hid ap4
        have HXL := Lib.hid a8.len
        have HVL := Lib.hid a9.len
        clear ap1 ap2 ap3 ap4 a8 a9 hn5 hor
        rcases hk34 with rfl | ⟨rfl, rfl⟩
        all_goals
          go_wp2_with fail
          obtain ⟨wo, rfl⟩ : ∃ wo : World, wo = wr := ⟨_, rfl⟩
          go_loopw [13] (fun i wq => ∃ j : Nat, j ≤ s5.n ∧ i = .int .i64 (j : Nat) ∧ Below w6.heap.size w6 wq) (fun i _ => s5.n - (intOf i).toNat)
          case atStart => exact ⟨0, Nat.zero_le _, rfl, Below.refl _ _⟩
          case round =>
            obtain ⟨j, hj, rfl, hbq⟩ := hrel
            have hsq := hbq.size
            have c11 : wr.cell? ⟨b11, 6, none⟩ = some (.slice s5.A s5.n s5.c) := (hbq.cell (p := ⟨b11, 6, none⟩) l11).trans y6
            have c7 : wr.cell? ⟨b7, 6, none⟩ = some (.slice s.A s.n s.c) := (hbq.cell (p := ⟨b7, 6, none⟩) l7).trans z6
            by_cases hjn : j < s5.n
            · have hjs : j < s.n := by have := HN5.out; omega
              have hjs2 : (j : Int) < (s.n : Int) := by omega
              obtain ⟨a, ha⟩ : ∃ a, v.l[j]? = some a := ⟨_, List.getElem?_eq_getElem (by have := HVL.out; omega)⟩
              obtain ⟨b, hb⟩ : ∃ b, X5.l[j]? = some b := ⟨_, List.getElem?_eq_getElem (by have := HXL.out; omega)⟩
              have hab := HAP4.out j a b ha hb
              obtain ⟨ga, oa, hA, hga, hca⟩ := HRV.out.flat (by omega) (by decide)
              obtain ⟨gb, ob, hB, hgb, hcb⟩ := HRX.out.flat (by omega) (by decide)
              rw [hA] at c7
              rw [hB] at c11
              have c10 : wr.cell? ⟨b10, 1, none⟩ = some (.int .i64 o.id) := (hbq.cell (p := ⟨b10, 1, none⟩) l10).trans o1
              have ka0 : wr.cell? ⟨ga, oa + j * 8, none⟩ = some (.int .i64 a.id) := by exact (hbq.cell (p := ⟨ga, oa + (j * 8 + 0), none⟩) (by show ga < _; omega)).trans (hca _ _ ((entsV_at ha 0 (by decide)).trans rfl))
              have ka1 : wr.cell? ⟨ga, oa + j * 8 + 1, none⟩ = some (.int .i64 a.kind) := by rw [Nat.add_assoc]; exact (hbq.cell (p := ⟨ga, oa + (j * 8 + 1), none⟩) (by show ga < _; omega)).trans (hca _ _ ((entsV_at ha 1 (by decide)).trans rfl))
              have ka2 : wr.cell? ⟨ga, oa + j * 8 + 2, none⟩ = some (.int .i64 a.at_.x) := by rw [Nat.add_assoc]; exact (hbq.cell (p := ⟨ga, oa + (j * 8 + 2), none⟩) (by show ga < _; omega)).trans (hca _ _ ((entsV_at ha 2 (by decide)).trans rfl))
              have ka3 : wr.cell? ⟨ga, oa + j * 8 + 3, none⟩ = some (.int .i64 a.at_.y) := by rw [Nat.add_assoc]; exact (hbq.cell (p := ⟨ga, oa + (j * 8 + 3), none⟩) (by show ga < _; omega)).trans (hca _ _ ((entsV_at ha 3 (by decide)).trans rfl))
              have ka4 : wr.cell? ⟨ga, oa + j * 8 + 4, none⟩ = some (.int .i64 a.vel.x) := by rw [Nat.add_assoc]; exact (hbq.cell (p := ⟨ga, oa + (j * 8 + 4), none⟩) (by show ga < _; omega)).trans (hca _ _ ((entsV_at ha 4 (by decide)).trans rfl))
              have ka5 : wr.cell? ⟨ga, oa + j * 8 + 5, none⟩ = some (.int .i64 a.vel.y) := by rw [Nat.add_assoc]; exact (hbq.cell (p := ⟨ga, oa + (j * 8 + 5), none⟩) (by show ga < _; omega)).trans (hca _ _ ((entsV_at ha 5 (by decide)).trans rfl))
              have ka6 : wr.cell? ⟨ga, oa + j * 8 + 6, none⟩ = some (.int .i64 a.health) := by rw [Nat.add_assoc]; exact (hbq.cell (p := ⟨ga, oa + (j * 8 + 6), none⟩) (by show ga < _; omega)).trans (hca _ _ ((entsV_at ha 6 (by decide)).trans rfl))
              have ka7 : wr.cell? ⟨ga, oa + j * 8 + 7, none⟩ = some (.int .i64 a.wait) := by rw [Nat.add_assoc]; exact (hbq.cell (p := ⟨ga, oa + (j * 8 + 7), none⟩) (by show ga < _; omega)).trans (hca _ _ ((entsV_at ha 7 (by decide)).trans rfl))
              have kb0 : wr.cell? ⟨gb, ob + j * 8, none⟩ = some (.int .i64 b.id) := by exact (hbq.cell (p := ⟨gb, ob + (j * 8 + 0), none⟩) (by show gb < _; omega)).trans (hcb _ _ ((entsV_at hb 0 (by decide)).trans rfl))
              have kb1 : wr.cell? ⟨gb, ob + j * 8 + 1, none⟩ = some (.int .i64 b.kind) := by rw [Nat.add_assoc]; exact (hbq.cell (p := ⟨gb, ob + (j * 8 + 1), none⟩) (by show gb < _; omega)).trans (hcb _ _ ((entsV_at hb 1 (by decide)).trans rfl))
              have kb2 : wr.cell? ⟨gb, ob + j * 8 + 2, none⟩ = some (.int .i64 b.at_.x) := by rw [Nat.add_assoc]; exact (hbq.cell (p := ⟨gb, ob + (j * 8 + 2), none⟩) (by show gb < _; omega)).trans (hcb _ _ ((entsV_at hb 2 (by decide)).trans rfl))
              have kb3 : wr.cell? ⟨gb, ob + j * 8 + 3, none⟩ = some (.int .i64 b.at_.y) := by rw [Nat.add_assoc]; exact (hbq.cell (p := ⟨gb, ob + (j * 8 + 3), none⟩) (by show gb < _; omega)).trans (hcb _ _ ((entsV_at hb 3 (by decide)).trans rfl))
              have kb4 : wr.cell? ⟨gb, ob + j * 8 + 4, none⟩ = some (.int .i64 b.vel.x) := by rw [Nat.add_assoc]; exact (hbq.cell (p := ⟨gb, ob + (j * 8 + 4), none⟩) (by show gb < _; omega)).trans (hcb _ _ ((entsV_at hb 4 (by decide)).trans rfl))
              have kb5 : wr.cell? ⟨gb, ob + j * 8 + 5, none⟩ = some (.int .i64 b.vel.y) := by rw [Nat.add_assoc]; exact (hbq.cell (p := ⟨gb, ob + (j * 8 + 5), none⟩) (by show gb < _; omega)).trans (hcb _ _ ((entsV_at hb 5 (by decide)).trans rfl))
              have kb6 : wr.cell? ⟨gb, ob + j * 8 + 6, none⟩ = some (.int .i64 b.health) := by rw [Nat.add_assoc]; exact (hbq.cell (p := ⟨gb, ob + (j * 8 + 6), none⟩) (by show gb < _; omega)).trans (hcb _ _ ((entsV_at hb 6 (by decide)).trans rfl))
              have kb7 : wr.cell? ⟨gb, ob + j * 8 + 7, none⟩ = some (.int .i64 b.wait) := by rw [Nat.add_assoc]; exact (hbq.cell (p := ⟨gb, ob + (j * 8 + 7), none⟩) (by show gb < _; omega)).trans (hcb _ _ ((entsV_at hb 7 (by decide)).trans rfl))
              have hnq := fun W => neqEnt b a W
              obtain ⟨dv, hdv⟩ : ∃ dv, (!decide (b = a)) = dv := ⟨_, rfl⟩
              simp only [hdv] at hnq
              have hzz : dv = false ∨ dv = true ∧ (b.id != o.id) = false ∧ (b.kind != 1) = false := by
                subst hdv
                rcases hab with h | ⟨h1, h2⟩
                · exact .inl (by simp [h])
                · by_cases h3 : b = a
                  · exact .inl (by simp [h3])
                  · exact .inr ⟨by simp [h3], by rw [h1]; exact bne_self_eq_false _, by rw [h2]; rfl⟩
              have lgs : ga < wr.heap.size ∧ gb < wr.heap.size ∧ b7 < wr.heap.size ∧ b10 < wr.heap.size ∧ b11 < wr.heap.size := by omega
              obtain ⟨lg1, lg2, lg3, lg4, lg5⟩ := lgs
              have HBQ2 := Lib.hid hbq
              clear hbq hca hcb hA hB ha hb hab hdv y0 z0 fz0 y1 z1 fz1 y2 z2 fz2 y3 z3 fz3 y4 z4 fz4 y5 z5 fz5 y6 z6 fz6 o0 o1
              rcases hzz with rfl | ⟨rfl, hz1, hz2⟩
              all_goals
                go_wp2
                refine wp_region_kin' wr.heap.size (by kernel_rfl) (by kernel_rfl) (fun kk => ?_)
                repeat (first | go_big_quiet_step (fail) | quiet_step (fail))
                refine wpQuiet_nil ?_
                rintro _ ⟨⟨wk, hwk⟩, rfl⟩
                go_wp2
                go_roundw
                case rel => exact ⟨j + 1, hjn, by go_num, HBQ2.out.trans (hwk.mono hsq)⟩
                case measure => simp [intOf]; omega
            · have hebk := HEBK.out.below hbq l7
              have l7b := hebk.lt
              have t0 : wr.cell? ⟨b11, 0, none⟩ = some (.int .i64 X5.map.W) := (hbq.cell (p := ⟨b11, 0, none⟩) l11).trans y0
              have t1 : wr.cell? ⟨b11, 1, none⟩ = some (.int .i64 X5.map.H) := (hbq.cell (p := ⟨b11, 1, none⟩) l11).trans y1
              have t2 : wr.cell? ⟨b11, 2, none⟩ = some (.slice s5.ms.A s5.ms.n s5.ms.c) := (hbq.cell (p := ⟨b11, 2, none⟩) l11).trans y2
              have t3 : wr.cell? ⟨b11, 3, none⟩ = some (.slice s5.ms.A2 s5.ms.n2 s5.ms.c2) := (hbq.cell (p := ⟨b11, 3, none⟩) l11).trans y3
              have t4 : wr.cell? ⟨b11, 4, none⟩ = some (.int .u64 X5.st) := (hbq.cell (p := ⟨b11, 4, none⟩) l11).trans y4
              have t5 : wr.cell? ⟨b11, 5, none⟩ = some (.int .i64 X5.tick) := (hbq.cell (p := ⟨b11, 5, none⟩) l11).trans y5
              have t6 : wr.cell? ⟨b11, 6, none⟩ = some (.slice s5.A s5.n s5.c) := (hbq.cell (p := ⟨b11, 6, none⟩) l11).trans y6
              have u0' : wr.cell? ⟨b7, 0, none⟩ = some (.int .i64 v.map.W) := hebk.cell 0
              have u1' : wr.cell? ⟨b7, 1, none⟩ = some (.int .i64 v.map.H) := hebk.cell 1
              have u2' : wr.cell? ⟨b7, 2, none⟩ = some (.slice s.ms.A s.ms.n s.ms.c) := hebk.cell 2
              have u3' : wr.cell? ⟨b7, 3, none⟩ = some (.slice s.ms.A2 s.ms.n2 s.ms.c2) := hebk.cell 3
              have u4' : wr.cell? ⟨b7, 4, none⟩ = some (.int .u64 v.st) := hebk.cell 4
              have u5' : wr.cell? ⟨b7, 5, none⟩ = some (.int .i64 v.tick) := hebk.cell 5
              have u6' : wr.cell? ⟨b7, 6, none⟩ = some (.slice s.A s.n s.c) := hebk.cell 6
              have fy0 : wr.frozen? ⟨b7, 0, none⟩ = false := hebk.frozen 0
              have fy1 : wr.frozen? ⟨b7, 1, none⟩ = false := hebk.frozen 1
              have fy2 : wr.frozen? ⟨b7, 2, none⟩ = false := hebk.frozen 2
              have fy3 : wr.frozen? ⟨b7, 3, none⟩ = false := hebk.frozen 3
              have fy4 : wr.frozen? ⟨b7, 4, none⟩ = false := hebk.frozen 4
              have fy5 : wr.frozen? ⟨b7, 5, none⟩ = false := hebk.frozen 5
              have fy6 : wr.frozen? ⟨b7, 6, none⟩ = false := hebk.frozen 6
              have HEBK2 := Lib.hid hebk
              have HBQ2 := Lib.hid hbq
              clear hbq hebk c7 c11 y0 z0 fz0 y1 z1 fz1 y2 z2 fz2 y3 z3 fz3 y4 z4 fz4 y5 z5 fz5 y6 z6 fz6 o0 o1
              go_wp2_with fail
              refine ⟨⟨k + 1, X5, s5, by omega, by go_num, ?_, ?_, ?_, HOX.out, HMX.out.trans HVMR.out, ?_⟩, by simp [intOf]; omega⟩
              · have e0 : Blk (((((((wr.setCell ⟨b7, 0, none⟩ (.int .i64 X5.map.W)).setCell ⟨b7, 1, none⟩ (.int .i64 X5.map.H)).setCell ⟨b7, 2, none⟩ (.slice s5.ms.A s5.ms.n s5.ms.c)).setCell ⟨b7, 3, none⟩ (.slice s5.ms.A2 s5.ms.n2 s5.ms.c2)).setCell ⟨b7, 4, none⟩ (.int .u64 X5.st)).setCell ⟨b7, 5, none⟩ (.int .i64 X5.tick)).setCell ⟨b7, 6, none⟩ (.slice s5.A s5.n s5.c)) b7 58 #[.int .i64 X5.map.W, .int .i64 X5.map.H, .slice s5.ms.A s5.ms.n s5.ms.c, .slice s5.ms.A2 s5.ms.n2 s5.ms.c2, .int .u64 X5.st, .int .i64 X5.tick, .slice s5.A s5.n s5.c] := (((((((HEBK2.out.set_ 0 _).set_ 1 _).set_ 2 _).set_ 3 _).set_ 4 _).set_ 5 _).set_ 6 _)
                exact e0
              · have e2 : ∀ jj : Nat, jj ≠ b7 → (((((((wr.setCell ⟨b7, 0, none⟩ (.int .i64 X5.map.W)).setCell ⟨b7, 1, none⟩ (.int .i64 X5.map.H)).setCell ⟨b7, 2, none⟩ (.slice s5.ms.A s5.ms.n s5.ms.c)).setCell ⟨b7, 3, none⟩ (.slice s5.ms.A2 s5.ms.n2 s5.ms.c2)).setCell ⟨b7, 4, none⟩ (.int .u64 X5.st)).setCell ⟨b7, 5, none⟩ (.int .i64 X5.tick)).setCell ⟨b7, 6, none⟩ (.slice s5.A s5.n s5.c)).heap[jj]? = wr.heap[jj]? := fun jj hjj => ((Below.heap_setCell _ _ _ jj hjj).trans ((Below.heap_setCell _ _ _ jj hjj).trans ((Below.heap_setCell _ _ _ jj hjj).trans ((Below.heap_setCell _ _ _ jj hjj).trans ((Below.heap_setCell _ _ _ jj hjj).trans ((Below.heap_setCell _ _ _ jj hjj).trans (Below.heap_setCell _ _ _ jj hjj)))))))
                exact Clear.box (HE1.out.below HBQ2.out (Nat.le_refl _) (Nat.le_of_lt l7)) e2
              · have := HLX.out; have := HVLR.out; omega
              · have hb6 : Below w.heap.size w wr := HBQW.out.trans ((HE3.out.trans (HBQ2.out.mono HE3.out.size)).mono HBQW.out.size); exact (by repeat (first | with_reducible exact Below.refl _ _ | with_reducible assumption | with_reducible refine Below.drew ?_ | with_reducible refine below_drews ?_ _ | with_reducible refine Below.alloc ?_ (by first | omega | (simp; done) | (simp; omega)) _ | with_reducible refine Below.setCell ?_ (by first | omega | (simp; done) | (simp; omega)) _))
    · go_wp2
      go_ret
      exact ⟨rfl, hbr⟩
theorem lawApart (m : MapV) (s : MapS) (seed balls : Int) (l : List OpV) (A : Option Addr) (n c : Nat) (w : World) (h : MapAt w w.heap.size m s) (hl : Reads w w.heap.size 9 A n (opsV l)) (hlo : ∀ o ∈ l, OpOk o ∧ -128 ≤ o.c.mx ∧ -128 ≤ o.c.my) :
    Calls Try.prog 9 #[(.agg #[.int .i64 m.W, .int .i64 m.H, .slice s.A s.n s.c, .slice s.A2 s.n2 s.c2]), .agg #[.int .u64 seed, .int .i64 balls], .slice A n c] w fun r w' => r = .returned (.bool true) ∧ Below w.heap.size w w' := by
  by_cases h1 : s.n ≤ 400 ∧ s.n2 ≤ 400
  · by_cases h2 : n ≤ 100
    · cases h3 : newOk m balls with
      | false => exact lawApartErr m s seed balls A n c w h h1 h2 h3
      | true =>
        unfold newOk at h3
        simp only [Bool.and_eq_true, decide_eq_true_eq] at h3
        obtain ⟨b, rfl⟩ := Int.eq_ofNat_of_zero_le h3.2.1
        exact lawApartYes m s seed b l A n c w h hl hlo h1 h2 h3.1 (by omega)
    · exact lawApartNo m s seed balls A n c w h (.inr (by omega))
  · exact lawApartNo m s seed balls A n c w h (.inl h1)
end Go.Proofs.Ythkgeeonhppliaa
