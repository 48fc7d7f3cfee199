/- The walk of the law MoveFree. -/
import Derived.Test.YthkgeeonhppliaaMoveAwake
set_option linter.unusedSimpArgs false
set_option linter.unusedVariables false
namespace Go.Proofs.Ythkgeeonhppliaa
open Go.RowKit
theorem walk_free (m : MapV) (e : EntV) (mx my : Int) (h : standsB m e.at_ = true) (x0 : -128 ≤ mx) (x1 : mx ≤ 127) (y0 : -128 ≤ my) (y1 : my ≤ 127) :
    standsB m (walkF m e mx my).at_ = true ∧ -16384 ≤ (walkF m e mx my).at_.x - e.at_.x ∧ (walkF m e mx my).at_.x - e.at_.x ≤ 16384 ∧ -16384 ≤ (walkF m e mx my).at_.y - e.at_.y ∧ (walkF m e mx my).at_.y - e.at_.y ≤ 16384 ∧
      (walkF m e mx my).id = e.id ∧ (walkF m e mx my).health = e.health ∧ (walkF m e mx my).wait = e.wait ∧ (walkF m e mx my).kind = e.kind := by
  unfold walkF
  split
  · refine ⟨h, ?_, ?_, ?_, ?_, rfl, rfl, rfl, rfl⟩ <;> omega
  · rename_i hn
    have q4 : mx ≠ -128 := fun hh => hn (.inr (.inr (.inr (.inl hh))))
    have q5 : my ≠ -128 := fun hh => hn (.inr (.inr (.inr (.inr hh))))
    obtain ⟨p1, p2⟩ := partF_le mx (by omega) x1
    obtain ⟨p3, p4⟩ := partF_le my (by omega) y1
    obtain ⟨h1, h2, h3⟩ := stepped_stands m { e with vel := ⟨partF mx, partF my⟩ } h
    refine ⟨h1, ?_, ?_, ?_, ?_, rfl, rfl, rfl, rfl⟩
    all_goals
      rcases h2 with ⟨h2, -⟩ | ⟨h2, -⟩ <;> rcases h3 with ⟨h3, -⟩ | ⟨h3, -⟩
    all_goals
      simp only at h2 h3
      omega
def stepsV (l : List (Int × Int)) : List Value := l.flatMap fun p => [.int .i8 p.1, .int .i8 p.2]
theorem stepsV_at (l : List (Int × Int)) (k : Nat) (v : Int × Int) (h : l[k]? = some v) : (stepsV l)[k * 2]? = some (.int .i8 v.1) ∧ (stepsV l)[k * 2 + 1]? = some (.int .i8 v.2) := by
  unfold stepsV
  induction l generalizing k with
  | nil => simp at h
  | cons a l ih =>
    cases k with
    | zero => simp at h; subst h; simp [List.flatMap_cons]
    | succ k =>
      have := ih k (by simpa using h)
      rw [show (k + 1) * 2 = k * 2 + 2 by omega]
      simpa [List.flatMap_cons] using this
theorem stepsV_length (l : List (Int × Int)) : (stepsV l).length = l.length * 2 := by
  unfold stepsV
  induction l with
  | nil => rfl
  | cons a l ih => simp [List.flatMap_cons, ih]; omega
set_option maxRecDepth 100000 in
set_option maxHeartbeats 4000000 in
theorem lawMoveFreeNo (m : MapV) (s : MapS) (e : EntV) (A : Option Addr) (n c : Nat) (w : World) (h : MapAt w w.heap.size m s) (hno : ¬ (s.n ≤ 1100 ∧ s.n2 ≤ 1100) ∨ 50 < n ∨ standsB m e.at_ = false) :
    Calls Try.prog 3 #[(.agg #[.int .i64 m.W, .int .i64 m.H, .slice s.A s.n s.c, .slice s.A2 s.n2 s.c2]), (.agg #[.int .i64 e.id, .int .i64 e.kind, .int .i64 e.at_.x, .int .i64 e.at_.y, .int .i64 e.vel.x, .int .i64 e.vel.y, .int .i64 e.health, .int .i64 e.wait]), .slice A n c] w fun r w' => r = .returned (.bool true) ∧ Below w.heap.size w w' := by
  have hF := fun W => few12 m s W
  have hS := fun W (hW : Below w.heap.size w W) => mStands m s e.at_.x e.at_.y W ((h.below hW).upto hW.size)
  have hat : (⟨e.at_.x, e.at_.y⟩ : VecV) = e.at_ := rfl
  simp only [hat] at hS
  clear hat
  obtain ⟨f, hf⟩ : ∃ f, decide (s.n ≤ 1100 ∧ s.n2 ≤ 1100) = f := ⟨_, rfl⟩
  obtain ⟨st, hst⟩ : ∃ st, standsB m e.at_ = st := ⟨_, rfl⟩
  obtain ⟨d, hd⟩ : ∃ d, decide ((50 : Int) < (n : Int)) = d := ⟨_, rfl⟩
  simp only [hf] at hF
  simp only [hst] at hS
  have hno' : f = false ∨ d = true ∨ st = false := by
    rcases hno with h1 | h1 | h1
    · exact .inl (by rw [← hf]; exact decide_eq_false h1)
    · exact .inr (.inl (by rw [← hd]; exact decide_eq_true (by omega)))
    · exact .inr (.inr (by rw [← hst]; exact h1))
  have HN := Lib.hid hno'
  clear hno hno' h hf hst
  go_enter Try.func3, Try.ntmps3
  cases f
  rotate_left
  cases d
  cases st
  rotate_left
  · exact absurd HN.out (by simp)
  all_goals
    go_wp2_with (first
      | (go_at_call 12; refine (awake12 _).mono ?_; rintro e w1 ⟨rfl, hb1⟩; obtain ⟨hc1, hf1⟩ := bcell hb1; have hs1 := hb1.size; (try simp at hs1); have l1 : w.heap.size < w1.heap.size := (by omega); have l2 : w.heap.size + 1 < w1.heap.size := (by omega); have B1 : Below w.heap.size w w1 := Below.trans (by repeat (first | with_reducible exact Below.refl _ _ | with_reducible assumption | with_reducible refine Below.drew ?_ | with_reducible refine below_drews ?_ _ | with_reducible refine Below.alloc ?_ (by first | omega | (simp; done) | (simp; omega)) _ | with_reducible refine Below.setCell ?_ (by first | omega | (simp; done) | (simp; omega)) _)) (hb1.mono (by (try simp) <;> omega)))
      | (go_at_call 13; refine (hF _).mono ?_; rintro e w1 ⟨rfl, hb1⟩; obtain ⟨hc1, hf1⟩ := bcell hb1; have hs1 := hb1.size; (try simp at hs1); have l1 : w.heap.size < w1.heap.size := (by omega); have l2 : w.heap.size + 1 < w1.heap.size := (by omega); have B1 : Below w.heap.size w w1 := Below.trans (by repeat (first | with_reducible exact Below.refl _ _ | with_reducible assumption | with_reducible refine Below.drew ?_ | with_reducible refine below_drews ?_ _ | with_reducible refine Below.alloc ?_ (by first | omega | (simp; done) | (simp; omega)) _ | with_reducible refine Below.setCell ?_ (by first | omega | (simp; done) | (simp; omega)) _)) (hb1.mono (by (try simp) <;> omega)))
      | (go_at_call 14; refine (hS _ (by first | assumption | exact Below.trans B1 (by repeat (first | with_reducible exact Below.refl _ _ | with_reducible assumption | with_reducible refine Below.drew ?_ | with_reducible refine below_drews ?_ _ | with_reducible refine Below.alloc ?_ (by first | omega | (simp; done) | (simp; omega)) _ | with_reducible refine Below.setCell ?_ (by first | omega | (simp; done) | (simp; omega)) _)))).mono ?_; rintro e w1 ⟨rfl, hb1⟩; obtain ⟨hc1, hf1⟩ := bcell hb1; have hs1 := hb1.size; (try simp at hs1); have l1 : w.heap.size < w1.heap.size := (by omega); have l2 : w.heap.size + 1 < w1.heap.size := (by omega); have B1 : Below w.heap.size w w1 := Below.trans (by repeat (first | with_reducible exact Below.refl _ _ | with_reducible assumption | with_reducible refine Below.drew ?_ | with_reducible refine below_drews ?_ _ | with_reducible refine Below.alloc ?_ (by first | omega | (simp; done) | (simp; omega)) _ | with_reducible refine Below.setCell ?_ (by first | omega | (simp; done) | (simp; omega)) _)) (hb1.mono (by (try simp) <;> omega))))
    go_ret
    exact ⟨rfl, (by repeat (first | with_reducible exact Below.refl _ _ | with_reducible assumption | with_reducible refine Below.drew ?_ | with_reducible refine below_drews ?_ _ | with_reducible refine Below.alloc ?_ (by first | omega | (simp; done) | (simp; omega)) _ | with_reducible refine Below.setCell ?_ (by first | omega | (simp; done) | (simp; omega)) _))⟩
set_option maxRecDepth 100000 in
set_option maxHeartbeats 8000000 in
theorem lawMoveFreeYes (m : MapV) (s : MapS) (e : EntV) (l : List (Int × Int)) (A : Option Addr) (n c : Nat) (w : World) (h : MapAt w w.heap.size m s) (hl : Reads w w.heap.size 2 A n (stepsV l)) (hb8 : ∀ p ∈ l, (-128 ≤ p.1 ∧ p.1 ≤ 127) ∧ (-128 ≤ p.2 ∧ p.2 ≤ 127))
    (hf : s.n ≤ 1100 ∧ s.n2 ≤ 1100) (hn : n ≤ 50) (hst : standsB m e.at_ = true) :
    Calls Try.prog 3 #[(.agg #[.int .i64 m.W, .int .i64 m.H, .slice s.A s.n s.c, .slice s.A2 s.n2 s.c2]), (.agg #[.int .i64 e.id, .int .i64 e.kind, .int .i64 e.at_.x, .int .i64 e.at_.y, .int .i64 e.vel.x, .int .i64 e.vel.y, .int .i64 e.health, .int .i64 e.wait]), .slice A n c] w fun r w' => r = .returned (.bool true) ∧ Below w.heap.size w w' := by
  have hF := fun W => few12 m s W
  have hS := fun W (hW : Below w.heap.size w W) => mStands m s e.at_.x e.at_.y W ((h.below hW).upto hW.size)
  have hat : (⟨e.at_.x, e.at_.y⟩ : VecV) = e.at_ := rfl
  simp only [hat, hst] at hS
  simp only [decide_eq_true hf] at hF
  have hd : decide ((50 : Int) < (n : Int)) = false := decide_eq_false (by omega)
  have hll : l.length = n := by have := hl.1; rw [stepsV_length] at this; omega
  have HLL := Lib.hid hll
  have HM := Lib.hid h
  have HST := Lib.hid hst
  clear hat hf hst hll h
  have hmb0 : Blk ((w.alloc (.cells #[.int .i64 m.W, .int .i64 m.H, .slice s.A s.n s.c, .slice s.A2 s.n2 s.c2] 25)).alloc (.cells #[.int .i64 e.id, .int .i64 e.kind, .int .i64 e.at_.x, .int .i64 e.at_.y, .int .i64 e.vel.x, .int .i64 e.vel.y, .int .i64 e.health, .int .i64 e.wait] 30)) w.heap.size 25 #[.int .i64 m.W, .int .i64 m.H, .slice s.A s.n s.c, .slice s.A2 s.n2 s.c2] := (Blk.new _ _ _).alloc _
  have heb0 : Blk ((w.alloc (.cells #[.int .i64 m.W, .int .i64 m.H, .slice s.A s.n s.c, .slice s.A2 s.n2 s.c2] 25)).alloc (.cells #[.int .i64 e.id, .int .i64 e.kind, .int .i64 e.at_.x, .int .i64 e.at_.y, .int .i64 e.vel.x, .int .i64 e.vel.y, .int .i64 e.health, .int .i64 e.wait] 30)) (w.heap.size + 1) 30 #[.int .i64 e.id, .int .i64 e.kind, .int .i64 e.at_.x, .int .i64 e.at_.y, .int .i64 e.vel.x, .int .i64 e.vel.y, .int .i64 e.health, .int .i64 e.wait] := by
    have := Blk.new (w.alloc (.cells #[.int .i64 m.W, .int .i64 m.H, .slice s.A s.n s.c, .slice s.A2 s.n2 s.c2] 25)) 30 #[.int .i64 e.id, .int .i64 e.kind, .int .i64 e.at_.x, .int .i64 e.at_.y, .int .i64 e.vel.x, .int .i64 e.vel.y, .int .i64 e.health, .int .i64 e.wait]
    simpa using this
  have HMB := Lib.hid hmb0
  have HEB := Lib.hid heb0
  clear hmb0 heb0
  go_enter Try.func3, Try.ntmps3
  go_wp2_with (first
    | (go_at_call 12; refine (awake12 _).mono ?_; rintro r wa ⟨rfl, hba⟩; obtain ⟨hc1, hf1⟩ := bcell hba; have hs1 := hba.size; (try simp at hs1); have l1 : w.heap.size < wa.heap.size := (by omega); have l2 : w.heap.size + 1 < wa.heap.size := (by omega); have mb := Lib.hid (Blk.below HMB.out hba (by simp; omega)); have eb := Lib.hid (Blk.below HEB.out hba (by simp)); have Ba : Below w.heap.size w wa := Below.trans (by repeat (first | with_reducible exact Below.refl _ _ | with_reducible assumption | with_reducible refine Below.drew ?_ | with_reducible refine below_drews ?_ _ | with_reducible refine Below.alloc ?_ (by first | omega | (simp; done) | (simp; omega)) _ | with_reducible refine Below.setCell ?_ (by first | omega | (simp; done) | (simp; omega)) _)) (hba.mono (by simp; omega)))
    | (go_at_call 13; refine (hF _).mono ?_; rintro r wb ⟨rfl, hbb⟩; obtain ⟨hc1, hf1⟩ := bcell hbb; have hs1 := hbb.size; (try simp at hs1); have l1 : w.heap.size < wb.heap.size := (by omega); have l2 : w.heap.size + 1 < wb.heap.size := (by omega); have mb := Lib.hid (Blk.below mb.out hbb (by omega)); have eb := Lib.hid (Blk.below eb.out hbb (by omega)); have Ba : Below w.heap.size w wb := Ba.trans (hbb.mono (by omega)))
    | (go_at_call 14; refine (hS _ Ba).mono ?_; rintro r wc ⟨rfl, hbc⟩; obtain ⟨hc1, hf1⟩ := bcell hbc; have hs1 := hbc.size; (try simp at hs1); have l1 : w.heap.size < wc.heap.size := (by omega); have l2 : w.heap.size + 1 < wc.heap.size := (by omega); have mb := Lib.hid (Blk.below mb.out hbc (by omega)); have eb := Lib.hid (Blk.below eb.out hbc (by omega)); have Ba : Below w.heap.size w wc := Ba.trans (hbc.mono (by omega))))
  have HBA := Lib.hid Ba
  clear hF hS hba hbb hbc Ba
  go_loopw [7] (fun i wr => ∃ (k : Nat) (E : EntV), k ≤ n ∧ i = .int .i64 (k : Nat) ∧ Blk wr w.heap.size 25 #[.int .i64 m.W, .int .i64 m.H, .slice s.A s.n s.c, .slice s.A2 s.n2 s.c2] ∧ Blk wr (w.heap.size + 1) 30 #[.int .i64 E.id, .int .i64 E.kind, .int .i64 E.at_.x, .int .i64 E.at_.y, .int .i64 E.vel.x, .int .i64 E.vel.y, .int .i64 E.health, .int .i64 E.wait] ∧ standsB m E.at_ = true ∧ Below w.heap.size w wr) (fun i _ => n - (intOf i).toNat)
  case atStart => exact ⟨0, e, Nat.zero_le _, rfl, mb.out, eb.out, HST.out, HBA.out⟩
  case round =>
    obtain ⟨k, E, hk, rfl, hmb, heb, hE, hbw⟩ := hrel
    have hs := hbw.size
    have hl1 := hmb.lt
    have hl2 := heb.lt
    by_cases hlt : k < n
    · obtain ⟨g, off, rfl, hg, hc⟩ := hl.flat (by omega) (by omega)
      obtain ⟨p, hp⟩ : ∃ p, l[k]? = some p := ⟨_, List.getElem?_eq_getElem (by rw [HLL.out]; exact hlt)⟩
      obtain ⟨⟨pa, pb⟩, pc, pd⟩ := hb8 p (List.mem_of_getElem? hp)
      have s0 : wr.cell? ⟨g, off + k * 2, none⟩ = some (.int .i8 p.1) := (hbw.cell (p := ⟨g, off + k * 2, none⟩) hg).trans (hc _ _ (stepsV_at _ _ _ hp).1)
      have s1 : wr.cell? ⟨g, off + k * 2 + 1, none⟩ = some (.int .i8 p.2) := (hbw.cell (p := ⟨g, off + k * 2 + 1, none⟩) hg).trans (hc _ _ (stepsV_at _ _ _ hp).2)
      obtain ⟨f1, f2, f3, f4, f5, f6, f7, f8, f9⟩ := walk_free m E p.1 p.2 hE pa pb pc pd
      have hW := fun W (hW : Below w.heap.size w W) => mWalk m s E p.1 p.2 W ((HM.out.below hW).upto hW.size) pa pb pc pd
      obtain ⟨X, hX⟩ : ∃ X, walkF m E p.1 p.2 = X := ⟨_, rfl⟩
      simp only [hX] at hW
      rw [hX] at f1 f2 f3 f4 f5 f6 f7 f8 f9
      have hS := fun W (hW : Below w.heap.size w W) => mStands m s X.at_.x X.at_.y W ((HM.out.below hW).upto hW.size)
      have hat : (⟨X.at_.x, X.at_.y⟩ : VecV) = X.at_ := rfl
      simp only [hat, f1] at hS
      have m0 : wr.cell? ⟨w.heap.size, 0, none⟩ = some (.int .i64 m.W) := hmb.cell 0
      have m1 : wr.cell? ⟨w.heap.size, 1, none⟩ = some (.int .i64 m.H) := hmb.cell 1
      have m2 : wr.cell? ⟨w.heap.size, 2, none⟩ = some (.slice s.A s.n s.c) := hmb.cell 2
      have m3 : wr.cell? ⟨w.heap.size, 3, none⟩ = some (.slice s.A2 s.n2 s.c2) := hmb.cell 3
      have e0 : wr.cell? ⟨w.heap.size + 1, 0, none⟩ = some (.int .i64 E.id) := heb.cell 0
      have e1 : wr.cell? ⟨w.heap.size + 1, 1, none⟩ = some (.int .i64 E.kind) := heb.cell 1
      have e2 : wr.cell? ⟨w.heap.size + 1, 2, none⟩ = some (.int .i64 E.at_.x) := heb.cell 2
      have e3 : wr.cell? ⟨w.heap.size + 1, 3, none⟩ = some (.int .i64 E.at_.y) := heb.cell 3
      have e4 : wr.cell? ⟨w.heap.size + 1, 4, none⟩ = some (.int .i64 E.vel.x) := heb.cell 4
      have e5 : wr.cell? ⟨w.heap.size + 1, 5, none⟩ = some (.int .i64 E.vel.y) := heb.cell 5
      have e6 : wr.cell? ⟨w.heap.size + 1, 6, none⟩ = some (.int .i64 E.health) := heb.cell 6
      have e7 : wr.cell? ⟨w.heap.size + 1, 7, none⟩ = some (.int .i64 E.wait) := heb.cell 7
      have HW := Lib.hid hW
      have HS := Lib.hid hS
      have HF1 := Lib.hid f1
      have HMB2 := Lib.hid hmb
      have HEB2 := Lib.hid heb
      have HBW := Lib.hid hbw
      have hg3 : g < wr.heap.size := by omega
      clear hW hS hat f1 hX hp hc hmb heb hbw hE HMB HEB mb eb hc1 hf1
      have M0 : wr.drew.cell? ⟨w.heap.size, 0, none⟩ = some (.int .i64 m.W) := m0
      have A0 : ∀ o, (wr.alloc o).drew.cell? ⟨w.heap.size, 0, none⟩ = some (.int .i64 m.W) := fun o => (World.cell?_alloc_lt wr o ⟨w.heap.size, 0, none⟩ hl1).trans m0
      have M1 : wr.drew.cell? ⟨w.heap.size, 1, none⟩ = some (.int .i64 m.H) := m1
      have A1 : ∀ o, (wr.alloc o).drew.cell? ⟨w.heap.size, 1, none⟩ = some (.int .i64 m.H) := fun o => (World.cell?_alloc_lt wr o ⟨w.heap.size, 1, none⟩ hl1).trans m1
      have M2 : wr.drew.cell? ⟨w.heap.size, 2, none⟩ = some (.slice s.A s.n s.c) := m2
      have A2 : ∀ o, (wr.alloc o).drew.cell? ⟨w.heap.size, 2, none⟩ = some (.slice s.A s.n s.c) := fun o => (World.cell?_alloc_lt wr o ⟨w.heap.size, 2, none⟩ hl1).trans m2
      have M3 : wr.drew.cell? ⟨w.heap.size, 3, none⟩ = some (.slice s.A2 s.n2 s.c2) := m3
      have A3 : ∀ o, (wr.alloc o).drew.cell? ⟨w.heap.size, 3, none⟩ = some (.slice s.A2 s.n2 s.c2) := fun o => (World.cell?_alloc_lt wr o ⟨w.heap.size, 3, none⟩ hl1).trans m3
      have M4 : wr.drew.cell? ⟨w.heap.size + 1, 0, none⟩ = some (.int .i64 E.id) := e0
      have A4 : ∀ o, (wr.alloc o).drew.cell? ⟨w.heap.size + 1, 0, none⟩ = some (.int .i64 E.id) := fun o => (World.cell?_alloc_lt wr o ⟨w.heap.size + 1, 0, none⟩ hl2).trans e0
      have M5 : wr.drew.cell? ⟨w.heap.size + 1, 1, none⟩ = some (.int .i64 E.kind) := e1
      have A5 : ∀ o, (wr.alloc o).drew.cell? ⟨w.heap.size + 1, 1, none⟩ = some (.int .i64 E.kind) := fun o => (World.cell?_alloc_lt wr o ⟨w.heap.size + 1, 1, none⟩ hl2).trans e1
      have M6 : wr.drew.cell? ⟨w.heap.size + 1, 2, none⟩ = some (.int .i64 E.at_.x) := e2
      have A6 : ∀ o, (wr.alloc o).drew.cell? ⟨w.heap.size + 1, 2, none⟩ = some (.int .i64 E.at_.x) := fun o => (World.cell?_alloc_lt wr o ⟨w.heap.size + 1, 2, none⟩ hl2).trans e2
      have M7 : wr.drew.cell? ⟨w.heap.size + 1, 3, none⟩ = some (.int .i64 E.at_.y) := e3
      have A7 : ∀ o, (wr.alloc o).drew.cell? ⟨w.heap.size + 1, 3, none⟩ = some (.int .i64 E.at_.y) := fun o => (World.cell?_alloc_lt wr o ⟨w.heap.size + 1, 3, none⟩ hl2).trans e3
      have M8 : wr.drew.cell? ⟨w.heap.size + 1, 4, none⟩ = some (.int .i64 E.vel.x) := e4
      have A8 : ∀ o, (wr.alloc o).drew.cell? ⟨w.heap.size + 1, 4, none⟩ = some (.int .i64 E.vel.x) := fun o => (World.cell?_alloc_lt wr o ⟨w.heap.size + 1, 4, none⟩ hl2).trans e4
      have M9 : wr.drew.cell? ⟨w.heap.size + 1, 5, none⟩ = some (.int .i64 E.vel.y) := e5
      have A9 : ∀ o, (wr.alloc o).drew.cell? ⟨w.heap.size + 1, 5, none⟩ = some (.int .i64 E.vel.y) := fun o => (World.cell?_alloc_lt wr o ⟨w.heap.size + 1, 5, none⟩ hl2).trans e5
      have M10 : wr.drew.cell? ⟨w.heap.size + 1, 6, none⟩ = some (.int .i64 E.health) := e6
      have A10 : ∀ o, (wr.alloc o).drew.cell? ⟨w.heap.size + 1, 6, none⟩ = some (.int .i64 E.health) := fun o => (World.cell?_alloc_lt wr o ⟨w.heap.size + 1, 6, none⟩ hl2).trans e6
      have M11 : wr.drew.cell? ⟨w.heap.size + 1, 7, none⟩ = some (.int .i64 E.wait) := e7
      have A11 : ∀ o, (wr.alloc o).drew.cell? ⟨w.heap.size + 1, 7, none⟩ = some (.int .i64 E.wait) := fun o => (World.cell?_alloc_lt wr o ⟨w.heap.size + 1, 7, none⟩ hl2).trans e7
      have M12 : wr.drew.cell? ⟨g, off + k * 2, none⟩ = some (.int .i8 p.1) := s0
      have A12 : ∀ o, (wr.alloc o).drew.cell? ⟨g, off + k * 2, none⟩ = some (.int .i8 p.1) := fun o => (World.cell?_alloc_lt wr o ⟨g, off + k * 2, none⟩ hg3).trans s0
      have M13 : wr.drew.cell? ⟨g, off + k * 2 + 1, none⟩ = some (.int .i8 p.2) := s1
      have A13 : ∀ o, (wr.alloc o).drew.cell? ⟨g, off + k * 2 + 1, none⟩ = some (.int .i8 p.2) := fun o => (World.cell?_alloc_lt wr o ⟨g, off + k * 2 + 1, none⟩ hg3).trans s1
      have N0 := World.new_ne wr _ m0
      have N4 := World.new_ne wr _ e0
      have N12 := World.new_ne wr _ s0
      go_wp2
      go_region_held3 (fun w' => w'.cell? ⟨w.heap.size, 0, none⟩ = some (.int .i64 m.W) ∧ w'.cell? ⟨w.heap.size, 1, none⟩ = some (.int .i64 m.H) ∧ w'.cell? ⟨w.heap.size, 2, none⟩ = some (.slice s.A s.n s.c) ∧ w'.cell? ⟨w.heap.size, 3, none⟩ = some (.slice s.A2 s.n2 s.c2) ∧ w'.cell? ⟨w.heap.size + 1, 0, none⟩ = some (.int .i64 E.id) ∧ w'.cell? ⟨w.heap.size + 1, 1, none⟩ = some (.int .i64 E.kind) ∧ w'.cell? ⟨w.heap.size + 1, 2, none⟩ = some (.int .i64 E.at_.x) ∧ w'.cell? ⟨w.heap.size + 1, 3, none⟩ = some (.int .i64 E.at_.y) ∧ w'.cell? ⟨w.heap.size + 1, 4, none⟩ = some (.int .i64 E.vel.x) ∧ w'.cell? ⟨w.heap.size + 1, 5, none⟩ = some (.int .i64 E.vel.y) ∧ w'.cell? ⟨w.heap.size + 1, 6, none⟩ = some (.int .i64 E.health) ∧ w'.cell? ⟨w.heap.size + 1, 7, none⟩ = some (.int .i64 E.wait) ∧ w'.cell? ⟨g, off + k * 2, none⟩ = some (.int .i8 p.1) ∧ w'.cell? ⟨g, off + k * 2 + 1, none⟩ = some (.int .i8 p.2)) (with_reducible (first | exact ⟨M0, M1, M2, M3, M4, M5, M6, M7, M8, M9, M10, M11, M12, M13⟩ | exact ⟨c0, c1, c2, c3, c4, c5, c6, c7, c8, c9, c10, c11, c12, c13⟩ | exact ⟨A0 _, A1 _, A2 _, A3 _, A4 _, A5 _, A6 _, A7 _, A8 _, A9 _, A10 _, A11 _, A12 _, A13 _⟩ | go_keep))
        (first | (go_at_call 15; refine (HW.out _ (by first | exact HBW.out.drew | exact (HBW.out.drew.alloc (by simp; omega) _) | exact ((HBW.out.alloc (by omega) _).drew))).mono ?_; rintro r w5 ⟨rfl, hb5⟩; obtain ⟨hc5, hf5⟩ := bcell hb5; have hs5 := hb5.size; (try simp at hs5); have l5 : w.heap.size < w5.heap.size := (by omega); have l6 : w.heap.size + 1 < w5.heap.size := (by omega); have l7 : g < w5.heap.size := (by omega); have c0 : w5.cell? ⟨w.heap.size, 0, none⟩ = some (.int .i64 m.W) := (hb5.cell (p := ⟨w.heap.size, 0, none⟩) (by simp; omega)).trans (by with_reducible (first | exact M0 | exact A0 _)); have c1 : w5.cell? ⟨w.heap.size, 1, none⟩ = some (.int .i64 m.H) := (hb5.cell (p := ⟨w.heap.size, 1, none⟩) (by simp; omega)).trans (by with_reducible (first | exact M1 | exact A1 _)); have c2 : w5.cell? ⟨w.heap.size, 2, none⟩ = some (.slice s.A s.n s.c) := (hb5.cell (p := ⟨w.heap.size, 2, none⟩) (by simp; omega)).trans (by with_reducible (first | exact M2 | exact A2 _)); have c3 : w5.cell? ⟨w.heap.size, 3, none⟩ = some (.slice s.A2 s.n2 s.c2) := (hb5.cell (p := ⟨w.heap.size, 3, none⟩) (by simp; omega)).trans (by with_reducible (first | exact M3 | exact A3 _)); have c4 : w5.cell? ⟨w.heap.size + 1, 0, none⟩ = some (.int .i64 E.id) := (hb5.cell (p := ⟨w.heap.size + 1, 0, none⟩) (by simp; omega)).trans (by with_reducible (first | exact M4 | exact A4 _)); have c5 : w5.cell? ⟨w.heap.size + 1, 1, none⟩ = some (.int .i64 E.kind) := (hb5.cell (p := ⟨w.heap.size + 1, 1, none⟩) (by simp; omega)).trans (by with_reducible (first | exact M5 | exact A5 _)); have c6 : w5.cell? ⟨w.heap.size + 1, 2, none⟩ = some (.int .i64 E.at_.x) := (hb5.cell (p := ⟨w.heap.size + 1, 2, none⟩) (by simp; omega)).trans (by with_reducible (first | exact M6 | exact A6 _)); have c7 : w5.cell? ⟨w.heap.size + 1, 3, none⟩ = some (.int .i64 E.at_.y) := (hb5.cell (p := ⟨w.heap.size + 1, 3, none⟩) (by simp; omega)).trans (by with_reducible (first | exact M7 | exact A7 _)); have c8 : w5.cell? ⟨w.heap.size + 1, 4, none⟩ = some (.int .i64 E.vel.x) := (hb5.cell (p := ⟨w.heap.size + 1, 4, none⟩) (by simp; omega)).trans (by with_reducible (first | exact M8 | exact A8 _)); have c9 : w5.cell? ⟨w.heap.size + 1, 5, none⟩ = some (.int .i64 E.vel.y) := (hb5.cell (p := ⟨w.heap.size + 1, 5, none⟩) (by simp; omega)).trans (by with_reducible (first | exact M9 | exact A9 _)); have c10 : w5.cell? ⟨w.heap.size + 1, 6, none⟩ = some (.int .i64 E.health) := (hb5.cell (p := ⟨w.heap.size + 1, 6, none⟩) (by simp; omega)).trans (by with_reducible (first | exact M10 | exact A10 _)); have c11 : w5.cell? ⟨w.heap.size + 1, 7, none⟩ = some (.int .i64 E.wait) := (hb5.cell (p := ⟨w.heap.size + 1, 7, none⟩) (by simp; omega)).trans (by with_reducible (first | exact M11 | exact A11 _)); have c12 : w5.cell? ⟨g, off + k * 2, none⟩ = some (.int .i8 p.1) := (hb5.cell (p := ⟨g, off + k * 2, none⟩) (by simp; omega)).trans (by with_reducible (first | exact M12 | exact A12 _)); have c13 : w5.cell? ⟨g, off + k * 2 + 1, none⟩ = some (.int .i8 p.2) := (hb5.cell (p := ⟨g, off + k * 2 + 1, none⟩) (by simp; omega)).trans (by with_reducible (first | exact M13 | exact A13 _)); have k0 := World.new_ne w5 _ c0; have k4 := World.new_ne w5 _ c4; have k12 := World.new_ne w5 _ c12))
      · have zm : Blk (w5.alloc (.cells #[.int .i64 E.id, .int .i64 E.kind, .int .i64 X.at_.x, .int .i64 X.at_.y, .int .i64 X.vel.x, .int .i64 X.vel.y, .int .i64 E.health, .int .i64 E.wait] 30)) w.heap.size 25 #[.int .i64 m.W, .int .i64 m.H, .slice s.A s.n s.c, .slice s.A2 s.n2 s.c2] := (Blk.below (show Blk wr.drew _ _ _ from HMB2.out) hb5 hl1).alloc _
        have ze : Blk (w5.alloc (.cells #[.int .i64 E.id, .int .i64 E.kind, .int .i64 X.at_.x, .int .i64 X.at_.y, .int .i64 X.vel.x, .int .i64 X.vel.y, .int .i64 E.health, .int .i64 E.wait] 30)) (w.heap.size + 1) 30 #[.int .i64 E.id, .int .i64 E.kind, .int .i64 E.at_.x, .int .i64 E.at_.y, .int .i64 E.vel.x, .int .i64 E.vel.y, .int .i64 E.health, .int .i64 E.wait] := (Blk.below (show Blk wr.drew _ _ _ from HEB2.out) hb5 hl2).alloc _
        have zx : Blk (w5.alloc (.cells #[.int .i64 E.id, .int .i64 E.kind, .int .i64 X.at_.x, .int .i64 X.at_.y, .int .i64 X.vel.x, .int .i64 X.vel.y, .int .i64 E.health, .int .i64 E.wait] 30)) w5.heap.size 30 #[.int .i64 E.id, .int .i64 E.kind, .int .i64 X.at_.x, .int .i64 X.at_.y, .int .i64 X.vel.x, .int .i64 X.vel.y, .int .i64 E.health, .int .i64 E.wait] := Blk.new _ _ _
        have zb : Below w.heap.size w (w5.alloc (.cells #[.int .i64 E.id, .int .i64 E.kind, .int .i64 X.at_.x, .int .i64 X.at_.y, .int .i64 X.vel.x, .int .i64 X.vel.y, .int .i64 E.health, .int .i64 E.wait] 30)) := Below.alloc (HBW.out.drew.trans (hb5.mono (by simp; omega))) (by omega) _
        have zn : w.heap.size + 1 < w5.heap.size := l6
        generalize (w5.alloc (.cells #[.int .i64 E.id, .int .i64 E.kind, .int .i64 X.at_.x, .int .i64 X.at_.y, .int .i64 X.vel.x, .int .i64 X.vel.y, .int .i64 E.health, .int .i64 E.wait] 30)) = wz at zm ze zx zb ⊢
        generalize w5.heap.size = nb at zx zn ⊢
        clear hb5 hc5 hf5 hs5 l5 l6 l7 c0 c1 c2 c3 c4 c5 c6 c7 c8 c9 c10 c11 c12 c13 k0 k4 k12 A0 A1 A2 A3 A4 A5 A6 A7 A8 A9 A10 A11 A12 A13 M0 M1 M2 M3 M4 M5 M6 M7 M8 M9 M10 M11 M12 M13 m0 m1 m2 m3 e0 e1 e2 e3 e4 e5 e6 e7 s0 s1 N0 N4 N12
        have d0 : wz.cell? ⟨w.heap.size, 0, none⟩ = some (.int .i64 m.W) := zm.cell 0
        have d1 : wz.cell? ⟨w.heap.size, 1, none⟩ = some (.int .i64 m.H) := zm.cell 1
        have d2 : wz.cell? ⟨w.heap.size, 2, none⟩ = some (.slice s.A s.n s.c) := zm.cell 2
        have d3 : wz.cell? ⟨w.heap.size, 3, none⟩ = some (.slice s.A2 s.n2 s.c2) := zm.cell 3
        have u0 : wz.cell? ⟨w.heap.size + 1, 0, none⟩ = some (.int .i64 E.id) := ze.cell 0
        have y0 := ze.frozen 0
        have u1 : wz.cell? ⟨w.heap.size + 1, 1, none⟩ = some (.int .i64 E.kind) := ze.cell 1
        have y1 := ze.frozen 1
        have u2 : wz.cell? ⟨w.heap.size + 1, 2, none⟩ = some (.int .i64 E.at_.x) := ze.cell 2
        have y2 := ze.frozen 2
        have u3 : wz.cell? ⟨w.heap.size + 1, 3, none⟩ = some (.int .i64 E.at_.y) := ze.cell 3
        have y3 := ze.frozen 3
        have u4 : wz.cell? ⟨w.heap.size + 1, 4, none⟩ = some (.int .i64 E.vel.x) := ze.cell 4
        have y4 := ze.frozen 4
        have u5 : wz.cell? ⟨w.heap.size + 1, 5, none⟩ = some (.int .i64 E.vel.y) := ze.cell 5
        have y5 := ze.frozen 5
        have u6 : wz.cell? ⟨w.heap.size + 1, 6, none⟩ = some (.int .i64 E.health) := ze.cell 6
        have y6 := ze.frozen 6
        have u7 : wz.cell? ⟨w.heap.size + 1, 7, none⟩ = some (.int .i64 E.wait) := ze.cell 7
        have y7 := ze.frozen 7
        have v0 : wz.cell? ⟨nb, 0, none⟩ = some (.int .i64 E.id) := zx.cell 0
        have v1 : wz.cell? ⟨nb, 1, none⟩ = some (.int .i64 E.kind) := zx.cell 1
        have v2 : wz.cell? ⟨nb, 2, none⟩ = some (.int .i64 X.at_.x) := zx.cell 2
        have v3 : wz.cell? ⟨nb, 3, none⟩ = some (.int .i64 X.at_.y) := zx.cell 3
        have v4 : wz.cell? ⟨nb, 4, none⟩ = some (.int .i64 X.vel.x) := zx.cell 4
        have v5 : wz.cell? ⟨nb, 5, none⟩ = some (.int .i64 X.vel.y) := zx.cell 5
        have v6 : wz.cell? ⟨nb, 6, none⟩ = some (.int .i64 E.health) := zx.cell 6
        have v7 : wz.cell? ⟨nb, 7, none⟩ = some (.int .i64 E.wait) := zx.cell 7
        have zs := zb.size
        have zl := zx.lt
        have zl2 := ze.lt
        have hl3 : w.heap.size < wz.heap.size := by omega
        have HZM := Lib.hid zm
        have HZE := Lib.hid ze
        have HZB := Lib.hid zb
        have hsz1 := fun W => size12 (X.at_.x - E.at_.x) (by omega) (by omega) W
        have hsz2 := fun W => size12 (X.at_.y - E.at_.y) (by omega) (by omega) W
        obtain ⟨sx, hsx⟩ : ∃ sx, max (X.at_.x - E.at_.x) (-(X.at_.x - E.at_.x)) = sx := ⟨_, rfl⟩
        obtain ⟨sy, hsy⟩ : ∃ sy, max (X.at_.y - E.at_.y) (-(X.at_.y - E.at_.y)) = sy := ⟨_, rfl⟩
        simp only [hsx] at hsz1
        simp only [hsy] at hsz2
        have tx : decide (16384 < sx) = false := decide_eq_false (by omega)
        have ty : decide (16384 < sy) = false := decide_eq_false (by omega)
        clear hsx hsy zm ze zx zb
        go_wp2_with (first
          | (go_at_call 14; refine (HS.out _ HZB.out).mono ?_; rintro r w6 ⟨rfl, hb6⟩; obtain ⟨hc6, hf6⟩ := bcell hb6; have hs6 := hb6.size; have l8 : w.heap.size + 1 < w6.heap.size := (by omega))
          | (go_at_call 16; (first | with_reducible refine (hsz1 _).mono ?_ | with_reducible refine (hsz2 _).mono ?_); rintro r w9 ⟨rfl, rfl⟩))
        have zb6 : Below w.heap.size w w6 := HZB.out.trans (hb6.mono (by omega))
        have zm6 := Blk.below HZM.out hb6 (by omega)
        have ze6 := Blk.below HZE.out hb6 (by omega)
        have hz : ∀ j : Nat, j ≠ w.heap.size + 1 → ((((((((w6.setCell ⟨w.heap.size + 1, 0, none⟩ (.int .i64 E.id)).setCell ⟨w.heap.size + 1, 1, none⟩ (.int .i64 E.kind)).setCell ⟨w.heap.size + 1, 2, none⟩ (.int .i64 X.at_.x)).setCell ⟨w.heap.size + 1, 3, none⟩ (.int .i64 X.at_.y)).setCell ⟨w.heap.size + 1, 4, none⟩ (.int .i64 X.vel.x)).setCell ⟨w.heap.size + 1, 5, none⟩ (.int .i64 X.vel.y)).setCell ⟨w.heap.size + 1, 6, none⟩ (.int .i64 E.health)).setCell ⟨w.heap.size + 1, 7, none⟩ (.int .i64 E.wait)).heap[j]? = w6.heap[j]? := fun j hj => (Below.heap_setCell _ _ _ j hj).trans ((Below.heap_setCell _ _ _ j hj).trans ((Below.heap_setCell _ _ _ j hj).trans ((Below.heap_setCell _ _ _ j hj).trans ((Below.heap_setCell _ _ _ j hj).trans ((Below.heap_setCell _ _ _ j hj).trans ((Below.heap_setCell _ _ _ j hj).trans ((Below.heap_setCell _ _ _ j hj))))))))
        refine ⟨⟨k + 1, X, hlt, by go_num, (hz _ (by omega)).trans zm6, ?_, HF1.out, (by repeat (first | with_reducible exact Below.refl _ _ | with_reducible assumption | with_reducible refine Below.drew ?_ | with_reducible refine below_drews ?_ _ | with_reducible refine Below.alloc ?_ (by first | omega | (simp; done) | (simp; omega)) _ | with_reducible refine Below.setCell ?_ (by first | omega | (simp; done) | (simp; omega)) _))⟩, by simp [intOf]; omega⟩
        have := ((((((((ze6.set_ 0 (.int .i64 E.id)).set_ 1 (.int .i64 E.kind)).set_ 2 (.int .i64 X.at_.x)).set_ 3 (.int .i64 X.at_.y)).set_ 4 (.int .i64 X.vel.x)).set_ 5 (.int .i64 X.vel.y)).set_ 6 (.int .i64 E.health)).set_ 7 (.int .i64 E.wait))
        simpa [f6, f7, f8, f9] using this
      · have hz : ∀ j : Nat, j ≠ wr.heap.size → ((((((((w5.setCell ⟨wr.heap.size, 0, none⟩ (.int .i64 E.id)).setCell ⟨wr.heap.size, 1, none⟩ (.int .i64 E.kind)).setCell ⟨wr.heap.size, 2, none⟩ (.int .i64 X.at_.x)).setCell ⟨wr.heap.size, 3, none⟩ (.int .i64 X.at_.y)).setCell ⟨wr.heap.size, 4, none⟩ (.int .i64 X.vel.x)).setCell ⟨wr.heap.size, 5, none⟩ (.int .i64 X.vel.y)).setCell ⟨wr.heap.size, 6, none⟩ (.int .i64 E.health)).setCell ⟨wr.heap.size, 7, none⟩ (.int .i64 E.wait)).heap[j]? = w5.heap[j]? := fun j hj => (Below.heap_setCell _ _ _ j hj).trans ((Below.heap_setCell _ _ _ j hj).trans ((Below.heap_setCell _ _ _ j hj).trans ((Below.heap_setCell _ _ _ j hj).trans ((Below.heap_setCell _ _ _ j hj).trans ((Below.heap_setCell _ _ _ j hj).trans ((Below.heap_setCell _ _ _ j hj).trans (Below.heap_setCell _ _ _ j hj)))))))
        have zm : Blk ((((((((w5.setCell ⟨wr.heap.size, 0, none⟩ (.int .i64 E.id)).setCell ⟨wr.heap.size, 1, none⟩ (.int .i64 E.kind)).setCell ⟨wr.heap.size, 2, none⟩ (.int .i64 X.at_.x)).setCell ⟨wr.heap.size, 3, none⟩ (.int .i64 X.at_.y)).setCell ⟨wr.heap.size, 4, none⟩ (.int .i64 X.vel.x)).setCell ⟨wr.heap.size, 5, none⟩ (.int .i64 X.vel.y)).setCell ⟨wr.heap.size, 6, none⟩ (.int .i64 E.health)).setCell ⟨wr.heap.size, 7, none⟩ (.int .i64 E.wait)) w.heap.size 25 #[.int .i64 m.W, .int .i64 m.H, .slice s.A s.n s.c, .slice s.A2 s.n2 s.c2] := (hz _ (by omega)).trans (Blk.below (show Blk (wr.alloc _).drew _ _ _ from HMB2.out.alloc _) hb5 (by simp; omega))
        have ze : Blk ((((((((w5.setCell ⟨wr.heap.size, 0, none⟩ (.int .i64 E.id)).setCell ⟨wr.heap.size, 1, none⟩ (.int .i64 E.kind)).setCell ⟨wr.heap.size, 2, none⟩ (.int .i64 X.at_.x)).setCell ⟨wr.heap.size, 3, none⟩ (.int .i64 X.at_.y)).setCell ⟨wr.heap.size, 4, none⟩ (.int .i64 X.vel.x)).setCell ⟨wr.heap.size, 5, none⟩ (.int .i64 X.vel.y)).setCell ⟨wr.heap.size, 6, none⟩ (.int .i64 E.health)).setCell ⟨wr.heap.size, 7, none⟩ (.int .i64 E.wait)) (w.heap.size + 1) 30 #[.int .i64 E.id, .int .i64 E.kind, .int .i64 E.at_.x, .int .i64 E.at_.y, .int .i64 E.vel.x, .int .i64 E.vel.y, .int .i64 E.health, .int .i64 E.wait] := (hz _ (by omega)).trans (Blk.below (show Blk (wr.alloc _).drew _ _ _ from HEB2.out.alloc _) hb5 (by simp; omega))
        have zx0 : Blk w5 wr.heap.size 30 #[.int .i64 0, .int .i64 0, .int .i64 0, .int .i64 0, .int .i64 0, .int .i64 0, .int .i64 0, .int .i64 0] := Blk.below (show Blk (wr.alloc _).drew _ _ _ from Blk.new wr _ _) hb5 (by simp)
        have zx : Blk ((((((((w5.setCell ⟨wr.heap.size, 0, none⟩ (.int .i64 E.id)).setCell ⟨wr.heap.size, 1, none⟩ (.int .i64 E.kind)).setCell ⟨wr.heap.size, 2, none⟩ (.int .i64 X.at_.x)).setCell ⟨wr.heap.size, 3, none⟩ (.int .i64 X.at_.y)).setCell ⟨wr.heap.size, 4, none⟩ (.int .i64 X.vel.x)).setCell ⟨wr.heap.size, 5, none⟩ (.int .i64 X.vel.y)).setCell ⟨wr.heap.size, 6, none⟩ (.int .i64 E.health)).setCell ⟨wr.heap.size, 7, none⟩ (.int .i64 E.wait)) wr.heap.size 30 #[.int .i64 E.id, .int .i64 E.kind, .int .i64 X.at_.x, .int .i64 X.at_.y, .int .i64 X.vel.x, .int .i64 X.vel.y, .int .i64 E.health, .int .i64 E.wait] := by
          have := ((((((((zx0.set_ 0 (.int .i64 E.id)).set_ 1 (.int .i64 E.kind)).set_ 2 (.int .i64 X.at_.x)).set_ 3 (.int .i64 X.at_.y)).set_ 4 (.int .i64 X.vel.x)).set_ 5 (.int .i64 X.vel.y)).set_ 6 (.int .i64 E.health)).set_ 7 (.int .i64 E.wait))
          simpa using this
        have zb1 : Below w.heap.size w w5 := Below.trans (Below.drew (Below.alloc HBW.out (by omega) _)) (hb5.mono (by simp; omega))
        have zb : Below w.heap.size w ((((((((w5.setCell ⟨wr.heap.size, 0, none⟩ (.int .i64 E.id)).setCell ⟨wr.heap.size, 1, none⟩ (.int .i64 E.kind)).setCell ⟨wr.heap.size, 2, none⟩ (.int .i64 X.at_.x)).setCell ⟨wr.heap.size, 3, none⟩ (.int .i64 X.at_.y)).setCell ⟨wr.heap.size, 4, none⟩ (.int .i64 X.vel.x)).setCell ⟨wr.heap.size, 5, none⟩ (.int .i64 X.vel.y)).setCell ⟨wr.heap.size, 6, none⟩ (.int .i64 E.health)).setCell ⟨wr.heap.size, 7, none⟩ (.int .i64 E.wait)) := (by repeat (first | with_reducible exact Below.refl _ _ | with_reducible assumption | with_reducible refine Below.drew ?_ | with_reducible refine below_drews ?_ _ | with_reducible refine Below.alloc ?_ (by first | omega | (simp; done) | (simp; omega)) _ | with_reducible refine Below.setCell ?_ (by first | omega | (simp; done) | (simp; omega)) _))
        have zn : w.heap.size + 1 < wr.heap.size := hl2
        clear hz zx0 zb1
        generalize ((((((((w5.setCell ⟨wr.heap.size, 0, none⟩ (.int .i64 E.id)).setCell ⟨wr.heap.size, 1, none⟩ (.int .i64 E.kind)).setCell ⟨wr.heap.size, 2, none⟩ (.int .i64 X.at_.x)).setCell ⟨wr.heap.size, 3, none⟩ (.int .i64 X.at_.y)).setCell ⟨wr.heap.size, 4, none⟩ (.int .i64 X.vel.x)).setCell ⟨wr.heap.size, 5, none⟩ (.int .i64 X.vel.y)).setCell ⟨wr.heap.size, 6, none⟩ (.int .i64 E.health)).setCell ⟨wr.heap.size, 7, none⟩ (.int .i64 E.wait)) = wz at zm ze zx zb ⊢
        generalize wr.heap.size = nb at zx zn ⊢
        clear hb5 hc5 hf5 hs5 l5 l6 l7 c0 c1 c2 c3 c4 c5 c6 c7 c8 c9 c10 c11 c12 c13 k0 k4 k12 A0 A1 A2 A3 A4 A5 A6 A7 A8 A9 A10 A11 A12 A13 M0 M1 M2 M3 M4 M5 M6 M7 M8 M9 M10 M11 M12 M13 m0 m1 m2 m3 e0 e1 e2 e3 e4 e5 e6 e7 s0 s1 N0 N4 N12
        have d0 : wz.cell? ⟨w.heap.size, 0, none⟩ = some (.int .i64 m.W) := zm.cell 0
        have d1 : wz.cell? ⟨w.heap.size, 1, none⟩ = some (.int .i64 m.H) := zm.cell 1
        have d2 : wz.cell? ⟨w.heap.size, 2, none⟩ = some (.slice s.A s.n s.c) := zm.cell 2
        have d3 : wz.cell? ⟨w.heap.size, 3, none⟩ = some (.slice s.A2 s.n2 s.c2) := zm.cell 3
        have u0 : wz.cell? ⟨w.heap.size + 1, 0, none⟩ = some (.int .i64 E.id) := ze.cell 0
        have y0 := ze.frozen 0
        have u1 : wz.cell? ⟨w.heap.size + 1, 1, none⟩ = some (.int .i64 E.kind) := ze.cell 1
        have y1 := ze.frozen 1
        have u2 : wz.cell? ⟨w.heap.size + 1, 2, none⟩ = some (.int .i64 E.at_.x) := ze.cell 2
        have y2 := ze.frozen 2
        have u3 : wz.cell? ⟨w.heap.size + 1, 3, none⟩ = some (.int .i64 E.at_.y) := ze.cell 3
        have y3 := ze.frozen 3
        have u4 : wz.cell? ⟨w.heap.size + 1, 4, none⟩ = some (.int .i64 E.vel.x) := ze.cell 4
        have y4 := ze.frozen 4
        have u5 : wz.cell? ⟨w.heap.size + 1, 5, none⟩ = some (.int .i64 E.vel.y) := ze.cell 5
        have y5 := ze.frozen 5
        have u6 : wz.cell? ⟨w.heap.size + 1, 6, none⟩ = some (.int .i64 E.health) := ze.cell 6
        have y6 := ze.frozen 6
        have u7 : wz.cell? ⟨w.heap.size + 1, 7, none⟩ = some (.int .i64 E.wait) := ze.cell 7
        have y7 := ze.frozen 7
        have v0 : wz.cell? ⟨nb, 0, none⟩ = some (.int .i64 E.id) := zx.cell 0
        have v1 : wz.cell? ⟨nb, 1, none⟩ = some (.int .i64 E.kind) := zx.cell 1
        have v2 : wz.cell? ⟨nb, 2, none⟩ = some (.int .i64 X.at_.x) := zx.cell 2
        have v3 : wz.cell? ⟨nb, 3, none⟩ = some (.int .i64 X.at_.y) := zx.cell 3
        have v4 : wz.cell? ⟨nb, 4, none⟩ = some (.int .i64 X.vel.x) := zx.cell 4
        have v5 : wz.cell? ⟨nb, 5, none⟩ = some (.int .i64 X.vel.y) := zx.cell 5
        have v6 : wz.cell? ⟨nb, 6, none⟩ = some (.int .i64 E.health) := zx.cell 6
        have v7 : wz.cell? ⟨nb, 7, none⟩ = some (.int .i64 E.wait) := zx.cell 7
        have zs := zb.size
        have zl := zx.lt
        have zl2 := ze.lt
        have hl3 : w.heap.size < wz.heap.size := by omega
        have HZM := Lib.hid zm
        have HZE := Lib.hid ze
        have HZB := Lib.hid zb
        have hsz1 := fun W => size12 (X.at_.x - E.at_.x) (by omega) (by omega) W
        have hsz2 := fun W => size12 (X.at_.y - E.at_.y) (by omega) (by omega) W
        obtain ⟨sx, hsx⟩ : ∃ sx, max (X.at_.x - E.at_.x) (-(X.at_.x - E.at_.x)) = sx := ⟨_, rfl⟩
        obtain ⟨sy, hsy⟩ : ∃ sy, max (X.at_.y - E.at_.y) (-(X.at_.y - E.at_.y)) = sy := ⟨_, rfl⟩
        simp only [hsx] at hsz1
        simp only [hsy] at hsz2
        have tx : decide (16384 < sx) = false := decide_eq_false (by omega)
        have ty : decide (16384 < sy) = false := decide_eq_false (by omega)
        clear hsx hsy zm ze zx zb
        go_wp2_with (first
          | (go_at_call 14; refine (HS.out _ HZB.out).mono ?_; rintro r w6 ⟨rfl, hb6⟩; obtain ⟨hc6, hf6⟩ := bcell hb6; have hs6 := hb6.size; have l8 : w.heap.size + 1 < w6.heap.size := (by omega))
          | (go_at_call 16; (first | with_reducible refine (hsz1 _).mono ?_ | with_reducible refine (hsz2 _).mono ?_); rintro r w9 ⟨rfl, rfl⟩))
        have zb6 : Below w.heap.size w w6 := HZB.out.trans (hb6.mono (by omega))
        have zm6 := Blk.below HZM.out hb6 (by omega)
        have ze6 := Blk.below HZE.out hb6 (by omega)
        have hz : ∀ j : Nat, j ≠ w.heap.size + 1 → ((((((((w6.setCell ⟨w.heap.size + 1, 0, none⟩ (.int .i64 E.id)).setCell ⟨w.heap.size + 1, 1, none⟩ (.int .i64 E.kind)).setCell ⟨w.heap.size + 1, 2, none⟩ (.int .i64 X.at_.x)).setCell ⟨w.heap.size + 1, 3, none⟩ (.int .i64 X.at_.y)).setCell ⟨w.heap.size + 1, 4, none⟩ (.int .i64 X.vel.x)).setCell ⟨w.heap.size + 1, 5, none⟩ (.int .i64 X.vel.y)).setCell ⟨w.heap.size + 1, 6, none⟩ (.int .i64 E.health)).setCell ⟨w.heap.size + 1, 7, none⟩ (.int .i64 E.wait)).heap[j]? = w6.heap[j]? := fun j hj => (Below.heap_setCell _ _ _ j hj).trans ((Below.heap_setCell _ _ _ j hj).trans ((Below.heap_setCell _ _ _ j hj).trans ((Below.heap_setCell _ _ _ j hj).trans ((Below.heap_setCell _ _ _ j hj).trans ((Below.heap_setCell _ _ _ j hj).trans ((Below.heap_setCell _ _ _ j hj).trans ((Below.heap_setCell _ _ _ j hj))))))))
        refine ⟨⟨k + 1, X, hlt, by go_num, (hz _ (by omega)).trans zm6, ?_, HF1.out, (by repeat (first | with_reducible exact Below.refl _ _ | with_reducible assumption | with_reducible refine Below.drew ?_ | with_reducible refine below_drews ?_ _ | with_reducible refine Below.alloc ?_ (by first | omega | (simp; done) | (simp; omega)) _ | with_reducible refine Below.setCell ?_ (by first | omega | (simp; done) | (simp; omega)) _))⟩, by simp [intOf]; omega⟩
        have := ((((((((ze6.set_ 0 (.int .i64 E.id)).set_ 1 (.int .i64 E.kind)).set_ 2 (.int .i64 X.at_.x)).set_ 3 (.int .i64 X.at_.y)).set_ 4 (.int .i64 X.vel.x)).set_ 5 (.int .i64 X.vel.y)).set_ 6 (.int .i64 E.health)).set_ 7 (.int .i64 E.wait))
        simpa [f6, f7, f8, f9] using this
    · go_wp2
      go_ret
      exact ⟨rfl, hbw⟩
theorem lawMoveFree (m : MapV) (s : MapS) (e : EntV) (l : List (Int × Int)) (A : Option Addr) (n c : Nat) (w : World) (h : MapAt w w.heap.size m s) (hl : Reads w w.heap.size 2 A n (stepsV l)) (hb8 : ∀ p ∈ l, (-128 ≤ p.1 ∧ p.1 ≤ 127) ∧ (-128 ≤ p.2 ∧ p.2 ≤ 127)) :
    Calls Try.prog 3 #[(.agg #[.int .i64 m.W, .int .i64 m.H, .slice s.A s.n s.c, .slice s.A2 s.n2 s.c2]), (.agg #[.int .i64 e.id, .int .i64 e.kind, .int .i64 e.at_.x, .int .i64 e.at_.y, .int .i64 e.vel.x, .int .i64 e.vel.y, .int .i64 e.health, .int .i64 e.wait]), .slice A n c] w fun r w' => r = .returned (.bool true) ∧ Below w.heap.size w w' := by
  by_cases hf : s.n ≤ 1100 ∧ s.n2 ≤ 1100
  · by_cases hn : n ≤ 50
    · cases hst : standsB m e.at_ with
      | true => exact lawMoveFreeYes m s e l A n c w h hl hb8 hf hn hst
      | false => exact lawMoveFreeNo m s e A n c w h (.inr (.inr hst))
    · exact lawMoveFreeNo m s e A n c w h (.inr (.inl (by omega)))
  · exact lawMoveFreeNo m s e A n c w h (.inl hf)
end Go.Proofs.Ythkgeeonhppliaa
