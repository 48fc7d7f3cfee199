/- The walk of the law MoveRolls. -/
import Derived.Test.YthkgeeonhppliaaRoll
import Derived.Test.YthkgeeonhppliaaMoveAwake
set_option linter.unusedSimpArgs false
set_option linter.unusedVariables false
namespace Go.Proofs.Ythkgeeonhppliaa
open Go.RowKit
theorem roll_free (m : MapV) (e : EntV) (h : standsB m e.at_ = true) :
    standsB m (rollF m e).at_ = true ∧ ((rollF m e).vel.x = e.vel.x ∨ (rollF m e).vel.x = -e.vel.x ∧ -65536 ≤ e.vel.x ∧ e.vel.x ≤ 65536) ∧ ((rollF m e).vel.y = e.vel.y ∨ (rollF m e).vel.y = -e.vel.y ∧ -65536 ≤ e.vel.y ∧ e.vel.y ≤ 65536) ∧
      ((rollF m e).at_.x = e.at_.x ∨ (rollF m e).at_.x = e.at_.x + e.vel.x ∧ (rollF m e).vel.x = e.vel.x ∧ -65536 ≤ e.vel.x ∧ e.vel.x ≤ 65536) ∧ ((rollF m e).at_.y = e.at_.y ∨ (rollF m e).at_.y = e.at_.y + e.vel.y ∧ (rollF m e).vel.y = e.vel.y ∧ -65536 ≤ e.vel.y ∧ e.vel.y ≤ 65536) ∧ (rollF m e).kind = e.kind := by
  unfold rollF
  split
  · exact ⟨h, .inl rfl, .inl rfl, .inl rfl, .inl rfl, rfl⟩
  · rename_i hn
    have q1 : entOk e = true := by cases hh : entOk e with | true => rfl | false => exact absurd (.inl hh) hn
    have hv : -65536 ≤ e.vel.x ∧ e.vel.x ≤ 65536 ∧ -65536 ≤ e.vel.y ∧ e.vel.y ≤ 65536 := by
      unfold entOk slowOk at q1
      simp only [Bool.and_eq_true, decide_eq_true_eq] at q1
      omega
    obtain ⟨v1, v2, v3, v4⟩ := hv
    obtain ⟨h1, h2, h3⟩ := stepped_stands m e h
    refine ⟨h1, ?_, ?_, ?_, ?_, rfl⟩
    · rcases h2 with ⟨_, h2⟩ | ⟨_, h2⟩
      · right; simp [h2, v1, v2]
      · left; simp [h2]
    · rcases h3 with ⟨_, h3⟩ | ⟨_, h3⟩
      · right; simp [h3, v3, v4]
      · left; simp [h3]
    · rcases h2 with ⟨g, h2⟩ | ⟨g, h2⟩
      · left; exact g
      · right; exact ⟨g, by simp [h2], v1, v2⟩
    · rcases h3 with ⟨g, h3⟩ | ⟨g, h3⟩
      · left; exact g
      · right; exact ⟨g, by simp [h3], v3, v4⟩
theorem sizeAny (x : Int) (w : World) : Calls Try.prog 16 #[.int .i64 x] w fun e w' => e = .returned (.int .i64 (max x (wrap64 (-x)))) ∧ w = w' := by
  go_enter Try.func16, Try.ntmps16
  go_wp2
  all_goals
    go_ret
    exact ⟨ret_int (by first | omega | (split <;> omega)), rfl⟩
theorem size_neg (v : Int) (h0 : -65536 ≤ v) (h1 : v ≤ 65536) : max (-v) (wrap64 (- -v)) = max v (wrap64 (-v)) := by
  have e1 : wrap64 (- -v) = v := by unfold wrap64; omega
  have e2 : wrap64 (-v) = -v := by unfold wrap64; omega
  rw [e1, e2]; omega
theorem stands_bounds (m : MapV) (p : VecV) (h : standsB m p = true) : 0 ≤ p.x ∧ p.x ≤ 2097152 ∧ 0 ≤ p.y ∧ p.y ≤ 2097152 := by
  obtain ⟨hf, h1, h2, h3, h4, -⟩ := (standsB_iff m p).1 h
  have hs : 1 ≤ m.W ∧ m.W ≤ 32 ∧ 1 ≤ m.H ∧ m.H ≤ 32 := by
    unfold formedB sizeOk at hf
    simp only [Bool.and_eq_true, decide_eq_true_eq] at hf
    omega
  omega
set_option maxRecDepth 100000 in
set_option maxHeartbeats 4000000 in
theorem lawMoveRollsNo (m : MapV) (s : MapS) (e : EntV) (n : Nat) (w : World) (h : MapAt w w.heap.size m s) (hno : ¬ (s.n ≤ 1100 ∧ s.n2 ≤ 1100) ∨ standsB m e.at_ = false ∨ e.kind ≠ 2) :
    Calls Try.prog 7 #[(.agg #[.int .i64 m.W, .int .i64 m.H, .slice s.A s.n s.c, .slice s.A2 s.n2 s.c2]), (.agg #[.int .i64 e.id, .int .i64 e.kind, .int .i64 e.at_.x, .int .i64 e.at_.y, .int .i64 e.vel.x, .int .i64 e.vel.y, .int .i64 e.health, .int .i64 e.wait]), .int .u8 n] w fun r w' => r = .returned (.bool true) ∧ Below w.heap.size w w' := by
  have hF := fun W => few12 m s W
  have hS := fun W (hW : Below w.heap.size w W) => mStands m s e.at_.x e.at_.y W ((h.below hW).upto hW.size)
  have hat : (⟨e.at_.x, e.at_.y⟩ : VecV) = e.at_ := rfl
  simp only [hat] at hS
  clear hat
  obtain ⟨f, hf⟩ : ∃ f, decide (s.n ≤ 1100 ∧ s.n2 ≤ 1100) = f := ⟨_, rfl⟩
  obtain ⟨st, hst⟩ : ∃ st, standsB m e.at_ = st := ⟨_, rfl⟩
  obtain ⟨d, hd⟩ : ∃ d, (e.kind != 2) = d := ⟨_, rfl⟩
  simp only [hf] at hF
  simp only [hst] at hS
  have hno' : f = false ∨ st = false ∨ d = true := by
    rcases hno with h1 | h1 | h1
    · exact .inl (by rw [← hf]; exact decide_eq_false h1)
    · exact .inr (.inl (by rw [← hst]; exact h1))
    · exact .inr (.inr (by rw [← hd]; exact bne_iff_ne.2 h1))
  have HN := Lib.hid hno'
  clear hno hno' h hf hst
  go_enter Try.func7, Try.ntmps7
  cases f
  rotate_left
  cases st
  rotate_left
  cases d
  · exact absurd HN.out (by simp)
  all_goals
    go_wp2_with (first
      | (go_at_call 12; refine (awake12 _).mono ?_; rintro e w1 ⟨rfl, hb1⟩; obtain ⟨hc1, hf1⟩ := bcell hb1; have hs1 := hb1.size; (try simp at hs1); have l1 : w.heap.size < w1.heap.size := (by omega); have l2 : w.heap.size + 1 < w1.heap.size := (by omega); have B1 : Below w.heap.size w w1 := Below.trans (by repeat (first | with_reducible exact Below.refl _ _ | with_reducible assumption | with_reducible refine Below.drew ?_ | with_reducible refine below_drews ?_ _ | with_reducible refine Below.alloc ?_ (by first | omega | (simp; done) | (simp; omega)) _ | with_reducible refine Below.setCell ?_ (by first | omega | (simp; done) | (simp; omega)) _)) (hb1.mono (by (try simp) <;> omega)))
      | (go_at_call 13; refine (hF _).mono ?_; rintro e w1 ⟨rfl, hb1⟩; obtain ⟨hc1, hf1⟩ := bcell hb1; have hs1 := hb1.size; (try simp at hs1); have l1 : w.heap.size < w1.heap.size := (by omega); have l2 : w.heap.size + 1 < w1.heap.size := (by omega); have B1 : Below w.heap.size w w1 := Below.trans (by repeat (first | with_reducible exact Below.refl _ _ | with_reducible assumption | with_reducible refine Below.drew ?_ | with_reducible refine below_drews ?_ _ | with_reducible refine Below.alloc ?_ (by first | omega | (simp; done) | (simp; omega)) _ | with_reducible refine Below.setCell ?_ (by first | omega | (simp; done) | (simp; omega)) _)) (hb1.mono (by (try simp) <;> omega)))
      | (go_at_call 14; refine (hS _ (by first | assumption | exact Below.trans B1 (by repeat (first | with_reducible exact Below.refl _ _ | with_reducible assumption | with_reducible refine Below.drew ?_ | with_reducible refine below_drews ?_ _ | with_reducible refine Below.alloc ?_ (by first | omega | (simp; done) | (simp; omega)) _ | with_reducible refine Below.setCell ?_ (by first | omega | (simp; done) | (simp; omega)) _)))).mono ?_; rintro e w1 ⟨rfl, hb1⟩; obtain ⟨hc1, hf1⟩ := bcell hb1; have hs1 := hb1.size; (try simp at hs1); have l1 : w.heap.size < w1.heap.size := (by omega); have l2 : w.heap.size + 1 < w1.heap.size := (by omega); have B1 : Below w.heap.size w w1 := Below.trans (by repeat (first | with_reducible exact Below.refl _ _ | with_reducible assumption | with_reducible refine Below.drew ?_ | with_reducible refine below_drews ?_ _ | with_reducible refine Below.alloc ?_ (by first | omega | (simp; done) | (simp; omega)) _ | with_reducible refine Below.setCell ?_ (by first | omega | (simp; done) | (simp; omega)) _)) (hb1.mono (by (try simp) <;> omega))))
    go_ret
    exact ⟨rfl, (by repeat (first | with_reducible exact Below.refl _ _ | with_reducible assumption | with_reducible refine Below.drew ?_ | with_reducible refine below_drews ?_ _ | with_reducible refine Below.alloc ?_ (by first | omega | (simp; done) | (simp; omega)) _ | with_reducible refine Below.setCell ?_ (by first | omega | (simp; done) | (simp; omega)) _))⟩
set_option maxRecDepth 100000 in
set_option maxHeartbeats 8000000 in
theorem lawMoveRollsYes (m : MapV) (s : MapS) (e : EntV) (n : Nat) (hn : n < 256) (w : World) (h : MapAt w w.heap.size m s) (hf : s.n ≤ 1100 ∧ s.n2 ≤ 1100) (hst : standsB m e.at_ = true) (hk : e.kind = 2) :
    Calls Try.prog 7 #[(.agg #[.int .i64 m.W, .int .i64 m.H, .slice s.A s.n s.c, .slice s.A2 s.n2 s.c2]), (.agg #[.int .i64 e.id, .int .i64 e.kind, .int .i64 e.at_.x, .int .i64 e.at_.y, .int .i64 e.vel.x, .int .i64 e.vel.y, .int .i64 e.health, .int .i64 e.wait]), .int .u8 n] w fun r w' => r = .returned (.bool true) ∧ Below w.heap.size w w' := by
  have hF := fun W => few12 m s W
  have hS := fun W (hW : Below w.heap.size w W) => mStands m s e.at_.x e.at_.y W ((h.below hW).upto hW.size)
  have hat : (⟨e.at_.x, e.at_.y⟩ : VecV) = e.at_ := rfl
  simp only [hat, hst] at hS
  simp only [decide_eq_true hf] at hF
  have hd : (e.kind != 2) = false := by rw [hk]; rfl
  have HM := Lib.hid h
  have HST := Lib.hid hst
  clear hat hf hst h hk
  have hmb0 : Blk ((w.alloc (.cells #[.int .i64 m.W, .int .i64 m.H, .slice s.A s.n s.c, .slice s.A2 s.n2 s.c2] 25)).alloc (.cells #[.int .i64 e.id, .int .i64 e.kind, .int .i64 e.at_.x, .int .i64 e.at_.y, .int .i64 e.vel.x, .int .i64 e.vel.y, .int .i64 e.health, .int .i64 e.wait] 30)) w.heap.size 25 #[.int .i64 m.W, .int .i64 m.H, .slice s.A s.n s.c, .slice s.A2 s.n2 s.c2] := (Blk.new _ _ _).alloc _
  have heb0 : Blk ((w.alloc (.cells #[.int .i64 m.W, .int .i64 m.H, .slice s.A s.n s.c, .slice s.A2 s.n2 s.c2] 25)).alloc (.cells #[.int .i64 e.id, .int .i64 e.kind, .int .i64 e.at_.x, .int .i64 e.at_.y, .int .i64 e.vel.x, .int .i64 e.vel.y, .int .i64 e.health, .int .i64 e.wait] 30)) (w.heap.size + 1) 30 #[.int .i64 e.id, .int .i64 e.kind, .int .i64 e.at_.x, .int .i64 e.at_.y, .int .i64 e.vel.x, .int .i64 e.vel.y, .int .i64 e.health, .int .i64 e.wait] := by
    have := Blk.new (w.alloc (.cells #[.int .i64 m.W, .int .i64 m.H, .slice s.A s.n s.c, .slice s.A2 s.n2 s.c2] 25)) 30 #[.int .i64 e.id, .int .i64 e.kind, .int .i64 e.at_.x, .int .i64 e.at_.y, .int .i64 e.vel.x, .int .i64 e.vel.y, .int .i64 e.health, .int .i64 e.wait]
    simpa using this
  have HMB := Lib.hid hmb0
  have HEB := Lib.hid heb0
  clear hmb0 heb0
  go_enter Try.func7, Try.ntmps7
  go_wp2_with (first
    | (go_at_call 12; refine (awake12 _).mono ?_; rintro r wa ⟨rfl, hba⟩; obtain ⟨hc1, hf1⟩ := bcell hba; have hs1 := hba.size; (try simp at hs1); have l1 : w.heap.size < wa.heap.size := (by omega); have l2 : w.heap.size + 1 < wa.heap.size := (by omega); have mb := Lib.hid (Blk.below HMB.out hba (by simp; omega)); have eb := Lib.hid (Blk.below HEB.out hba (by simp)); have Ba : Below w.heap.size w wa := Below.trans (by repeat (first | with_reducible exact Below.refl _ _ | with_reducible assumption | with_reducible refine Below.drew ?_ | with_reducible refine below_drews ?_ _ | with_reducible refine Below.alloc ?_ (by first | omega | (simp; done) | (simp; omega)) _ | with_reducible refine Below.setCell ?_ (by first | omega | (simp; done) | (simp; omega)) _)) (hba.mono (by simp; omega)))
    | (go_at_call 13; refine (hF _).mono ?_; rintro r wb ⟨rfl, hbb⟩; obtain ⟨hc1, hf1⟩ := bcell hbb; have hs1 := hbb.size; (try simp at hs1); have l1 : w.heap.size < wb.heap.size := (by omega); have l2 : w.heap.size + 1 < wb.heap.size := (by omega); have mb := Lib.hid (Blk.below mb.out hbb (by omega)); have eb := Lib.hid (Blk.below eb.out hbb (by omega)); have Ba : Below w.heap.size w wb := Ba.trans (hbb.mono (by omega)))
    | (go_at_call 14; refine (hS _ Ba).mono ?_; rintro r wc ⟨rfl, hbc⟩; obtain ⟨hc1, hf1⟩ := bcell hbc; have hs1 := hbc.size; (try simp at hs1); have l1 : w.heap.size < wc.heap.size := (by omega); have l2 : w.heap.size + 1 < wc.heap.size := (by omega); have mb := Lib.hid (Blk.below mb.out hbc (by omega)); have eb := Lib.hid (Blk.below eb.out hbc (by omega)); have Ba : Below w.heap.size w wc := Ba.trans (hbc.mono (by omega))))
  have HBA := Lib.hid Ba
  clear hF hS hba hbb hbc Ba
  go_loopw [7] (fun i wr => ∃ (k : Nat) (E : EntV), k ≤ n % 200 ∧ i = .int .i64 (k : Nat) ∧ Blk wr w.heap.size 25 #[.int .i64 m.W, .int .i64 m.H, .slice s.A s.n s.c, .slice s.A2 s.n2 s.c2] ∧ Blk wr (w.heap.size + 1) 30 #[.int .i64 E.id, .int .i64 E.kind, .int .i64 E.at_.x, .int .i64 E.at_.y, .int .i64 E.vel.x, .int .i64 E.vel.y, .int .i64 E.health, .int .i64 E.wait] ∧ standsB m E.at_ = true ∧ Below w.heap.size w wr) (fun i _ => n % 200 - (intOf i).toNat)
  case atStart => exact ⟨0, e, Nat.zero_le _, rfl, mb.out, eb.out, HST.out, HBA.out⟩
  case round =>
    obtain ⟨k, E, hk, rfl, hmb, heb, hE, hbw⟩ := hrel
    have hs := hbw.size
    have hl1 := hmb.lt
    have hl2 := heb.lt
    by_cases hlt : k < n % 200
    · obtain ⟨f1, f2, f3, f4, f5, f6⟩ := roll_free m E hE
      obtain ⟨b1, b2, b3, b4⟩ := stands_bounds m E.at_ hE
      have hW := fun W (hW : Below w.heap.size w W) => mRoll m s E W ((HM.out.below hW).upto hW.size)
      obtain ⟨X, hX⟩ : ∃ X, rollF m E = X := ⟨_, rfl⟩
      simp only [hX] at hW
      rw [hX] at f1 f2 f3 f4 f5 f6
      have hS := fun W (hW : Below w.heap.size w W) => mStands m s X.at_.x X.at_.y W ((HM.out.below hW).upto hW.size)
      have hat : (⟨X.at_.x, X.at_.y⟩ : VecV) = X.at_ := rfl
      simp only [hat, f1] at hS
      have s1 := fun W => sizeAny X.vel.x W
      have s2 := fun W => sizeAny E.vel.x W
      have s3 := fun W => sizeAny X.vel.y W
      have s4 := fun W => sizeAny E.vel.y W
      have z1 : max X.vel.x (wrap64 (-X.vel.x)) = max E.vel.x (wrap64 (-E.vel.x)) := by
        rcases f2 with h | ⟨h, h1, h2⟩
        · rw [h]
        · rw [h]; exact size_neg _ h1 h2
      have z2 : max X.vel.y (wrap64 (-X.vel.y)) = max E.vel.y (wrap64 (-E.vel.y)) := by
        rcases f3 with h | ⟨h, h1, h2⟩
        · rw [h]
        · rw [h]; exact size_neg _ h1 h2
      simp only [z1] at s1
      simp only [z2] at s3
      obtain ⟨sx, hsx⟩ : ∃ sx, max E.vel.x (wrap64 (-E.vel.x)) = sx := ⟨_, rfl⟩
      obtain ⟨sy, hsy⟩ : ∃ sy, max E.vel.y (wrap64 (-E.vel.y)) = sy := ⟨_, rfl⟩
      simp only [hsx] at s1 s2
      simp only [hsy] at s3 s4
      have ts1 : (sx != sx) = false := bne_self_eq_false _
      have ts2 : (sy != sy) = false := bne_self_eq_false _
      have TX := Lib.hid f4
      have TY := Lib.hid f5
      have m0 : wr.cell? ⟨w.heap.size, 0, none⟩ = some (.int .i64 m.W) := hmb.cell 0
      have m1 : wr.cell? ⟨w.heap.size, 1, none⟩ = some (.int .i64 m.H) := hmb.cell 1
      have m2 : wr.cell? ⟨w.heap.size, 2, none⟩ = some (.slice s.A s.n s.c) := hmb.cell 2
      have m3 : wr.cell? ⟨w.heap.size, 3, none⟩ = some (.slice s.A2 s.n2 s.c2) := hmb.cell 3
      have e0 : wr.cell? ⟨w.heap.size + 1, 0, none⟩ = some (.int .i64 E.id) := heb.cell 0
      have e1 : wr.cell? ⟨w.heap.size + 1, 1, none⟩ = some (.int .i64 E.kind) := heb.cell 1
      have e2 : wr.cell? ⟨w.heap.size + 1, 2, none⟩ = some (.int .i64 E.at_.x) := heb.cell 2
      have e3 : wr.cell? ⟨w.heap.size + 1, 3, none⟩ = some (.int .i64 E.at_.y) := heb.cell 3
      have e4 : wr.cell? ⟨w.heap.size + 1, 4, none⟩ = some (.int .i64 E.vel.x) := heb.cell 4
      have e5 : wr.cell? ⟨w.heap.size + 1, 5, none⟩ = some (.int .i64 E.vel.y) := heb.cell 5
      have e6 : wr.cell? ⟨w.heap.size + 1, 6, none⟩ = some (.int .i64 E.health) := heb.cell 6
      have e7 : wr.cell? ⟨w.heap.size + 1, 7, none⟩ = some (.int .i64 E.wait) := heb.cell 7
      have HR := Lib.hid hW
      have HS := Lib.hid hS
      have HF1 := Lib.hid f1
      have HMB2 := Lib.hid hmb
      have HEB2 := Lib.hid heb
      have HBW := Lib.hid hbw
      clear hW hS hat f1 f2 f3 f4 f5 f6 hX hmb heb hbw hE HMB HEB mb eb hc1 hf1 z1 z2 hsx hsy
      go_wp2_with (go_at_call 19; refine (HR.out _ HBW.out).mono ?_; rintro r w5 ⟨rfl, hb5⟩)
      have hs5 := hb5.size
      have zm : Blk (w5.alloc (.cells #[.int .i64 X.id, .int .i64 X.kind, .int .i64 X.at_.x, .int .i64 X.at_.y, .int .i64 X.vel.x, .int .i64 X.vel.y, .int .i64 X.health, .int .i64 X.wait] 30)) w.heap.size 25 #[.int .i64 m.W, .int .i64 m.H, .slice s.A s.n s.c, .slice s.A2 s.n2 s.c2] := (Blk.below HMB2.out hb5 hl1).alloc _
      have ze : Blk (w5.alloc (.cells #[.int .i64 X.id, .int .i64 X.kind, .int .i64 X.at_.x, .int .i64 X.at_.y, .int .i64 X.vel.x, .int .i64 X.vel.y, .int .i64 X.health, .int .i64 X.wait] 30)) (w.heap.size + 1) 30 #[.int .i64 E.id, .int .i64 E.kind, .int .i64 E.at_.x, .int .i64 E.at_.y, .int .i64 E.vel.x, .int .i64 E.vel.y, .int .i64 E.health, .int .i64 E.wait] := (Blk.below HEB2.out hb5 hl2).alloc _
      have zx : Blk (w5.alloc (.cells #[.int .i64 X.id, .int .i64 X.kind, .int .i64 X.at_.x, .int .i64 X.at_.y, .int .i64 X.vel.x, .int .i64 X.vel.y, .int .i64 X.health, .int .i64 X.wait] 30)) w5.heap.size 30 #[.int .i64 X.id, .int .i64 X.kind, .int .i64 X.at_.x, .int .i64 X.at_.y, .int .i64 X.vel.x, .int .i64 X.vel.y, .int .i64 X.health, .int .i64 X.wait] := Blk.new _ _ _
      have zb : Below w.heap.size w (w5.alloc (.cells #[.int .i64 X.id, .int .i64 X.kind, .int .i64 X.at_.x, .int .i64 X.at_.y, .int .i64 X.vel.x, .int .i64 X.vel.y, .int .i64 X.health, .int .i64 X.wait] 30)) := Below.alloc (HBW.out.trans (hb5.mono (by omega))) (by omega) _
      have zn : w.heap.size + 1 < w5.heap.size := by omega
      generalize (w5.alloc (.cells #[.int .i64 X.id, .int .i64 X.kind, .int .i64 X.at_.x, .int .i64 X.at_.y, .int .i64 X.vel.x, .int .i64 X.vel.y, .int .i64 X.health, .int .i64 X.wait] 30)) = wz at zm ze zx zb ⊢
      generalize w5.heap.size = nb at zx zn ⊢
      clear hb5 hs5 m0 m1 m2 m3 e0 e1 e2 e3 e4 e5 e6 e7
      have d0 : wz.cell? ⟨w.heap.size, 0, none⟩ = some (.int .i64 m.W) := zm.cell 0
      have d1 : wz.cell? ⟨w.heap.size, 1, none⟩ = some (.int .i64 m.H) := zm.cell 1
      have d2 : wz.cell? ⟨w.heap.size, 2, none⟩ = some (.slice s.A s.n s.c) := zm.cell 2
      have d3 : wz.cell? ⟨w.heap.size, 3, none⟩ = some (.slice s.A2 s.n2 s.c2) := zm.cell 3
      have u0 : wz.cell? ⟨w.heap.size + 1, 0, none⟩ = some (.int .i64 E.id) := ze.cell 0
      have v0 : wz.cell? ⟨nb, 0, none⟩ = some (.int .i64 X.id) := zx.cell 0
      have u1 : wz.cell? ⟨w.heap.size + 1, 1, none⟩ = some (.int .i64 E.kind) := ze.cell 1
      have v1 : wz.cell? ⟨nb, 1, none⟩ = some (.int .i64 X.kind) := zx.cell 1
      have u2 : wz.cell? ⟨w.heap.size + 1, 2, none⟩ = some (.int .i64 E.at_.x) := ze.cell 2
      have v2 : wz.cell? ⟨nb, 2, none⟩ = some (.int .i64 X.at_.x) := zx.cell 2
      have u3 : wz.cell? ⟨w.heap.size + 1, 3, none⟩ = some (.int .i64 E.at_.y) := ze.cell 3
      have v3 : wz.cell? ⟨nb, 3, none⟩ = some (.int .i64 X.at_.y) := zx.cell 3
      have u4 : wz.cell? ⟨w.heap.size + 1, 4, none⟩ = some (.int .i64 E.vel.x) := ze.cell 4
      have v4 : wz.cell? ⟨nb, 4, none⟩ = some (.int .i64 X.vel.x) := zx.cell 4
      have u5 : wz.cell? ⟨w.heap.size + 1, 5, none⟩ = some (.int .i64 E.vel.y) := ze.cell 5
      have v5 : wz.cell? ⟨nb, 5, none⟩ = some (.int .i64 X.vel.y) := zx.cell 5
      have u6 : wz.cell? ⟨w.heap.size + 1, 6, none⟩ = some (.int .i64 E.health) := ze.cell 6
      have v6 : wz.cell? ⟨nb, 6, none⟩ = some (.int .i64 X.health) := zx.cell 6
      have u7 : wz.cell? ⟨w.heap.size + 1, 7, none⟩ = some (.int .i64 E.wait) := ze.cell 7
      have v7 : wz.cell? ⟨nb, 7, none⟩ = some (.int .i64 X.wait) := zx.cell 7
      have zs := zb.size
      have zl := zx.lt
      have zl2 := ze.lt
      have hl3 : w.heap.size < wz.heap.size := by omega
      have HZM := Lib.hid zm
      have HZE := Lib.hid ze
      have HZX := Lib.hid zx
      have HZB := Lib.hid zb
      clear zm ze zx zb
      refine wp_region_kin' (wz.heap.size) (by kernel_rfl) (by kernel_rfl) (fun kk => ?_)
      repeat (first | go_big_quiet_step (first
        | (go_at_call 14; exact kin_of (by simp) (HS.out _ (HZB.out.trans ((Kin.below _).mono (by omega)))))
        | (go_at_call 16; exact kin_left (by with_reducible (first | exact s1 _ | exact s2 _ | exact s3 _ | exact s4 _)))) | quiet_step (first
        | (go_at_call 14; exact kin_of (by simp) (HS.out _ (HZB.out.trans ((Kin.below _).mono (by omega)))))
        | (go_at_call 16; exact kin_left (by with_reducible (first | exact s1 _ | exact s2 _ | exact s3 _ | exact s4 _)))))
      refine wpQuiet_nil ?_
      rintro _ ⟨x, rfl⟩
      have ym := Blk.below HZM.out x.below hl3
      have ye := Blk.below HZE.out x.below zl2
      have yx := Blk.below HZX.out x.below zl
      have yb := HZB.out.trans (x.below.mono (by omega))
      obtain ⟨wk, hwk⟩ : ∃ wk, x.w = wk := ⟨_, rfl⟩
      simp only [hwk] at ym ye yx yb ⊢
      clear hwk kk x
      have kd0 : wk.cell? ⟨w.heap.size, 0, none⟩ = some (.int .i64 m.W) := ym.cell 0
      have kd1 : wk.cell? ⟨w.heap.size, 1, none⟩ = some (.int .i64 m.H) := ym.cell 1
      have kd2 : wk.cell? ⟨w.heap.size, 2, none⟩ = some (.slice s.A s.n s.c) := ym.cell 2
      have kd3 : wk.cell? ⟨w.heap.size, 3, none⟩ = some (.slice s.A2 s.n2 s.c2) := ym.cell 3
      have ku0 : wk.cell? ⟨w.heap.size + 1, 0, none⟩ = some (.int .i64 E.id) := ye.cell 0
      have kv0 : wk.cell? ⟨nb, 0, none⟩ = some (.int .i64 X.id) := yx.cell 0
      have ku1 : wk.cell? ⟨w.heap.size + 1, 1, none⟩ = some (.int .i64 E.kind) := ye.cell 1
      have kv1 : wk.cell? ⟨nb, 1, none⟩ = some (.int .i64 X.kind) := yx.cell 1
      have ku2 : wk.cell? ⟨w.heap.size + 1, 2, none⟩ = some (.int .i64 E.at_.x) := ye.cell 2
      have kv2 : wk.cell? ⟨nb, 2, none⟩ = some (.int .i64 X.at_.x) := yx.cell 2
      have ku3 : wk.cell? ⟨w.heap.size + 1, 3, none⟩ = some (.int .i64 E.at_.y) := ye.cell 3
      have kv3 : wk.cell? ⟨nb, 3, none⟩ = some (.int .i64 X.at_.y) := yx.cell 3
      have ku4 : wk.cell? ⟨w.heap.size + 1, 4, none⟩ = some (.int .i64 E.vel.x) := ye.cell 4
      have kv4 : wk.cell? ⟨nb, 4, none⟩ = some (.int .i64 X.vel.x) := yx.cell 4
      have ku5 : wk.cell? ⟨w.heap.size + 1, 5, none⟩ = some (.int .i64 E.vel.y) := ye.cell 5
      have kv5 : wk.cell? ⟨nb, 5, none⟩ = some (.int .i64 X.vel.y) := yx.cell 5
      have ku6 : wk.cell? ⟨w.heap.size + 1, 6, none⟩ = some (.int .i64 E.health) := ye.cell 6
      have kv6 : wk.cell? ⟨nb, 6, none⟩ = some (.int .i64 X.health) := yx.cell 6
      have ku7 : wk.cell? ⟨w.heap.size + 1, 7, none⟩ = some (.int .i64 E.wait) := ye.cell 7
      have kv7 : wk.cell? ⟨nb, 7, none⟩ = some (.int .i64 X.wait) := yx.cell 7
      have y0 := ye.frozen 0
      have y1 := ye.frozen 1
      have y2 := ye.frozen 2
      have y3 := ye.frozen 3
      have y4 := ye.frozen 4
      have y5 := ye.frozen 5
      have y6 := ye.frozen 6
      have y7 := ye.frozen 7
      have yl := yx.lt
      have yl2 := ye.lt
      have hl4 : w.heap.size < wk.heap.size := by omega
      have HYM := Lib.hid ym
      have HYE := Lib.hid ye
      have HYB := Lib.hid yb
      clear ym yx yb
      have hz : ∀ j : Nat, j ≠ w.heap.size + 1 → ((((((((wk.setCell ⟨w.heap.size + 1, 0, none⟩ (.int .i64 X.id)).setCell ⟨w.heap.size + 1, 1, none⟩ (.int .i64 X.kind)).setCell ⟨w.heap.size + 1, 2, none⟩ (.int .i64 X.at_.x)).setCell ⟨w.heap.size + 1, 3, none⟩ (.int .i64 X.at_.y)).setCell ⟨w.heap.size + 1, 4, none⟩ (.int .i64 X.vel.x)).setCell ⟨w.heap.size + 1, 5, none⟩ (.int .i64 X.vel.y)).setCell ⟨w.heap.size + 1, 6, none⟩ (.int .i64 X.health)).setCell ⟨w.heap.size + 1, 7, none⟩ (.int .i64 X.wait)).heap[j]? = wk.heap[j]? := fun j hj => (Below.heap_setCell _ _ _ j hj).trans ((Below.heap_setCell _ _ _ j hj).trans ((Below.heap_setCell _ _ _ j hj).trans ((Below.heap_setCell _ _ _ j hj).trans ((Below.heap_setCell _ _ _ j hj).trans ((Below.heap_setCell _ _ _ j hj).trans ((Below.heap_setCell _ _ _ j hj).trans (Below.heap_setCell _ _ _ j hj)))))))
      have TX1 : (X.at_.x != E.at_.x) = false ∨ (X.at_.x != E.at_.x) = true ∧ (X.at_.x != E.at_.x + E.vel.x) = false ∧ (X.vel.x != E.vel.x) = false ∧ -65536 ≤ E.vel.x ∧ E.vel.x ≤ 65536 := by
        by_cases q : X.at_.x = E.at_.x
        · exact .inl (by rw [q]; exact bne_self_eq_false _)
        · obtain ⟨q1, q2, q3, q4⟩ := TX.out.resolve_left q
          exact .inr ⟨bne_iff_ne.2 q, by rw [q1]; exact bne_self_eq_false _, by rw [q2]; exact bne_self_eq_false _, q3, q4⟩
      have TY1 : (X.at_.y != E.at_.y) = false ∨ (X.at_.y != E.at_.y) = true ∧ (X.at_.y != E.at_.y + E.vel.y) = false ∧ (X.vel.y != E.vel.y) = false ∧ -65536 ≤ E.vel.y ∧ E.vel.y ≤ 65536 := by
        by_cases q : X.at_.y = E.at_.y
        · exact .inl (by rw [q]; exact bne_self_eq_false _)
        · obtain ⟨q1, q2, q3, q4⟩ := TY.out.resolve_left q
          exact .inr ⟨bne_iff_ne.2 q, by rw [q1]; exact bne_self_eq_false _, by rw [q2]; exact bne_self_eq_false _, q3, q4⟩
      rcases TX1 with gx1 | ⟨gx1, gx2, gx3, gx4, gx5⟩ <;> rcases TY1 with gy1 | ⟨gy1, gy2, gy3, gy4, gy5⟩
      all_goals
        go_wp2
        have ye6 := HYE.out
        have hyb := HYB.out
        refine ⟨⟨k + 1, X, hlt, by go_num, (hz _ (by omega)).trans HYM.out, ?_, HF1.out, (by repeat (first | with_reducible exact Below.refl _ _ | with_reducible assumption | with_reducible refine Below.drew ?_ | with_reducible refine below_drews ?_ _ | with_reducible refine Below.alloc ?_ (by first | omega | (simp; done) | (simp; omega)) _ | with_reducible refine Below.setCell ?_ (by first | omega | (simp; done) | (simp; omega)) _))⟩, by simp [intOf]; omega⟩
        have := ((((((((ye6.set_ 0 (.int .i64 X.id)).set_ 1 (.int .i64 X.kind)).set_ 2 (.int .i64 X.at_.x)).set_ 3 (.int .i64 X.at_.y)).set_ 4 (.int .i64 X.vel.x)).set_ 5 (.int .i64 X.vel.y)).set_ 6 (.int .i64 X.health)).set_ 7 (.int .i64 X.wait))
        simpa using this
    · go_wp2
      go_ret
      exact ⟨rfl, hbw⟩
theorem lawMoveRolls (m : MapV) (s : MapS) (e : EntV) (a : Int) (h0 : 0 ≤ a) (h1 : a ≤ 255) (w : World) (h : MapAt w w.heap.size m s) :
    Calls Try.prog 7 #[(.agg #[.int .i64 m.W, .int .i64 m.H, .slice s.A s.n s.c, .slice s.A2 s.n2 s.c2]), (.agg #[.int .i64 e.id, .int .i64 e.kind, .int .i64 e.at_.x, .int .i64 e.at_.y, .int .i64 e.vel.x, .int .i64 e.vel.y, .int .i64 e.health, .int .i64 e.wait]), .int .u8 a] w fun r w' => r = .returned (.bool true) ∧ Below w.heap.size w w' := by
  obtain ⟨n, rfl⟩ : ∃ n : Nat, a = (n : Int) := ⟨a.toNat, by omega⟩
  by_cases hf : s.n ≤ 1100 ∧ s.n2 ≤ 1100
  · cases hst : standsB m e.at_ with
    | true =>
      by_cases hk : e.kind = 2
      · exact lawMoveRollsYes m s e n (by omega) w h hf hst hk
      · exact lawMoveRollsNo m s e n w h (.inr (.inr hk))
    | false => exact lawMoveRollsNo m s e n w h (.inr (.inl hst))
  · exact lawMoveRollsNo m s e n w h (.inl hf)
theorem wf_u8b {x : Int} (h : (Lit.int .u8 x).wf = true) : 0 ≤ x ∧ x ≤ 255 := by simpa [Lit.wf, IntKind.min, IntKind.max, IntKind.signed, IntKind.bits] using h
end Go.Proofs.Ythkgeeonhppliaa
