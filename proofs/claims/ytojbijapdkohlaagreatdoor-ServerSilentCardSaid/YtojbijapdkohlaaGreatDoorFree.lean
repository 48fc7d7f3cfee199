/- The walks of tiles.Free and move.Stands. -/
import Derived.Test.YtojbijapdkohlaaGreatDoorMapF
set_option linter.unusedSimpArgs false
set_option linter.unusedVariables false
namespace Go.Proofs.YtojbijapdkohlaaGreatDoor
open Go.RowKit
theorem ov_y_low {x y : Int} {b : BoxV} (h : (y + 1) * 65536 ≤ b.lo.y) : overlap (tile x y) b = false := by
  unfold overlap tile; rw [Bool.and_eq_false_iff]; right; rw [decide_eq_false_iff_not]; simp only; omega
theorem ov_y_high {x y : Int} {b : BoxV} (h : b.hi.y ≤ y * 65536) : overlap (tile x y) b = false := by
  unfold overlap tile; rw [Bool.and_eq_false_iff]; right; rw [decide_eq_false_iff_not]; simp only; omega
theorem ov_x_low {x y : Int} {b : BoxV} (h : (x + 1) * 65536 ≤ b.lo.x) : overlap (tile x y) b = false := by
  unfold overlap tile; rw [Bool.and_eq_false_iff]; right; rw [decide_eq_false_iff_not]; simp only; omega
theorem ov_x_high {x y : Int} {b : BoxV} (h : b.hi.x ≤ x * 65536) : overlap (tile x y) b = false := by
  unfold overlap tile; rw [Bool.and_eq_false_iff]; right; rw [decide_eq_false_iff_not]; simp only; omega
theorem sizeOk_of_formed {m : MapV} (h : formedB m = true) : 1 ≤ m.W ∧ m.W ≤ 32 ∧ 1 ≤ m.H ∧ m.H ≤ 32 ∧ (m.walls.length : Int) = m.W * m.H := by
  unfold formedB sizeOk at h
  simp only [Bool.and_eq_true, decide_eq_true_eq] at h
  exact ⟨h.1.1, h.1.2.1, h.1.2.2.1, h.1.2.2.2.1, h.1.2.2.2.2.1⟩
def inB (m : MapV) (b : BoxV) : Prop := 0 ≤ b.lo.x ∧ 0 ≤ b.lo.y ∧ b.hi.x ≤ m.W * 65536 ∧ b.hi.y ≤ m.H * 65536
theorem boxOk_le {b : BoxV} (h : boxOk b = true) : b.lo.x ≤ b.hi.x ∧ b.lo.y ≤ b.hi.y ∧ b.hi.x ≤ 134217728 ∧ b.hi.y ≤ 134217728 ∧ -134217728 ≤ b.lo.x ∧ -134217728 ≤ b.lo.y := by
  unfold boxOk vecOk at h
  simp only [Bool.and_eq_true, decide_eq_true_eq] at h
  omega
set_option maxRecDepth 100000 in
set_option maxHeartbeats 4000000 in
theorem tFreeNo (m : MapV) (s : MapS) (b : BoxV) (w : World) (h : MapAt w w.heap.size m s) (hno : boxOk b = false ∨ formedB m = false ∨ ¬ inB m b) :
    Calls Tryz.prog 243 #[(.agg #[.int .i64 m.W, .int .i64 m.H, .slice s.A s.n s.c, .slice s.A2 s.n2 s.c2]), (.agg #[.int .i64 b.lo.x, .int .i64 b.lo.y, .int .i64 b.hi.x, .int .i64 b.hi.y])] w fun e w' => e = .returned (.bool false) ∧ Below w.heap.size w w' := by
  have hF := fun W (hW : Below w.heap.size w W) => tFormed m s W ((h.below hW).upto hW.size)
  cases e1 : boxOk b
  rotate_left
  cases e2 : formedB m
  rotate_left
  · have hno' : ¬ inB m b := by
      rcases hno with h1 | h1 | h1
      · rw [e1] at h1; cases h1
      · rw [e2] at h1; cases h1
      · exact h1
    obtain ⟨w1, w2, h1, h2, -⟩ := sizeOk_of_formed e2
    unfold inB at hno'
    have HN := Lib.hid hno'
    clear hno hno' h
    simp only [e2] at hF
    go_enter Tryz.func243, Tryz.ntmps243
    go_wp2_with (first
      | (go_at_call 76; refine (boxFormed ⟨⟨_, _⟩, ⟨_, _⟩⟩ _).mono ?_; rintro e w1 ⟨rfl, hb1⟩; obtain ⟨hc1, hf1⟩ := bcell hb1; have hs1 := hb1.size; (try simp at hs1); have l1 : w.heap.size < w1.heap.size := (by omega); have l2 : w.heap.size + 1 < w1.heap.size := (by omega); have B1 : Below w.heap.size w w1 := Below.trans (by repeat (first | with_reducible exact Below.refl _ _ | with_reducible assumption | with_reducible refine Below.drew ?_ | with_reducible refine below_drews ?_ _ | with_reducible refine Below.alloc ?_ (by first | omega | (simp; done) | (simp; omega)) _ | with_reducible refine Below.setCell ?_ (by first | omega | (simp; done) | (simp; omega)) _)) (hb1.mono (by (try simp) <;> omega)))
      | (go_at_call 153; refine (hF _ (Below.trans B1 (by repeat (first | with_reducible exact Below.refl _ _ | with_reducible assumption | with_reducible refine Below.drew ?_ | with_reducible refine below_drews ?_ _ | with_reducible refine Below.alloc ?_ (by first | omega | (simp; done) | (simp; omega)) _ | with_reducible refine Below.setCell ?_ (by first | omega | (simp; done) | (simp; omega)) _)))).mono ?_; rintro e w1 ⟨rfl, hb1⟩; obtain ⟨hc1, hf1⟩ := bcell hb1; have hs1 := hb1.size; have l1 : w.heap.size < w1.heap.size := (by omega); have l2 : w.heap.size + 1 < w1.heap.size := (by omega); have B1 : Below w.heap.size w w1 := Below.trans B1 (hb1.mono (by omega))))
    all_goals first | (go_ret; exact ⟨rfl, (by repeat (first | with_reducible exact Below.refl _ _ | with_reducible assumption | with_reducible refine Below.drew ?_ | with_reducible refine below_drews ?_ _ | with_reducible refine Below.alloc ?_ (by first | omega | (simp; done) | (simp; omega)) _ | with_reducible refine Below.setCell ?_ (by first | omega | (simp; done) | (simp; omega)) _))⟩) | (exfalso; have := HN.out; omega)
  · clear hF
    go_enter Tryz.func243, Tryz.ntmps243
    go_wp2_with (go_at_call 76; refine (boxFormed ⟨⟨_, _⟩, ⟨_, _⟩⟩ _).mono ?_; rintro e w1 ⟨rfl, hb1⟩; obtain ⟨hc1, hf1⟩ := bcell hb1; have hs1 := hb1.size; (try simp at hs1); have l1 : w.heap.size < w1.heap.size := (by omega); have l2 : w.heap.size + 1 < w1.heap.size := (by omega); have B1 : Below w.heap.size w w1 := Below.trans (by repeat (first | with_reducible exact Below.refl _ _ | with_reducible assumption | with_reducible refine Below.drew ?_ | with_reducible refine below_drews ?_ _ | with_reducible refine Below.alloc ?_ (by first | omega | (simp; done) | (simp; omega)) _ | with_reducible refine Below.setCell ?_ (by first | omega | (simp; done) | (simp; omega)) _)) (hb1.mono (by (try simp) <;> omega)))
    go_ret
    exact ⟨rfl, (by repeat (first | with_reducible exact Below.refl _ _ | with_reducible assumption | with_reducible refine Below.drew ?_ | with_reducible refine below_drews ?_ _ | with_reducible refine Below.alloc ?_ (by first | omega | (simp; done) | (simp; omega)) _ | with_reducible refine Below.setCell ?_ (by first | omega | (simp; done) | (simp; omega)) _))⟩
  · simp only [e2] at hF
    go_enter Tryz.func243, Tryz.ntmps243
    go_wp2_with (first
      | (go_at_call 76; refine (boxFormed ⟨⟨_, _⟩, ⟨_, _⟩⟩ _).mono ?_; rintro e w1 ⟨rfl, hb1⟩; obtain ⟨hc1, hf1⟩ := bcell hb1; have hs1 := hb1.size; (try simp at hs1); have l1 : w.heap.size < w1.heap.size := (by omega); have l2 : w.heap.size + 1 < w1.heap.size := (by omega); have B1 : Below w.heap.size w w1 := Below.trans (by repeat (first | with_reducible exact Below.refl _ _ | with_reducible assumption | with_reducible refine Below.drew ?_ | with_reducible refine below_drews ?_ _ | with_reducible refine Below.alloc ?_ (by first | omega | (simp; done) | (simp; omega)) _ | with_reducible refine Below.setCell ?_ (by first | omega | (simp; done) | (simp; omega)) _)) (hb1.mono (by (try simp) <;> omega)))
      | (go_at_call 153; refine (hF _ (Below.trans B1 (by repeat (first | with_reducible exact Below.refl _ _ | with_reducible assumption | with_reducible refine Below.drew ?_ | with_reducible refine below_drews ?_ _ | with_reducible refine Below.alloc ?_ (by first | omega | (simp; done) | (simp; omega)) _ | with_reducible refine Below.setCell ?_ (by first | omega | (simp; done) | (simp; omega)) _)))).mono ?_; rintro e w1 ⟨rfl, hb1⟩; obtain ⟨hc1, hf1⟩ := bcell hb1; have hs1 := hb1.size; have l1 : w.heap.size < w1.heap.size := (by omega); have l2 : w.heap.size + 1 < w1.heap.size := (by omega); have B1 : Below w.heap.size w w1 := Below.trans B1 (hb1.mono (by omega))))
    go_ret
    exact ⟨rfl, (by repeat (first | with_reducible exact Below.refl _ _ | with_reducible assumption | with_reducible refine Below.drew ?_ | with_reducible refine below_drews ?_ _ | with_reducible refine Below.alloc ?_ (by first | omega | (simp; done) | (simp; omega)) _ | with_reducible refine Below.setCell ?_ (by first | omega | (simp; done) | (simp; omega)) _))⟩
set_option maxRecDepth 100000 in
set_option maxHeartbeats 8000000 in
theorem tFreeYes (m : MapV) (g1 off1 n c : Nat) (A2 : Option Addr) (n2 c2 : Nat) (b : BoxV) (w : World) (h : MapAt w w.heap.size m ⟨some ⟨g1, off1, none⟩, n, c, A2, n2, c2⟩)
    (hg1 : g1 < w.heap.size) (hc1 : ∀ j u, (boolsV m.walls)[j]? = some u → w.cell? ⟨g1, off1 + j, none⟩ = some u) (e1 : boxOk b = true) (e2 : formedB m = true) (hin : inB m b) :
    Calls Tryz.prog 243 #[.agg #[.int .i64 m.W, .int .i64 m.H, .slice (some ⟨g1, off1, none⟩) n c, .slice A2 n2 c2], (.agg #[.int .i64 b.lo.x, .int .i64 b.lo.y, .int .i64 b.hi.x, .int .i64 b.hi.y])] w fun e w' => e = .returned (.bool (decide (clear_ m b))) ∧ Below w.heap.size w w' := by
  have hF := fun W (hW : Below w.heap.size w W) => tFormed m _ W ((h.below hW).upto hW.size)
  simp only [e1, e2] at hF
  have hB0 := fun W => boxFormed b W
  simp only [e1] at hB0
  obtain ⟨w1, w2, h1, h2, hwl⟩ := sizeOk_of_formed e2
  obtain ⟨q1, q2, q3, q4⟩ := hin
  obtain ⟨r1, r2, -, -, -, -⟩ := boxOk_le e1
  have hn : m.walls.length = n := h.len.1
  have hc63 : n ≤ 9223372036854775807 := Nat.le_trans h.nc h.c63
  obtain ⟨y0, hy0⟩ : ∃ y0 : Nat, (if b.lo.y / 65536 - 1 < 0 then 0 else b.lo.y / 65536 - 1) = (y0 : Int) := ⟨(max (b.lo.y / 65536 - 1) 0).toNat, by split <;> omega⟩
  obtain ⟨x0, hx0⟩ : ∃ x0 : Nat, (if b.lo.x / 65536 - 1 < 0 then 0 else b.lo.x / 65536 - 1) = (x0 : Int) := ⟨(max (b.lo.x / 65536 - 1) 0).toNat, by split <;> omega⟩
  have hy0' : ∀ y : Nat, y < y0 → ((y : Int) + 1) * 65536 ≤ b.lo.y := fun y hy => by split at hy0 <;> omega
  have hx0' : ∀ x : Nat, x < x0 → ((x : Int) + 1) * 65536 ≤ b.lo.x := fun x hx => by split at hx0 <;> omega
  have hy32 : y0 ≤ 32 := by split at hy0 <;> omega
  have hx32 : x0 ≤ 32 := by split at hx0 <;> omega
  have HY0 := Lib.hid hy0'
  have HX0 := Lib.hid hx0'
  clear hy0' hx0'
  have HC1 := Lib.hid hc1
  have HWL := Lib.hid hwl
  have HN := Lib.hid hn
  clear hc1 e1 e2 h hwl hn
  have t1 : decide (b.lo.x < 0) = false := decide_eq_false (by omega)
  have t2 : decide (b.lo.y < 0) = false := decide_eq_false (by omega)
  have t3 : decide (m.W * 65536 < b.hi.x) = false := decide_eq_false (by omega)
  have t4 : decide (m.H * 65536 < b.hi.y) = false := decide_eq_false (by omega)
  go_enter Tryz.func243, Tryz.ntmps243
  go_wp2_with (first
    | (go_at_call 76; refine (hB0 _).mono ?_; rintro e w1 ⟨rfl, hb1⟩; obtain ⟨hc1, hf1⟩ := bcell hb1; have hs1 := hb1.size; (try simp at hs1); have l1 : w.heap.size < w1.heap.size := (by omega); have l2 : w.heap.size + 1 < w1.heap.size := (by omega); have B1 : Below w.heap.size w w1 := Below.trans (by repeat (first | with_reducible exact Below.refl _ _ | with_reducible assumption | with_reducible refine Below.drew ?_ | with_reducible refine below_drews ?_ _ | with_reducible refine Below.alloc ?_ (by first | omega | (simp; done) | (simp; omega)) _ | with_reducible refine Below.setCell ?_ (by first | omega | (simp; done) | (simp; omega)) _)) (hb1.mono (by (try simp) <;> omega)))
    | (go_at_call 153; refine (hF _ (Below.trans B1 (by repeat (first | with_reducible exact Below.refl _ _ | with_reducible assumption | with_reducible refine Below.drew ?_ | with_reducible refine below_drews ?_ _ | with_reducible refine Below.alloc ?_ (by first | omega | (simp; done) | (simp; omega)) _ | with_reducible refine Below.setCell ?_ (by first | omega | (simp; done) | (simp; omega)) _)))).mono ?_; rintro e w1 ⟨rfl, hb1⟩; obtain ⟨hc1, hf1⟩ := bcell hb1; have hs1 := hb1.size; have l1 : w.heap.size < w1.heap.size := (by omega); have l2 : w.heap.size + 1 < w1.heap.size := (by omega); have B1 : Below w.heap.size w w1 := Below.trans B1 (hb1.mono (by omega))))
  have p0 : w1.cell? ⟨w.heap.size, 0, none⟩ = some (.int .i64 m.W) := by go_simp
  have p1 : w1.cell? ⟨w.heap.size, 1, none⟩ = some (.int .i64 m.H) := by go_simp
  have p2 : w1.cell? ⟨w.heap.size, 2, none⟩ = some (.slice (some ⟨g1, off1, none⟩) n c) := by go_simp
  have p3 : w1.cell? ⟨w.heap.size + 1, 0, none⟩ = some (.int .i64 b.lo.x) := by go_simp
  have p4 : w1.cell? ⟨w.heap.size + 1, 1, none⟩ = some (.int .i64 b.lo.y) := by go_simp
  have p5 : w1.cell? ⟨w.heap.size + 1, 2, none⟩ = some (.int .i64 b.hi.x) := by go_simp
  have p6 : w1.cell? ⟨w.heap.size + 1, 3, none⟩ = some (.int .i64 b.hi.y) := by go_simp
  have hcw : ∀ j u, (boolsV m.walls)[j]? = some u → w1.cell? ⟨g1, off1 + j, none⟩ = some u := fun j u hu => (B1.cell (p := ⟨g1, off1 + j, none⟩) hg1).trans (HC1.out j u hu)
  have HP := Lib.hid (show _ ∧ _ ∧ _ ∧ _ ∧ _ ∧ _ ∧ _ from ⟨p0, p1, p2, p3, p4, p5, p6⟩)
  have HCW := Lib.hid hcw
  have hg1w : g1 < w1.heap.size := by omega
  clear p0 p1 p2 p3 p4 p5 p6 hcw hF hB0 hc1 hf1 hb1
  go_loopw [6] (fun i wr => ∃ y : Nat, y ≤ 33 ∧ i = .int .i64 y ∧ (∀ y', y' < y → ∀ x, x < m.W.toNat → wallAt m x y' = true → overlap (tile x y') b = false) ∧ Below w1.heap.size w1 wr) (fun i _ => 40 - (intOf i).toNat)
  case atStart => exact ⟨y0, by omega, rfl, fun y' hy' x _ _ => ov_y_low (HY0.out y' hy'), Below.refl _ _⟩
  case round =>
    obtain ⟨wo, rfl⟩ : ∃ wo : World, wo = wr := ⟨_, rfl⟩
    obtain ⟨y, hy33, rfl, hcl, hb⟩ := hrel
    have hbs := hb.size
    obtain ⟨kc, kf⟩ := bcell hb
    obtain ⟨p0, p1, p2, p3, p4, p5, p6⟩ := HP.out
    have HCL := Lib.hid hcl
    clear hcl
    by_cases hyH : (y : Int) < m.H
    · by_cases hyb : (y : Int) * 65536 < b.hi.y
      · go_wp2
        clear kc kf p0 p1 p2 p3 p4 p5 p6
        obtain ⟨r, hr⟩ : ∃ r, y * m.W.toNat = r := ⟨_, rfl⟩
        have hrn : r + m.W.toNat ≤ n := by
          have e : (n : Int) = m.W * m.H := by rw [← HWL.out, HN.out]
          have h3 : (y + 1) * m.W.toNat ≤ m.H.toNat * m.W.toNat := Nat.mul_le_mul_right _ (by omega)
          have h4 : ((m.H.toNat * m.W.toNat : Nat) : Int) = n := by
            rw [e, Int.natCast_mul, Int.toNat_of_nonneg (by omega), Int.toNat_of_nonneg (by omega), Int.mul_comm]
          rw [Nat.add_mul, hr, Nat.one_mul] at h3
          omega
        have hyW : (y : Int) * m.W = (r : Int) := by rw [← hr, Int.natCast_mul, Int.toNat_of_nonneg (by omega)]
        have HR := Lib.hid hr
        clear hr
        go_loopw [7] (fun i wi => ∃ x : Nat, x ≤ 33 ∧ i = .int .i64 x ∧ (∀ x', x' < x → wallAt m x' y = true → overlap (tile x' y) b = false) ∧ Below w1.heap.size w1 wi) (fun i _ => 40 - (intOf i).toNat)
        case atStart => exact ⟨x0, by omega, rfl, fun x' hx' _ => ov_x_low (HX0.out x' hx'), hb⟩
        case round =>
          obtain ⟨x, hx33, rfl, hcx, hbi⟩ := hrel
          have hbis := hbi.size
          have l3 : w.heap.size < wr.heap.size := by omega
          have l4 : w.heap.size + 1 < wr.heap.size := by omega
          have l5 : g1 < wr.heap.size := by omega
          obtain ⟨kc, kf⟩ := bcell hbi
          obtain ⟨p0, p1, p2, p3, p4, p5, p6⟩ := HP.out
          have HCX := Lib.hid hcx
          clear hcx
          by_cases hxW : (x : Int) < m.W
          · by_cases hxb : (x : Int) * 65536 < b.hi.x
            · obtain ⟨v, hv⟩ : ∃ v, m.walls[r + x]? = some v := ⟨_, List.getElem?_eq_getElem (by rw [HN.out]; omega)⟩
              have f1 : w1.cell? ⟨g1, off1 + (r + x), none⟩ = some (.bool v) := HCW.out _ _ (by simp [boolsV, hv])
              have hwa : wallAt m x y = v := by unfold wallAt; rw [HR.out, List.getD_eq_getElem?_getD, hv]; rfl
              have HWA := Lib.hid hwa
              obtain ⟨o, ho⟩ : ∃ o, overlap (tile x y) b = o := ⟨_, rfl⟩
              have hov := fun W => boxOverlap (tile x y) b W
              rw [ho] at hov
              unfold tile at hov
              have HO := Lib.hid ho
              clear hv hwa ho
              cases v with
              | false =>
                clear hov
                go_wp2
                refine ⟨⟨x + 1, by omega, by go_num, fun x' hx' hw' => ?_, hbi.trans (Below.alloc (Below.refl _ _) hbis _)⟩, by simp [intOf]; omega⟩
                rcases Nat.lt_or_ge x' x with h1 | h1
                · exact HCX.out x' h1 hw'
                · obtain rfl : x' = x := by omega
                  rw [HWA.out] at hw'; cases hw'
              | true =>
                cases o with
                | false =>
                  go_wp2_with (go_at_call 170; refine (hov _).mono ?_; rintro e w2 ⟨rfl, hb2⟩)
                  refine ⟨⟨x + 1, by omega, by go_num, fun x' hx' hw' => ?_, hbi.trans (Below.trans (Below.alloc (Below.refl _ _) hbis _) (hb2.mono (by simp; omega)))⟩, by simp [intOf]; omega⟩
                  rcases Nat.lt_or_ge x' x with h1 | h1
                  · exact HCX.out x' h1 hw'
                  · obtain rfl : x' = x := by omega
                    exact HO.out
                | true =>
                  go_wp2_with (go_at_call 170; refine (hov _).mono ?_; rintro e w2 ⟨rfl, hb2⟩)
                  go_ret
                  have hcl : ¬ clear_ m b := fun hcl => by
                    have := hcl y (by omega) x (by omega) HWA.out
                    rw [HO.out] at this; cases this
                  rw [decide_eq_false hcl]
                  exact ⟨rfl, B1.trans ((hbi.trans (Below.trans (Below.alloc (Below.refl _ _) hbis _) (hb2.mono (by simp; omega)))).mono (by omega))⟩
            · go_wp2
              refine ⟨⟨y + 1, by omega, by go_num, fun y' hy' x' hx' hw' => ?_, hbi⟩, by simp [intOf]; omega⟩
              rcases Nat.lt_or_ge y' y with h1 | h1
              · exact HCL.out y' h1 x' hx' hw'
              · obtain rfl : y' = y := by omega
                rcases Nat.lt_or_ge x' x with h2 | h2
                · exact HCX.out x' h2 hw'
                · exact ov_x_high (by omega)
          · go_wp2
            refine ⟨⟨y + 1, by omega, by go_num, fun y' hy' x' hx' hw' => ?_, hbi⟩, by simp [intOf]; omega⟩
            rcases Nat.lt_or_ge y' y with h1 | h1
            · exact HCL.out y' h1 x' hx' hw'
            · obtain rfl : y' = y := by omega
              exact HCX.out x' (by omega) hw'
      · go_wp2
        go_ret
        have hcl : clear_ m b := fun y' hy' x' hx' hw' => by
          rcases Nat.lt_or_ge y' y with h1 | h1
          · exact HCL.out y' h1 x' hx' hw'
          · exact ov_y_high (by omega)
        rw [decide_eq_true hcl]
        exact ⟨rfl, B1.trans (hb.mono (by omega))⟩
    · go_wp2
      go_ret
      have hcl : clear_ m b := fun y' hy' x' hx' hw' => HCL.out y' (by omega) x' hx' hw'
      rw [decide_eq_true hcl]
      exact ⟨rfl, B1.trans (hb.mono (by omega))⟩
theorem tFree (m : MapV) (s : MapS) (b : BoxV) (w : World) (h : MapAt w w.heap.size m s) :
    Calls Tryz.prog 243 #[(.agg #[.int .i64 m.W, .int .i64 m.H, .slice s.A s.n s.c, .slice s.A2 s.n2 s.c2]), (.agg #[.int .i64 b.lo.x, .int .i64 b.lo.y, .int .i64 b.hi.x, .int .i64 b.hi.y])] w fun e w' => e = .returned (.bool (freeB m b)) ∧ Below w.heap.size w w' := by
  by_cases hy : boxOk b = true ∧ formedB m = true ∧ inB m b
  · obtain ⟨e1, e2, hin⟩ := hy
    have e : freeB m b = decide (clear_ m b) := by
      unfold freeB
      unfold inB at hin
      rw [e1, e2, decide_eq_true hin]; simp
    rw [e]
    obtain ⟨w1, w2, h1, h2, hwl⟩ := sizeOk_of_formed e2
    have l1 := h.len.1
    have hmul : 0 < m.W * m.H := Int.mul_pos (by omega) (by omega)
    obtain ⟨A, n, c, A2, n2, c2⟩ := s
    have hw : Reads w w.heap.size 1 A n (boolsV m.walls) := h.walls
    have l1 : m.walls.length = n := l1
    obtain ⟨g1, off1, rfl, hg1, hc1⟩ := hw.flat (by omega) (by omega)
    exact tFreeYes m g1 off1 n c A2 n2 c2 b w h hg1 hc1 e1 e2 hin
  · have e : freeB m b = false := by
      unfold freeB
      cases e1 : boxOk b
      · rfl
      · cases e2 : formedB m
        · rfl
        · have : ¬ inB m b := fun h3 => hy ⟨e1, e2, h3⟩
          unfold inB at this
          rw [decide_eq_false this]; rfl
    rw [e]
    refine tFreeNo m s b w h ?_
    cases e1 : boxOk b
    · exact .inl rfl
    · cases e2 : formedB m
      · exact .inr (.inl rfl)
      · exact .inr (.inr fun h3 => hy ⟨e1, e2, h3⟩)
theorem mStands (m : MapV) (s : MapS) (x y : Int) (w : World) (h : MapAt w w.heap.size m s) :
    Calls Tryz.prog 237 #[(.agg #[.int .i64 m.W, .int .i64 m.H, .slice s.A s.n s.c, .slice s.A2 s.n2 s.c2]), (.agg #[.int .i64 x, .int .i64 y])] w fun e w' => e = .returned (.bool (standsB m ⟨x, y⟩)) ∧ Below w.heap.size w w' := by
  have hF := fun W (hW : Below w.heap.size w W) => tFree m s (around ⟨x, y⟩ 24576) W ((h.below hW).upto hW.size)
  unfold around at hF
  simp only at hF
  go_enter Tryz.func237, Tryz.ntmps237
  go_wp2
  have hba : Below w.heap.size w ((w.alloc (.cells #[.int .i64 m.W, .int .i64 m.H, .slice s.A s.n s.c, .slice s.A2 s.n2 s.c2] 25)).alloc (.cells #[.int .i64 x, .int .i64 y] 53)) := (by repeat (first | with_reducible exact Below.refl _ _ | with_reducible assumption | with_reducible refine Below.drew ?_ | with_reducible refine below_drews ?_ _ | with_reducible refine Below.alloc ?_ (by first | omega | (simp; done) | (simp; omega)) _ | with_reducible refine Below.setCell ?_ (by first | omega | (simp; done) | (simp; omega)) _))
  have HB := Lib.hid hba
  clear hba
  have l1 : w.heap.size < w.heap.size + 1 + 1 := by omega
  have l2 : w.heap.size + 1 < w.heap.size + 1 + 1 := by omega
  refine wp_region_kin' (w.heap.size + 1 + 1) (by kernel_rfl) (by kernel_rfl) (fun kk => ?_)
  repeat (first
    | go_big_quiet_step ((first | (go_at_call 29; exact kin_of (by simp) (boxAround x y 24576 _)) | (go_at_call 243; exact kin_of (by simp) (hF _ (HB.out.trans ((Kin.below _).mono (by omega)))))))
    | quiet_step ((first | (go_at_call 29; exact kin_of (by simp) (boxAround x y 24576 _)) | (go_at_call 243; exact kin_of (by simp) (hF _ (HB.out.trans ((Kin.below _).mono (by omega))))))))
  refine wpQuiet_nil ?_
  rintro _ ⟨⟨wk, hwk⟩, rfl⟩
  go_wp2
  go_ret
  exact ⟨rfl, HB.out.trans (hwk.mono (by omega))⟩
end Go.Proofs.YtojbijapdkohlaaGreatDoor
