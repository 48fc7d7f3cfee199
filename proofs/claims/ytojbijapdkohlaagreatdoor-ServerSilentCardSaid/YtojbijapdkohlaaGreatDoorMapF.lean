/- The walk of tiles.Formed. -/
import Derived.Test.YtojbijapdkohlaaGreatDoorQ01Steps
set_option linter.unusedSimpArgs false
set_option linter.unusedVariables false
namespace Go.Proofs.YtojbijapdkohlaaGreatDoor
open Go.RowKit
/-- The slices of a map. -/
structure MapS where
  A : Option Addr
  n : Nat
  c : Nat
  A2 : Option Addr
  n2 : Nat
  c2 : Nat
/-- A map's slices, told. -/
structure MapAt (w : World) (B : Nat) (m : MapV) (s : MapS) : Prop where
  walls : Reads w B 1 s.A s.n (boolsV m.walls)
  spawns : Reads w B 2 s.A2 s.n2 (vecsV m.spawns)
  nc : s.n ≤ s.c
  c63 : s.c ≤ 9223372036854775807
  n63 : s.n2 ≤ 9223372036854775807
theorem MapAt.below {w w' : World} {B : Nat} {m : MapV} {s : MapS} (h : MapAt w B m s) (hb : Below B w w') : MapAt w' B m s := { h with walls := h.walls.below hb, spawns := h.spawns.below hb }
theorem Reads.upto {w : World} {B B' size n : Nat} {A : Option Addr} {xs : List Value} (h : Reads w B size A n xs) (hB : B ≤ B') : Reads w B' size A n xs := h.more hB
theorem MapAt.upto {w : World} {B B' : Nat} {m : MapV} {s : MapS} (h : MapAt w B m s) (hB : B ≤ B') : MapAt w B' m s := { h with walls := h.walls.more hB, spawns := h.spawns.more hB }
theorem MapAt.len {w : World} {B : Nat} {m : MapV} {s : MapS} (h : MapAt w B m s) : m.walls.length = s.n ∧ m.spawns.length = s.n2 := by
  have h1 := h.walls.1
  have h2 := h.spawns.1
  refine ⟨by simpa [boolsV] using h1, ?_⟩
  have : (vecsV m.spawns).length = m.spawns.length * 2 := by
    unfold vecsV
    induction m.spawns with
    | nil => rfl
    | cons a l ih => simp [List.flatMap_cons, ih]; omega
  omega
theorem vecsV_at (l : List VecV) (k : Nat) (v : VecV) (h : l[k]? = some v) : (vecsV l)[k * 2]? = some (.int .i64 v.x) ∧ (vecsV l)[k * 2 + 1]? = some (.int .i64 v.y) := by
  unfold vecsV
  induction l generalizing k with
  | nil => simp at h
  | cons a l ih =>
    cases k with
    | zero => simp at h; subst h; simp [List.flatMap_cons]
    | succ k =>
      have := ih k (by simpa using h)
      rw [show (k + 1) * 2 = k * 2 + 2 by omega]
      simpa [List.flatMap_cons] using this
theorem sizeOk_false_of {m : MapV} (h : sizeOk m = false) (w1 : 1 ≤ m.W) (w2 : m.W ≤ 32) (h1 : 1 ≤ m.H) (h2 : m.H ≤ 32) (a : (m.walls.length : Int) = m.W * m.H) (b : m.spawns.length ≠ 0) (c : (m.spawns.length : Int) ≤ m.W * m.H) : False := by
  unfold sizeOk at h
  exact absurd ⟨w1, w2, h1, h2, a, b, c⟩ (of_decide_eq_false h)
set_option maxHeartbeats 4000000 in
theorem tFormedNo (m : MapV) (s : MapS) (w : World) (h : MapAt w w.heap.size m s) (hno : sizeOk m = false) : Calls Tryz.prog 153 #[(.agg #[.int .i64 m.W, .int .i64 m.H, .slice s.A s.n s.c, .slice s.A2 s.n2 s.c2])] w fun e w' => e = .returned (.bool false) ∧ Below w.heap.size w w' := by
  obtain ⟨l1, l2⟩ := h.len
  have hn := h.nc
  have hc := h.c63
  have hn2 := h.n63
  by_cases hr : 1 ≤ m.W ∧ m.W ≤ 32 ∧ 1 ≤ m.H ∧ m.H ≤ 32
  · obtain ⟨w1, w2, h1, h2⟩ := hr
    obtain ⟨wh, hwh⟩ : ∃ wh, m.W * m.H = wh := ⟨_, rfl⟩
    have b0 : 0 ≤ wh := by rw [← hwh]; exact Int.mul_nonneg (by omega) (by omega)
    have b1 : wh ≤ 1024 := by
      rw [← hwh]
      exact Int.le_trans (Int.mul_le_mul w2 h2 (by omega) (by omega)) (by decide)
    have hno2 : ¬ ((s.n : Int) = wh ∧ s.n2 ≠ 0 ∧ (s.n2 : Int) ≤ wh) := fun ⟨a, b, c⟩ => sizeOk_false_of hno w1 w2 h1 h2 (by rw [l1, hwh]; exact a) (by rw [l2]; exact b) (by rw [l2, hwh]; exact c)
    have HN := Lib.hid hno2
    clear h l1 l2 hno hno2
    go_enter Tryz.func153, Tryz.ntmps153
    go_wp2
    all_goals first | (go_ret; exact ⟨rfl, (by repeat (first | with_reducible exact Below.refl _ _ | with_reducible assumption | with_reducible refine Below.drew ?_ | with_reducible refine below_drews ?_ _ | with_reducible refine Below.alloc ?_ (by first | omega | (simp; done) | (simp; omega)) _ | with_reducible refine Below.setCell ?_ (by first | omega | (simp; done) | (simp; omega)) _))⟩) | (exfalso; have := HN.out; omega)
  · have HR := Lib.hid hr
    clear h l1 l2 hno hr
    go_enter Tryz.func153, Tryz.ntmps153
    go_wp2
    all_goals first | (go_ret; exact ⟨rfl, (by repeat (first | with_reducible exact Below.refl _ _ | with_reducible assumption | with_reducible refine Below.drew ?_ | with_reducible refine below_drews ?_ _ | with_reducible refine Below.alloc ?_ (by first | omega | (simp; done) | (simp; omega)) _ | with_reducible refine Below.setCell ?_ (by first | omega | (simp; done) | (simp; omega)) _))⟩) | (exfalso; have := HR.out; omega)
theorem elt22 : Elt Tryz.prog 22 4 1 1 := Elt.mk' Tryz.underlying22 (.bool false) (by kernel_rfl) rfl (by decide) (by decide)
theorem elt23 : Elt Tryz.prog 23 53 2 16 := Elt.mk' Tryz.underlying23 (.agg #[.int .i64 0, .int .i64 0]) (by kernel_rfl) rfl (by decide) (by decide)
set_option maxRecDepth 100000 in
set_option maxHeartbeats 8000000 in
theorem tFormedYes (m : MapV) (g1 off1 n c g2 off2 n2 c2 : Nat) (w : World) (hw : Reads w w.heap.size 1 (some ⟨g1, off1, none⟩) n (boolsV m.walls)) (hsp : Reads w w.heap.size 2 (some ⟨g2, off2, none⟩) n2 (vecsV m.spawns))
    (hg1 : g1 < w.heap.size) (hg2 : g2 < w.heap.size) (hc1 : ∀ j u, (boolsV m.walls)[j]? = some u → w.cell? ⟨g1, off1 + j, none⟩ = some u) (hc2 : ∀ j u, (vecsV m.spawns)[j]? = some u → w.cell? ⟨g2, off2 + j, none⟩ = some u)
    (l1 : m.walls.length = n) (l2 : m.spawns.length = n2) (hn : n ≤ c) (hc : c ≤ 9223372036854775807) (hn2 : n2 ≤ 9223372036854775807) (hyes : sizeOk m = true) :
    Calls Tryz.prog 153 #[.agg #[.int .i64 m.W, .int .i64 m.H, .slice (some ⟨g1, off1, none⟩) n c, .slice (some ⟨g2, off2, none⟩) n2 c2]] w fun e w' => e = .returned (.bool (formedFrom m.walls m.W.toNat m.spawns 0)) ∧ Below w.heap.size w w' := by
  have HC1 := Lib.hid hc1
  have HC2 := Lib.hid hc2
  clear hc1 hc2
  unfold sizeOk at hyes
  obtain ⟨w1, w2, h1, h2, hwl, hs0, hs1⟩ := of_decide_eq_true hyes
  clear hyes
  obtain ⟨wh, hwh⟩ : ∃ wh, m.W * m.H = wh := ⟨_, rfl⟩
  have b1 : wh ≤ 1024 := by
    rw [← hwh]
    exact Int.le_trans (Int.mul_le_mul w2 h2 (by omega) (by omega)) (by decide)
  rw [hwh, l1] at hwl
  rw [l2] at hs0
  rw [hwh, l2] at hs1
  subst hwl
  have HL1 := Lib.hid l1
  have HL2 := Lib.hid l2
  have hs0' : 0 < n2 := by omega
  have hs0b : ((n2 : Int) == 0) = false := by rw [beq_eq_false_iff_ne]; omega
  clear l1 l2 hs0
  have t1 : decide (m.W < 1) = false := decide_eq_false (by omega)
  have t2 : decide (32 < m.W) = false := decide_eq_false (by omega)
  have t3 : decide (m.H < 1) = false := decide_eq_false (by omega)
  have t4 : decide (32 < m.H) = false := decide_eq_false (by omega)
  have t5 : decide ((n : Int) < (n2 : Int)) = false := decide_eq_false (by omega)
  have t6 : decide (n < n2) = false := decide_eq_false (by omega)
  go_enter Tryz.func153, Tryz.ntmps153
  go_wp2
  have q0 : (w.alloc (.cells #[.int .i64 m.W, .int .i64 m.H, .slice (some ⟨g1, off1, none⟩) n c, .slice (some ⟨g2, off2, none⟩) n2 c2] 25)).cell? ⟨w.heap.size, 0, none⟩ = some (.int .i64 m.W) := by go_simp
  have q2 : (w.alloc (.cells #[.int .i64 m.W, .int .i64 m.H, .slice (some ⟨g1, off1, none⟩) n c, .slice (some ⟨g2, off2, none⟩) n2 c2] 25)).cell? ⟨w.heap.size, 2, none⟩ = some (.slice (some ⟨g1, off1, none⟩) n c) := by go_simp
  have q3 : (w.alloc (.cells #[.int .i64 m.W, .int .i64 m.H, .slice (some ⟨g1, off1, none⟩) n c, .slice (some ⟨g2, off2, none⟩) n2 c2] 25)).cell? ⟨w.heap.size, 3, none⟩ = some (.slice (some ⟨g2, off2, none⟩) n2 c2) := by go_simp
  have hbw : Below w.heap.size w (w.alloc (.cells #[.int .i64 m.W, .int .i64 m.H, .slice (some ⟨g1, off1, none⟩) n c, .slice (some ⟨g2, off2, none⟩) n2 c2] 25)) := (by repeat (first | with_reducible exact Below.refl _ _ | with_reducible assumption | with_reducible refine Below.drew ?_ | with_reducible refine below_drews ?_ _ | with_reducible refine Below.alloc ?_ (by first | omega | (simp; done) | (simp; omega)) _ | with_reducible refine Below.setCell ?_ (by first | omega | (simp; done) | (simp; omega)) _))
  have hsw : (w.alloc (.cells #[.int .i64 m.W, .int .i64 m.H, .slice (some ⟨g1, off1, none⟩) n c, .slice (some ⟨g2, off2, none⟩) n2 c2] 25)).heap.size = w.heap.size + 1 := by simp
  generalize w.alloc (.cells #[.int .i64 m.W, .int .i64 m.H, .slice (some ⟨g1, off1, none⟩) n c, .slice (some ⟨g2, off2, none⟩) n2 c2] 25) = wb at q0 q2 q3 hbw hsw ⊢
  have Q0 := Lib.hid q0
  have Q2 := Lib.hid q2
  have Q3 := Lib.hid q3
  have HSW := Lib.hid hsw
  clear q0 q2 q3 hsw
  go_loopw [56, 3] (fun i a wr => ∃ k pos : Nat, k ≤ n2 ∧ i = .int .i64 k ∧ a = .int .i64 ((pos : Int) - 1) ∧ pos ≤ n ∧ formedFrom m.walls m.W.toNat m.spawns 0 = formedFrom m.walls m.W.toNat (m.spawns.drop k) pos ∧ Below wb.heap.size wb wr) (fun i _ _ => n2 - (intOf i).toNat)
  case atStart => exact ⟨0, 0, Nat.zero_le _, rfl, rfl, Nat.zero_le _, rfl, Below.refl _ _⟩
  case round =>
    obtain ⟨wo, rfl⟩ : ∃ wo : World, wo = wr := ⟨_, rfl⟩
    obtain ⟨k, pos, hk, rfl, rfl, hpos, hf, hb⟩ := hrel
    have HF := Lib.hid hf
    have hbs := hb.size
    have B0 : Below w.heap.size w wo := hbw.trans (hb.mono (by rw [HSW.out]; omega))
    clear hf
    by_cases hlt : k < n2
    · obtain ⟨p, hp⟩ : ∃ p, m.spawns[k]? = some p := ⟨_, List.getElem?_eq_getElem (by rw [HL2.out]; exact hlt)⟩
      have px : wo.cell? ⟨g2, off2 + k * 2, none⟩ = some (.int .i64 p.x) := (B0.cell (p := ⟨g2, off2 + k * 2, none⟩) hg2).trans (HC2.out _ _ (vecsV_at _ _ _ hp).1)
      have py : wo.cell? ⟨g2, off2 + k * 2 + 1, none⟩ = some (.int .i64 p.y) := (B0.cell (p := ⟨g2, off2 + k * 2 + 1, none⟩) hg2).trans (HC2.out _ _ (vecsV_at _ _ _ hp).2)
      have e0 : wo.cell? ⟨w.heap.size, 0, none⟩ = some (.int .i64 m.W) := (hb.cell (p := ⟨w.heap.size, 0, none⟩) (by rw [HSW.out]; exact Nat.lt_succ_self _)).trans Q0.out
      have e2 : wo.cell? ⟨w.heap.size, 2, none⟩ = some (.slice (some ⟨g1, off1, none⟩) n c) := (hb.cell (p := ⟨w.heap.size, 2, none⟩) (by rw [HSW.out]; exact Nat.lt_succ_self _)).trans Q2.out
      have hdr := drop_cons_of hp
      have hwlt : w.heap.size < wo.heap.size := by have := HSW.out; omega
      have hp1 : (pos : Int) - 1 + 1 = pos := by omega
      have HD := Lib.hid hdr
      have kfrom := run_cut (P := Tryz.prog) (elt22) (some ⟨g1, off1, none⟩) n c .i64 pos hpos pos rfl
      obtain ⟨A', hA'⟩ : ∃ A', cutA (some ⟨g1, off1, none⟩) c pos 1 = A' := ⟨_, rfl⟩
      have hrt := hw.tail (k := pos) (c := c) hpos hn
      rw [hA'] at kfrom hrt
      have hbv : (boolsV m.walls).drop (pos * 1) = boolsV (m.walls.drop pos) := by rw [Nat.mul_one]; simp [boolsV]
      rw [hbv] at hrt
      have HRT := Lib.hid hrt
      clear hdr hp hbv hA' hrt
      obtain ⟨K, hK⟩ : ∃ K, idxFrom (fun w => !w) (m.walls.drop pos) 0 = K := ⟨_, rfl⟩
      have hIdx := fun W (hW : Below w.heap.size w W) => idxFloor (m.walls.drop pos) W A' (n - pos) (c - pos) (Reads.upto (HRT.out.below hW) hW.size) (by omega)
      simp only [hK] at hIdx
      have hrange := idxFrom_range (fun w => !w) (m.walls.drop pos) 0
      rw [hK, List.length_drop, HL1.out] at hrange
      have HIdx := Lib.hid hIdx
      have HK := Lib.hid hK
      have hba : Below w.heap.size w (wo.alloc (.cells #[.int .i64 p.x, .int .i64 p.y] 53)) := (by repeat (first | with_reducible exact Below.refl _ _ | with_reducible assumption | with_reducible refine Below.drew ?_ | with_reducible refine below_drews ?_ _ | with_reducible refine Below.alloc ?_ (by first | omega | (simp; done) | (simp; omega)) _ | with_reducible refine Below.setCell ?_ (by first | omega | (simp; done) | (simp; omega)) _))
      have HBA := Lib.hid hba
      clear hIdx hK hba
      rcases hrange with rfl | ⟨hK0, hK1⟩
      · have hfin : formedFrom m.walls m.W.toNat m.spawns 0 = false := by
          rw [HF.out, HD.out, formedFrom, HK.out]; rfl
        have HFIN := Lib.hid hfin
        clear hfin
        go_wp2_with (go_at_call 212; refine (HIdx.out _ HBA.out).mono ?_; rintro e w1 ⟨rfl, rfl⟩)
        go_loopw [6] (fun v wi => v = .int .i64 (-1) ∧ Below w.heap.size w wi) (fun _ _ => 0)
        case atStart => exact ⟨rfl, HBA.out⟩
        case round =>
          obtain ⟨rfl, hbi⟩ := hrel
          go_wp2
          go_quiet (fail)
          go_wp2
          go_ret
          rw [HFIN.out]
          exact ⟨rfl, below_drews hbi _⟩
      · obtain ⟨j0, hj0⟩ : ∃ j0 : Nat, j0 = pos + K.toNat := ⟨_, rfl⟩
        have hKj : K = (j0 : Int) - pos := by omega
        subst hKj
        have hj0n : j0 < n := by omega
        have HJ := Lib.hid hj0
        clear hj0
        go_wp2_with (go_at_call 212; refine (HIdx.out _ HBA.out).mono ?_; rintro e w1 ⟨rfl, rfl⟩)
        go_loopw [6] (fun v wi => ∃ j : Nat, pos ≤ j ∧ j < n ∧ v = .int .i64 ((j : Int) - pos) ∧ seek m.W.toNat m.walls.length p (m.walls.length - j0) j0 = seek m.W.toNat m.walls.length p (m.walls.length - j) j ∧ Below (wo.heap.size + 1) (wo.alloc (.cells #[.int .i64 p.x, .int .i64 p.y] 53)) wi) (fun v _ => n - (intOf v + pos).toNat)
        case atStart => exact ⟨j0, by omega, hj0n, rfl, rfl, Below.refl _ _⟩
        case round =>
          obtain ⟨j, hpj, hjn, rfl, hsk, hbi⟩ := hrel
          have HSK := Lib.hid hsk
          clear hsk
          have hbis := hbi.size
          simp at hbis
          obtain ⟨kc, kf⟩ := bcell' hbi
          have l1 : w.heap.size < wo.heap.size + 1 := by omega
          have l2 : wo.heap.size < wo.heap.size + 1 := by omega
          have l3 : w.heap.size < wr.heap.size := by omega
          have l4 : wo.heap.size < wr.heap.size := by omega
          obtain ⟨a, ha⟩ : ∃ a, j % m.W.toNat = a := ⟨_, rfl⟩
          obtain ⟨d, hd⟩ : ∃ d, j / m.W.toNat = d := ⟨_, rfl⟩
          have ha1 : a ≤ j := by rw [← ha]; exact Nat.mod_le _ _
          have hd1 : d ≤ j := by rw [← hd]; exact Nat.div_le_self _ _
          have hmid := fun W => tMiddle (a : Int) (d : Int) (by omega) (by omega) (by omega) (by omega) W
          have kneq := fun w => neqVec p (middle (a : Int) (d : Int)) w
          have hWn : (m.W.toNat : Int) = m.W := by omega
          have z1 : (pos : Int) + ((j : Int) - pos) = j := by omega
          have z2 : (j : Int) % m.W = (a : Int) := by rw [← ha, ← hWn]; rfl
          have z3 : (j : Int) / m.W = (d : Int) := by rw [← hd, ← hWn]; rfl
          obtain ⟨b, hb1⟩ : ∃ b, m.walls[j]? = some b := ⟨_, List.getElem?_eq_getElem (by rw [HL1.out]; exact hjn)⟩
          have f1 : wo.cell? ⟨g1, off1 + j, none⟩ = some (.bool b) := (B0.cell (p := ⟨g1, off1 + j, none⟩) hg1).trans (HC1.out j _ (by simp [boolsV, hb1]))
          have hgj : seek m.W.toNat m.walls.length p (m.walls.length - j) j = if p = middle (a : Int) (d : Int) then some j else if n ≤ j + 1 then none else seek m.W.toNat m.walls.length p (m.walls.length - (j + 1)) (j + 1) := by
            have e : m.walls.length - j = (m.walls.length - (j + 1)) + 1 := by have := HL1.out; omega
            rw [e, seek, ha, hd, HL1.out]
          have hgD : m.walls.getD j true = b := by rw [List.getD_eq_getElem?_getD, hb1]; rfl
          have hform : formedFrom m.walls m.W.toNat m.spawns 0 = match seek m.W.toNat m.walls.length p (m.walls.length - j) j with | none => false | some j => !(m.walls.getD j true) && formedFrom m.walls m.W.toNat (m.spawns.drop (k + 1)) (j + 1) := by
            have hno : ¬ ((j0 : Int) - (pos : Int) < 0) := by omega
            have hp0 : pos + ((j0 : Int) - (pos : Int)).toNat = j0 := by omega
            rw [HF.out, HD.out, formedFrom, HK.out, if_neg hno, hp0, HSK.out]
            rfl
          have hm0 : m.W ≠ 0 := by omega
          have HFORM := Lib.hid hform
          have HGJ := Lib.hid hgj
          have HGD := Lib.hid hgD
          have HAD := Lib.hid (show j % m.W.toNat = a ∧ j / m.W.toNat = d from ⟨ha, hd⟩)
          have l5 : g1 < wo.heap.size + 1 := by omega
          have l6 : g1 < wr.heap.size := by omega
          have l7 : g1 < wo.heap.size := by omega
          clear hform hgj hgD ha hd hb1 hWn
          cases hpm : decide (p = middle (a : Int) (d : Int)) with
          | true =>
            simp only [hpm] at kneq
            have HPM := Lib.hid (of_decide_eq_true hpm)
            clear hpm
            go_wp2
            refine wp_region_kin' (wr.heap.size) (by kernel_rfl) (by kernel_rfl) (fun kk => ?_)
            repeat (first | go_big_quiet_step ((go_at_call 133; exact kin_of (Nat.le_refl _) (hmid _))) | quiet_step ((go_at_call 133; exact kin_of (Nat.le_refl _) (hmid _))))
            refine wpQuiet_nil ?_
            rintro _ ⟨⟨wk, hwk⟩, rfl⟩
            obtain ⟨kc2, kf2⟩ := bcell hwk
            cases b with
            | true =>
              go_wp2
              go_ret
              have hval : formedFrom m.walls m.W.toNat m.spawns 0 = false := by
                rw [HFORM.out, HGJ.out, if_pos HPM.out]
                show (!(m.walls.getD j true) && _) = false
                rw [HGD.out]; rfl
              rw [hval]
              exact ⟨rfl, B0.trans ((Below.alloc (Below.refl _ _) (Nat.le_refl _) _).trans ((hbi.mono (by omega)).trans (hwk.mono (by omega))) |>.mono (by omega))⟩
            | false =>
              go_wp2
              have hval : formedFrom m.walls m.W.toNat m.spawns 0 = formedFrom m.walls m.W.toNat (m.spawns.drop (k + 1)) (j + 1) := by
                rw [HFORM.out, HGJ.out, if_pos HPM.out]
                show (!(m.walls.getD j true) && _) = _
                rw [HGD.out]; rfl
              refine ⟨⟨k + 1, j + 1, hlt, by go_num, by go_num, hjn, hval, ?_⟩, by simp [intOf]; omega⟩
              exact hb.trans ((Below.alloc (Below.refl _ _) hbs _).trans ((hbi.mono (by omega)).trans (hwk.mono (by omega))))
          | false =>
            simp only [hpm] at kneq
            have HPM := Lib.hid (of_decide_eq_false hpm)
            clear hpm
            go_wp2
            refine wp_region_kin' (wr.heap.size) (by kernel_rfl) (by kernel_rfl) (fun kk => ?_)
            repeat (first | go_big_quiet_step ((go_at_call 133; exact kin_of (Nat.le_refl _) (hmid _))) | quiet_step ((go_at_call 133; exact kin_of (Nat.le_refl _) (hmid _))))
            refine wpQuiet_nil ?_
            rintro _ ⟨⟨wk, hwk⟩, rfl⟩
            obtain ⟨kc2, kf2⟩ := bcell hwk
            have z4 : (pos : Int) - 1 + 2 + ((j : Int) - pos) = (j : Int) + 1 := by omega
            by_cases hend : n ≤ j + 1
            · have hend' : (n : Int) ≤ (j : Int) + 1 := by omega
              go_wp2
              go_ret
              have hval : formedFrom m.walls m.W.toNat m.spawns 0 = false := by
                rw [HFORM.out, HGJ.out, if_neg HPM.out, if_pos hend]
              rw [hval]
              exact ⟨rfl, B0.trans ((Below.alloc (Below.refl _ _) (Nat.le_refl _) _).trans ((hbi.mono (by omega)).trans (hwk.mono (by omega))) |>.mono (by omega))⟩
            · have hend' : (j : Int) + 1 < (n : Int) := by omega
              go_wp2
              have hval : seek m.W.toNat m.walls.length p (m.walls.length - j0) j0 = seek m.W.toNat m.walls.length p (m.walls.length - (j + 1)) (j + 1) := by
                rw [HSK.out, HGJ.out, if_neg HPM.out, if_neg hend]
              refine ⟨⟨j + 1, by omega, by omega, by go_num, hval, hbi.trans (hwk.mono (by omega))⟩, by simp [intOf]; omega⟩
    · obtain rfl : k = n2 := by omega
      have hval : formedFrom m.walls m.W.toNat m.spawns 0 = true := by
        rw [HF.out, List.drop_of_length_le (by rw [HL2.out]; exact Nat.le_refl _)]; rfl
      have HV := Lib.hid hval
      clear hval
      go_wp2
      go_ret
      rw [HV.out]
      exact ⟨rfl, B0⟩
theorem tFormed (m : MapV) (s : MapS) (w : World) (h : MapAt w w.heap.size m s) : Calls Tryz.prog 153 #[(.agg #[.int .i64 m.W, .int .i64 m.H, .slice s.A s.n s.c, .slice s.A2 s.n2 s.c2])] w fun e w' => e = .returned (.bool (formedB m)) ∧ Below w.heap.size w w' := by
  cases hs : sizeOk m with
  | false =>
    have e : formedB m = false := by unfold formedB; rw [hs]; rfl
    rw [e]
    exact tFormedNo m s w h hs
  | true =>
    have e : formedB m = formedFrom m.walls m.W.toNat m.spawns 0 := by unfold formedB; rw [hs]; rfl
    rw [e]
    obtain ⟨l1, l2⟩ := h.len
    have hs2 := hs
    unfold sizeOk at hs2
    obtain ⟨w1, w2, h1, h2, hwl, hs0, hs1⟩ := of_decide_eq_true hs2
    obtain ⟨A, n, c, A2, n2, c2⟩ := s
    have hw : Reads w w.heap.size 1 A n (boolsV m.walls) := h.walls
    have hsp : Reads w w.heap.size 2 A2 n2 (vecsV m.spawns) := h.spawns
    have l1 : m.walls.length = n := l1
    have l2 : m.spawns.length = n2 := l2
    have hmul : 0 < m.W * m.H := Int.mul_pos (by omega) (by omega)
    obtain ⟨g1, off1, rfl, hg1, hc1⟩ := hw.flat (by omega) (by omega)
    obtain ⟨g2, off2, rfl, hg2, hc2⟩ := hsp.flat (by omega) (by omega)
    exact tFormedYes m g1 off1 n c g2 off2 n2 c2 w hw hsp hg1 hg2 hc1 hc2 l1 l2 h.nc h.c63 h.n63 hs
end Go.Proofs.YtojbijapdkohlaaGreatDoor
