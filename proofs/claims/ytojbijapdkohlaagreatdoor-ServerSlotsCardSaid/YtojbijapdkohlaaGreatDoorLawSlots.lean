/- The walk of the law ServerSlots. -/
import Derived.Test.YtojbijapdkohlaaGreatDoorQ43SlotsS
import Derived.Test.YtojbijapdkohlaaGreatDoorQ45Awake21G
import Derived.Test.YtojbijapdkohlaaGreatDoorFew21
import Derived.Test.YtojbijapdkohlaaGreatDoorSrvDropG
set_option linter.unusedSimpArgs false
set_option linter.unusedVariables false
namespace Go.Proofs.YtojbijapdkohlaaGreatDoor
open Go.RowKit
def pcT (T : Nat → Bool) : Nat → Nat
  | 0 => 0
  | j + 1 => pcT T j + (if 1 ≤ j then oneT (T j) else 0)
theorem pcT_succ (T : Nat → Bool) (j : Nat) (h : 1 ≤ j) : pcT T (j + 1) = pcT T j + oneT (T j) := by
  show pcT T j + (if 1 ≤ j then oneT (T j) else 0) = _
  rw [if_pos h]
theorem oneT_le (b : Bool) : oneT b ≤ 1 := by cases b <;> decide
theorem pcT_le (T : Nat → Bool) (j : Nat) (h : j ≤ 9) : pcT T j ≤ 9 := by
  have : ∀ j, pcT T j ≤ j := by
    intro j
    induction j with
    | zero => exact Nat.le_refl _
    | succ j ih =>
      show pcT T j + (if 1 ≤ j then oneT (T j) else 0) ≤ j + 1
      have := oneT_le (T j)
      split <;> omega
  exact Nat.le_trans (this j) h
theorem tcnt_le (T : Nat → Bool) : tcnt T ≤ 8 := by
  unfold tcnt
  have h1 := oneT_le (T 1)
  have h2 := oneT_le (T 2)
  have h3 := oneT_le (T 3)
  have h4 := oneT_le (T 4)
  have h5 := oneT_le (T 5)
  have h6 := oneT_le (T 6)
  have h7 := oneT_le (T 7)
  have h8 := oneT_le (T 8)
  omega
theorem pcT_nine (T : Nat → Bool) : pcT T 9 = tcnt T := by
  unfold tcnt
  simp [pcT]
set_option maxRecDepth 100000 in
set_option maxHeartbeats 16000000 in
theorem lawSlots (m : MapV) (s : MapS) (l : List Op21) (A : Option Addr) (n c : Nat) (w : World) (hm : MapAt w w.heap.size m s) (h : Reads w w.heap.size 12 A n (ops21V l)) (hn : n ≤ 9223372036854775807) :
    Calls Tryz.prog 6 #[(.agg #[.int .i64 m.W, .int .i64 m.H, .slice s.A s.n s.c, .slice s.A2 s.n2 s.c2]), .slice A n c] w fun e w' => e = .returned (.bool true) ∧ Below w.heap.size w w' := by
  have hF := fun W (hW : Below w.heap.size w W) => few21 m s l A n c W ((h.below hW).upto hW.size) hn
  obtain ⟨F, hFv⟩ : ∃ F, (fewL l && decide (s.n ≤ 200 ∧ s.n2 ≤ 200 ∧ n ≤ 150)) = F := ⟨_, rfl⟩
  simp only [hFv] at hF
  have HF := Lib.hid hF
  have HFV := Lib.hid hFv
  have hl : l.length = n := by have := h.1; rw [ops21V_length] at this; omega
  have HL := Lib.hid hl
  have HR := Lib.hid h
  have HM := Lib.hid hm
  clear hF hFv h hl hm
  cases F with
  | false =>
    go_enter Tryz.func6, Tryz.ntmps6
    go_wp2_with fail
    refine (awake21 _).mono ?_
    rintro e w1 ⟨rfl, hb1⟩
    have B1 : Below w.heap.size w w1 := Below.trans (by repeat (first | with_reducible exact Below.refl _ _ | with_reducible assumption | with_reducible refine Below.drew ?_ | with_reducible refine below_drews ?_ _ | with_reducible refine Below.alloc ?_ (by first | omega | (simp; done) | (simp; omega)) _ | with_reducible refine Below.setCell ?_ (by first | omega | (simp; done) | (simp; omega)) _)) (hb1.mono (by simp))
    obtain ⟨hc1, hf1⟩ := bcell hb1
    have hs1 := hb1.size
    (try simp at hs1)
    have l1 : w.heap.size < w1.heap.size := by omega
    go_wp2_with fail
    refine (HF.out _ B1).mono ?_
    rintro e w2 ⟨rfl, hb2⟩
    have B2 := B1.trans (hb2.mono B1.size)
    go_wp2_with fail
    refine (awake21 _).mono ?_
    rintro e w3 ⟨rfl, hb3⟩
    go_wp2
    go_ret
    exact ⟨rfl, B2.trans (hb3.mono B2.size)⟩
  | true =>
    have hsn : s.n ≤ 200 ∧ s.n2 ≤ 200 ∧ n ≤ 150 := by
      have := HFV.out
      rw [Bool.and_eq_true, decide_eq_true_eq] at this
      exact this.2
    obtain ⟨hsn1, hsn2, hn150⟩ := hsn
    cases hfm : formedB m with
    | false =>
      have hN := fun W (hW : Below w.heap.size w W) => srvNewNo m s 3 1 W ((HM.out.below hW).upto hW.size) (by unfold newOk; rw [hfm]; rfl)
      have HN := Lib.hid hN
      clear hN hfm
      go_enter Tryz.func6, Tryz.ntmps6
      go_wp2_with fail
      refine (awake21 _).mono ?_
      rintro e w1 ⟨rfl, hb1⟩
      have B1 : Below w.heap.size w w1 := Below.trans (by repeat (first | with_reducible exact Below.refl _ _ | with_reducible assumption | with_reducible refine Below.drew ?_ | with_reducible refine below_drews ?_ _ | with_reducible refine Below.alloc ?_ (by first | omega | (simp; done) | (simp; omega)) _ | with_reducible refine Below.setCell ?_ (by first | omega | (simp; done) | (simp; omega)) _)) (hb1.mono (by simp))
      obtain ⟨hc1, hf1⟩ := bcell hb1
      have hs1 := hb1.size
      (try simp at hs1)
      have l1 : w.heap.size < w1.heap.size := by omega
      go_wp2_with fail
      refine (HF.out _ B1).mono ?_
      rintro e w2 ⟨rfl, hb2⟩
      have B2 := B1.trans (hb2.mono B1.size)
      obtain ⟨hc2, hf2⟩ := bcell hb2
      have hs2 := hb2.size
      go_wp2_with fail
      refine (HN.out _ B2).mono ?_
      rintro e w3 ⟨rfl, hb3⟩
      go_wp2
      go_ret
      exact ⟨rfl, B2.trans (hb3.mono B2.size)⟩
    | true =>
      obtain ⟨V, hV⟩ : ∃ V, newF m 3 1 = V := ⟨_, rfl⟩
      have hl1 : V.l.length = 1 := by rw [← hV]; exact ballsF_len _ _ _
      have hN := fun W (hW : Below w.heap.size w W) => srvNewG m s 3 1 V hV W ((HM.out.below hW).upto hW.size) hfm (by decide) (by omega) (by omega) (by omega)
      have hq0 : OkQ (fun _ => false) (keyL V.l) ∧ (∀ e ∈ V.l, okE e) ∧ V.tick = 0 := by
        rw [← hV]
        refine ⟨?_, ballsF_ok _ _ _, rfl⟩
        have : keyL (newF m 3 1).l = [(9, 2)] := rfl
        rw [this]
        exact ⟨by decide, (fun p hp => by simp at hp; subst hp; exact .inr ⟨rfl, rfl⟩), (fun k _ _ hk => by cases hk), by decide⟩
      have hmap : V.map = m := by rw [← hV]; rfl
      have hsp : 1 ≤ m.spawns.length := by
        unfold formedB at hfm
        rw [Bool.and_eq_true] at hfm
        have h1 := hfm.1
        unfold sizeOk at h1
        rw [decide_eq_true_eq] at h1
        omega
      have HN := Lib.hid hN
      have HQ0 := Lib.hid (show _ ∧ _ ∧ _ from ⟨hq0, hmap, hsp⟩)
      have HL1 := Lib.hid hl1
      clear hN hfm hV hl1 hq0 hmap hsp
      go_enter Tryz.func6, Tryz.ntmps6
      go_wp2_with fail
      refine (awake21 _).mono ?_
      rintro e w1 ⟨rfl, hb1⟩
      have B1 : Below w.heap.size w w1 := Below.trans (by repeat (first | with_reducible exact Below.refl _ _ | with_reducible assumption | with_reducible refine Below.drew ?_ | with_reducible refine below_drews ?_ _ | with_reducible refine Below.alloc ?_ (by first | omega | (simp; done) | (simp; omega)) _ | with_reducible refine Below.setCell ?_ (by first | omega | (simp; done) | (simp; omega)) _)) (hb1.mono (by simp))
      obtain ⟨hc1, hf1⟩ := bcell hb1
      have hs1 := hb1.size
      (try simp at hs1)
      have l1 : w.heap.size < w1.heap.size := by omega
      go_wp2_with fail
      refine (HF.out _ B1).mono ?_
      rintro e w2 ⟨rfl, hb2⟩
      have B2 := B1.trans (hb2.mono B1.size)
      obtain ⟨hc2, hf2⟩ := bcell hb2
      have hs2 := hb2.size
      go_wp2_with fail
      refine (HN.out _ B2).mono ?_
      rintro e w3 ⟨b, x0, rfl, hat, hhs, hps, hbb, hb3⟩
      have B3 := B2.trans (hb3.mono B2.size)
      have HX := Lib.hid (show _ ∧ _ ∧ _ ∧ _ ∧ _ from ⟨hat, hhs, hps, Nat.le_trans B2.size hbb, B3⟩)
      clear hat hhs hps hbb hb3 B3 B2 B1 hb2 hb1 hc1 hf1 hc2 hf2 hs1 hs2 l1
      go_wp2
      have hsl : SlS b 0 2 3 x0.S.ms x0 V (fun _ => false) w3 :=
        ⟨HX.out.1, rfl, by rw [HL1.out]; decide, HQ0.out.1.2.1, HQ0.out.1.1, HQ0.out.1.2.2, by rw [HX.out.2.1]; rfl, fun k _ _ => by unfold pvs; rw [HX.out.2.2.1 k]; rfl, fun j P hj => by unfold pvs at hj; rw [HX.out.2.2.1 j] at hj; cases hj⟩
      obtain ⟨w4, hw4⟩ : ∃ w4, w4 = w3.alloc (.cells #[.bool false, .bool false, .bool false, .bool false, .bool false, .bool false, .bool false, .bool false, .bool false] 93) := ⟨_, rfl⟩
      rw [← hw4]
      have hsl4 := hsl.below ((Below.refl w3.heap.size w3).alloc (Nat.le_refl _) (.cells (takenC fun _ => false) 93))
      have htk4 : TakAt b w3.heap.size x0 (fun _ => false) (w3.alloc (.cells (takenC fun _ => false) 93)) :=
        ⟨Blk.new _ _ _, fun hq => Nat.lt_irrefl _ (HX.out.1.fp_lt hq), HX.out.1.lt⟩
      have hB4 : Below w.heap.size w (w3.alloc (.cells (takenC fun _ => false) 93)) := HX.out.2.2.2.2.alloc HX.out.2.2.2.2.size _
      rw [show w3.alloc (.cells (takenC fun _ => false) 93) = w4 from hw4.symm] at hsl4 htk4 hB4
      have hbw : w.heap.size ≤ b := HX.out.2.2.2.1
      obtain ⟨tb, htb⟩ : ∃ tb, w3.heap.size = tb := ⟨_, rfl⟩
      rw [htb] at htk4
      have X4 := Lib.hid (show _ ∧ _ ∧ _ from ⟨hsl4, htk4, hB4⟩)
      simp only [htb]
      obtain ⟨ms, hms⟩ : ∃ ms, x0.S.ms = ms := ⟨_, rfl⟩
      simp only [hms] at X4
      have hn2 : 1 ≤ ms.n2 ∧ ms.n2 ≤ 100000 := by
        have := HX.out.1.at_.map.len.2
        rw [hms, HQ0.out.2.1] at this
        have h2 := HQ0.out.2.2
        have h3 := HM.out.len.2
        omega
      obtain ⟨hn2a, hn2b⟩ := hn2
      clear hsl hsl4 htk4 hB4 htb hms hw4
      go_loopw [8] (fun i wr => ∃ (k t : Nat) (x : SrvX) (V' : WorldV) (T : Nat → Bool), k ≤ n ∧ k ≤ 30 ∧ t ≤ 2 + k ∧ i = .int .i64 (k : Nat) ∧ SlS b k t 3 ms x V' T wr ∧ TakAt b tb x T wr ∧ Below w.heap.size w wr) (fun i _ => 31 - (intOf i).toNat)
      case atStart => exact ⟨0, 2, x0, V, fun _ => false, Nat.zero_le _, Nat.zero_le _, by decide, rfl, X4.out⟩
      case round =>
        obtain ⟨k, t, x, V', T, hk, hk30, ht, rfl, hS, hT, hB⟩ := hrel
        clear X4 HX HN HL1 HQ0
        by_cases hlt : k < n
        · by_cases h30 : k < 30
          · have t0 : decide ((k : Int) < (n : Int)) = true := decide_eq_true (by omega)
            have t0n : decide (k < n) = true := decide_eq_true hlt
            have t1 : decide ((k : Int) < 30) = true := decide_eq_true (by omega)
            have t1n : decide (k < 30) = true := decide_eq_true h30
            obtain ⟨g, off, rfl, hg, hc⟩ := HR.out.flat (by omega) (by decide)
            obtain ⟨o, ho⟩ : ∃ o, l[k]? = some o := ⟨_, List.getElem?_eq_getElem (by rw [HL.out]; exact hlt)⟩
            have c0 : wr.cell? ⟨g, off + k * 12, none⟩ = some (.int .i64 o.kind) := (hB.cell (p := ⟨g, off + k * 12, none⟩) hg).trans (hc _ _ ((ops21V_at ho 0 (by decide)).trans rfl))
            have c1 : wr.cell? ⟨g, off + k * 12 + 1, none⟩ = some (.int .i64 o.slot) := (hB.cell (p := ⟨g, off + k * 12 + 1, none⟩) hg).trans (by rw [Nat.add_assoc]; exact hc _ _ ((ops21V_at ho 1 (by decide)).trans rfl))
            have HS := Lib.hid hS
            have HT := Lib.hid hT
            have HB := Lib.hid hB
            clear hS hT hB ho hc
            obtain ⟨kk, hkk, hk1, hk8⟩ : ∃ kk : Nat, wrap64 (wrap64 ((IntKind.u64.wrap o.slot).tmod 8) + 1) = (kk : Int) ∧ 1 ≤ kk ∧ kk ≤ 8 := by
              rw [wrap_u64']
              have h0 := Int.emod_nonneg o.slot (show (18446744073709551616 : Int) ≠ 0 by decide)
              generalize o.slot % 18446744073709551616 = u at h0 ⊢
              rw [Int.tmod_eq_emod_of_nonneg h0]
              have h1 := Int.emod_nonneg u (show (8 : Int) ≠ 0 by decide)
              have h2 := Int.emod_lt_of_pos u (show (0 : Int) < 8 by decide)
              refine ⟨(u % 8 + 1).toNat, ?_, by omega, by omega⟩
              unfold wrap64
              omega
            go_upto_if 55 with (fail)
            rw [hkk]
            obtain ⟨pb, hpb⟩ : ∃ pb, (o.kind.tmod 2 == 0) = pb := ⟨_, rfl⟩
            rw [hpb]
            have e1 : (kk : Int) < 9 := by omega
            have e1n : kk < 9 := by omega
            have e2 : (0 : Int) ≤ (kk : Int) := by omega
            have hgt := HT.out.gt
            clear hpb hkk c0 c1 hg
            go_cut [] (fun wx => ∃ (t' : Nat) (x' : SrvX) (V2 : WorldV) (T2 : Nat → Bool), t' ≤ t + 1 ∧ SlS b k t' 3 ms x' V2 T2 wx ∧ TakAt b tb x' T2 wx ∧ Below w.heap.size w wx)
            case first =>
              cases pb with
              | true =>
                cases hTk : T kk with
                | true =>
                  have hTk' : (takenC T)[kk]? = some (.bool true) := by rw [takenC_at T kk (by omega), hTk]
                  have z7 : wr.cell? ⟨tb, kk, none⟩ = some (.bool true) := (HT.out.blk.cell kk).trans hTk'
                  have f7 : wr.frozen? ⟨tb, kk, none⟩ = false := HT.out.blk.frozen kk
                  obtain ⟨P0, s0, hx0⟩ := (HS.out.slot hk1 hk8).1 hTk
                  have HD := Lib.hid (fun W (hW : Below wr.heap.size wr W) => (srvDropG b kk 3 V' x W (HS.out.below hW).srv hk1 hk8 P0 s0 hx0 (by have := HS.out.srv.at_.len; have := HS.out.len; omega) (playerF_yes HS.out.q kk hk1 hk8 hTk)).mono (R' := fun e w5 => e = .returned (.int .i64 0) ∧ ∃ x' V2, SlS b k t 3 ms x' V2 (setT T kk false) w5 ∧ TakAt b tb x' T w5 ∧ Below w.heap.size w w5) (fun e w5 ⟨he, x', q1, q2, q3, q4, q5⟩ => ⟨he, x', _, HS.out.drop hk1 hk8 hTk q1 q2 q3 q4, (HT.out.below hW).step q5, HB.out.trans ((hW.mono HB.out.size).trans ((SrvTo.bel (HS.out.below hW).srv q5).mono hbw))⟩))
                  have HTK := Lib.hid hTk
                  have HTK2 := Lib.hid hTk'
                  clear hTk hTk' hx0 HS HT HB
                  go_wp2_with fail
                  go_region_held3 (fun w' => w'.cell? ⟨tb, kk, none⟩ = some (.bool true)) (with_reducible (first | exact z7 | exact z9 | go_keep)) (first | (go_at_call 45; refine (HD.out _ (by repeat (first | with_reducible exact Below.refl _ _ | with_reducible assumption | with_reducible refine Below.drew ?_ | with_reducible refine below_drews ?_ _ | with_reducible refine Below.alloc ?_ (by first | omega | (simp; done) | (simp; omega)) _ | with_reducible refine Below.setCell ?_ (by first | omega | (simp; done) | (simp; omega)) _))).mono ?_; rintro e w5 ⟨rfl, x', V2, q1, q2, q3⟩; have z9 : w5.cell? ⟨tb, kk, none⟩ = some (.bool true) := (q2.blk.cell kk).trans HTK2.out; have f9 : w5.frozen? ⟨tb, kk, none⟩ = false := q2.blk.frozen kk; have ltb := q2.blk.lt; have Q := Lib.hid (show _ ∧ _ ∧ _ from ⟨q1, q2, q3⟩); clear q1 q2 q3))
                  all_goals go_wp2_with fail
                  all_goals go_meet
                  all_goals
                    have hp := Q.out.1.put Q.out.2.1 hk1 hk8 false
                    exact ⟨t, x', V2, _, by omega, hp.1, hp.2, Q.out.2.2.setCell (p := ⟨tb, kk, none⟩) (by have := Q.out.2.1.gt; show w.heap.size ≤ tb; omega) _⟩
                | false =>
                  have hTk' : (takenC T)[kk]? = some (.bool false) := by rw [takenC_at T kk (by omega), hTk]
                  have z7 : wr.cell? ⟨tb, kk, none⟩ = some (.bool false) := (HT.out.blk.cell kk).trans hTk'
                  have f7 : wr.frozen? ⟨tb, kk, none⟩ = false := HT.out.blk.frozen kk
                  have hx0 := (HS.out.slot hk1 hk8).2 hTk
                  have HD := Lib.hid (fun W (hW : Below wr.heap.size wr W) => (srvDropFree b kk 3 V' x W (HS.out.below hW).srv hk1 hk8 hx0).mono (R' := fun e w5 => e = .returned (.int .i64 6) ∧ ∃ x' V2, SlS b k t 3 ms x' V2 (setT T kk false) w5 ∧ TakAt b tb x' T w5 ∧ Below w.heap.size w w5) (fun e w5 ⟨he, hw⟩ => ⟨he, x, V', by rw [← hw, ← hTk, setT_self]; exact ⟨HS.out.below hW, HT.out.below hW, HB.out.trans (hW.mono HB.out.size)⟩⟩))
                  have HTK := Lib.hid hTk
                  have HTK2 := Lib.hid hTk'
                  clear hTk hTk' hx0 HS HT HB
                  go_wp2_with fail
                  go_region_held3 (fun w' => w'.cell? ⟨tb, kk, none⟩ = some (.bool false)) (with_reducible (first | exact z7 | exact z9 | go_keep)) (first | (go_at_call 45; refine (HD.out _ (by repeat (first | with_reducible exact Below.refl _ _ | with_reducible assumption | with_reducible refine Below.drew ?_ | with_reducible refine below_drews ?_ _ | with_reducible refine Below.alloc ?_ (by first | omega | (simp; done) | (simp; omega)) _ | with_reducible refine Below.setCell ?_ (by first | omega | (simp; done) | (simp; omega)) _))).mono ?_; rintro e w5 ⟨rfl, x', V2, q1, q2, q3⟩; have z9 : w5.cell? ⟨tb, kk, none⟩ = some (.bool false) := (q2.blk.cell kk).trans HTK2.out; have f9 : w5.frozen? ⟨tb, kk, none⟩ = false := q2.blk.frozen kk; have ltb := q2.blk.lt; have Q := Lib.hid (show _ ∧ _ ∧ _ from ⟨q1, q2, q3⟩); clear q1 q2 q3))
                  all_goals go_wp2_with fail
                  all_goals go_meet
                  all_goals
                    have hp := Q.out.1.put Q.out.2.1 hk1 hk8 false
                    exact ⟨t, x', V2, _, by omega, hp.1, hp.2, Q.out.2.2.setCell (p := ⟨tb, kk, none⟩) (by have := Q.out.2.1.gt; show w.heap.size ≤ tb; omega) _⟩
              | false =>
                cases hTk : T kk with
                | true =>
                  have hTk' : (takenC T)[kk]? = some (.bool true) := by rw [takenC_at T kk (by omega), hTk]
                  have z7 : wr.cell? ⟨tb, kk, none⟩ = some (.bool true) := (HT.out.blk.cell kk).trans hTk'
                  have f7 : wr.frozen? ⟨tb, kk, none⟩ = false := HT.out.blk.frozen kk
                  obtain ⟨P0, s0, hx0⟩ := (HS.out.slot hk1 hk8).1 hTk
                  have HD := Lib.hid (fun W (hW : Below wr.heap.size wr W) => (srvConnectTaken b kk 3 V' x W (HS.out.below hW).srv hk1 hk8 P0 s0 hx0).mono (R' := fun e w5 => e = .returned (.int .i64 10) ∧ ∃ x' V2, SlS b k t 3 ms x' V2 (setT T kk true) w5 ∧ TakAt b tb x' T w5 ∧ Below w.heap.size w w5) (fun e w5 ⟨he, hw⟩ => ⟨he, x, V', by rw [← hw, ← hTk, setT_self]; exact ⟨HS.out.below hW, HT.out.below hW, HB.out.trans (hW.mono HB.out.size)⟩⟩))
                  have HTK := Lib.hid hTk
                  have HTK2 := Lib.hid hTk'
                  clear hTk hTk' hx0 HS HT HB
                  go_wp2_with fail
                  go_region_held3 (fun w' => w'.cell? ⟨tb, kk, none⟩ = some (.bool true)) (with_reducible (first | exact z7 | exact z9 | go_keep)) (first | (go_at_call 46; refine (HD.out _ (by repeat (first | with_reducible exact Below.refl _ _ | with_reducible assumption | with_reducible refine Below.drew ?_ | with_reducible refine below_drews ?_ _ | with_reducible refine Below.alloc ?_ (by first | omega | (simp; done) | (simp; omega)) _ | with_reducible refine Below.setCell ?_ (by first | omega | (simp; done) | (simp; omega)) _))).mono ?_; rintro e w5 ⟨rfl, x', V2, q1, q2, q3⟩; have z9 : w5.cell? ⟨tb, kk, none⟩ = some (.bool true) := (q2.blk.cell kk).trans HTK2.out; have f9 : w5.frozen? ⟨tb, kk, none⟩ = false := q2.blk.frozen kk; have ltb := q2.blk.lt; have Q := Lib.hid (show _ ∧ _ ∧ _ from ⟨q1, q2, q3⟩); clear q1 q2 q3))
                  all_goals go_wp2_with fail
                  all_goals go_meet
                  all_goals
                    have hp := Q.out.1.put Q.out.2.1 hk1 hk8 true
                    exact ⟨t, x', V2, _, by omega, hp.1, hp.2, Q.out.2.2.setCell (p := ⟨tb, kk, none⟩) (by have := Q.out.2.1.gt; show w.heap.size ≤ tb; omega) _⟩
                | false =>
                  have hTk' : (takenC T)[kk]? = some (.bool false) := by rw [takenC_at T kk (by omega), hTk]
                  have z7 : wr.cell? ⟨tb, kk, none⟩ = some (.bool false) := (HT.out.blk.cell kk).trans hTk'
                  have f7 : wr.frozen? ⟨tb, kk, none⟩ = false := HT.out.blk.frozen kk
                  have hx0 := (HS.out.slot hk1 hk8).2 hTk
                  have HD := Lib.hid (fun W (hW : Below wr.heap.size wr W) => (srvConnectG b kk 3 V' x W (HS.out.below hW).srv hk1 hk8 hx0 (by have := HS.out.srv.at_.len; have := HS.out.len; omega) (findF_no HS.out.q kk hk8 hTk) (by rw [HS.out.ms]; exact hn2a) (by rw [HS.out.ms]; exact hn2b)).mono (R' := fun e w5 => e = .returned (.int .i64 0) ∧ ∃ x' V2, SlS b k (t + 1) 3 ms x' V2 (setT T kk true) w5 ∧ TakAt b tb x' T w5 ∧ Below w.heap.size w w5) (fun e w5 ⟨he, x', q1, q2, q3, q4, q5⟩ => ⟨he, x', _, HS.out.join hk1 hk8 hTk q1 q2 q3 q4, (HT.out.below hW).step q5, HB.out.trans ((hW.mono HB.out.size).trans ((SrvTo.bel (HS.out.below hW).srv q5).mono hbw))⟩))
                  have HTK := Lib.hid hTk
                  have HTK2 := Lib.hid hTk'
                  clear hTk hTk' hx0 HS HT HB
                  go_wp2_with fail
                  go_region_held3 (fun w' => w'.cell? ⟨tb, kk, none⟩ = some (.bool false)) (with_reducible (first | exact z7 | exact z9 | go_keep)) (first | (go_at_call 46; refine (HD.out _ (by repeat (first | with_reducible exact Below.refl _ _ | with_reducible assumption | with_reducible refine Below.drew ?_ | with_reducible refine below_drews ?_ _ | with_reducible refine Below.alloc ?_ (by first | omega | (simp; done) | (simp; omega)) _ | with_reducible refine Below.setCell ?_ (by first | omega | (simp; done) | (simp; omega)) _))).mono ?_; rintro e w5 ⟨rfl, x', V2, q1, q2, q3⟩; have z9 : w5.cell? ⟨tb, kk, none⟩ = some (.bool false) := (q2.blk.cell kk).trans HTK2.out; have f9 : w5.frozen? ⟨tb, kk, none⟩ = false := q2.blk.frozen kk; have ltb := q2.blk.lt; have Q := Lib.hid (show _ ∧ _ ∧ _ from ⟨q1, q2, q3⟩); clear q1 q2 q3))
                  all_goals go_wp2_with fail
                  all_goals go_meet
                  all_goals
                    have hp := Q.out.1.put Q.out.2.1 hk1 hk8 true
                    exact ⟨t + 1, x', V2, _, by omega, hp.1, hp.2, Q.out.2.2.setCell (p := ⟨tb, kk, none⟩) (by have := Q.out.2.1.gt; show w.heap.size ≤ tb; omega) _⟩
            case rest =>
              obtain ⟨t', x', V2, T2, ht', hS, hT, hB⟩ := hcut
              have hTK := (srvTickG b 3 V2 x' wc hS.srv (hS.idles (by omega)) (by have := hS.srv.at_.len; have := hS.len; omega) (by rw [hS.ms]; exact hn2a) (by rw [hS.ms]; exact hn2b) hS.ok (by rw [hS.hs]; show (k : Int) < wrap64 (V2.tick + 1); rw [hS.tick]; unfold wrap64; omega) (by show wrap64 (V2.tick + 1) ≤ _; rw [hS.tick]; unfold wrap64; omega) (by rw [hS.hs]; omega)).mono (R' := fun e w5 => e = .returned (.slice none 0 0) ∧ ∃ x3 V3, SlS b (k + 1) t' 3 ms x3 V3 T2 w5 ∧ TakAt b tb x3 T2 w5 ∧ Below w.heap.size w w5) (fun e w5 ⟨he, x3, q1, q2, q3, q4, q5⟩ => ⟨he, x3, tickF V2, hS.ticked (by omega) q1 q2 q3 q4, hT.step q5, hB.trans ((SrvTo.bel hS.srv q5).mono hbw)⟩)
              have HTK := Lib.hid hTK
              have HT' := Lib.hid ht'
              clear hS hT hB hTK HS HT HB ht'
              go_wp2_with fail
              refine HTK.out.mono ?_
              rintro e w5 ⟨rfl, x3, V3, q1, q2, q3⟩
              have hW := srvWorldG V3 x3.S b w5 q1.srv.lt (q1.srv.blk.cell 1) (q1.srv.blk.cell 2) (q1.srv.blk.cell 3) (q1.srv.blk.cell 4) (q1.srv.blk.cell 5) (q1.srv.blk.cell 6) (q1.srv.blk.cell 7) q1.srv.at_.l (by have := q1.srv.at_.len; have := q1.len; have := HT'.out; omega)
              have HW := Lib.hid hW
              have HQ := Lib.hid (show _ ∧ _ ∧ _ from ⟨q1, q2, q3⟩)
              clear hW q1 q2 q3
              go_wp2_with fail
              refine HW.out.mono ?_
              rintro e w6 ⟨s', rfl, hs', hr', hb6⟩
              have hfld := fun w => wldL V3 s' w
              obtain ⟨N, hN⟩ : ∃ N, s'.n = N := ⟨_, rfl⟩
              rw [hN] at hfld hr' ⊢
              have hS6 := HQ.out.1.below hb6
              have hT6 := HQ.out.2.1.below hb6
              have hB6 := HQ.out.2.2.trans (hb6.mono HQ.out.2.2.size)
              have hlen : V3.l.length = N := by have := hr'.1; rw [entsV_length] at this; omega
              have hN100 : N ≤ 100 := by have := hS6.len; have := HT'.out; omega
              have HR6 := Lib.hid (hr'.reads (by decide))
              have H6 := Lib.hid (show _ ∧ _ ∧ _ from ⟨hS6, hT6, hB6⟩)
              have HLEN := Lib.hid hlen
              clear hN hs' hr' hb6 hS6 hT6 hB6 hlen HW HTK HQ
              go_wp2
              go_loop [11, 12] (fun c i => ∃ j : Nat, j ≤ N ∧ i = .int .i64 (j : Nat) ∧ c = .int .i64 (cntQ (keyL (V3.l.take j)) : Nat)) (fun _ i => N - (intOf i).toNat)
              case atStart => exact ⟨0, Nat.zero_le _, rfl, rfl⟩
              case round =>
                obtain ⟨j, hj, rfl, rfl⟩ := hrel
                by_cases hjl : j < N
                · obtain ⟨e, he⟩ : ∃ e, V3.l[j]? = some e := ⟨_, List.getElem?_eq_getElem (by rw [HLEN.out]; exact hjl)⟩
                  obtain ⟨g6, off6, hA6, hg6, hc6⟩ := HR6.out.flat (by omega) (by decide)
                  have y0 : w6.cell? ⟨g6, off6 + j * 8, none⟩ = some (.int .i64 e.id) := hc6 _ _ ((entsV_at he 0 (by decide)).trans rfl)
                  have y1 : w6.cell? ⟨g6, off6 + j * 8 + 1, none⟩ = some (.int .i64 e.kind) := by rw [Nat.add_assoc]; exact hc6 _ _ ((entsV_at he 1 (by decide)).trans rfl)
                  have hof := H6.out.1.q.of_ (e.id, e.kind) (List.mem_map.2 ⟨e, List.mem_of_getElem? he, rfl⟩)
                  have hst : V3.l.take (j + 1) = V3.l.take j ++ [e] := by
                    have hjl' : j < V3.l.length := by rw [HLEN.out]; exact hjl
                    rw [List.take_succ_eq_append_getElem hjl', (List.getElem?_eq_some_iff.1 he).2]
                  have hct : cntQ (keyL (V3.l.take (j + 1))) = cntQ (keyL (V3.l.take j)) + (if e.kind = 1 then 1 else 0) := by
                    rw [hst]
                    unfold cntQ keyL
                    rw [List.map_append, List.filter_append, List.length_append]
                    by_cases hk : e.kind = 1 <;> simp [hk]
                  have hcl : cntQ (keyL (V3.l.take j)) ≤ j := by
                    unfold cntQ keyL
                    have h1 := List.length_filter_le (fun p : Int × Int => p.2 == 1) ((V3.l.take j).map fun e => (e.id, e.kind))
                    rw [List.length_map, List.length_take] at h1
                    omega
                  generalize cntQ (keyL (V3.l.take j)) = C at hct hcl ⊢
                  have t2 : decide ((j : Int) < (N : Int)) = true := decide_eq_true (by omega)
                  have t2n : decide (j < N) = true := decide_eq_true hjl
                  obtain ⟨SA, SN, SC⟩ := s'
                  simp only at hA6
                  subst hA6
                  have HCT := Lib.hid hct
                  rcases hof with ⟨hk1', id, i1, i8, hid, hTi⟩ | ⟨hk2, hid⟩
                  · have hk1' : e.kind = 1 := hk1'
                    have hid : e.id = (id : Int) := hid
                    rw [hid] at y0
                    rw [hk1'] at y1
                    have y2 : w6.cell? ⟨tb, id, none⟩ = some (.bool true) := by rw [H6.out.2.1.blk.cell id, takenC_at T2 id (by omega), hTi]
                    have e3 : (id : Int) < 9 := by omega
                    have e3n : id < 9 := by omega
                    have e4 : (0 : Int) ≤ (id : Int) := by omega
                    have HK := Lib.hid hk1'
                    clear hct hk1' hid hTi he hst hc6
                    go_wp2
                    exact ⟨⟨j + 1, by omega, by go_num, by rw [HCT.out, if_pos HK.out]; go_num⟩, by simp [intOf]; omega⟩
                  · have hk2 : e.kind = 2 := hk2
                    rw [hk2] at y1
                    have HK := Lib.hid hk2
                    clear hct hk2 hid he hst hc6
                    go_wp2
                    exact ⟨⟨j + 1, by omega, by go_num, by rw [HCT.out, if_neg (by rw [HK.out]; decide)]; rfl⟩, by simp [intOf]; omega⟩
                · have hjN : j = N := by omega
                  subst hjN
                  have hcn : cntQ (keyL (V3.l.take j)) = tcnt T2 := by rw [List.take_of_length_le (by rw [HLEN.out]; exact Nat.le_refl _)]; exact H6.out.1.q.cnt
                  rw [hcn]
                  have t2 : decide ((j : Int) < (j : Int)) = false := decide_eq_false (by omega)
                  have HCN := Lib.hid hcn
                  clear hcn
                  go_wp2
                  go_loopw [11, 13] (fun c i wr7 => ∃ q : Nat, 1 ≤ q ∧ q ≤ 9 ∧ i = .int .i64 (q : Nat) ∧ c = .int .i64 ((tcnt T2 : Int) - (pcT T2 q : Int)) ∧ Dr w6 wr7) (fun _ i _ => 10 - (intOf i).toNat)
                  case atStart => exact ⟨1, by decide, by decide, rfl, by simp [pcT], Dr.refl _⟩
                  case round =>
                    obtain ⟨q, hq1, hq9, rfl, rfl, hdr⟩ := hrel
                    by_cases hq8 : q ≤ 8
                    · have t3 : decide ((q : Int) ≤ 8) = true := decide_eq_true (by omega)
                      have t3n : decide (q ≤ 8) = true := decide_eq_true hq8
                      obtain ⟨nd, rfl⟩ := hdr
                      obtain ⟨tq, htq⟩ : ∃ tq, T2 q = tq := ⟨_, rfl⟩
                      have y3 : w6.cell? ⟨tb, q, none⟩ = some (.bool tq) := by rw [H6.out.2.1.blk.cell q, takenC_at T2 q (by omega), htq]
                      have hC := fun n => srvConnected x3.ps b q hq1 hq8 (w6.drewN n) (H6.out.1.srv.slot (k := q) (by omega))
                      have hps : isTaken x3.ps q = tq := by rw [isTaken_pvs, H6.out.1.ps q hq1 hq8, htq]
                      rw [hps] at hC
                      have HC := Lib.hid hC
                      have e3 : (q : Int) < 9 := by omega
                      have e3n : q < 9 := by omega
                      have hpc : pcT T2 (q + 1) = pcT T2 q + oneT tq := by rw [← htq]; exact pcT_succ T2 q hq1
                      have HPC := Lib.hid hpc
                      have hle : pcT T2 q ≤ 9 ∧ tcnt T2 ≤ 8 := ⟨pcT_le T2 q hq9, tcnt_le T2⟩
                      obtain ⟨hle1, hle2⟩ := hle
                      generalize pcT T2 q = C at HPC hle1 ⊢
                      generalize tcnt T2 = D at hle2 ⊢
                      clear hC hps htq hpc
                      cases tq
                      all_goals
                        go_wp2
                        go_quiet ((go_at_call 48; exact quiet_add_left (HC.out _)))
                        go_wp2
                        exact ⟨⟨q + 1, by omega, by omega, by go_num, by rw [HPC.out]; simp only [oneT]; first | go_num | (simp; omega), ⟨_, rfl⟩⟩, by simp [intOf]; omega⟩
                    · have hq : q = 9 := by omega
                      subst hq
                      have t3 : decide (((9 : Nat) : Int) ≤ 8) = false := by decide
                      have hz : (tcnt T2 : Int) - (pcT T2 9 : Int) = 0 := by rw [pcT_nine]; omega
                      rw [hz]
                      obtain ⟨nd, rfl⟩ := hdr
                      clear hz
                      go_wp2
                      have hbd : Below w6.heap.size w6 (w6.drewN nd) := (Dr.refl w6).drewN nd |>.below _
                      exact ⟨⟨k + 1, t', x3, V3, T2, by omega, by omega, by have := HT'.out; omega, by go_num, H6.out.1.below hbd, H6.out.2.1.below hbd, H6.out.2.2.trans (hbd.mono H6.out.2.2.size)⟩, by simp [intOf]; omega⟩
          · have t0 : decide ((k : Int) < (n : Int)) = true := decide_eq_true (by omega)
            have t0n : decide (k < n) = true := decide_eq_true hlt
            have t1 : decide ((k : Int) < 30) = false := decide_eq_false (by omega)
            have t1n : decide (k < 30) = false := decide_eq_false h30
            have HB := Lib.hid hB
            clear hS hT hB
            go_wp2
            go_ret
            exact ⟨rfl, HB.out⟩
        · have t0 : decide ((k : Int) < (n : Int)) = false := decide_eq_false (by omega)
          have t0n : decide (k < n) = false := decide_eq_false hlt
          have HB := Lib.hid hB
          clear hS hT hB
          go_wp2
          go_ret
          exact ⟨rfl, HB.out⟩
end Go.Proofs.YtojbijapdkohlaaGreatDoor
