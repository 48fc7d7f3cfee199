/- The walk of the law ServerSilent. -/
import Derived.Test.YtojbijapdkohlaaGreatDoorQ47Awake21G
import Derived.Test.YtojbijapdkohlaaGreatDoorQ48Few21
set_option linter.unusedSimpArgs false
set_option linter.unusedVariables false
namespace Go.Proofs.YtojbijapdkohlaaGreatDoor
open Go.RowKit
theorem OkN.on {T : Nat → Bool} {q : List (Int × Int)} (h : OkN T q) (k : Nat) (h1 : 1 ≤ k) (h8 : k ≤ 8) (hk : T k = false) : OkN (setT T k true) (((k : Int), (1 : Int)) :: q) := by
  refine ⟨?_, ?_, ?_⟩
  · rw [List.map_cons, List.nodup_cons]
    refine ⟨fun hm => ?_, h.nd⟩
    obtain ⟨p, hp, he⟩ := List.mem_map.1 hm
    rcases h.of_ p hp with ⟨-, j, j1, j8, hj, hT⟩ | ⟨-, h9⟩
    · have : j = k := by have : p.1 = (k : Int) := he; omega
      rw [this, hk] at hT
      cases hT
    · have : p.1 = (k : Int) := he
      omega
  · intro p hp
    rcases List.mem_cons.1 hp with rfl | hp
    · exact .inl ⟨rfl, k, h1, h8, rfl, by simp [setT]⟩
    · rcases h.of_ p hp with ⟨a, j, j1, j8, hj, hT⟩ | h9
      · exact .inl ⟨a, j, j1, j8, hj, by unfold setT; split <;> simp [hT]⟩
      · exact .inr h9
  · intro j j1 j8 hj
    unfold setT at hj
    split at hj
    · rename_i e
      rw [e]
      exact List.mem_cons_self
    · exact List.mem_cons_of_mem _ (h.has j j1 j8 hj)
theorem OkN.join {T : Nat → Bool} {l : List EntV} (h : OkN T (keyL l)) (k : Nat) (h1 : 1 ≤ k) (h8 : k ≤ 8) (hk : T k = false) (p : Nat) (v : VecV) : OkN (setT T k true) (keyL (l.take p ++ newP (k : Int) v :: l.drop p)) :=
  (h.on k h1 h8 hk).perm (keyL_join l p k v)
/-- A slot that is free is taken. -/
def ConnN (b k : Nat) (seed : Int) (V : WorldV) (x : SrvX) (w : World) (e : Ending) (w' : World) : Prop :=
  e = .returned (.int .i64 0) ∧ ∃ (x' : SrvX) (V' : WorldV), SrvAt w' b seed V' x' ∧ OkN (isT (pvs x'.ps)) (keyL V'.l) ∧ (∀ e ∈ V'.l, okE e) ∧ V'.l.length = V.l.length + 1 ∧ V'.tick = V.tick ∧ x'.S.ms = x.S.ms ∧ x'.hs = x.hs ∧ (∀ i, pvs x'.ps i = if i = k then some peerNew else (pvs x.ps i).map (fun P => toldP P (joinLine k))) ∧ SrvTo b x x' w w'
theorem srvConnN (b k : Nat) (seed : Int) (V : WorldV) (x : SrvX) (w : World) (h : SrvAt w b seed V x) (k1 : 1 ≤ k) (k8 : k ≤ 8) (hk : pvs x.ps k = none) (hq : OkN (isT (pvs x.ps)) (keyL V.l)) (hok : ∀ e ∈ V.l, okE e) (hl : V.l.length ≤ 90) (hp1 : 1 ≤ x.S.ms.n2) (hp2 : x.S.ms.n2 ≤ 100000) :
    Calls Tryz.prog 46 #[.pointer (some ⟨b, 0, none⟩), .int .i64 (k : Nat)] w (ConnN b k seed V x w) := by
  have hT : isT (pvs x.ps) k = false := by unfold isT; rw [hk]; rfl
  have hx : x.ps k = none := by
    unfold pvs at hk
    cases hx : x.ps k with
    | none => rfl
    | some y => rw [hx] at hk; cases hk
  have hlen := h.at_.len
  refine (srvConnectG b k seed V x w h k1 k8 hx (by omega) (hq.none_ k k8 hT) hp1 hp2).mono ?_
  rintro e w' ⟨he, x', q1, q2, q3, q4, q5⟩
  refine ⟨he, x', _, q1, ?_, join_ok hok, by show (V.l.take _ ++ _ :: V.l.drop _).length = _; rw [join_len], rfl, q2, q3, q4, q5⟩
  refine (hq.join k k1 k8 hT _ _).congr fun j _ _ => ?_
  unfold isT setT
  rw [q4 j]
  by_cases hj : j = k
  · simp [hj]
  · simp [hj]
set_option maxRecDepth 100000 in
set_option maxHeartbeats 4000000 in
theorem srvTakeFree (b k : Nat) (k1 : 1 ≤ k) (k8 : k ≤ 8) (A : Option Addr) (n c : Nat) (w : World) (z : w.cell? ⟨b, 10 + k, none⟩ = some (.pointer none)) :
    Calls Tryz.prog 49 #[.pointer (some ⟨b, 0, none⟩), .int .i64 (k : Nat), .slice A n c] w fun e w' => e = .returned (.int .i64 6) ∧ w = w' := by
  have HP := Lib.hid (srvPeer b k k1 k8 (.pointer none) w z)
  clear z
  go_enter Tryz.func49, Tryz.ntmps49
  go_wp2_with fail
  refine HP.out.mono ?_
  rintro e w1 ⟨rfl, rfl⟩
  go_wp2
  go_ret
  exact ⟨rfl, rfl⟩
set_option maxRecDepth 100000 in
set_option maxHeartbeats 16000000 in
theorem lawSilent (m : MapV) (s : MapS) (ev : Nat) (seed : Int) (w : World) (hm : MapAt w w.heap.size m s) (he : ev ≤ 255) (h0 : 0 ≤ seed) (h1 : seed < 18446744073709551616) :
    Calls Tryz.prog 7 #[(.agg #[.int .i64 m.W, .int .i64 m.H, .slice s.A s.n s.c, .slice s.A2 s.n2 s.c2]), .int .u8 (ev : Nat), .int .u64 seed] w fun e w' => e = .returned (.bool true) ∧ Below w.heap.size w w' := by
  have hF := fun W => few21 m s [] none 0 0 W ⟨rfl, fun h => absurd h (by decide)⟩ (by decide)
  obtain ⟨F, hFv⟩ : ∃ F, (fewL [] && decide (s.n ≤ 200 ∧ s.n2 ≤ 200 ∧ 0 ≤ 150)) = F := ⟨_, rfl⟩
  simp only [hFv] at hF
  have HF := Lib.hid hF
  have HFV := Lib.hid hFv
  have HM := Lib.hid hm
  have HS := Lib.hid (show _ ∧ _ from ⟨h0, h1⟩)
  clear hF hFv hm h0 h1
  cases F with
  | false =>
    go_enter Tryz.func7, Tryz.ntmps7
    go_wp2_with fail
    refine (awake21 _).mono ?_
    rintro e w1 ⟨rfl, hb1⟩
    have B1 : Below w.heap.size w w1 := Below.trans (by repeat (first | with_reducible exact Below.refl _ _ | with_reducible assumption | with_reducible refine Below.drew ?_ | with_reducible refine below_drews ?_ _ | with_reducible refine Below.alloc ?_ (by first | omega | (simp; done) | (simp; omega)) _ | with_reducible refine Below.setCell ?_ (by first | omega | (simp; done) | (simp; omega)) _)) (hb1.mono (by simp))
    obtain ⟨hc1, hf1⟩ := bcell hb1
    have hs1 := hb1.size
    (try simp at hs1)
    have l1 : w.heap.size < w1.heap.size := by omega
    go_wp2_with fail
    refine (HF.out _).mono ?_
    rintro e w2 ⟨rfl, hb2⟩
    have B2 := B1.trans (hb2.mono B1.size)
    go_wp2_with fail
    refine (awake21 _).mono ?_
    rintro e w3 ⟨rfl, hb3⟩
    go_wp2
    go_ret
    exact ⟨rfl, B2.trans (hb3.mono B2.size)⟩
  | true =>
    have hsn : s.n ≤ 200 ∧ s.n2 ≤ 200 := by
      have := HFV.out
      rw [Bool.and_eq_true, decide_eq_true_eq] at this
      exact ⟨this.2.1, this.2.2.1⟩
    obtain ⟨hsn1, hsn2⟩ := hsn
    cases hfm : formedB m with
    | false =>
      have hN := fun W (hW : Below w.heap.size w W) => srvNewNo m s seed 0 W ((HM.out.below hW).upto hW.size) (by unfold newOk; rw [hfm]; rfl)
      have HN := Lib.hid hN
      clear hN hfm
      go_enter Tryz.func7, Tryz.ntmps7
      go_wp2_with fail
      refine (awake21 _).mono ?_
      rintro e w1 ⟨rfl, hb1⟩
      have B1 : Below w.heap.size w w1 := Below.trans (by repeat (first | with_reducible exact Below.refl _ _ | with_reducible assumption | with_reducible refine Below.drew ?_ | with_reducible refine below_drews ?_ _ | with_reducible refine Below.alloc ?_ (by first | omega | (simp; done) | (simp; omega)) _ | with_reducible refine Below.setCell ?_ (by first | omega | (simp; done) | (simp; omega)) _)) (hb1.mono (by simp))
      obtain ⟨hc1, hf1⟩ := bcell hb1
      have hs1 := hb1.size
      (try simp at hs1)
      have l1 : w.heap.size < w1.heap.size := by omega
      go_wp2_with fail
      refine (HF.out _).mono ?_
      rintro e w2 ⟨rfl, hb2⟩
      have B2 := B1.trans (hb2.mono B1.size)
      obtain ⟨hc2, hf2⟩ := bcell hb2
      have hs2 := hb2.size
      go_wp2_with fail
      refine (HN.out _ B2).mono ?_
      rintro e w3 ⟨rfl, hb3⟩
      go_wp2
      go_ret
      exact ⟨rfl, B2.trans (hb3.mono B2.size)⟩
    | true =>
      obtain ⟨V, hV⟩ : ∃ V, newF m seed 0 = V := ⟨_, rfl⟩
      have hl1 : V.l = [] := by rw [← hV]; rfl
      have hN := fun W (hW : Below w.heap.size w W) => srvNewG m s seed 0 V hV W ((HM.out.below hW).upto hW.size) hfm (by decide) (by omega) (by omega) (by rw [hl1]; decide)
      have hq0 : V.tick = 0 ∧ V.map = m := by rw [← hV]; exact ⟨rfl, rfl⟩
      have hsp : 1 ≤ m.spawns.length := by
        unfold formedB at hfm
        rw [Bool.and_eq_true] at hfm
        have h1 := hfm.1
        unfold sizeOk at h1
        rw [decide_eq_true_eq] at h1
        omega
      have HN := Lib.hid hN
      have HQ0 := Lib.hid (show _ ∧ _ ∧ _ from ⟨hq0, hsp, hl1⟩)
      clear hN hfm hV hl1 hq0 hsp
      go_enter Tryz.func7, Tryz.ntmps7
      go_wp2_with fail
      refine (awake21 _).mono ?_
      rintro e w1 ⟨rfl, hb1⟩
      have B1 : Below w.heap.size w w1 := Below.trans (by repeat (first | with_reducible exact Below.refl _ _ | with_reducible assumption | with_reducible refine Below.drew ?_ | with_reducible refine below_drews ?_ _ | with_reducible refine Below.alloc ?_ (by first | omega | (simp; done) | (simp; omega)) _ | with_reducible refine Below.setCell ?_ (by first | omega | (simp; done) | (simp; omega)) _)) (hb1.mono (by simp))
      obtain ⟨hc1, hf1⟩ := bcell hb1
      have hs1 := hb1.size
      (try simp at hs1)
      have l1 : w.heap.size < w1.heap.size := by omega
      go_wp2_with fail
      refine (HF.out _).mono ?_
      rintro e w2 ⟨rfl, hb2⟩
      have B2 := B1.trans (hb2.mono B1.size)
      obtain ⟨hc2, hf2⟩ := bcell hb2
      have hs2 := hb2.size
      go_wp2_with fail
      refine (HN.out _ B2).mono ?_
      rintro e w3 ⟨b, x0, rfl, hat, hhs, hps, hbb, hb3⟩
      have B3 := B2.trans (hb3.mono B2.size)
      have HX := Lib.hid (show _ ∧ _ ∧ _ ∧ _ ∧ _ from ⟨hat, hhs, hps, Nat.le_trans B2.size hbb, B3⟩)
      clear hat hhs hps hbb hb3 B3 B2 B1 hb2 hb1 hc1 hf1 hc2 hf2 hs1 hs2 l1
      have hn2 : 1 ≤ x0.S.ms.n2 ∧ x0.S.ms.n2 ≤ 100000 := by
        have := HX.out.1.at_.map.len.2
        rw [HQ0.out.1.2] at this
        have h2 := HQ0.out.2.1
        have h3 := HM.out.len.2
        omega
      have hq0 : OkN (isT (pvs x0.ps)) (keyL V.l) := by
        rw [HQ0.out.2.2]
        exact ⟨by decide, (fun p hp => by cases hp), (fun j _ _ hj => by have h9 : (pvs x0.ps j).isSome = true := hj; unfold pvs at h9; rw [HX.out.2.2.1 j] at h9; cases h9)⟩
      have hC1 := srvConnN b 1 seed V x0 w3 HX.out.1 (by decide) (by decide) (by unfold pvs; rw [HX.out.2.2.1]; rfl) hq0 (by rw [HQ0.out.2.2]; intro e he; cases he) (by rw [HQ0.out.2.2]; decide) hn2.1 hn2.2
      have HC1 := Lib.hid hC1
      have HN2 := Lib.hid hn2
      clear hC1 hq0 hn2
      go_wp2_with fail
      refine HC1.out.mono ?_
      rintro e w4 ⟨rfl, x1, V1, c1, c2, c3, c4, c5, c6, c7, c8, c9⟩
      have hC2 := srvConnN b 2 seed V1 x1 w4 c1 (by decide) (by decide) (by rw [c8 2, if_neg (by decide)]; unfold pvs; rw [HX.out.2.2.1]; rfl) c2 c3 (by rw [c4, HQ0.out.2.2]; decide) (by rw [c6]; exact HN2.out.1) (by rw [c6]; exact HN2.out.2)
      have HC2 := Lib.hid hC2
      have D1 := Lib.hid (show _ ∧ _ ∧ _ ∧ _ ∧ _ ∧ _ ∧ _ from ⟨c1, c4, c5, c6, c7, c8, c9⟩)
      clear hC2 c1 c2 c3 c4 c5 c6 c7 c8 c9 HC1
      go_wp2_with fail
      refine HC2.out.mono ?_
      rintro e w5 ⟨rfl, x2, V2, c1, c2, c3, c4, c5, c6, c7, c8, c9⟩
      have hS0 : SiS b 0 0 (1 + ev % 60) 0 0 seed x0.S.ms x2 V2 w5 := by
        refine ⟨c1, c6.trans D1.out.2.2.2.1, by rw [c4, D1.out.2.1, HQ0.out.2.2]; decide, c3, c2, by rw [c5, D1.out.2.2.1, HQ0.out.1.1]; rfl, by rw [c7, D1.out.2.2.2.2.1, HX.out.2.1]; rfl, fun j hj => ?_, ?_, ?_⟩
        · rw [c8 j, if_neg (by omega), D1.out.2.2.2.2.2.1 j, if_neg (by omega)]
          unfold pvs; rw [HX.out.2.2.1]; rfl
        · rw [c8 1, if_neg (by decide), D1.out.2.2.2.2.2.1 1, if_pos rfl]
          exact .inl ⟨by decide, _, rfl, ⟨rfl, by decide, by decide⟩, rfl⟩
        · rw [c8 2, if_pos rfl]
          exact .inl ⟨.inr (by decide), _, rfl, ⟨rfl, by decide, by decide⟩, rfl, .inl ⟨rfl, rfl⟩, ⟨by decide, by decide, by decide, by decide, by decide, by decide⟩⟩
      have hB5 : Below w.heap.size w w5 := HX.out.2.2.2.2.trans (((D1.out.2.2.2.2.2.2.bel HX.out.1).mono HX.out.2.2.2.1).trans ((c9.bel D1.out.1).mono HX.out.2.2.2.1))
      have S5 := Lib.hid (show _ ∧ _ from ⟨hS0, hB5⟩)
      clear hS0 hB5 c1 c2 c3 c4 c5 c6 c7 c8 c9 HC2 D1
      obtain ⟨kk, hkk⟩ : ∃ kk, 1 + ev % 60 = kk := ⟨_, rfl⟩
      have hk1 : 1 ≤ kk := by omega
      have hk60 : kk ≤ 60 := by omega
      have HKM := Lib.hid (show (1 : Int) + (ev : Int) % 60 = (kk : Int) by omega)
      have HK := Lib.hid (show _ ∧ _ from ⟨hk1, hk60⟩)
      rw [hkk] at S5
      clear hkk hk1 hk60
      go_wp2
      rw [HKM.out]
      obtain ⟨hk1, hk60⟩ := HK.out
      have mc : Blk (w5.alloc (.cells #[.int .i64 0, .bool false, .int .u16 0, .int .u32 0, .slice none 0 0] 108)) w5.heap.size 108 #[.int .i64 0, .bool false, .int .u16 0, .int .u32 0, .slice none 0 0] := Blk.new _ _ _
      have mb : Below w5.heap.size w5 (w5.alloc (.cells #[.int .i64 0, .bool false, .int .u16 0, .int .u32 0, .slice none 0 0] 108)) := (Below.refl _ _).alloc (Nat.le_refl _) _
      generalize w5.alloc (.cells #[.int .i64 0, .bool false, .int .u16 0, .int .u32 0, .slice none 0 0] 108) = w6 at mc mb ⊢
      obtain ⟨cb, hcb⟩ : ∃ cb, w5.heap.size = cb := ⟨_, rfl⟩
      have hlb := S5.out.1.srv.lt
      have hbw : w.heap.size ≤ b := HX.out.2.2.2.1
      have S6 := Lib.hid (show SiS b 0 0 kk (silAt kk 0) (32 * 0) seed x0.S.ms x2 V2 w6 ∧ RcAt cb b cb 0 w6 ∧ Below w.heap.size w w6 from ⟨by rw [show silAt kk 0 = 0 by unfold silAt; simp]; exact S5.out.1.below mb, ⟨⟨.slice none 0 0, [], hcb ▸ mc, World.ownsRow_nil _ _ _ _⟩, by omega, by omega, by rw [← hcb]; exact mb.size⟩, S5.out.2.trans (mb.mono S5.out.2.size)⟩)
      rw [hcb]
      clear mc mb hcb hlb S5
      go_loopw [11, 12] (fun out i wr => ∃ (i0 sn : Nat) (x : SrvX) (V' : WorldV), i0 ≤ 100 ∧ i = .int .i64 ((i0 + 1 : Nat) : Int) ∧ out = .bool (decide (40 < kk ∧ kk ≤ i0)) ∧ sn ≤ i0 ∧ SiS b i0 sn kk (silAt kk i0) (32 * i0) seed x0.S.ms x V' wr ∧ RcAt cb b cb sn wr ∧ Below w.heap.size w wr) (fun _ i _ => 102 - (intOf i).toNat)
      case atStart => exact ⟨0, 0, x2, V2, Nat.zero_le _, rfl, by rw [decide_eq_false (fun hh => by omega)], Nat.le_refl _, S6.out⟩
      case round =>
        obtain ⟨i0, sn, x, V', hi100, rfl, rfl, hsn, hS, hC, hB⟩ := hrel
        clear S6 HX HN HQ0
        obtain ⟨ob, hob⟩ : ∃ ob, decide (40 < kk ∧ kk ≤ i0) = ob := ⟨_, rfl⟩
        rw [hob]
        have OB := Lib.hid hob
        clear hob
        have HH := Lib.hid (show _ ∧ _ ∧ _ from ⟨hS, hC, hB⟩)
        have hsl : silAt kk i0 ≤ 100 := by unfold silAt; split <;> first | omega | (have := Nat.mod_lt i0 hk1; omega)
        by_cases hlt : i0 < 100
        · have t0 : decide (((i0 + 1 : Nat) : Int) ≤ 100) = true := decide_eq_true (by omega)
          have hT := srvTickD b seed V' x wr hS.srv (hS.idle (by omega) (by omega)) (by have := hS.srv.at_.len; have := hS.len; omega) hS.q (by rw [hS.ms]; exact HN2.out.1) (by rw [hS.ms]; exact HN2.out.2) hS.ok (by rw [hS.hs]; show _ < wrap64 (V'.tick + 1); rw [hS.tick]; unfold wrap64; omega) (by show wrap64 (V'.tick + 1) ≤ _; rw [hS.tick]; unfold wrap64; omega) (by rw [hS.hs]; omega)
          have HT := Lib.hid hT
          clear hS hC hB hT
          go_wp2_with fail
          refine HT.out.mono ?_
          rintro e wt ⟨rfl, xt, t1, t2, t3, t4, t5⟩
          have hM := HH.out.1.ticked (by omega) hk1 t1 t2 t3 t4
          obtain ⟨V3, hV3⟩ : ∃ V3 : WorldV, (⟨(tickF V').map, (tickF V').st, (tickF V').tick, (silN ⟨(tickF V').l, fun i => (pvs x.ps i).map fillP⟩ 9).l⟩ : WorldV) = V3 := ⟨_, rfl⟩
          rw [hV3] at hM
          obtain ⟨I, hI⟩ : ∃ I, i0 + 1 = I := ⟨_, rfl⟩
          have M := Lib.hid (show SiS b I sn kk (silAt kk i0 + 1) (32 * i0) seed x0.S.ms xt V3 wt ∧ RcAt cb b cb sn wt ∧ Below w.heap.size w wt from ⟨hI ▸ hM, HH.out.2.1.srv HH.out.1.srv t5, HH.out.2.2.trans ((t5.bel HH.out.1.srv).mono hbw)⟩)
          rw [hI] at t0 ⊢
          have HI := Lib.hid (show i0 + 1 = I ∧ silAt kk i0 ≤ 100 from ⟨hI, hsl⟩)
          obtain ⟨r, hr⟩ : ∃ r, I % kk = r := ⟨_, rfl⟩
          have hmod : Int.tmod (I : Int) (kk : Int) = (r : Int) := by rw [Int.tmod_eq_emod_of_nonneg (by omega), ← hr]; omega
          have hk0 : (kk : Int) ≠ 0 := by omega
          have HR := Lib.hid hr
          clear hM hV3 hI t1 t2 t3 t4 t5 HT hr hsl
          go_upto_region 13 with (fail)
          go_cut [66] (fun s66 wx => ∃ (sn' : Nat) (x' : SrvX) (V4 : WorldV), s66 = .bool (decide (40 < kk ∧ kk = I)) ∧ sn' ≤ I ∧ SiS b I sn' kk (silAt kk I) (32 * I) seed x0.S.ms x' V4 wx ∧ RcAt cb b cb sn' wx ∧ Below w.heap.size w wx)
          case first =>
            have hnx := silAt_next kk i0 hk1
            rw [HI.out.1, HR.out] at hnx
            have NX := Lib.hid (show _ ∧ _ from ⟨hnx, show 32 * i0 + 32 = 32 * I by have := HI.out.1; omega⟩)
            clear hnx
            by_cases hr0 : r = 0
            · have d1 : decide ((r : Int) = 0) = true := decide_eq_true (by omega)
              cases ob with
              | true =>
                have hob := of_decide_eq_true OB.out
                have OBB := Lib.hid hob
                have HR0 := Lib.hid hr0
                clear hob hr0
                go_wp2
                go_meet
                exact ⟨sn, xt, V3, by rw [decide_eq_false (fun hh => by have := OBB.out; have := HI.out.1; omega)], by have := HI.out.1; omega, by
                  have h9 := NX.out.1
                  rw [if_neg (fun hh => by have := OBB.out; omega)] at h9
                  rw [h9]; exact M.out.1.up (by have := NX.out.2; omega), M.out.2.1, M.out.2.2⟩
              | false =>
                have HR0 := Lib.hid hr0
                clear hr0
                have hS1 := RcAt.send M.out.2.1 M.out.1 (by omega)
                have HS1 := Lib.hid hS1
                clear hS1
                go_wp2_with fail
                refine HS1.out.mono ?_
                rintro e wu ⟨rfl, u1, u2, u3⟩
                have U := Lib.hid (show _ ∧ _ ∧ _ from ⟨u1, u2, M.out.2.2.trans (u3.mono hbw)⟩)
                clear u1 u2 u3 HS1
                have hD := refDgram0 seed 2 ⟨sn % 65536, false, 0, 0⟩ ⟨by show sn % 65536 ≤ 65535; omega, Nat.zero_le _, Nat.zero_le _⟩ 1 (-1) none 0 wu HS.out.1 HS.out.2 (by decide) (by decide) (by decide) (by decide)
                rw [show ((-1 : Int) % 4294967296).toNat = 4294967295 from by decide] at hD
                have HD := Lib.hid hD
                clear hD
                go_wp2_with fail
                refine HD.out.mono ?_
                rintro e wv ⟨vd, nd, rfl, hod, hbd⟩
                obtain ⟨Ad, cd, rfl, hrd, hAd⟩ := Row.of_own hod
                have W2 := Lib.hid (show _ ∧ _ ∧ _ ∧ _ from ⟨U.out.2.1.below hbd, U.out.1.below hbd, U.out.2.2.trans (hbd.mono U.out.2.2.size), hrd⟩)
                clear hod hbd hrd hAd HD
                by_cases h40 : kk ≤ 40
                · obtain ⟨P, sp, hx2, hPk, hcode, hnext⟩ := W2.out.1.taken h40 (by omega)
                  have hT2 := srvTake b 2 seed V3 xt (32 * i0) _ Ad nd cd wv W2.out.1.srv (by decide) (by decide) P sp hx2 hPk (by omega) (W2.out.2.2.2.reads (by decide)) (by have := W2.out.2.2.2.2.1; have := W2.out.2.2.2.2.2.1; unfold maxLen at this; omega) W2.out.2.2.2.2.1
                  have HT2 := Lib.hid (show _ ∧ _ ∧ _ from ⟨hT2, hcode, hnext⟩)
                  have H40 := Lib.hid h40
                  clear hT2 hcode hnext hx2 hPk h40
                  go_wp2_with fail
                  refine HT2.out.1.mono ?_
                  rintro e wy ⟨he, xy, y1, y2, y3, y4, y5⟩
                  have hcc := HT2.out.2.1
                  rw [hcc] at he
                  subst he
                  have Y := Lib.hid (show _ ∧ _ ∧ _ ∧ _ ∧ _ from ⟨y1, y2, y3, y4, y5⟩)
                  clear y1 y2 y3 y4 y5 hcc
                  go_wp2
                  go_meet
                  exact ⟨sn + 1, xy, V3, by rw [decide_eq_false (fun hh => by have := H40.out; omega)], by have := HI.out.1; omega, by
                    have h9 := NX.out.1
                    rw [if_pos ⟨H40.out, HR0.out⟩] at h9
                    rw [h9, ← NX.out.2]
                    exact HT2.out.2.2 xy wy Y.out.1 Y.out.2.1 Y.out.2.2.1 Y.out.2.2.2.1, W2.out.2.1.srv W2.out.1.srv Y.out.2.2.2.2, W2.out.2.2.1.trans ((Y.out.2.2.2.2.bel W2.out.1.srv).mono hbw)⟩
                · have hkI : kk = I := by
                    have h9 := of_decide_eq_false OB.out
                    have h8 := HI.out.1
                    have h7 := HR0.out
                    rw [← HR.out] at h7
                    rcases Nat.lt_or_ge I kk with h6 | h6
                    · rw [Nat.mod_eq_of_lt h6] at h7; omega
                    · omega
                  have hz2 : xt.ps 2 = none := by
                    rcases W2.out.1.p2 with ⟨a, -⟩ | ⟨-, a⟩
                    · exact absurd a (by omega)
                    · unfold pvs at a
                      cases h2 : xt.ps 2 with
                      | none => rfl
                      | some y => rw [h2] at a; cases a
                  have hT2 := srvTakeFree b 2 (by decide) (by decide) Ad nd cd wv (by rw [W2.out.1.srv.slot (k := 2) (by decide)]; unfold peerPtr; rw [hz2]; rfl)
                  have HT2 := Lib.hid hT2
                  have HKI := Lib.hid (show _ ∧ _ from ⟨h40, hkI⟩)
                  clear hT2 hz2 hkI h40
                  go_wp2_with fail
                  refine HT2.out.mono ?_
                  rintro e wy ⟨rfl, rfl⟩
                  go_wp2
                  go_meet
                  exact ⟨sn + 1, xt, V3, by rw [decide_eq_true (⟨by have := HKI.out.1; omega, HKI.out.2⟩ : 40 < kk ∧ kk = I)], by have := HI.out.1; omega, by
                    have h9 := NX.out.1
                    rw [if_neg (fun hh => HKI.out.1 hh.1)] at h9
                    rw [h9]
                    have h8 := W2.out.1.up (K' := 32 * I) (by have := NX.out.2; omega)
                    exact ⟨h8.srv, h8.ms, h8.len, h8.ok, h8.q, h8.tick, h8.hs, h8.z3, h8.p1, h8.p2.imp (fun a => absurd a.1 (by have := HKI.out; omega)) id⟩, W2.out.2.1, W2.out.2.2.1⟩
            · have d1 : decide ((r : Int) = 0) = false := decide_eq_false (by omega)
              have HR0 := Lib.hid hr0
              clear hr0
              go_wp2
              go_meet
              exact ⟨sn, xt, V3, by rw [decide_eq_false (fun hh => HR0.out (by rw [← HR.out, hh.2, Nat.mod_self]))], by have := HI.out.1; omega, by
                have h9 := NX.out.1
                rw [if_neg (fun hh => HR0.out hh.2)] at h9
                rw [h9]; exact M.out.1.up (by have := NX.out.2; omega), M.out.2.1, M.out.2.2⟩
          case rest =>
            obtain ⟨sn2, x4, V4, rfl, hsn2, hS, hC, hB⟩ := hcut
            have hp1 : isTaken x4.ps 1 = decide (I ≤ 40) := by
              have e0 : isTaken x4.ps 1 = (pvs x4.ps 1).isSome := by unfold isTaken pvs; simp
              rw [e0]
              rcases hS.p1 with ⟨a, P, a1, -⟩ | ⟨a, a1⟩
              · rw [a1, decide_eq_true a]; rfl
              · rw [a1, decide_eq_false (by omega)]; rfl
            have hp2 : isTaken x4.ps 2 = decide (kk ≤ 40 ∨ I ≤ 40) := by
              have e0 : isTaken x4.ps 2 = (pvs x4.ps 2).isSome := by unfold isTaken pvs; simp
              rw [e0]
              rcases hS.p2 with ⟨a, P, a1, -⟩ | ⟨a, a1⟩
              · rw [a1, decide_eq_true a]; rfl
              · rw [a1, decide_eq_false a]; rfl
            have hQ1 := srvConnected x4.ps b 1 (by decide) (by decide) wc (hS.srv.slot (by decide))
            have hQ2 := srvConnected x4.ps b 2 (by decide) (by decide) wc (hS.srv.slot (by decide))
            rw [hp1] at hQ1
            rw [hp2] at hQ2
            obtain ⟨o2, ho2⟩ : ∃ o2, decide (40 < kk ∧ kk = I) = o2 := ⟨_, rfl⟩
            rw [ho2]
            have hout : decide (40 < kk ∧ kk ≤ I) = (ob || o2) := by
              rw [← OB.out, ← ho2, ← Bool.decide_or]
              have := HI.out.1
              exact decide_eq_decide.2 (by omega)
            have F := Lib.hid (show _ ∧ _ ∧ _ ∧ _ ∧ _ ∧ _ from ⟨hS, hC, hB, hout, hsn2, HI.out.1⟩)
            have hI100 : I ≤ 100 := by have := HI.out.1; omega
            have hgo : ∀ e1 e2 : Bool, decide (I ≤ 40) = e1 → decide (kk ≤ 40) = e2 → decide ((I : Int) ≤ 40) = e1 ∧ decide ((kk : Int) ≤ 40) = e2 ∧ decide (kk ≤ 40 ∨ I ≤ 40) = (e2 || e1) := by
              intro e1 e2 h1 h2
              refine ⟨?_, ?_, ?_⟩
              · rw [← h1]; exact decide_eq_decide.2 (by omega)
              · rw [← h2]; exact decide_eq_decide.2 (by omega)
              · rw [← h1, ← h2, ← Bool.decide_or]
            obtain ⟨e1, he1⟩ : ∃ e1, decide (I ≤ 40) = e1 := ⟨_, rfl⟩
            obtain ⟨e2, he2⟩ : ∃ e2, decide (kk ≤ 40) = e2 := ⟨_, rfl⟩
            obtain ⟨g1, g2, g3⟩ := hgo e1 e2 he1 he2
            rw [he1] at hQ1
            rw [g3] at hQ2
            have Q1 := Lib.hid hQ1
            have Q2 := Lib.hid hQ2
            clear hp1 hp2 hQ1 hQ2 ho2 hout hS hC hB hgo g3 hsn2 HI
            cases o2 <;> cases e1 <;> cases e2
            all_goals
              go_wp2_with fail
              refine Q1.out.mono ?_
              rintro e wy ⟨rfl, rfl⟩
              go_wp2_with fail
              refine Q2.out.mono ?_
              rintro e wy ⟨rfl, rfl⟩
              go_wp2
              refine ⟨⟨I, sn2, x4, V4, hI100, by go_num, ?_, F.out.2.2.2.2.1, F.out.1, F.out.2.1, F.out.2.2.1⟩, ?_⟩
              · rw [F.out.2.2.2.1]; simp
              · have := F.out.2.2.2.2.2
                simp [intOf]
                omega
        · have hi : i0 = 100 := by omega
          subst hi
          have hp1 : pvs x.ps 1 = none := by
            rcases hS.p1 with ⟨a, -⟩ | ⟨-, a⟩
            · omega
            · exact a
          have hC1 := srvConnN b 1 seed V' x wr hS.srv (by decide) (by decide) hp1 hS.q hS.ok (by have := hS.len; omega) (by rw [hS.ms]; exact HN2.out.1) (by rw [hS.ms]; exact HN2.out.2)
          have HC1 := Lib.hid hC1
          clear hC1 hp1 hS hC hB hsl
          go_wp2_with fail
          refine HC1.out.mono ?_
          rintro e w4 ⟨rfl, x1, V1, c1, c2, c3, c4, c5, c6, c7, c8, c9⟩
          have hx1 : ∃ P sp, x1.ps 1 = some (P, sp) := by
            have := c8 1
            rw [if_pos rfl] at this
            unfold pvs at this
            cases h4 : x1.ps 1 with
            | none => rw [h4] at this; cases this
            | some y4 => exact ⟨y4.1, y4.2, rfl⟩
          obtain ⟨P, sp, hx1⟩ := hx1
          have hD := srvDropG b 1 seed V1 x1 w4 c1 (by decide) (by decide) P sp hx1 (by have e1 := c1.at_.len; have e2 := HH.out.1.len; omega) (c2.player 1 (by decide) (by decide) (by unfold isT pvs; rw [hx1]; rfl))
          have HD := Lib.hid hD
          have E := Lib.hid (show _ ∧ _ from ⟨c1, c9⟩)
          clear hD hx1 c1 c2 c3 c4 c5 c6 c7 c8 c9 HC1
          go_wp2_with fail
          refine HD.out.mono ?_
          rintro e w5 ⟨rfl, x5, d1, d2, d3, d4, d5⟩
          have hx5 : x5.ps 1 = none := by
            have := d4 1
            rw [if_pos rfl] at this
            unfold pvs at this
            cases h4 : x5.ps 1 with
            | none => rfl
            | some y4 => rw [h4] at this; cases this
          have hD2 := srvDropFree b 1 seed _ x5 w5 d1 (by decide) (by decide) hx5
          have HD2 := Lib.hid hD2
          have G := Lib.hid (HH.out.2.2.trans (((E.out.2.bel HH.out.1.srv).mono hbw).trans ((d5.bel E.out.1).mono hbw)))
          clear hD2 hx5 d1 d2 d3 d4 d5 HD
          go_wp2_with fail
          refine HD2.out.mono ?_
          rintro e w6 ⟨rfl, rfl⟩
          go_wp2
          go_ret
          exact ⟨rfl, G.out⟩
theorem wf_u64S {x : Int} (h : (Lit.int .u64 x).wf = true) : 0 ≤ x ∧ x < 18446744073709551616 := by
  have h2 : 0 ≤ x ∧ x ≤ 18446744073709551615 := by simpa [Lit.wf, IntKind.min, IntKind.max, IntKind.signed, IntKind.bits] using h
  omega
theorem lawSilentI (m : MapV) (s : MapS) (ev seed : Int) (w : World) (hm : MapAt w w.heap.size m s) (e0 : 0 ≤ ev) (he : ev ≤ 255) (h0 : 0 ≤ seed) (h1 : seed < 18446744073709551616) :
    Calls Tryz.prog 7 #[(.agg #[.int .i64 m.W, .int .i64 m.H, .slice s.A s.n s.c, .slice s.A2 s.n2 s.c2]), .int .u8 ev, .int .u64 seed] w fun e w' => e = .returned (.bool true) ∧ Below w.heap.size w w' := by
  obtain ⟨n, hn⟩ := Int.eq_ofNat_of_zero_le e0
  rw [hn]
  exact lawSilent m s n seed w hm (by omega) h0 h1
end Go.Proofs.YtojbijapdkohlaaGreatDoor
