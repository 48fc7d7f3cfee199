/- The walk of the law ClientNumbers. (Printed by gen_numbers.py.) -/
import Derived.Test.YtbjhdmknhimbjaaAwake22
import Derived.Test.YtbjhdmknhimbjaaCliNil
import Derived.Test.YtbjhdmknhimbjaaSteps
set_option linter.unusedSimpArgs false
set_option linter.unusedVariables false
namespace Go.Proofs.Ytbjhdmknhimbjaa
open Go.RowKit
theorem Chg.cellFar {F : Nat → Prop} {w w' : World} (h : Chg F w w') {p : Addr} (hp : p.block < w.heap.size) (hF : ¬ F p.block) : w'.cell? p = w.cell? p := by
  unfold World.cell?
  rw [h.block p.block hp hF]
set_option maxRecDepth 100000 in
set_option maxHeartbeats 4000000 in
theorem lawNumbersNo (m : MapV) (s : MapS) (A : Option Addr) (n c : Nat) (w : World) (h : MapAt w w.heap.size m s) (hno : ¬ (s.n ≤ 200 ∧ s.n2 ≤ 200) ∨ 300 < n) :
    Calls Try.prog 3 #[(.agg #[.int .i64 m.W, .int .i64 m.H, .slice s.A s.n s.c, .slice s.A2 s.n2 s.c2]), .slice A n c] w fun r w' => r = .returned (.bool true) ∧ Below w.heap.size w w' := by
  have hF := fun W => few22 m s W
  obtain ⟨f, hf⟩ : ∃ f, decide (s.n ≤ 200 ∧ s.n2 ≤ 200) = f := ⟨_, rfl⟩
  obtain ⟨d, hd⟩ : ∃ d, decide ((300 : Int) < (n : Int)) = d := ⟨_, rfl⟩
  have hdn : decide (300 < n) = d := by rw [← hd]; exact decide_eq_decide.2 (by omega)
  simp only [hf] at hF
  have hno' : f = false ∨ d = true := by
    rcases hno with h1 | h1
    · exact .inl (by rw [← hf]; exact decide_eq_false h1)
    · exact .inr (by rw [← hd]; exact decide_eq_true (by omega))
  have HN := Lib.hid hno'
  have MB := Lib.hid (Blk.new w 25 #[.int .i64 m.W, .int .i64 m.H, .slice s.A s.n s.c, .slice s.A2 s.n2 s.c2])
  clear hno hno' h hf
  go_enter Try.func3, Try.ntmps3
  cases f
  rotate_left
  cases d
  · exact absurd HN.out (by simp)
  all_goals
    go_wp2_with (first
      | (go_at_call 4; refine (awake22 _).mono ?_; rintro r wa ⟨rfl, hba⟩; have Ba : Below w.heap.size w wa := (by first | exact HBb.out.trans (hba.mono HBb.out.size) | exact (Below.alloc (Below.refl _ _) (Nat.le_refl _) _).trans (hba.mono (by simp))); (try (have mba := MB.out.below hba (by simp))); (try (have ma0 : wa.cell? ⟨w.heap.size, 0, none⟩ = some (.int .i64 m.W) := mba.cell 0; have ma1 : wa.cell? ⟨w.heap.size, 1, none⟩ = some (.int .i64 m.H) := mba.cell 1; have ma2 : wa.cell? ⟨w.heap.size, 2, none⟩ = some (.slice s.A s.n s.c) := mba.cell 2; have ma3 : wa.cell? ⟨w.heap.size, 3, none⟩ = some (.slice s.A2 s.n2 s.c2) := mba.cell 3; have HMa := Lib.hid mba)); have HBa := Lib.hid Ba; clear hba Ba)
      | (go_at_call 5; refine (hF _).mono ?_; rintro r wb ⟨rfl, hbb⟩; have Bb : Below w.heap.size w wb := HBa.out.trans (hbb.mono HBa.out.size); have mbb := HMa.out.below hbb HMa.out.lt; have mb0 : wb.cell? ⟨w.heap.size, 0, none⟩ = some (.int .i64 m.W) := mbb.cell 0; have mb1 : wb.cell? ⟨w.heap.size, 1, none⟩ = some (.int .i64 m.H) := mbb.cell 1; have mb2 : wb.cell? ⟨w.heap.size, 2, none⟩ = some (.slice s.A s.n s.c) := mbb.cell 2; have mb3 : wb.cell? ⟨w.heap.size, 3, none⟩ = some (.slice s.A2 s.n2 s.c2) := mbb.cell 3; have HBb := Lib.hid Bb; clear hbb Bb mbb))
    go_ret
    exact ⟨rfl, HBa.out⟩
set_option maxRecDepth 100000 in
set_option maxHeartbeats 4000000 in
theorem lawNumbersNone (m : MapV) (s : MapS) (A : Option Addr) (n c : Nat) (w : World) (h : MapAt w w.heap.size m s) (hf : s.n ≤ 200 ∧ s.n2 ≤ 200) (hn : n ≤ 300) (hok : cliOk m 1 = false) :
    Calls Try.prog 3 #[(.agg #[.int .i64 m.W, .int .i64 m.H, .slice s.A s.n s.c, .slice s.A2 s.n2 s.c2]), .slice A n c] w fun r w' => r = .returned (.bool true) ∧ Below w.heap.size w w' := by
  have hF := fun W => few22 m s W
  simp only [decide_eq_true hf] at hF
  have hd : decide ((300 : Int) < (n : Int)) = false := decide_eq_false (by omega)
  have hdn : decide (300 < n) = false := decide_eq_false (by omega)
  have hN := Lib.hid (fun W (hW : Below w.heap.size w W) => cliNewNo m s 1 1 W ((h.below hW).upto hW.size) hok)
  have MB := Lib.hid (Blk.new w 25 #[.int .i64 m.W, .int .i64 m.H, .slice s.A s.n s.c, .slice s.A2 s.n2 s.c2])
  clear h hf hok
  go_enter Try.func3, Try.ntmps3
  go_wp2_with (first
      | (go_at_call 4; refine (awake22 _).mono ?_; rintro r wa ⟨rfl, hba⟩; have Ba : Below w.heap.size w wa := (by first | exact HBb.out.trans (hba.mono HBb.out.size) | exact (Below.alloc (Below.refl _ _) (Nat.le_refl _) _).trans (hba.mono (by simp))); (try (have mba := MB.out.below hba (by simp))); (try (have ma0 : wa.cell? ⟨w.heap.size, 0, none⟩ = some (.int .i64 m.W) := mba.cell 0; have ma1 : wa.cell? ⟨w.heap.size, 1, none⟩ = some (.int .i64 m.H) := mba.cell 1; have ma2 : wa.cell? ⟨w.heap.size, 2, none⟩ = some (.slice s.A s.n s.c) := mba.cell 2; have ma3 : wa.cell? ⟨w.heap.size, 3, none⟩ = some (.slice s.A2 s.n2 s.c2) := mba.cell 3; have HMa := Lib.hid mba)); have HBa := Lib.hid Ba; clear hba Ba)
      | (go_at_call 5; refine (hF _).mono ?_; rintro r wb ⟨rfl, hbb⟩; have Bb : Below w.heap.size w wb := HBa.out.trans (hbb.mono HBa.out.size); have mbb := HMa.out.below hbb HMa.out.lt; have mb0 : wb.cell? ⟨w.heap.size, 0, none⟩ = some (.int .i64 m.W) := mbb.cell 0; have mb1 : wb.cell? ⟨w.heap.size, 1, none⟩ = some (.int .i64 m.H) := mbb.cell 1; have mb2 : wb.cell? ⟨w.heap.size, 2, none⟩ = some (.slice s.A s.n s.c) := mbb.cell 2; have mb3 : wb.cell? ⟨w.heap.size, 3, none⟩ = some (.slice s.A2 s.n2 s.c2) := mbb.cell 3; have HBb := Lib.hid Bb; clear hbb Bb mbb)
      | (go_at_call 6; refine (hN.out _ HBb.out).mono ?_; rintro r wn ⟨rfl, hbn⟩; have HBn := Lib.hid (HBb.out.trans (hbn.mono HBb.out.size)); clear hbn))
  go_ret
  exact ⟨rfl, HBn.out⟩
set_option maxRecDepth 100000 in
set_option maxHeartbeats 16000000 in
theorem lawNumbersYes (m : MapV) (s : MapS) (l : List (Int × Int)) (A : Option Addr) (n c : Nat) (w : World) (h : MapAt w w.heap.size m s) (hl : Reads w w.heap.size 2 A n (stepsV l)) (hb8 : ∀ p ∈ l, (-128 ≤ p.1 ∧ p.1 ≤ 127) ∧ (-128 ≤ p.2 ∧ p.2 ≤ 127)) (hf : s.n ≤ 200 ∧ s.n2 ≤ 200) (hn : n ≤ 300) (hok : cliOk m 1 = true) :
    Calls Try.prog 3 #[(.agg #[.int .i64 m.W, .int .i64 m.H, .slice s.A s.n s.c, .slice s.A2 s.n2 s.c2]), .slice A n c] w fun r w' => r = .returned (.bool true) ∧ Below w.heap.size w w' := by
  have hF := fun W => few22 m s W
  simp only [decide_eq_true hf] at hF
  have hd : decide ((300 : Int) < (n : Int)) = false := decide_eq_false (by omega)
  have hdn : decide (300 < n) = false := decide_eq_false (by omega)
  have hN := Lib.hid (fun W (hW : Below w.heap.size w W) => cliNewYes m s 1 1 W ((h.below hW).upto hW.size) hok (by omega) (by omega))
  have hll : l.length = n := by have := hl.1; rw [stepsV_length] at this; omega
  have HLL := Lib.hid hll
  have HR := Lib.hid hl
  have HB8 := Lib.hid hb8
  have MB := Lib.hid (Blk.new w 25 #[.int .i64 m.W, .int .i64 m.H, .slice s.A s.n s.c, .slice s.A2 s.n2 s.c2])
  clear h hf hok hll hl hb8
  go_enter Try.func3, Try.ntmps3
  go_wp2_with (first
      | (go_at_call 4; refine (awake22 _).mono ?_; rintro r wa ⟨rfl, hba⟩; have Ba : Below w.heap.size w wa := (Below.alloc (Below.refl _ _) (Nat.le_refl _) _).trans (hba.mono (by simp)); have mba := MB.out.below hba (by simp); have ma0 : wa.cell? ⟨w.heap.size, 0, none⟩ = some (.int .i64 m.W) := mba.cell 0; have ma1 : wa.cell? ⟨w.heap.size, 1, none⟩ = some (.int .i64 m.H) := mba.cell 1; have ma2 : wa.cell? ⟨w.heap.size, 2, none⟩ = some (.slice s.A s.n s.c) := mba.cell 2; have ma3 : wa.cell? ⟨w.heap.size, 3, none⟩ = some (.slice s.A2 s.n2 s.c2) := mba.cell 3; have HBa := Lib.hid Ba; have HMa := Lib.hid mba; clear hba Ba mba)
      | (go_at_call 5; refine (hF _).mono ?_; rintro r wb ⟨rfl, hbb⟩; have Bb : Below w.heap.size w wb := HBa.out.trans (hbb.mono HBa.out.size); have mbb := HMa.out.below hbb HMa.out.lt; have mb0 : wb.cell? ⟨w.heap.size, 0, none⟩ = some (.int .i64 m.W) := mbb.cell 0; have mb1 : wb.cell? ⟨w.heap.size, 1, none⟩ = some (.int .i64 m.H) := mbb.cell 1; have mb2 : wb.cell? ⟨w.heap.size, 2, none⟩ = some (.slice s.A s.n s.c) := mbb.cell 2; have mb3 : wb.cell? ⟨w.heap.size, 3, none⟩ = some (.slice s.A2 s.n2 s.c2) := mbb.cell 3; have HBb := Lib.hid Bb; clear hbb Bb mbb)
      | (go_at_call 6; refine (hN.out _ HBb.out).mono ?_; rintro r wn ⟨b, s2, rfl, hb2, -, hbb2, hbn⟩; have Bn : Below w.heap.size w wn := HBb.out.trans (hbn.mono HBb.out.size); have HBn := Lib.hid Bn; have HB2 := Lib.hid hb2; have hbw := Nat.le_trans HBb.out.size hbb2; clear hb2 hbn Bn hbb2 ma0 ma1 ma2 ma3 mb0 mb1 mb2 mb3 hF))
  have HMM := MB
  clear MB HMa HBa HBb hN
  go_loopw [7, 8] (fun nn i wr => ∃ (k num : Nat) (pl : List CmdV) (pA : Option Addr) (pc : Nat) (rs : Int), k ≤ n ∧ nn = .int .u32 (num : Nat) ∧ i = .int .i64 (k : Nat) ∧ num ≤ k ∧ Blk wr b 75 #[.int .i64 m.W, .int .i64 m.H, .slice s2.A s2.n s2.c, .slice s2.A2 s2.n2 s2.c2, .int .u64 1, .int .i64 1, .int .u16 0, .bool false, .int .u16 0, .int .u32 0, .slice none 0 0, .slice none 0 0, .int .u32 0, .slice none 0 0, .map none, .int .u32 (num : Nat), .slice pA pl.length pc, .int .u32 rs, .int .u8 0, .slice none 0 0] ∧ Row wr 77 6 pA pl.length pc (cmdsV pl) ∧ pl.length ≤ 128 ∧ (∀ q, blkOf pA = some q → w.heap.size ≤ q) ∧ Below w.heap.size w wr) (fun _ i _ => n - (intOf i).toNat)
  case atStart => exact ⟨0, 0, [], none, 0, 0, Nat.zero_le _, rfl, rfl, Nat.le_refl _, HB2.out, Row.nil_, by decide, (fun q hq => nomatch hq), HBn.out⟩
  case round =>
    obtain ⟨k, num, pl, pA, pc, rs, hk, rfl, rfl, hnk, hb, hp, hpl, hpA, hbw2⟩ := hrel
    have z16 : wr.cell? ⟨b, 16, none⟩ = some (.slice pA pl.length pc) := hb.cell 16
    have z13 : wr.cell? ⟨b, 13, none⟩ = some (.slice none 0 0) := hb.cell 13
    have z14 : wr.cell? ⟨b, 14, none⟩ = some (.map none) := hb.cell 14
    have z5 : wr.cell? ⟨b, 5, none⟩ = some (.int .i64 1) := hb.cell 5
    have HB := Lib.hid hb
    have HP := Lib.hid hp
    have HPA := Lib.hid hpA
    have HBW := Lib.hid hbw2
    have hsw := hbw2.size
    have lb := hb.lt
    have HOWN := Lib.hid (fun W (hW : Below wr.heap.size wr W) => cliOwnNil b 1 W ((hW.cell (p := ⟨b, 13, none⟩) lb).trans z13) ((hW.cell (p := ⟨b, 14, none⟩) lb).trans z14) ((hW.cell (p := ⟨b, 5, none⟩) lb).trans z5))
    have HACC := Lib.hid (fun W (hW : Below wr.heap.size wr W) => cliAccepted [] b none 0 0 W ((hW.cell (p := ⟨b, 13, none⟩) lb).trans z13) Reads.none_ (by omega))
    clear hb hp hpA hbw2 z13 z14 z5
    by_cases hlt : k < n
    · obtain ⟨p, hp⟩ : ∃ p, l[k]? = some p := ⟨_, List.getElem?_eq_getElem (by rw [HLL.out]; exact hlt)⟩
      obtain ⟨g, off, rfl, hg, hc⟩ := HR.out.flat (by omega) (by omega)
      obtain ⟨⟨pa, pb⟩, pc2, pd⟩ := HB8.out p (List.mem_of_getElem? hp)
      have s0 : wr.cell? ⟨g, off + k * 2, none⟩ = some (.int .i8 p.1) := (HBW.out.cell (p := ⟨g, off + k * 2, none⟩) hg).trans (hc _ _ (stepsV_at _ _ _ hp).1)
      have s1 : wr.cell? ⟨g, off + k * 2 + 1, none⟩ = some (.int .i8 p.2) := (HBW.out.cell (p := ⟨g, off + k * 2 + 1, none⟩) hg).trans (hc _ _ (stepsV_at _ _ _ hp).2)
      have gb : g ≠ b := by omega
      have lg : g < wr.heap.size := by omega
      clear hc hp
      obtain ⟨mx, my⟩ := p
      simp only at pa pb pc2 pd s0 s1
      obtain ⟨np, hnp⟩ : ∃ np, pl.length = np := ⟨_, rfl⟩
      rw [hnp] at z16
      have HNP := Lib.hid hnp
      have hpend := Lib.hid (fun (n : Nat) (A : Option Addr) (c : Nat) W h => cliPending b A n c W h)
      have HPL := Lib.hid hpl
      have t2 : decide ((128 : Int) < (np : Int)) = false := decide_eq_false (by omega)
      have t2n : decide (128 < np) = false := decide_eq_false (by omega)
      clear hnp hpl
      have t0 : decide ((k : Int) < (n : Int)) = true := decide_eq_true (by omega)
      have t0n : decide (k < n) = true := decide_eq_true hlt
      by_cases hno : mx = -128 ∨ my = -128
      · have hq : (mx != -128) = false ∨ (mx != -128) = true ∧ (my != -128) = false := by
          by_cases h1 : mx = -128
          · exact .inl (by rw [h1]; rfl)
          · exact .inr ⟨bne_iff_ne.2 h1, by rw [hno.resolve_left h1]; rfl⟩
        have HNO := Lib.hid hno
        clear hno
        have hent := Lib.hid (fun fire W hb => cliEnterNo (.int .i64 m.W) (.int .i64 m.H) (.slice s2.A s2.n s2.c) (.slice s2.A2 s2.n2 s2.c2) (.int .u64 1) (.int .i64 1) (.int .u16 0) (.bool false) (.int .u16 0) (.int .u32 0) (.slice none 0 0) (.slice none 0 0) (.int .u32 0) (.map none) (.slice none 0 0) b none 0 0 num rs 0 mx my fire pA pl.length pc W hb HNO.out)
        rcases hq with q0 | ⟨q0, q1⟩
        all_goals
          go_wp2_with fail
          refine (hpend.out np pA pc wr z16).mono ?_
          rintro e w1 ⟨rfl, rfl⟩
          go_upto_region 12 with (fail)
          go_region_held3 (fun w' => w'.cell? ⟨g, off + k * 2, none⟩ = some (.int .i8 mx) ∧ w'.cell? ⟨g, off + k * 2 + 1, none⟩ = some (.int .i8 my)) (go_keep) (first | (go_at_call 8; refine (hent.out _ _ (by first | exact HB.out | exact HB.out.drew)).mono ?_; rintro e w1 ⟨rfl, rfl⟩))
          go_wp2_with (go_at_call 7; refine (hpend.out np pA pc _ (by first | exact z16 | assumption)).mono ?_; rintro e w1 ⟨rfl, rfl⟩)
          exact ⟨⟨k + 1, num, pl, pA, pc, rs, hlt, rfl, by go_num, by omega, HB.out.drew, HP.out.keep (fun _ _ => rfl), HPL.out, HPA.out, HBW.out.drew⟩, by simp [intOf]; omega⟩
      · have h1 : mx ≠ -128 := fun h => hno (.inl h)
        have h2 : my ≠ -128 := fun h => hno (.inr h)
        have q0 : (mx != -128) = true := bne_iff_ne.2 h1
        have q1 : (my != -128) = true := bne_iff_ne.2 h2
        have hent := Lib.hid (fun fire W hb hp => cliEnter (.int .i64 m.W) (.int .i64 m.H) (.slice s2.A s2.n s2.c) (.slice s2.A2 s2.n2 s2.c2) (.int .u64 1) (.int .i64 1) (.int .u16 0) (.bool false) (.int .u16 0) (.int .u32 0) (.slice none 0 0) (.slice none 0 0) (.int .u32 0) (.map none) (.slice none 0 0) [] b num none 0 0 rs 0 mx my fire pl pA pc W hb Row.nil_ hp h1 h2 (by omega) HPL.out (by decide) (by decide))
        clear hno h1 h2
        go_wp2_with fail
        refine (hpend.out np pA pc wr z16).mono ?_
        rintro e w1 ⟨rfl, rfl⟩
        go_upto_region 12 with (fail)
        go_region_held3 (fun w' => w'.cell? ⟨g, off + k * 2, none⟩ = some (.int .i8 mx) ∧ w'.cell? ⟨g, off + k * 2 + 1, none⟩ = some (.int .i8 my)) (with_reducible (first | exact ⟨s0, s1⟩ | exact ⟨v0, v1⟩ | go_keep)) (first | (go_at_call 8; refine (hent.out _ _ (by first | exact HB.out | exact HB.out.drew) (by first | exact HP.out | exact HP.out.keep (fun _ _ => rfl))).mono ?_; rintro e w5 ⟨rfl, A5, c5, rs5, pl5, hb5, hr5, hcase, hpv, hch⟩; have v0 : w5.cell? ⟨g, off + k * 2, none⟩ = some (.int .i8 mx) := (Chg.cellFar hch (p := ⟨g, off + k * 2, none⟩) lg (fun hh => hh.elim (fun e => gb e) (fun e => by have h9 : w.heap.size ≤ g := HPA.out g e; omega))).trans s0; have v1 : w5.cell? ⟨g, off + k * 2 + 1, none⟩ = some (.int .i8 my) := (Chg.cellFar hch (p := ⟨g, off + k * 2 + 1, none⟩) lg (fun hh => hh.elim (fun e => gb e) (fun e => by have h9 : w.heap.size ≤ g := HPA.out g e; omega))).trans s1; have HB5 := Lib.hid hb5; have HR5 := Lib.hid hr5; have HCS := Lib.hid hcase; have HPV := Lib.hid hpv; have HCH := Lib.hid hch; clear hb5 hr5 hcase hpv hch))
        obtain ⟨n5, hn5⟩ : ∃ n5, pl5.length = n5 := ⟨_, rfl⟩
        have z5 : w5.cell? ⟨b, 16, none⟩ = some (.slice A5 n5 c5) := by rw [← hn5]; exact HB5.out.cell 16
        have hle : n5 ≤ 128 := by
          have hpl := HPL.out
          rcases HCS.out with ⟨a1, a2, -⟩ | ⟨a1, a2, -⟩
          · rw [← hn5, a2, List.length_append]; simp; omega
          · rw [← hn5, a2]; simp
        have t5 : decide ((128 : Int) < (n5 : Int)) = false := decide_eq_false (by omega)
        have t5n : decide (128 < n5) = false := decide_eq_false (by omega)
        have hlt5 : pl5.length ≤ 128 := by omega
        have HLT5 := Lib.hid hlt5
        have s5 := HCH.out.size
        have HBX := Lib.hid (Chg.bel (F := fun q => q = b ∨ blkOf pA = some q) (by first | exact HBW.out | exact HBW.out.drew) (Nat.le_refl _) HCH.out (fun q hq => hq.elim (fun e => by omega) (fun e => HPA.out q e)))
        have HPX := Lib.hid (show ∀ q, blkOf A5 = some q → w.heap.size ≤ q from fun q hq => (HPV.out q hq).elim (fun e => HPA.out q e) (fun e => by simp at e; omega))
        clear hn5 hle hlt5 t2 t2n z16 s5
        go_wp2_with (go_at_call 7; refine (hpend.out n5 A5 c5 _ (by first | exact z5 | assumption)).mono ?_; rintro e w1 ⟨rfl, rfl⟩)
        exact ⟨⟨k + 1, num + 1, pl5, A5, c5, rs5, hlt, by go_num, by go_num, by omega, HB5.out, HR5.out, HLT5.out, HPX.out, HBX.out⟩, by simp [intOf]; omega⟩
    · obtain rfl : k = n := by omega
      go_wp2_with fail
      refine (HOWN.out _ (Below.refl _ _)).mono ?_
      rintro e w1 ⟨rfl, hb1⟩
      have hb2 : Below wr.heap.size wr (w1.alloc (.cells #[.int .i64 0, .int .i64 0, .int .i64 0, .int .i64 0, .int .i64 0, .int .i64 0, .int .i64 0, .int .i64 0] 43)) := hb1.alloc hb1.size _
      have HX := Lib.hid hb2
      clear hb2 hb1
      go_wp2_with fail
      refine (HACC.out _ HX.out).mono ?_
      rintro e w2 ⟨rfl, hb2⟩
      have HY := Lib.hid (HBW.out.trans ((HX.out.trans (hb2.mono HX.out.size)).mono hsw))
      clear hb2
      have hla : lastI [] = -1 := rfl
      rw [hla]
      go_wp2
      go_ret
      exact ⟨rfl, HY.out⟩
theorem lawNumbers (m : MapV) (s : MapS) (l : List (Int × Int)) (A : Option Addr) (n c : Nat) (w : World) (h : MapAt w w.heap.size m s) (hl : Reads w w.heap.size 2 A n (stepsV l)) (hb8 : ∀ p ∈ l, (-128 ≤ p.1 ∧ p.1 ≤ 127) ∧ (-128 ≤ p.2 ∧ p.2 ≤ 127)) :
    Calls Try.prog 3 #[(.agg #[.int .i64 m.W, .int .i64 m.H, .slice s.A s.n s.c, .slice s.A2 s.n2 s.c2]), .slice A n c] w fun r w' => r = .returned (.bool true) ∧ Below w.heap.size w w' := by
  by_cases hf : s.n ≤ 200 ∧ s.n2 ≤ 200
  · by_cases hn : n ≤ 300
    · cases hok : cliOk m 1 with
      | true => exact lawNumbersYes m s l A n c w h hl hb8 hf hn hok
      | false => exact lawNumbersNone m s A n c w h hf hn hok
    · exact lawNumbersNo m s A n c w h (.inr (by omega))
  · exact lawNumbersNo m s A n c w h (.inl hf)
end Go.Proofs.Ytbjhdmknhimbjaa
