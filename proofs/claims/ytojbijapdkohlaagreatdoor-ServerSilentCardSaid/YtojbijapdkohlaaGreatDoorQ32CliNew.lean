/- Layer 22: what a client tells of itself. Its block: 0-3 map, 4 seed, 5 slot, 6-10 channel, 11 assembler, 12 receiver, 13-14 past, 15 number, 16 pending, 17 resync, 18 part, 19 lines. Layer 22: a client is made. -/
import Derived.Test.YtojbijapdkohlaaGreatDoorQ03SrvPut
import Derived.Deep.RegionLaw
import Derived.Deep.DeepCutAuto
set_option linter.unusedSimpArgs false
set_option linter.unusedVariables false
namespace Go.Proofs.YtojbijapdkohlaaGreatDoor
open Go.RowKit
theorem cliPending (b : Nat) (A : Option Addr) (n c : Nat) (w : World) (h0 : w.cell? ⟨b, 16, none⟩ = some (.slice A n c)) :
    Calls Tryz.prog 35 #[.pointer (some ⟨b, 0, none⟩)] w fun e w' => e = .returned (.int .i64 (n : Nat)) ∧ w = w' := by
  go_enter Tryz.func35, Tryz.ntmps35
  go_wp2
  go_ret
  exact ⟨rfl, rfl⟩
set_option maxRecDepth 100000 in
set_option maxHeartbeats 2000000 in
theorem cliAccepted (ts : List Int) (b : Nat) (A : Option Addr) (n c : Nat) (w : World) (h0 : w.cell? ⟨b, 13, none⟩ = some (.slice A n c)) (hr : Reads w w.heap.size 1 A n (intsV ts)) (hn : n ≤ 100000) :
    Calls Tryz.prog 34 #[.pointer (some ⟨b, 0, none⟩)] w fun e w' => e = .returned (.int .i64 (lastI ts)) ∧ Below w.heap.size w w' := by
  have hL := Lib.hid (ringLast ts b 13 A n c w h0 hr hn)
  clear hr
  go_enter Tryz.func34, Tryz.ntmps34
  go_wp2_with fail
  refine hL.out.mono ?_
  rintro e w1 ⟨rfl, hb1⟩
  go_wp2_with fail
  go_ret
  exact ⟨rfl, hb1⟩
def viewI (ts : List Int) : Int := heldI ts (wrap64 (lastI ts - 2))
set_option maxRecDepth 100000 in
set_option maxHeartbeats 2000000 in
theorem cliView (ts : List Int) (b : Nat) (A : Option Addr) (n c : Nat) (p : Int) (w : World) (h0 : w.cell? ⟨b, 13, none⟩ = some (.slice A n c)) (h1 : w.cell? ⟨b, 18, none⟩ = some (.int .u8 p)) (hr : Reads w w.heap.size 1 A n (intsV ts)) (hn : n ≤ 100000) :
    Calls Tryz.prog 73 #[.pointer (some ⟨b, 0, none⟩)] w fun e w' => e = .returned (.tuple #[.int .i64 (viewI ts), .int .u8 p]) ∧ Below w.heap.size w w' := by
  have hb := World.block_lt_of_cell? w _ h0
  have hb2 : b < w.heap.size := hb
  have HL := Lib.hid (fun W (hW : Below w.heap.size w W) => ringLast ts b 13 A n c W ((hW.cell (p := ⟨b, 13, none⟩) hb).trans h0) ((hr.below hW).upto hW.size) hn)
  have HH := Lib.hid (fun v W (hW : Below w.heap.size w W) => rewHeld ts v b 13 A n c W ((hW.cell (p := ⟨b, 13, none⟩) hb).trans h0) ((hr.below hW).upto hW.size) hn)
  clear hr h0
  unfold viewI
  go_enter Tryz.func73, Tryz.ntmps73
  go_wp2
  refine wp_region_kin' w.heap.size (by kernel_rfl) (by kernel_rfl) (fun kk => ?_)
  repeat (first
    | go_big_quiet_step ((first | (go_at_call 85; exact kin_of (Nat.le_refl _) (HL.out _ (Kin.below _))) | (go_at_call 143; exact kin_of (Nat.le_refl _) (HH.out _ _ (Kin.below _)))))
    | quiet_step ((first | (go_at_call 85; exact kin_of (Nat.le_refl _) (HL.out _ (Kin.below _))) | (go_at_call 143; exact kin_of (Nat.le_refl _) (HH.out _ _ (Kin.below _))))))
  refine wpQuiet_nil ?_
  rintro _ ⟨⟨wk, hwk⟩, rfl⟩
  go_wp2
  go_ret2
  exact ⟨rfl, hwk⟩
theorem recWants (b o : Nat) (x : Int) (w : World) (h0 : w.cell? ⟨b, o, none⟩ = some (.int .u32 x)) :
    Calls Tryz.prog 196 #[.pointer (some ⟨b, o, none⟩)] w fun e w' => e = .returned (.int .u32 ((x + 1) % 4294967296)) ∧ w = w' := by
  go_enter Tryz.func196, Tryz.ntmps196
  go_wp2
  go_ret
  exact ⟨by simp, rfl⟩
end Go.Proofs.YtojbijapdkohlaaGreatDoor
set_option linter.unusedSimpArgs false
set_option linter.unusedVariables false
namespace Go.Proofs.YtojbijapdkohlaaGreatDoor
open Go.RowKit
theorem Row.ne_blk' {w : World} {e t : TypeId} {size n c g : Nat} {A : Option Addr} {xs : List Value} {cs : Array Value} (h : Row w e size A n c xs) (hb : Blk w g t cs) (hne : e ≠ t) : ∀ q, blkOf A = some q → q ≠ g := by
  intro q hq
  rcases h.2.2.2 with ⟨h3, -⟩ | ⟨g', off, cur, h3, h4, -, -⟩
  · rw [h3] at hq; cases hq
  · rw [h3] at hq
    have : g' = q := by simpa [blkOf] using hq
    subst this
    exact Blk.ne_ (t := e) h4 hb hne
def cliOk (m : MapV) (slot : Int) : Bool := formedB m && decide (1 ≤ slot ∧ slot ≤ 8)
set_option maxRecDepth 100000 in
set_option maxHeartbeats 4000000 in
theorem cliNewNo (m : MapV) (s : MapS) (seed slot : Int) (w : World) (h : MapAt w w.heap.size m s) (hno : cliOk m slot = false) :
    Calls Tryz.prog 136 #[(.agg #[.int .i64 m.W, .int .i64 m.H, .slice s.A s.n s.c, .slice s.A2 s.n2 s.c2]), .int .u64 seed, .int .i64 slot] w fun r w' => r = .returned (.tuple #[.pointer none, .int .i64 1]) ∧ Below w.heap.size w w' := by
  have hF := fun W (hW : Below w.heap.size w W) => tFormed m s W ((h.below hW).upto hW.size)
  obtain ⟨f, hf⟩ : ∃ f, formedB m = f := ⟨_, rfl⟩
  simp only [hf] at hF
  have hk : f = false ∨ f = true ∧ slot < 1 ∨ f = true ∧ ¬ slot < 1 ∧ 8 < slot := by
    unfold cliOk at hno
    rw [hf] at hno
    cases f with
    | false => exact .inl rfl
    | true =>
      simp only [Bool.true_and, decide_eq_false_iff_not] at hno
      by_cases h1 : slot < 1
      · exact .inr (.inl ⟨rfl, h1⟩)
      · exact .inr (.inr ⟨rfl, h1, by omega⟩)
  have HF := Lib.hid hF
  clear h hno hf hF
  rcases hk with rfl | ⟨rfl, h1⟩ | ⟨rfl, h1, h2⟩
  · go_enter Tryz.func136, Tryz.ntmps136
    go_wp2_with (go_at_call 153; refine (HF.out _ (by repeat (first | with_reducible exact Below.refl _ _ | with_reducible assumption | with_reducible refine Below.drew ?_ | with_reducible refine below_drews ?_ _ | with_reducible refine Below.alloc ?_ (by first | omega | (simp; done) | (simp; omega)) _ | with_reducible refine Below.setCell ?_ (by first | omega | (simp; done) | (simp; omega)) _))).mono ?_; rintro e w1 ⟨rfl, hb1⟩; have B1 : Below w.heap.size w w1 := Below.trans (by repeat (first | with_reducible exact Below.refl _ _ | with_reducible assumption | with_reducible refine Below.drew ?_ | with_reducible refine below_drews ?_ _ | with_reducible refine Below.alloc ?_ (by first | omega | (simp; done) | (simp; omega)) _ | with_reducible refine Below.setCell ?_ (by first | omega | (simp; done) | (simp; omega)) _)) (hb1.mono (by simp)))
    go_ret2
    exact ⟨rfl, B1⟩
  · have d1 : decide (slot < 1) = true := decide_eq_true h1
    go_enter Tryz.func136, Tryz.ntmps136
    go_wp2_with (go_at_call 153; refine (HF.out _ (by repeat (first | with_reducible exact Below.refl _ _ | with_reducible assumption | with_reducible refine Below.drew ?_ | with_reducible refine below_drews ?_ _ | with_reducible refine Below.alloc ?_ (by first | omega | (simp; done) | (simp; omega)) _ | with_reducible refine Below.setCell ?_ (by first | omega | (simp; done) | (simp; omega)) _))).mono ?_; rintro e w1 ⟨rfl, hb1⟩; have B1 : Below w.heap.size w w1 := Below.trans (by repeat (first | with_reducible exact Below.refl _ _ | with_reducible assumption | with_reducible refine Below.drew ?_ | with_reducible refine below_drews ?_ _ | with_reducible refine Below.alloc ?_ (by first | omega | (simp; done) | (simp; omega)) _ | with_reducible refine Below.setCell ?_ (by first | omega | (simp; done) | (simp; omega)) _)) (hb1.mono (by simp)))
    go_ret2
    exact ⟨rfl, B1⟩
  · have d1 : decide (slot < 1) = false := decide_eq_false h1
    have d2 : decide (8 < slot) = true := decide_eq_true h2
    go_enter Tryz.func136, Tryz.ntmps136
    go_wp2_with (go_at_call 153; refine (HF.out _ (by repeat (first | with_reducible exact Below.refl _ _ | with_reducible assumption | with_reducible refine Below.drew ?_ | with_reducible refine below_drews ?_ _ | with_reducible refine Below.alloc ?_ (by first | omega | (simp; done) | (simp; omega)) _ | with_reducible refine Below.setCell ?_ (by first | omega | (simp; done) | (simp; omega)) _))).mono ?_; rintro e w1 ⟨rfl, hb1⟩; have B1 : Below w.heap.size w w1 := Below.trans (by repeat (first | with_reducible exact Below.refl _ _ | with_reducible assumption | with_reducible refine Below.drew ?_ | with_reducible refine below_drews ?_ _ | with_reducible refine Below.alloc ?_ (by first | omega | (simp; done) | (simp; omega)) _ | with_reducible refine Below.setCell ?_ (by first | omega | (simp; done) | (simp; omega)) _)) (hb1.mono (by simp)))
    go_ret2
    exact ⟨rfl, B1⟩
set_option maxRecDepth 100000 in
set_option maxHeartbeats 8000000 in
theorem cliNewYes (m : MapV) (s : MapS) (seed slot : Int) (w : World) (h : MapAt w w.heap.size m s) (hok : cliOk m slot = true) (hn : s.n ≤ 100000) (hn2 : s.n2 ≤ 100000) :
    Calls Tryz.prog 136 #[(.agg #[.int .i64 m.W, .int .i64 m.H, .slice s.A s.n s.c, .slice s.A2 s.n2 s.c2]), .int .u64 seed, .int .i64 slot] w fun r w' => ∃ (b : Nat) (s' : MapS), r = .returned (.tuple #[.pointer (some ⟨b, 0, none⟩), .int .i64 0]) ∧
      Blk w' b 182 #[.int .i64 m.W, .int .i64 m.H, .slice s'.A s'.n s'.c, .slice s'.A2 s'.n2 s'.c2, .int .u64 seed, .int .i64 slot, .int .u16 0, .bool false, .int .u16 0, .int .u32 0, .slice none 0 0, .slice none 0 0, .int .u32 0, .slice none 0 0, .map none, .int .u32 0, .slice none 0 0, .int .u32 0, .int .u8 0, .slice none 0 0] ∧
      MapAt w' b m s' ∧ w.heap.size ≤ b ∧ Below w.heap.size w w' := by
  have hF := fun W (hW : Below w.heap.size w W) => tFormed m s W ((h.below hW).upto hW.size)
  have hCB := fun W (hW : Below w.heap.size w W) => cloneB m.walls W s.A s.n s.c ((h.walls.below hW).upto hW.size) hn
  have hCV := fun W (hW : Below w.heap.size w W) => cloneV m.spawns W s.A2 s.n2 s.c2 ((h.spawns.below hW).upto hW.size) hn2
  unfold cliOk at hok
  simp only [Bool.and_eq_true, decide_eq_true_eq] at hok
  obtain ⟨hf, h1, h2⟩ := hok
  simp only [hf] at hF
  have d1 : decide (slot < 1) = false := decide_eq_false (by omega)
  have d2 : decide (8 < slot) = false := decide_eq_false (by omega)
  have HF := Lib.hid hF
  have HCB := Lib.hid hCB
  have HCV := Lib.hid hCV
  clear h hF hCB hCV hf
  go_enter Tryz.func136, Tryz.ntmps136
  go_wp2_with (go_at_call 153; refine (HF.out _ (by repeat (first | with_reducible exact Below.refl _ _ | with_reducible assumption | with_reducible refine Below.drew ?_ | with_reducible refine below_drews ?_ _ | with_reducible refine Below.alloc ?_ (by first | omega | (simp; done) | (simp; omega)) _ | with_reducible refine Below.setCell ?_ (by first | omega | (simp; done) | (simp; omega)) _))).mono ?_; rintro e w1 ⟨rfl, hb1⟩; have B1 : Below w.heap.size w w1 := Below.trans (by repeat (first | with_reducible exact Below.refl _ _ | with_reducible assumption | with_reducible refine Below.drew ?_ | with_reducible refine below_drews ?_ _ | with_reducible refine Below.alloc ?_ (by first | omega | (simp; done) | (simp; omega)) _ | with_reducible refine Below.setCell ?_ (by first | omega | (simp; done) | (simp; omega)) _)) (hb1.mono (by simp)); have x0 : w1.cell? ⟨w.heap.size, 0, none⟩ = some (.int .i64 m.W) := (hb1.cell (p := ⟨w.heap.size, 0, none⟩) (by simp)).trans (by simp [World.cell?_alloc_new]); have x1 : w1.cell? ⟨w.heap.size, 1, none⟩ = some (.int .i64 m.H) := (hb1.cell (p := ⟨w.heap.size, 1, none⟩) (by simp)).trans (by simp [World.cell?_alloc_new]); have mb : Blk w1 w.heap.size 25 #[.int .i64 m.W, .int .i64 m.H, .slice s.A s.n s.c, .slice s.A2 s.n2 s.c2] := Blk.below (Blk.new _ _ _) hb1 (by simp))
  have l1 := mb.lt
  have y2 : w1.cell? ⟨w.heap.size, 2, none⟩ = some (.slice s.A s.n s.c) := mb.cell 2
  have y3 : w1.cell? ⟨w.heap.size, 3, none⟩ = some (.slice s.A2 s.n2 s.c2) := mb.cell 3
  have f2 : w1.frozen? ⟨w.heap.size, 2, none⟩ = false := mb.frozen 2
  have f3 : w1.frozen? ⟨w.heap.size, 3, none⟩ = false := mb.frozen 3
  have MB := Lib.hid mb
  have HB1 := Lib.hid B1
  clear mb B1 hb1 x0 x1
  go_upto_region 3 with (fail)
  go_cut [] (fun wx => ∃ s' : MapS, Blk wx w.heap.size 25 #[.int .i64 m.W, .int .i64 m.H, .slice s'.A s'.n s'.c, .slice s'.A2 s'.n2 s'.c2] ∧ MapAt wx wx.heap.size m s' ∧ Below w.heap.size w wx)
  case first =>
    go_region_law (first
      | (go_simp; go_at_call 128; refine (HCB.out _ ?_).mono ?_; (have B1 := HB1.out; exact (by repeat (first | with_reducible exact Below.refl _ _ | with_reducible assumption | with_reducible refine Below.drew ?_ | with_reducible refine below_drews ?_ _ | with_reducible refine Below.alloc ?_ (by first | omega | (simp; done) | (simp; omega)) _ | with_reducible refine Below.setCell ?_ (by first | omega | (simp; done) | (simp; omega)) _))); rintro r wb ⟨Ab, cb, rfl, hrb, hfb, hbb⟩; obtain ⟨hcb, hzb⟩ := bcell hbb; have sb := hbb.size; have Bb : Below w.heap.size w wb := (by refine Below.trans ?_ (hbb.mono ?_) <;> first | exact Nat.le_of_lt l1 | exact Nat.le_of_lt lv | omega | (have B1 := HB1.out; exact (by repeat (first | with_reducible exact Below.refl _ _ | with_reducible assumption | with_reducible refine Below.drew ?_ | with_reducible refine below_drews ?_ _ | with_reducible refine Below.alloc ?_ (by first | omega | (simp; done) | (simp; omega)) _ | with_reducible refine Below.setCell ?_ (by first | omega | (simp; done) | (simp; omega)) _)))); have cb2 : wb.cell? ⟨w.heap.size, 2, none⟩ = some (.slice s.A s.n s.c) := (hcb w.heap.size 2 (by first | exact l1 | exact lv | (simp; omega))).trans (by first | exact y2 | exact cv2); have zb2 : wb.frozen? ⟨w.heap.size, 2, none⟩ = false := (hzb w.heap.size 2 (by first | exact l1 | exact lv | (simp; omega))).trans (by first | exact f2 | exact zv2); have cb3 : wb.cell? ⟨w.heap.size, 3, none⟩ = some (.slice s.A2 s.n2 s.c2) := (hcb w.heap.size 3 (by first | exact l1 | exact lv | (simp; omega))).trans (by first | exact y3 | exact cv3); have zb3 : wb.frozen? ⟨w.heap.size, 3, none⟩ = false := (hzb w.heap.size 3 (by first | exact l1 | exact lv | (simp; omega))).trans (by first | exact f3 | exact zv3); have lb : w.heap.size < wb.heap.size := (by first | (simp at sb; omega) | omega); clear hcb hzb)
      | (go_simp; go_at_call 129; refine (HCV.out _ ?_).mono ?_; (have B1 := HB1.out; exact (by repeat (first | with_reducible exact Below.refl _ _ | with_reducible assumption | with_reducible refine Below.drew ?_ | with_reducible refine below_drews ?_ _ | with_reducible refine Below.alloc ?_ (by first | omega | (simp; done) | (simp; omega)) _ | with_reducible refine Below.setCell ?_ (by first | omega | (simp; done) | (simp; omega)) _))); rintro r wv ⟨Av, cv, rfl, hrv, hfv, hbv⟩; obtain ⟨hcv, hzv⟩ := bcell hbv; have sv := hbv.size; have Bv : Below w.heap.size w wv := (by refine Below.trans ?_ (hbv.mono ?_) <;> first | exact Nat.le_of_lt l1 | exact Nat.le_of_lt lb | omega | (have B1 := HB1.out; exact (by repeat (first | with_reducible exact Below.refl _ _ | with_reducible assumption | with_reducible refine Below.drew ?_ | with_reducible refine below_drews ?_ _ | with_reducible refine Below.alloc ?_ (by first | omega | (simp; done) | (simp; omega)) _ | with_reducible refine Below.setCell ?_ (by first | omega | (simp; done) | (simp; omega)) _)))); have cv2 : wv.cell? ⟨w.heap.size, 2, none⟩ = some (.slice s.A s.n s.c) := (hcv w.heap.size 2 (by first | exact l1 | exact lb | (simp; omega))).trans (by first | exact y2 | exact cb2); have zv2 : wv.frozen? ⟨w.heap.size, 2, none⟩ = false := (hzv w.heap.size 2 (by first | exact l1 | exact lb | (simp; omega))).trans (by first | exact f2 | exact zb2); have cv3 : wv.cell? ⟨w.heap.size, 3, none⟩ = some (.slice s.A2 s.n2 s.c2) := (hcv w.heap.size 3 (by first | exact l1 | exact lb | (simp; omega))).trans (by first | exact y3 | exact cb3); have zv3 : wv.frozen? ⟨w.heap.size, 3, none⟩ = false := (hzv w.heap.size 3 (by first | exact l1 | exact lb | (simp; omega))).trans (by first | exact f3 | exact zb3); have lv : w.heap.size < wv.heap.size := (by first | (simp at sv; omega) | omega); clear hcv hzv))
    all_goals go_wp2_with fail
    all_goals go_meet
    all_goals first
      | (have rb : Row wv 4 1 Ab s.n cb (boolsV m.walls) := hrb.keep (fun g hg => hbv.block g (hrb.lt hg))
         have rv : Row wv 53 2 Av s.n2 cv (vecsV m.spawns) := hrv
         have mbb : Blk wb w.heap.size 25 #[.int .i64 m.W, .int .i64 m.H, .slice s.A s.n s.c, .slice s.A2 s.n2 s.c2] := Blk.below MB.out.drew hbb l1
         have mbv : Blk wv w.heap.size 25 #[.int .i64 m.W, .int .i64 m.H, .slice s.A s.n s.c, .slice s.A2 s.n2 s.c2] := Blk.below mbb hbv lb
         have e0 : Blk ((wv.setCell ⟨w.heap.size, 2, none⟩ (.slice Ab s.n cb)).setCell ⟨w.heap.size, 3, none⟩ (.slice Av s.n2 cv)) w.heap.size 25 #[.int .i64 m.W, .int .i64 m.H, .slice Ab s.n cb, .slice Av s.n2 cv] := (mbv.set_ 2 _).set_ 3 _
         have k1 : ∀ g, blkOf Ab = some g → g ≠ w.heap.size := rb.ne_blk' mbv (by decide)
         have k2 : ∀ g, blkOf Av = some g → g ≠ w.heap.size := rv.ne_blk' mbv (by decide)
         have e1 := rb.keep (w' := ((wv.setCell ⟨w.heap.size, 2, none⟩ (.slice Ab s.n cb)).setCell ⟨w.heap.size, 3, none⟩ (.slice Av s.n2 cv))) (fun g hg => (Below.heap_setCell _ _ _ g (k1 g hg)).trans (Below.heap_setCell _ _ _ g (k1 g hg)))
         have e2 := rv.keep (w' := ((wv.setCell ⟨w.heap.size, 2, none⟩ (.slice Ab s.n cb)).setCell ⟨w.heap.size, 3, none⟩ (.slice Av s.n2 cv))) (fun g hg => (Below.heap_setCell _ _ _ g (k2 g hg)).trans (Below.heap_setCell _ _ _ g (k2 g hg)))
         exact ⟨⟨Ab, s.n, cb, Av, s.n2, cv⟩, e0, ⟨e1.reads (by decide), e2.reads (by decide), e1.2.1, by have := e1.2.2.1; unfold maxLen at this; exact this, Nat.le_trans hn2 (by decide)⟩, (Bv.setCell (Nat.le_refl _) _).setCell (Nat.le_refl _) _⟩)
      | (have rb : Row wb 4 1 Ab s.n cb (boolsV m.walls) := hrb
         have rv : Row wb 53 2 Av s.n2 cv (vecsV m.spawns) := hrv.keep (fun g hg => hbb.block g (hrv.lt hg))
         have mbb : Blk wv w.heap.size 25 #[.int .i64 m.W, .int .i64 m.H, .slice s.A s.n s.c, .slice s.A2 s.n2 s.c2] := Blk.below MB.out.drew hbv l1
         have mbv : Blk wb w.heap.size 25 #[.int .i64 m.W, .int .i64 m.H, .slice s.A s.n s.c, .slice s.A2 s.n2 s.c2] := Blk.below mbb hbb lv
         have e0 : Blk ((wb.setCell ⟨w.heap.size, 2, none⟩ (.slice Ab s.n cb)).setCell ⟨w.heap.size, 3, none⟩ (.slice Av s.n2 cv)) w.heap.size 25 #[.int .i64 m.W, .int .i64 m.H, .slice Ab s.n cb, .slice Av s.n2 cv] := (mbv.set_ 2 _).set_ 3 _
         have k1 : ∀ g, blkOf Ab = some g → g ≠ w.heap.size := rb.ne_blk' mbv (by decide)
         have k2 : ∀ g, blkOf Av = some g → g ≠ w.heap.size := rv.ne_blk' mbv (by decide)
         have e1 := rb.keep (w' := ((wb.setCell ⟨w.heap.size, 2, none⟩ (.slice Ab s.n cb)).setCell ⟨w.heap.size, 3, none⟩ (.slice Av s.n2 cv))) (fun g hg => (Below.heap_setCell _ _ _ g (k1 g hg)).trans (Below.heap_setCell _ _ _ g (k1 g hg)))
         have e2 := rv.keep (w' := ((wb.setCell ⟨w.heap.size, 2, none⟩ (.slice Ab s.n cb)).setCell ⟨w.heap.size, 3, none⟩ (.slice Av s.n2 cv))) (fun g hg => (Below.heap_setCell _ _ _ g (k2 g hg)).trans (Below.heap_setCell _ _ _ g (k2 g hg)))
         exact ⟨⟨Ab, s.n, cb, Av, s.n2, cv⟩, e0, ⟨e1.reads (by decide), e2.reads (by decide), e1.2.1, by have := e1.2.2.1; unfold maxLen at this; exact this, Nat.le_trans hn2 (by decide)⟩, (Bb.setCell (Nat.le_refl _) _).setCell (Nat.le_refl _) _⟩)
  case rest =>
    obtain ⟨s', hb, hm, hbl⟩ := hcut
    have z0 := hb.cell 0
    have z1 := hb.cell 1
    have z2 := hb.cell 2
    have z3 := hb.cell 3
    simp only [List.getElem?_toArray, List.getElem?_cons_zero, List.getElem?_cons_succ] at z0 z1 z2 z3
    have HM := Lib.hid hm
    have HBL := Lib.hid hbl
    clear hb hm hbl y2 y3 f2 f3
    go_wp2
    go_ret2
    exact ⟨wc.heap.size, s', rfl, Blk.new _ _ _, HM.out.below ((Below.refl _ _).alloc (Nat.le_refl _) _), HBL.out.size, HBL.out.alloc HBL.out.size _⟩
end Go.Proofs.YtojbijapdkohlaaGreatDoor
