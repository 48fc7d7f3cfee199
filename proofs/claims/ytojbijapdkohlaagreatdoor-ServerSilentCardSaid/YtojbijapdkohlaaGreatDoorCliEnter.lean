/- Layer 22: a command is entered. (Printed by gen_enter.py.) -/
import Derived.Test.YtojbijapdkohlaaGreatDoorQ32CliNew
import Derived.Test.YtojbijapdkohlaaGreatDoorCmdRow
import Derived.Deep.DeepCutAuto
set_option linter.unusedSimpArgs false
set_option linter.unusedVariables false
namespace Go.Proofs.YtojbijapdkohlaaGreatDoor
open Go.RowKit
theorem cliEnterNo (v0 v1 v2 v3 v4 v5 v6 v7 v8 v9 v10 v11 v12 v14 v19 : Value) (b : Nat) (tA : Option Addr) (tn tc : Nat) (num rs part mx my : Int) (fire : Bool) (pA : Option Addr) (pn pc : Nat) (w : World) (hb : Blk w b 182 #[v0, v1, v2, v3, v4, v5, v6, v7, v8, v9, v10, v11, v12, .slice tA tn tc, v14, .int .u32 num, .slice pA pn pc, .int .u32 rs, .int .u8 part, v19]) (hno : mx = -128 ∨ my = -128) :
    Calls Tryz.prog 137 #[.pointer (some ⟨b, 0, none⟩), .int .i8 mx, .int .i8 my, .bool fire] w fun e w' => e = .returned (.int .u32 0) ∧ w = w' := by
  have d : (mx == -128) = true ∨ (mx == -128) = false ∧ (my == -128) = true := by
    rcases hno with h | h
    · exact .inl (by rw [h]; rfl)
    · by_cases h2 : mx = -128
      · exact .inl (by rw [h2]; rfl)
      · exact .inr ⟨beq_eq_false_iff_ne.2 h2, by rw [h]; rfl⟩
  clear hb hno
  rcases d with d1 | ⟨d1, d2⟩
  all_goals
    go_enter Tryz.func137, Tryz.ntmps137
    go_wp2
    go_ret
    exact ⟨rfl, rfl⟩
theorem Below.chg0 {w w' : World} (h : Below w.heap.size w w') : Chg (fun _ => False) w w' := ⟨h.os, h.tape, h.output, h.size, fun g hg _ => h.block g hg⟩
set_option maxRecDepth 100000 in
theorem eltC : Elt Tryz.prog 99 121 6 16 := Elt.mk' Tryz.underlying99 (.agg #[.int .u32 0, .int .i8 0, .int .i8 0, .bool false, .int .u32 0, .int .u8 0]) (by kernel_rfl) rfl (by decide) (by decide)
theorem cmdsV_snoc (l : List CmdV) (c : CmdV) : cmdsV (l ++ [c]) = cmdsV l ++ cmdCells c := by simp [cmdsV]
def viewU (ts : List Int) (fire : Bool) : Int := if fire then max (viewI ts) 0 else 0
def newCmd (ts : List Int) (num : Nat) (mx my : Int) (fire : Bool) (part : Int) : CmdV := ⟨(num : Int) + 1, mx, my, fire, viewU ts fire, if fire then part else 0⟩
/-- What a command that is entered makes of a client. -/
def EnterRet (v0 v1 v2 v3 v4 v5 v6 v7 v8 v9 v10 v11 v12 v14 v19 : Value) (ts : List Int) (b num : Nat) (tA : Option Addr) (tn tc : Nat) (rs part mx my : Int) (fire : Bool) (pl : List CmdV) (pA : Option Addr) (w : World) (e : Ending) (w' : World) : Prop :=
  e = .returned (.int .u32 ((num : Int) + 1)) ∧ ∃ (A' : Option Addr) (c' : Nat) (rs' : Int) (pl' : List CmdV), Blk w' b 182 #[v0, v1, v2, v3, v4, v5, v6, v7, v8, v9, v10, v11, v12, .slice tA tn tc, v14, .int .u32 ((num : Int) + 1), .slice A' pl'.length c', .int .u32 rs', .int .u8 part, v19] ∧ Row w' 121 6 A' pl'.length c' (cmdsV pl') ∧
    (pl.length < 128 ∧ pl' = pl ++ [newCmd ts num mx my fire part] ∧ rs' = rs ∨ pl.length = 128 ∧ pl' = [newCmd ts num mx my fire part] ∧ rs' = (num : Int) + 1) ∧ (∀ q, blkOf A' = some q → blkOf pA = some q ∨ w.heap.size ≤ q) ∧ Chg (fun q => q = b ∨ blkOf pA = some q) w w'
set_option maxRecDepth 100000 in
set_option maxHeartbeats 8000000 in
theorem cliEnter (v0 v1 v2 v3 v4 v5 v6 v7 v8 v9 v10 v11 v12 v14 v19 : Value) (ts : List Int) (b num : Nat) (tA : Option Addr) (tn tc : Nat) (rs part mx my : Int) (fire : Bool) (pl : List CmdV) (pA : Option Addr) (pc : Nat) (w : World) (hb : Blk w b 182 #[v0, v1, v2, v3, v4, v5, v6, v7, v8, v9, v10, v11, v12, .slice tA tn tc, v14, .int .u32 (num : Nat), .slice pA pl.length pc, .int .u32 rs, .int .u8 part, v19])
    (hr : Row w 3 1 tA tn tc (intsV ts)) (hp : Row w 121 6 pA pl.length pc (cmdsV pl)) (hmx : mx ≠ -128) (hmy : my ≠ -128) (hnum : num < 2147483648) (hpl : pl.length ≤ 128) (htn : tn ≤ 1000) (hv : viewI ts ≤ 4294967295) :
    Calls Tryz.prog 137 #[.pointer (some ⟨b, 0, none⟩), .int .i8 mx, .int .i8 my, .bool fire] w (EnterRet v0 v1 v2 v3 v4 v5 v6 v7 v8 v9 v10 v11 v12 v14 v19 ts b num tA tn tc rs part mx my fire pl pA w) := by
  have d1 : (mx == -128) = false := beq_eq_false_iff_ne.2 hmx
  have d2 : (my == -128) = false := beq_eq_false_iff_ne.2 hmy
  have d3 : ((num : Int) == 2147483648) = false := beq_eq_false_iff_ne.2 (by omega)
  have lb := hb.lt
  have z13 : w.cell? ⟨b, 13, none⟩ = some (.slice tA tn tc) := hb.cell 13
  have z15 : w.cell? ⟨b, 15, none⟩ = some (.int .u32 (num : Nat)) := hb.cell 15
  have z16 : w.cell? ⟨b, 16, none⟩ = some (.slice pA pl.length pc) := hb.cell 16
  have z17 : w.cell? ⟨b, 17, none⟩ = some (.int .u32 rs) := hb.cell 17
  have z18 : w.cell? ⟨b, 18, none⟩ = some (.int .u8 part) := hb.cell 18
  have f15 : w.frozen? ⟨b, 15, none⟩ = false := hb.frozen 15
  have f16 : w.frozen? ⟨b, 16, none⟩ = false := hb.frozen 16
  have f17 : w.frozen? ⟨b, 17, none⟩ = false := hb.frozen 17
  have HB := Lib.hid hb
  have HR := Lib.hid hr
  have HP := Lib.hid hp
  clear hb hr hp hmx hmy
  go_enter Tryz.func137, Tryz.ntmps137
  go_upto_if 44 with (fail)
  have k1 := HR.out.ne_blk' HB.out (by decide)
  have k2 := HP.out.ne_blk' HB.out (by decide)
  have e0 : Blk ((w.setCell ⟨b, 15, none⟩ (.int .u32 ((num : Int) + 1))).alloc (.cells #[.int .u32 ((num : Int) + 1), .int .i8 mx, .int .i8 my, .bool fire, .int .u32 0, .int .u8 0] 121)) b 182 #[v0, v1, v2, v3, v4, v5, v6, v7, v8, v9, v10, v11, v12, .slice tA tn tc, v14, .int .u32 ((num : Int) + 1), .slice pA pl.length pc, .int .u32 rs, .int .u8 part, v19] := (HB.out.set_ 15 _).alloc _
  have e1 : Blk ((w.setCell ⟨b, 15, none⟩ (.int .u32 ((num : Int) + 1))).alloc (.cells #[.int .u32 ((num : Int) + 1), .int .i8 mx, .int .i8 my, .bool fire, .int .u32 0, .int .u8 0] 121)) w.heap.size 121 #[.int .u32 ((num : Int) + 1), .int .i8 mx, .int .i8 my, .bool fire, .int .u32 0, .int .u8 0] := by have := Blk.new (w.setCell ⟨b, 15, none⟩ (.int .u32 ((num : Int) + 1))) 121 #[.int .u32 ((num : Int) + 1), .int .i8 mx, .int .i8 my, .bool fire, .int .u32 0, .int .u8 0]; simpa using this
  have e2 : Row ((w.setCell ⟨b, 15, none⟩ (.int .u32 ((num : Int) + 1))).alloc (.cells #[.int .u32 ((num : Int) + 1), .int .i8 mx, .int .i8 my, .bool fire, .int .u32 0, .int .u8 0] 121)) 3 1 tA tn tc (intsV ts) := (HR.out.keep (fun q hq => Below.heap_setCell _ _ _ q (k1 q hq))).keep (fun q hq => Below.heap_alloc _ _ _ (by have := HR.out.lt hq; simpa using this))
  have e3 : Row ((w.setCell ⟨b, 15, none⟩ (.int .u32 ((num : Int) + 1))).alloc (.cells #[.int .u32 ((num : Int) + 1), .int .i8 mx, .int .i8 my, .bool fire, .int .u32 0, .int .u8 0] 121)) 121 6 pA pl.length pc (cmdsV pl) := (HP.out.keep (fun q hq => Below.heap_setCell _ _ _ q (k2 q hq))).keep (fun q hq => Below.heap_alloc _ _ _ (by have := HP.out.lt hq; simpa using this))
  have e4 : Chg (fun q => q = b) w ((w.setCell ⟨b, 15, none⟩ (.int .u32 ((num : Int) + 1))).alloc (.cells #[.int .u32 ((num : Int) + 1), .int .i8 mx, .int .i8 my, .bool fire, .int .u32 0, .int .u8 0] 121)) := Chg.alloc (Chg.setCell (F := fun q => q = b) (Chg.refl (w := w)) (p := ⟨b, 15, none⟩) (.inl rfl) _) _
  have k3 : ∀ q, blkOf pA = some q → q < w.heap.size := fun q hq => HP.out.lt hq
  generalize ((w.setCell ⟨b, 15, none⟩ (.int .u32 ((num : Int) + 1))).alloc (.cells #[.int .u32 ((num : Int) + 1), .int .i8 mx, .int .i8 my, .bool fire, .int .u32 0, .int .u8 0] 121)) = W1 at e0 e1 e2 e3 e4 ⊢
  have HE0 := Lib.hid e0
  have HE1 := Lib.hid e1
  have HE2 := Lib.hid e2
  have HE3 := Lib.hid e3
  have HE4 := Lib.hid e4
  have HK3 := Lib.hid k3
  have m0 := e0.lt
  have m1 := e1.lt
  clear e0 e1 e2 e3 e4 k1 k2 k3 z13 z15 z16 z17 z18 f15 f16 f17
  go_cut [] (fun wx => Blk wx b 182 #[v0, v1, v2, v3, v4, v5, v6, v7, v8, v9, v10, v11, v12, .slice tA tn tc, v14, .int .u32 ((num : Int) + 1), .slice pA pl.length pc, .int .u32 rs, .int .u8 part, v19] ∧ Blk wx w.heap.size 121 #[.int .u32 ((num : Int) + 1), .int .i8 mx, .int .i8 my, .bool fire, .int .u32 (viewU ts fire), .int .u8 (if fire then part else 0)] ∧ Row wx 121 6 pA pl.length pc (cmdsV pl) ∧ Chg (fun q => q = b) w wx)
  case first =>
    cases fire with
    | false =>
      go_wp2_with fail
      go_meet
      exact ⟨HE0.out, HE1.out, HE3.out, HE4.out⟩
    | true =>
      have z13 : W1.cell? ⟨b, 13, none⟩ = some (.slice tA tn tc) := HE0.out.cell 13
      have z18 : W1.cell? ⟨b, 18, none⟩ = some (.int .u8 part) := HE0.out.cell 18
      have HVW := Lib.hid (cliView ts b tA tn tc part W1 z13 z18 (HE2.out.reads (by decide)) (by omega))
      go_wp2_with fail
      refine HVW.out.mono ?_
      rintro e w2 ⟨rfl, hb2⟩
      have y0 := HE0.out.below hb2 m0
      have y1 := HE1.out.below hb2 m1
      have y3 := HE3.out.keep (fun q hq => hb2.block q (HE3.out.lt hq))
      have y4 : Chg (fun q => q = b) w w2 := HE4.out.below hb2 HE4.out.size
      have x4 := y1.cell 4
      have x5 := y1.cell 5
      have g4 := y1.frozen 4
      have g5 := y1.frozen 5
      simp only [List.getElem?_toArray, List.getElem?_cons_zero, List.getElem?_cons_succ] at x4 x5
      have Y0 := Lib.hid y0
      have Y1 := Lib.hid y1
      have Y3 := Lib.hid y3
      have Y4 := Lib.hid y4
      clear y0 y1 y3 y4 hb2 z13 z18
      obtain ⟨m, hm⟩ : ∃ m, max (viewI ts) 0 = m := ⟨_, rfl⟩
      have HVU := Lib.hid (show viewU ts true = m from hm)
      clear HVW
      generalize viewI ts = vw at hv hm ⊢
      have q1 : (if vw < 0 then 0 else vw) = m := by rw [← hm]; split <;> omega
      have q2 : (if (0 : Int) < vw then vw else 0) = m := by rw [← hm]; split <;> omega
      have q3 : 0 ≤ m := by omega
      have q4 : m ≤ 4294967295 := by omega
      clear hm
      go_wp2_with fail
      go_meet
      have bne : b ≠ w.heap.size := by omega
      have u0 : Blk ((w2.setCell ⟨w.heap.size, 4, none⟩ (.int .u32 m)).setCell ⟨w.heap.size, 5, none⟩ (.int .u8 part)) b 182 #[v0, v1, v2, v3, v4, v5, v6, v7, v8, v9, v10, v11, v12, .slice tA tn tc, v14, .int .u32 ((num : Int) + 1), .slice pA pl.length pc, .int .u32 rs, .int .u8 part, v19] := Blk.far (p := ⟨w.heap.size, 5, none⟩) (Blk.far (p := ⟨w.heap.size, 4, none⟩) Y0.out bne _) bne _
      have u1 : Blk ((w2.setCell ⟨w.heap.size, 4, none⟩ (.int .u32 m)).setCell ⟨w.heap.size, 5, none⟩ (.int .u8 part)) w.heap.size 121 #[.int .u32 ((num : Int) + 1), .int .i8 mx, .int .i8 my, .bool true, .int .u32 m, .int .u8 part] := (Y1.out.set_ 4 _).set_ 5 _
      have u3 : Row ((w2.setCell ⟨w.heap.size, 4, none⟩ (.int .u32 m)).setCell ⟨w.heap.size, 5, none⟩ (.int .u8 part)) 121 6 pA pl.length pc (cmdsV pl) := Y3.out.keep (fun q hq => (Below.heap_setCell _ _ _ q (by have := HK3.out q hq; show q ≠ w.heap.size; omega)).trans (Below.heap_setCell _ _ _ q (by have := HK3.out q hq; show q ≠ w.heap.size; omega)))
      have u4 : Chg (fun q => q = b) w ((w2.setCell ⟨w.heap.size, 4, none⟩ (.int .u32 m)).setCell ⟨w.heap.size, 5, none⟩ (.int .u8 part)) := Chg.setCell (Chg.setCell Y4.out (p := ⟨w.heap.size, 4, none⟩) (.inr (Nat.le_refl _)) _) (p := ⟨w.heap.size, 5, none⟩) (.inr (Nat.le_refl _)) _
      refine ⟨u0, ?_, u3, u4⟩
      rw [HVU.out]
      simpa using u1
  case rest =>
    obtain ⟨c0, c1, c2, c3⟩ := hcut
    have p16 : wc.cell? ⟨b, 16, none⟩ = some (.slice pA pl.length pc) := c0.cell 16
    have p15 : wc.cell? ⟨b, 15, none⟩ = some (.int .u32 ((num : Int) + 1)) := c0.cell 15
    have g16 : wc.frozen? ⟨b, 16, none⟩ = false := c0.frozen 16
    have x0 := c1.cell 0
    have x1 := c1.cell 1
    have x2 := c1.cell 2
    have x3 := c1.cell 3
    have x4 := c1.cell 4
    have x5 := c1.cell 5
    simp only [List.getElem?_toArray, List.getElem?_cons_zero, List.getElem?_cons_succ] at x0 x1 x2 x3 x4 x5
    have n0 := c0.lt
    have n1 := c1.lt
    have C0 := Lib.hid c0
    have C1' := Lib.hid c1
    have C2 := Lib.hid c2
    have C3 := Lib.hid c3
    clear c0 c1 c2 c3 HE0 HE1 HE2 HE3 HE4
    go_upto_region 8 with (fail)
    go_cut [] (fun wx => ∃ (A' : Option Addr) (c' n2 : Nat), n2 = pl.length + 1 ∧ Blk wx b 182 #[v0, v1, v2, v3, v4, v5, v6, v7, v8, v9, v10, v11, v12, .slice tA tn tc, v14, .int .u32 ((num : Int) + 1), .slice A' n2 c', .int .u32 rs, .int .u8 part, v19] ∧ Blk wx w.heap.size 121 #[.int .u32 ((num : Int) + 1), .int .i8 mx, .int .i8 my, .bool fire, .int .u32 (viewU ts fire), .int .u8 (if fire then part else 0)] ∧ Row wx 121 6 A' n2 c' (cmdsV (pl ++ [newCmd ts num mx my fire part])) ∧ (∀ q, blkOf A' = some q → blkOf pA = some q ∨ w.heap.size ≤ q) ∧ Chg (fun q => q = b ∨ blkOf pA = some q) w wx)
    case first =>
      obtain ⟨fr, hfr⟩ : ∃ fr, (if fire then part else 0) = fr := ⟨_, rfl⟩
      obtain ⟨vu, hvu⟩ : ∃ vu, viewU ts fire = vu := ⟨_, rfl⟩
      have C1' := C1'.out
      rw [hfr, hvu] at C1'
      have C1' := Lib.hid C1'
      rw [hfr] at x5
      rw [hvu] at x4
      have HFR := Lib.hid hfr
      have HVU := Lib.hid hvu
      clear hfr hvu
      go_region_law (refine step_row rfl (.tmp 60) (.tmp 62) rfl eltC pA pl.length pc (cmdsV pl) (by simp [Act.eval, Act.put]) (C2.out.keep (fun q hq => Below.heap_alloc _ (.cells #[.int .u32 ((num : Int) + 1), .int .i8 mx, .int .i8 my, .bool fire, .int .u32 vu, .int .u8 fr] 121) q (C2.out.lt hq))) (wc.heap.size + 1) (some ⟨wc.heap.size, 0, none⟩) 1 1 [.int .u32 ((num : Int) + 1), .int .i8 mx, .int .i8 my, .bool fire, .int .u32 vu, .int .u8 fr] (by simp [Act.eval, Act.put]) (Reads.blk (size := 6) (n := 1) (g := wc.heap.size) (heap_alloc_new wc (.cells #[.int .u32 ((num : Int) + 1), .int .i8 mx, .int .i8 my, .bool fire, .int .u32 vu, .int .u8 fr] 121)) (by omega) rfl) (by simp [Value.oneCell']) (by omega) ?_; intro A3 c3' w3 hr3 hg3 hb3; have mb3 := (C0.out.alloc (.cells #[.int .u32 ((num : Int) + 1), .int .i8 mx, .int .i8 my, .bool fire, .int .u32 vu, .int .u8 fr] 121)).drew.grown hg3 (fun e => C2.out.ne_blk' C0.out (by decide) b e.symm rfl); have s16 : w3.cell? ⟨b, 16, none⟩ = some (.slice pA pl.length pc) := mb3.cell 16; have t16 : w3.frozen? ⟨b, 16, none⟩ = false := mb3.frozen 16)
      all_goals go_wp2_with fail
      all_goals go_meet
      all_goals
        have bne : b ≠ w.heap.size := by omega
        have u1 := (C1'.out.alloc (.cells #[.int .u32 ((num : Int) + 1), .int .i8 mx, .int .i8 my, .bool fire, .int .u32 vu, .int .u8 fr] 121)).drew.grown hg3 (fun e => by have := HK3.out _ e.symm; omega)
        have k3 := hr3.ne_blk' mb3 (by decide)
        have vv0 : Blk (w3.setCell ⟨b, 16, none⟩ (.slice A3 (pl.length + 1) c3')) b 182 #[v0, v1, v2, v3, v4, v5, v6, v7, v8, v9, v10, v11, v12, .slice tA tn tc, v14, .int .u32 ((num : Int) + 1), .slice A3 (pl.length + 1) c3', .int .u32 rs, .int .u8 part, v19] := mb3.set_ 16 _
        have vv1 : Blk (w3.setCell ⟨b, 16, none⟩ (.slice A3 (pl.length + 1) c3')) w.heap.size 121 #[.int .u32 ((num : Int) + 1), .int .i8 mx, .int .i8 my, .bool fire, .int .u32 vu, .int .u8 fr] := u1.far (p := ⟨b, 16, none⟩) (Ne.symm bne) _
        have vv2 : Row (w3.setCell ⟨b, 16, none⟩ (.slice A3 (pl.length + 1) c3')) 121 6 A3 (pl.length + 1) c3' (cmdsV (pl ++ [newCmd ts num mx my fire part])) := by
          have := hr3.keep (w' := w3.setCell ⟨b, 16, none⟩ (.slice A3 (pl.length + 1) c3')) (fun q hq => Below.heap_setCell _ _ _ q (k3 q hq))
          rw [cmdsV_snoc]
          simpa [cmdCells, newCmd, HFR.out, HVU.out] using this
        have vv3 : ∀ q, blkOf A3 = some q → blkOf pA = some q ∨ w.heap.size ≤ q := by
          intro q hq
          rcases hb3 with h | h
          · exact .inl (h.symm.trans hq)
          · rw [h] at hq
            have := C3.out.size
            simp at hq
            exact .inr (by omega)
        have vv4 : Chg (fun q => q = b ∨ blkOf pA = some q) w (w3.setCell ⟨b, 16, none⟩ (.slice A3 (pl.length + 1) c3')) := Chg.setCell (Chg.grown (Chg.drewN (Chg.alloc (C3.out.mono fun q hq => .inl hq) _) 1) hg3 (fun k hk => .inl (.inr hk))) (p := ⟨b, 16, none⟩) (.inl (.inl rfl)) _
        exact ⟨A3, c3', pl.length + 1, rfl, vv0, by rw [HFR.out, HVU.out]; exact vv1, vv2, vv3, vv4⟩
    case rest =>
      clear p16 p15 g16 x0 x1 x2 x3 x4 x5
      obtain ⟨A2, c2', n2, hn2, d0, d1, d2, d3, d4⟩ := hcut
      have p16 : wc.cell? ⟨b, 16, none⟩ = some (.slice A2 n2 c2') := d0.cell 16
      have p15 : wc.cell? ⟨b, 15, none⟩ = some (.int .u32 ((num : Int) + 1)) := d0.cell 15
      have n0 := d0.lt
      have n1 := d1.lt
      have D0 := Lib.hid d0
      have D1 := Lib.hid d1
      have D2 := Lib.hid d2
      have D3 := Lib.hid d3
      have D4 := Lib.hid d4
      have HN2 := Lib.hid hn2
      clear C0 C1' C2 C3 d2 d3 d4
      by_cases h128 : 128 < n2
      · have t1 : decide ((128 : Int) < (n2 : Int)) = true := decide_eq_true (by omega)
        have t1n : decide (128 < n2) = true := decide_eq_true h128
        have x0 := d1.cell 0
        have x1 := d1.cell 1
        have x2 := d1.cell 2
        have x3 := d1.cell 3
        have x4 := d1.cell 4
        have x5 := d1.cell 5
        simp only [List.getElem?_toArray, List.getElem?_cons_zero, List.getElem?_cons_succ] at x0 x1 x2 x3 x4 x5
        have f16 : wc.frozen? ⟨b, 16, none⟩ = false := d0.frozen 16
        have f17 : wc.frozen? ⟨b, 17, none⟩ = false := d0.frozen 17
        have y17 : wc.cell? ⟨b, 17, none⟩ = some (.int .u32 rs) := d0.cell 17
        clear hn2 d0 d1
        obtain ⟨fr, hfr⟩ : ∃ fr, (if fire then part else 0) = fr := ⟨_, rfl⟩
        obtain ⟨vu, hvu⟩ : ∃ vu, viewU ts fire = vu := ⟨_, rfl⟩
        rw [hfr] at x5
        rw [hvu] at x4
        have HFR := Lib.hid hfr
        have HVU := Lib.hid hvu
        clear hfr hvu
        go_upto_region 10 with (fail)
        go_cut [] (fun wx => Blk wx b 182 #[v0, v1, v2, v3, v4, v5, v6, v7, v8, v9, v10, v11, v12, .slice tA tn tc, v14, .int .u32 ((num : Int) + 1), .slice (some ⟨wc.heap.size, 0, none⟩) 1 1, .int .u32 ((num : Int) + 1), .int .u8 part, v19] ∧ Row wx 121 6 (some ⟨wc.heap.size, 0, none⟩) 1 1 (cmdsV [newCmd ts num mx my fire part]) ∧ Chg (fun q => q = b ∨ blkOf pA = some q) w wx)
        case first =>
          go_region_law (fail)
          all_goals go_wp2_with fail
          all_goals go_meet
          all_goals
            have u0 : Blk ((((wc.setCell ⟨b, 16, none⟩ (.slice (some ⟨wc.heap.size, 0, none⟩) 1 1)).setCell ⟨b, 17, none⟩ (.int .u32 ((num : Int) + 1)))).alloc (.cells #[.int .u32 ((num : Int) + 1), .int .i8 mx, .int .i8 my, .bool fire, .int .u32 vu, .int .u8 fr] 121)) b 182 #[v0, v1, v2, v3, v4, v5, v6, v7, v8, v9, v10, v11, v12, .slice tA tn tc, v14, .int .u32 ((num : Int) + 1), .slice (some ⟨wc.heap.size, 0, none⟩) 1 1, .int .u32 ((num : Int) + 1), .int .u8 part, v19] := by
              have := ((D0.out.set_ 16 (.slice (some ⟨wc.heap.size, 0, none⟩) 1 1)).set_ 17 (.int .u32 ((num : Int) + 1))).alloc (.cells #[.int .u32 ((num : Int) + 1), .int .i8 mx, .int .i8 my, .bool fire, .int .u32 vu, .int .u8 fr] 121)
              simpa using this
            have u1 : Row ((((wc.setCell ⟨b, 16, none⟩ (.slice (some ⟨wc.heap.size, 0, none⟩) 1 1)).setCell ⟨b, 17, none⟩ (.int .u32 ((num : Int) + 1)))).alloc (.cells #[.int .u32 ((num : Int) + 1), .int .i8 mx, .int .i8 my, .bool fire, .int .u32 vu, .int .u8 fr] 121)) 121 6 (some ⟨wc.heap.size, 0, none⟩) 1 1 (cmdsV [newCmd ts num mx my fire part]) := by
              have hs : ((wc.setCell ⟨b, 16, none⟩ (.slice (some ⟨wc.heap.size, 0, none⟩) 1 1)).setCell ⟨b, 17, none⟩ (.int .u32 ((num : Int) + 1))).heap.size = wc.heap.size := by simp
              have := Row.lit (w := ((wc.setCell ⟨b, 16, none⟩ (.slice (some ⟨wc.heap.size, 0, none⟩) 1 1)).setCell ⟨b, 17, none⟩ (.int .u32 ((num : Int) + 1)))) (e := 121) (n := 1) (size := 6) (cs := #[.int .u32 ((num : Int) + 1), .int .i8 mx, .int .i8 my, .bool fire, .int .u32 vu, .int .u8 fr]) (by unfold maxLen; omega) rfl
              rw [hs] at this
              simpa [cmdsV, cmdCells, newCmd, HFR.out, HVU.out] using this
            have u2 : Chg (fun q => q = b ∨ blkOf pA = some q) w ((((wc.setCell ⟨b, 16, none⟩ (.slice (some ⟨wc.heap.size, 0, none⟩) 1 1)).setCell ⟨b, 17, none⟩ (.int .u32 ((num : Int) + 1)))).alloc (.cells #[.int .u32 ((num : Int) + 1), .int .i8 mx, .int .i8 my, .bool fire, .int .u32 vu, .int .u8 fr] 121)) := Chg.alloc (Chg.setCell (Chg.setCell D4.out (p := ⟨b, 16, none⟩) (.inl (.inl rfl)) _) (p := ⟨b, 17, none⟩) (.inl (.inl rfl)) _) _
            first
              | exact ⟨u0, u1, u2⟩
              | exact ⟨u0.drew, u1.keep (fun _ _ => rfl), u2.drewN 1⟩
        case rest =>
          obtain ⟨h0, h1, h2⟩ := hcut
          have q15 := h0.cell 15
          simp only [List.getElem?_toArray, List.getElem?_cons_zero, List.getElem?_cons_succ] at q15
          have HH := Lib.hid (show _ ∧ _ ∧ _ from ⟨h0, h1, h2⟩)
          have n5 := h0.lt
          clear h0 h1 h2 x0 x1 x2 x3 x4 x5 f16 f17 y17 p15 p16
          go_wp2
          go_ret
          exact ⟨rfl, _, 1, _, [newCmd ts num mx my fire part], HH.out.1, HH.out.2.1, .inr ⟨by have := HN2.out; omega, rfl, rfl⟩, fun q hq => by have hq := Option.some.inj hq; have := D4.out.size; simp at hq; exact .inr (by omega), HH.out.2.2⟩
      · have t1 : decide ((128 : Int) < (n2 : Int)) = false := decide_eq_false (by omega)
        have t1n : decide (128 < n2) = false := decide_eq_false h128
        clear hn2 d0 d1
        go_wp2
        go_ret
        refine ⟨rfl, A2, c2', rs, pl ++ [newCmd ts num mx my fire part], ?_, ?_, ?_, D3.out, D4.out⟩
        · have := D0.out
          rw [HN2.out] at this
          simpa using this
        · have := D2.out
          rw [HN2.out] at this
          simpa using this
        · exact .inl ⟨by have := HN2.out; omega, rfl, rfl⟩
end Go.Proofs.YtojbijapdkohlaaGreatDoor
