/- The reference of layer 14: a header is sent. -/
import Derived.Test.YtojbijapdkohlaaGreatDoorQ43DgramP
import Derived.Test.YtojbijapdkohlaaGreatDoorChanSend
set_option linter.unusedSimpArgs false
set_option linter.unusedVariables false
namespace Go.Proofs.YtojbijapdkohlaaGreatDoor
open Go.RowKit
theorem own_pos {w : World} {base : Nat} {e : TypeId} {size n c : Nat} {A : Option Addr} {xs : List Value} (h : w.ownsRow base e size (.slice A n c) n xs) (h0 : 0 < n) : ∃ ga, A = some ⟨ga, 0, none⟩ := by
  rcases h.2 with ⟨h1, h2⟩ | ⟨ga, cap, cur, h1, -⟩
  · omega
  · injection h1 with h1
    exact ⟨ga, h1⟩
def RSent (g o : Nat) (t : TypeId) (cs : Array Value) (sent : Nat) (v : WinV) (base : Nat) (vl : Value) (m : Nat) (w : World) (e : Ending) (w' : World) : Prop :=
  e = .returned (.agg #[.int .u16 ((sent % 65536 : Nat) : Int), .bool v.any, .int .u16 (v.last : Nat), .int .u32 (v.mask : Nat)]) ∧ ∃ (vl' : Value) (L' : List Bool), L'.length = m + 1 ∧ w'.ownsRow base 4 1 vl' (m + 1) (boolsV L') ∧ (vl'.ownBlock = vl.ownBlock ∨ ∃ q, vl'.ownBlock = some q ∧ w.heap.size ≤ q) ∧
    Blk w' g t ((cs.setIfInBounds (o + 4) vl').setIfInBounds o (.int .i64 ((sent + 1 : Nat) : Int))) ∧ Chg (fun q => q = g ∨ vl.ownBlock = some q) w w'
set_option maxRecDepth 100000 in
set_option maxHeartbeats 8000000 in
theorem refSend (g o : Nat) (t : TypeId) (cs : Array Value) (sent : Nat) (v : WinV) (base : Nat) (vl : Value) (m : Nat) (L : List Bool) (w : World) (hb : Blk w g t cs) (ht : 4 ≠ t)
    (k0 : cs[o]? = some (.int .i64 (sent : Nat))) (k1 : cs[o + 1]? = some (.bool v.any)) (k2 : cs[o + 2]? = some (.int .u16 (v.last : Nat))) (k3 : cs[o + 3]? = some (.int .u32 (v.mask : Nat))) (k4 : cs[o + 4]? = some vl)
    (hown : w.ownsRow base 4 1 vl m (boolsV L)) (hbase : base ≤ w.heap.size) (hm : m ≤ 10000) (hs : sent ≤ 1000000) :
    Calls Tryz.prog 51 #[.pointer (some ⟨g, o, none⟩)] w (RSent g o t cs sent v base vl m w) := by
  obtain ⟨A, c, rfl, hrow, hA⟩ := Row.of_own hown
  have lb := hb.lt
  have hr16 : Int.tmod ((sent : Nat) : Int) 65536 = ((sent % 65536 : Nat) : Int) := by rw [Int.tmod_eq_emod_of_nonneg (by omega)]; omega
  have hl16 : sent % 65536 < 65536 := Nat.mod_lt _ (by decide)
  obtain ⟨sm, hsm⟩ : ∃ sm, sent % 65536 = sm := ⟨_, rfl⟩
  unfold RSent
  rw [hsm] at hr16 hl16 ⊢
  have hwm := wrap16 hl16
  have z0 : w.cell? ⟨g, o, none⟩ = some (.int .i64 (sent : Nat)) := (hb.cell _).trans k0
  have z1 : w.cell? ⟨g, o + 1, none⟩ = some (.bool v.any) := (hb.cell _).trans k1
  have z2 : w.cell? ⟨g, o + 2, none⟩ = some (.int .u16 (v.last : Nat)) := (hb.cell _).trans k2
  have z3 : w.cell? ⟨g, o + 3, none⟩ = some (.int .u32 (v.mask : Nat)) := (hb.cell _).trans k3
  have z4 : w.cell? ⟨g, o + 4, none⟩ = some (.slice A m c) := (hb.cell _).trans k4
  have HB := Lib.hid hb
  have HO := Lib.hid (show _ ∧ _ ∧ _ from ⟨hown, hrow, hbase⟩)
  have K := Lib.hid (show _ ∧ _ ∧ _ ∧ _ ∧ _ from ⟨k0, k1, k2, k3, k4⟩)
  clear hb hown hrow hA hbase k0 k1 k2 k3 k4 hsm
  go_enter Tryz.func51, Tryz.ntmps51
  go_upto_region 1 with (fail)
  go_cut [3] (fun s3 wx => s3 = .pointer (some ⟨w.heap.size + 1, 0, none⟩) ∧ Blk wx (w.heap.size + 1) 98 #[.int .u16 (sm : Nat), .bool v.any, .int .u16 (v.last : Nat), .int .u32 (v.mask : Nat)] ∧ Blk wx w.heap.size 98 #[.int .u16 0, .bool false, .int .u16 0, .int .u32 0] ∧ Below w.heap.size w wx)
  case first =>
    go_region_held3 (fun w' => w'.cell? ⟨g, o, none⟩ = some (.int .i64 (sent : Nat)) ∧ w'.cell? ⟨g, o + 1, none⟩ = some (.bool v.any) ∧ w'.cell? ⟨g, o + 2, none⟩ = some (.int .u16 (v.last : Nat)) ∧ w'.cell? ⟨g, o + 3, none⟩ = some (.int .u32 (v.mask : Nat))) (go_keep) (fail)
    all_goals go_wp2_with fail
    all_goals go_meet
    all_goals
      obtain ⟨B1, b1, b2⟩ := twoBoxesC w #[.int .u16 0, .bool false, .int .u16 0, .int .u32 0] #[.int .u16 (sm : Nat), .bool v.any, .int .u16 (v.last : Nat), .int .u32 (v.mask : Nat)] 98 98
      exact ⟨rfl, b2, b1, B1.drew⟩
  case rest =>
    obtain ⟨rfl, e1, e0, e2⟩ := hcut
    have y4 : wc.cell? ⟨g, o + 4, none⟩ = some (.slice A m c) := (e2.cell (p := ⟨g, o + 4, none⟩) lb).trans z4
    have y0 : wc.cell? ⟨g, o, none⟩ = some (.int .i64 (sent : Nat)) := (e2.cell (p := ⟨g, o, none⟩) lb).trans z0
    have hbc := HB.out.below e2 lb
    have hoc : wc.ownsRow base 4 1 (.slice A m c) m (boolsV L) := own_keepB HO.out.1 (fun q hq => e2.block q (clsOf_lt (own_block HO.out.1 hq)))
    have s2 := e2.size
    have hown := hoc
    have hbase : base ≤ wc.heap.size := Nat.le_trans HO.out.2.2 s2
    have hr : Reads (wc.alloc (.cells #[.bool true] 4)) (wc.heap.size + 1) 1 (some ⟨wc.heap.size, 0, none⟩) 1 (boolsV [true]) := Reads.new (size := 1) (n := 1) (Nat.lt_succ_self _) rfl
    have W := Lib.hid (show _ ∧ _ ∧ _ ∧ _ ∧ _ from ⟨e1, e0, e2, hbc, hoc⟩)
    have lbc := hbc.lt
    have lh1 := e1.lt
    clear e1 e0 e2 hbc hoc z0 z1 z2 z3 z4
    obtain ⟨M, hM⟩ : ∃ M, m + 1 = M := ⟨_, rfl⟩
    have HM := Lib.hid hM
    have hMI : (m : Int) + 1 = (M : Int) := by omega
    clear hM
    go_wp2_with (at_builtin; refine wpList_app _ rfl _ _ 22 rfl elt22 _ _ _ _ rfl (hown.alloc _) (wc.heap.size + 1) (some ⟨wc.heap.size, 0, none⟩) 1 1 (boolsV [true]) rfl hr (boolsV_one [true]) (by omega) (by simp; omega) ?_; intro v' w' ho hg' hb'; rw [HM.out] at ho; obtain ⟨A', c', rfl, hrw, hbA⟩ := Row.of_own ho; obtain ⟨ga, rfl⟩ := own_pos ho (by omega); have ob : Blk w' g t cs := (W.out.2.2.2.1.alloc (.cells #[.bool true] 4)).grown hg' (fun e => cls_ne W.out.2.2.2.1.cls (own_block W.out.2.2.2.2 e.symm) (Ne.symm ht)); have u0 : w'.cell? ⟨g, o, none⟩ = some (.int .i64 (sent : Nat)) := (ob.cell _).trans K.out.1; have u4 : w'.cell? ⟨g, o + 4, none⟩ = some (.slice A m c) := (ob.cell _).trans K.out.2.2.2.2; have fu : w'.frozen? ⟨g, o + 4, none⟩ = false := ob.frozen _; have fu0 : w'.frozen? ⟨g, o, none⟩ = false := ob.frozen _; have lu := ob.lt; have b1 := ((W.out.1.alloc (.cells #[.bool true] 4)).grown hg' (fun e => cls_ne W.out.1.cls (own_block W.out.2.2.2.2 e.symm) (by decide))); have b0 := ((W.out.2.1.alloc (.cells #[.bool true] 4)).grown hg' (fun e => cls_ne W.out.2.1.cls (own_block W.out.2.2.2.2 e.symm) (by decide))); have cg : Chg (fun q => q = g ∨ (Value.slice A m c).ownBlock = some q) w w' := ((Chg.below (Chg.refl (w := w)) W.out.2.2.1 (Nat.le_refl _)).alloc _).grown hg' (fun q hq => .inl (.inr hq)); have hgg : ga ≠ g := (fun e => by subst e; exact cls_ne ob.cls (own_block ho rfl) (Ne.symm ht)); have G := Lib.hid (show _ ∧ _ ∧ _ ∧ _ ∧ _ ∧ _ from ⟨ho, hb', ob, b1, b0, cg⟩); clear ho hb' hrw hbA hg' ob b1 b0 cg)
    have q1 : Blk ((w'.setCell ⟨g, o + 4, none⟩ (.slice (some ⟨ga, 0, none⟩) M c')).setCell ⟨g, o, none⟩ (.int .i64 ((sent : Int) + 1))) g t ((cs.setIfInBounds (o + 4) (.slice (some ⟨ga, 0, none⟩) M c')).setIfInBounds o (.int .i64 ((sent : Int) + 1))) := (G.out.2.2.1.set_ (o + 4) _).set_ o _
    have q2 : ((w'.setCell ⟨g, o + 4, none⟩ (.slice (some ⟨ga, 0, none⟩) M c')).setCell ⟨g, o, none⟩ (.int .i64 ((sent : Int) + 1))).ownsRow base 4 1 (.slice (some ⟨ga, 0, none⟩) M c') M (boolsV (L ++ [true])) := by
      have h1 := G.out.1
      rw [show boolsV L ++ boolsV [true] = boolsV (L ++ [true]) by simp [boolsV]] at h1
      refine own_keepB h1 (fun q hq => ?_)
      have e : ga = q := by injection hq
      subst e
      exact (Below.heap_setCell _ _ _ _ hgg).trans (Below.heap_setCell _ _ _ _ hgg)
    have ngh1 : w.heap.size + 1 ≠ g := by omega
    have ngh0 : w.heap.size ≠ g := by omega
    have q3 : Blk ((w'.setCell ⟨g, o + 4, none⟩ (.slice (some ⟨ga, 0, none⟩) M c')).setCell ⟨g, o, none⟩ (.int .i64 ((sent : Int) + 1))) (w.heap.size + 1) 98 #[.int .u16 (sm : Nat), .bool v.any, .int .u16 (v.last : Nat), .int .u32 (v.mask : Nat)] := (G.out.2.2.2.1.far (p := ⟨g, o + 4, none⟩) ngh1 _).far (p := ⟨g, o, none⟩) ngh1 _
    have q4 : Blk ((w'.setCell ⟨g, o + 4, none⟩ (.slice (some ⟨ga, 0, none⟩) M c')).setCell ⟨g, o, none⟩ (.int .i64 ((sent : Int) + 1))) w.heap.size 98 #[.int .u16 0, .bool false, .int .u16 0, .int .u32 0] := (G.out.2.2.2.2.1.far (p := ⟨g, o + 4, none⟩) ngh0 _).far (p := ⟨g, o, none⟩) ngh0 _
    have q5 : Chg (fun q => q = g ∨ (Value.slice A m c).ownBlock = some q) w ((w'.setCell ⟨g, o + 4, none⟩ (.slice (some ⟨ga, 0, none⟩) M c')).setCell ⟨g, o, none⟩ (.int .i64 ((sent : Int) + 1))) := (G.out.2.2.2.2.2.setCell (p := ⟨g, o + 4, none⟩) (.inl (.inl rfl)) _).setCell (p := ⟨g, o, none⟩) (.inl (.inl rfl)) _
    have hL1 : (L ++ [true]).length = M := by have h1 := HO.out.1.1; simp [boolsV] at h1; have := HM.out; simp; omega
    have hfr : (Value.slice (some ⟨ga, 0, none⟩) M c').ownBlock = (Value.slice A m c).ownBlock ∨ ∃ q, (Value.slice (some ⟨ga, 0, none⟩) M c').ownBlock = some q ∧ w.heap.size ≤ q := by
      rcases G.out.2.1 with h1 | h1
      · exact .inl h1
      · refine .inr ⟨ga, rfl, ?_⟩
        have : ga = (wc.alloc (.cells #[.bool true] 4)).heap.size := by have h2 : (Value.slice (some ⟨ga, 0, none⟩) M c').ownBlock = some ga := rfl; rw [h2] at h1; injection h1
        simp at this
        omega
    generalize ((w'.setCell ⟨g, o + 4, none⟩ (.slice (some ⟨ga, 0, none⟩) M c')).setCell ⟨g, o, none⟩ (.int .i64 ((sent : Int) + 1))) = wl at q1 q2 q3 q4 q5 ⊢
    have Q := Lib.hid (show _ ∧ _ ∧ _ ∧ _ ∧ _ ∧ _ ∧ _ from ⟨q1, q2, q3, q4, q5, hL1, hfr⟩)
    have hMb : 1 ≤ M ∧ M ≤ 10001 := by have := HM.out; omega
    have HMB := Lib.hid hMb
    have e5 : (M : Int) - 1 = ((M : Int) - 1) := rfl
    clear q1 q2 q3 q4 q5 hL1 hfr G W u0 u4 fu fu0 lu lbc lh1 hown hr y4 y0 lb hMI s2 hbase ngh1 ngh0 hMb
    go_loopw [4, 5] (fun n i wr => ∃ (j cnt : Nat) (L' : List Bool), j ≤ M ∧ L'.length = M ∧ cnt + j ≤ M ∧ n = .int .i64 (cnt : Nat) ∧ i = .int .i64 ((j : Int) - 1) ∧ wr.ownsRow base 4 1 (.slice (some ⟨ga, 0, none⟩) M c') M (boolsV L') ∧ Blk wr g t ((cs.setIfInBounds (o + 4) (.slice (some ⟨ga, 0, none⟩) M c')).setIfInBounds o (.int .i64 ((sent : Int) + 1))) ∧ Blk wr (w.heap.size + 1) 98 #[.int .u16 (sm : Nat), .bool v.any, .int .u16 (v.last : Nat), .int .u32 (v.mask : Nat)] ∧ Blk wr w.heap.size 98 #[.int .u16 0, .bool false, .int .u16 0, .int .u32 0] ∧ Chg (fun q => q = g ∨ (Value.slice A m c).ownBlock = some q) w wr) (fun _ i _ => (intOf i + 1).toNat)
    case atStart => exact ⟨M, 0, L ++ [true], Nat.le_refl _, Q.out.2.2.2.2.2.1, by omega, rfl, by go_num, Q.out.2.1, Q.out.1, Q.out.2.2.1, Q.out.2.2.2.1, Q.out.2.2.2.2.1⟩
    case round =>
      obtain ⟨j, cnt, L', hj, hL', hcj, rfl, rfl, q2, q1, q3, q4, q5⟩ := hrel
      by_cases h0 : j = 0
      · subst h0
        have x0 : wr.cell? ⟨w.heap.size + 1, 0, none⟩ = some (.int .u16 (sm : Nat)) := q3.cell 0
        have x1 : wr.cell? ⟨w.heap.size + 1, 1, none⟩ = some (.bool v.any) := q3.cell 1
        have x2 : wr.cell? ⟨w.heap.size + 1, 2, none⟩ = some (.int .u16 (v.last : Nat)) := q3.cell 2
        have x3 : wr.cell? ⟨w.heap.size + 1, 3, none⟩ = some (.int .u32 (v.mask : Nat)) := q3.cell 3
        have u0 : wr.cell? ⟨w.heap.size, 0, none⟩ = some (.int .u16 0) := q4.cell 0
        have u1 : wr.cell? ⟨w.heap.size, 1, none⟩ = some (.bool false) := q4.cell 1
        have u2 : wr.cell? ⟨w.heap.size, 2, none⟩ = some (.int .u16 0) := q4.cell 2
        have u3 : wr.cell? ⟨w.heap.size, 3, none⟩ = some (.int .u32 0) := q4.cell 3
        have f0 : wr.frozen? ⟨w.heap.size, 0, none⟩ = false := q4.frozen 0
        have f1 : wr.frozen? ⟨w.heap.size, 1, none⟩ = false := q4.frozen 1
        have f2 : wr.frozen? ⟨w.heap.size, 2, none⟩ = false := q4.frozen 2
        have f3 : wr.frozen? ⟨w.heap.size, 3, none⟩ = false := q4.frozen 3
        have l4 := q4.lt
        have l3 := q3.lt
        have R := Lib.hid (show _ ∧ _ ∧ _ ∧ _ ∧ _ ∧ _ from ⟨q2, q1, q5, hL', HB.out.lt, q4⟩)
        clear q1 q2 q3 q4 q5 hL' hcj hj
        go_wp2
        have b1 : g ≠ w.heap.size := by have := R.out.2.2.2.2.1; omega
        have b2 : ga ≠ w.heap.size := fun e => by have h1 := own_block R.out.1 rfl; rw [e] at h1; exact cls_ne h1 R.out.2.2.2.2.2.cls (by decide)
        have e0 := Blk.far (p := ⟨w.heap.size, 3, none⟩) (Blk.far (p := ⟨w.heap.size, 2, none⟩) (Blk.far (p := ⟨w.heap.size, 1, none⟩) (Blk.far (p := ⟨w.heap.size, 0, none⟩) R.out.2.1 b1 (.int .u16 (sm : Nat))) b1 (.bool v.any)) b1 (.int .u16 (v.last : Nat))) b1 (.int .u32 (v.mask : Nat))
        have e3 : Blk ((((wr.setCell ⟨w.heap.size, 0, none⟩ (.int .u16 (sm : Nat))).setCell ⟨w.heap.size, 1, none⟩ (.bool v.any)).setCell ⟨w.heap.size, 2, none⟩ (.int .u16 (v.last : Nat))).setCell ⟨w.heap.size, 3, none⟩ (.int .u32 (v.mask : Nat))) w.heap.size 98 #[.int .u16 (sm : Nat), .bool v.any, .int .u16 (v.last : Nat), .int .u32 (v.mask : Nat)] := by
          have := (((R.out.2.2.2.2.2.set_ 0 (.int .u16 (sm : Nat))).set_ 1 (.bool v.any)).set_ 2 (.int .u16 (v.last : Nat))).set_ 3 (.int .u32 (v.mask : Nat))
          simpa using this
        have e1 : ((((wr.setCell ⟨w.heap.size, 0, none⟩ (.int .u16 (sm : Nat))).setCell ⟨w.heap.size, 1, none⟩ (.bool v.any)).setCell ⟨w.heap.size, 2, none⟩ (.int .u16 (v.last : Nat))).setCell ⟨w.heap.size, 3, none⟩ (.int .u32 (v.mask : Nat))).ownsRow base 4 1 (.slice (some ⟨ga, 0, none⟩) M c') M (boolsV L') := own_keepB R.out.1 (fun q hq => by
          have e9 : ga = q := by injection hq
          subst e9
          exact (Below.heap_setCell _ _ _ _ b2).trans ((Below.heap_setCell _ _ _ _ b2).trans ((Below.heap_setCell _ _ _ _ b2).trans (Below.heap_setCell _ _ _ _ b2))))
        have e5 := Chg.setCell (Chg.setCell (Chg.setCell (Chg.setCell R.out.2.2.1 (p := ⟨w.heap.size, 0, none⟩) (.inr (Nat.le_refl _)) (.int .u16 (sm : Nat))) (p := ⟨w.heap.size, 1, none⟩) (.inr (Nat.le_refl _)) (.bool v.any)) (p := ⟨w.heap.size, 2, none⟩) (.inr (Nat.le_refl _)) (.int .u16 (v.last : Nat))) (p := ⟨w.heap.size, 3, none⟩) (.inr (Nat.le_refl _)) (.int .u32 (v.mask : Nat))
        generalize ((((wr.setCell ⟨w.heap.size, 0, none⟩ (.int .u16 (sm : Nat))).setCell ⟨w.heap.size, 1, none⟩ (.bool v.any)).setCell ⟨w.heap.size, 2, none⟩ (.int .u16 (v.last : Nat))).setCell ⟨w.heap.size, 3, none⟩ (.int .u32 (v.mask : Nat))) = wf at e0 e1 e3 e5 ⊢
        have q0 : wf.cell? ⟨w.heap.size, 0, none⟩ = some (.int .u16 (sm : Nat)) := e3.cell 0
        have q1 : wf.cell? ⟨w.heap.size, 1, none⟩ = some (.bool v.any) := e3.cell 1
        have q2 : wf.cell? ⟨w.heap.size, 2, none⟩ = some (.int .u16 (v.last : Nat)) := e3.cell 2
        have q3 : wf.cell? ⟨w.heap.size, 3, none⟩ = some (.int .u32 (v.mask : Nat)) := e3.cell 3
        clear x0 x1 x2 x3 u0 u1 u2 u3 f0 f1 f2 f3
        exact bodyPost_ret (v := .agg #[.int .u16 (sm : Nat), .bool v.any, .int .u16 (v.last : Nat), .int .u32 (v.mask : Nat)]) (by simp [results, Tryz.results51, go_sem, q0, q1, q2, q3]) rfl ⟨rfl, .slice (some ⟨ga, 0, none⟩) M c', L', by rw [HM.out]; exact R.out.2.2.2.1, by rw [HM.out]; exact e1, Q.out.2.2.2.2.2.2, by exact e0, e5⟩
      · obtain ⟨jj, hjj⟩ : ∃ jj, j = jj + 1 := ⟨j - 1, by omega⟩
        subst hjj
        rw [show (((jj + 1 : Nat) : Int) - 1) = (jj : Int) from by omega]
        obtain ⟨b, hbb⟩ : ∃ b, L'[jj]? = some b := ⟨_, List.getElem?_eq_getElem (by omega)⟩
        obtain ⟨A0, c0, e0, hrw, -⟩ := Row.of_own q2
        have y1 : wr.cell? ⟨ga, jj, none⟩ = some (.bool b) := by
          injection e0 with e0 _ _
          subst e0
          obtain ⟨g0, off0, e0, hlt0, hc0⟩ := hrw.cells (by have := HMB.out; omega)
          cases e0
          have := (hc0 jj (by omega)).1
          rw [Nat.zero_add] at this
          rw [this]
          unfold boolsV
          rw [List.getElem?_map, hbb]; rfl
        have fy : wr.frozen? ⟨ga, jj, none⟩ = false := q2.frozenAt jj
        have x4 : wr.cell? ⟨g, o + 4, none⟩ = some (.slice (some ⟨ga, 0, none⟩) M c') := by
          refine (q1.cell _).trans ?_
          rw [Array.getElem?_setIfInBounds_ne (by omega)]
          exact Array.getElem?_setIfInBounds_self_of_lt (Array.getElem?_eq_some_iff.1 K.out.2.2.2.2).1
        have lga : ga < wr.heap.size := clsOf_lt (own_block q2 rfl)
        have lgg := q1.lt
        have ngh1 : w.heap.size + 1 ≠ ga := fun e => by have h1 := own_block q2 rfl; rw [← e] at h1; exact cls_ne h1 q3.cls (by decide)
        have ngh0 : w.heap.size ≠ ga := fun e => by have h1 := own_block q2 rfl; rw [← e] at h1; exact cls_ne h1 q4.cls (by decide)
        have hst : ∀ u : Bool, (wr.setCell ⟨ga, jj, none⟩ (.bool u)).ownsRow base 4 1 (.slice (some ⟨ga, 0, none⟩) M c') M (boolsV (L'.set jj u)) ∧ Blk (wr.setCell ⟨ga, jj, none⟩ (.bool u)) g t ((cs.setIfInBounds (o + 4) (.slice (some ⟨ga, 0, none⟩) M c')).setIfInBounds o (.int .i64 ((sent : Int) + 1))) ∧ Blk (wr.setCell ⟨ga, jj, none⟩ (.bool u)) (w.heap.size + 1) 98 #[.int .u16 (sm : Nat), .bool v.any, .int .u16 (v.last : Nat), .int .u32 (v.mask : Nat)] ∧ Blk (wr.setCell ⟨ga, jj, none⟩ (.bool u)) w.heap.size 98 #[.int .u16 0, .bool false, .int .u16 0, .int .u32 0] ∧ Chg (fun q => q = g ∨ (Value.slice A m c).ownBlock = some q) w (wr.setCell ⟨ga, jj, none⟩ (.bool u)) := fun u => by
          refine ⟨?_, q1.far (p := ⟨ga, jj, none⟩) (Ne.symm hgg) _, q3.far (p := ⟨ga, jj, none⟩) ngh1 _, q4.far (p := ⟨ga, jj, none⟩) ngh0 _, q5.setCell (p := ⟨ga, jj, none⟩) ?_ _⟩
          · have := (q2.stored jj (.bool u)).1
            rw [show boolsV (L'.set jj u) = (boolsV L').set jj (.bool u) by unfold boolsV; rw [List.map_set]]
            exact this
          · rcases Q.out.2.2.2.2.2.2 with h1 | ⟨q, h1, h2⟩
            · exact .inl (.inr (h1 ▸ rfl))
            · have e9 : ga = q := by injection h1
              exact .inr (e9 ▸ h2)
        have ST := Lib.hid hst
        have RR := Lib.hid (show _ ∧ _ from ⟨hL', hcj⟩)
        have d1 : (jj : Int) < (M : Int) := by omega
        have d2 : 0 ≤ (jj : Int) := by omega
        have hcM := HMB.out
        clear hst q1 q2 q3 q4 q5 hrw e0 h0 hbb
        cases b
        · have dd : True := trivial
          go_wp2
          go_still_tail 17, (by kernel_rfl)
          change wpList _ _ _ _ _ wr.drew
          go_wp2_with fail
          have st := (ST.out false)
          exact ⟨⟨jj, cnt, L'.set jj false, by omega, by simp [RR.out.1], by omega, rfl, by go_num, st.1, st.2.1, st.2.2.1, st.2.2.2.1, st.2.2.2.2.drewN 1⟩, by simp [intOf] <;> omega⟩
        · by_cases h64 : cnt + 1 ≤ 64
          · have d64 : decide ((cnt : Int) + 1 ≤ 64) = true := decide_eq_true (by omega)
            go_wp2
            go_still_tail 17, (by kernel_rfl)
            change wpList _ _ _ _ _ wr.drew
            go_wp2_with fail
            have st := (ST.out true)
            exact ⟨⟨jj, (cnt + 1), L'.set jj true, by omega, by simp [RR.out.1], by omega, by go_num, by go_num, st.1, st.2.1, st.2.2.1, st.2.2.2.1, st.2.2.2.2.drewN 1⟩, by simp [intOf] <;> omega⟩
          · have d64 : decide ((cnt : Int) + 1 ≤ 64) = false := decide_eq_false (by omega)
            go_wp2
            go_still_tail 17, (by kernel_rfl)
            change wpList _ _ _ _ _ wr.drew
            go_wp2_with fail
            have st := (ST.out false)
            exact ⟨⟨jj, (cnt + 1), L'.set jj false, by omega, by simp [RR.out.1], by omega, by go_num, by go_num, st.1, st.2.1, st.2.2.1, st.2.2.2.1, st.2.2.2.2.drewN 1⟩, by simp [intOf] <;> omega⟩
end Go.Proofs.YtojbijapdkohlaaGreatDoor
