/- slices.Insert of one entity where the row must grow; and Insert as a whole. -/
import Derived.Test.YtojbijapdkohlaaGreatDoorWIns
set_option linter.unusedSimpArgs false
set_option linter.unusedVariables false
namespace Go.Proofs.YtojbijapdkohlaaGreatDoor
open Go.RowKit
theorem infoE2 : (Tryz.prog.info? 55).map (fun i => (i.zero, i.size, i.bytes)) = some (some (.agg zero8.toArray), 8, 64) := by kernel_rfl
set_option maxRecDepth 100000 in
set_option maxHeartbeats 4000000 in
theorem wInsGrow (l : List EntV) (e : EntV) (i n c g off vb : Nat) (w : World) (hr : Row w 55 8 (some ⟨g, off, none⟩) n c (entsV l)) (hv : Blk w vb 55 #[.int .i64 e.id, .int .i64 e.kind, .int .i64 e.at_.x, .int .i64 e.at_.y, .int .i64 e.vel.x, .int .i64 e.vel.y, .int .i64 e.health, .int .i64 e.wait]) (hn : n ≤ 1000) (hi : i < n) (hroom : c < n + 1) :
    Calls Tryz.prog 161 #[.slice (some ⟨g, off, none⟩) n c, .int .i64 i, .slice (some ⟨vb, 0, none⟩) 1 1] w fun r w' => Ins w w' (some ⟨g, off, none⟩) n r (l.take i ++ e :: l.drop i) := by
  have hlen : l.length = n := by have := hr.1; rw [entsV_length] at this; omega
  have hnc := hr.2.1
  have hgl : g < w.heap.size := hr.lt rfl
  have hvl := hv.lt
  obtain ⟨i0, hi0, hz0, hzs, hzb⟩ := info_parts infoE2
  have htl : (entsV (l.take i)).length = i * 8 := by rw [entsV_length, List.length_take, Nat.min_eq_left (by omega)]
  have hdl : (entsV (l.drop i)).length = (n - i) * 8 := by rw [entsV_length, List.length_drop, hlen]
  have hcell : ∀ j u, (entsV l)[j]? = some u → w.cell? ⟨g, off + j, none⟩ = some u := fun j u hu => by
    have hj : j < n * 8 := by have := (List.getElem?_eq_some_iff.1 hu).1; rw [entsV_length, hlen] at this; exact this
    obtain ⟨g', off', hA, _, hc⟩ := hr.cells (by omega)
    simp only [Option.some.injEq, Addr.mk.injEq, and_true] at hA
    obtain ⟨rfl, rfl⟩ := hA
    exact (hc j hj).1.trans hu
  have hold : (Builtin.firstCells i0.size i (.slice (some ⟨g, off, none⟩) i c)).run Tryz.prog w.drew = .ok (entsV (l.take i)).toArray w.drew := by
    rw [hzs]
    exact run_firstCells_some w.drew 8 i ⟨g, off, none⟩ i c (entsV (l.take i)) htl (fun j v hj => by
      rw [add_none]
      refine hcell j v ?_
      rw [← entsV_take, List.getElem?_take] at hj
      split at hj
      · exact hj
      · cases hj)
  have hik : i + (n + 1 - i) = n + 1 := by omega
  have hkk : (n : Int) + 1 - (i : Int) = ((n + 1 - i : Nat) : Int) := by omega
  obtain ⟨G, hG⟩ : ∃ G, G = grownCap w (n + 1) c 55 := ⟨_, rfl⟩
  have hGn : n + 1 ≤ G := by rw [hG]; exact grownCap_ge w _ _ _
  have hG63 : G ≤ maxLen := by rw [hG]; exact grownCap_le_maxLen w (n + 1) c 55 (by unfold maxLen; omega)
  obtain ⟨ROW, hROW⟩ : ∃ ROW : Array Value, ROW = (entsV (l.take i)).toArray ++ Builtin.zeroCells (Value.agg zero8.toArray).cells (n + 1 - i) ++ Builtin.zeroCells (Value.agg zero8.toArray).cells (G - (n + 1)) := ⟨_, rfl⟩
  have hrz : ∀ ty, (Builtin.append_ #[44, 3] ty #[.slice (some ⟨g, off, none⟩) i c, .int .i64 ((n + 1 - i : Nat) : Int)]).run Tryz.prog w = .ok (.slice (some ⟨w.heap.size, 0, none⟩) (n + 1) G) (w.drew.alloc (.cells ROW 55)) := fun ty => by
    have h := Lib.run_append_grow_zeros w 44 3 ty 55 i0 _ .i64 .i64 Tryz.underlying44 Tryz.underlying3 hi0 hz0 (some ⟨g, off, none⟩) i c (entsV (l.take i)) hold (n + 1 - i) (by omega) (by rw [hzs]; decide) (by omega) (by omega) (by rw [hzb]; omega) (by rw [hzb, hik]; exact growslice_fits hroom (by omega))
    rw [hik, ← hG, ← hROW] at h
    exact h
  have hRs : ROW.size = G * 8 := by
    rw [hROW]
    have hz : (Value.agg zero8.toArray).cells.size = 8 := rfl
    simp only [Array.size_append, List.size_toArray, size_zeroCells, htl, hz]
    omega
  have hw1 : Row (w.drew.alloc (.cells ROW 55)) 55 8 (some ⟨w.heap.size, 0, none⟩) (n + 1) G (ROW.toList.take ((n + 1) * 8)) :=
    ⟨by rw [List.length_take, Array.length_toList, hRs]; omega, hGn, hG63, .inr ⟨w.heap.size, 0, ROW, rfl, heap_alloc_new w.drew _, by rw [hRs]; omega, by rw [List.drop_zero]⟩⟩
  have hRt : (ROW.toList.take ((n + 1) * 8)).take (i * 8) = entsV (l.take i) := by
    rw [List.take_take, Nat.min_eq_left (by omega), hROW]
    simp only [Array.toList_append, List.append_assoc]
    rw [List.take_append_of_le_length (by simp [htl]), List.take_of_length_le (by simp [htl])]
  have hRl : (ROW.toList.take ((n + 1) * 8)).length = (l.length + 1) * 8 := by rw [hw1.1, hlen]
  obtain ⟨-, hfin⟩ := ins_list l e i _ (by omega) hRl hRt
  have hcg1 : Chg (fun q => blkOf (some ⟨g, off, none⟩ : Option Addr) = some q) w (w.drew.alloc (.cells ROW 55)) := (Chg.drewN Chg.refl 1).alloc _
  have hold2 : ∀ b j, b < w.heap.size → (w.drew.alloc (.cells ROW 55)).cell? ⟨b, j, none⟩ = w.cell? ⟨b, j, none⟩ := fun b j hb => World.cell?_alloc_lt w.drew _ ⟨b, j, none⟩ hb
  obtain ⟨W1, hW1⟩ : ∃ W1, W1 = w.drew.alloc (.cells ROW 55) := ⟨_, rfl⟩
  rw [← hW1] at hw1 hcg1
  simp only [← hW1] at hrz hold2
  have hsp := fun j (hj : j < G * 8) => hw1.spare j hj
  have hc1 : ∀ ty dc, ∃ u, (Builtin.copy_ #[44, 44] ty #[.slice (some ⟨w.heap.size, i * 8, none⟩) (n + 1 - i) dc, .slice (some ⟨vb, 0, none⟩) 1 1]).run Tryz.prog W1 = .ok u (W1.setCells w.heap.size (i * 8) (entCells e)) := fun ty dc =>
    run_copy_k W1 _ _ ty 55 8 w.heap.size (i * 8) (n + 1 - i) dc ⟨vb, 0, none⟩ 1 1 (entCells e) Tryz.underlying44 infoE (by show 8 = _; simp only [Nat.min_def]; split <;> omega)
      (fun j u hu => by rw [add_none, Nat.zero_add, hold2 vb j hvl]; exact (hv.cell j).trans (by simpa [entCells] using hu))
      (fun j hj => by have h8 : (entCells e).length = 8 := rfl; have := hsp (i * 8 + j) (by omega); rw [Nat.zero_add] at this; exact this) (by simp [entCells, Value.oneCell'])
  have hr2 := Row.setCells (entCells e) _ (i * 8) _ hw1
  rw [Nat.zero_add] at hr2
  have hcg2 := Chg.setCells (F := fun q => blkOf (some ⟨g, off, none⟩ : Option Addr) = some q ∨ q = w.heap.size) (g := w.heap.size) (.inr rfl) (entCells e) (i * 8) _ (hcg1.mono (fun q hq => .inl hq))
  have hold3 : ∀ j, (W1.setCells w.heap.size (i * 8) (entCells e)).cell? ⟨g, j, none⟩ = w.cell? ⟨g, j, none⟩ := fun j => (World.cell?_setCells_out _ _ _ _ _ (fun h _ => absurd h (by show g ≠ w.heap.size; omega))).trans (hold2 g j hgl)
  obtain ⟨W2, hW2⟩ : ∃ W2, W2 = W1.setCells w.heap.size (i * 8) (entCells e) := ⟨_, rfl⟩
  rw [← hW2] at hr2 hcg2
  simp only [← hW2] at hc1 hold3
  have hold3d : ∀ j, W2.drew.cell? ⟨g, j, none⟩ = w.cell? ⟨g, j, none⟩ := fun j => hold3 j
  have hr2d := hr2.keep (w' := W2.drew) (fun _ _ => rfl)
  have hsp2 := fun j (hj : j < G * 8) => hr2d.spare j hj
  have hc2 : ∀ ty dc sc, ∃ u, (Builtin.copy_ #[44, 44] ty #[.slice (some ⟨w.heap.size, (i + 1) * 8, none⟩) (n + 1 - (i + 1)) dc, .slice (some ⟨g, off + i * 8, none⟩) (n - i) sc]).run Tryz.prog W2.drew = .ok u (W2.drew.setCells w.heap.size ((i + 1) * 8) (entsV (l.drop i))) := fun ty dc sc =>
    run_copy_k W2.drew _ _ ty 55 8 w.heap.size ((i + 1) * 8) (n + 1 - (i + 1)) dc ⟨g, off + i * 8, none⟩ (n - i) sc (entsV (l.drop i)) Tryz.underlying44 infoE (by rw [hdl]; congr 1; simp only [Nat.min_def]; split <;> omega)
      (fun j u hu => by
        rw [add_none, hold3d, Nat.add_assoc]
        refine hcell _ u ?_
        rw [← entsV_drop, List.getElem?_drop] at hu
        exact hu)
      (fun j hj => by have := hsp2 ((i + 1) * 8 + j) (by omega); rw [Nat.zero_add] at this; exact this) (entsV_one _)
  have hr3 := Row.setCells (entsV (l.drop i)) _ ((i + 1) * 8) W2.drew hr2d
  rw [Nat.zero_add, hfin] at hr3
  have hcg3 := Chg.setCells (F := fun q => blkOf (some ⟨g, off, none⟩ : Option Addr) = some q ∨ q = w.heap.size) (g := w.heap.size) (.inr rfl) (entsV (l.drop i)) ((i + 1) * 8) _ (hcg2.drewN 1)
  have HR3 := Lib.hid hr3
  have HCG := Lib.hid hcg3
  have HC1 := Lib.hid hc1
  have HC2 := Lib.hid hc2
  have HRZ := Lib.hid hrz
  have z1 : ((i : Int) == (n : Int)) = false := beq_eq_false_iff_ne.2 (by omega)
  have z2 : decide ((c : Int) < (n : Int) + 1) = true := decide_eq_true (by omega)
  have z3 : ¬ (G = i + 1) := by omega
  have z4 : ¬ (G = i) := by omega
  have z10 : ¬ (c = i) := by omega
  have z5 : i ≤ n + 1 := by omega
  have z7 : (0 : Int) ≤ (i : Int) + 1 := by omega
  have z8 : ((i : Int) + 1).toNat = i + 1 := by omega
  have z9 : i ≤ n := by omega
  have z11 : i ≤ c := by omega
  have z12 : (i : Int) ≤ (c : Int) := by omega
  have y3 : (i : Int) + 1 ≤ (n : Int) + 1 := by omega
  have y4 : IntKind.i64.wrap ((i : Int) + 1) = (i : Int) + 1 := by rw [IntKind.wrap_i64]; omega
  have y5 : IntKind.i64.wrap ((n : Int) + 1) = (n : Int) + 1 := by rw [IntKind.wrap_i64]; omega
  have y6 : (i : Int) ≤ (n : Int) + 1 := by omega
  have y7 : (i : Int) ≤ (n : Int) := by omega
  have y8 : i + 1 ≤ n + 1 := by omega
  have y9 : (0 : Int) ≤ (n : Int) + 1 := by omega
  obtain ⟨u1, hu1⟩ := hc1 3 (G - i)
  clear hr2 hr2d hr3 hcg1 hcg2 hcg3 hc1 hc2 hsp hsp2 hcell hr hv hw1 hfin hRl hRt hold hold2 hold3 hold3d hrz hi0 hz0 hzs hzb hROW hG hRs hW1 hW2 htl
  unfold maxLen at hG63
  go_enter Tryz.func161, Tryz.ntmps161
  go_wp2_with (at_builtin; refine Lib.wpList_append_run _ rfl (.tmp 34) (.tmp 39) 44 3 rfl _ _ rfl rfl (.slice (some ⟨w.heap.size, 0, none⟩) (n + 1) G) W1 (HRZ.out _) ?_)
  go_region_law (refine step_copy_any rfl (.tmp 50) (.tmp 53) 44 44 rfl (.slice (some ⟨w.heap.size, (i + 1) * 8, none⟩) (n + 1 - (i + 1)) (G - (i + 1))) (.slice (some ⟨g, off + i * 8, none⟩) (n - i) (c - i)) (by simp [Act.eval, Act.put]) (by simp [Act.eval, Act.put]) (HC2.out _ _ _) ?_; intro v')
  all_goals
    go_wp2
    go_ret
    exact ⟨some ⟨w.heap.size, 0, none⟩, G, rfl, HR3.out, ⟨HCG.out.os, HCG.out.tape, HCG.out.output, HCG.out.size, fun q hq hn => HCG.out.block q hq (fun h => h.elim hn (fun h => by omega))⟩, fun q hq => by cases hq; exact .inr (Nat.le_refl _)⟩
theorem wInsert (l : List EntV) (e : EntV) (A : Option Addr) (i n c vb : Nat) (w : World) (hr : Row w 55 8 A n c (entsV l)) (hv : Blk w vb 55 #[.int .i64 e.id, .int .i64 e.kind, .int .i64 e.at_.x, .int .i64 e.at_.y, .int .i64 e.vel.x, .int .i64 e.vel.y, .int .i64 e.health, .int .i64 e.wait]) (hvA : ∀ g, blkOf A = some g → vb ≠ g) (hn : n ≤ 1000) (hi : i ≤ n) :
    Calls Tryz.prog 161 #[.slice A n c, .int .i64 i, .slice (some ⟨vb, 0, none⟩) 1 1] w fun r w' => Ins w w' A n r (l.take i ++ e :: l.drop i) := by
  have hlen : l.length = n := by have := hr.1; rw [entsV_length] at this; omega
  by_cases h : i = n
  · subst h
    have := wInsEnd l e A i c vb w hr hv hn
    rw [← hlen, List.take_length, List.drop_length, hlen]
    exact this
  · obtain ⟨g, off, rfl, _, _⟩ := hr.cells (by omega)
    by_cases hroom : n + 1 ≤ c
    · exact wInsMid l e i n c g off vb w hr hv (hvA g rfl) hn (by omega) hroom
    · exact wInsGrow l e i n c g off vb w hr hv hn (by omega) (by omega)
end Go.Proofs.YtojbijapdkohlaaGreatDoor
