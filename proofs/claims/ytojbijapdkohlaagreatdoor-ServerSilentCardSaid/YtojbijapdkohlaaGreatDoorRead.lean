/- The walk of tiles.Read, at texts of signs. -/
import Derived.Test.YtojbijapdkohlaaGreatDoorMapF
import Derived.Test.YtojbijapdkohlaaGreatDoorQ18ReadPlain
import Derived.Lib.OthersKept
import Derived.Laws.RangeAny
import Derived.Deep.RegionLaw
set_option linter.unusedSimpArgs false
set_option linter.unusedVariables false
namespace Go.Proofs.YtojbijapdkohlaaGreatDoor
open Go.RowKit
/-- What stands in memory after k signs. -/
structure RdMem (w : World) (bt : ByteArray) (pos : Nat) (wr : World) (st : RdS) (A : Option Addr) (n c : Nat) (A2 : Option Addr) (n2 c2 : Nat) : Prop where
  res : Blk wr w.heap.size 25 #[.int .i64 0, .int .i64 0, .slice none 0 0, .slice none 0 0]
  map : Blk wr (w.heap.size + 1) 25 #[.int .i64 (st.w : Nat), .int .i64 (st.h : Nat), .slice A n c, .slice A2 n2 c2]
  iter : wr.heap[w.heap.size + 2]? = some (.stringIter bt pos)
  walls : Row wr 4 1 A n c (boolsV st.walls)
  spawns : Row wr 53 2 A2 n2 c2 (vecsV st.spawns)
  hA : ∀ g, blkOf A = some g → w.heap.size + 3 ≤ g
  hA2 : ∀ g, blkOf A2 = some g → w.heap.size + 3 ≤ g
  aa : ∀ g, blkOf A = some g → blkOf A2 ≠ some g
  below : Below w.heap.size w wr
  len : st.walls.length = n
  len2 : st.spawns.length = n2
section
variable {w wr w' : World} {bt : ByteArray} {pos : Nat} {st : RdS} {A A2 : Option Addr} {n c n2 c2 : Nat}
theorem RdMem.next (M : RdMem w bt pos wr st A n c A2 n2 c2) (pos' : Nat) : RdMem w bt pos' (wr.iterAt (w.heap.size + 1 + 1) bt pos') st A n c A2 n2 c2 :=
  have h : ∀ j, j ≠ w.heap.size + 2 → (wr.iterAt (w.heap.size + 1 + 1) bt pos').heap[j]? = wr.heap[j]? := fun j hj => Lib.iterAt_other wr (w.heap.size + 1 + 1) j bt pos' hj
  { M with
    res := (h _ (by omega)).trans M.res
    map := (h _ (by omega)).trans M.map
    iter := Lib.iterAt_heap wr (w.heap.size + 1 + 1) bt pos pos' M.iter
    walls := M.walls.keep fun g hg => h g (by have := M.hA g hg; omega)
    spawns := M.spawns.keep fun g hg => h g (by have := M.hA2 g hg; omega)
    below := Lib.below_iterAt M.below (by omega) bt pos' }
theorem RdMem.at_pos (M : RdMem w bt pos wr st A n c A2 n2 c2) : wr.iterPos (w.heap.size + 1 + 1) = pos := by
  have := M.iter
  show (match wr.heap[w.heap.size + 2]? with | some (.stringIter _ p) => p | _ => 0) = pos
  rw [this]
theorem RdMem.line (M : RdMem w bt pos wr st A n c A2 n2 c2) : RdMem w bt pos ((wr.setCell ⟨w.heap.size + 1, 0, none⟩ (.int .i64 (st.x : Nat))).setCell ⟨w.heap.size + 1, 1, none⟩ (.int .i64 ((st.h : Int) + 1))) ⟨st.x, st.h + 1, 0, st.walls, st.spawns⟩ A n c A2 n2 c2 :=
  have h : ∀ j, j ≠ w.heap.size + 1 → ((wr.setCell ⟨w.heap.size + 1, 0, none⟩ (.int .i64 (st.x : Nat))).setCell ⟨w.heap.size + 1, 1, none⟩ (.int .i64 ((st.h : Int) + 1))).heap[j]? = wr.heap[j]? := fun j hj =>
    (Below.heap_setCell _ _ _ j hj).trans (Below.heap_setCell _ _ _ j hj)
  { M with
    res := (h _ (by omega)).trans M.res
    map := by
      have := (M.map.set_ 0 (.int .i64 (st.x : Nat))).set_ 1 (.int .i64 ((st.h : Int) + 1))
      simpa using this
    iter := (h _ (by omega)).trans M.iter
    walls := M.walls.keep fun g hg => h g (by have := M.hA g hg; omega)
    spawns := M.spawns.keep fun g hg => h g (by have := M.hA2 g hg; omega)
    below := (M.below.setCell (by simp) _).setCell (by simp) _ }
theorem RdMem.wall (M : RdMem w bt pos wr st A n c A2 n2 c2) (o : Obj) {b : Bool} {A' : Option Addr} {c' : Nat} (hr : Row w' 4 1 A' (n + 1) c' (boolsV st.walls ++ [.bool b])) (hg : (wr.alloc o).grownBy w' (blkOf A))
    (hb : blkOf A' = blkOf A ∨ blkOf A' = some (wr.alloc o).heap.size) (x : Nat) : RdMem w bt pos (w'.setCell ⟨w.heap.size + 1, 2, none⟩ (.slice A' (n + 1) c')) ⟨st.w, st.h, x, st.walls ++ [b], st.spawns⟩ A' (n + 1) c' A2 n2 c2 :=
  have hsz := M.map.lt
  have h : ∀ j, j < wr.heap.size → blkOf A ≠ some j → j ≠ w.heap.size + 1 → (w'.setCell ⟨w.heap.size + 1, 2, none⟩ (.slice A' (n + 1) c')).heap[j]? = wr.heap[j]? := fun j h1 h2 h3 =>
    (Below.heap_setCell _ _ _ j h3).trans ((hg.block j (by simp; omega) (fun e => h2 e.symm)).trans (Below.heap_alloc wr o j h1))
  have hi : w.heap.size + 2 < wr.heap.size := by
    rcases Nat.lt_or_ge (w.heap.size + 2) wr.heap.size with h1 | h1
    · exact h1
    · have := M.iter; rw [Array.getElem?_eq_none h1] at this; cases this
  have hA' : ∀ g, blkOf A' = some g → blkOf A = some g ∨ wr.heap.size ≤ g := fun g hg2 => hb.elim (fun e => .inl (e ▸ hg2)) (fun e => .inr (by rw [e] at hg2; injection hg2 with hg2; simp at hg2; omega))
  { res := (h _ M.res.lt (fun e => by have := M.hA _ e; omega) (by omega)).trans M.res
    map := by
      have h0 : Blk w' (w.heap.size + 1) 25 #[.int .i64 (st.w : Nat), .int .i64 (st.h : Nat), .slice A n c, .slice A2 n2 c2] := (M.map.alloc o).grown hg (fun e => by have := M.hA _ e.symm; omega)
      have := h0.set_ 2 (.slice A' (n + 1) c')
      simpa using this
    iter := (h _ hi (fun e => by have := M.hA _ e; omega) (by omega)).trans M.iter
    walls := by
      have := hr.keep (w' := w'.setCell ⟨w.heap.size + 1, 2, none⟩ (.slice A' (n + 1) c')) (fun g hg2 => Below.heap_setCell _ _ _ g (by rcases hA' g hg2 with e | e; have := M.hA _ e; all_goals (simp; omega)))
      simpa [boolsV] using this
    spawns := M.spawns.keep fun g hg2 => h g (M.spawns.lt hg2) (fun e => M.aa g e hg2) (by have := M.hA2 g hg2; omega)
    hA := fun g hg2 => (hA' g hg2).elim (M.hA g) (fun e => by omega)
    hA2 := M.hA2
    aa := fun g hg2 e2 => (hA' g hg2).elim (fun e => M.aa g e e2) (fun e => by have := M.spawns.lt e2; omega)
    below := ((M.below.alloc M.below.size o).grown hg (by have := M.below.size; simp; omega) (fun k hk => by have := M.hA _ hk; omega)).setCell (by simp) _
    len := by simp [M.len]
    len2 := M.len2 }
theorem vecsV_snoc (l : List VecV) (v : VecV) : vecsV (l ++ [v]) = vecsV l ++ [.int .i64 v.x, .int .i64 v.y] := by simp [vecsV]
theorem RdMem.spawn {wm : World} (M : RdMem w bt pos wr st A n c A2 n2 c2) (hw : Below wr.heap.size wr wm) {v : VecV} {A' : Option Addr} {c' : Nat} (hr : Row w' 53 2 A' (n2 + 1) c' (vecsV st.spawns ++ [.int .i64 v.x, .int .i64 v.y])) (hg : wm.grownBy w' (blkOf A2))
    (hb : blkOf A' = blkOf A2 ∨ blkOf A' = some wm.heap.size) (x : Nat) : RdMem w bt pos (w'.setCell ⟨w.heap.size + 1, 3, none⟩ (.slice A' (n2 + 1) c')) ⟨st.w, st.h, x, st.walls, st.spawns ++ [v]⟩ A n c A' (n2 + 1) c' :=
  have hsz := M.map.lt
  have hws := hw.size
  have h : ∀ j, j < wr.heap.size → blkOf A2 ≠ some j → j ≠ w.heap.size + 1 → (w'.setCell ⟨w.heap.size + 1, 3, none⟩ (.slice A' (n2 + 1) c')).heap[j]? = wr.heap[j]? := fun j h1 h2 h3 =>
    (Below.heap_setCell _ _ _ j h3).trans ((hg.block j (by omega) (fun e => h2 e.symm)).trans (hw.block j h1))
  have hi : w.heap.size + 2 < wr.heap.size := by
    rcases Nat.lt_or_ge (w.heap.size + 2) wr.heap.size with h1 | h1
    · exact h1
    · have := M.iter; rw [Array.getElem?_eq_none h1] at this; cases this
  have hA' : ∀ g, blkOf A' = some g → blkOf A2 = some g ∨ wr.heap.size ≤ g := fun g hg2 => hb.elim (fun e => .inl (e ▸ hg2)) (fun e => .inr (by rw [e] at hg2; injection hg2 with hg2; omega))
  { res := (h _ M.res.lt (fun e => by have := M.hA2 _ e; omega) (by omega)).trans M.res
    map := by
      have h0 : Blk w' (w.heap.size + 1) 25 #[.int .i64 (st.w : Nat), .int .i64 (st.h : Nat), .slice A n c, .slice A2 n2 c2] := (Blk.below M.map hw hsz).grown hg (fun e => by have := M.hA2 _ e.symm; omega)
      have := h0.set_ 3 (.slice A' (n2 + 1) c')
      simpa using this
    iter := (h _ hi (fun e => by have := M.hA2 _ e; omega) (by omega)).trans M.iter
    walls := M.walls.keep fun g hg2 => h g (M.walls.lt hg2) (fun e => M.aa g hg2 e) (by have := M.hA g hg2; omega)
    spawns := by
      have := hr.keep (w' := w'.setCell ⟨w.heap.size + 1, 3, none⟩ (.slice A' (n2 + 1) c')) (fun g hg2 => Below.heap_setCell _ _ _ g (by rcases hA' g hg2 with e | e; have := M.hA2 _ e; all_goals (simp; omega)))
      simpa [vecsV_snoc] using this
    hA := M.hA
    hA2 := fun g hg2 => (hA' g hg2).elim (M.hA2 g) (fun e => by omega)
    aa := fun g hg1 e2 => (hA' g e2).elim (fun e => M.aa g hg1 e) (fun e => by have := M.walls.lt hg1; omega)
    below := ((M.below.trans (hw.mono M.below.size)).grown hg (by have := M.below.size; omega) (fun k hk => by have := M.hA2 _ hk; omega)).setCell (by simp) _
    len := M.len
    len2 := by simp [M.len2] }
theorem rdStep_nl {st2 : RdS} (h : rdStep st .nl = some st2) : st.x ≠ 0 ∧ ¬ (st.x < st.w ∧ 0 < st.h) ∧ st2 = ⟨st.x, st.h + 1, 0, st.walls, st.spawns⟩ := by
  unfold rdStep at h
  simp only [isNl, if_true] at h
  split at h
  · cases h
  · rename_i hn
    injection h with h
    exact ⟨fun e => hn (.inl e), fun e => hn (.inr e), h.symm⟩
theorem rdStep_sg {st2 : RdS} {g : Sg} (hg : isNl g = false) (h : rdStep st g = some st2) : st.h ≠ 32 ∧ st.x ≠ 32 ∧ ¬ (0 < st.h ∧ st.x = st.w) ∧ st2 = ⟨st.w, st.h, st.x + 1, st.walls ++ [isWall g], st.spawns ++ (if isSpawn g then [middle st.x st.h] else [])⟩ := by
  unfold rdStep at h
  rw [hg] at h
  simp only [Bool.false_eq_true, if_false] at h
  split at h
  · cases h
  · rename_i hn
    injection h with h
    exact ⟨fun e => hn (.inl e), fun e => hn (.inr (.inl e)), fun e => hn (.inr (.inr e)), h.symm⟩
end
set_option maxRecDepth 100000 in
set_option maxHeartbeats 8000000 in
theorem tRead (l : List Sg) (m : MapV) (hm : readF l = some m) (hl : l.length ≤ 100000) (w : World) :
    Calls Tryz.prog 64 #[.string ⟨(sgBytes l).toArray⟩] w fun e w' => ∃ s : MapS, e = .returned (.tuple #[(.agg #[.int .i64 m.W, .int .i64 m.H, .slice s.A s.n s.c, .slice s.A2 s.n2 s.c2]), .int .i64 0, .int .i64 0]) ∧ MapAt w' w'.heap.size m s ∧ Below w.heap.size w w' := by
  unfold readF at hm
  cases hr : rdAll rdStart l with
  | none => rw [hr] at hm; cases hm
  | some fin =>
    rw [hr] at hm
    simp only at hm
    split at hm
    rotate_left
    · cases hm
    · rename_i hfin
      injection hm with hm
      subst hm
      have HF := Lib.hid hfin
      have HR := Lib.hid hr
      clear hfin hr
      obtain ⟨bt, hbt⟩ : ∃ bt : ByteArray, ⟨(sgBytes l).toArray⟩ = bt := ⟨_, rfl⟩
      have HBT := Lib.hid hbt
      rw [hbt]
      clear hbt
      go_enter Tryz.func64, Tryz.ntmps64
      go_wp2
      have M0 : RdMem w bt 0 (((w.alloc (.cells #[.int .i64 0, .int .i64 0, .slice none 0 0, .slice none 0 0] 25)).alloc (.cells #[.int .i64 0, .int .i64 0, .slice none 0 0, .slice none 0 0] 25)).iter bt 0) rdStart none 0 0 none 0 0 := by
        refine ⟨?_, ?_, ?_, Row.nil_, Row.nil_, by simp [blkOf], by simp [blkOf], by simp [blkOf], ?_, rfl, rfl⟩
        · exact ((Blk.new _ _ _).alloc _).alloc _
        · have := (Blk.new (w.alloc (.cells #[.int .i64 0, .int .i64 0, .slice none 0 0, .slice none 0 0] 25)) 25 #[.int .i64 0, .int .i64 0, .slice none 0 0, .slice none 0 0]).alloc (.stringIter bt 0)
          rw [show (w.alloc (.cells #[.int .i64 0, .int .i64 0, .slice none 0 0, .slice none 0 0] 25)).heap.size = w.heap.size + 1 by simp] at this
          exact this
        · have := World.iter_heap ((w.alloc (.cells #[.int .i64 0, .int .i64 0, .slice none 0 0, .slice none 0 0] 25)).alloc (.cells #[.int .i64 0, .int .i64 0, .slice none 0 0, .slice none 0 0] 25)) bt 0
          simpa using this
        · exact Below.alloc (by repeat (first | with_reducible exact Below.refl _ _ | with_reducible assumption | with_reducible refine Below.drew ?_ | with_reducible refine below_drews ?_ _ | with_reducible refine Below.alloc ?_ (by first | omega | (simp; done) | (simp; omega)) _ | with_reducible refine Below.setCell ?_ (by first | omega | (simp; done) | (simp; omega)) _)) (by simp; omega) _
      generalize ((w.alloc (.cells #[.int .i64 0, .int .i64 0, .slice none 0 0, .slice none 0 0] 25)).alloc (.cells #[.int .i64 0, .int .i64 0, .slice none 0 0, .slice none 0 0] 25)).iter bt 0 = w0 at M0 ⊢
      go_loopw [6] (fun x wr => ∃ (k : Nat) (st : RdS) (A : Option Addr) (n c : Nat) (A2 : Option Addr) (n2 c2 : Nat), k ≤ l.length ∧ x = .int .i64 (st.x : Nat) ∧ rdAll rdStart (l.take k) = some st ∧ RdMem w bt (sgBytes (l.take k)).length wr st A n c A2 n2 c2 ∧ st.h ≤ k ∧ st.x ≤ k ∧ n ≤ k ∧ n2 ≤ k)
        (fun _ wr => bt.size - wr.iterPos (w.heap.size + 1 + 1))
      case atStart => exact ⟨0, rdStart, none, 0, 0, none, 0, 0, Nat.zero_le _, rfl, rfl, M0, Nat.le_refl _, Nat.le_refl _, Nat.le_refl _, Nat.le_refl _⟩
      case round =>
        obtain ⟨k, st, A, n, c, A2, n2, c2, hk, rfl, hst, M, b1, b2, b3, b4⟩ := hrel
        obtain ⟨pos, hpos⟩ : ∃ pos, (sgBytes (l.take k)).length = pos := ⟨_, rfl⟩
        rw [hpos] at M
        have hit : wr.iterPos (w.heap.size + 1 + 1) = pos := by
          have := M.iter
          show (match wr.heap[w.heap.size + 2]? with | some (.stringIter _ p) => p | _ => 0) = pos
          rw [this]
        have HIT := Lib.hid hit
        have HM := Lib.hid M
        clear hit M
        by_cases hlt : k < l.length
        · obtain ⟨g, hg⟩ : ∃ g, l[k]? = some g := ⟨_, List.getElem?_eq_getElem hlt⟩
          obtain ⟨st2, hs2, hst2⟩ := rdAll_take hg hst HR.out
          have hsp := sgBytes_split hg
          have hd := decode_at (sgBytes (l.take k)) (sgBytes (l.drop (k + 1))) g
          rw [← hsp, HBT.out, hpos] at hd
          have hsz : bt.size = pos + (g.bytes.length + (sgBytes (l.drop (k + 1))).length) := by
            rw [← HBT.out, size_of_bytes, hsp]; simp [hpos]
          have hlen : 1 ≤ g.bytes.length := by cases g <;> decide
          have hlt2 : pos < bt.size := by omega
          have hnx := fun ty => Lib.run_next_any_at (P := Tryz.prog) wr (w.heap.size + 1 + 1) bt pos ty HM.out.iter hlt2
          rw [hd] at hnx
          have hnext := HM.out.next (pos + g.bytes.length)
          have hpos2 := sgBytes_take hg
          rw [hpos] at hpos2
          generalize wr.iterAt (w.heap.size + 1 + 1) bt (pos + g.bytes.length) = wi at hnx hnext
          rw [← hpos2] at hnext
          have HST2 := Lib.hid hst2
          have HSZ := Lib.hid hsz
          have HP2 := Lib.hid hpos2
          have HN := Lib.hid hnext
          have m0 : wi.cell? ⟨w.heap.size + 1, 0, none⟩ = some (.int .i64 (st.w : Nat)) := hnext.map.cell 0
          have m1 : wi.cell? ⟨w.heap.size + 1, 1, none⟩ = some (.int .i64 (st.h : Nat)) := hnext.map.cell 1
          have m2 : wi.cell? ⟨w.heap.size + 1, 2, none⟩ = some (.slice A n c) := hnext.map.cell 2
          have m3 : wi.cell? ⟨w.heap.size + 1, 3, none⟩ = some (.slice A2 n2 c2) := hnext.map.cell 3
          have z0 := hnext.map.frozen 0
          have z1 := hnext.map.frozen 1
          have z2 := hnext.map.frozen 2
          have z3 := hnext.map.frozen 3
          clear hst hpos hg hsp hd hsz hpos2 hnext hst2
          cases g with
          | nl =>
            obtain ⟨x0, x1, rfl⟩ := rdStep_nl hs2
            clear hs2
            simp only [Sg.rune] at hnx
            have t0 : ((st.x : Int) == 0) = false := by rw [beq_eq_false_iff_ne]; omega
            by_cases hxw : st.x < st.w
            · have hh : ¬ 0 < st.h := fun e => x1 ⟨hxw, e⟩
              go_wp2
              have M2 := HN.out.line
              exact ⟨⟨k + 1, _, A, n, c, A2, n2, c2, hlt, rfl, HST2.out, M2, by show st.h + 1 ≤ k + 1; omega, Nat.zero_le _, by omega, by omega⟩, by rw [M2.at_pos, HIT.out, HP2.out]; have := HSZ.out; simp only [Sg.bytes, List.length_cons, List.length_nil] at this ⊢; omega⟩
            · go_wp2
              have M2 := HN.out.line
              exact ⟨⟨k + 1, _, A, n, c, A2, n2, c2, hlt, rfl, HST2.out, M2, by show st.h + 1 ≤ k + 1; omega, Nat.zero_le _, by omega, by omega⟩, by rw [M2.at_pos, HIT.out, HP2.out]; have := HSZ.out; simp only [Sg.bytes, List.length_cons, List.length_nil] at this ⊢; omega⟩
          | wall =>
            obtain ⟨x0, x1, x2, rfl⟩ := rdStep_sg rfl hs2
            clear hs2
            simp only [Sg.rune] at hnx
            have t1 : ((st.h : Int) == 32) = false := by rw [beq_eq_false_iff_ne]; omega
            have t2 : ((st.x : Int) == 32) = false := by rw [beq_eq_false_iff_ne]; omega
            have hrow := HN.out.walls.keep (w' := wi.alloc (.cells #[.bool true] 4)) (fun g hg => Below.heap_alloc _ _ g (HN.out.walls.lt hg))
            have hnews : Reads (wi.alloc (.cells #[.bool true] 4)) (wi.heap.size + 1) 1 (some ⟨wi.heap.size, 0, none⟩) 1 [.bool true] := Reads.blk (size := 1) (n := 1) (g := wi.heap.size) (heap_alloc_new wi (.cells #[.bool true] 4)) (by omega) rfl
            have HRW := Lib.hid hrow
            have HV := Lib.hid hnews
            have hblt := HN.out.map.lt
            clear hrow hnews
            by_cases hh : 0 < st.h
            · have t3 : ((st.x : Int) == (st.w : Int)) = false := by rw [beq_eq_false_iff_ne]; intro e; exact x2 ⟨hh, by omega⟩
              go_wp2_with (at_builtin; refine wpList_row rfl (.tmp 67) (.tmp 70) rfl elt22 A n c (boolsV st.walls) rfl HRW.out (wi.heap.size + 1) (some ⟨wi.heap.size, 0, none⟩) 1 1 [.bool true] rfl HV.out (by simp [Value.oneCell']) (by omega) ?_; intro A' c' w2 hr2 hg2 hb2; have mb2 := (HN.out.map.alloc (.cells #[.bool true] 4)).grown hg2 (fun e => by have := HN.out.hA _ e.symm; omega); have y2 := mb2.cell 2; have yz := mb2.frozen 2)
              have M2 := HN.out.wall _ hr2 hg2 hb2 (st.x + 1)
              exact ⟨⟨k + 1, _, A', n + 1, c', A2, n2, c2, hlt, by go_num, by have := HST2.out; simpa [isWall, isSpawn] using this, M2, by show st.h ≤ k + 1; omega, by show st.x + 1 ≤ k + 1; omega, by omega, by omega⟩, by rw [M2.at_pos, HIT.out, HP2.out]; have := HSZ.out; simp only [Sg.bytes, List.length_cons, List.length_nil] at this ⊢; omega⟩
            · go_wp2_with (at_builtin; refine wpList_row rfl (.tmp 67) (.tmp 70) rfl elt22 A n c (boolsV st.walls) rfl HRW.out (wi.heap.size + 1) (some ⟨wi.heap.size, 0, none⟩) 1 1 [.bool true] rfl HV.out (by simp [Value.oneCell']) (by omega) ?_; intro A' c' w2 hr2 hg2 hb2; have mb2 := (HN.out.map.alloc (.cells #[.bool true] 4)).grown hg2 (fun e => by have := HN.out.hA _ e.symm; omega); have y2 := mb2.cell 2; have yz := mb2.frozen 2)
              have M2 := HN.out.wall _ hr2 hg2 hb2 (st.x + 1)
              exact ⟨⟨k + 1, _, A', n + 1, c', A2, n2, c2, hlt, by go_num, by have := HST2.out; simpa [isWall, isSpawn] using this, M2, by show st.h ≤ k + 1; omega, by show st.x + 1 ≤ k + 1; omega, by omega, by omega⟩, by rw [M2.at_pos, HIT.out, HP2.out]; have := HSZ.out; simp only [Sg.bytes, List.length_cons, List.length_nil] at this ⊢; omega⟩
          | floor =>
            obtain ⟨x0, x1, x2, rfl⟩ := rdStep_sg rfl hs2
            clear hs2
            simp only [Sg.rune] at hnx
            have t1 : ((st.h : Int) == 32) = false := by rw [beq_eq_false_iff_ne]; omega
            have t2 : ((st.x : Int) == 32) = false := by rw [beq_eq_false_iff_ne]; omega
            have hrow := HN.out.walls.keep (w' := wi.alloc (.cells #[.bool false] 4)) (fun g hg => Below.heap_alloc _ _ g (HN.out.walls.lt hg))
            have hnews : Reads (wi.alloc (.cells #[.bool false] 4)) (wi.heap.size + 1) 1 (some ⟨wi.heap.size, 0, none⟩) 1 [.bool false] := Reads.blk (size := 1) (n := 1) (g := wi.heap.size) (heap_alloc_new wi (.cells #[.bool false] 4)) (by omega) rfl
            have HRW := Lib.hid hrow
            have HV := Lib.hid hnews
            have hblt := HN.out.map.lt
            clear hrow hnews
            by_cases hh : 0 < st.h
            · have t3 : ((st.x : Int) == (st.w : Int)) = false := by rw [beq_eq_false_iff_ne]; intro e; exact x2 ⟨hh, by omega⟩
              go_wp2_with (at_builtin; refine wpList_row rfl (.tmp 67) (.tmp 70) rfl elt22 A n c (boolsV st.walls) rfl HRW.out (wi.heap.size + 1) (some ⟨wi.heap.size, 0, none⟩) 1 1 [.bool false] rfl HV.out (by simp [Value.oneCell']) (by omega) ?_; intro A' c' w2 hr2 hg2 hb2; have mb2 := (HN.out.map.alloc (.cells #[.bool false] 4)).grown hg2 (fun e => by have := HN.out.hA _ e.symm; omega); have y2 := mb2.cell 2; have yz := mb2.frozen 2)
              have M2 := HN.out.wall _ hr2 hg2 hb2 (st.x + 1)
              exact ⟨⟨k + 1, _, A', n + 1, c', A2, n2, c2, hlt, by go_num, by have := HST2.out; simpa [isWall, isSpawn] using this, M2, by show st.h ≤ k + 1; omega, by show st.x + 1 ≤ k + 1; omega, by omega, by omega⟩, by rw [M2.at_pos, HIT.out, HP2.out]; have := HSZ.out; simp only [Sg.bytes, List.length_cons, List.length_nil] at this ⊢; omega⟩
            · go_wp2_with (at_builtin; refine wpList_row rfl (.tmp 67) (.tmp 70) rfl elt22 A n c (boolsV st.walls) rfl HRW.out (wi.heap.size + 1) (some ⟨wi.heap.size, 0, none⟩) 1 1 [.bool false] rfl HV.out (by simp [Value.oneCell']) (by omega) ?_; intro A' c' w2 hr2 hg2 hb2; have mb2 := (HN.out.map.alloc (.cells #[.bool false] 4)).grown hg2 (fun e => by have := HN.out.hA _ e.symm; omega); have y2 := mb2.cell 2; have yz := mb2.frozen 2)
              have M2 := HN.out.wall _ hr2 hg2 hb2 (st.x + 1)
              exact ⟨⟨k + 1, _, A', n + 1, c', A2, n2, c2, hlt, by go_num, by have := HST2.out; simpa [isWall, isSpawn] using this, M2, by show st.h ≤ k + 1; omega, by show st.x + 1 ≤ k + 1; omega, by omega, by omega⟩, by rw [M2.at_pos, HIT.out, HP2.out]; have := HSZ.out; simp only [Sg.bytes, List.length_cons, List.length_nil] at this ⊢; omega⟩
          | spawn =>
            obtain ⟨x0, x1, x2, rfl⟩ := rdStep_sg rfl hs2
            clear hs2
            simp only [Sg.rune] at hnx
            have t1 : ((st.h : Int) == 32) = false := by rw [beq_eq_false_iff_ne]; omega
            have t2 : ((st.x : Int) == 32) = false := by rw [beq_eq_false_iff_ne]; omega
            have hrow := HN.out.walls.keep (w' := wi.alloc (.cells #[.bool false] 4)) (fun g hg => Below.heap_alloc _ _ g (HN.out.walls.lt hg))
            have hnews : Reads (wi.alloc (.cells #[.bool false] 4)) (wi.heap.size + 1) 1 (some ⟨wi.heap.size, 0, none⟩) 1 [.bool false] := Reads.blk (size := 1) (n := 1) (g := wi.heap.size) (heap_alloc_new wi (.cells #[.bool false] 4)) (by omega) rfl
            have HRW := Lib.hid hrow
            have HV := Lib.hid hnews
            have hblt := HN.out.map.lt
            clear hrow hnews
            by_cases hh : 0 < st.h
            · have t3 : ((st.x : Int) == (st.w : Int)) = false := by rw [beq_eq_false_iff_ne]; intro e; exact x2 ⟨hh, by omega⟩
              go_wp2_with (at_builtin; refine wpList_row rfl (.tmp 67) (.tmp 70) rfl elt22 A n c (boolsV st.walls) rfl HRW.out (wi.heap.size + 1) (some ⟨wi.heap.size, 0, none⟩) 1 1 [.bool false] rfl HV.out (by simp [Value.oneCell']) (by omega) ?_; intro A' c' w2 hr2 hg2 hb2; have mb2 := (HN.out.map.alloc (.cells #[.bool false] 4)).grown hg2 (fun e => by have := HN.out.hA _ e.symm; omega); have y2 := mb2.cell 2; have yz := mb2.frozen 2)
              have M2 := HN.out.wall _ hr2 hg2 hb2 st.x
              clear mb2 y2 yz hr2 hg2 hb2 m0 m1 m2 m3 z0 z1 z2 z3
              generalize w2.setCell ⟨w.heap.size + 1, 2, none⟩ (.slice A' (n + 1) c') = w3 at M2 ⊢
              have HM2 := Lib.hid M2
              have n1 : w3.cell? ⟨w.heap.size + 1, 1, none⟩ = some (.int .i64 (st.h : Nat)) := M2.map.cell 1
              have n3 : w3.cell? ⟨w.heap.size + 1, 3, none⟩ = some (.slice A2 n2 c2) := M2.map.cell 3
              have nz := M2.map.frozen 3
              have nl := M2.map.lt
              have hmid := fun W => tMiddle (st.x : Int) (st.h : Int) (by omega) (by omega) (by omega) (by omega) W
              obtain ⟨mv, hmv⟩ : ∃ mv, middle (st.x : Int) (st.h : Int) = mv := ⟨_, rfl⟩
              simp only [hmv] at hmid
              have HMV := Lib.hid hmv
              clear M2 hmv
              go_region_law (first
                  | (go_simp; go_at_call 133; refine (hmid _).mono ?_; rintro e wm ⟨rfl, hbm0⟩; have hbm : Below w3.heap.size w3 wm := ⟨hbm0.os, hbm0.tape, hbm0.output, hbm0.size, hbm0.block⟩; clear hbm0; obtain ⟨hc1, hf1⟩ := bcell hbm; have hms := hbm.size; (try simp at hms); have nl2 : w.heap.size + 1 < wm.heap.size := (by omega); have s1 : wm.cell? ⟨w.heap.size + 1, 1, none⟩ = some (.int .i64 (st.h : Nat)) := (hbm.cell (p := ⟨w.heap.size + 1, 1, none⟩) nl).trans n1; have s3 : wm.cell? ⟨w.heap.size + 1, 3, none⟩ = some (.slice A2 n2 c2) := (hbm.cell (p := ⟨w.heap.size + 1, 3, none⟩) nl).trans n3)
                  | (refine step_row rfl (.tmp 76) (.tmp 81) rfl elt23 A2 n2 c2 (vecsV st.spawns) (by simp [Act.eval, Act.put]) (Row.keep HM2.out.spawns (fun g hg => ((hbm.mono (Nat.le_refl _)).alloc hms (.cells #[.int .i64 mv.x, .int .i64 mv.y] 53)).block g (HM2.out.spawns.lt hg))) (wm.heap.size + 1) (some ⟨wm.heap.size, 0, none⟩) 1 1 [.int .i64 mv.x, .int .i64 mv.y] (by simp [Act.eval, Act.put]) (Reads.blk (size := 2) (n := 1) (g := wm.heap.size) (heap_alloc_new wm (.cells #[.int .i64 mv.x, .int .i64 mv.y] 53)) (by omega) rfl) (by simp [Value.oneCell']) (by omega) ?_; intro A3 c3 w4 hr4 hg4 hb4; have mb4 := ((Blk.below HM2.out.map hbm nl).alloc (.cells #[.int .i64 mv.x, .int .i64 mv.y] 53)).grown hg4 (fun e => by have := HM2.out.hA2 _ e.symm; omega); have s1 : w4.cell? ⟨w.heap.size + 1, 1, none⟩ = some (.int .i64 (st.h : Nat)) := mb4.cell 1; have s3 : w4.cell? ⟨w.heap.size + 1, 3, none⟩ = some (.slice A2 n2 c2) := mb4.cell 3; have z4 := mb4.frozen 3; have HR4 := Lib.hid hr4; have HG4 := Lib.hid hg4; have HB4 := Lib.hid hb4; have HBM := Lib.hid hbm; clear hr4 hg4 hb4 mb4 hc1 hf1 hbm))
              all_goals
                go_wp2
                have M3 := HM2.out.spawn (HBM.out.alloc HBM.out.size _) HR4.out HG4.out HB4.out (st.x + 1)
                exact ⟨⟨k + 1, _, A', n + 1, c', A3, n2 + 1, c3, hlt, by go_num, by have := HST2.out; simpa [isWall, isSpawn, HMV.out] using this, M3, by show st.h ≤ k + 1; omega, by show st.x + 1 ≤ k + 1; omega, by omega, by omega⟩, by rw [M3.at_pos, HIT.out, HP2.out]; have := HSZ.out; simp only [Sg.bytes, List.length_cons, List.length_nil] at this ⊢; omega⟩
            · go_wp2_with (at_builtin; refine wpList_row rfl (.tmp 67) (.tmp 70) rfl elt22 A n c (boolsV st.walls) rfl HRW.out (wi.heap.size + 1) (some ⟨wi.heap.size, 0, none⟩) 1 1 [.bool false] rfl HV.out (by simp [Value.oneCell']) (by omega) ?_; intro A' c' w2 hr2 hg2 hb2; have mb2 := (HN.out.map.alloc (.cells #[.bool false] 4)).grown hg2 (fun e => by have := HN.out.hA _ e.symm; omega); have y2 := mb2.cell 2; have yz := mb2.frozen 2)
              have M2 := HN.out.wall _ hr2 hg2 hb2 st.x
              clear mb2 y2 yz hr2 hg2 hb2 m0 m1 m2 m3 z0 z1 z2 z3
              generalize w2.setCell ⟨w.heap.size + 1, 2, none⟩ (.slice A' (n + 1) c') = w3 at M2 ⊢
              have HM2 := Lib.hid M2
              have n1 : w3.cell? ⟨w.heap.size + 1, 1, none⟩ = some (.int .i64 (st.h : Nat)) := M2.map.cell 1
              have n3 : w3.cell? ⟨w.heap.size + 1, 3, none⟩ = some (.slice A2 n2 c2) := M2.map.cell 3
              have nz := M2.map.frozen 3
              have nl := M2.map.lt
              have hmid := fun W => tMiddle (st.x : Int) (st.h : Int) (by omega) (by omega) (by omega) (by omega) W
              obtain ⟨mv, hmv⟩ : ∃ mv, middle (st.x : Int) (st.h : Int) = mv := ⟨_, rfl⟩
              simp only [hmv] at hmid
              have HMV := Lib.hid hmv
              clear M2 hmv
              go_region_law (first
                  | (go_simp; go_at_call 133; refine (hmid _).mono ?_; rintro e wm ⟨rfl, hbm0⟩; have hbm : Below w3.heap.size w3 wm := ⟨hbm0.os, hbm0.tape, hbm0.output, hbm0.size, hbm0.block⟩; clear hbm0; obtain ⟨hc1, hf1⟩ := bcell hbm; have hms := hbm.size; (try simp at hms); have nl2 : w.heap.size + 1 < wm.heap.size := (by omega); have s1 : wm.cell? ⟨w.heap.size + 1, 1, none⟩ = some (.int .i64 (st.h : Nat)) := (hbm.cell (p := ⟨w.heap.size + 1, 1, none⟩) nl).trans n1; have s3 : wm.cell? ⟨w.heap.size + 1, 3, none⟩ = some (.slice A2 n2 c2) := (hbm.cell (p := ⟨w.heap.size + 1, 3, none⟩) nl).trans n3)
                  | (refine step_row rfl (.tmp 76) (.tmp 81) rfl elt23 A2 n2 c2 (vecsV st.spawns) (by simp [Act.eval, Act.put]) (Row.keep HM2.out.spawns (fun g hg => ((hbm.mono (Nat.le_refl _)).alloc hms (.cells #[.int .i64 mv.x, .int .i64 mv.y] 53)).block g (HM2.out.spawns.lt hg))) (wm.heap.size + 1) (some ⟨wm.heap.size, 0, none⟩) 1 1 [.int .i64 mv.x, .int .i64 mv.y] (by simp [Act.eval, Act.put]) (Reads.blk (size := 2) (n := 1) (g := wm.heap.size) (heap_alloc_new wm (.cells #[.int .i64 mv.x, .int .i64 mv.y] 53)) (by omega) rfl) (by simp [Value.oneCell']) (by omega) ?_; intro A3 c3 w4 hr4 hg4 hb4; have mb4 := ((Blk.below HM2.out.map hbm nl).alloc (.cells #[.int .i64 mv.x, .int .i64 mv.y] 53)).grown hg4 (fun e => by have := HM2.out.hA2 _ e.symm; omega); have s1 : w4.cell? ⟨w.heap.size + 1, 1, none⟩ = some (.int .i64 (st.h : Nat)) := mb4.cell 1; have s3 : w4.cell? ⟨w.heap.size + 1, 3, none⟩ = some (.slice A2 n2 c2) := mb4.cell 3; have z4 := mb4.frozen 3; have HR4 := Lib.hid hr4; have HG4 := Lib.hid hg4; have HB4 := Lib.hid hb4; have HBM := Lib.hid hbm; clear hr4 hg4 hb4 mb4 hc1 hf1 hbm))
              all_goals
                go_wp2
                have M3 := HM2.out.spawn (HBM.out.alloc HBM.out.size _) HR4.out HG4.out HB4.out (st.x + 1)
                exact ⟨⟨k + 1, _, A', n + 1, c', A3, n2 + 1, c3, hlt, by go_num, by have := HST2.out; simpa [isWall, isSpawn, HMV.out] using this, M3, by show st.h ≤ k + 1; omega, by show st.x + 1 ≤ k + 1; omega, by omega, by omega⟩, by rw [M3.at_pos, HIT.out, HP2.out]; have := HSZ.out; simp only [Sg.bytes, List.length_cons, List.length_nil] at this ⊢; omega⟩
        · have hkl : k = l.length := by omega
          have hst2 : rdAll rdStart l = some st := by rw [hkl, List.take_length] at hst; exact hst
          obtain rfl : fin = st := by have := HR.out; rw [hst2] at this; injection this with this; exact this.symm
          obtain ⟨f0, f1⟩ := HF.out
          have hsz : bt.size = pos := by rw [← HBT.out, size_of_bytes, ← hpos, hkl, List.take_length]
          have hnx := fun ty => Lib.run_next_end_at (P := Tryz.prog) wr (w.heap.size + 1 + 1) bt pos ty HM.out.iter (by omega)
          have hx0 : fin.x = 0 := f0
          have hl2 := HM.out.len2
          have hn2 : ((n2 : Int) == 0) = false := by rw [beq_eq_false_iff_ne]; omega
          have m0 : wr.cell? ⟨w.heap.size + 1, 0, none⟩ = some (.int .i64 (fin.w : Nat)) := HM.out.map.cell 0
          have m1 : wr.cell? ⟨w.heap.size + 1, 1, none⟩ = some (.int .i64 (fin.h : Nat)) := HM.out.map.cell 1
          have m2 : wr.cell? ⟨w.heap.size + 1, 2, none⟩ = some (.slice A n c) := HM.out.map.cell 2
          have m3 : wr.cell? ⟨w.heap.size + 1, 3, none⟩ = some (.slice A2 n2 c2) := HM.out.map.cell 3
          have r0 : wr.cell? ⟨w.heap.size, 0, none⟩ = some (.int .i64 0) := HM.out.res.cell 0
          have r1 : wr.cell? ⟨w.heap.size, 1, none⟩ = some (.int .i64 0) := HM.out.res.cell 1
          have r2 : wr.cell? ⟨w.heap.size, 2, none⟩ = some (.slice none 0 0) := HM.out.res.cell 2
          have r3 : wr.cell? ⟨w.heap.size, 3, none⟩ = some (.slice none 0 0) := HM.out.res.cell 3
          have z0 := HM.out.res.frozen 0
          have z1 := HM.out.res.frozen 1
          have z2 := HM.out.res.frozen 2
          have z3 := HM.out.res.frozen 3
          have hrl := HM.out.res.lt
          rw [hx0]
          clear hx0 hkl hst hst2 hsz hl2 hpos
          go_wp2
          have hset : ∀ g : Nat, g ≠ w.heap.size → ((((wr.setCell ⟨w.heap.size, 0, none⟩ (.int .i64 (fin.w : Nat))).setCell ⟨w.heap.size, 1, none⟩ (.int .i64 (fin.h : Nat))).setCell ⟨w.heap.size, 2, none⟩ (.slice A n c)).setCell ⟨w.heap.size, 3, none⟩ (.slice A2 n2 c2)).heap[g]? = wr.heap[g]? := fun g hg => (Below.heap_setCell _ _ _ g hg).trans ((Below.heap_setCell _ _ _ g hg).trans ((Below.heap_setCell _ _ _ g hg).trans (Below.heap_setCell _ _ _ g hg)))
          have rw1 := HM.out.walls.keep (w' := ((((wr.setCell ⟨w.heap.size, 0, none⟩ (.int .i64 (fin.w : Nat))).setCell ⟨w.heap.size, 1, none⟩ (.int .i64 (fin.h : Nat))).setCell ⟨w.heap.size, 2, none⟩ (.slice A n c)).setCell ⟨w.heap.size, 3, none⟩ (.slice A2 n2 c2))) (fun g hg => hset g (by have := HM.out.hA g hg; omega))
          have rw2 := HM.out.spawns.keep (w' := ((((wr.setCell ⟨w.heap.size, 0, none⟩ (.int .i64 (fin.w : Nat))).setCell ⟨w.heap.size, 1, none⟩ (.int .i64 (fin.h : Nat))).setCell ⟨w.heap.size, 2, none⟩ (.slice A n c)).setCell ⟨w.heap.size, 3, none⟩ (.slice A2 n2 c2))) (fun g hg => hset g (by have := HM.out.hA2 g hg; omega))
          have hB := HM.out.below
          have hBf : Below w.heap.size w ((((wr.setCell ⟨w.heap.size, 0, none⟩ (.int .i64 (fin.w : Nat))).setCell ⟨w.heap.size, 1, none⟩ (.int .i64 (fin.h : Nat))).setCell ⟨w.heap.size, 2, none⟩ (.slice A n c)).setCell ⟨w.heap.size, 3, none⟩ (.slice A2 n2 c2)) := (by repeat (first | with_reducible exact Below.refl _ _ | with_reducible assumption | with_reducible refine Below.drew ?_ | with_reducible refine below_drews ?_ _ | with_reducible refine Below.alloc ?_ (by first | omega | (simp; done) | (simp; omega)) _ | with_reducible refine Below.setCell ?_ (by first | omega | (simp; done) | (simp; omega)) _))
          have hcm : c ≤ 9223372036854775807 := by have := rw1.2.2.1; unfold maxLen at this; exact this
          have hcm2 : n2 ≤ 9223372036854775807 := by have := rw2.2.2.1; have := rw2.2.1; unfold maxLen at *; omega
          have hmat : MapAt ((((wr.setCell ⟨w.heap.size, 0, none⟩ (.int .i64 (fin.w : Nat))).setCell ⟨w.heap.size, 1, none⟩ (.int .i64 (fin.h : Nat))).setCell ⟨w.heap.size, 2, none⟩ (.slice A n c)).setCell ⟨w.heap.size, 3, none⟩ (.slice A2 n2 c2)) ((((wr.setCell ⟨w.heap.size, 0, none⟩ (.int .i64 (fin.w : Nat))).setCell ⟨w.heap.size, 1, none⟩ (.int .i64 (fin.h : Nat))).setCell ⟨w.heap.size, 2, none⟩ (.slice A n c)).setCell ⟨w.heap.size, 3, none⟩ (.slice A2 n2 c2)).heap.size ⟨fin.w, fin.h, fin.walls, fin.spawns⟩ ⟨A, n, c, A2, n2, c2⟩ := ⟨rw1.reads (by decide), rw2.reads (by decide), rw1.2.1, hcm, hcm2⟩
          have HX := Lib.hid (show _ ∧ _ from ⟨hmat, hBf⟩)
          clear hset rw1 rw2 hmat hBf hB
          refine bodyPost_ret (v := .tuple #[.agg #[.int .i64 (fin.w : Nat), .int .i64 (fin.h : Nat), .slice A n c, .slice A2 n2 c2], .int .i64 0, .int .i64 0]) (by simp [results, Tryz.results64, go_sem, r0, r1, r2, r3]) rfl ?_
          exact ⟨⟨A, n, c, A2, n2, c2⟩, rfl, HX.out.1, HX.out.2⟩
end Go.Proofs.YtojbijapdkohlaaGreatDoor
