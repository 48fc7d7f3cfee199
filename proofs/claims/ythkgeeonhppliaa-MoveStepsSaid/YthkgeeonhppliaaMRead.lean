/- The walk of the reference's Read, at texts of signs. (Printed by gen_mread.py.) -/
import Derived.Test.YthkgeeonhppliaaRSign
import Derived.Test.YthkgeeonhppliaaMSame
import Derived.Test.YthkgeeonhppliaaRead
import Derived.Deep.RegionLaw
import Derived.Deep.DeepCutAuto
set_option linter.unusedSimpArgs false
set_option linter.unusedVariables false
namespace Go.Proofs.Ythkgeeonhppliaa
open Go.RowKit
structure RrMem (w wr : World) (st : RdS) (A : Option Addr) (n c : Nat) (A2 : Option Addr) (n2 c2 : Nat) : Prop where
  res : Blk wr w.heap.size 45 #[.int .i64 0, .int .i64 0, .slice none 0 0, .slice none 0 0]
  map : Blk wr (w.heap.size + 1) 45 #[.int .i64 (st.w : Nat), .int .i64 (st.h : Nat), .slice A n c, .slice A2 n2 c2]
  walls : Row wr 4 1 A n c (boolsV st.walls)
  spawns : Row wr 28 2 A2 n2 c2 (vecsV st.spawns)
  hA : ∀ g, blkOf A = some g → w.heap.size + 2 ≤ g
  hA2 : ∀ g, blkOf A2 = some g → w.heap.size + 2 ≤ g
  aa : ∀ g, blkOf A = some g → blkOf A2 ≠ some g
  below : Below w.heap.size w wr
  len : st.walls.length = n
  len2 : st.spawns.length = n2
section
variable {w wr w' : World} {st : RdS} {A A2 : Option Addr} {n c n2 c2 : Nat}
theorem RrMem.bel (M : RrMem w wr st A n c A2 n2 c2) (hb : Below wr.heap.size wr w') : RrMem w w' st A n c A2 n2 c2 :=
  { M with
    res := M.res.below hb M.res.lt
    map := M.map.below hb M.map.lt
    walls := M.walls.keep fun g hg => hb.block g (M.walls.lt hg)
    spawns := M.spawns.keep fun g hg => hb.block g (M.spawns.lt hg)
    below := M.below.trans (hb.mono M.below.size) }
theorem RrMem.line (M : RrMem w wr st A n c A2 n2 c2) : RrMem w ((wr.setCell ⟨w.heap.size + 1, 0, none⟩ (.int .i64 (st.x : Nat))).setCell ⟨w.heap.size + 1, 1, none⟩ (.int .i64 ((st.h : Int) + 1))) ⟨st.x, st.h + 1, 0, st.walls, st.spawns⟩ A n c A2 n2 c2 :=
  have h : ∀ j, j ≠ w.heap.size + 1 → ((wr.setCell ⟨w.heap.size + 1, 0, none⟩ (.int .i64 (st.x : Nat))).setCell ⟨w.heap.size + 1, 1, none⟩ (.int .i64 ((st.h : Int) + 1))).heap[j]? = wr.heap[j]? := fun j hj =>
    (Below.heap_setCell _ _ _ j hj).trans (Below.heap_setCell _ _ _ j hj)
  { M with
    res := (h _ (by omega)).trans M.res
    map := by
      have := (M.map.set_ 0 (.int .i64 (st.x : Nat))).set_ 1 (.int .i64 ((st.h : Int) + 1))
      simpa using this
    walls := M.walls.keep fun g hg => h g (by have := M.hA g hg; omega)
    spawns := M.spawns.keep fun g hg => h g (by have := M.hA2 g hg; omega)
    below := (M.below.setCell (by simp) _).setCell (by simp) _ }
theorem RrMem.wall (M : RrMem w wr st A n c A2 n2 c2) (o : Obj) {b : Bool} {A' : Option Addr} {c' : Nat} (hr : Row w' 4 1 A' (n + 1) c' (boolsV st.walls ++ [.bool b])) (hg : (wr.alloc o).grownBy w' (blkOf A))
    (hb : blkOf A' = blkOf A ∨ blkOf A' = some (wr.alloc o).heap.size) (x : Nat) : RrMem w (w'.setCell ⟨w.heap.size + 1, 2, none⟩ (.slice A' (n + 1) c')) ⟨st.w, st.h, x, st.walls ++ [b], st.spawns⟩ A' (n + 1) c' A2 n2 c2 :=
  have hsz := M.map.lt
  have h : ∀ j, j < wr.heap.size → blkOf A ≠ some j → j ≠ w.heap.size + 1 → (w'.setCell ⟨w.heap.size + 1, 2, none⟩ (.slice A' (n + 1) c')).heap[j]? = wr.heap[j]? := fun j h1 h2 h3 =>
    (Below.heap_setCell _ _ _ j h3).trans ((hg.block j (by simp; omega) (fun e => h2 e.symm)).trans (Below.heap_alloc wr o j h1))
  have hA' : ∀ g, blkOf A' = some g → blkOf A = some g ∨ wr.heap.size ≤ g := fun g hg2 => hb.elim (fun e => .inl (e ▸ hg2)) (fun e => .inr (by rw [e] at hg2; injection hg2 with hg2; simp at hg2; omega))
  { res := (h _ M.res.lt (fun e => by have := M.hA _ e; omega) (by omega)).trans M.res
    map := by
      have h0 : Blk w' (w.heap.size + 1) 45 #[.int .i64 (st.w : Nat), .int .i64 (st.h : Nat), .slice A n c, .slice A2 n2 c2] := (M.map.alloc o).grown hg (fun e => by have := M.hA _ e.symm; omega)
      have := h0.set_ 2 (.slice A' (n + 1) c')
      simpa using this
    walls := by
      have := hr.keep (w' := w'.setCell ⟨w.heap.size + 1, 2, none⟩ (.slice A' (n + 1) c')) (fun g hg2 => Below.heap_setCell _ _ _ g (by rcases hA' g hg2 with e | e; have := M.hA _ e; all_goals (simp; omega)))
      simpa [boolsV] using this
    spawns := M.spawns.keep fun g hg2 => h g (M.spawns.lt hg2) (fun e => M.aa g e hg2) (by have := M.hA2 g hg2; omega)
    hA := fun g hg2 => (hA' g hg2).elim (M.hA g) (fun e => by omega)
    hA2 := M.hA2
    aa := fun g hg2 e2 => (hA' g hg2).elim (fun e => M.aa g e e2) (fun e => by have := M.spawns.lt e2; omega)
    below := ((M.below.alloc M.below.size o).grown hg (by have := M.below.size; simp; omega) (fun k hk => by have := M.hA _ hk; omega)).setCell (by simp) _
    len := by simp [M.len]
    len2 := M.len2 }
theorem RrMem.spawn {wm : World} (M : RrMem w wr st A n c A2 n2 c2) (hw : Below wr.heap.size wr wm) {v : VecV} {A' : Option Addr} {c' : Nat} (hr : Row w' 28 2 A' (n2 + 1) c' (vecsV st.spawns ++ [.int .i64 v.x, .int .i64 v.y])) (hg : wm.grownBy w' (blkOf A2))
    (hb : blkOf A' = blkOf A2 ∨ blkOf A' = some wm.heap.size) (x : Nat) : RrMem w (w'.setCell ⟨w.heap.size + 1, 3, none⟩ (.slice A' (n2 + 1) c')) ⟨st.w, st.h, x, st.walls, st.spawns ++ [v]⟩ A n c A' (n2 + 1) c' :=
  have hsz := M.map.lt
  have hws := hw.size
  have h : ∀ j, j < wr.heap.size → blkOf A2 ≠ some j → j ≠ w.heap.size + 1 → (w'.setCell ⟨w.heap.size + 1, 3, none⟩ (.slice A' (n2 + 1) c')).heap[j]? = wr.heap[j]? := fun j h1 h2 h3 =>
    (Below.heap_setCell _ _ _ j h3).trans ((hg.block j (by omega) (fun e => h2 e.symm)).trans (hw.block j h1))
  have hA' : ∀ g, blkOf A' = some g → blkOf A2 = some g ∨ wr.heap.size ≤ g := fun g hg2 => hb.elim (fun e => .inl (e ▸ hg2)) (fun e => .inr (by rw [e] at hg2; injection hg2 with hg2; omega))
  { res := (h _ M.res.lt (fun e => by have := M.hA2 _ e; omega) (by omega)).trans M.res
    map := by
      have h0 : Blk w' (w.heap.size + 1) 45 #[.int .i64 (st.w : Nat), .int .i64 (st.h : Nat), .slice A n c, .slice A2 n2 c2] := (Blk.below M.map hw hsz).grown hg (fun e => by have := M.hA2 _ e.symm; omega)
      have := h0.set_ 3 (.slice A' (n2 + 1) c')
      simpa using this
    walls := M.walls.keep fun g hg2 => h g (M.walls.lt hg2) (fun e => M.aa g hg2 e) (by have := M.hA g hg2; omega)
    spawns := by
      have := hr.keep (w' := w'.setCell ⟨w.heap.size + 1, 3, none⟩ (.slice A' (n2 + 1) c')) (fun g hg2 => Below.heap_setCell _ _ _ g (by rcases hA' g hg2 with e | e; have := M.hA2 _ e; all_goals (simp; omega)))
      simpa [vecsV_snoc] using this
    hA := M.hA
    hA2 := fun g hg2 => (hA' g hg2).elim (M.hA2 g) (fun e => by omega)
    aa := fun g hg1 e2 => (hA' g e2).elim (fun e => M.aa g hg1 e) (fun e => by have := M.walls.lt hg1; omega)
    below := ((M.below.trans (hw.mono M.below.size)).grown hg (by have := M.below.size; omega) (fun k hk => by have := M.hA2 _ hk; omega)).setCell (by simp) _
    len := M.len
    len2 := by simp [M.len2] }
end
/-- What holds of a state on the way. -/
structure RdOk (st : RdS) : Prop where
  h32 : st.h ≤ 32
  x32 : st.x ≤ 32
  hx : 0 < st.x → st.h < 32
  xw : 0 < st.h → st.x ≤ st.w
theorem RdOk.step {st st2 : RdS} {g : Sg} (h : RdOk st) (hs : rdStep st g = some st2) : RdOk st2 := by
  obtain ⟨h1, h2, h3, h4⟩ := h
  cases hg : isNl g with
  | true =>
    have : g = .nl := by cases g <;> first | rfl | cases hg
    subst this
    obtain ⟨a, b, rfl⟩ := rdStep_nl hs
    exact ⟨by have := h3 (by omega); show st.h + 1 ≤ 32; omega, by show 0 ≤ 32; omega, fun h => by simp at h, fun _ => by show 0 ≤ st.x; omega⟩
  | false =>
    obtain ⟨a, b, c, rfl⟩ := rdStep_sg hg hs
    exact ⟨h1, by show st.x + 1 ≤ 32; omega, fun _ => by show st.h < 32; omega, fun h0 => by have := h4 h0; show st.x + 1 ≤ st.w; have : ¬ st.x = st.w := fun e => c ⟨h0, e⟩; omega⟩
def RrRet (w : World) (fin : RdS) (e : Ending) (w' : World) : Prop :=
  ∃ (m : MapV) (s : MapS) (p : Int), e = .returned (.tuple #[(.agg #[.int .i64 m.W, .int .i64 m.H, .slice s.A s.n s.c, .slice s.A2 s.n2 s.c2]), .int .i64 p, .int .i64 (if fin.spawns.length = 0 then 2 else 0)]) ∧
      (fin.spawns.length ≠ 0 → m = ⟨fin.w, fin.h, fin.walls, fin.spawns⟩ ∧ MapAt w' w'.heap.size m s) ∧ Below w.heap.size w w'
set_option maxRecDepth 100000 in
set_option maxHeartbeats 16000000 in
theorem rRead (l : List Sg) (fin : RdS) (hr : rdAll rdStart l = some fin) (hx : fin.x = 0) (hl : (sgBytes l).length ≤ 100000) (hl2 : l.length ≤ 100000) (w : World) :
    Calls Try.prog 93 #[.string ⟨(sgBytes l).toArray⟩] w (RrRet w fin) := by
  have HF := Lib.hid hx
  have HR := Lib.hid hr
  clear hx hr
  obtain ⟨bt, hbt⟩ : ∃ bt : ByteArray, ⟨(sgBytes l).toArray⟩ = bt := ⟨_, rfl⟩
  have hbs : bt.size ≤ 100000 := by rw [← hbt, size_of_bytes]; exact hl
  have HBT := Lib.hid hbt
  rw [hbt]
  clear hbt hl
  go_enter Try.func93, Try.ntmps93
  go_wp2
  have M0 : RrMem w ((w.alloc (.cells #[.int .i64 0, .int .i64 0, .slice none 0 0, .slice none 0 0] 45)).alloc (.cells #[.int .i64 0, .int .i64 0, .slice none 0 0, .slice none 0 0] 45)) rdStart none 0 0 none 0 0 := by
    obtain ⟨B1, b1, b2⟩ := twoBoxes w #[.int .i64 0, .int .i64 0, .slice none 0 0, .slice none 0 0] #[.int .i64 0, .int .i64 0, .slice none 0 0, .slice none 0 0] 45 45
    exact ⟨b1, b2, Row.nil_, Row.nil_, by simp [blkOf], by simp [blkOf], by simp [blkOf], B1, rfl, rfl⟩
  generalize ((w.alloc (.cells #[.int .i64 0, .int .i64 0, .slice none 0 0, .slice none 0 0] 45)).alloc (.cells #[.int .i64 0, .int .i64 0, .slice none 0 0, .slice none 0 0] 45)) = w0 at M0 ⊢
  go_loopw [6, 7] (fun x at_ wr => ∃ (k : Nat) (st : RdS) (A : Option Addr) (n c : Nat) (A2 : Option Addr) (n2 c2 : Nat), k ≤ l.length ∧ x = .int .i64 (st.x : Nat) ∧ at_ = .int .i64 ((sgBytes (l.take k)).length : Nat) ∧ rdAll rdStart (l.take k) = some st ∧ RrMem w wr st A n c A2 n2 c2 ∧ RdOk st ∧ n ≤ k ∧ n2 ≤ k)
    (fun _ at_ _ => bt.size - (intOf at_).toNat)
  case atStart => exact ⟨0, rdStart, none, 0, 0, none, 0, 0, Nat.zero_le _, rfl, rfl, rfl, M0, ⟨by decide, by decide, by decide, by decide⟩, Nat.le_refl _, Nat.le_refl _⟩
  case round =>
    obtain ⟨k, st, A, n, c, A2, n2, c2, hk, rfl, rfl, hst, M, ok, b3, b4⟩ := hrel
    obtain ⟨pos, hpos⟩ : ∃ pos, (sgBytes (l.take k)).length = pos := ⟨_, rfl⟩
    rw [hpos]
    have HM := Lib.hid M
    clear M
    by_cases hlt : k < l.length
    · obtain ⟨g, hg⟩ : ∃ g, l[k]? = some g := ⟨_, List.getElem?_eq_getElem hlt⟩
      obtain ⟨st2, hs2, hst2⟩ := rdAll_take hg hst HR.out
      have hsp := sgBytes_split hg
      have hbt2 : bt = ⟨(sgBytes (l.take k) ++ (g.bytes ++ sgBytes (l.drop (k + 1)))).toArray⟩ := by rw [← hsp, HBT.out]
      have hsz : bt.size = pos + (g.bytes.length + (sgBytes (l.drop (k + 1))).length) := by rw [hbt2, size_of_bytes]; simp [hpos]
      have hlen : 1 ≤ g.bytes.length := by cases g <;> decide
      have hS := fun W => sign_no (sgBytes (l.take k)) (sgBytes (l.drop (k + 1))) g bt hbt2 W hbs
      rw [hpos] at hS
      have hp2 := sgBytes_take hg
      rw [hpos] at hp2
      have t0 : decide ((pos : Int) < (bt.size : Int)) = true := decide_eq_true (by omega)
      have t0n : decide (pos < bt.size) = true := decide_eq_true (by omega)
      obtain ⟨o1, o2, o3, o4⟩ := ok
      have ok2 := RdOk.step ⟨o1, o2, o3, o4⟩ hs2
      have HOK2 := Lib.hid ok2
      have HST2 := Lib.hid hst2
      have HP2 := Lib.hid hp2
      have HSZ := Lib.hid hsz
      clear hst hst2 hp2 hsz hbt2 hsp ok2 hpos
      have posle : pos ≤ 100000 := by have := HSZ.out; omega
      cases g with
      | nl =>
        have HS := Lib.hid (show ∀ W, Calls Try.prog 96 #[.string bt, .int .i64 (pos : Nat)] W fun e w' => e = .returned (.tuple #[.int .i64 4, .int .i64 1]) ∧ Below W.heap.size W w' from hS)
        clear hS
        obtain ⟨x1, x2, rfl⟩ := rdStep_nl hs2
        have t1 : ((st.x : Int) == 0) = false := beq_eq_false_iff_ne.2 (by omega)
        have t1n : (st.x == 0) = false := beq_eq_false_iff_ne.2 (by omega)
        have hh : (decide ((0 : Int) < (st.h : Int)) = false ∧ decide (0 < st.h) = false) ∨ (decide ((0 : Int) < (st.h : Int)) = true ∧ decide (0 < st.h) = true) ∧ ((st.x : Int) != (st.w : Int)) = false ∧ (st.x != st.w) = false := by
          by_cases h0 : 0 < st.h
          · refine .inr ⟨⟨decide_eq_true (by omega), decide_eq_true h0⟩, ?_⟩
            have := o4 h0
            have : st.x = st.w := by
              rcases Nat.lt_or_ge st.x st.w with h1 | h1
              · exact absurd ⟨h1, h0⟩ x2
              · omega
            rw [this]; simp
          · exact .inl ⟨decide_eq_false (by omega), decide_eq_false h0⟩
        go_wp2_with fail
        refine (HS.out _).mono ?_
        rintro e w1 ⟨rfl, hb1⟩
        have M1 := HM.out.bel hb1
        have HM1 := Lib.hid M1
        have m0 : w1.cell? ⟨w.heap.size + 1, 0, none⟩ = some (.int .i64 (st.w : Nat)) := M1.map.cell 0
        have m1 : w1.cell? ⟨w.heap.size + 1, 1, none⟩ = some (.int .i64 (st.h : Nat)) := M1.map.cell 1
        have m2 : w1.cell? ⟨w.heap.size + 1, 2, none⟩ = some (.slice A n c) := M1.map.cell 2
        have m3 : w1.cell? ⟨w.heap.size + 1, 3, none⟩ = some (.slice A2 n2 c2) := M1.map.cell 3
        have z0 := M1.map.frozen 0
        have z1 := M1.map.frozen 1
        have z2 := M1.map.frozen 2
        have z3 := M1.map.frozen 3
        have hsz1 := M1.map.lt
        clear M1 hb1 HM
        rcases hh with ⟨t2, t2n⟩ | ⟨⟨t2, t2n⟩, t3, t3n⟩
        all_goals
          go_wp2
          have M2 := HM1.out.line
          exact ⟨⟨k + 1, ⟨st.x, st.h + 1, 0, st.walls, st.spawns⟩, A, n, c, A2, n2, c2, hlt, rfl, by rw [HP2.out]; go_num, HST2.out, M2, HOK2.out, by omega, by omega⟩, by simp [intOf]; have := HSZ.out; have := HP2.out; simp only [Sg.bytes, List.length_cons, List.length_nil] at *; omega⟩
      | wall =>
        have HS := Lib.hid (show ∀ W, Calls Try.prog 96 #[.string bt, .int .i64 (pos : Nat)] W fun e w' => e = .returned (.tuple #[.int .i64 1, .int .i64 3]) ∧ Below W.heap.size W w' from hS)
        clear hS
        obtain ⟨x1, x2, x3, rfl⟩ := rdStep_sg (by rfl) hs2
        have t1 : decide ((32 : Int) ≤ (st.h : Int)) = false := decide_eq_false (by omega)
        have t2 : decide ((32 : Int) ≤ (st.x : Int)) = false := decide_eq_false (by omega)
        have t1n : decide (32 ≤ st.h) = false := decide_eq_false (by omega)
        have t2n : decide (32 ≤ st.x) = false := decide_eq_false (by omega)
        have hh : (decide ((0 : Int) < (st.h : Int)) = false ∧ decide (0 < st.h) = false) ∨ (decide ((0 : Int) < (st.h : Int)) = true ∧ decide (0 < st.h) = true) ∧ decide ((st.w : Int) ≤ (st.x : Int)) = false ∧ decide (st.w ≤ st.x) = false := by
          by_cases h0 : 0 < st.h
          · have := o4 h0
            have h1 : ¬ st.w ≤ st.x := fun h1 => x3 ⟨h0, by omega⟩
            exact .inr ⟨⟨decide_eq_true (by omega), decide_eq_true h0⟩, decide_eq_false (by omega), decide_eq_false h1⟩
          · exact .inl ⟨decide_eq_false (by omega), decide_eq_false h0⟩
        go_wp2_with fail
        refine (HS.out _).mono ?_
        rintro e w1 ⟨rfl, hb1⟩
        have M1 := HM.out.bel hb1
        have HM1 := Lib.hid M1
        have m0 : w1.cell? ⟨w.heap.size + 1, 0, none⟩ = some (.int .i64 (st.w : Nat)) := M1.map.cell 0
        have m1 : w1.cell? ⟨w.heap.size + 1, 1, none⟩ = some (.int .i64 (st.h : Nat)) := M1.map.cell 1
        have m2 : w1.cell? ⟨w.heap.size + 1, 2, none⟩ = some (.slice A n c) := M1.map.cell 2
        have m3 : w1.cell? ⟨w.heap.size + 1, 3, none⟩ = some (.slice A2 n2 c2) := M1.map.cell 3
        have z0 := M1.map.frozen 0
        have z1 := M1.map.frozen 1
        have z2 := M1.map.frozen 2
        have z3 := M1.map.frozen 3
        have hsz1 := M1.map.lt
        clear M1 hb1 HM
        have hrow := HM1.out.walls.keep (w' := w1.alloc (.cells #[.bool true] 4)) (fun g hg => Below.heap_alloc _ _ g (HM1.out.walls.lt hg))
        have hnews : Reads (w1.alloc (.cells #[.bool true] 4)) (w1.heap.size + 1) 1 (some ⟨w1.heap.size, 0, none⟩) 1 [.bool true] := Reads.blk (size := 1) (n := 1) (g := w1.heap.size) (heap_alloc_new w1 (.cells #[.bool true] 4)) (by omega) rfl
        have HRW := Lib.hid hrow
        have HV := Lib.hid hnews
        clear hrow hnews
        rcases hh with ⟨t3, t3n⟩ | ⟨⟨t3, t3n⟩, t4, t4n⟩
        all_goals
          go_wp2_with (at_builtin; refine wpList_row rfl (.tmp 68) (.tmp 71) rfl elt22 A n c (boolsV st.walls) rfl HRW.out (w1.heap.size + 1) (some ⟨w1.heap.size, 0, none⟩) 1 1 [.bool true] rfl HV.out (by simp [Value.oneCell']) (by omega) ?_; intro A' c' w2 hr2 hg2 hb2; have mb2 := (HM1.out.map.alloc (.cells #[.bool true] 4)).grown hg2 (fun e => by have := HM1.out.hA _ e.symm; omega); have y2 := mb2.cell 2; have yz := mb2.frozen 2; have HR2 := Lib.hid hr2; have HG2 := Lib.hid hg2; have HB2 := Lib.hid hb2; have HMB := Lib.hid mb2; clear hr2 hg2 hb2 mb2)
          have M2 := HM1.out.wall _ HR2.out HG2.out HB2.out (st.x + 1)
          exact ⟨⟨k + 1, ⟨st.w, st.h, st.x + 1, st.walls ++ [true], st.spawns⟩, A', n + 1, c', A2, n2, c2, hlt, by go_num, by rw [HP2.out]; go_num, by have := HST2.out; simpa [isWall, isSpawn] using this, M2, by have := HOK2.out; simpa [isWall, isSpawn] using this, by omega, by omega⟩, by simp [intOf]; have := HSZ.out; have := HP2.out; simp only [Sg.bytes, List.length_cons, List.length_nil] at *; omega⟩
      | floor =>
        have HS := Lib.hid (show ∀ W, Calls Try.prog 96 #[.string bt, .int .i64 (pos : Nat)] W fun e w' => e = .returned (.tuple #[.int .i64 2, .int .i64 2]) ∧ Below W.heap.size W w' from hS)
        clear hS
        obtain ⟨x1, x2, x3, rfl⟩ := rdStep_sg (by rfl) hs2
        have t1 : decide ((32 : Int) ≤ (st.h : Int)) = false := decide_eq_false (by omega)
        have t2 : decide ((32 : Int) ≤ (st.x : Int)) = false := decide_eq_false (by omega)
        have t1n : decide (32 ≤ st.h) = false := decide_eq_false (by omega)
        have t2n : decide (32 ≤ st.x) = false := decide_eq_false (by omega)
        have hh : (decide ((0 : Int) < (st.h : Int)) = false ∧ decide (0 < st.h) = false) ∨ (decide ((0 : Int) < (st.h : Int)) = true ∧ decide (0 < st.h) = true) ∧ decide ((st.w : Int) ≤ (st.x : Int)) = false ∧ decide (st.w ≤ st.x) = false := by
          by_cases h0 : 0 < st.h
          · have := o4 h0
            have h1 : ¬ st.w ≤ st.x := fun h1 => x3 ⟨h0, by omega⟩
            exact .inr ⟨⟨decide_eq_true (by omega), decide_eq_true h0⟩, decide_eq_false (by omega), decide_eq_false h1⟩
          · exact .inl ⟨decide_eq_false (by omega), decide_eq_false h0⟩
        go_wp2_with fail
        refine (HS.out _).mono ?_
        rintro e w1 ⟨rfl, hb1⟩
        have M1 := HM.out.bel hb1
        have HM1 := Lib.hid M1
        have m0 : w1.cell? ⟨w.heap.size + 1, 0, none⟩ = some (.int .i64 (st.w : Nat)) := M1.map.cell 0
        have m1 : w1.cell? ⟨w.heap.size + 1, 1, none⟩ = some (.int .i64 (st.h : Nat)) := M1.map.cell 1
        have m2 : w1.cell? ⟨w.heap.size + 1, 2, none⟩ = some (.slice A n c) := M1.map.cell 2
        have m3 : w1.cell? ⟨w.heap.size + 1, 3, none⟩ = some (.slice A2 n2 c2) := M1.map.cell 3
        have z0 := M1.map.frozen 0
        have z1 := M1.map.frozen 1
        have z2 := M1.map.frozen 2
        have z3 := M1.map.frozen 3
        have hsz1 := M1.map.lt
        clear M1 hb1 HM
        have hrow := HM1.out.walls.keep (w' := w1.alloc (.cells #[.bool false] 4)) (fun g hg => Below.heap_alloc _ _ g (HM1.out.walls.lt hg))
        have hnews : Reads (w1.alloc (.cells #[.bool false] 4)) (w1.heap.size + 1) 1 (some ⟨w1.heap.size, 0, none⟩) 1 [.bool false] := Reads.blk (size := 1) (n := 1) (g := w1.heap.size) (heap_alloc_new w1 (.cells #[.bool false] 4)) (by omega) rfl
        have HRW := Lib.hid hrow
        have HV := Lib.hid hnews
        clear hrow hnews
        rcases hh with ⟨t3, t3n⟩ | ⟨⟨t3, t3n⟩, t4, t4n⟩
        all_goals
          go_wp2_with (at_builtin; refine wpList_row rfl (.tmp 68) (.tmp 71) rfl elt22 A n c (boolsV st.walls) rfl HRW.out (w1.heap.size + 1) (some ⟨w1.heap.size, 0, none⟩) 1 1 [.bool false] rfl HV.out (by simp [Value.oneCell']) (by omega) ?_; intro A' c' w2 hr2 hg2 hb2; have mb2 := (HM1.out.map.alloc (.cells #[.bool false] 4)).grown hg2 (fun e => by have := HM1.out.hA _ e.symm; omega); have y2 := mb2.cell 2; have yz := mb2.frozen 2; have HR2 := Lib.hid hr2; have HG2 := Lib.hid hg2; have HB2 := Lib.hid hb2; have HMB := Lib.hid mb2; clear hr2 hg2 hb2 mb2)
          have M2 := HM1.out.wall _ HR2.out HG2.out HB2.out (st.x + 1)
          exact ⟨⟨k + 1, ⟨st.w, st.h, st.x + 1, st.walls ++ [false], st.spawns⟩, A', n + 1, c', A2, n2, c2, hlt, by go_num, by rw [HP2.out]; go_num, by have := HST2.out; simpa [isWall, isSpawn] using this, M2, by have := HOK2.out; simpa [isWall, isSpawn] using this, by omega, by omega⟩, by simp [intOf]; have := HSZ.out; have := HP2.out; simp only [Sg.bytes, List.length_cons, List.length_nil] at *; omega⟩
      | spawn =>
        have HS := Lib.hid (show ∀ W, Calls Try.prog 96 #[.string bt, .int .i64 (pos : Nat)] W fun e w' => e = .returned (.tuple #[.int .i64 3, .int .i64 3]) ∧ Below W.heap.size W w' from hS)
        clear hS
        obtain ⟨x1, x2, x3, rfl⟩ := rdStep_sg (by rfl) hs2
        have t1 : decide ((32 : Int) ≤ (st.h : Int)) = false := decide_eq_false (by omega)
        have t2 : decide ((32 : Int) ≤ (st.x : Int)) = false := decide_eq_false (by omega)
        have t1n : decide (32 ≤ st.h) = false := decide_eq_false (by omega)
        have t2n : decide (32 ≤ st.x) = false := decide_eq_false (by omega)
        have hh : (decide ((0 : Int) < (st.h : Int)) = false ∧ decide (0 < st.h) = false) ∨ (decide ((0 : Int) < (st.h : Int)) = true ∧ decide (0 < st.h) = true) ∧ decide ((st.w : Int) ≤ (st.x : Int)) = false ∧ decide (st.w ≤ st.x) = false := by
          by_cases h0 : 0 < st.h
          · have := o4 h0
            have h1 : ¬ st.w ≤ st.x := fun h1 => x3 ⟨h0, by omega⟩
            exact .inr ⟨⟨decide_eq_true (by omega), decide_eq_true h0⟩, decide_eq_false (by omega), decide_eq_false h1⟩
          · exact .inl ⟨decide_eq_false (by omega), decide_eq_false h0⟩
        go_wp2_with fail
        refine (HS.out _).mono ?_
        rintro e w1 ⟨rfl, hb1⟩
        have M1 := HM.out.bel hb1
        have HM1 := Lib.hid M1
        have m0 : w1.cell? ⟨w.heap.size + 1, 0, none⟩ = some (.int .i64 (st.w : Nat)) := M1.map.cell 0
        have m1 : w1.cell? ⟨w.heap.size + 1, 1, none⟩ = some (.int .i64 (st.h : Nat)) := M1.map.cell 1
        have m2 : w1.cell? ⟨w.heap.size + 1, 2, none⟩ = some (.slice A n c) := M1.map.cell 2
        have m3 : w1.cell? ⟨w.heap.size + 1, 3, none⟩ = some (.slice A2 n2 c2) := M1.map.cell 3
        have z0 := M1.map.frozen 0
        have z1 := M1.map.frozen 1
        have z2 := M1.map.frozen 2
        have z3 := M1.map.frozen 3
        have hsz1 := M1.map.lt
        clear M1 hb1 HM
        have hrow := HM1.out.walls.keep (w' := w1.alloc (.cells #[.bool false] 4)) (fun g hg => Below.heap_alloc _ _ g (HM1.out.walls.lt hg))
        have hnews : Reads (w1.alloc (.cells #[.bool false] 4)) (w1.heap.size + 1) 1 (some ⟨w1.heap.size, 0, none⟩) 1 [.bool false] := Reads.blk (size := 1) (n := 1) (g := w1.heap.size) (heap_alloc_new w1 (.cells #[.bool false] 4)) (by omega) rfl
        have HRW := Lib.hid hrow
        have HV := Lib.hid hnews
        clear hrow hnews
        rcases hh with ⟨t3, t3n⟩ | ⟨⟨t3, t3n⟩, t4, t4n⟩
        all_goals
          go_wp2_with (at_builtin; refine wpList_row rfl (.tmp 68) (.tmp 71) rfl elt22 A n c (boolsV st.walls) rfl HRW.out (w1.heap.size + 1) (some ⟨w1.heap.size, 0, none⟩) 1 1 [.bool false] rfl HV.out (by simp [Value.oneCell']) (by omega) ?_; intro A' c' w2 hr2 hg2 hb2; have mb2 := (HM1.out.map.alloc (.cells #[.bool false] 4)).grown hg2 (fun e => by have := HM1.out.hA _ e.symm; omega); have y2 := mb2.cell 2; have yz := mb2.frozen 2; have HR2 := Lib.hid hr2; have HG2 := Lib.hid hg2; have HB2 := Lib.hid hb2; have HMB := Lib.hid mb2; clear hr2 hg2 hb2 mb2)
          have M2 := HM1.out.wall _ HR2.out HG2.out HB2.out st.x
          clear y2 yz m0 m1 m2 m3 z0 z1 z2 z3 HMB HR2 HG2 HB2 HRW HV
          generalize w2.setCell ⟨w.heap.size + 1, 2, none⟩ (.slice A' (n + 1) c') = w3 at M2 ⊢
          have HM2 := Lib.hid M2
          have n1 : w3.cell? ⟨w.heap.size + 1, 1, none⟩ = some (.int .i64 (st.h : Nat)) := M2.map.cell 1
          have n3 : w3.cell? ⟨w.heap.size + 1, 3, none⟩ = some (.slice A2 n2 c2) := M2.map.cell 3
          have nz := M2.map.frozen 3
          have nl := M2.map.lt
          have hmid := fun W => rMiddle (st.x : Int) (st.h : Int) (by omega) (by omega) (by omega) (by omega) W
          obtain ⟨mv, hmv⟩ : ∃ mv, middle (st.x : Int) (st.h : Int) = mv := ⟨_, rfl⟩
          simp only [hmv] at hmid
          have HMV := Lib.hid hmv
          clear M2 hmv
          go_upto_region 16 with (fail)
          go_cut [] (fun wx => ∃ (A3 : Option Addr) (c3 : Nat), RrMem w wx ⟨st.w, st.h, st.x + 1, st.walls ++ [false], st.spawns ++ [mv]⟩ A' (n + 1) c' A3 (n2 + 1) c3)
          case first =>
            go_region_law (first
              | (go_simp; go_at_call 92; refine (hmid _).mono ?_; rintro e wm ⟨rfl, hbm0⟩; have hbm : Below w3.heap.size w3 wm := ⟨hbm0.os, hbm0.tape, hbm0.output, hbm0.size, hbm0.block⟩; clear hbm0; obtain ⟨hc1, hf1⟩ := bcell hbm; have hms := hbm.size; (try simp at hms); have nl2 : w.heap.size + 1 < wm.heap.size := (by omega); have s1 : wm.cell? ⟨w.heap.size + 1, 1, none⟩ = some (.int .i64 (st.h : Nat)) := (hbm.cell (p := ⟨w.heap.size + 1, 1, none⟩) nl).trans n1; have s3 : wm.cell? ⟨w.heap.size + 1, 3, none⟩ = some (.slice A2 n2 c2) := (hbm.cell (p := ⟨w.heap.size + 1, 3, none⟩) nl).trans n3)
              | (refine step_row rfl (.tmp 77) (.tmp 82) rfl elt23 A2 n2 c2 (vecsV st.spawns) (by simp [Act.eval, Act.put]) (Row.keep HM2.out.spawns (fun g hg => ((hbm.mono (Nat.le_refl _)).alloc hms (.cells #[.int .i64 mv.x, .int .i64 mv.y] 28)).block g (HM2.out.spawns.lt hg))) (wm.heap.size + 1) (some ⟨wm.heap.size, 0, none⟩) 1 1 [.int .i64 mv.x, .int .i64 mv.y] (by simp [Act.eval, Act.put]) (Reads.blk (size := 2) (n := 1) (g := wm.heap.size) (heap_alloc_new wm (.cells #[.int .i64 mv.x, .int .i64 mv.y] 28)) (by omega) rfl) (by simp [Value.oneCell']) (by omega) ?_; intro A3 c3 w4 hr4 hg4 hb4; have mb4 := ((Blk.below HM2.out.map hbm nl).alloc (.cells #[.int .i64 mv.x, .int .i64 mv.y] 28)).grown hg4 (fun e => by have := HM2.out.hA2 _ e.symm; omega); have s1 : w4.cell? ⟨w.heap.size + 1, 1, none⟩ = some (.int .i64 (st.h : Nat)) := mb4.cell 1; have s3 : w4.cell? ⟨w.heap.size + 1, 3, none⟩ = some (.slice A2 n2 c2) := mb4.cell 3; have z4 := mb4.frozen 3; have HR4 := Lib.hid hr4; have HG4 := Lib.hid hg4; have HB4 := Lib.hid hb4; have HBM := Lib.hid hbm; clear hr4 hg4 hb4 mb4 hc1 hf1 hbm))
            all_goals go_wp2_with fail
            all_goals go_meet
            all_goals
              have M3 := HM2.out.spawn (HBM.out.alloc HBM.out.size _) HR4.out HG4.out HB4.out (st.x + 1)
              exact ⟨A3, c3, M3⟩
          case rest =>
            obtain ⟨A3, c3, M3⟩ := hcut
            have HM3 := Lib.hid M3
            clear M3 HM2 n1 n3 nz nl
            go_wp2
            exact ⟨⟨k + 1, ⟨st.w, st.h, st.x + 1, st.walls ++ [false], st.spawns ++ [mv]⟩, A', n + 1, c', A3, n2 + 1, c3, hlt, by go_num, by rw [HP2.out]; go_num, by have := HST2.out; simpa [isWall, isSpawn, HMV.out] using this, HM3.out, by have := HOK2.out; simpa [isWall, isSpawn, HMV.out] using this, by omega, by omega⟩, by simp [intOf]; have := HSZ.out; have := HP2.out; simp only [Sg.bytes, List.length_cons, List.length_nil] at *; omega⟩
    · have hkl : k = l.length := by omega
      have hst2 : rdAll rdStart l = some st := by rw [hkl, List.take_length] at hst; exact hst
      obtain rfl : fin = st := by have := HR.out; rw [hst2] at this; injection this with this; exact this.symm
      have hx0 : fin.x = 0 := HF.out
      have hsz : bt.size = pos := by rw [← HBT.out, size_of_bytes, ← hpos, hkl, List.take_length]
      have t0 : decide ((pos : Int) < (bt.size : Int)) = false := decide_eq_false (by omega)
      have t0n : decide (pos < bt.size) = false := decide_eq_false (by omega)
      have hl2' := HM.out.len2
      have m0 : wr.cell? ⟨w.heap.size + 1, 0, none⟩ = some (.int .i64 (fin.w : Nat)) := HM.out.map.cell 0
      have m1 : wr.cell? ⟨w.heap.size + 1, 1, none⟩ = some (.int .i64 (fin.h : Nat)) := HM.out.map.cell 1
      have m2 : wr.cell? ⟨w.heap.size + 1, 2, none⟩ = some (.slice A n c) := HM.out.map.cell 2
      have m3 : wr.cell? ⟨w.heap.size + 1, 3, none⟩ = some (.slice A2 n2 c2) := HM.out.map.cell 3
      have r0 : wr.cell? ⟨w.heap.size, 0, none⟩ = some (.int .i64 0) := HM.out.res.cell 0
      have r1 : wr.cell? ⟨w.heap.size, 1, none⟩ = some (.int .i64 0) := HM.out.res.cell 1
      have r2 : wr.cell? ⟨w.heap.size, 2, none⟩ = some (.slice none 0 0) := HM.out.res.cell 2
      have r3 : wr.cell? ⟨w.heap.size, 3, none⟩ = some (.slice none 0 0) := HM.out.res.cell 3
      have z0 := HM.out.res.frozen 0
      have z1 := HM.out.res.frozen 1
      have z2 := HM.out.res.frozen 2
      have z3 := HM.out.res.frozen 3
      have hrl := HM.out.res.lt
      have hB := HM.out.below
      rw [hx0]
      clear hx0 hkl hst hst2 hsz hpos
      by_cases hn0 : n2 = 0
      · have hn2 : ((n2 : Int) == 0) = true := by rw [beq_iff_eq]; omega
        have HN0 := Lib.hid (hl2'.trans hn0)
        clear hl2' hn0
        go_wp2
        have hBf : Below w.heap.size w ((((wr.setCell ⟨w.heap.size, 0, none⟩ (.int .i64 0)).setCell ⟨w.heap.size, 1, none⟩ (.int .i64 0)).setCell ⟨w.heap.size, 2, none⟩ (.slice none 0 0)).setCell ⟨w.heap.size, 3, none⟩ (.slice none 0 0)) := (by repeat (first | with_reducible exact Below.refl _ _ | with_reducible assumption | with_reducible refine Below.drew ?_ | with_reducible refine below_drews ?_ _ | with_reducible refine Below.alloc ?_ (by first | omega | (simp; done) | (simp; omega)) _ | with_reducible refine Below.setCell ?_ (by first | omega | (simp; done) | (simp; omega)) _))
        refine bodyPost_ret (v := .tuple #[.agg #[.int .i64 0, .int .i64 0, .slice none 0 0, .slice none 0 0], .int .i64 (bt.size : Nat), .int .i64 2]) (by simp [results, Try.results93, go_sem, r0, r1, r2, r3]) rfl ?_
        exact ⟨⟨0, 0, [], []⟩, ⟨none, 0, 0, none, 0, 0⟩, _, by rw [if_pos HN0.out], fun h => absurd HN0.out h, hBf⟩
      · have hn2 : ((n2 : Int) == 0) = false := by rw [beq_eq_false_iff_ne]; omega
        have HN0 := Lib.hid (show ¬ fin.spawns.length = 0 by omega)
        clear hl2'
        go_wp2
        have hset : ∀ g : Nat, g ≠ w.heap.size → ((((wr.setCell ⟨w.heap.size, 0, none⟩ (.int .i64 (fin.w : Nat))).setCell ⟨w.heap.size, 1, none⟩ (.int .i64 (fin.h : Nat))).setCell ⟨w.heap.size, 2, none⟩ (.slice A n c)).setCell ⟨w.heap.size, 3, none⟩ (.slice A2 n2 c2)).heap[g]? = wr.heap[g]? := fun g hg => (Below.heap_setCell _ _ _ g hg).trans ((Below.heap_setCell _ _ _ g hg).trans ((Below.heap_setCell _ _ _ g hg).trans (Below.heap_setCell _ _ _ g hg)))
        have rw1 := HM.out.walls.keep (w' := ((((wr.setCell ⟨w.heap.size, 0, none⟩ (.int .i64 (fin.w : Nat))).setCell ⟨w.heap.size, 1, none⟩ (.int .i64 (fin.h : Nat))).setCell ⟨w.heap.size, 2, none⟩ (.slice A n c)).setCell ⟨w.heap.size, 3, none⟩ (.slice A2 n2 c2))) (fun g hg => hset g (by have := HM.out.hA g hg; omega))
        have rw2 := HM.out.spawns.keep (w' := ((((wr.setCell ⟨w.heap.size, 0, none⟩ (.int .i64 (fin.w : Nat))).setCell ⟨w.heap.size, 1, none⟩ (.int .i64 (fin.h : Nat))).setCell ⟨w.heap.size, 2, none⟩ (.slice A n c)).setCell ⟨w.heap.size, 3, none⟩ (.slice A2 n2 c2))) (fun g hg => hset g (by have := HM.out.hA2 g hg; omega))
        have hBf : Below w.heap.size w ((((wr.setCell ⟨w.heap.size, 0, none⟩ (.int .i64 (fin.w : Nat))).setCell ⟨w.heap.size, 1, none⟩ (.int .i64 (fin.h : Nat))).setCell ⟨w.heap.size, 2, none⟩ (.slice A n c)).setCell ⟨w.heap.size, 3, none⟩ (.slice A2 n2 c2)) := (by repeat (first | with_reducible exact Below.refl _ _ | with_reducible assumption | with_reducible refine Below.drew ?_ | with_reducible refine below_drews ?_ _ | with_reducible refine Below.alloc ?_ (by first | omega | (simp; done) | (simp; omega)) _ | with_reducible refine Below.setCell ?_ (by first | omega | (simp; done) | (simp; omega)) _))
        have hcm : c ≤ 9223372036854775807 := by have := rw1.2.2.1; unfold maxLen at this; exact this
        have hcm2 : n2 ≤ 9223372036854775807 := by have := rw2.2.2.1; have := rw2.2.1; unfold maxLen at *; omega
        have hmat : MapAt ((((wr.setCell ⟨w.heap.size, 0, none⟩ (.int .i64 (fin.w : Nat))).setCell ⟨w.heap.size, 1, none⟩ (.int .i64 (fin.h : Nat))).setCell ⟨w.heap.size, 2, none⟩ (.slice A n c)).setCell ⟨w.heap.size, 3, none⟩ (.slice A2 n2 c2)) ((((wr.setCell ⟨w.heap.size, 0, none⟩ (.int .i64 (fin.w : Nat))).setCell ⟨w.heap.size, 1, none⟩ (.int .i64 (fin.h : Nat))).setCell ⟨w.heap.size, 2, none⟩ (.slice A n c)).setCell ⟨w.heap.size, 3, none⟩ (.slice A2 n2 c2)).heap.size ⟨fin.w, fin.h, fin.walls, fin.spawns⟩ ⟨A, n, c, A2, n2, c2⟩ := ⟨rw1.reads (by decide), rw2.reads (by decide), rw1.2.1, hcm, hcm2⟩
        have HX := Lib.hid (show _ ∧ _ from ⟨hmat, hBf⟩)
        clear hset rw1 rw2 hmat hBf hB
        refine bodyPost_ret (v := .tuple #[.agg #[.int .i64 (fin.w : Nat), .int .i64 (fin.h : Nat), .slice A n c, .slice A2 n2 c2], .int .i64 0, .int .i64 0]) (by simp [results, Try.results93, go_sem, r0, r1, r2, r3]) rfl ?_
        exact ⟨⟨fin.w, fin.h, fin.walls, fin.spawns⟩, ⟨A, n, c, A2, n2, c2⟩, 0, by rw [if_neg HN0.out], fun _ => ⟨rfl, HX.out.1⟩, HX.out.2⟩
end Go.Proofs.Ythkgeeonhppliaa
