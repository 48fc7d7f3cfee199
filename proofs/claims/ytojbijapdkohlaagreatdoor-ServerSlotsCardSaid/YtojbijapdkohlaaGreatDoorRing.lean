/- Layer 18: what is read of a ring. -/
import Derived.Test.YtojbijapdkohlaaGreatDoorQ11WMem
import Derived.Test.YtojbijapdkohlaaGreatDoorIMap
import Derived.Test.YtojbijapdkohlaaGreatDoorKinTail
import Derived.WalkSpells
set_option linter.unusedSimpArgs false
set_option linter.unusedVariables false
namespace Go.Proofs.YtojbijapdkohlaaGreatDoor
open Go.RowKit
def intsV (l : List Int) : List Value := l.map (Value.int .i64)
theorem intsV_length (l : List Int) : (intsV l).length = l.length := by simp [intsV]
theorem intsV_at {l : List Int} {k : Nat} {x : Int} (h : l[k]? = some x) : (intsV l)[k]? = some (.int .i64 x) := by unfold intsV; rw [List.getElem?_map, h]; rfl
def lastI (l : List Int) : Int := (l[l.length - 1]?).getD (-1)
def firstI (l : List Int) : Int := (l[0]?).getD (-1)
set_option maxRecDepth 100000 in
set_option maxHeartbeats 2000000 in
theorem ringLast (ts : List Int) (b o : Nat) (A : Option Addr) (n c : Nat) (w : World) (h0 : w.cell? ⟨b, o, none⟩ = some (.slice A n c)) (hr : Reads w w.heap.size 1 A n (intsV ts)) (hn : n ≤ 100000) :
    Calls Tryz.prog 85 #[.pointer (some ⟨b, o, none⟩)] w fun e w' => e = .returned (.int .i64 (lastI ts)) ∧ Below w.heap.size w w' := by
  have hl : ts.length = n := by have := hr.1; rw [intsV_length] at this; omega
  have hb := World.block_lt_of_cell? w _ h0
  rcases n with _ | k
  · have ht : ts = [] := List.eq_nil_of_length_eq_zero hl
    subst ht
    clear hr hl
    go_enter Tryz.func85, Tryz.ntmps85
    go_wp2
    go_ret
    exact ⟨rfl, (by repeat (first | with_reducible exact Below.refl _ _ | with_reducible assumption | with_reducible refine Below.drew ?_ | with_reducible refine below_drews ?_ _ | with_reducible refine Below.alloc ?_ (by first | omega | (simp; done) | (simp; omega)) _ | with_reducible refine Below.setCell ?_ (by first | omega | (simp; done) | (simp; omega)) _))⟩
  · obtain ⟨x, hx⟩ : ∃ x, ts[k]? = some x := ⟨_, List.getElem?_eq_getElem (by omega)⟩
    have hlast : lastI ts = x := by unfold lastI; rw [hl, Nat.add_sub_cancel, hx]; rfl
    rw [hlast]
    obtain ⟨g, off, rfl, hg, hc⟩ := hr.flat (by omega) (by decide)
    have h1 : w.cell? ⟨g, off + k, none⟩ = some (.int .i64 x) := hc k _ (intsV_at hx)
    have hz : (((k + 1 : Nat) : Int) == 0) = false := beq_eq_false_iff_ne.2 (by omega)
    have hz2 : ((k : Int) + 1 == 0) = false := beq_eq_false_iff_ne.2 (by omega)
    have hz3 : (k : Int) + 1 - 1 = (k : Int) := by omega
    have hg2 : g < w.heap.size := hg
    have hb2 : b < w.heap.size := hb
    clear hr hl hc hx hlast
    go_enter Tryz.func85, Tryz.ntmps85
    go_wp2
    refine wp_region_kin' w.heap.size (by kernel_rfl) (by kernel_rfl) (fun kk => ?_)
    repeat (first | go_big_quiet_step (fail) | quiet_step (fail))
    refine wpQuiet_nil ?_
    rintro _ ⟨⟨wk, hwk⟩, rfl⟩
    go_wp2
    go_ret
    exact ⟨rfl, hwk⟩
set_option maxRecDepth 100000 in
set_option maxHeartbeats 2000000 in
theorem ringFirst (ts : List Int) (b o : Nat) (A : Option Addr) (n c : Nat) (w : World) (h0 : w.cell? ⟨b, o, none⟩ = some (.slice A n c)) (hr : Reads w w.heap.size 1 A n (intsV ts)) (hn : n ≤ 100000) :
    Calls Tryz.prog 202 #[.pointer (some ⟨b, o, none⟩)] w fun e w' => e = .returned (.int .i64 (firstI ts)) ∧ Below w.heap.size w w' := by
  have hl : ts.length = n := by have := hr.1; rw [intsV_length] at this; omega
  rcases n with _ | k
  · have ht : ts = [] := List.eq_nil_of_length_eq_zero hl
    subst ht
    clear hr hl
    go_enter Tryz.func202, Tryz.ntmps202
    go_wp2
    go_ret
    exact ⟨rfl, (by repeat (first | with_reducible exact Below.refl _ _ | with_reducible assumption | with_reducible refine Below.drew ?_ | with_reducible refine below_drews ?_ _ | with_reducible refine Below.alloc ?_ (by first | omega | (simp; done) | (simp; omega)) _ | with_reducible refine Below.setCell ?_ (by first | omega | (simp; done) | (simp; omega)) _))⟩
  · obtain ⟨x, hx⟩ : ∃ x, ts[0]? = some x := ⟨_, List.getElem?_eq_getElem (by omega)⟩
    have hfirst : firstI ts = x := by unfold firstI; rw [hx]; rfl
    rw [hfirst]
    obtain ⟨g, off, rfl, hg, hc⟩ := hr.flat (by omega) (by decide)
    have h1 : w.cell? ⟨g, off, none⟩ = some (.int .i64 x) := hc 0 _ (intsV_at hx)
    have hz : (((k + 1 : Nat) : Int) == 0) = false := beq_eq_false_iff_ne.2 (by omega)
    have hz2 : ((k : Int) + 1 == 0) = false := beq_eq_false_iff_ne.2 (by omega)
    clear hr hl hc hx hfirst
    go_enter Tryz.func202, Tryz.ntmps202
    go_wp2
    go_ret
    exact ⟨rfl, (by repeat (first | with_reducible exact Below.refl _ _ | with_reducible assumption | with_reducible refine Below.drew ?_ | with_reducible refine below_drews ?_ _ | with_reducible refine Below.alloc ?_ (by first | omega | (simp; done) | (simp; omega)) _ | with_reducible refine Below.setCell ?_ (by first | omega | (simp; done) | (simp; omega)) _))⟩
def heldI (ts : List Int) (view : Int) : Int := if lastI ts = -1 then -1 else min (max view (firstI ts)) (lastI ts)
set_option maxRecDepth 100000 in
set_option maxHeartbeats 2000000 in
theorem rewHeld (ts : List Int) (view : Int) (b o : Nat) (A : Option Addr) (n c : Nat) (w : World) (h0 : w.cell? ⟨b, o, none⟩ = some (.slice A n c)) (hr : Reads w w.heap.size 1 A n (intsV ts)) (hn : n ≤ 100000) :
    Calls Tryz.prog 143 #[.pointer (some ⟨b, o, none⟩), .int .i64 view] w fun e w' => e = .returned (.int .i64 (heldI ts view)) ∧ Below w.heap.size w w' := by
  have hb := World.block_lt_of_cell? w _ h0
  have hL := Lib.hid (fun W (hW : Below w.heap.size w W) => ringLast ts b o A n c W ((hW.cell (p := ⟨b, o, none⟩) hb).trans h0) ((hr.below hW).upto hW.size) hn)
  have hF := Lib.hid (fun W (hW : Below w.heap.size w W) => ringFirst ts b o A n c W ((hW.cell (p := ⟨b, o, none⟩) hb).trans h0) ((hr.below hW).upto hW.size) hn)
  clear hr
  unfold heldI
  by_cases hl : lastI ts = -1
  · rw [if_pos hl]
    rw [hl] at hL
    have hz : ((-1 : Int) == -1) = true := rfl
    clear hl
    go_enter Tryz.func143, Tryz.ntmps143
    go_wp2_with fail
    refine (hL.out _ (Below.refl _ _)).mono ?_
    rintro e w1 ⟨rfl, hb1⟩
    go_wp2_with fail
    go_ret
    exact ⟨rfl, hb1⟩
  · rw [if_neg hl]
    have hz : (lastI ts == -1) = false := beq_eq_false_iff_ne.2 hl
    generalize lastI ts = x at hL hz ⊢
    generalize firstI ts = y at hF ⊢
    clear hl
    obtain ⟨m, hm⟩ : ∃ m, max view y = m := ⟨_, rfl⟩
    obtain ⟨m2, hm2⟩ : ∃ m2, min m x = m2 := ⟨_, rfl⟩
    have e1 : (if view < y then y else view) = m := by rw [← hm]; split <;> omega
    have e2 : (if x < m then x else m) = m2 := by rw [← hm2]; split <;> omega
    have e3 : (if m < x then m else x) = m2 := by rw [← hm2]; split <;> omega
    rw [hm, hm2]
    clear hm hm2
    go_enter Tryz.func143, Tryz.ntmps143
    go_wp2_with fail
    refine (hL.out _ (Below.refl _ _)).mono ?_
    rintro e w1 ⟨rfl, hb1⟩
    go_wp2_with fail
    refine (hF.out _ hb1).mono ?_
    rintro e w2 ⟨rfl, hb2⟩
    have B2 : Below w.heap.size w w2 := hb1.trans (hb2.mono hb1.size)
    go_wp2_with fail
    refine (hL.out _ B2).mono ?_
    rintro e w3 ⟨rfl, hb3⟩
    go_wp2_with fail
    go_ret
    exact ⟨ret_int (by first | rfl | assumption | simp_all), B2.trans (hb3.mono B2.size)⟩
end Go.Proofs.YtojbijapdkohlaaGreatDoor
