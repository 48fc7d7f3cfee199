/- Layer 18: what is read of a ring. -/
import Derived.Test.YtbjhdmknhimbjaaDoorClone
import Derived.Test.YtbjhdmknhimbjaaDoorIMap
import Derived.Test.YtbjhdmknhimbjaaDoorKinTail
import Derived.WalkSpells
set_option linter.unusedSimpArgs false
set_option linter.unusedVariables false
namespace Go.Proofs.YtbjhdmknhimbjaaDoor
open Go.RowKit
def intsV (l : List Int) : List Value := l.map (Value.int .i64)
theorem intsV_length (l : List Int) : (intsV l).length = l.length := by simp [intsV]
theorem intsV_at {l : List Int} {k : Nat} {x : Int} (h : l[k]? = some x) : (intsV l)[k]? = some (.int .i64 x) := by unfold intsV; rw [List.getElem?_map, h]; rfl
def lastI (l : List Int) : Int := (l[l.length - 1]?).getD (-1)
def firstI (l : List Int) : Int := (l[0]?).getD (-1)
set_option maxRecDepth 100000 in
set_option maxHeartbeats 2000000 in
theorem ringLast (ts : List Int) (b o : Nat) (A : Option Addr) (n c : Nat) (w : World) (h0 : w.cell? ⟨b, o, none⟩ = some (.slice A n c)) (hr : Reads w w.heap.size 1 A n (intsV ts)) (hn : n ≤ 100000) :
    Calls Tryd.prog 24 #[.pointer (some ⟨b, o, none⟩)] w fun e w' => e = .returned (.int .i64 (lastI ts)) ∧ Below w.heap.size w w' := by
  have hl : ts.length = n := by have := hr.1; rw [intsV_length] at this; omega
  have hb := World.block_lt_of_cell? w _ h0
  rcases n with _ | k
  · have ht : ts = [] := List.eq_nil_of_length_eq_zero hl
    subst ht
    clear hr hl
    go_enter Tryd.func24, Tryd.ntmps24
    go_wp2
    go_ret
    exact ⟨rfl, (by repeat (first | with_reducible exact Below.refl _ _ | with_reducible assumption | with_reducible refine Below.drew ?_ | with_reducible refine below_drews ?_ _ | with_reducible refine Below.alloc ?_ (by first | omega | (simp; done) | (simp; omega)) _ | with_reducible refine Below.setCell ?_ (by first | omega | (simp; done) | (simp; omega)) _))⟩
  · obtain ⟨x, hx⟩ : ∃ x, ts[k]? = some x := ⟨_, List.getElem?_eq_getElem (by omega)⟩
    have hlast : lastI ts = x := by unfold lastI; rw [hl, Nat.add_sub_cancel, hx]; rfl
    rw [hlast]
    obtain ⟨g, off, rfl, hg, hc⟩ := hr.flat (by omega) (by decide)
    have h1 : w.cell? ⟨g, off + k, none⟩ = some (.int .i64 x) := hc k _ (intsV_at hx)
    have hz : (((k + 1 : Nat) : Int) == 0) = false := beq_eq_false_iff_ne.2 (by omega)
    have hz2 : ((k : Int) + 1 == 0) = false := beq_eq_false_iff_ne.2 (by omega)
    have hz3 : (k : Int) + 1 - 1 = (k : Int) := by omega
    have hg2 : g < w.heap.size := hg
    have hb2 : b < w.heap.size := hb
    clear hr hl hc hx hlast
    go_enter Tryd.func24, Tryd.ntmps24
    go_wp2
    refine wp_region_kin' w.heap.size (by kernel_rfl) (by kernel_rfl) (fun kk => ?_)
    repeat (first | go_big_quiet_step (fail) | quiet_step (fail))
    refine wpQuiet_nil ?_
    rintro _ ⟨⟨wk, hwk⟩, rfl⟩
    go_wp2
    go_ret
    exact ⟨rfl, hwk⟩
def heldI (ts : List Int) (view : Int) : Int := if lastI ts = -1 then -1 else min (max view (firstI ts)) (lastI ts)
end Go.Proofs.YtbjhdmknhimbjaaDoor
