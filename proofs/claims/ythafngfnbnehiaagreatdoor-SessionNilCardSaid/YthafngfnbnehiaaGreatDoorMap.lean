/- The walks of layer 11: maps. -/
import Derived.Test.YthafngfnbnehiaaGreatDoorStrEq
set_option linter.unusedSimpArgs false
set_option linter.unusedVariables false
namespace Go.Proofs.YthafngfnbnehiaaGreatDoor
open Go.RowKit
def boolsV (l : List Bool) : List Value := l.map Value.bool
def vecsV (l : List VecV) : List Value := l.flatMap fun v => [.int .i64 v.x, .int .i64 v.y]
theorem Reads.flat {w : World} {B size n : Nat} {A : Option Addr} {xs : List Value} (h : Reads w B size A n xs) (hn : 0 < n) (hs : 0 < size) :
    ∃ g off, A = some ⟨g, off, none⟩ ∧ g < B ∧ ∀ j u, xs[j]? = some u → w.cell? ⟨g, off + j, none⟩ = some u := by
  obtain ⟨⟨g, off, sp⟩, rfl, hb, hcell⟩ := h.2 hn
  have hpos : 0 < xs.length := by rw [h.1]; exact Nat.mul_pos hn hs
  have hsp : sp = none := by
    have h0 := hcell 0 _ (List.getElem?_eq_getElem hpos)
    simpa [Addr.add] using World.cell?_spot h0
  subst hsp
  simp only [add_none] at hcell
  exact ⟨g, off, rfl, hb, hcell⟩
theorem drop_cons_of {α : Type} {l : List α} {k : Nat} {x : α} (h : l[k]? = some x) : l.drop k = x :: l.drop (k + 1) := by
  obtain ⟨hk, rfl⟩ := List.getElem?_eq_some_iff.1 h
  exact List.drop_eq_getElem_cons hk
theorem bcell' {B : Nat} {W w1 : World} (hb : Below B W w1) : (∀ b o, b < B → w1.cell? ⟨b, o, none⟩ = W.cell? ⟨b, o, none⟩) ∧ (∀ b o, b < B → w1.frozen? ⟨b, o, none⟩ = W.frozen? ⟨b, o, none⟩) :=
  ⟨fun b o h => hb.cell (p := ⟨b, o, none⟩) h, fun b o h => hb.frozen (p := ⟨b, o, none⟩) h⟩
theorem notB (b : Bool) (w : World) : Calls Tryz.prog 175 #[.bool b] w fun e w' => e = .returned (.bool (!b)) ∧ w = w' := by
  go_enter Tryz.func175, Tryz.ntmps175
  go_wp2
  go_ret
  exact ⟨rfl, rfl⟩
set_option maxHeartbeats 1000000 in
theorem idxFloor (l : List Bool) (w : World) (A : Option Addr) (n c : Nat) (h : Reads w w.heap.size 1 A n (boolsV l)) (hn : n ≤ 9223372036854775807) :
    Calls Tryz.prog 174 #[.slice A n c, .func (.func 175) #[] #[]] w fun e w' => e = .returned (.int .i64 (idxFrom (fun w => !w) l 0)) ∧ w = w' := by
  have hl : l.length = n := by have := h.1; simpa [boolsV] using this
  have HL := Lib.hid hl
  clear hl
  go_enter Tryz.func174, Tryz.ntmps174
  go_wp2
  go_loop [8] (fun i => ∃ k : Nat, k ≤ n ∧ i = .int .i64 k ∧ idxFrom (fun w => !w) l 0 = idxFrom (fun w => !w) (l.drop k) k) (fun i => n - (intOf i).toNat)
  case atStart => exact ⟨0, Nat.zero_le _, rfl, rfl⟩
  case round =>
    obtain ⟨k, hk, rfl, he⟩ := hrel
    by_cases hlt : k < n
    · obtain ⟨g, off, rfl, hg, hc⟩ := h.flat (by omega) (by omega)
      obtain ⟨b, hb⟩ : ∃ b, l[k]? = some b := ⟨_, List.getElem?_eq_getElem (by rw [HL.out]; exact hlt)⟩
      have c0 := hc k (.bool b) (by simp [boolsV, hb])
      rw [drop_cons_of hb, idxFrom] at he
      cases b with
      | true =>
        have HE := Lib.hid he
        clear hc hb he
        go_wp2_with (go_at_call 175; refine (notB _ _).mono ?_; rintro e w1 ⟨rfl, rfl⟩)
        exact ⟨⟨k + 1, hlt, by go_num, HE.out⟩, by simp [intOf]; omega⟩
      | false =>
        have HE := Lib.hid he
        clear hc hb he
        go_wp2_with (go_at_call 175; refine (notB _ _).mono ?_; rintro e w1 ⟨rfl, rfl⟩)
        go_ret
        exact ⟨ret_int HE.out.symm, rfl⟩
    · obtain rfl : k = n := by omega
      rw [List.drop_of_length_le (by rw [HL.out]; exact Nat.le_refl _)] at he
      have HE := Lib.hid he
      clear he
      go_wp2
      go_ret
      exact ⟨ret_int HE.out.symm, rfl⟩
theorem tMiddle (x y : Int) (h0 : 0 ≤ x) (h1 : x ≤ 100000) (h2 : 0 ≤ y) (h3 : y ≤ 100000) (w : World) : Calls Tryz.prog 52 #[.int .i64 x, .int .i64 y] w fun e w' => e = .returned (.agg #[.int .i64 (middle x y).x, .int .i64 (middle x y).y]) ∧ Below w.heap.size w w' := by
  unfold middle
  go_enter Tryz.func52, Tryz.ntmps52
  go_wp2
  exact bodyPost_ret (v := (.agg #[.int .i64 (x * 65536 + 32768), .int .i64 (y * 65536 + 32768)])) (by simp [results, Tryz.results52, go_sem]) rfl ⟨rfl, (by repeat (first | with_reducible exact Below.refl _ _ | with_reducible assumption | with_reducible refine Below.drew ?_ | with_reducible refine below_drews ?_ _ | with_reducible refine Below.alloc ?_ (by first | omega | (simp; done) | (simp; omega)) _ | with_reducible refine Below.setCell ?_ (by first | omega | (simp; done) | (simp; omega)) _))⟩
end Go.Proofs.YthafngfnbnehiaaGreatDoor
