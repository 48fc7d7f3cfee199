/- Layer 21's laws: few. -/
import Derived.Test.YtojbijapdkohlaaGreatDoorQ47Open21
import Derived.WalkKit
set_option linter.unusedSimpArgs false
set_option linter.unusedVariables false
namespace Go.Proofs.YtojbijapdkohlaaGreatDoor
open Go.RowKit
def fewO (o : Op21) : Bool := decide (o.rN ≤ 20) && decide (o.bN ≤ 300)
def fewL (l : List Op21) : Bool := (l.take 160).all fewO
theorem fewL_no {l : List Op21} {k : Nat} {x : Op21} (hx : l[k]? = some x) (hk : k < 160) (h : fewO x = false) : fewL l = false := by
  unfold fewL
  rw [List.all_eq_false]
  refine ⟨x, ?_, by rw [h]; decide⟩
  have h1 : (l.take 160)[k]? = some x := by rw [List.getElem?_take, if_pos hk, hx]
  exact List.mem_of_getElem? h1
theorem fewL_step {l : List Op21} {k : Nat} {x : Op21} (hx : l[k]? = some x) (h : fewO x = true) (ha : (l.take k).all fewO = true) : (l.take (k + 1)).all fewO = true := by
  have hk : k < l.length := (List.getElem?_eq_some_iff.1 hx).1
  have he : l[k] = x := (List.getElem?_eq_some_iff.1 hx).2
  rw [List.take_succ_eq_append_getElem hk, List.all_append, ha, he]
  simp [h]
theorem fewL_end {l : List Op21} {k : Nat} (ha : (l.take k).all fewO = true) (hk : l.length ≤ k ∨ 160 ≤ k) : fewL l = true := by
  unfold fewL
  rcases hk with h | h
  · rw [List.take_of_length_le h] at ha
    rw [List.all_eq_true] at ha ⊢
    exact fun x hx => ha x (List.mem_of_mem_take hx)
  · rw [List.all_eq_true] at ha ⊢
    exact fun x hx => ha x ((List.take_subset_take_left l h) hx)
set_option maxRecDepth 100000 in
set_option maxHeartbeats 4000000 in
theorem few21 (m : MapV) (s : MapS) (l : List Op21) (A : Option Addr) (n c : Nat) (w : World) (h : Reads w w.heap.size 12 A n (ops21V l)) (hn : n ≤ 9223372036854775807) :
    Calls Tryz.prog 43 #[(.agg #[.int .i64 m.W, .int .i64 m.H, .slice s.A s.n s.c, .slice s.A2 s.n2 s.c2]), .slice A n c] w fun e w' => e = .returned (.bool (fewL l && decide (s.n ≤ 200 ∧ s.n2 ≤ 200 ∧ n ≤ 150))) ∧ Below w.heap.size w w' := by
  have hl : l.length = n := by have := h.1; rw [ops21V_length] at this; omega
  have HL := Lib.hid hl
  have HR := Lib.hid h
  clear h hl
  go_enter Tryz.func43, Tryz.ntmps43
  go_wp2
  go_loop [5] (fun i => ∃ k : Nat, k ≤ n ∧ k ≤ 160 ∧ i = .int .i64 k ∧ (l.take k).all fewO = true) (fun i => 161 - (intOf i).toNat)
  case atStart => exact ⟨0, Nat.zero_le _, Nat.zero_le _, rfl, rfl⟩
  case round =>
    obtain ⟨k, hk, hk160, rfl, hok⟩ := hrel
    have HOK := Lib.hid hok
    clear hok
    by_cases hlt : k < n
    · have t0 : decide ((k : Int) < (n : Int)) = true := decide_eq_true (by omega)
      have t0n : decide (k < n) = true := decide_eq_true hlt
      by_cases h160 : k < 160
      · have t1 : decide ((k : Int) < 160) = true := decide_eq_true (by omega)
        have t1n : decide (k < 160) = true := decide_eq_true h160
        obtain ⟨g, off, rfl, hg, hc⟩ := HR.out.flat (by omega) (by decide)
        obtain ⟨x, hx⟩ : ∃ x, l[k]? = some x := ⟨_, List.getElem?_eq_getElem (by rw [HL.out]; exact hlt)⟩
        have c8 : w.cell? ⟨g, off + k * 12 + 8, none⟩ = some (.slice x.rA x.rN x.rC) := by rw [Nat.add_assoc]; exact hc _ _ ((ops21V_at hx 8 (by decide)).trans rfl)
        have c11 : w.cell? ⟨g, off + k * 12 + 11, none⟩ = some (.slice x.bA x.bN x.bC) := by rw [Nat.add_assoc]; exact hc _ _ ((ops21V_at hx 11 (by decide)).trans rfl)
        have HX := Lib.hid hx
        clear hx hc
        by_cases hr : x.rN ≤ 20
        · have t2 : decide ((20 : Int) < (x.rN : Int)) = false := decide_eq_false (by omega)
          have t2n : decide (20 < x.rN) = false := decide_eq_false (by omega)
          by_cases hb : x.bN ≤ 300
          · have t3 : decide ((300 : Int) < (x.bN : Int)) = false := decide_eq_false (by omega)
            have t3n : decide (300 < x.bN) = false := decide_eq_false (by omega)
            have hO : fewO x = true := by unfold fewO; rw [decide_eq_true hr, decide_eq_true hb]; rfl
            have HO := Lib.hid (fewL_step HX.out hO HOK.out)
            clear hO
            go_wp2
            exact ⟨⟨k + 1, by omega, by omega, by go_num, HO.out⟩, by simp [intOf]; omega⟩
          · have t3 : decide ((300 : Int) < (x.bN : Int)) = true := decide_eq_true (by omega)
            have t3n : decide (300 < x.bN) = true := decide_eq_true (by omega)
            have hO : fewO x = false := by unfold fewO; rw [decide_eq_false hb]; simp
            have HO := Lib.hid (fewL_no HX.out h160 hO)
            clear hO
            go_wp2
            go_ret
            exact ⟨by rw [HO.out]; rfl, (by repeat (first | with_reducible exact Below.refl _ _ | with_reducible assumption | with_reducible refine Below.drew ?_ | with_reducible refine below_drews ?_ _ | with_reducible refine Below.alloc ?_ (by first | omega | (simp; done) | (simp; omega)) _ | with_reducible refine Below.setCell ?_ (by first | omega | (simp; done) | (simp; omega)) _))⟩
        · have t2 : decide ((20 : Int) < (x.rN : Int)) = true := decide_eq_true (by omega)
          have t2n : decide (20 < x.rN) = true := decide_eq_true (by omega)
          have hO : fewO x = false := by unfold fewO; rw [decide_eq_false hr]; simp
          have HO := Lib.hid (fewL_no HX.out h160 hO)
          clear hO
          go_wp2
          go_ret
          exact ⟨by rw [HO.out]; rfl, (by repeat (first | with_reducible exact Below.refl _ _ | with_reducible assumption | with_reducible refine Below.drew ?_ | with_reducible refine below_drews ?_ _ | with_reducible refine Below.alloc ?_ (by first | omega | (simp; done) | (simp; omega)) _ | with_reducible refine Below.setCell ?_ (by first | omega | (simp; done) | (simp; omega)) _))⟩
      · have t1 : decide ((k : Int) < 160) = false := decide_eq_false (by omega)
        have t1n : decide (k < 160) = false := decide_eq_false h160
        have HE := Lib.hid (fewL_end HOK.out (.inr (by omega)))
        go_wp2
        all_goals
          go_ret
          refine ⟨ret_bool ?_, (by repeat (first | with_reducible exact Below.refl _ _ | with_reducible assumption | with_reducible refine Below.drew ?_ | with_reducible refine below_drews ?_ _ | with_reducible refine Below.alloc ?_ (by first | omega | (simp; done) | (simp; omega)) _ | with_reducible refine Below.setCell ?_ (by first | omega | (simp; done) | (simp; omega)) _))⟩
          rw [HE.out, Bool.eq_iff_iff]
          simp
          try omega
    · have t0 : decide ((k : Int) < (n : Int)) = false := decide_eq_false (by omega)
      have t0n : decide (k < n) = false := decide_eq_false hlt
      have HE := Lib.hid (fewL_end HOK.out (.inl (by rw [HL.out]; omega)))
      go_wp2
      all_goals
        go_ret
        refine ⟨ret_bool ?_, (by repeat (first | with_reducible exact Below.refl _ _ | with_reducible assumption | with_reducible refine Below.drew ?_ | with_reducible refine below_drews ?_ _ | with_reducible refine Below.alloc ?_ (by first | omega | (simp; done) | (simp; omega)) _ | with_reducible refine Below.setCell ?_ (by first | omega | (simp; done) | (simp; omega)) _))⟩
        rw [HE.out, Bool.eq_iff_iff]
        simp
        try omega
end Go.Proofs.YtojbijapdkohlaaGreatDoor
