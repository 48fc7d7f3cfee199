/- The walk of the document's Same: two lists of commands. -/
import Derived.Test.YtplclgkchiaijaaRefBucket
set_option linter.unusedSimpArgs false
set_option linter.unusedVariables false
namespace Go.Proofs.Ytplclgkchiaijaa
open Go.RowKit
set_option maxHeartbeats 2000000 in
theorem refSame (l m : List Cmd) (w : World) (A : Option Addr) (n c : Nat) (A' : Option Addr) (n' c' : Nat) (h : Reads w w.heap.size 6 A n (cmdsV l)) (h' : Reads w w.heap.size 6 A' n' (cmdsV m)) (hn : n ≤ 9223372036854775807) (hn' : n' ≤ 9223372036854775807) :
    Calls Try.prog 47 #[.slice A n c, .slice A' n' c'] w fun e w' => e = .returned (.bool (decide (l = m))) ∧ Dr w w' := by
  have hl := h.cmd_len
  have hm := h'.cmd_len
  have HL := Lib.hid hl
  have HM := Lib.hid hm
  clear hl hm
  cases hnn : ((n : Int) != (n' : Int)) with
  | true =>
    go_enter Try.func47, Try.ntmps47
    go_wp2
    go_ret
    refine ⟨ret_bool ?_, Dr.refl _⟩
    symm
    apply decide_eq_false
    rintro rfl
    have := bne_iff_ne.1 hnn
    have := HL.out
    have := HM.out
    omega
  | false =>
    have hnn' : n = n' := by have := bne_eq_false_iff_eq.1 hnn; omega
    subst hnn'
    go_enter Try.func47, Try.ntmps47
    go_wp2
    go_loopw [5] (fun i wr => ∃ k : Nat, k ≤ n ∧ i = .int .i64 (k : Nat) ∧ l.take k = m.take k ∧ Dr w wr) (fun i _ => n - (intOf i).toNat)
    case atStart => exact ⟨0, Nat.zero_le _, rfl, rfl, Dr.refl _⟩
    case round =>
      obtain ⟨k, hk, rfl, heq, ⟨q, rfl⟩⟩ := hrel
      have HE := Lib.hid heq
      clear heq
      by_cases hlt : k < n
      · obtain ⟨g, o, x, rfl, hg, hx, x0, x1, x2, x3, x4, x5⟩ := h.cmdAt hlt
        obtain ⟨g', o', y, rfl, hg', hy, y0, y1, y2, y3, y4, y5⟩ := h'.cmdAt hlt
        have HX := Lib.hid hx
        have HY := Lib.hid hy
        clear hx hy
        have keq := fun w => neq58 x y w
        unfold cmdV at keq
        cases hxy : decide (x = y) with
        | true =>
          have e : x = y := of_decide_eq_true hxy
          simp only [hxy] at keq
          have HQ := Lib.hid e
          clear hxy e
          go_wp2
          go_quiet (fail)
          go_wp2
          exact ⟨⟨k + 1, hlt, by go_num, by rw [take_snoc l k x HX.out, take_snoc m k y HY.out, HE.out, HQ.out], ⟨q + nq, rfl⟩⟩, by simp [intOf]; omega⟩
        | false =>
          have e : ¬ x = y := of_decide_eq_false hxy
          simp only [hxy] at keq
          have HQ := Lib.hid e
          clear hxy e
          go_wp2
          go_quiet (fail)
          go_wp2
          go_ret
          refine ⟨ret_bool ?_, ⟨q + nq, World.drewN_drewN _ _ _⟩⟩
          symm
          apply decide_eq_false
          rintro rfl
          have h1 := HX.out
          rw [HY.out] at h1
          cases h1
          exact HQ.out rfl
      · have hkn : k = n := by omega
        subst hkn
        go_wp2
        go_ret
        refine ⟨ret_bool ?_, ⟨q, rfl⟩⟩
        symm
        apply decide_eq_true
        have h1 := HE.out
        rwa [List.take_of_length_le (by have := HL.out; omega), List.take_of_length_le (by have := HM.out; omega)] at h1
end Go.Proofs.Ytplclgkchiaijaa
