/- The walk of the law ClientNil. (Printed by gen_nil.py.) -/
import Derived.Test.YtbjhdmknhimbjaaGreatNilCalls
set_option linter.unusedSimpArgs false
set_option linter.unusedVariables false
namespace Go.Proofs.YtbjhdmknhimbjaaGreat
open Go.RowKit
def mapNil : MapV := ⟨1, 1, [false], [⟨32768, 32768⟩]⟩
theorem readNil : readF [.spawn, .nl] = some mapNil := by rfl
theorem okNil (sl : Int) : cliOk mapNil sl = decide (1 ≤ sl ∧ sl ≤ 8) := by
  have : formedB mapNil = true := by decide +kernel
  unfold cliOk
  rw [this, Bool.true_and]
theorem noNil : cliOk ⟨0, 0, [], []⟩ 1 = false := by decide +kernel
set_option maxRecDepth 100000 in
set_option maxHeartbeats 4000000 in
theorem lawNilBig (sl : Int) (A : Option Addr) (n c : Nat) (p : Int) (w : World) (hn : 500 < n) : Calls Tryz.prog 6 #[.int .i64 sl, .slice A n c, .int .u8 p] w fun r w' => r = .returned (.bool true) ∧ Below w.heap.size w w' := by
  have t1 : decide ((500 : Int) < (n : Int)) = true := decide_eq_true (by omega)
  have t1n : decide (500 < n) = true := decide_eq_true hn
  go_enter Tryz.func6, Tryz.ntmps6
  go_wp2_with fail
  refine (awake22 _).mono ?_
  rintro e w1 ⟨rfl, hb1⟩
  go_wp2_with fail
  refine (awake22 _).mono ?_
  rintro e w2 ⟨rfl, hb2⟩
  have HB := Lib.hid (hb1.trans (hb2.mono hb1.size))
  clear hb1 hb2
  go_wp2
  go_ret
  exact ⟨rfl, HB.out⟩
set_option maxRecDepth 100000 in
set_option maxHeartbeats 8000000 in
theorem lawNil (sl : Int) (A : Option Addr) (n c : Nat) (p : Int) (w : World) : Calls Tryz.prog 6 #[.int .i64 sl, .slice A n c, .int .u8 p] w fun r w' => r = .returned (.bool true) ∧ Below w.heap.size w w' := by
  by_cases hn : 500 < n
  · exact lawNilBig sl A n c p w hn
  have t1 : decide ((500 : Int) < (n : Int)) = false := decide_eq_false (by omega)
  have t1n : decide (500 < n) = false := decide_eq_false hn
  have hR := fun W => tRead _ _ readNil (by decide) W
  have hs : (⟨(sgBytes [.spawn, .nl]).toArray⟩ : ByteArray) = ⟨#[226, 151, 142, 10]⟩ := by rfl
  rw [hs] at hR
  have HY := Lib.hid (fun (s : MapS) W hM h1 h2 (hok : decide (1 ≤ sl ∧ sl ≤ 8) = true) => cliNewYes mapNil s 1 sl W hM ((okNil sl).trans hok) h1 h2)
  have HN := Lib.hid (fun (s : MapS) W hM (hok : decide (1 ≤ sl ∧ sl ≤ 8) = false) => cliNewNo mapNil s 1 sl W hM ((okNil sl).trans hok))
  have H0 := Lib.hid (fun W => cliNewNo ⟨0, 0, [], []⟩ ⟨none, 0, 0, none, 0, 0⟩ 1 1 W ⟨Reads.none_, Reads.none_, by decide, by decide, by decide⟩ noNil)
  simp only [mapNil] at hR HY HN
  clear hs hn
  go_enter Tryz.func6, Tryz.ntmps6
  go_wp2_with fail
  refine (awake22 _).mono ?_
  rintro e w1 ⟨rfl, hb1⟩
  have B1 := Lib.hid hb1
  clear hb1
  go_wp2_with fail
  refine (nilLook p w1).mono ?_
  rintro e w2 ⟨rfl, rfl⟩
  go_wp2_with fail
  refine (nilView w1).mono ?_
  rintro e w2 ⟨rfl, rfl⟩
  go_wp2_with fail
  refine (nilOwn w1).mono ?_
  rintro e w2 ⟨rfl, hb2⟩
  have B2 := Lib.hid (B1.out.trans (hb2.mono B1.out.size))
  have s2 := B2.out.size
  clear hb2 B1
  go_wp2_with fail
  refine (nilPlace sl _).mono ?_
  rintro e w3 ⟨rfl, hb3⟩
  have B3 := Lib.hid ((B2.out.alloc s2 _).trans (hb3.mono (by simp; omega)))
  have s3 := B3.out.size
  clear hb3 B2 s2
  go_wp2_with fail
  refine (hR _).mono ?_
  rintro e w4 ⟨s, rfl, hmat, hb4⟩
  have B4 := Lib.hid ((B3.out.alloc s3 _).trans (hb4.mono (by simp; omega)))
  have s4 := B4.out.size
  have HMT := Lib.hid hmat
  have HL := Lib.hid hmat.len
  clear hb4 B3 s3 hmat hR
  by_cases hok : 1 ≤ sl ∧ sl ≤ 8
  · have r1 : decide (1 ≤ sl) = true := decide_eq_true hok.1
    have r2 : decide (sl ≤ 8) = true := decide_eq_true hok.2
    have hdk : decide (1 ≤ sl ∧ sl ≤ 8) = true := decide_eq_true hok
    have HDK := Lib.hid hdk
    clear hok hdk
    go_wp2_with fail
    refine (HY.out s _ ((HMT.out.below (Below.alloc (Below.refl _ _) (Nat.le_refl _) _)).upto (by simp)) (by have := HL.out.1; simp at this; omega) (by have := HL.out.2; simp at this; omega) HDK.out).mono ?_
    rintro e w5 ⟨b, s5, rfl, -, -, -, hb5⟩
    have B5 := Lib.hid ((B4.out.alloc s4 _).trans (hb5.mono (by simp; omega)))
    have s5 := B5.out.size
    clear hb5 B4 s4
    go_wp2_with fail
    refine (H0.out _).mono ?_
    rintro e w6 ⟨rfl, hb6⟩
    have B6 := Lib.hid (B5.out.trans (hb6.mono s5))
    clear hb6 B5 s5
    go_wp2_with (first | (go_at_call 14; refine (nilSend _).mono ?_; rintro e wq ⟨rfl, rfl⟩) | (go_at_call 23; refine (nilList _).mono ?_; rintro e wq ⟨rfl, rfl⟩) | (go_at_call 19; refine (nilAccepted _).mono ?_; rintro e wq ⟨rfl, rfl⟩) | (go_at_call 26; refine (nilPending _).mono ?_; rintro e wq ⟨rfl, rfl⟩) | (go_at_call 25; refine (nilResync _).mono ?_; rintro e wq ⟨rfl, rfl⟩) | (go_at_call 31; refine (nilLines _).mono ?_; rintro e wq ⟨rfl, rfl⟩) | (go_at_call 21; refine (nilTake _ _ _ _).mono ?_; rintro e wq ⟨rfl, rfl⟩) | (go_at_call 12; refine (nilEnter _ _ _ _).mono ?_; rintro e wq ⟨rfl, rfl⟩))
    go_ret
    exact ⟨rfl, B6.out⟩
  · have hr : decide (1 ≤ sl) = false ∨ decide (1 ≤ sl) = true ∧ decide (sl ≤ 8) = false := by
      by_cases h1 : 1 ≤ sl
      · exact .inr ⟨decide_eq_true h1, decide_eq_false (by omega)⟩
      · exact .inl (decide_eq_false h1)
    have hdk : decide (1 ≤ sl ∧ sl ≤ 8) = false := decide_eq_false hok
    have HDK := Lib.hid hdk
    clear hok hdk
    go_wp2_with fail
    refine (HN.out s _ ((HMT.out.below (Below.alloc (Below.refl _ _) (Nat.le_refl _) _)).upto (by simp)) HDK.out).mono ?_
    rintro e w5 ⟨rfl, hb5⟩
    have B5 := Lib.hid ((B4.out.alloc s4 _).trans (hb5.mono (by simp; omega)))
    have s5 := B5.out.size
    clear hb5 B4 s4
    go_wp2_with fail
    refine (H0.out _).mono ?_
    rintro e w6 ⟨rfl, hb6⟩
    have B6 := Lib.hid (B5.out.trans (hb6.mono s5))
    clear hb6 B5 s5
    rcases hr with r1 | ⟨r1, r2⟩
    all_goals
      go_wp2_with (first | (go_at_call 14; refine (nilSend _).mono ?_; rintro e wq ⟨rfl, rfl⟩) | (go_at_call 23; refine (nilList _).mono ?_; rintro e wq ⟨rfl, rfl⟩) | (go_at_call 19; refine (nilAccepted _).mono ?_; rintro e wq ⟨rfl, rfl⟩) | (go_at_call 26; refine (nilPending _).mono ?_; rintro e wq ⟨rfl, rfl⟩) | (go_at_call 25; refine (nilResync _).mono ?_; rintro e wq ⟨rfl, rfl⟩) | (go_at_call 31; refine (nilLines _).mono ?_; rintro e wq ⟨rfl, rfl⟩) | (go_at_call 21; refine (nilTake _ _ _ _).mono ?_; rintro e wq ⟨rfl, rfl⟩) | (go_at_call 12; refine (nilEnter _ _ _ _).mono ?_; rintro e wq ⟨rfl, rfl⟩))
      go_ret
      exact ⟨rfl, B6.out⟩
end Go.Proofs.YtbjhdmknhimbjaaGreat
