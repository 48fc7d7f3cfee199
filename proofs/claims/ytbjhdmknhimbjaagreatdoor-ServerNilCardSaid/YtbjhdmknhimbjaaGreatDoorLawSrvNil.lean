/- The walk of the law ServerNil. (Printed by gen_srvnil.py.) -/
import Derived.Test.YtbjhdmknhimbjaaGreatDoorSrvNil
import Derived.Test.YtbjhdmknhimbjaaGreatDoorAwake21
set_option linter.unusedSimpArgs false
set_option linter.unusedVariables false
namespace Go.Proofs.YtbjhdmknhimbjaaGreatDoor
open Go.RowKit
set_option maxRecDepth 100000 in
theorem wldZ (w : World) : (Instr.field 49 (.agg #[.int .i64 0, .int .i64 0, .slice none 0 0, .slice none 0 0, .int .u64 0, .int .i64 0, .slice none 0 0]) 3).run Tryz.prog w = .ok (.slice none 0 0) w := by kernel_rfl
set_option maxRecDepth 100000 in
set_option maxHeartbeats 8000000 in
theorem lawSrvNil (sl : Int) (A : Option Addr) (n c : Nat) (w : World) : Calls Tryz.prog 8 #[.int .i64 sl, .slice A n c] w fun r w' => r = .returned (.bool true) ∧ Below w.heap.size w w' := by
  by_cases hn : 300 < n
  · have t1 : decide ((300 : Int) < (n : Int)) = true := decide_eq_true (by omega)
    have t1n : decide (300 < n) = true := decide_eq_true hn
    go_enter Tryz.func8, Tryz.ntmps8
    go_wp2_with fail
    refine (awake21 _).mono ?_
    rintro e w1 ⟨rfl, hb1⟩
    go_wp2_with fail
    refine (awake21 _).mono ?_
    rintro e w2 ⟨rfl, hb2⟩
    have HB := Lib.hid (hb1.trans (hb2.mono hb1.size))
    clear hb1 hb2
    go_wp2
    go_ret
    exact ⟨rfl, HB.out⟩
  · have t1 : decide ((300 : Int) < (n : Int)) = false := decide_eq_false (by omega)
    have t1n : decide (300 < n) = false := decide_eq_false hn
    have hfld := fun w => wldZ w
    clear hn
    go_enter Tryz.func8, Tryz.ntmps8
    go_wp2_with fail
    refine (awake21 _).mono ?_
    rintro e w1 ⟨rfl, hb1⟩
    have HB := Lib.hid hb1
    have hs1 := hb1.size
    clear hb1
    go_wp2_with (first | (go_at_call 24; refine (nSend _ _).mono ?_; rintro e wq ⟨rfl, rfl⟩) | (go_at_call 32; refine (nPast _ _).mono ?_; rintro e wq ⟨rfl, rfl⟩) | (go_at_call 13; refine (nConnect _ _).mono ?_; rintro e wq ⟨rfl, rfl⟩) | (go_at_call 12; refine (nDrop _ _).mono ?_; rintro e wq ⟨rfl, rfl⟩) | (go_at_call 16; refine (nConnected _ _).mono ?_; rintro e wq ⟨rfl, rfl⟩) | (go_at_call 17; refine (nTake _ _ _ _ _).mono ?_; rintro e wq ⟨rfl, rfl⟩) | (go_at_call 14; refine (nTick _).mono ?_; rintro e wq ⟨rfl, rfl⟩) | (go_at_call 21; refine (nApplied _ _).mono ?_; rintro e wq ⟨rfl, rfl⟩) | (go_at_call 22; refine (nWaits _ _).mono ?_; rintro e wq ⟨rfl, rfl⟩) | (go_at_call 15; refine (nWorld _).mono ?_; rintro e w2 ⟨rfl, hb2⟩; have HB2 := Lib.hid (HB.out.trans (hb2.mono hs1)); clear hb2))
    go_ret
    exact ⟨rfl, HB2.out⟩
end Go.Proofs.YtbjhdmknhimbjaaGreatDoor
