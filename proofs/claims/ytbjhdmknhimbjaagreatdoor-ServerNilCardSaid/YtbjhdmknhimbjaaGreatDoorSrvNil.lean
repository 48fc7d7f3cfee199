/- No server: what each of its calls does. (Printed by gen_srvnil.py.) -/
import Derived.Test.YtbjhdmknhimbjaaGreatDoorSrvPut
set_option linter.unusedSimpArgs false
set_option linter.unusedVariables false
namespace Go.Proofs.YtbjhdmknhimbjaaGreatDoor
open Go.RowKit
theorem nPeer (k : Int) (w : World) : Calls Tryz.prog 38 #[.pointer none, .int .i64 k] w fun e w' => e = .returned (.pointer none) ∧ w = w' := by
  go_enter Tryz.func38, Tryz.ntmps38
  go_wp2
  go_ret
  exact ⟨rfl, rfl⟩
set_option maxRecDepth 100000 in
theorem nSend (k : Int) (w : World) : Calls Tryz.prog 24 #[.pointer none, .int .i64 k] w fun e w' => e = .returned (.tuple #[.slice none 0 0, .int .i64 6]) ∧ w = w' := by
  go_enter Tryz.func24, Tryz.ntmps24
  go_wp2_with (go_at_call 38; refine (nPeer _ _).mono ?_; rintro e wq ⟨rfl, rfl⟩)
  go_ret2
  exact ⟨rfl, rfl⟩
set_option maxRecDepth 100000 in
theorem nPast (k : Int) (w : World) : Calls Tryz.prog 32 #[.pointer none, .int .i64 k] w fun e w' => e = .returned (.tuple #[.slice none 0 0, .bool false]) ∧ w = w' := by
  go_enter Tryz.func32, Tryz.ntmps32
  go_wp2
  go_ret2
  exact ⟨rfl, rfl⟩
set_option maxRecDepth 100000 in
theorem nConnect (k : Int) (w : World) : Calls Tryz.prog 13 #[.pointer none, .int .i64 k] w fun e w' => e = .returned (.int .i64 6) ∧ w = w' := by
  go_enter Tryz.func13, Tryz.ntmps13
  go_wp2
  go_ret
  exact ⟨rfl, rfl⟩
set_option maxRecDepth 100000 in
theorem nDrop (k : Int) (w : World) : Calls Tryz.prog 12 #[.pointer none, .int .i64 k] w fun e w' => e = .returned (.int .i64 6) ∧ w = w' := by
  go_enter Tryz.func12, Tryz.ntmps12
  go_wp2_with (go_at_call 38; refine (nPeer _ _).mono ?_; rintro e wq ⟨rfl, rfl⟩)
  go_ret
  exact ⟨rfl, rfl⟩
set_option maxRecDepth 100000 in
theorem nConnected (k : Int) (w : World) : Calls Tryz.prog 16 #[.pointer none, .int .i64 k] w fun e w' => e = .returned (.bool false) ∧ w = w' := by
  go_enter Tryz.func16, Tryz.ntmps16
  go_wp2_with (go_at_call 38; refine (nPeer _ _).mono ?_; rintro e wq ⟨rfl, rfl⟩)
  go_ret
  exact ⟨rfl, rfl⟩
set_option maxRecDepth 100000 in
theorem nTake (k : Int) (A : Option Addr) (n c : Nat) (w : World) : Calls Tryz.prog 17 #[.pointer none, .int .i64 k, .slice A n c] w fun e w' => e = .returned (.int .i64 6) ∧ w = w' := by
  go_enter Tryz.func17, Tryz.ntmps17
  go_wp2_with (go_at_call 38; refine (nPeer _ _).mono ?_; rintro e wq ⟨rfl, rfl⟩)
  go_ret
  exact ⟨rfl, rfl⟩
set_option maxRecDepth 100000 in
theorem nTick (w : World) : Calls Tryz.prog 14 #[.pointer none] w fun e w' => e = .returned (.slice none 0 0) ∧ w = w' := by
  go_enter Tryz.func14, Tryz.ntmps14
  go_wp2
  go_ret
  exact ⟨rfl, rfl⟩
set_option maxRecDepth 100000 in
theorem nApplied (k : Int) (w : World) : Calls Tryz.prog 21 #[.pointer none, .int .i64 k] w fun e w' => e = .returned (.int .u32 0) ∧ w = w' := by
  go_enter Tryz.func21, Tryz.ntmps21
  go_wp2_with (go_at_call 38; refine (nPeer _ _).mono ?_; rintro e wq ⟨rfl, rfl⟩)
  go_ret
  exact ⟨rfl, rfl⟩
set_option maxRecDepth 100000 in
theorem nWaits (k : Int) (w : World) : Calls Tryz.prog 22 #[.pointer none, .int .i64 k] w fun e w' => e = .returned (.int .i64 0) ∧ w = w' := by
  go_enter Tryz.func22, Tryz.ntmps22
  go_wp2_with (go_at_call 38; refine (nPeer _ _).mono ?_; rintro e wq ⟨rfl, rfl⟩)
  go_ret
  exact ⟨rfl, rfl⟩
set_option maxRecDepth 100000 in
set_option maxHeartbeats 4000000 in
theorem nWorld (w : World) : Calls Tryz.prog 15 #[.pointer none] w fun e w' => e = .returned (.agg #[.int .i64 0, .int .i64 0, .slice none 0 0, .slice none 0 0, .int .u64 0, .int .i64 0, .slice none 0 0]) ∧ Below w.heap.size w w' := by
  go_enter Tryz.func15, Tryz.ntmps15
  go_wp2
  exact bodyPost_ret (v := .agg #[.int .i64 0, .int .i64 0, .slice none 0 0, .slice none 0 0, .int .u64 0, .int .i64 0, .slice none 0 0]) (by simp [results, Tryz.results15, go_sem]) rfl ⟨rfl, (by repeat (first | with_reducible exact Below.refl _ _ | with_reducible assumption | with_reducible refine Below.drew ?_ | with_reducible refine below_drews ?_ _ | with_reducible refine Below.alloc ?_ (by first | omega | (simp; done) | (simp; omega)) _ | with_reducible refine Below.setCell ?_ (by first | omega | (simp; done) | (simp; omega)) _))⟩
end Go.Proofs.YtbjhdmknhimbjaaGreatDoor
