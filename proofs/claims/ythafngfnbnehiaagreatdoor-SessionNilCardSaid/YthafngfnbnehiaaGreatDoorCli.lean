/- Layer 22: what a client tells of itself. Its block: 0-3 map, 4 seed, 5 slot, 6-10 channel, 11 assembler, 12 receiver, 13-14 past, 15 number, 16 pending, 17 resync, 18 part, 19 lines. -/
import Derived.Test.YthafngfnbnehiaaGreatDoorRing
set_option linter.unusedSimpArgs false
set_option linter.unusedVariables false
namespace Go.Proofs.YthafngfnbnehiaaGreatDoor
open Go.RowKit
theorem cliPending (b : Nat) (A : Option Addr) (n c : Nat) (w : World) (h0 : w.cell? ⟨b, 16, none⟩ = some (.slice A n c)) :
    Calls Tryz.prog 25 #[.pointer (some ⟨b, 0, none⟩)] w fun e w' => e = .returned (.int .i64 (n : Nat)) ∧ w = w' := by
  go_enter Tryz.func25, Tryz.ntmps25
  go_wp2
  go_ret
  exact ⟨rfl, rfl⟩
set_option maxRecDepth 100000 in
set_option maxHeartbeats 2000000 in
theorem cliAccepted (ts : List Int) (b : Nat) (A : Option Addr) (n c : Nat) (w : World) (h0 : w.cell? ⟨b, 13, none⟩ = some (.slice A n c)) (hr : Reads w w.heap.size 1 A n (intsV ts)) (hn : n ≤ 100000) :
    Calls Tryz.prog 20 #[.pointer (some ⟨b, 0, none⟩)] w fun e w' => e = .returned (.int .i64 (lastI ts)) ∧ Below w.heap.size w w' := by
  have hL := Lib.hid (ringLast ts b 13 A n c w h0 hr hn)
  clear hr
  go_enter Tryz.func20, Tryz.ntmps20
  go_wp2_with fail
  refine hL.out.mono ?_
  rintro e w1 ⟨rfl, hb1⟩
  go_wp2_with fail
  go_ret
  exact ⟨rfl, hb1⟩
def viewI (ts : List Int) : Int := heldI ts (wrap64 (lastI ts - 2))
set_option maxRecDepth 100000 in
set_option maxHeartbeats 2000000 in
theorem cliView (ts : List Int) (b : Nat) (A : Option Addr) (n c : Nat) (p : Int) (w : World) (h0 : w.cell? ⟨b, 13, none⟩ = some (.slice A n c)) (h1 : w.cell? ⟨b, 18, none⟩ = some (.int .u8 p)) (hr : Reads w w.heap.size 1 A n (intsV ts)) (hn : n ≤ 100000) :
    Calls Tryz.prog 126 #[.pointer (some ⟨b, 0, none⟩)] w fun e w' => e = .returned (.tuple #[.int .i64 (viewI ts), .int .u8 p]) ∧ Below w.heap.size w w' := by
  have hb := World.block_lt_of_cell? w _ h0
  have hb2 : b < w.heap.size := hb
  have HL := Lib.hid (fun W (hW : Below w.heap.size w W) => ringLast ts b 13 A n c W ((hW.cell (p := ⟨b, 13, none⟩) hb).trans h0) ((hr.below hW).upto hW.size) hn)
  have HH := Lib.hid (fun v W (hW : Below w.heap.size w W) => rewHeld ts v b 13 A n c W ((hW.cell (p := ⟨b, 13, none⟩) hb).trans h0) ((hr.below hW).upto hW.size) hn)
  clear hr h0
  unfold viewI
  go_enter Tryz.func126, Tryz.ntmps126
  go_wp2
  refine wp_region_kin' w.heap.size (by kernel_rfl) (by kernel_rfl) (fun kk => ?_)
  repeat (first
    | go_big_quiet_step ((first | (go_at_call 46; exact kin_of (Nat.le_refl _) (HL.out _ (Kin.below _))) | (go_at_call 106; exact kin_of (Nat.le_refl _) (HH.out _ _ (Kin.below _)))))
    | quiet_step ((first | (go_at_call 46; exact kin_of (Nat.le_refl _) (HL.out _ (Kin.below _))) | (go_at_call 106; exact kin_of (Nat.le_refl _) (HH.out _ _ (Kin.below _))))))
  refine wpQuiet_nil ?_
  rintro _ ⟨⟨wk, hwk⟩, rfl⟩
  go_wp2
  go_ret2
  exact ⟨rfl, hwk⟩
theorem recWants (b o : Nat) (x : Int) (w : World) (h0 : w.cell? ⟨b, o, none⟩ = some (.int .u32 x)) :
    Calls Tryz.prog 114 #[.pointer (some ⟨b, o, none⟩)] w fun e w' => e = .returned (.int .u32 ((x + 1) % 4294967296)) ∧ w = w' := by
  go_enter Tryz.func114, Tryz.ntmps114
  go_wp2
  go_ret
  exact ⟨by simp, rfl⟩
end Go.Proofs.YthafngfnbnehiaaGreatDoor
