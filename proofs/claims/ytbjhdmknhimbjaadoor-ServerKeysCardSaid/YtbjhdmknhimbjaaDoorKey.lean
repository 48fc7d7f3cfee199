/- Layer 21: a slot's key. -/
import Derived.Test.YtbjhdmknhimbjaaDoorFix
import Derived.Laws.Bits64b
set_option linter.unusedSimpArgs false
set_option linter.unusedVariables false
namespace Go.Proofs.YtbjhdmknhimbjaaDoor
open Go.RowKit
def keyI (seed slot : Int) : Int := bits .xor .u32 (seed % 4294967296) (slot % 4294967296 * 2654435761 % 4294967296)
theorem keyI_range (seed slot : Int) : 0 ≤ keyI seed slot ∧ keyI seed slot < 4294967296 := by
  unfold keyI bits
  simp only
  rw [IntKind.wrap_u32]
  exact ⟨Int.emod_nonneg _ (by omega), Int.emod_lt_of_pos _ (by omega)⟩
theorem keyI_bv (seed slot : Int) : ∃ k : BitVec 32, keyI seed slot = (k.toNat : Int) := by
  obtain ⟨h0, h1⟩ := keyI_range seed slot
  obtain ⟨n, hn⟩ := Int.eq_ofNat_of_zero_le h0
  exact ⟨BitVec.ofNat 32 n, by rw [hn, BitVec.toNat_ofNat]; omega⟩
set_option maxHeartbeats 2000000 in
theorem srvKey (seed slot : Int) (w : World) : Calls Tryd.prog 4 #[.int .u64 seed, .int .i64 slot] w fun e w' => e = .returned (.int .u32 (keyI seed slot)) ∧ w = w' := by
  go_enter Tryd.func4, Tryd.ntmps4
  go_wp2
  go_ret
  exact ⟨by simp [keyI], rfl⟩
end Go.Proofs.YtbjhdmknhimbjaaDoor
