/- Where an entity, and a player, stands in a row. -/
import Derived.Test.YtbjhdmknhimbjaaDoorWSpawn
import Derived.Test.YtbjhdmknhimbjaaDoorFind
set_option linter.unusedSimpArgs false
set_option linter.unusedVariables false
namespace Go.Proofs.YtbjhdmknhimbjaaDoor
open Go.RowKit
def playerF (l : List EntV) (id : Int) : Int := if findF l id = -1 then -1 else if (l.getD (findF l id).toNat ⟨0, 0, ⟨0, 0⟩, ⟨0, 0⟩, 0, 0⟩).kind = 1 then findF l id else -1
theorem playerF_spec (l : List EntV) (id : Int) : playerF l id = -1 ∨ ∃ (k : Nat) (e : EntV), playerF l id = (k : Int) ∧ l[k]? = some e ∧ e.id = id ∧ e.kind = 1 := by
  unfold playerF
  rcases findF_spec l id with ⟨h1, h2⟩ | ⟨k, e, h1, h2, h3⟩
  · left; rw [if_pos h1]
  · rw [if_neg (by omega), h1, Int.toNat_natCast, List.getD_eq_getElem?_getD, h2]
    by_cases hk : e.kind = 1
    · right; exact ⟨k, e, by rw [Option.getD_some, if_pos hk], h2, h3, hk⟩
    · left; rw [Option.getD_some, if_neg hk]
end Go.Proofs.YtbjhdmknhimbjaaDoor
