/- The walks of move.Walk and move.Roll. -/
import Derived.Test.YtbjhdmknhimbjaaDoorMove
set_option linter.unusedSimpArgs false
set_option linter.unusedVariables false
namespace Go.Proofs.YtbjhdmknhimbjaaDoor
open Go.RowKit
def walkNo (e : EntV) (mx my : Int) : Prop := entOk e = false ∨ e.kind ≠ 1 ∨ e.health = 0 ∨ mx = -128 ∨ my = -128
theorem ccell {W w1 : World} {be : Nat} (hc : Chg (fun g => g = be) W w1) : (∀ b o, b < W.heap.size → b ≠ be → w1.cell? ⟨b, o, none⟩ = W.cell? ⟨b, o, none⟩) ∧ (∀ b o, b < W.heap.size → b ≠ be → w1.frozen? ⟨b, o, none⟩ = W.frozen? ⟨b, o, none⟩) :=
  ⟨fun b o h hn => World.cell?_of_block (a := ⟨b, o, none⟩) (hc.block b h hn), fun b o h hn => World.frozen?_of_block (a := ⟨b, o, none⟩) (hc.block b h hn)⟩
theorem entOk_le {e : EntV} (h : entOk e = true) : -134217728 ≤ e.at_.x ∧ e.at_.x ≤ 134217728 ∧ -134217728 ≤ e.at_.y ∧ e.at_.y ≤ 134217728 ∧ -65536 ≤ e.vel.x ∧ e.vel.x ≤ 65536 ∧ -65536 ≤ e.vel.y ∧ e.vel.y ≤ 65536 := by
  unfold entOk vecOk slowOk at h
  simp only [Bool.and_eq_true, decide_eq_true_eq] at h
  omega
end Go.Proofs.YtbjhdmknhimbjaaDoor
