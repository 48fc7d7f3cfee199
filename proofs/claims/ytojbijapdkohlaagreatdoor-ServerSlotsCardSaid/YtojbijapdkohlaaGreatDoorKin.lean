/- A region that draws its order, whose operations read and whose callees make memory alone: one walk, in the order of the text, in any world that is as the first one was below a block number. -/
import Derived.Test.YtojbijapdkohlaaGreatDoorMem
import Derived.BigQuiet
import Derived.Deep.QuietTactic
set_option linter.unusedSimpArgs false
set_option linter.unusedVariables false
namespace Go.Proofs.YtojbijapdkohlaaGreatDoor
open Go.RowKit
/-- A world that below B is as W was. -/
structure Kin (B : Nat) (W : World) where
  w : World
  below : Below B W w
instance Kin.nonempty {B : Nat} {W : World} : Nonempty (Kin B W) := ⟨⟨W, Below.refl B W⟩⟩
theorem Kin.cell {B : Nat} {W : World} (x : Kin B W) {p : Addr} {v : Value} (h : W.cell? p = some v) (hp : p.block < B) : x.w.cell? p = some v := (x.below.cell hp).trans h
theorem wp_region_kin {P : Program} {id : Nat} {Q : Exit → Act → World → Prop} {a : Act} {w : World} {l : List Oper} (B : Nat) (hm : P.follows .mixedOrders = true) (hB : Region.lexB .any l.toArray = true)
    (h : wpQuiet P l.toArray (fun w' => ∃ x : Kin B w, w' = x.w) (fun a' => ∀ w', (∃ x : Kin B w, w' = x.w) → Q .normal a' w') l a) : (Code.region id l.toArray true).wp P Q a w :=
  wp_region_quiet (C := fun w' => ∃ x : Kin B w, w' = x.w) hm hB ⟨⟨w.drew, (Below.refl B w).drew⟩, rfl⟩ (by simpa using h)
theorem kin_of {P : Program} {f : FuncId} {args : Array Value} {B : Nat} {W : World} {v : Value} {x : Kin B W} (hB : B ≤ W.heap.size)
    (h : Calls P f args x.w fun e w' => e = .returned v ∧ Below x.w.heap.size x.w w') : Calls P f args x.w fun e w' => e = .returned v ∧ ∃ y : Kin B W, w' = y.w :=
  h.mono fun _ w' ⟨he, hb⟩ => ⟨he, ⟨w', x.below.trans (hb.mono (Nat.le_trans hB x.below.size))⟩, rfl⟩
theorem kin_left {P : Program} {f : FuncId} {args : Array Value} {B : Nat} {W : World} {v : Value} {x : Kin B W}
    (h : Calls P f args x.w fun e w' => e = .returned v ∧ x.w = w') : Calls P f args x.w fun e w' => e = .returned v ∧ ∃ y : Kin B W, w' = y.w :=
  h.mono fun _ w' ⟨he, hb⟩ => ⟨he, x, hb.symm⟩
theorem kin_dr {P : Program} {f : FuncId} {args : Array Value} {B : Nat} {W : World} {v : Value} {x : Kin B W}
    (h : Calls P f args x.w fun e w' => e = .returned v ∧ Dr x.w w') : Calls P f args x.w fun e w' => e = .returned v ∧ ∃ y : Kin B W, w' = y.w :=
  h.mono fun _ w' ⟨he, hb⟩ => ⟨he, ⟨w', x.below.trans (hb.below B)⟩, rfl⟩
/-- The same, with what the cells below B read laid at hand. -/
theorem wp_region_kin' {P : Program} {id : Nat} {Q : Exit → Act → World → Prop} {a : Act} {w : World} {l : List Oper} (B : Nat) (hm : P.follows .mixedOrders = true) (hB : Region.lexB .any l.toArray = true)
    (h : (∀ (x : Kin B w) (b o : Nat), b < B → x.w.cell? ⟨b, o, none⟩ = w.cell? ⟨b, o, none⟩) → wpQuiet P l.toArray (fun w' => ∃ x : Kin B w, w' = x.w) (fun a' => ∀ w', (∃ x : Kin B w, w' = x.w) → Q .normal a' w') l a) : (Code.region id l.toArray true).wp P Q a w :=
  wp_region_kin B hm hB (h fun x b o hb => x.below.cell (p := ⟨b, o, none⟩) hb)
end Go.Proofs.YtojbijapdkohlaaGreatDoor
