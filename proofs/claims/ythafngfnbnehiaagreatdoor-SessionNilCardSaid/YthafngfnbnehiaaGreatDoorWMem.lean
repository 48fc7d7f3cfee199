/- Words for worlds: what a world is, how it lies in memory; clones of rows. -/
import Derived.Test.YthafngfnbnehiaaGreatDoorRoll
import Derived.Test.YthafngfnbnehiaaGreatDoorOpenM
import Derived.Test.YthafngfnbnehiaaGreatDoorClone
import Derived.Lib.SliceRun
set_option linter.unusedSimpArgs false
set_option linter.unusedVariables false
namespace Go.Proofs.YthafngfnbnehiaaGreatDoor
open Go.RowKit
structure WorldV where
  map : MapV
  st : Int
  tick : Int
  l : List EntV
structure WorldS where
  ms : MapS
  A : Option Addr
  n : Nat
  c : Nat
/-- A world's slices, told. -/
structure WorldAt (w : World) (B : Nat) (v : WorldV) (s : WorldS) : Prop where
  map : MapAt w B v.map s.ms
  l : Reads w B 8 s.A s.n (entsV v.l)
  nc : s.n ≤ s.c
theorem WorldAt.below {w w' : World} {B : Nat} {v : WorldV} {s : WorldS} (h : WorldAt w B v s) (hb : Below B w w') : WorldAt w' B v s := ⟨h.map.below hb, h.l.below hb, h.nc⟩
theorem WorldAt.upto {w : World} {B B' : Nat} {v : WorldV} {s : WorldS} (h : WorldAt w B v s) (hB : B ≤ B') : WorldAt w B' v s := ⟨h.map.upto hB, h.l.upto hB, h.nc⟩
theorem WorldAt.len {w : World} {B : Nat} {v : WorldV} {s : WorldS} (h : WorldAt w B v s) : v.l.length = s.n := by
  have := h.l.1
  rw [entsV_length] at this
  omega
end Go.Proofs.YthafngfnbnehiaaGreatDoor
