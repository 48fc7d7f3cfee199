/- Layer 21's laws: awake. -/
import Derived.Test.YthafngfnbnehiaaGreatDoorSrvJoin
import Derived.Test.YthafngfnbnehiaaGreatDoorRead
set_option linter.unusedSimpArgs false
set_option linter.unusedVariables false
namespace Go.Proofs.YthafngfnbnehiaaGreatDoor
open Go.RowKit
def map21 : MapV := ⟨2, 1, [false, false], [⟨32768, 32768⟩, ⟨98304, 32768⟩]⟩
theorem read21 : readF [.spawn, .spawn, .nl] = some map21 := by rfl
theorem formed21 : formedB map21 = true := by rfl
theorem ballsF_lenS (m : MapV) (k : Nat) (st : Int) : (ballsF m k st).2.length = k := by
  induction k with
  | zero => rfl
  | succ k ih => show ((ballsF m k st).2 ++ [_]).length = _; simp [ih]
theorem len21 : (newF map21 7 1).l.length = 1 := ballsF_lenS _ _ _
theorem find21 : findF (newF map21 7 1).l 2 = -1 := by decide +kernel
theorem wldL (v : WorldV) (s : WorldS) (w : World) : (Instr.field 54 (.agg #[.int .i64 v.map.W, .int .i64 v.map.H, .slice s.ms.A s.ms.n s.ms.c, .slice s.ms.A2 s.ms.n2 s.ms.c2, .int .u64 v.st, .int .i64 v.tick, .slice s.A s.n s.c]) 3).run Tryz.prog w = .ok (.slice s.A s.n s.c) w := by kernel_rfl
theorem Chg.belS {F : Nat → Prop} {w a b : World} {B : Nat} (h : Below B w a) (hB : B ≤ w.heap.size) (hc : Chg F a b) (hF : ∀ q, F q → B ≤ q) : Below B w b :=
  h.trans ⟨hc.os, hc.tape, hc.output, hc.size, fun g hg => hc.block g (by have := h.size; omega) (fun hh => by have := hF g hh; omega)⟩
end Go.Proofs.YthafngfnbnehiaaGreatDoor
