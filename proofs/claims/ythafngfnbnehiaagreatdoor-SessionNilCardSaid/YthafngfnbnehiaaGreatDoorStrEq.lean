/- '==' of structs of whole numbers, as one Bool. -/
import Derived.Test.YthafngfnbnehiaaGreatDoorEnt
import Derived.Laws.StructEq
set_option linter.unusedSimpArgs false
set_option linter.unusedVariables false
namespace Go.Proofs.YthafngfnbnehiaaGreatDoor
open Go.RowKit
section
variable {P : Program} {d : Nat} {xs ys : Array Value} {f : Field} {fs : List Field} {a b : Value} {r s : Bool} {w : World}
theorem seq_last (hn : f.name ≠ "_") (ha : (part f.type xs f.offset).run P w = .ok a w) (hb : (part f.type ys f.offset).run P w = .ok b w) (he : (Op.equalIn d f.type a b).run P w = .ok r w) : (Op.eqFields d xs ys [f]).run P w = .ok r w := by
  simp only [Op.eqFields, if_pos hn, Sem.run_bind, ha, hb, he, Result.andThen_ok]
  cases r <;> simp
theorem seq_cons (hn : f.name ≠ "_") (ha : (part f.type xs f.offset).run P w = .ok a w) (hb : (part f.type ys f.offset).run P w = .ok b w) (he : (Op.equalIn d f.type a b).run P w = .ok r w) (hr : (Op.eqFields d xs ys fs).run P w = .ok s w) :
    (Op.eqFields d xs ys (f :: fs)).run P w = .ok (r && s) w := by
  rw [Op.eqFields]
  simp only [if_pos hn, Sem.run_bind, ha, hb, he, Result.andThen_ok]
  cases r
  · simp
  · simpa using hr
theorem seq_of {t : TypeId} {fs : Array Field} (hu : P.underlying t = some (.struct fs)) (hp : P.stoodInHeld t = false) (h : (Op.eqFields d xs ys fs.toList).run P w = .ok r w) : (Op.equalIn (d + 1) t (.agg xs) (.agg ys)).run P w = .ok r w := by
  have hf : P.fieldsOf t = fs := by simp [Program.fieldsOf, hu]
  rw [run_equalIn_struct (P := P) w d t xs ys (by rw [hf]; exact hu) hp, hf]
  exact h
end
theorem eqVecA (d : Nat) (w : World) (x0 y0 x1 y1 : Int) : (Op.equalIn (d + 2) 70 (.agg #[.int .i64 x0, .int .i64 x1]) (.agg #[.int .i64 y0, .int .i64 y1])).run Tryz.prog w = .ok (x0 == y0 && x1 == y1) w := by
  refine seq_of Tryz.underlying70 (by kernel_rfl) ?_
  refine seq_cons (by decide) (by go_simp; rfl) (by go_simp; rfl) (by go_simp) ?_
  exact seq_last (by decide) (by go_simp; rfl) (by go_simp; rfl) (by go_simp)
theorem vec_beq (a b : VecV) : (a.x == b.x && a.y == b.y) = decide (a = b) := by
  rw [Bool.eq_iff_iff, decide_eq_true_eq, VecV.ext_iff']; simp
theorem neqVec (a b : VecV) (w : World) : (binOp .neq 70 (.agg #[.int .i64 a.x, .int .i64 a.y]) (.agg #[.int .i64 b.x, .int .i64 b.y])).run Tryz.prog w = .ok (.bool (!decide (a = b))) w := by
  have h := eqVecA 9998 w a.x b.x a.y b.y
  rw [vec_beq] at h
  simp only [binOp]
  simp [Op.equal, Op.maxDepth, h]
theorem eqlVec (a b : VecV) (w : World) : (binOp .eql 70 (.agg #[.int .i64 a.x, .int .i64 a.y]) (.agg #[.int .i64 b.x, .int .i64 b.y])).run Tryz.prog w = .ok (.bool (decide (a = b))) w := by
  have h := eqVecA 9998 w a.x b.x a.y b.y
  rw [vec_beq] at h
  simp only [binOp]
  simp [Op.equal, Op.maxDepth, h]
theorem eqEntA (d : Nat) (w : World) (e f : EntV) : (Op.equalIn (d + 3) 72 (.agg #[.int .i64 e.id, .int .i64 e.kind, .int .i64 e.at_.x, .int .i64 e.at_.y, .int .i64 e.vel.x, .int .i64 e.vel.y, .int .i64 e.health, .int .i64 e.wait]) (.agg #[.int .i64 f.id, .int .i64 f.kind, .int .i64 f.at_.x, .int .i64 f.at_.y, .int .i64 f.vel.x, .int .i64 f.vel.y, .int .i64 f.health, .int .i64 f.wait])).run Tryz.prog w = .ok (e.id == f.id && (e.kind == f.kind && ((e.at_.x == f.at_.x && e.at_.y == f.at_.y) && ((e.vel.x == f.vel.x && e.vel.y == f.vel.y) && (e.health == f.health && e.wait == f.wait))))) w := by
  refine seq_of Tryz.underlying72 (by kernel_rfl) ?_
  refine seq_cons (by decide) (by go_simp; rfl) (by go_simp; rfl) (by go_simp) ?_
  refine seq_cons (by decide) (by go_simp; rfl) (by go_simp; rfl) (by go_simp) ?_
  refine seq_cons (by decide) (by go_simp) (by go_simp) (eqVecA d w _ _ _ _) ?_
  refine seq_cons (by decide) (by go_simp) (by go_simp) (eqVecA d w _ _ _ _) ?_
  refine seq_cons (by decide) (by go_simp; rfl) (by go_simp; rfl) (by go_simp) ?_
  exact seq_last (by decide) (by go_simp; rfl) (by go_simp; rfl) (by go_simp)
theorem ent_beq (e f : EntV) : (e.id == f.id && (e.kind == f.kind && ((e.at_.x == f.at_.x && e.at_.y == f.at_.y) && ((e.vel.x == f.vel.x && e.vel.y == f.vel.y) && (e.health == f.health && e.wait == f.wait))))) = decide (e = f) := by
  rw [Bool.eq_iff_iff, decide_eq_true_eq, EntV.ext_iff', VecV.ext_iff', VecV.ext_iff']; simp
theorem neqEnt (e f : EntV) (w : World) : (binOp .neq 72 (.agg #[.int .i64 e.id, .int .i64 e.kind, .int .i64 e.at_.x, .int .i64 e.at_.y, .int .i64 e.vel.x, .int .i64 e.vel.y, .int .i64 e.health, .int .i64 e.wait]) (.agg #[.int .i64 f.id, .int .i64 f.kind, .int .i64 f.at_.x, .int .i64 f.at_.y, .int .i64 f.vel.x, .int .i64 f.vel.y, .int .i64 f.health, .int .i64 f.wait])).run Tryz.prog w = .ok (.bool (!decide (e = f))) w := by
  have h := eqEntA 9997 w e f
  rw [ent_beq] at h
  simp only [binOp]
  simp [Op.equal, Op.maxDepth, h]
theorem eqlEnt (e f : EntV) (w : World) : (binOp .eql 72 (.agg #[.int .i64 e.id, .int .i64 e.kind, .int .i64 e.at_.x, .int .i64 e.at_.y, .int .i64 e.vel.x, .int .i64 e.vel.y, .int .i64 e.health, .int .i64 e.wait]) (.agg #[.int .i64 f.id, .int .i64 f.kind, .int .i64 f.at_.x, .int .i64 f.at_.y, .int .i64 f.vel.x, .int .i64 f.vel.y, .int .i64 f.health, .int .i64 f.wait])).run Tryz.prog w = .ok (.bool (decide (e = f))) w := by
  have h := eqEntA 9997 w e f
  rw [ent_beq] at h
  simp only [binOp]
  simp [Op.equal, Op.maxDepth, h]
end Go.Proofs.YthafngfnbnehiaaGreatDoor
