/- The walks of layer 10 that layer 12 asks for: formed entities; and a part of the speed. '==' of structs of whole numbers, as one Bool. The walks of layer 11: maps. -/
import Derived.Test.YtojbijapdkohlaaGreatDoorFix
import Derived.Laws.StructEq
set_option linter.unusedSimpArgs false
set_option linter.unusedVariables false
namespace Go.Proofs.YtojbijapdkohlaaGreatDoor
open Go.RowKit
theorem entSlow (x : Int) (w : World) : Calls Tryz.prog 208 #[.int .i64 x] w fun e w' => e = .returned (.bool (slowOk x)) ∧ w = w' := by
  go_enter Tryz.func208, Tryz.ntmps208
  go_wp2
  all_goals
    go_ret
    refine ⟨ret_bool ?_, rfl⟩
    rw [Bool.eq_iff_iff]
    simp [slowOk]
    try omega
set_option maxHeartbeats 1000000 in
theorem entKind (e : EntV) (w : World) : Calls Tryz.prog 207 #[(.agg #[.int .i64 e.id, .int .i64 e.kind, .int .i64 e.at_.x, .int .i64 e.at_.y, .int .i64 e.vel.x, .int .i64 e.vel.y, .int .i64 e.health, .int .i64 e.wait])] w fun e' w' => e' = .returned (.bool (kindOk e)) ∧ Below w.heap.size w w' := by
  go_enter Tryz.func207, Tryz.ntmps207
  go_wp2
  all_goals
    go_ret
    refine ⟨ret_bool ?_, (by repeat (first | with_reducible exact Below.refl _ _ | with_reducible assumption | with_reducible refine Below.drew ?_ | with_reducible refine below_drews ?_ _ | with_reducible refine Below.alloc ?_ (by first | omega | (simp; done) | (simp; omega)) _ | with_reducible refine Below.setCell ?_ (by first | omega | (simp; done) | (simp; omega)) _))⟩
    rw [Bool.eq_iff_iff]
    simp [kindOk]
    try omega
set_option maxHeartbeats 2000000 in
theorem entFormed (e : EntV) (w : World) : Calls Tryz.prog 150 #[(.agg #[.int .i64 e.id, .int .i64 e.kind, .int .i64 e.at_.x, .int .i64 e.at_.y, .int .i64 e.vel.x, .int .i64 e.vel.y, .int .i64 e.health, .int .i64 e.wait])] w fun e' w' => e' = .returned (.bool (entOk e)) ∧ Below w.heap.size w w' := by
  have er : entOk e = (kindOk e && vecOk e.at_ && slowOk e.vel.x && slowOk e.vel.y && restOk e) := rfl
  rw [er]
  clear er
  cases e1 : kindOk e
  rotate_left
  cases e2 : vecOk e.at_
  rotate_left
  cases e3 : slowOk e.vel.x
  rotate_left
  cases e4 : slowOk e.vel.y
  all_goals
    go_enter Tryz.func150, Tryz.ntmps150
    go_wp2_with (first
      | (go_at_call 207; refine (entKind e _).mono ?_; rintro e w1 ⟨rfl, hb1⟩; obtain ⟨hc1, hf1⟩ := bcell hb1; have hs1 := hb1.size; (try simp at hs1); have l1 : w.heap.size < w1.heap.size := (by omega); have B1 : Below w.heap.size w w1 := Below.trans (by repeat (first | with_reducible exact Below.refl _ _ | with_reducible assumption | with_reducible refine Below.drew ?_ | with_reducible refine below_drews ?_ _ | with_reducible refine Below.alloc ?_ (by first | omega | (simp; done) | (simp; omega)) _ | with_reducible refine Below.setCell ?_ (by first | omega | (simp; done) | (simp; omega)) _)) (hb1.mono (by (try simp) <;> omega)))
      | (go_at_call 75; refine (vecFormed ⟨_, _⟩ _).mono ?_; rintro e w1 ⟨rfl, hb1⟩; obtain ⟨hc1, hf1⟩ := bcell hb1; have hs1 := hb1.size; (try simp at hs1); have l1 : w.heap.size < w1.heap.size := (by omega); have B1 : Below w.heap.size w w1 := Below.trans (by repeat (first | with_reducible exact Below.refl _ _ | with_reducible assumption | with_reducible refine Below.drew ?_ | with_reducible refine below_drews ?_ _ | with_reducible refine Below.alloc ?_ (by first | omega | (simp; done) | (simp; omega)) _ | with_reducible refine Below.setCell ?_ (by first | omega | (simp; done) | (simp; omega)) _)) (hb1.mono (by (try simp) <;> omega)))
      | (go_at_call 208; refine (entSlow _ _).mono ?_; rintro e w1 ⟨rfl, rfl⟩))
    all_goals
      go_ret
      refine ⟨ret_bool ?_, (by repeat (first | with_reducible exact Below.refl _ _ | with_reducible assumption | with_reducible refine Below.drew ?_ | with_reducible refine below_drews ?_ _ | with_reducible refine Below.alloc ?_ (by first | omega | (simp; done) | (simp; omega)) _ | with_reducible refine Below.setCell ?_ (by first | omega | (simp; done) | (simp; omega)) _))⟩
      rw [Bool.eq_iff_iff]
      first
        | (simp [restOk]; done)
        | (simp [restOk]; omega)
        | (simp only [beq_iff_eq, beq_eq_false_iff_ne, ne_eq] at *; by_cases q1 : e.health = 0 <;> by_cases q2 : e.wait = 0 <;> simp [q1, q2, restOk] <;> (first | omega | (rw [beq_eq_false_iff_ne.2 q1, beq_eq_false_iff_ne.2 q2])))
theorem movePart (x : Int) (h0 : -128 ≤ x) (h1 : x ≤ 127) (w : World) : Calls Tryz.prog 151 #[.int .i8 x] w fun e w' => e = .returned (.int .i64 (partF x)) ∧ w = w' := by
  go_enter Tryz.func151, Tryz.ntmps151
  go_wp2
  all_goals
    go_ret
    exact ⟨ret_int (by unfold partF; first | rw [if_pos ‹_›] | rw [if_neg (by omega)]), rfl⟩
end Go.Proofs.YtojbijapdkohlaaGreatDoor
set_option linter.unusedSimpArgs false
set_option linter.unusedVariables false
namespace Go.Proofs.YtojbijapdkohlaaGreatDoor
open Go.RowKit
section
variable {P : Program} {d : Nat} {xs ys : Array Value} {f : Field} {fs : List Field} {a b : Value} {r s : Bool} {w : World}
theorem seq_last (hn : f.name ≠ "_") (ha : (part f.type xs f.offset).run P w = .ok a w) (hb : (part f.type ys f.offset).run P w = .ok b w) (he : (Op.equalIn d f.type a b).run P w = .ok r w) : (Op.eqFields d xs ys [f]).run P w = .ok r w := by
  simp only [Op.eqFields, if_pos hn, Sem.run_bind, ha, hb, he, Result.andThen_ok]
  cases r <;> simp
theorem seq_cons (hn : f.name ≠ "_") (ha : (part f.type xs f.offset).run P w = .ok a w) (hb : (part f.type ys f.offset).run P w = .ok b w) (he : (Op.equalIn d f.type a b).run P w = .ok r w) (hr : (Op.eqFields d xs ys fs).run P w = .ok s w) :
    (Op.eqFields d xs ys (f :: fs)).run P w = .ok (r && s) w := by
  rw [Op.eqFields]
  simp only [if_pos hn, Sem.run_bind, ha, hb, he, Result.andThen_ok]
  cases r
  · simp
  · simpa using hr
theorem seq_of {t : TypeId} {fs : Array Field} (hu : P.underlying t = some (.struct fs)) (hp : P.stoodInHeld t = false) (h : (Op.eqFields d xs ys fs.toList).run P w = .ok r w) : (Op.equalIn (d + 1) t (.agg xs) (.agg ys)).run P w = .ok r w := by
  have hf : P.fieldsOf t = fs := by simp [Program.fieldsOf, hu]
  rw [run_equalIn_struct (P := P) w d t xs ys (by rw [hf]; exact hu) hp, hf]
  exact h
end
theorem eqVecA (d : Nat) (w : World) (x0 y0 x1 y1 : Int) : (Op.equalIn (d + 2) 53 (.agg #[.int .i64 x0, .int .i64 x1]) (.agg #[.int .i64 y0, .int .i64 y1])).run Tryz.prog w = .ok (x0 == y0 && x1 == y1) w := by
  refine seq_of Tryz.underlying53 (by kernel_rfl) ?_
  refine seq_cons (by decide) (by go_simp; rfl) (by go_simp; rfl) (by go_simp) ?_
  exact seq_last (by decide) (by go_simp; rfl) (by go_simp; rfl) (by go_simp)
theorem vec_beq (a b : VecV) : (a.x == b.x && a.y == b.y) = decide (a = b) := by
  rw [Bool.eq_iff_iff, decide_eq_true_eq, VecV.ext_iff']; simp
theorem neqVec (a b : VecV) (w : World) : (binOp .neq 53 (.agg #[.int .i64 a.x, .int .i64 a.y]) (.agg #[.int .i64 b.x, .int .i64 b.y])).run Tryz.prog w = .ok (.bool (!decide (a = b))) w := by
  have h := eqVecA 9998 w a.x b.x a.y b.y
  rw [vec_beq] at h
  simp only [binOp]
  simp [Op.equal, Op.maxDepth, h]
theorem eqlVec (a b : VecV) (w : World) : (binOp .eql 53 (.agg #[.int .i64 a.x, .int .i64 a.y]) (.agg #[.int .i64 b.x, .int .i64 b.y])).run Tryz.prog w = .ok (.bool (decide (a = b))) w := by
  have h := eqVecA 9998 w a.x b.x a.y b.y
  rw [vec_beq] at h
  simp only [binOp]
  simp [Op.equal, Op.maxDepth, h]
theorem eqEntA (d : Nat) (w : World) (e f : EntV) : (Op.equalIn (d + 3) 55 (.agg #[.int .i64 e.id, .int .i64 e.kind, .int .i64 e.at_.x, .int .i64 e.at_.y, .int .i64 e.vel.x, .int .i64 e.vel.y, .int .i64 e.health, .int .i64 e.wait]) (.agg #[.int .i64 f.id, .int .i64 f.kind, .int .i64 f.at_.x, .int .i64 f.at_.y, .int .i64 f.vel.x, .int .i64 f.vel.y, .int .i64 f.health, .int .i64 f.wait])).run Tryz.prog w = .ok (e.id == f.id && (e.kind == f.kind && ((e.at_.x == f.at_.x && e.at_.y == f.at_.y) && ((e.vel.x == f.vel.x && e.vel.y == f.vel.y) && (e.health == f.health && e.wait == f.wait))))) w := by
  refine seq_of Tryz.underlying55 (by kernel_rfl) ?_
  refine seq_cons (by decide) (by go_simp; rfl) (by go_simp; rfl) (by go_simp) ?_
  refine seq_cons (by decide) (by go_simp; rfl) (by go_simp; rfl) (by go_simp) ?_
  refine seq_cons (by decide) (by go_simp) (by go_simp) (eqVecA d w _ _ _ _) ?_
  refine seq_cons (by decide) (by go_simp) (by go_simp) (eqVecA d w _ _ _ _) ?_
  refine seq_cons (by decide) (by go_simp; rfl) (by go_simp; rfl) (by go_simp) ?_
  exact seq_last (by decide) (by go_simp; rfl) (by go_simp; rfl) (by go_simp)
theorem ent_beq (e f : EntV) : (e.id == f.id && (e.kind == f.kind && ((e.at_.x == f.at_.x && e.at_.y == f.at_.y) && ((e.vel.x == f.vel.x && e.vel.y == f.vel.y) && (e.health == f.health && e.wait == f.wait))))) = decide (e = f) := by
  rw [Bool.eq_iff_iff, decide_eq_true_eq, EntV.ext_iff', VecV.ext_iff', VecV.ext_iff']; simp
theorem neqEnt (e f : EntV) (w : World) : (binOp .neq 55 (.agg #[.int .i64 e.id, .int .i64 e.kind, .int .i64 e.at_.x, .int .i64 e.at_.y, .int .i64 e.vel.x, .int .i64 e.vel.y, .int .i64 e.health, .int .i64 e.wait]) (.agg #[.int .i64 f.id, .int .i64 f.kind, .int .i64 f.at_.x, .int .i64 f.at_.y, .int .i64 f.vel.x, .int .i64 f.vel.y, .int .i64 f.health, .int .i64 f.wait])).run Tryz.prog w = .ok (.bool (!decide (e = f))) w := by
  have h := eqEntA 9997 w e f
  rw [ent_beq] at h
  simp only [binOp]
  simp [Op.equal, Op.maxDepth, h]
theorem eqlEnt (e f : EntV) (w : World) : (binOp .eql 55 (.agg #[.int .i64 e.id, .int .i64 e.kind, .int .i64 e.at_.x, .int .i64 e.at_.y, .int .i64 e.vel.x, .int .i64 e.vel.y, .int .i64 e.health, .int .i64 e.wait]) (.agg #[.int .i64 f.id, .int .i64 f.kind, .int .i64 f.at_.x, .int .i64 f.at_.y, .int .i64 f.vel.x, .int .i64 f.vel.y, .int .i64 f.health, .int .i64 f.wait])).run Tryz.prog w = .ok (.bool (decide (e = f))) w := by
  have h := eqEntA 9997 w e f
  rw [ent_beq] at h
  simp only [binOp]
  simp [Op.equal, Op.maxDepth, h]
end Go.Proofs.YtojbijapdkohlaaGreatDoor
set_option linter.unusedSimpArgs false
set_option linter.unusedVariables false
namespace Go.Proofs.YtojbijapdkohlaaGreatDoor
open Go.RowKit
def boolsV (l : List Bool) : List Value := l.map Value.bool
def vecsV (l : List VecV) : List Value := l.flatMap fun v => [.int .i64 v.x, .int .i64 v.y]
theorem Reads.flat {w : World} {B size n : Nat} {A : Option Addr} {xs : List Value} (h : Reads w B size A n xs) (hn : 0 < n) (hs : 0 < size) :
    ∃ g off, A = some ⟨g, off, none⟩ ∧ g < B ∧ ∀ j u, xs[j]? = some u → w.cell? ⟨g, off + j, none⟩ = some u := by
  obtain ⟨⟨g, off, sp⟩, rfl, hb, hcell⟩ := h.2 hn
  have hpos : 0 < xs.length := by rw [h.1]; exact Nat.mul_pos hn hs
  have hsp : sp = none := by
    have h0 := hcell 0 _ (List.getElem?_eq_getElem hpos)
    simpa [Addr.add] using World.cell?_spot h0
  subst hsp
  simp only [add_none] at hcell
  exact ⟨g, off, rfl, hb, hcell⟩
theorem drop_cons_of {α : Type} {l : List α} {k : Nat} {x : α} (h : l[k]? = some x) : l.drop k = x :: l.drop (k + 1) := by
  obtain ⟨hk, rfl⟩ := List.getElem?_eq_some_iff.1 h
  exact List.drop_eq_getElem_cons hk
theorem bcell' {B : Nat} {W w1 : World} (hb : Below B W w1) : (∀ b o, b < B → w1.cell? ⟨b, o, none⟩ = W.cell? ⟨b, o, none⟩) ∧ (∀ b o, b < B → w1.frozen? ⟨b, o, none⟩ = W.frozen? ⟨b, o, none⟩) :=
  ⟨fun b o h => hb.cell (p := ⟨b, o, none⟩) h, fun b o h => hb.frozen (p := ⟨b, o, none⟩) h⟩
theorem notB (b : Bool) (w : World) : Calls Tryz.prog 213 #[.bool b] w fun e w' => e = .returned (.bool (!b)) ∧ w = w' := by
  go_enter Tryz.func213, Tryz.ntmps213
  go_wp2
  go_ret
  exact ⟨rfl, rfl⟩
set_option maxHeartbeats 1000000 in
theorem idxFloor (l : List Bool) (w : World) (A : Option Addr) (n c : Nat) (h : Reads w w.heap.size 1 A n (boolsV l)) (hn : n ≤ 9223372036854775807) :
    Calls Tryz.prog 212 #[.slice A n c, .func (.func 213) #[] #[]] w fun e w' => e = .returned (.int .i64 (idxFrom (fun w => !w) l 0)) ∧ w = w' := by
  have hl : l.length = n := by have := h.1; simpa [boolsV] using this
  have HL := Lib.hid hl
  clear hl
  go_enter Tryz.func212, Tryz.ntmps212
  go_wp2
  go_loop [8] (fun i => ∃ k : Nat, k ≤ n ∧ i = .int .i64 k ∧ idxFrom (fun w => !w) l 0 = idxFrom (fun w => !w) (l.drop k) k) (fun i => n - (intOf i).toNat)
  case atStart => exact ⟨0, Nat.zero_le _, rfl, rfl⟩
  case round =>
    obtain ⟨k, hk, rfl, he⟩ := hrel
    by_cases hlt : k < n
    · obtain ⟨g, off, rfl, hg, hc⟩ := h.flat (by omega) (by omega)
      obtain ⟨b, hb⟩ : ∃ b, l[k]? = some b := ⟨_, List.getElem?_eq_getElem (by rw [HL.out]; exact hlt)⟩
      have c0 := hc k (.bool b) (by simp [boolsV, hb])
      rw [drop_cons_of hb, idxFrom] at he
      cases b with
      | true =>
        have HE := Lib.hid he
        clear hc hb he
        go_wp2_with (go_at_call 213; refine (notB _ _).mono ?_; rintro e w1 ⟨rfl, rfl⟩)
        exact ⟨⟨k + 1, hlt, by go_num, HE.out⟩, by simp [intOf]; omega⟩
      | false =>
        have HE := Lib.hid he
        clear hc hb he
        go_wp2_with (go_at_call 213; refine (notB _ _).mono ?_; rintro e w1 ⟨rfl, rfl⟩)
        go_ret
        exact ⟨ret_int HE.out.symm, rfl⟩
    · obtain rfl : k = n := by omega
      rw [List.drop_of_length_le (by rw [HL.out]; exact Nat.le_refl _)] at he
      have HE := Lib.hid he
      clear he
      go_wp2
      go_ret
      exact ⟨ret_int HE.out.symm, rfl⟩
theorem tMiddle (x y : Int) (h0 : 0 ≤ x) (h1 : x ≤ 100000) (h2 : 0 ≤ y) (h3 : y ≤ 100000) (w : World) : Calls Tryz.prog 133 #[.int .i64 x, .int .i64 y] w fun e w' => e = .returned (.agg #[.int .i64 (middle x y).x, .int .i64 (middle x y).y]) ∧ Below w.heap.size w w' := by
  unfold middle
  go_enter Tryz.func133, Tryz.ntmps133
  go_wp2
  exact bodyPost_ret (v := (.agg #[.int .i64 (x * 65536 + 32768), .int .i64 (y * 65536 + 32768)])) (by simp [results, Tryz.results133, go_sem]) rfl ⟨rfl, (by repeat (first | with_reducible exact Below.refl _ _ | with_reducible assumption | with_reducible refine Below.drew ?_ | with_reducible refine below_drews ?_ _ | with_reducible refine Below.alloc ?_ (by first | omega | (simp; done) | (simp; omega)) _ | with_reducible refine Below.setCell ?_ (by first | omega | (simp; done) | (simp; omega)) _))⟩
end Go.Proofs.YtojbijapdkohlaaGreatDoor
