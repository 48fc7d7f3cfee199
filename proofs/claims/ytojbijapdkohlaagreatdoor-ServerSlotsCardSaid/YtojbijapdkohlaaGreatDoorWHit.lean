/- Rows of entities: what is stored in one, and what a hit makes of one. -/
import Derived.Test.YtojbijapdkohlaaGreatDoorWBase
set_option linter.unusedSimpArgs false
set_option linter.unusedVariables false
namespace Go.Proofs.YtojbijapdkohlaaGreatDoor
open Go.RowKit

theorem entsV_set1 (l : List EntV) (k j : Nat) (e e' : EntV) (u : Value) (h : l[k]? = some e) (hj : j < 8) (he : entCells e' = (entCells e).set j u) : (entsV l).set (k * 8 + j) u = entsV (l.set k e') := by
  induction l generalizing k with
  | nil => simp at h
  | cons a l ih =>
    have hl : (entCells a).length = 8 := rfl
    cases k with
    | zero =>
      simp at h; subst h
      show (entCells a ++ entsV l).set (0 * 8 + j) u = entCells e' ++ entsV l
      rw [Nat.zero_mul, Nat.zero_add, List.set_append_left _ _ (by rw [hl]; exact hj), he]
    | succ k =>
      show (entCells a ++ entsV l).set ((k + 1) * 8 + j) u = entCells a ++ entsV (l.set k e')
      rw [List.set_append_right _ _ (by rw [hl]; omega), hl, show (k + 1) * 8 + j - 8 = k * 8 + j by omega, ih k (by simpa using h)]
theorem Row.ent1 {w : World} {A : Option Addr} {n c : Nat} {l : List EntV} (hr : Row w 55 8 A n c (entsV l)) {g off : Nat} (hA : A = some ⟨g, off, none⟩) {k : Nat} {e : EntV} (h : l[k]? = some e) (j : Nat) (hj : j < 8) (u : Value) (e' : EntV)
    (he : entCells e' = (entCells e).set j u) : Row (w.setCell ⟨g, off + k * 8 + j, none⟩ u) 55 8 A n c (entsV (l.set k e')) := by
  have := hr.set hA (k * 8 + j) u
  rw [entsV_set1 l k j e e' u h hj he, ← Nat.add_assoc] at this
  exact this
set_option maxHeartbeats 2000000 in
theorem Row.ent8 {w : World} {A : Option Addr} {n c : Nat} {l : List EntV} (hr : Row w 55 8 A n c (entsV l)) {g off : Nat} (hA : A = some ⟨g, off, none⟩) {k : Nat} {e : EntV} (h : l[k]? = some e) (X : EntV) :
    Row ((((((((w.setCell ⟨g, off + k * 8, none⟩ (.int .i64 X.id)).setCell ⟨g, off + k * 8 + 1, none⟩ (.int .i64 X.kind)).setCell ⟨g, off + k * 8 + 2, none⟩ (.int .i64 X.at_.x)).setCell ⟨g, off + k * 8 + 3, none⟩ (.int .i64 X.at_.y)).setCell ⟨g, off + k * 8 + 4, none⟩ (.int .i64 X.vel.x)).setCell ⟨g, off + k * 8 + 5, none⟩ (.int .i64 X.vel.y)).setCell ⟨g, off + k * 8 + 6, none⟩ (.int .i64 X.health)).setCell ⟨g, off + k * 8 + 7, none⟩ (.int .i64 X.wait)) 55 8 A n c (entsV (l.set k X)) := by
  have hk : k < l.length := (List.getElem?_eq_some_iff.1 h).1
  have q : ∀ y : EntV, (l.set k y)[k]? = some y := fun y => by rw [List.getElem?_set_self hk]
  have r0 := hr.ent1 (e := e) hA h 0 (by decide) (.int .i64 X.id) ⟨X.id, e.kind, ⟨e.at_.x, e.at_.y⟩, ⟨e.vel.x, e.vel.y⟩, e.health, e.wait⟩ rfl
  rw [Nat.add_zero] at r0
  have r1 := r0.ent1 (e := ⟨X.id, e.kind, ⟨e.at_.x, e.at_.y⟩, ⟨e.vel.x, e.vel.y⟩, e.health, e.wait⟩) hA (q ⟨X.id, e.kind, ⟨e.at_.x, e.at_.y⟩, ⟨e.vel.x, e.vel.y⟩, e.health, e.wait⟩) 1 (by decide) (.int .i64 X.kind) ⟨X.id, X.kind, ⟨e.at_.x, e.at_.y⟩, ⟨e.vel.x, e.vel.y⟩, e.health, e.wait⟩ rfl
  rw [List.set_set] at r1
  have r2 := r1.ent1 (e := ⟨X.id, X.kind, ⟨e.at_.x, e.at_.y⟩, ⟨e.vel.x, e.vel.y⟩, e.health, e.wait⟩) hA (q ⟨X.id, X.kind, ⟨e.at_.x, e.at_.y⟩, ⟨e.vel.x, e.vel.y⟩, e.health, e.wait⟩) 2 (by decide) (.int .i64 X.at_.x) ⟨X.id, X.kind, ⟨X.at_.x, e.at_.y⟩, ⟨e.vel.x, e.vel.y⟩, e.health, e.wait⟩ rfl
  rw [List.set_set] at r2
  have r3 := r2.ent1 (e := ⟨X.id, X.kind, ⟨X.at_.x, e.at_.y⟩, ⟨e.vel.x, e.vel.y⟩, e.health, e.wait⟩) hA (q ⟨X.id, X.kind, ⟨X.at_.x, e.at_.y⟩, ⟨e.vel.x, e.vel.y⟩, e.health, e.wait⟩) 3 (by decide) (.int .i64 X.at_.y) ⟨X.id, X.kind, ⟨X.at_.x, X.at_.y⟩, ⟨e.vel.x, e.vel.y⟩, e.health, e.wait⟩ rfl
  rw [List.set_set] at r3
  have r4 := r3.ent1 (e := ⟨X.id, X.kind, ⟨X.at_.x, X.at_.y⟩, ⟨e.vel.x, e.vel.y⟩, e.health, e.wait⟩) hA (q ⟨X.id, X.kind, ⟨X.at_.x, X.at_.y⟩, ⟨e.vel.x, e.vel.y⟩, e.health, e.wait⟩) 4 (by decide) (.int .i64 X.vel.x) ⟨X.id, X.kind, ⟨X.at_.x, X.at_.y⟩, ⟨X.vel.x, e.vel.y⟩, e.health, e.wait⟩ rfl
  rw [List.set_set] at r4
  have r5 := r4.ent1 (e := ⟨X.id, X.kind, ⟨X.at_.x, X.at_.y⟩, ⟨X.vel.x, e.vel.y⟩, e.health, e.wait⟩) hA (q ⟨X.id, X.kind, ⟨X.at_.x, X.at_.y⟩, ⟨X.vel.x, e.vel.y⟩, e.health, e.wait⟩) 5 (by decide) (.int .i64 X.vel.y) ⟨X.id, X.kind, ⟨X.at_.x, X.at_.y⟩, ⟨X.vel.x, X.vel.y⟩, e.health, e.wait⟩ rfl
  rw [List.set_set] at r5
  have r6 := r5.ent1 (e := ⟨X.id, X.kind, ⟨X.at_.x, X.at_.y⟩, ⟨X.vel.x, X.vel.y⟩, e.health, e.wait⟩) hA (q ⟨X.id, X.kind, ⟨X.at_.x, X.at_.y⟩, ⟨X.vel.x, X.vel.y⟩, e.health, e.wait⟩) 6 (by decide) (.int .i64 X.health) ⟨X.id, X.kind, ⟨X.at_.x, X.at_.y⟩, ⟨X.vel.x, X.vel.y⟩, X.health, e.wait⟩ rfl
  rw [List.set_set] at r6
  have r7 := r6.ent1 (e := ⟨X.id, X.kind, ⟨X.at_.x, X.at_.y⟩, ⟨X.vel.x, X.vel.y⟩, X.health, e.wait⟩) hA (q ⟨X.id, X.kind, ⟨X.at_.x, X.at_.y⟩, ⟨X.vel.x, X.vel.y⟩, X.health, e.wait⟩) 7 (by decide) (.int .i64 X.wait) ⟨X.id, X.kind, ⟨X.at_.x, X.at_.y⟩, ⟨X.vel.x, X.vel.y⟩, X.health, X.wait⟩ rfl
  rw [List.set_set] at r7
  exact r7
/-- The cells of one entity of a row. -/
theorem Row.ent {w : World} {A : Option Addr} {n c : Nat} {l : List EntV} (hr : Row w 55 8 A n c (entsV l)) {k : Nat} {e : EntV} (h : l[k]? = some e) :
    ∃ g off, A = some ⟨g, off, none⟩ ∧ g < w.heap.size ∧ ∀ j, j < 8 → w.cell? ⟨g, off + k * 8 + j, none⟩ = (entCells e)[j]? ∧ w.frozen? ⟨g, off + k * 8 + j, none⟩ = false := by
  have hk : k < l.length := (List.getElem?_eq_some_iff.1 h).1
  have hn : l.length = n := by have := hr.1; rw [entsV_length] at this; omega
  obtain ⟨g, off, hA, hg, hc⟩ := hr.cells (by omega)
  refine ⟨g, off, hA, hg, fun j hj => ?_⟩
  obtain ⟨h1, h2⟩ := hc (k * 8 + j) (by omega)
  rw [Nat.add_assoc]
  exact ⟨h1.trans (entsV_at h j hj), h2⟩
def hitE (e : EntV) (by_ : Int) : EntV := if by_ < e.health then { e with health := e.health - by_ } else { e with health := 0, vel := ⟨0, 0⟩, wait := 20 }
set_option maxHeartbeats 4000000 in
theorem wHit (l : List EntV) (A : Option Addr) (n c k g off : Nat) (e : EntV) (by_ : Int) (w : World) (hr : Row w 55 8 A n c (entsV l)) (hA : A = some ⟨g, off, none⟩) (h : l[k]? = some e) (h1 : 0 ≤ by_) (h2 : 0 ≤ e.health) (h3 : e.health ≤ 9223372036854775807) (h4 : by_ ≤ 9223372036854775807) :
    Calls Tryz.prog 171 #[.pointer (some ⟨g, off + k * 8, none⟩), .int .i64 by_] w fun r w' => r = .returned (.tuple #[]) ∧ Row w' 55 8 A n c (entsV (l.set k (hitE e by_))) ∧ Chg (fun q => q = g) w w' := by
  subst hA
  obtain ⟨g', off', hA, hg, hc⟩ := hr.ent h
  simp only [Option.some.injEq, Addr.mk.injEq, and_true] at hA
  obtain ⟨rfl, rfl⟩ := hA
  have c0 : w.cell? ⟨g, off + k * 8 + 0, none⟩ = some (.int .i64 e.id) := (hc 0 (by decide)).1
  have c1 : w.cell? ⟨g, off + k * 8 + 1, none⟩ = some (.int .i64 e.kind) := (hc 1 (by decide)).1
  have c2 : w.cell? ⟨g, off + k * 8 + 2, none⟩ = some (.int .i64 e.at_.x) := (hc 2 (by decide)).1
  have c3 : w.cell? ⟨g, off + k * 8 + 3, none⟩ = some (.int .i64 e.at_.y) := (hc 3 (by decide)).1
  have c4 : w.cell? ⟨g, off + k * 8 + 4, none⟩ = some (.int .i64 e.vel.x) := (hc 4 (by decide)).1
  have c5 : w.cell? ⟨g, off + k * 8 + 5, none⟩ = some (.int .i64 e.vel.y) := (hc 5 (by decide)).1
  have c6 : w.cell? ⟨g, off + k * 8 + 6, none⟩ = some (.int .i64 e.health) := (hc 6 (by decide)).1
  have c7 : w.cell? ⟨g, off + k * 8 + 7, none⟩ = some (.int .i64 e.wait) := (hc 7 (by decide)).1
  have f0 : w.frozen? ⟨g, off + k * 8 + 0, none⟩ = false := (hc 0 (by decide)).2
  have f1 : w.frozen? ⟨g, off + k * 8 + 1, none⟩ = false := (hc 1 (by decide)).2
  have f2 : w.frozen? ⟨g, off + k * 8 + 2, none⟩ = false := (hc 2 (by decide)).2
  have f3 : w.frozen? ⟨g, off + k * 8 + 3, none⟩ = false := (hc 3 (by decide)).2
  have f4 : w.frozen? ⟨g, off + k * 8 + 4, none⟩ = false := (hc 4 (by decide)).2
  have f5 : w.frozen? ⟨g, off + k * 8 + 5, none⟩ = false := (hc 5 (by decide)).2
  have f6 : w.frozen? ⟨g, off + k * 8 + 6, none⟩ = false := (hc 6 (by decide)).2
  have f7 : w.frozen? ⟨g, off + k * 8 + 7, none⟩ = false := (hc 7 (by decide)).2
  have HR := Lib.hid hr
  have HK := Lib.hid h
  clear hr h hc
  have hk : k < l.length := (List.getElem?_eq_some_iff.1 HK.out).1
  by_cases hb : by_ < e.health
  · go_enter Tryz.func171, Tryz.ntmps171
    go_wp2
    first | go_end0 | refine bodyPost_ret (results_none rfl _ _ _) rfl ?_
    refine ⟨rfl, ?_, by repeat (first | with_reducible exact Chg.refl | refine Chg.setCell (F := fun q => q = g) ?_ (Or.inl (show g = g from rfl)) _)⟩
    unfold hitE
    rw [if_pos (by omega)]
    exact HR.out.ent1 rfl HK.out 6 (by decide) _ _ rfl
  · go_enter Tryz.func171, Tryz.ntmps171
    go_wp2
    first | go_end0 | refine bodyPost_ret (results_none rfl _ _ _) rfl ?_
    refine ⟨rfl, ?_, by repeat (first | with_reducible exact Chg.refl | refine Chg.setCell (F := fun q => q = g) ?_ (Or.inl (show g = g from rfl)) _)⟩
    unfold hitE
    rw [if_neg (by omega)]
    have q : ∀ y : EntV, (l.set k y)[k]? = some y := fun y => by rw [List.getElem?_set_self hk]
    have r1 := HR.out.ent1 rfl HK.out 6 (by decide) (.int .i64 0) ⟨e.id, e.kind, e.at_, e.vel, 0, e.wait⟩ rfl
    have r2 := r1.ent1 (e := ⟨e.id, e.kind, e.at_, e.vel, 0, e.wait⟩) rfl (q _) 4 (by decide) (.int .i64 0) ⟨e.id, e.kind, e.at_, ⟨0, e.vel.y⟩, 0, e.wait⟩ rfl
    rw [List.set_set] at r2
    have r3 := r2.ent1 (e := ⟨e.id, e.kind, e.at_, ⟨0, e.vel.y⟩, 0, e.wait⟩) rfl (q _) 5 (by decide) (.int .i64 0) ⟨e.id, e.kind, e.at_, ⟨0, 0⟩, 0, e.wait⟩ rfl
    rw [List.set_set] at r3
    have r4 := r3.ent1 (e := ⟨e.id, e.kind, e.at_, ⟨0, 0⟩, 0, e.wait⟩) rfl (q _) 7 (by decide) (.int .i64 20) ⟨e.id, e.kind, e.at_, ⟨0, 0⟩, 0, 20⟩ rfl
    rw [List.set_set] at r4
    rw [show off + k * 8 + 4 + 1 = off + k * 8 + 5 from rfl]
    exact r4
end Go.Proofs.YtojbijapdkohlaaGreatDoor
