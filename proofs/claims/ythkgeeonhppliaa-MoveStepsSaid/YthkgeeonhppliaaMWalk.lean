/- The walks of the reference's down, Walk and Roll. (Printed by gen_mwalk.py.) -/
import Derived.Test.YthkgeeonhppliaaMEnt
import Derived.Test.YthkgeeonhppliaaMFree
import Derived.Test.YthkgeeonhppliaaWalk
set_option linter.unusedSimpArgs false
set_option linter.unusedVariables false
namespace Go.Proofs.Ythkgeeonhppliaa
open Go.RowKit
theorem threeBoxes (w : World) (c1 c2 c3 : Array Value) (t1 t2 t3 : TypeId) : Below w.heap.size w (((w.alloc (.cells c1 t1)).alloc (.cells c2 t2)).alloc (.cells c3 t3)) ∧ Blk (((w.alloc (.cells c1 t1)).alloc (.cells c2 t2)).alloc (.cells c3 t3)) w.heap.size t1 c1 ∧
    Blk (((w.alloc (.cells c1 t1)).alloc (.cells c2 t2)).alloc (.cells c3 t3)) (w.heap.size + 1) t2 c2 ∧ Blk (((w.alloc (.cells c1 t1)).alloc (.cells c2 t2)).alloc (.cells c3 t3)) (w.heap.size + 2) t3 c3 := by
  obtain ⟨a, b, c⟩ := twoBoxes w c1 c2 t1 t2
  refine ⟨(by repeat (first | with_reducible exact Below.refl _ _ | with_reducible assumption | with_reducible refine Below.drew ?_ | with_reducible refine below_drews ?_ _ | with_reducible refine Below.alloc ?_ (by first | omega | (simp; done) | (simp; omega)) _ | with_reducible refine Below.setCell ?_ (by first | omega | (simp; done) | (simp; omega)) _)), b.alloc _, c.alloc _, ?_⟩
  have := Blk.new ((w.alloc (.cells c1 t1)).alloc (.cells c2 t2)) t3 c3
  simpa using this
theorem rDown (x : Int) (h0 : -128 ≤ x) (h1 : x ≤ 127) (w : World) : Calls Try.prog 36 #[.int .i64 (x * 16384)] w fun e w' => e = .returned (.int .i64 (partF x)) ∧ w = w' := by
  obtain ⟨n, hn⟩ : ∃ n, x * 16384 = n := ⟨_, rfl⟩
  obtain ⟨q, hq⟩ : ∃ q, Int.tdiv n 127 = q := ⟨_, rfl⟩
  have hp : partF x = n / 127 := by rw [partF_eq, hn]
  have hr : (0 ≤ n ∧ q = n / 127) ∨ (n < 0 ∧ q = -((-n) / 127)) := by
    by_cases h : 0 ≤ n
    · exact .inl ⟨h, by rw [← hq, Int.tdiv_eq_ediv_of_nonneg h]⟩
    · refine .inr ⟨by omega, ?_⟩
      have : n = -(-n) := by omega
      rw [← hq, this, Int.neg_tdiv, Int.tdiv_eq_ediv_of_nonneg (by omega)]
      simp
  have hb : -3000000 ≤ n ∧ n ≤ 3000000 := by omega
  have hqb : -30000 ≤ q ∧ q ≤ 30000 := by omega
  rw [hp, hn]
  have HR := Lib.hid hr
  clear hp hr hn
  go_enter Try.func36, Try.ntmps36
  go_wp2
  all_goals
    go_ret
    exact ⟨ret_int (by have := HR.out; omega), rfl⟩
def refNo (e : EntV) (mx my : Int) : Prop := entOk e = false ∨ e.kind ≠ 1 ∨ e.health = 0 ∨ mx = -128 ∨ my = -128
set_option maxRecDepth 100000 in
set_option maxHeartbeats 8000000 in
theorem rWalkNo (m : MapV) (s : MapS) (e : EntV) (mx my : Int) (w : World) (hno : refNo e mx my) : Calls Try.prog 18 #[(.agg #[.int .i64 m.W, .int .i64 m.H, .slice s.A s.n s.c, .slice s.A2 s.n2 s.c2]), (.agg #[.int .i64 e.id, .int .i64 e.kind, .int .i64 e.at_.x, .int .i64 e.at_.y, .int .i64 e.vel.x, .int .i64 e.vel.y, .int .i64 e.health, .int .i64 e.wait]), .int .i8 mx, .int .i8 my] w fun r w' => r = .returned (.agg #[.int .i64 e.id, .int .i64 e.kind, .int .i64 e.at_.x, .int .i64 e.at_.y, .int .i64 e.vel.x, .int .i64 e.vel.y, .int .i64 e.health, .int .i64 e.wait]) ∧ Below w.heap.size w w' := by
  have hF := fun W => rFormedE e W
  obtain ⟨f, hf⟩ : ∃ f, entOk e = f := ⟨_, rfl⟩
  obtain ⟨d1, h1⟩ : ∃ d, (e.kind != 1) = d := ⟨_, rfl⟩
  obtain ⟨d2, h2⟩ : ∃ d, (e.health == 0) = d := ⟨_, rfl⟩
  obtain ⟨d3, h3⟩ : ∃ d, (mx == -128) = d := ⟨_, rfl⟩
  obtain ⟨d4, h4⟩ : ∃ d, (my == -128) = d := ⟨_, rfl⟩
  simp only [hf] at hF
  have hc : f = false ∨ f = true ∧ d1 = true ∨ f = true ∧ d1 = false ∧ d2 = true ∨ f = true ∧ d1 = false ∧ d2 = false ∧ d3 = true ∨ f = true ∧ d1 = false ∧ d2 = false ∧ d3 = false ∧ d4 = true := by
    unfold refNo at hno
    rw [hf] at hno
    have e1 : e.kind ≠ 1 → d1 = true := fun h => by rw [← h1]; exact bne_iff_ne.2 h
    have e2 : e.health = 0 → d2 = true := fun h => by rw [← h2, h]; rfl
    have e3 : mx = -128 → d3 = true := fun h => by rw [← h3, h]; rfl
    have e4 : my = -128 → d4 = true := fun h => by rw [← h4, h]; rfl
    cases f with
    | false => exact .inl rfl
    | true =>
      cases d1 with
      | true => exact .inr (.inl ⟨rfl, rfl⟩)
      | false =>
        cases d2 with
        | true => exact .inr (.inr (.inl ⟨rfl, rfl, rfl⟩))
        | false =>
          cases d3 with
          | true => exact .inr (.inr (.inr (.inl ⟨rfl, rfl, rfl, rfl⟩)))
          | false =>
            cases d4 with
            | true => exact .inr (.inr (.inr (.inr ⟨rfl, rfl, rfl, rfl, rfl⟩)))
            | false =>
              rcases hno with h | h | h | h | h
              · cases h
              · cases e1 h
              · cases e2 h
              · cases e3 h
              · cases e4 h
  have HF := Lib.hid hF
  have HX := Lib.hid (threeBoxes w #[.int .i64 m.W, .int .i64 m.H, .slice s.A s.n s.c, .slice s.A2 s.n2 s.c2] #[.int .i64 e.id, .int .i64 e.kind, .int .i64 e.at_.x, .int .i64 e.at_.y, .int .i64 e.vel.x, .int .i64 e.vel.y, .int .i64 e.health, .int .i64 e.wait] #[.int .i64 0, .int .i64 0, .int .i64 0, .int .i64 0, .int .i64 0, .int .i64 0, .int .i64 0, .int .i64 0] 45 30 30)
  clear hno hf hF
  rcases hc with rfl | ⟨rfl, rfl⟩ | ⟨rfl, rfl, rfl⟩ | ⟨rfl, rfl, rfl, rfl⟩ | ⟨rfl, rfl, rfl, rfl, rfl⟩
  all_goals
    go_enter Try.func18, Try.ntmps18
    go_wp2_with fail
    obtain ⟨B1, b1, b2, b3⟩ := HX.out
    generalize (((w.alloc (.cells #[.int .i64 m.W, .int .i64 m.H, .slice s.A s.n s.c, .slice s.A2 s.n2 s.c2] 45)).alloc (.cells #[.int .i64 e.id, .int .i64 e.kind, .int .i64 e.at_.x, .int .i64 e.at_.y, .int .i64 e.vel.x, .int .i64 e.vel.y, .int .i64 e.health, .int .i64 e.wait] 30)).alloc (.cells #[.int .i64 0, .int .i64 0, .int .i64 0, .int .i64 0, .int .i64 0, .int .i64 0, .int .i64 0, .int .i64 0] 30)) = wa at B1 b1 b2 b3 ⊢
    refine (HF.out wa).mono ?_
    rintro r w1 ⟨rfl, hb1⟩
    have B2 := Lib.hid (B1.trans (hb1.mono B1.size))
    have c2 := b2.below hb1 b2.lt
    have c3 := b3.below hb1 b3.lt
    have l1 := c2.lt
    have l2 := c3.lt
    have x0 : w1.cell? ⟨w.heap.size + 1, 0, none⟩ = some (.int .i64 e.id) := c2.cell 0
    have x1 : w1.cell? ⟨w.heap.size + 1, 1, none⟩ = some (.int .i64 e.kind) := c2.cell 1
    have x2 : w1.cell? ⟨w.heap.size + 1, 2, none⟩ = some (.int .i64 e.at_.x) := c2.cell 2
    have x3 : w1.cell? ⟨w.heap.size + 1, 3, none⟩ = some (.int .i64 e.at_.y) := c2.cell 3
    have x4 : w1.cell? ⟨w.heap.size + 1, 4, none⟩ = some (.int .i64 e.vel.x) := c2.cell 4
    have x5 : w1.cell? ⟨w.heap.size + 1, 5, none⟩ = some (.int .i64 e.vel.y) := c2.cell 5
    have x6 : w1.cell? ⟨w.heap.size + 1, 6, none⟩ = some (.int .i64 e.health) := c2.cell 6
    have x7 : w1.cell? ⟨w.heap.size + 1, 7, none⟩ = some (.int .i64 e.wait) := c2.cell 7
    have z0 := c3.cell 0
    have z1 := c3.cell 1
    have z2 := c3.cell 2
    have z3 := c3.cell 3
    have z4 := c3.cell 4
    have z5 := c3.cell 5
    have z6 := c3.cell 6
    have z7 := c3.cell 7
    have q : ∀ j, w1.frozen? ⟨w.heap.size + 2, j, none⟩ = false := c3.frozen
    simp only [List.getElem?_toArray, List.getElem?_cons_zero, List.getElem?_cons_succ] at z0 z1 z2 z3 z4 z5 z6 z7
    have C3 := Lib.hid c3
    clear hb1 b1 b2 b3 c2 c3 B1
    go_wp2
    have e0 : Blk ((((((((w1.setCell ⟨w.heap.size + 2, 0, none⟩ (.int .i64 e.id)).setCell ⟨w.heap.size + 2, 1, none⟩ (.int .i64 e.kind)).setCell ⟨w.heap.size + 2, 2, none⟩ (.int .i64 e.at_.x)).setCell ⟨w.heap.size + 2, 3, none⟩ (.int .i64 e.at_.y)).setCell ⟨w.heap.size + 2, 4, none⟩ (.int .i64 e.vel.x)).setCell ⟨w.heap.size + 2, 5, none⟩ (.int .i64 e.vel.y)).setCell ⟨w.heap.size + 2, 6, none⟩ (.int .i64 e.health)).setCell ⟨w.heap.size + 2, 7, none⟩ (.int .i64 e.wait)) (w.heap.size + 2) 30 #[.int .i64 e.id, .int .i64 e.kind, .int .i64 e.at_.x, .int .i64 e.at_.y, .int .i64 e.vel.x, .int .i64 e.vel.y, .int .i64 e.health, .int .i64 e.wait] := by
      have := ((((((((C3.out.set_ 0 (.int .i64 e.id)).set_ 1 (.int .i64 e.kind)).set_ 2 (.int .i64 e.at_.x)).set_ 3 (.int .i64 e.at_.y)).set_ 4 (.int .i64 e.vel.x)).set_ 5 (.int .i64 e.vel.y)).set_ 6 (.int .i64 e.health)).set_ 7 (.int .i64 e.wait))
      simpa using this
    have e1 : Below w.heap.size w ((((((((w1.setCell ⟨w.heap.size + 2, 0, none⟩ (.int .i64 e.id)).setCell ⟨w.heap.size + 2, 1, none⟩ (.int .i64 e.kind)).setCell ⟨w.heap.size + 2, 2, none⟩ (.int .i64 e.at_.x)).setCell ⟨w.heap.size + 2, 3, none⟩ (.int .i64 e.at_.y)).setCell ⟨w.heap.size + 2, 4, none⟩ (.int .i64 e.vel.x)).setCell ⟨w.heap.size + 2, 5, none⟩ (.int .i64 e.vel.y)).setCell ⟨w.heap.size + 2, 6, none⟩ (.int .i64 e.health)).setCell ⟨w.heap.size + 2, 7, none⟩ (.int .i64 e.wait)) := by have B2 := B2.out; exact (by repeat (first | with_reducible exact Below.refl _ _ | with_reducible assumption | with_reducible refine Below.drew ?_ | with_reducible refine below_drews ?_ _ | with_reducible refine Below.alloc ?_ (by first | omega | (simp; done) | (simp; omega)) _ | with_reducible refine Below.setCell ?_ (by first | omega | (simp; done) | (simp; omega)) _))
    generalize ((((((((w1.setCell ⟨w.heap.size + 2, 0, none⟩ (.int .i64 e.id)).setCell ⟨w.heap.size + 2, 1, none⟩ (.int .i64 e.kind)).setCell ⟨w.heap.size + 2, 2, none⟩ (.int .i64 e.at_.x)).setCell ⟨w.heap.size + 2, 3, none⟩ (.int .i64 e.at_.y)).setCell ⟨w.heap.size + 2, 4, none⟩ (.int .i64 e.vel.x)).setCell ⟨w.heap.size + 2, 5, none⟩ (.int .i64 e.vel.y)).setCell ⟨w.heap.size + 2, 6, none⟩ (.int .i64 e.health)).setCell ⟨w.heap.size + 2, 7, none⟩ (.int .i64 e.wait)) = wf at e0 e1 ⊢
    have r0 : wf.cell? ⟨w.heap.size + 2, 0, none⟩ = some (.int .i64 e.id) := e0.cell 0
    have r1 : wf.cell? ⟨w.heap.size + 2, 1, none⟩ = some (.int .i64 e.kind) := e0.cell 1
    have r2 : wf.cell? ⟨w.heap.size + 2, 2, none⟩ = some (.int .i64 e.at_.x) := e0.cell 2
    have r3 : wf.cell? ⟨w.heap.size + 2, 3, none⟩ = some (.int .i64 e.at_.y) := e0.cell 3
    have r4 : wf.cell? ⟨w.heap.size + 2, 4, none⟩ = some (.int .i64 e.vel.x) := e0.cell 4
    have r5 : wf.cell? ⟨w.heap.size + 2, 5, none⟩ = some (.int .i64 e.vel.y) := e0.cell 5
    have r6 : wf.cell? ⟨w.heap.size + 2, 6, none⟩ = some (.int .i64 e.health) := e0.cell 6
    have r7 : wf.cell? ⟨w.heap.size + 2, 7, none⟩ = some (.int .i64 e.wait) := e0.cell 7
    clear x0 x1 x2 x3 x4 x5 x6 x7 z0 z1 z2 z3 z4 z5 z6 z7 q
    exact bodyPost_ret (v := .agg #[.int .i64 e.id, .int .i64 e.kind, .int .i64 e.at_.x, .int .i64 e.at_.y, .int .i64 e.vel.x, .int .i64 e.vel.y, .int .i64 e.health, .int .i64 e.wait]) (by simp [results, Try.results18, go_sem, r0, r1, r2, r3, r4, r5, r6, r7]) rfl ⟨rfl, e1⟩
end Go.Proofs.Ythkgeeonhppliaa
