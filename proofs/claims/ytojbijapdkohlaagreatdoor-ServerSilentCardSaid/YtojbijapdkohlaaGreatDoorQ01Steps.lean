/- A region that draws its order, whose operations read and whose callees make memory alone: one walk, in the order of the text, in any world that is as the first one was below a block number. The plain part of layer 12: places, boxes, maps, and how one moves. The walks of layers 1, 2, 3: numbers, places, boxes. The walks of layer 10 that layer 12 asks for: formed entities; and a part of the speed. '==' of structs of whole numbers, as one Bool. The walks of layer 11: maps. Rows of steps, as cells. -/
import Derived.Test.YtojbijapdkohlaaGreatDoorQ00Row
import Derived.BigQuiet
import Derived.Deep.QuietTactic
import Derived.Test.YtojbijapdkohlaaGreatDoorProg
import Derived.WalkKit
import Derived.WalkSpells
import Derived.WalkLawsBesides
import Derived.Lib.Hide
import Derived.Deep.RegionHeld3
import Derived.StillTailTactics
import Derived.Laws.StructEq
set_option linter.unusedSimpArgs false
set_option linter.unusedVariables false
namespace Go.Proofs.YtojbijapdkohlaaGreatDoor
open Go.RowKit
/-- A world that below B is as W was. -/
structure Kin (B : Nat) (W : World) where
  w : World
  below : Below B W w
instance Kin.nonempty {B : Nat} {W : World} : Nonempty (Kin B W) := ⟨⟨W, Below.refl B W⟩⟩
theorem Kin.cell {B : Nat} {W : World} (x : Kin B W) {p : Addr} {v : Value} (h : W.cell? p = some v) (hp : p.block < B) : x.w.cell? p = some v := (x.below.cell hp).trans h
theorem wp_region_kin {P : Program} {id : Nat} {Q : Exit → Act → World → Prop} {a : Act} {w : World} {l : List Oper} (B : Nat) (hm : P.follows .mixedOrders = true) (hB : Region.lexB .any l.toArray = true)
    (h : wpQuiet P l.toArray (fun w' => ∃ x : Kin B w, w' = x.w) (fun a' => ∀ w', (∃ x : Kin B w, w' = x.w) → Q .normal a' w') l a) : (Code.region id l.toArray true).wp P Q a w :=
  wp_region_quiet (C := fun w' => ∃ x : Kin B w, w' = x.w) hm hB ⟨⟨w.drew, (Below.refl B w).drew⟩, rfl⟩ (by simpa using h)
theorem kin_of {P : Program} {f : FuncId} {args : Array Value} {B : Nat} {W : World} {v : Value} {x : Kin B W} (hB : B ≤ W.heap.size)
    (h : Calls P f args x.w fun e w' => e = .returned v ∧ Below x.w.heap.size x.w w') : Calls P f args x.w fun e w' => e = .returned v ∧ ∃ y : Kin B W, w' = y.w :=
  h.mono fun _ w' ⟨he, hb⟩ => ⟨he, ⟨w', x.below.trans (hb.mono (Nat.le_trans hB x.below.size))⟩, rfl⟩
theorem kin_left {P : Program} {f : FuncId} {args : Array Value} {B : Nat} {W : World} {v : Value} {x : Kin B W}
    (h : Calls P f args x.w fun e w' => e = .returned v ∧ x.w = w') : Calls P f args x.w fun e w' => e = .returned v ∧ ∃ y : Kin B W, w' = y.w :=
  h.mono fun _ w' ⟨he, hb⟩ => ⟨he, x, hb.symm⟩
theorem kin_dr {P : Program} {f : FuncId} {args : Array Value} {B : Nat} {W : World} {v : Value} {x : Kin B W}
    (h : Calls P f args x.w fun e w' => e = .returned v ∧ Dr x.w w') : Calls P f args x.w fun e w' => e = .returned v ∧ ∃ y : Kin B W, w' = y.w :=
  h.mono fun _ w' ⟨he, hb⟩ => ⟨he, ⟨w', x.below.trans (hb.below B)⟩, rfl⟩
/-- The same, with what the cells below B read laid at hand. -/
theorem wp_region_kin' {P : Program} {id : Nat} {Q : Exit → Act → World → Prop} {a : Act} {w : World} {l : List Oper} (B : Nat) (hm : P.follows .mixedOrders = true) (hB : Region.lexB .any l.toArray = true)
    (h : (∀ (x : Kin B w) (b o : Nat), b < B → x.w.cell? ⟨b, o, none⟩ = w.cell? ⟨b, o, none⟩) → wpQuiet P l.toArray (fun w' => ∃ x : Kin B w, w' = x.w) (fun a' => ∀ w', (∃ x : Kin B w, w' = x.w) → Q .normal a' w') l a) : (Code.region id l.toArray true).wp P Q a w :=
  wp_region_kin B hm hB (h fun x b o hb => x.below.cell (p := ⟨b, o, none⟩) hb)
end Go.Proofs.YtojbijapdkohlaaGreatDoor
set_option linter.unusedSimpArgs false
set_option linter.unusedVariables false
namespace Go.Proofs.YtojbijapdkohlaaGreatDoor
structure VecV where
  x : Int
  y : Int
theorem VecV.ext_iff' (a b : VecV) : a = b ↔ a.x = b.x ∧ a.y = b.y := by cases a; cases b; simp
instance (a b : VecV) : Decidable (a = b) := decidable_of_iff _ (VecV.ext_iff' a b).symm
/-- A map. -/
structure MapV where
  W : Int
  H : Int
  walls : List Bool
  spawns : List VecV
/-- An entity. -/
structure EntV where
  id : Int
  kind : Int
  at_ : VecV
  vel : VecV
  health : Int
  wait : Int
theorem EntV.ext_iff' (a b : EntV) : a = b ↔ a.id = b.id ∧ a.kind = b.kind ∧ a.at_ = b.at_ ∧ a.vel = b.vel ∧ a.health = b.health ∧ a.wait = b.wait := by cases a; cases b; simp
instance (a b : EntV) : Decidable (a = b) := decidable_of_iff _ (EntV.ext_iff' a b).symm
def holdI (x : Int) : Int := min (max x (-2147483648)) 2147483647
def addF (a b : Int) : Int := holdI (holdI a + holdI b)
def subF (a b : Int) : Int := holdI (holdI a - holdI b)
def vecOk (a : VecV) : Bool := decide (-134217728 ≤ a.x ∧ a.x ≤ 134217728 ∧ -134217728 ≤ a.y ∧ a.y ≤ 134217728)
structure BoxV where
  lo : VecV
  hi : VecV
def boxOk (b : BoxV) : Bool := vecOk b.lo && vecOk b.hi && decide (b.lo.x ≤ b.hi.x ∧ b.lo.y ≤ b.hi.y)
def around (p : VecV) (h : Int) : BoxV := ⟨⟨subF p.x h, subF p.y h⟩, ⟨addF p.x h, addF p.y h⟩⟩
def overlap (a b : BoxV) : Bool := boxOk a && boxOk b && decide (a.lo.x < b.hi.x ∧ b.lo.x < a.hi.x ∧ a.lo.y < b.hi.y ∧ b.lo.y < a.hi.y)
def middle (x y : Int) : VecV := ⟨x * 65536 + 32768, y * 65536 + 32768⟩
/-- The first place from j on whose middle is p; n places in all. -/
def seek (W n : Nat) (p : VecV) : Nat → Nat → Option Nat
  | 0, _ => none
  | f + 1, j => if p = middle ((j % W : Nat) : Int) ((j / W : Nat) : Int) then some j else if n ≤ j + 1 then none else seek W n p f (j + 1)
/-- The place of the first one of which p holds, k being the head's place; none: -1. -/
def idxFrom {α : Type} (p : α → Bool) : List α → Nat → Int
  | [], _ => -1
  | x :: xs, k => if p x then k else idxFrom p xs (k + 1)
def formedFrom (walls : List Bool) (W : Nat) : List VecV → Nat → Bool
  | [], _ => true
  | p :: ps, pos =>
    if idxFrom (fun w => !w) (walls.drop pos) 0 < 0 then false else
      match seek W walls.length p (walls.length - (pos + (idxFrom (fun w => !w) (walls.drop pos) 0).toNat)) (pos + (idxFrom (fun w => !w) (walls.drop pos) 0).toNat) with
      | none => false
      | some j => !(walls.getD j true) && formedFrom walls W ps (j + 1)
theorem idxFrom_range {α : Type} (p : α → Bool) (l : List α) (k : Nat) : idxFrom p l k = -1 ∨ (k : Int) ≤ idxFrom p l k ∧ idxFrom p l k < k + l.length := by
  induction l generalizing k with
  | nil => exact .inl rfl
  | cons x l ih =>
    unfold idxFrom
    split
    · right; simp; omega
    · rcases ih (k + 1) with h | h
      · exact .inl h
      · right; simp at h ⊢; omega
def sizeOk (m : MapV) : Bool := decide (1 ≤ m.W ∧ m.W ≤ 32 ∧ 1 ≤ m.H ∧ m.H ≤ 32 ∧ (m.walls.length : Int) = m.W * m.H ∧ m.spawns.length ≠ 0 ∧ (m.spawns.length : Int) ≤ m.W * m.H)
def formedB (m : MapV) : Bool := sizeOk m && formedFrom m.walls m.W.toNat m.spawns 0
def tile (x y : Int) : BoxV := ⟨⟨x * 65536, y * 65536⟩, ⟨(x + 1) * 65536, (y + 1) * 65536⟩⟩
def wallAt (m : MapV) (x y : Nat) : Bool := m.walls.getD (y * m.W.toNat + x) true
/-- Does no wall overlap a box? -/
def clear_ (m : MapV) (b : BoxV) : Prop := ∀ y, y < m.H.toNat → ∀ x, x < m.W.toNat → wallAt m x y = true → overlap (tile x y) b = false
instance (m : MapV) (b : BoxV) : Decidable (clear_ m b) := Nat.decidableBallLT _ _
def freeB (m : MapV) (b : BoxV) : Bool := boxOk b && formedB m && decide (0 ≤ b.lo.x ∧ 0 ≤ b.lo.y ∧ b.hi.x ≤ m.W * 65536 ∧ b.hi.y ≤ m.H * 65536) && decide (clear_ m b)
def standsB (m : MapV) (p : VecV) : Bool := freeB m (around p 24576)
def kindOk (e : EntV) : Bool := decide (1 ≤ e.id ∧ e.id ≤ 16 ∧ (e.kind = 1 ∧ e.id ≤ 8 ∨ e.kind = 2 ∧ 8 < e.id))
def slowOk (x : Int) : Bool := decide (-65536 ≤ x ∧ x ≤ 65536)
def restOk (e : EntV) : Bool := decide (0 ≤ e.health ∧ e.health ≤ 100 ∧ 0 ≤ e.wait ∧ e.wait ≤ 20 ∧ (e.kind = 2 ∧ e.health = 100 ∧ e.wait = 0 ∨ e.kind ≠ 2 ∧ (e.health = 0 ∧ 0 < e.wait ∨ 0 < e.health ∧ e.wait = 0)))
def entOk (e : EntV) : Bool := kindOk e && vecOk e.at_ && slowOk e.vel.x && slowOk e.vel.y && restOk e
def partF (x : Int) : Int := if x * 16384 < 0 then -((-(x * 16384) + 126) / 127) else x * 16384 / 127
/-- A step by the speed. -/
def stepX (m : MapV) (e : EntV) : Bool := standsB m ⟨e.at_.x + e.vel.x, e.at_.y⟩
def stepped (m : MapV) (e : EntV) : EntV × Bool × Bool :=
  let ok := standsB m ⟨e.at_.x + e.vel.x, e.at_.y⟩
  let x := if ok then e.at_.x + e.vel.x else e.at_.x
  let fine := standsB m ⟨x, e.at_.y + e.vel.y⟩
  ({ e with at_ := ⟨x, if fine then e.at_.y + e.vel.y else e.at_.y⟩ }, ok, fine)
def walkF (m : MapV) (e : EntV) (mx my : Int) : EntV :=
  if entOk e = false ∨ e.kind ≠ 1 ∨ e.health = 0 ∨ mx = -128 ∨ my = -128 then e else (stepped m { e with vel := ⟨partF mx, partF my⟩ }).1
def rollF (m : MapV) (e : EntV) : EntV :=
  if entOk e = false ∨ e.kind ≠ 2 then e else
    let r := stepped m e
    { r.1 with vel := ⟨if r.2.1 then e.vel.x else -e.vel.x, if r.2.2 then e.vel.y else -e.vel.y⟩ }
/-! Laws. -/
theorem partF_eq (x : Int) : partF x = x * 16384 / 127 := by unfold partF; split <;> omega
theorem partF_le (x : Int) (h0 : -127 ≤ x) (h1 : x ≤ 127) : -16384 ≤ partF x ∧ partF x ≤ 16384 := by rw [partF_eq]; omega
/-- Where one may stand. -/
theorem standsB_iff (m : MapV) (p : VecV) : standsB m p = true ↔ formedB m = true ∧ 24576 ≤ p.x ∧ p.x + 24576 ≤ m.W * 65536 ∧ 24576 ≤ p.y ∧ p.y + 24576 ≤ m.H * 65536 ∧
    (∀ y, y < m.H.toNat → ∀ x, x < m.W.toNat → wallAt m x y = true → ¬ ((x : Int) * 65536 < p.x + 24576 ∧ p.x - 24576 < (x + 1) * 65536 ∧ (y : Int) * 65536 < p.y + 24576 ∧ p.y - 24576 < (y + 1) * 65536)) := by
  unfold standsB freeB
  simp only [Bool.and_eq_true, decide_eq_true_eq]
  by_cases hf : formedB m = true
  · have hs : 1 ≤ m.W ∧ m.W ≤ 32 ∧ 1 ≤ m.H ∧ m.H ≤ 32 := by
      unfold formedB sizeOk at hf
      simp only [Bool.and_eq_true, decide_eq_true_eq] at hf
      omega
    obtain ⟨w1, w2, h1, h2⟩ := hs
    have hlim : ∀ q : VecV, 24576 ≤ q.x → q.x + 24576 ≤ m.W * 65536 → 24576 ≤ q.y → q.y + 24576 ≤ m.H * 65536 → around q 24576 = ⟨⟨q.x - 24576, q.y - 24576⟩, ⟨q.x + 24576, q.y + 24576⟩⟩ ∧ boxOk ⟨⟨q.x - 24576, q.y - 24576⟩, ⟨q.x + 24576, q.y + 24576⟩⟩ = true := by
      intro q a b c d
      constructor
      · unfold around subF addF holdI
        have e1 : ∀ z : Int, 24576 ≤ z → z ≤ 2097152 → min (max (min (max z (-2147483648)) 2147483647 - min (max 24576 (-2147483648)) 2147483647) (-2147483648)) 2147483647 = z - 24576 := fun z _ _ => by omega
        have e2 : ∀ z : Int, 24576 ≤ z → z ≤ 2097152 → min (max (min (max z (-2147483648)) 2147483647 + min (max 24576 (-2147483648)) 2147483647) (-2147483648)) 2147483647 = z + 24576 := fun z _ _ => by omega
        rw [e1 _ a (by omega), e1 _ c (by omega), e2 _ a (by omega), e2 _ c (by omega)]
      · unfold boxOk vecOk
        simp only [Bool.and_eq_true, decide_eq_true_eq]
        omega
    constructor
    · rintro ⟨⟨⟨hb, _⟩, a, b, c, d⟩, hc⟩
      have hin : 24576 ≤ p.x ∧ p.x + 24576 ≤ m.W * 65536 ∧ 24576 ≤ p.y ∧ p.y + 24576 ≤ m.H * 65536 := by
        unfold around subF addF holdI at a b c d
        simp only at a b c d
        refine ⟨?_, ?_, ?_, ?_⟩ <;> omega
      obtain ⟨p1, p2, p3, p4⟩ := hin
      obtain ⟨e, hok⟩ := hlim p p1 p2 p3 p4
      rw [e] at hc
      refine ⟨hf, p1, p2, p3, p4, fun y hy x hx hw ho => ?_⟩
      have := hc y hy x hx hw
      unfold overlap at this
      rw [hok] at this
      have ht : boxOk (tile x y) = true := by
        unfold boxOk vecOk tile
        simp only [Bool.and_eq_true, decide_eq_true_eq]
        omega
      rw [ht] at this
      simp only [Bool.and_self, Bool.true_and, decide_eq_false_iff_not] at this
      exact this (by unfold tile; simp only; omega)
    · rintro ⟨_, p1, p2, p3, p4, hc⟩
      obtain ⟨e, hok⟩ := hlim p p1 p2 p3 p4
      rw [e]
      refine ⟨⟨⟨hok, hf⟩, by simp only; omega⟩, fun y hy x hx hw => ?_⟩
      unfold overlap
      rw [Bool.and_eq_false_iff]
      right
      rw [decide_eq_false_iff_not]
      intro ho
      unfold tile at ho
      simp only at ho
      exact hc y hy x hx hw (by omega)
  · constructor
    · rintro ⟨⟨⟨_, h⟩, _⟩, _⟩; exact absurd h hf
    · rintro ⟨h, _⟩; exact absurd h hf
theorem standsB_at {m : MapV} {p : VecV} (h : standsB m p = true) : 24576 ≤ p.x ∧ p.x ≤ 2097152 ∧ 24576 ≤ p.y ∧ p.y ≤ 2097152 := by
  obtain ⟨hf, a, b, c, d, _⟩ := (standsB_iff m p).1 h
  unfold formedB sizeOk at hf
  simp only [Bool.and_eq_true, decide_eq_true_eq] at hf
  omega
/-- A step leaves one standing free, and isn't greater than the speed. -/
theorem stepped_stands (m : MapV) (e : EntV) (h : standsB m e.at_ = true) : standsB m (stepped m e).1.at_ = true ∧ ((stepped m e).1.at_.x = e.at_.x ∧ (stepped m e).2.1 = false ∨ (stepped m e).1.at_.x = e.at_.x + e.vel.x ∧ (stepped m e).2.1 = true) ∧
    ((stepped m e).1.at_.y = e.at_.y ∧ (stepped m e).2.2 = false ∨ (stepped m e).1.at_.y = e.at_.y + e.vel.y ∧ (stepped m e).2.2 = true) := by
  unfold stepped
  simp only
  cases hx : standsB m ⟨e.at_.x + e.vel.x, e.at_.y⟩ with
  | true =>
    simp only [if_true]
    cases hy : standsB m ⟨e.at_.x + e.vel.x, e.at_.y + e.vel.y⟩ with
    | true => simp [hy]
    | false => simp [hx]
  | false =>
    simp only [Bool.false_eq_true, if_false]
    cases hy : standsB m ⟨e.at_.x, e.at_.y + e.vel.y⟩ with
    | true => simp [hy]
    | false =>
      simp
      exact h
end Go.Proofs.YtojbijapdkohlaaGreatDoor
set_option linter.unusedSimpArgs false
set_option linter.unusedVariables false
namespace Go.Proofs.YtojbijapdkohlaaGreatDoor
open Go.RowKit
theorem holdI_le (x : Int) : -2147483648 ≤ holdI x ∧ holdI x ≤ 2147483647 := by unfold holdI; omega
theorem fixHold (x : Int) (w : World) : Calls Tryz.prog 206 #[.int .i64 x] w fun e w' => e = .returned (.int .i64 (holdI x)) ∧ w = w' := by
  go_enter Tryz.func206, Tryz.ntmps206
  go_wp2
  all_goals go_ret
  all_goals exact ⟨ret_int (by unfold holdI; (repeat' split) <;> omega), rfl⟩
theorem fixHeld (x y : Int) (w : World) : Calls Tryz.prog 205 #[.int .i64 x, .int .i64 y] w fun e w' => e = .returned (.tuple #[.int .i64 (holdI x), .int .i64 (holdI y)]) ∧ w = w' := by
  go_enter Tryz.func205, Tryz.ntmps205
  go_wp2_with (go_at_call 206; refine (fixHold _ _).mono ?_; rintro e w1 ⟨rfl, rfl⟩)
  go_ret2
  exact ⟨rfl, rfl⟩
theorem fixAdd (x y : Int) (w : World) : Calls Tryz.prog 147 #[.int .i64 x, .int .i64 y] w fun e w' => e = .returned (.int .i64 (addF x y)) ∧ w = w' := by
  obtain ⟨a, ha⟩ : ∃ a, holdI x = a := ⟨_, rfl⟩
  obtain ⟨b, hb⟩ : ∃ b, holdI y = b := ⟨_, rfl⟩
  have la := holdI_le x
  have lb := holdI_le y
  have hh := fixHeld x y w
  have e : addF x y = holdI (a + b) := by unfold addF; rw [ha, hb]
  rw [e]
  rw [ha, hb] at hh
  rw [ha] at la
  rw [hb] at lb
  clear e ha hb
  go_enter Tryz.func147, Tryz.ntmps147
  go_wp2_with (first
    | (go_at_call 205; refine hh.mono ?_; rintro e w1 ⟨rfl, rfl⟩)
    | (go_at_call 206; refine (fixHold _ _).mono ?_; rintro e w1 ⟨rfl, rfl⟩))
  go_ret
  exact ⟨rfl, rfl⟩
theorem fixSub (x y : Int) (w : World) : Calls Tryz.prog 146 #[.int .i64 x, .int .i64 y] w fun e w' => e = .returned (.int .i64 (subF x y)) ∧ w = w' := by
  obtain ⟨a, ha⟩ : ∃ a, holdI x = a := ⟨_, rfl⟩
  obtain ⟨b, hb⟩ : ∃ b, holdI y = b := ⟨_, rfl⟩
  have la := holdI_le x
  have lb := holdI_le y
  have hh := fixHeld x y w
  have e : subF x y = holdI (a - b) := by unfold subF; rw [ha, hb]
  rw [e]
  rw [ha, hb] at hh
  rw [ha] at la
  rw [hb] at lb
  clear e ha hb
  go_enter Tryz.func146, Tryz.ntmps146
  go_wp2_with (first
    | (go_at_call 205; refine hh.mono ?_; rintro e w1 ⟨rfl, rfl⟩)
    | (go_at_call 206; refine (fixHold _ _).mono ?_; rintro e w1 ⟨rfl, rfl⟩))
  go_ret
  exact ⟨rfl, rfl⟩
set_option maxHeartbeats 1000000 in
theorem vecSub (ax ay bx b_y : Int) (w : World) : Calls Tryz.prog 78 #[(.agg #[.int .i64 ax, .int .i64 ay]), (.agg #[.int .i64 bx, .int .i64 b_y])] w fun e w' => e = .returned (.agg #[.int .i64 (subF ax bx), .int .i64 (subF ay b_y)]) ∧ Below w.heap.size w w' := by
  go_enter Tryz.func78, Tryz.ntmps78
  go_wp2
  go_region_held3 (fun w' => w'.cell? ⟨w.heap.size, 0, none⟩ = some (.int .i64 ax) ∧ w'.cell? ⟨w.heap.size, 1, none⟩ = some (.int .i64 ay) ∧ w'.cell? ⟨w.heap.size + 1, 0, none⟩ = some (.int .i64 bx) ∧ w'.cell? ⟨w.heap.size + 1, 1, none⟩ = some (.int .i64 b_y)) (go_keep)
    (first | (go_at_call 146; refine (fixSub _ _ _).mono ?_; rintro e w1 ⟨rfl, rfl⟩))
  go_wp2
  exact bodyPost_ret (v := (.agg #[.int .i64 (subF ax bx), .int .i64 (subF ay b_y)])) (by simp [results, Tryz.results78, go_sem]) rfl ⟨rfl, (by repeat (first | with_reducible exact Below.refl _ _ | with_reducible assumption | with_reducible refine Below.drew ?_ | with_reducible refine below_drews ?_ _ | with_reducible refine Below.alloc ?_ (by first | omega | (simp; done) | (simp; omega)) _ | with_reducible refine Below.setCell ?_ (by first | omega | (simp; done) | (simp; omega)) _))⟩
set_option maxHeartbeats 1000000 in
theorem vecAdd (ax ay bx b_y : Int) (w : World) : Calls Tryz.prog 79 #[(.agg #[.int .i64 ax, .int .i64 ay]), (.agg #[.int .i64 bx, .int .i64 b_y])] w fun e w' => e = .returned (.agg #[.int .i64 (addF ax bx), .int .i64 (addF ay b_y)]) ∧ Below w.heap.size w w' := by
  go_enter Tryz.func79, Tryz.ntmps79
  go_wp2
  go_region_held3 (fun w' => w'.cell? ⟨w.heap.size, 0, none⟩ = some (.int .i64 ax) ∧ w'.cell? ⟨w.heap.size, 1, none⟩ = some (.int .i64 ay) ∧ w'.cell? ⟨w.heap.size + 1, 0, none⟩ = some (.int .i64 bx) ∧ w'.cell? ⟨w.heap.size + 1, 1, none⟩ = some (.int .i64 b_y)) (go_keep)
    (first | (go_at_call 147; refine (fixAdd _ _ _).mono ?_; rintro e w1 ⟨rfl, rfl⟩))
  go_wp2
  exact bodyPost_ret (v := (.agg #[.int .i64 (addF ax bx), .int .i64 (addF ay b_y)])) (by simp [results, Tryz.results79, go_sem]) rfl ⟨rfl, (by repeat (first | with_reducible exact Below.refl _ _ | with_reducible assumption | with_reducible refine Below.drew ?_ | with_reducible refine below_drews ?_ _ | with_reducible refine Below.alloc ?_ (by first | omega | (simp; done) | (simp; omega)) _ | with_reducible refine Below.setCell ?_ (by first | omega | (simp; done) | (simp; omega)) _))⟩
set_option maxHeartbeats 1000000 in
theorem boxAround (x y h : Int) (w : World) : Calls Tryz.prog 29 #[(.agg #[.int .i64 x, .int .i64 y]), .int .i64 h] w fun e w' => e = .returned (.agg #[.int .i64 (subF x h), .int .i64 (subF y h), .int .i64 (addF x h), .int .i64 (addF y h)]) ∧ Below w.heap.size w w' := by
  go_enter Tryz.func29, Tryz.ntmps29
  go_wp2
  go_region_held3 (fun w' => w'.cell? ⟨w.heap.size, 0, none⟩ = some (.int .i64 x) ∧ w'.cell? ⟨w.heap.size, 1, none⟩ = some (.int .i64 y) ∧ w'.cell? ⟨w.heap.size + 1 + 1, 0, none⟩ = some (.int .i64 h) ∧ w'.cell? ⟨w.heap.size + 1 + 1, 1, none⟩ = some (.int .i64 h)) (first | (refine ⟨?_, ?_, ?_, ?_⟩ <;> (go_simp; done)) | go_keep)
    (first
      | (go_at_call 78; refine (vecSub x y h h _).mono ?_; rintro e w1 ⟨rfl, hb1⟩; obtain ⟨hc1, hf1⟩ := bcell hb1; have hs1 := hb1.size; try simp at hs1; have l0 : w.heap.size < w1.heap.size := (by omega); have l1 : w.heap.size + 1 < w1.heap.size := (by omega); have l2 : w.heap.size + 1 + 1 < w1.heap.size := (by omega))
      | (go_at_call 79; refine (vecAdd x y h h _).mono ?_; rintro e w2 ⟨rfl, hb2⟩; obtain ⟨hc2, hf2⟩ := bcell hb2; have hs2 := hb2.size; have l3 : w.heap.size + 1 < w2.heap.size := (by omega)))
  go_wp2
  have B1 : Below w.heap.size w w1 := Below.trans (by repeat (first | with_reducible exact Below.refl _ _ | with_reducible assumption | with_reducible refine Below.drew ?_ | with_reducible refine below_drews ?_ _ | with_reducible refine Below.alloc ?_ (by first | omega | (simp; done) | (simp; omega)) _ | with_reducible refine Below.setCell ?_ (by first | omega | (simp; done) | (simp; omega)) _)) (hb1.mono (by simp <;> omega))
  have B2 : Below w.heap.size w w2 := B1.trans (hb2.mono (by omega))
  exact bodyPost_ret (v := (.agg #[.int .i64 (subF x h), .int .i64 (subF y h), .int .i64 (addF x h), .int .i64 (addF y h)])) (by simp [results, Tryz.results29, go_sem, hc1, hc2, hf1, hf2, l0, l1, l2, l3]) rfl ⟨rfl, (by repeat (first | with_reducible exact Below.refl _ _ | with_reducible assumption | with_reducible refine Below.drew ?_ | with_reducible refine below_drews ?_ _ | with_reducible refine Below.alloc ?_ (by first | omega | (simp; done) | (simp; omega)) _ | with_reducible refine Below.setCell ?_ (by first | omega | (simp; done) | (simp; omega)) _))⟩
theorem ret_b {p : Prop} [Decidable p] {b : Bool} (h : b = true ↔ p) : Ending.returned (.bool b) = .returned (.bool (decide p)) := by
  rw [Bool.eq_iff_iff.2 (h.trans decide_eq_true_iff.symm)]
theorem vecFormed (a : VecV) (w : World) : Calls Tryz.prog 75 #[(.agg #[.int .i64 a.x, .int .i64 a.y])] w fun e w' => e = .returned (.bool (vecOk a)) ∧ Below w.heap.size w w' := by
  go_enter Tryz.func75, Tryz.ntmps75
  go_wp2
  all_goals
    go_ret
    refine ⟨ret_bool ?_, (by repeat (first | with_reducible exact Below.refl _ _ | with_reducible assumption | with_reducible refine Below.drew ?_ | with_reducible refine below_drews ?_ _ | with_reducible refine Below.alloc ?_ (by first | omega | (simp; done) | (simp; omega)) _ | with_reducible refine Below.setCell ?_ (by first | omega | (simp; done) | (simp; omega)) _))⟩
    rw [Bool.eq_iff_iff]
    simp [vecOk]
    try omega
set_option maxHeartbeats 1000000 in
theorem boxFormed (b : BoxV) (w : World) : Calls Tryz.prog 76 #[(.agg #[.int .i64 b.lo.x, .int .i64 b.lo.y, .int .i64 b.hi.x, .int .i64 b.hi.y])] w fun e w' => e = .returned (.bool (boxOk b)) ∧ Below w.heap.size w w' := by
  have er : boxOk b = (vecOk b.lo && vecOk b.hi && decide (b.lo.x ≤ b.hi.x ∧ b.lo.y ≤ b.hi.y)) := rfl
  rw [er]
  clear er
  cases e1 : vecOk b.lo <;> cases e2 : vecOk b.hi
  all_goals
    go_enter Tryz.func76, Tryz.ntmps76
    go_wp2_with (go_at_call 75; refine (vecFormed _ _).mono ?_; rintro e w1 ⟨rfl, hb1⟩; obtain ⟨hc1, hf1⟩ := bcell hb1; have hs1 := hb1.size; (try simp at hs1); have l1 : w.heap.size < w1.heap.size := (by omega); have B1 : Below w.heap.size w w1 := Below.trans (by repeat (first | with_reducible exact Below.refl _ _ | with_reducible assumption | with_reducible refine Below.drew ?_ | with_reducible refine below_drews ?_ _ | with_reducible refine Below.alloc ?_ (by first | omega | (simp; done) | (simp; omega)) _ | with_reducible refine Below.setCell ?_ (by first | omega | (simp; done) | (simp; omega)) _)) (hb1.mono (by (try simp) <;> omega)))
    all_goals
      go_ret
      refine ⟨ret_bool ?_, (by repeat (first | with_reducible exact Below.refl _ _ | with_reducible assumption | with_reducible refine Below.drew ?_ | with_reducible refine below_drews ?_ _ | with_reducible refine Below.alloc ?_ (by first | omega | (simp; done) | (simp; omega)) _ | with_reducible refine Below.setCell ?_ (by first | omega | (simp; done) | (simp; omega)) _))⟩
      rw [Bool.eq_iff_iff]
      simp
      try omega
set_option maxHeartbeats 1000000 in
theorem boxOverlap (a b : BoxV) (w : World) : Calls Tryz.prog 170 #[(.agg #[.int .i64 a.lo.x, .int .i64 a.lo.y, .int .i64 a.hi.x, .int .i64 a.hi.y]), (.agg #[.int .i64 b.lo.x, .int .i64 b.lo.y, .int .i64 b.hi.x, .int .i64 b.hi.y])] w fun e w' => e = .returned (.bool (overlap a b)) ∧ Below w.heap.size w w' := by
  have er : overlap a b = (boxOk a && boxOk b && decide (a.lo.x < b.hi.x ∧ b.lo.x < a.hi.x ∧ a.lo.y < b.hi.y ∧ b.lo.y < a.hi.y)) := rfl
  rw [er]
  clear er
  cases e1 : boxOk a
  rotate_left
  cases e2 : boxOk b
  all_goals
    go_enter Tryz.func170, Tryz.ntmps170
    go_wp2_with (go_at_call 76; refine (boxFormed ⟨⟨_, _⟩, ⟨_, _⟩⟩ _).mono ?_; rintro e w1 ⟨rfl, hb1⟩; obtain ⟨hc1, hf1⟩ := bcell hb1; have hs1 := hb1.size; (try simp at hs1); have l1 : w.heap.size < w1.heap.size := (by omega); have l2 : w.heap.size + 1 < w1.heap.size := (by omega); have B1 : Below w.heap.size w w1 := Below.trans (by repeat (first | with_reducible exact Below.refl _ _ | with_reducible assumption | with_reducible refine Below.drew ?_ | with_reducible refine below_drews ?_ _ | with_reducible refine Below.alloc ?_ (by first | omega | (simp; done) | (simp; omega)) _ | with_reducible refine Below.setCell ?_ (by first | omega | (simp; done) | (simp; omega)) _)) (hb1.mono (by (try simp) <;> omega)))
    all_goals
      go_ret
      refine ⟨ret_bool ?_, (by repeat (first | with_reducible exact Below.refl _ _ | with_reducible assumption | with_reducible refine Below.drew ?_ | with_reducible refine below_drews ?_ _ | with_reducible refine Below.alloc ?_ (by first | omega | (simp; done) | (simp; omega)) _ | with_reducible refine Below.setCell ?_ (by first | omega | (simp; done) | (simp; omega)) _))⟩
      rw [Bool.eq_iff_iff]
      simp
      try omega
end Go.Proofs.YtojbijapdkohlaaGreatDoor
set_option linter.unusedSimpArgs false
set_option linter.unusedVariables false
namespace Go.Proofs.YtojbijapdkohlaaGreatDoor
open Go.RowKit
theorem entSlow (x : Int) (w : World) : Calls Tryz.prog 208 #[.int .i64 x] w fun e w' => e = .returned (.bool (slowOk x)) ∧ w = w' := by
  go_enter Tryz.func208, Tryz.ntmps208
  go_wp2
  all_goals
    go_ret
    refine ⟨ret_bool ?_, rfl⟩
    rw [Bool.eq_iff_iff]
    simp [slowOk]
    try omega
set_option maxHeartbeats 1000000 in
theorem entKind (e : EntV) (w : World) : Calls Tryz.prog 207 #[(.agg #[.int .i64 e.id, .int .i64 e.kind, .int .i64 e.at_.x, .int .i64 e.at_.y, .int .i64 e.vel.x, .int .i64 e.vel.y, .int .i64 e.health, .int .i64 e.wait])] w fun e' w' => e' = .returned (.bool (kindOk e)) ∧ Below w.heap.size w w' := by
  go_enter Tryz.func207, Tryz.ntmps207
  go_wp2
  all_goals
    go_ret
    refine ⟨ret_bool ?_, (by repeat (first | with_reducible exact Below.refl _ _ | with_reducible assumption | with_reducible refine Below.drew ?_ | with_reducible refine below_drews ?_ _ | with_reducible refine Below.alloc ?_ (by first | omega | (simp; done) | (simp; omega)) _ | with_reducible refine Below.setCell ?_ (by first | omega | (simp; done) | (simp; omega)) _))⟩
    rw [Bool.eq_iff_iff]
    simp [kindOk]
    try omega
set_option maxHeartbeats 2000000 in
theorem entFormed (e : EntV) (w : World) : Calls Tryz.prog 150 #[(.agg #[.int .i64 e.id, .int .i64 e.kind, .int .i64 e.at_.x, .int .i64 e.at_.y, .int .i64 e.vel.x, .int .i64 e.vel.y, .int .i64 e.health, .int .i64 e.wait])] w fun e' w' => e' = .returned (.bool (entOk e)) ∧ Below w.heap.size w w' := by
  have er : entOk e = (kindOk e && vecOk e.at_ && slowOk e.vel.x && slowOk e.vel.y && restOk e) := rfl
  rw [er]
  clear er
  cases e1 : kindOk e
  rotate_left
  cases e2 : vecOk e.at_
  rotate_left
  cases e3 : slowOk e.vel.x
  rotate_left
  cases e4 : slowOk e.vel.y
  all_goals
    go_enter Tryz.func150, Tryz.ntmps150
    go_wp2_with (first
      | (go_at_call 207; refine (entKind e _).mono ?_; rintro e w1 ⟨rfl, hb1⟩; obtain ⟨hc1, hf1⟩ := bcell hb1; have hs1 := hb1.size; (try simp at hs1); have l1 : w.heap.size < w1.heap.size := (by omega); have B1 : Below w.heap.size w w1 := Below.trans (by repeat (first | with_reducible exact Below.refl _ _ | with_reducible assumption | with_reducible refine Below.drew ?_ | with_reducible refine below_drews ?_ _ | with_reducible refine Below.alloc ?_ (by first | omega | (simp; done) | (simp; omega)) _ | with_reducible refine Below.setCell ?_ (by first | omega | (simp; done) | (simp; omega)) _)) (hb1.mono (by (try simp) <;> omega)))
      | (go_at_call 75; refine (vecFormed ⟨_, _⟩ _).mono ?_; rintro e w1 ⟨rfl, hb1⟩; obtain ⟨hc1, hf1⟩ := bcell hb1; have hs1 := hb1.size; (try simp at hs1); have l1 : w.heap.size < w1.heap.size := (by omega); have B1 : Below w.heap.size w w1 := Below.trans (by repeat (first | with_reducible exact Below.refl _ _ | with_reducible assumption | with_reducible refine Below.drew ?_ | with_reducible refine below_drews ?_ _ | with_reducible refine Below.alloc ?_ (by first | omega | (simp; done) | (simp; omega)) _ | with_reducible refine Below.setCell ?_ (by first | omega | (simp; done) | (simp; omega)) _)) (hb1.mono (by (try simp) <;> omega)))
      | (go_at_call 208; refine (entSlow _ _).mono ?_; rintro e w1 ⟨rfl, rfl⟩))
    all_goals
      go_ret
      refine ⟨ret_bool ?_, (by repeat (first | with_reducible exact Below.refl _ _ | with_reducible assumption | with_reducible refine Below.drew ?_ | with_reducible refine below_drews ?_ _ | with_reducible refine Below.alloc ?_ (by first | omega | (simp; done) | (simp; omega)) _ | with_reducible refine Below.setCell ?_ (by first | omega | (simp; done) | (simp; omega)) _))⟩
      rw [Bool.eq_iff_iff]
      first
        | (simp [restOk]; done)
        | (simp [restOk]; omega)
        | (simp only [beq_iff_eq, beq_eq_false_iff_ne, ne_eq] at *; by_cases q1 : e.health = 0 <;> by_cases q2 : e.wait = 0 <;> simp [q1, q2, restOk] <;> (first | omega | (rw [beq_eq_false_iff_ne.2 q1, beq_eq_false_iff_ne.2 q2])))
theorem movePart (x : Int) (h0 : -128 ≤ x) (h1 : x ≤ 127) (w : World) : Calls Tryz.prog 151 #[.int .i8 x] w fun e w' => e = .returned (.int .i64 (partF x)) ∧ w = w' := by
  go_enter Tryz.func151, Tryz.ntmps151
  go_wp2
  all_goals
    go_ret
    exact ⟨ret_int (by unfold partF; first | rw [if_pos ‹_›] | rw [if_neg (by omega)]), rfl⟩
end Go.Proofs.YtojbijapdkohlaaGreatDoor
set_option linter.unusedSimpArgs false
set_option linter.unusedVariables false
namespace Go.Proofs.YtojbijapdkohlaaGreatDoor
open Go.RowKit
section
variable {P : Program} {d : Nat} {xs ys : Array Value} {f : Field} {fs : List Field} {a b : Value} {r s : Bool} {w : World}
theorem seq_last (hn : f.name ≠ "_") (ha : (part f.type xs f.offset).run P w = .ok a w) (hb : (part f.type ys f.offset).run P w = .ok b w) (he : (Op.equalIn d f.type a b).run P w = .ok r w) : (Op.eqFields d xs ys [f]).run P w = .ok r w := by
  simp only [Op.eqFields, if_pos hn, Sem.run_bind, ha, hb, he, Result.andThen_ok]
  cases r <;> simp
theorem seq_cons (hn : f.name ≠ "_") (ha : (part f.type xs f.offset).run P w = .ok a w) (hb : (part f.type ys f.offset).run P w = .ok b w) (he : (Op.equalIn d f.type a b).run P w = .ok r w) (hr : (Op.eqFields d xs ys fs).run P w = .ok s w) :
    (Op.eqFields d xs ys (f :: fs)).run P w = .ok (r && s) w := by
  rw [Op.eqFields]
  simp only [if_pos hn, Sem.run_bind, ha, hb, he, Result.andThen_ok]
  cases r
  · simp
  · simpa using hr
theorem seq_of {t : TypeId} {fs : Array Field} (hu : P.underlying t = some (.struct fs)) (hp : P.stoodInHeld t = false) (h : (Op.eqFields d xs ys fs.toList).run P w = .ok r w) : (Op.equalIn (d + 1) t (.agg xs) (.agg ys)).run P w = .ok r w := by
  have hf : P.fieldsOf t = fs := by simp [Program.fieldsOf, hu]
  rw [run_equalIn_struct (P := P) w d t xs ys (by rw [hf]; exact hu) hp, hf]
  exact h
end
theorem eqVecA (d : Nat) (w : World) (x0 y0 x1 y1 : Int) : (Op.equalIn (d + 2) 53 (.agg #[.int .i64 x0, .int .i64 x1]) (.agg #[.int .i64 y0, .int .i64 y1])).run Tryz.prog w = .ok (x0 == y0 && x1 == y1) w := by
  refine seq_of Tryz.underlying53 (by kernel_rfl) ?_
  refine seq_cons (by decide) (by go_simp; rfl) (by go_simp; rfl) (by go_simp) ?_
  exact seq_last (by decide) (by go_simp; rfl) (by go_simp; rfl) (by go_simp)
theorem vec_beq (a b : VecV) : (a.x == b.x && a.y == b.y) = decide (a = b) := by
  rw [Bool.eq_iff_iff, decide_eq_true_eq, VecV.ext_iff']; simp
theorem neqVec (a b : VecV) (w : World) : (binOp .neq 53 (.agg #[.int .i64 a.x, .int .i64 a.y]) (.agg #[.int .i64 b.x, .int .i64 b.y])).run Tryz.prog w = .ok (.bool (!decide (a = b))) w := by
  have h := eqVecA 9998 w a.x b.x a.y b.y
  rw [vec_beq] at h
  simp only [binOp]
  simp [Op.equal, Op.maxDepth, h]
theorem eqlVec (a b : VecV) (w : World) : (binOp .eql 53 (.agg #[.int .i64 a.x, .int .i64 a.y]) (.agg #[.int .i64 b.x, .int .i64 b.y])).run Tryz.prog w = .ok (.bool (decide (a = b))) w := by
  have h := eqVecA 9998 w a.x b.x a.y b.y
  rw [vec_beq] at h
  simp only [binOp]
  simp [Op.equal, Op.maxDepth, h]
theorem eqEntA (d : Nat) (w : World) (e f : EntV) : (Op.equalIn (d + 3) 55 (.agg #[.int .i64 e.id, .int .i64 e.kind, .int .i64 e.at_.x, .int .i64 e.at_.y, .int .i64 e.vel.x, .int .i64 e.vel.y, .int .i64 e.health, .int .i64 e.wait]) (.agg #[.int .i64 f.id, .int .i64 f.kind, .int .i64 f.at_.x, .int .i64 f.at_.y, .int .i64 f.vel.x, .int .i64 f.vel.y, .int .i64 f.health, .int .i64 f.wait])).run Tryz.prog w = .ok (e.id == f.id && (e.kind == f.kind && ((e.at_.x == f.at_.x && e.at_.y == f.at_.y) && ((e.vel.x == f.vel.x && e.vel.y == f.vel.y) && (e.health == f.health && e.wait == f.wait))))) w := by
  refine seq_of Tryz.underlying55 (by kernel_rfl) ?_
  refine seq_cons (by decide) (by go_simp; rfl) (by go_simp; rfl) (by go_simp) ?_
  refine seq_cons (by decide) (by go_simp; rfl) (by go_simp; rfl) (by go_simp) ?_
  refine seq_cons (by decide) (by go_simp) (by go_simp) (eqVecA d w _ _ _ _) ?_
  refine seq_cons (by decide) (by go_simp) (by go_simp) (eqVecA d w _ _ _ _) ?_
  refine seq_cons (by decide) (by go_simp; rfl) (by go_simp; rfl) (by go_simp) ?_
  exact seq_last (by decide) (by go_simp; rfl) (by go_simp; rfl) (by go_simp)
theorem ent_beq (e f : EntV) : (e.id == f.id && (e.kind == f.kind && ((e.at_.x == f.at_.x && e.at_.y == f.at_.y) && ((e.vel.x == f.vel.x && e.vel.y == f.vel.y) && (e.health == f.health && e.wait == f.wait))))) = decide (e = f) := by
  rw [Bool.eq_iff_iff, decide_eq_true_eq, EntV.ext_iff', VecV.ext_iff', VecV.ext_iff']; simp
theorem neqEnt (e f : EntV) (w : World) : (binOp .neq 55 (.agg #[.int .i64 e.id, .int .i64 e.kind, .int .i64 e.at_.x, .int .i64 e.at_.y, .int .i64 e.vel.x, .int .i64 e.vel.y, .int .i64 e.health, .int .i64 e.wait]) (.agg #[.int .i64 f.id, .int .i64 f.kind, .int .i64 f.at_.x, .int .i64 f.at_.y, .int .i64 f.vel.x, .int .i64 f.vel.y, .int .i64 f.health, .int .i64 f.wait])).run Tryz.prog w = .ok (.bool (!decide (e = f))) w := by
  have h := eqEntA 9997 w e f
  rw [ent_beq] at h
  simp only [binOp]
  simp [Op.equal, Op.maxDepth, h]
theorem eqlEnt (e f : EntV) (w : World) : (binOp .eql 55 (.agg #[.int .i64 e.id, .int .i64 e.kind, .int .i64 e.at_.x, .int .i64 e.at_.y, .int .i64 e.vel.x, .int .i64 e.vel.y, .int .i64 e.health, .int .i64 e.wait]) (.agg #[.int .i64 f.id, .int .i64 f.kind, .int .i64 f.at_.x, .int .i64 f.at_.y, .int .i64 f.vel.x, .int .i64 f.vel.y, .int .i64 f.health, .int .i64 f.wait])).run Tryz.prog w = .ok (.bool (decide (e = f))) w := by
  have h := eqEntA 9997 w e f
  rw [ent_beq] at h
  simp only [binOp]
  simp [Op.equal, Op.maxDepth, h]
end Go.Proofs.YtojbijapdkohlaaGreatDoor
set_option linter.unusedSimpArgs false
set_option linter.unusedVariables false
namespace Go.Proofs.YtojbijapdkohlaaGreatDoor
open Go.RowKit
def boolsV (l : List Bool) : List Value := l.map Value.bool
def vecsV (l : List VecV) : List Value := l.flatMap fun v => [.int .i64 v.x, .int .i64 v.y]
theorem Reads.flat {w : World} {B size n : Nat} {A : Option Addr} {xs : List Value} (h : Reads w B size A n xs) (hn : 0 < n) (hs : 0 < size) :
    ∃ g off, A = some ⟨g, off, none⟩ ∧ g < B ∧ ∀ j u, xs[j]? = some u → w.cell? ⟨g, off + j, none⟩ = some u := by
  obtain ⟨⟨g, off, sp⟩, rfl, hb, hcell⟩ := h.2 hn
  have hpos : 0 < xs.length := by rw [h.1]; exact Nat.mul_pos hn hs
  have hsp : sp = none := by
    have h0 := hcell 0 _ (List.getElem?_eq_getElem hpos)
    simpa [Addr.add] using World.cell?_spot h0
  subst hsp
  simp only [add_none] at hcell
  exact ⟨g, off, rfl, hb, hcell⟩
theorem drop_cons_of {α : Type} {l : List α} {k : Nat} {x : α} (h : l[k]? = some x) : l.drop k = x :: l.drop (k + 1) := by
  obtain ⟨hk, rfl⟩ := List.getElem?_eq_some_iff.1 h
  exact List.drop_eq_getElem_cons hk
theorem bcell' {B : Nat} {W w1 : World} (hb : Below B W w1) : (∀ b o, b < B → w1.cell? ⟨b, o, none⟩ = W.cell? ⟨b, o, none⟩) ∧ (∀ b o, b < B → w1.frozen? ⟨b, o, none⟩ = W.frozen? ⟨b, o, none⟩) :=
  ⟨fun b o h => hb.cell (p := ⟨b, o, none⟩) h, fun b o h => hb.frozen (p := ⟨b, o, none⟩) h⟩
theorem notB (b : Bool) (w : World) : Calls Tryz.prog 213 #[.bool b] w fun e w' => e = .returned (.bool (!b)) ∧ w = w' := by
  go_enter Tryz.func213, Tryz.ntmps213
  go_wp2
  go_ret
  exact ⟨rfl, rfl⟩
set_option maxHeartbeats 1000000 in
theorem idxFloor (l : List Bool) (w : World) (A : Option Addr) (n c : Nat) (h : Reads w w.heap.size 1 A n (boolsV l)) (hn : n ≤ 9223372036854775807) :
    Calls Tryz.prog 212 #[.slice A n c, .func (.func 213) #[] #[]] w fun e w' => e = .returned (.int .i64 (idxFrom (fun w => !w) l 0)) ∧ w = w' := by
  have hl : l.length = n := by have := h.1; simpa [boolsV] using this
  have HL := Lib.hid hl
  clear hl
  go_enter Tryz.func212, Tryz.ntmps212
  go_wp2
  go_loop [8] (fun i => ∃ k : Nat, k ≤ n ∧ i = .int .i64 k ∧ idxFrom (fun w => !w) l 0 = idxFrom (fun w => !w) (l.drop k) k) (fun i => n - (intOf i).toNat)
  case atStart => exact ⟨0, Nat.zero_le _, rfl, rfl⟩
  case round =>
    obtain ⟨k, hk, rfl, he⟩ := hrel
    by_cases hlt : k < n
    · obtain ⟨g, off, rfl, hg, hc⟩ := h.flat (by omega) (by omega)
      obtain ⟨b, hb⟩ : ∃ b, l[k]? = some b := ⟨_, List.getElem?_eq_getElem (by rw [HL.out]; exact hlt)⟩
      have c0 := hc k (.bool b) (by simp [boolsV, hb])
      rw [drop_cons_of hb, idxFrom] at he
      cases b with
      | true =>
        have HE := Lib.hid he
        clear hc hb he
        go_wp2_with (go_at_call 213; refine (notB _ _).mono ?_; rintro e w1 ⟨rfl, rfl⟩)
        exact ⟨⟨k + 1, hlt, by go_num, HE.out⟩, by simp [intOf]; omega⟩
      | false =>
        have HE := Lib.hid he
        clear hc hb he
        go_wp2_with (go_at_call 213; refine (notB _ _).mono ?_; rintro e w1 ⟨rfl, rfl⟩)
        go_ret
        exact ⟨ret_int HE.out.symm, rfl⟩
    · obtain rfl : k = n := by omega
      rw [List.drop_of_length_le (by rw [HL.out]; exact Nat.le_refl _)] at he
      have HE := Lib.hid he
      clear he
      go_wp2
      go_ret
      exact ⟨ret_int HE.out.symm, rfl⟩
theorem tMiddle (x y : Int) (h0 : 0 ≤ x) (h1 : x ≤ 100000) (h2 : 0 ≤ y) (h3 : y ≤ 100000) (w : World) : Calls Tryz.prog 133 #[.int .i64 x, .int .i64 y] w fun e w' => e = .returned (.agg #[.int .i64 (middle x y).x, .int .i64 (middle x y).y]) ∧ Below w.heap.size w w' := by
  unfold middle
  go_enter Tryz.func133, Tryz.ntmps133
  go_wp2
  exact bodyPost_ret (v := (.agg #[.int .i64 (x * 65536 + 32768), .int .i64 (y * 65536 + 32768)])) (by simp [results, Tryz.results133, go_sem]) rfl ⟨rfl, (by repeat (first | with_reducible exact Below.refl _ _ | with_reducible assumption | with_reducible refine Below.drew ?_ | with_reducible refine below_drews ?_ _ | with_reducible refine Below.alloc ?_ (by first | omega | (simp; done) | (simp; omega)) _ | with_reducible refine Below.setCell ?_ (by first | omega | (simp; done) | (simp; omega)) _))⟩
end Go.Proofs.YtojbijapdkohlaaGreatDoor
set_option linter.unusedSimpArgs false
set_option linter.unusedVariables false
namespace Go.Proofs.YtojbijapdkohlaaGreatDoor
open Go.RowKit
def stepsV (l : List (Int × Int)) : List Value := l.flatMap fun p => [.int .i8 p.1, .int .i8 p.2]
theorem stepsV_at (l : List (Int × Int)) (k : Nat) (v : Int × Int) (h : l[k]? = some v) : (stepsV l)[k * 2]? = some (.int .i8 v.1) ∧ (stepsV l)[k * 2 + 1]? = some (.int .i8 v.2) := by
  unfold stepsV
  induction l generalizing k with
  | nil => simp at h
  | cons a l ih =>
    cases k with
    | zero => simp at h; subst h; simp [List.flatMap_cons]
    | succ k =>
      have := ih k (by simpa using h)
      rw [show (k + 1) * 2 = k * 2 + 2 by omega]
      simpa [List.flatMap_cons] using this
theorem stepsV_length (l : List (Int × Int)) : (stepsV l).length = l.length * 2 := by
  unfold stepsV
  induction l with
  | nil => rfl
  | cons a l ih => simp [List.flatMap_cons, ih]; omega
end Go.Proofs.YtojbijapdkohlaaGreatDoor
