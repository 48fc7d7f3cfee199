/- The plain part of layer 12: places, boxes, maps, and how one moves. -/
set_option linter.unusedSimpArgs false
set_option linter.unusedVariables false
namespace Go.Proofs.YtojbijapdkohlaaGreatDoor
structure VecV where
  x : Int
  y : Int
theorem VecV.ext_iff' (a b : VecV) : a = b ↔ a.x = b.x ∧ a.y = b.y := by cases a; cases b; simp
instance (a b : VecV) : Decidable (a = b) := decidable_of_iff _ (VecV.ext_iff' a b).symm
/-- A map. -/
structure MapV where
  W : Int
  H : Int
  walls : List Bool
  spawns : List VecV
/-- An entity. -/
structure EntV where
  id : Int
  kind : Int
  at_ : VecV
  vel : VecV
  health : Int
  wait : Int
theorem EntV.ext_iff' (a b : EntV) : a = b ↔ a.id = b.id ∧ a.kind = b.kind ∧ a.at_ = b.at_ ∧ a.vel = b.vel ∧ a.health = b.health ∧ a.wait = b.wait := by cases a; cases b; simp
instance (a b : EntV) : Decidable (a = b) := decidable_of_iff _ (EntV.ext_iff' a b).symm
def holdI (x : Int) : Int := min (max x (-2147483648)) 2147483647
def addF (a b : Int) : Int := holdI (holdI a + holdI b)
def subF (a b : Int) : Int := holdI (holdI a - holdI b)
def vecOk (a : VecV) : Bool := decide (-134217728 ≤ a.x ∧ a.x ≤ 134217728 ∧ -134217728 ≤ a.y ∧ a.y ≤ 134217728)
structure BoxV where
  lo : VecV
  hi : VecV
def boxOk (b : BoxV) : Bool := vecOk b.lo && vecOk b.hi && decide (b.lo.x ≤ b.hi.x ∧ b.lo.y ≤ b.hi.y)
def around (p : VecV) (h : Int) : BoxV := ⟨⟨subF p.x h, subF p.y h⟩, ⟨addF p.x h, addF p.y h⟩⟩
def overlap (a b : BoxV) : Bool := boxOk a && boxOk b && decide (a.lo.x < b.hi.x ∧ b.lo.x < a.hi.x ∧ a.lo.y < b.hi.y ∧ b.lo.y < a.hi.y)
def middle (x y : Int) : VecV := ⟨x * 65536 + 32768, y * 65536 + 32768⟩
/-- The first place from j on whose middle is p; n places in all. -/
def seek (W n : Nat) (p : VecV) : Nat → Nat → Option Nat
  | 0, _ => none
  | f + 1, j => if p = middle ((j % W : Nat) : Int) ((j / W : Nat) : Int) then some j else if n ≤ j + 1 then none else seek W n p f (j + 1)
/-- The place of the first one of which p holds, k being the head's place; none: -1. -/
def idxFrom {α : Type} (p : α → Bool) : List α → Nat → Int
  | [], _ => -1
  | x :: xs, k => if p x then k else idxFrom p xs (k + 1)
def formedFrom (walls : List Bool) (W : Nat) : List VecV → Nat → Bool
  | [], _ => true
  | p :: ps, pos =>
    if idxFrom (fun w => !w) (walls.drop pos) 0 < 0 then false else
      match seek W walls.length p (walls.length - (pos + (idxFrom (fun w => !w) (walls.drop pos) 0).toNat)) (pos + (idxFrom (fun w => !w) (walls.drop pos) 0).toNat) with
      | none => false
      | some j => !(walls.getD j true) && formedFrom walls W ps (j + 1)
theorem idxFrom_range {α : Type} (p : α → Bool) (l : List α) (k : Nat) : idxFrom p l k = -1 ∨ (k : Int) ≤ idxFrom p l k ∧ idxFrom p l k < k + l.length := by
  induction l generalizing k with
  | nil => exact .inl rfl
  | cons x l ih =>
    unfold idxFrom
    split
    · right; simp; omega
    · rcases ih (k + 1) with h | h
      · exact .inl h
      · right; simp at h ⊢; omega
def sizeOk (m : MapV) : Bool := decide (1 ≤ m.W ∧ m.W ≤ 32 ∧ 1 ≤ m.H ∧ m.H ≤ 32 ∧ (m.walls.length : Int) = m.W * m.H ∧ m.spawns.length ≠ 0 ∧ (m.spawns.length : Int) ≤ m.W * m.H)
def formedB (m : MapV) : Bool := sizeOk m && formedFrom m.walls m.W.toNat m.spawns 0
def tile (x y : Int) : BoxV := ⟨⟨x * 65536, y * 65536⟩, ⟨(x + 1) * 65536, (y + 1) * 65536⟩⟩
def wallAt (m : MapV) (x y : Nat) : Bool := m.walls.getD (y * m.W.toNat + x) true
/-- Does no wall overlap a box? -/
def clear_ (m : MapV) (b : BoxV) : Prop := ∀ y, y < m.H.toNat → ∀ x, x < m.W.toNat → wallAt m x y = true → overlap (tile x y) b = false
instance (m : MapV) (b : BoxV) : Decidable (clear_ m b) := Nat.decidableBallLT _ _
def freeB (m : MapV) (b : BoxV) : Bool := boxOk b && formedB m && decide (0 ≤ b.lo.x ∧ 0 ≤ b.lo.y ∧ b.hi.x ≤ m.W * 65536 ∧ b.hi.y ≤ m.H * 65536) && decide (clear_ m b)
def standsB (m : MapV) (p : VecV) : Bool := freeB m (around p 24576)
def kindOk (e : EntV) : Bool := decide (1 ≤ e.id ∧ e.id ≤ 16 ∧ (e.kind = 1 ∧ e.id ≤ 8 ∨ e.kind = 2 ∧ 8 < e.id))
def slowOk (x : Int) : Bool := decide (-65536 ≤ x ∧ x ≤ 65536)
def restOk (e : EntV) : Bool := decide (0 ≤ e.health ∧ e.health ≤ 100 ∧ 0 ≤ e.wait ∧ e.wait ≤ 20 ∧ (e.kind = 2 ∧ e.health = 100 ∧ e.wait = 0 ∨ e.kind ≠ 2 ∧ (e.health = 0 ∧ 0 < e.wait ∨ 0 < e.health ∧ e.wait = 0)))
def entOk (e : EntV) : Bool := kindOk e && vecOk e.at_ && slowOk e.vel.x && slowOk e.vel.y && restOk e
def partF (x : Int) : Int := if x * 16384 < 0 then -((-(x * 16384) + 126) / 127) else x * 16384 / 127
/-- A step by the speed. -/
def stepX (m : MapV) (e : EntV) : Bool := standsB m ⟨e.at_.x + e.vel.x, e.at_.y⟩
def stepped (m : MapV) (e : EntV) : EntV × Bool × Bool :=
  let ok := standsB m ⟨e.at_.x + e.vel.x, e.at_.y⟩
  let x := if ok then e.at_.x + e.vel.x else e.at_.x
  let fine := standsB m ⟨x, e.at_.y + e.vel.y⟩
  ({ e with at_ := ⟨x, if fine then e.at_.y + e.vel.y else e.at_.y⟩ }, ok, fine)
def walkF (m : MapV) (e : EntV) (mx my : Int) : EntV :=
  if entOk e = false ∨ e.kind ≠ 1 ∨ e.health = 0 ∨ mx = -128 ∨ my = -128 then e else (stepped m { e with vel := ⟨partF mx, partF my⟩ }).1
def rollF (m : MapV) (e : EntV) : EntV :=
  if entOk e = false ∨ e.kind ≠ 2 then e else
    let r := stepped m e
    { r.1 with vel := ⟨if r.2.1 then e.vel.x else -e.vel.x, if r.2.2 then e.vel.y else -e.vel.y⟩ }
/-! Laws. -/
theorem partF_eq (x : Int) : partF x = x * 16384 / 127 := by unfold partF; split <;> omega
theorem partF_le (x : Int) (h0 : -127 ≤ x) (h1 : x ≤ 127) : -16384 ≤ partF x ∧ partF x ≤ 16384 := by rw [partF_eq]; omega
/-- Where one may stand. -/
theorem standsB_iff (m : MapV) (p : VecV) : standsB m p = true ↔ formedB m = true ∧ 24576 ≤ p.x ∧ p.x + 24576 ≤ m.W * 65536 ∧ 24576 ≤ p.y ∧ p.y + 24576 ≤ m.H * 65536 ∧
    (∀ y, y < m.H.toNat → ∀ x, x < m.W.toNat → wallAt m x y = true → ¬ ((x : Int) * 65536 < p.x + 24576 ∧ p.x - 24576 < (x + 1) * 65536 ∧ (y : Int) * 65536 < p.y + 24576 ∧ p.y - 24576 < (y + 1) * 65536)) := by
  unfold standsB freeB
  simp only [Bool.and_eq_true, decide_eq_true_eq]
  by_cases hf : formedB m = true
  · have hs : 1 ≤ m.W ∧ m.W ≤ 32 ∧ 1 ≤ m.H ∧ m.H ≤ 32 := by
      unfold formedB sizeOk at hf
      simp only [Bool.and_eq_true, decide_eq_true_eq] at hf
      omega
    obtain ⟨w1, w2, h1, h2⟩ := hs
    have hlim : ∀ q : VecV, 24576 ≤ q.x → q.x + 24576 ≤ m.W * 65536 → 24576 ≤ q.y → q.y + 24576 ≤ m.H * 65536 → around q 24576 = ⟨⟨q.x - 24576, q.y - 24576⟩, ⟨q.x + 24576, q.y + 24576⟩⟩ ∧ boxOk ⟨⟨q.x - 24576, q.y - 24576⟩, ⟨q.x + 24576, q.y + 24576⟩⟩ = true := by
      intro q a b c d
      constructor
      · unfold around subF addF holdI
        have e1 : ∀ z : Int, 24576 ≤ z → z ≤ 2097152 → min (max (min (max z (-2147483648)) 2147483647 - min (max 24576 (-2147483648)) 2147483647) (-2147483648)) 2147483647 = z - 24576 := fun z _ _ => by omega
        have e2 : ∀ z : Int, 24576 ≤ z → z ≤ 2097152 → min (max (min (max z (-2147483648)) 2147483647 + min (max 24576 (-2147483648)) 2147483647) (-2147483648)) 2147483647 = z + 24576 := fun z _ _ => by omega
        rw [e1 _ a (by omega), e1 _ c (by omega), e2 _ a (by omega), e2 _ c (by omega)]
      · unfold boxOk vecOk
        simp only [Bool.and_eq_true, decide_eq_true_eq]
        omega
    constructor
    · rintro ⟨⟨⟨hb, _⟩, a, b, c, d⟩, hc⟩
      have hin : 24576 ≤ p.x ∧ p.x + 24576 ≤ m.W * 65536 ∧ 24576 ≤ p.y ∧ p.y + 24576 ≤ m.H * 65536 := by
        unfold around subF addF holdI at a b c d
        simp only at a b c d
        refine ⟨?_, ?_, ?_, ?_⟩ <;> omega
      obtain ⟨p1, p2, p3, p4⟩ := hin
      obtain ⟨e, hok⟩ := hlim p p1 p2 p3 p4
      rw [e] at hc
      refine ⟨hf, p1, p2, p3, p4, fun y hy x hx hw ho => ?_⟩
      have := hc y hy x hx hw
      unfold overlap at this
      rw [hok] at this
      have ht : boxOk (tile x y) = true := by
        unfold boxOk vecOk tile
        simp only [Bool.and_eq_true, decide_eq_true_eq]
        omega
      rw [ht] at this
      simp only [Bool.and_self, Bool.true_and, decide_eq_false_iff_not] at this
      exact this (by unfold tile; simp only; omega)
    · rintro ⟨_, p1, p2, p3, p4, hc⟩
      obtain ⟨e, hok⟩ := hlim p p1 p2 p3 p4
      rw [e]
      refine ⟨⟨⟨hok, hf⟩, by simp only; omega⟩, fun y hy x hx hw => ?_⟩
      unfold overlap
      rw [Bool.and_eq_false_iff]
      right
      rw [decide_eq_false_iff_not]
      intro ho
      unfold tile at ho
      simp only at ho
      exact hc y hy x hx hw (by omega)
  · constructor
    · rintro ⟨⟨⟨_, h⟩, _⟩, _⟩; exact absurd h hf
    · rintro ⟨h, _⟩; exact absurd h hf
theorem standsB_at {m : MapV} {p : VecV} (h : standsB m p = true) : 24576 ≤ p.x ∧ p.x ≤ 2097152 ∧ 24576 ≤ p.y ∧ p.y ≤ 2097152 := by
  obtain ⟨hf, a, b, c, d, _⟩ := (standsB_iff m p).1 h
  unfold formedB sizeOk at hf
  simp only [Bool.and_eq_true, decide_eq_true_eq] at hf
  omega
/-- A step leaves one standing free, and isn't greater than the speed. -/
theorem stepped_stands (m : MapV) (e : EntV) (h : standsB m e.at_ = true) : standsB m (stepped m e).1.at_ = true ∧ ((stepped m e).1.at_.x = e.at_.x ∧ (stepped m e).2.1 = false ∨ (stepped m e).1.at_.x = e.at_.x + e.vel.x ∧ (stepped m e).2.1 = true) ∧
    ((stepped m e).1.at_.y = e.at_.y ∧ (stepped m e).2.2 = false ∨ (stepped m e).1.at_.y = e.at_.y + e.vel.y ∧ (stepped m e).2.2 = true) := by
  unfold stepped
  simp only
  cases hx : standsB m ⟨e.at_.x + e.vel.x, e.at_.y⟩ with
  | true =>
    simp only [if_true]
    cases hy : standsB m ⟨e.at_.x + e.vel.x, e.at_.y + e.vel.y⟩ with
    | true => simp [hy]
    | false => simp [hx]
  | false =>
    simp only [Bool.false_eq_true, if_false]
    cases hy : standsB m ⟨e.at_.x, e.at_.y + e.vel.y⟩ with
    | true => simp [hy]
    | false =>
      simp
      exact h
end Go.Proofs.YtojbijapdkohlaaGreatDoor
