/- The text of a map, as the reference writes it: the plain part. -/
import Derived.Test.YthkgeeonhppliaaRefFormP
import Derived.Test.YthkgeeonhppliaaReadPlain
set_option linter.unusedSimpArgs false
set_option linter.unusedVariables false
namespace Go.Proofs.Ythkgeeonhppliaa
theorem rdAll_append (a b : List Sg) : ∀ s, rdAll s (a ++ b) = match rdAll s a with | none => none | some t => rdAll t b := by
  induction a with
  | nil => intro s; rfl
  | cons g a ih =>
    intro s
    simp only [List.cons_append, rdAll]
    cases rdStep s g with
    | none => rfl
    | some t => exact ih t
/-- The sign of a tile. -/
def sgOf (m : MapV) (i : Nat) : Sg := if m.walls.getD i true then .wall else if mid m.W.toNat i ∈ m.spawns then .spawn else .floor
def lineSg (m : MapV) (y x : Nat) : List Sg := (List.range x).map fun i => sgOf m (y * m.W.toNat + i)
def textSg (m : MapV) : Nat → List Sg
  | 0 => []
  | y + 1 => textSg m y ++ (lineSg m y m.W.toNat ++ [.nl])
theorem sgOf_wall (m : MapV) (i : Nat) : isWall (sgOf m i) = m.walls.getD i true := by
  unfold sgOf
  split
  · rename_i h; rw [h]; rfl
  · rename_i h
    have : m.walls.getD i true = false := by simpa using h
    rw [this]
    split <;> rfl
theorem sgOf_nl (m : MapV) (i : Nat) : isNl (sgOf m i) = false := by
  unfold sgOf
  split
  · rfl
  · split <;> rfl
theorem sgOf_spawn (m : MapV) (i : Nat) : isSpawn (sgOf m i) = toldAt m.walls m.W.toNat m.spawns i := by
  unfold sgOf toldAt
  split
  · rename_i h; rw [h]; rfl
  · rename_i h
    have : m.walls.getD i true = false := by simpa using h
    rw [this]
    split
    · rename_i h2; simp [isSpawn, h2]
    · rename_i h2; simp [isSpawn, h2]
theorem told_succ (walls : List Bool) (W : Nat) (ps : List VecV) (n : Nat) : told walls W ps (n + 1) = told walls W ps n ++ (if toldAt walls W ps n then [mid W n] else []) := by
  unfold told
  rw [List.range_succ, List.filter_append, List.map_append]
  congr 1
  cases h : toldAt walls W ps n <;> simp [h]
theorem mid_at {W : Nat} (y x : Nat) (hx : x < W) : mid W (y * W + x) = middle (x : Int) (y : Int) := by
  unfold mid
  have h1 : (y * W + x) % W = x := by rw [Nat.add_comm, Nat.add_mul_mod_self_right]; exact Nat.mod_eq_of_lt hx
  have h2 : (y * W + x) / W = y := by rw [Nat.add_comm, Nat.add_mul_div_right _ _ (by omega), Nat.div_eq_of_lt hx]; omega
  rw [h1, h2]
/-- What stands behind the first x signs of line y. -/
def rdAt (m : MapV) (y x : Nat) : RdS := ⟨if y = 0 then 0 else m.W.toNat, y, x, m.walls.take (y * m.W.toNat + x), told m.walls m.W.toNat m.spawns (y * m.W.toNat + x)⟩
theorem take_snoc_getD {l : List Bool} {i : Nat} (h : i < l.length) : l.take (i + 1) = l.take i ++ [l.getD i true] := by
  rw [List.take_add_one, List.getD_eq_getElem?_getD, List.getElem?_eq_getElem h]
  rfl
theorem rd_line (m : MapV) (y : Nat) (hW : m.W.toNat ≤ 32) (hy : y < 32) (hlen : (y + 1) * m.W.toNat ≤ m.walls.length) : ∀ x, x ≤ m.W.toNat → rdAll (rdAt m y 0) (lineSg m y x) = some (rdAt m y x)
  | 0, _ => by simp [lineSg, rdAll]
  | x + 1, hx => by
    have ih := rd_line m y hW hy hlen x (by omega)
    have e : lineSg m y (x + 1) = lineSg m y x ++ [sgOf m (y * m.W.toNat + x)] := by simp [lineSg, List.range_succ]
    rw [e, rdAll_append, ih]
    simp only [rdAll]
    have hi : y * m.W.toNat + x < m.walls.length := by rw [Nat.succ_mul] at hlen; omega
    have hstep : rdStep (rdAt m y x) (sgOf m (y * m.W.toNat + x)) = some (rdAt m y (x + 1)) := by
      unfold rdStep
      rw [sgOf_nl, if_neg (by decide), if_neg]
      · congr 1
        unfold rdAt
        simp only [RdS.mk.injEq]
        refine ⟨trivial, trivial, trivial, ?_, ?_⟩
        · rw [sgOf_wall, ← take_snoc_getD hi, Nat.add_assoc]
        · rw [sgOf_spawn, ← Nat.add_assoc, told_succ, mid_at y x (by omega)]
      · unfold rdAt
        simp only
        rintro (h | h | ⟨h1, h2⟩)
        · omega
        · omega
        · rw [if_neg (by omega)] at h2; omega
    rw [hstep]
theorem rd_text (m : MapV) (hW1 : 1 ≤ m.W.toNat) (hW : m.W.toNat ≤ 32) : ∀ y, y ≤ 32 → y * m.W.toNat ≤ m.walls.length → rdAll rdStart (textSg m y) = some (rdAt m y 0)
  | 0, _, _ => by simp [textSg, rdAll, rdAt, rdStart, told]
  | y + 1, hy, hlen => by
    have ih := rd_text m hW1 hW y (by omega) (by rw [Nat.succ_mul] at hlen; omega)
    rw [textSg, rdAll_append, ih]
    simp only
    rw [rdAll_append, rd_line m y hW (by omega) hlen _ (Nat.le_refl _)]
    simp only [rdAll]
    have hstep : rdStep (rdAt m y m.W.toNat) .nl = some (rdAt m (y + 1) 0) := by
      unfold rdStep
      rw [if_pos (by rfl), if_neg]
      · congr 1
        unfold rdAt
        simp only [RdS.mk.injEq]
        rw [if_neg (by omega), Nat.succ_mul]
        simp
      · unfold rdAt
        simp only
        rintro (h | ⟨h1, h2⟩)
        · omega
        · split at h1 <;> omega
    rw [hstep]
theorem sgBytes_append (a b : List Sg) : sgBytes (a ++ b) = sgBytes a ++ sgBytes b := by simp [sgBytes]
theorem sg_str (l : List Sg) (g : Sg) : (⟨(sgBytes l).toArray⟩ : ByteArray) ++ (⟨g.bytes.toArray⟩ : ByteArray) = ⟨(sgBytes (l ++ [g])).toArray⟩ := by
  rw [sgBytes_append]
  apply ByteArray.ext
  simp [sgBytes]
theorem sg_len (l : List Sg) : (sgBytes l).length ≤ 3 * l.length := by
  induction l with
  | nil => simp [sgBytes]
  | cons g l ih =>
    have : sgBytes (g :: l) = g.bytes ++ sgBytes l := rfl
    rw [this, List.length_append, List.length_cons]
    have : g.bytes.length ≤ 3 := by cases g <;> decide
    omega
theorem textSg_len (m : MapV) : ∀ y, (textSg m y).length = y * (m.W.toNat + 1)
  | 0 => by simp [textSg]
  | y + 1 => by
    rw [textSg, List.length_append, textSg_len m y, Nat.succ_mul]
    simp [lineSg]
theorem told_len (walls : List Bool) (W : Nat) (ps : List VecV) (n : Nat) : (told walls W ps n).length ≤ n := by
  unfold told
  rw [List.length_map]
  exact Nat.le_trans (List.length_filter_le _ _) (by simp)
/-- What the reference's Formed asks, of a size that is right. -/
theorem formedB_told (m : MapV) (hs : 1 ≤ m.W ∧ m.W ≤ 32 ∧ 1 ≤ m.H ∧ m.H ≤ 32 ∧ (m.walls.length : Int) = m.W * m.H) :
    formedB m = decide ((told m.walls m.W.toNat m.spawns m.walls.length).length ≠ 0 ∧ told m.walls m.W.toNat m.spawns m.walls.length = m.spawns) := by
  obtain ⟨h1, h2, h3, h4, h5⟩ := hs
  have ht := told_iff (walls := m.walls) (W := m.W.toNat) (by omega) m.spawns
  rw [Bool.eq_iff_iff, decide_eq_true_eq]
  unfold formedB sizeOk
  simp only [Bool.and_eq_true, decide_eq_true_eq]
  constructor
  · rintro ⟨⟨_, _, _, _, _, h6, _⟩, hf⟩
    have := ht.1 hf
    rw [this]
    exact ⟨h6, rfl⟩
  · rintro ⟨h6, h7⟩
    have hl := told_len m.walls m.W.toNat m.spawns m.walls.length
    rw [h7] at h6 hl
    exact ⟨⟨h1, h2, h3, h4, h5, h6, by omega⟩, ht.2 h7⟩
end Go.Proofs.Ythkgeeonhppliaa
