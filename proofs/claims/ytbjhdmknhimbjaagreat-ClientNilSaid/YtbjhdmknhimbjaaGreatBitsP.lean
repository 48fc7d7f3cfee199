/- Bits as lists, packed into bytes: the plain part of layer 6. -/
set_option linter.unusedSimpArgs false
set_option linter.unusedVariables false
namespace Go.Proofs.YtbjhdmknhimbjaaGreat
def bitAt (l : List Bool) (i j : Nat) : Nat := if l.getD (8 * i + j) false then 2 ^ j else 0
def byteAt (l : List Bool) (i : Nat) : Nat := bitAt l i 0 + bitAt l i 1 + bitAt l i 2 + bitAt l i 3 + bitAt l i 4 + bitAt l i 5 + bitAt l i 6 + bitAt l i 7
def packB (l : List Bool) : List Nat := (List.range ((l.length + 7) / 8)).map (byteAt l)
theorem packB_length (l : List Bool) : (packB l).length = (l.length + 7) / 8 := by simp [packB]
theorem packB_get (l : List Bool) (i : Nat) (h : i < (l.length + 7) / 8) : (packB l)[i]? = some (byteAt l i) := by simp [packB, h]
theorem bitAt_le (l : List Bool) (i j : Nat) : bitAt l i j ≤ 2 ^ j := by
  unfold bitAt
  split
  · exact Nat.le_refl _
  · exact Nat.zero_le _
theorem byteAt_lt (l : List Bool) (i : Nat) : byteAt l i < 256 := by
  have h0 := bitAt_le l i 0
  have h1 := bitAt_le l i 1
  have h2 := bitAt_le l i 2
  have h3 := bitAt_le l i 3
  have h4 := bitAt_le l i 4
  have h5 := bitAt_le l i 5
  have h6 := bitAt_le l i 6
  have h7 := bitAt_le l i 7
  unfold byteAt
  omega
theorem bitAt_past (l : List Bool) (i j : Nat) (h : l.length ≤ 8 * i + j) : bitAt l i j = 0 := by
  unfold bitAt
  rw [List.getD_eq_getElem?_getD, List.getElem?_eq_none h]
  rfl
theorem bitAt_snoc (l : List Bool) (b : Bool) (i j : Nat) (h : 8 * i + j ≠ l.length) : bitAt (l ++ [b]) i j = bitAt l i j := by
  unfold bitAt
  have : (l ++ [b]).getD (8 * i + j) false = l.getD (8 * i + j) false := by
    rw [List.getD_eq_getElem?_getD, List.getD_eq_getElem?_getD]
    rcases Nat.lt_or_ge (8 * i + j) l.length with h1 | h1
    · rw [List.getElem?_append_left h1]
    · rw [List.getElem?_eq_none (by simp; omega), List.getElem?_eq_none h1]
  rw [this]
theorem bitAt_new (l : List Bool) (b : Bool) (i j : Nat) (h : 8 * i + j = l.length) : bitAt (l ++ [b]) i j = b.toNat * 2 ^ j := by
  unfold bitAt
  have : (l ++ [b]).getD (8 * i + j) false = b := by rw [List.getD_eq_getElem?_getD, h]; simp
  rw [this]
  cases b <;> simp
/-- The bytes, with room for one more bit. -/
def roomB (l : List Bool) : List Nat := if l.length % 8 = 0 then packB l ++ [0] else packB l
theorem roomB_length (l : List Bool) : (roomB l).length = l.length / 8 + 1 := by
  unfold roomB
  split
  · rw [List.length_append, packB_length]; simp; omega
  · rw [packB_length]; omega
theorem roomB_get (l : List Bool) (i : Nat) (h : i < l.length / 8 + 1) : (roomB l)[i]? = some (byteAt l i) := by
  unfold roomB
  split
  · rename_i h8
    rcases Nat.lt_or_ge i (packB l).length with h1 | h1
    · rw [List.getElem?_append_left h1, packB_get l i (by rw [packB_length] at h1; exact h1)]
    · rw [List.getElem?_append_right h1]
      have hp := packB_length l
      have : i - (packB l).length = 0 := by omega
      rw [this]
      have hz : byteAt l i = 0 := by
        unfold byteAt
        rw [bitAt_past l i 0 (by omega), bitAt_past l i 1 (by omega), bitAt_past l i 2 (by omega), bitAt_past l i 3 (by omega), bitAt_past l i 4 (by omega), bitAt_past l i 5 (by omega), bitAt_past l i 6 (by omega), bitAt_past l i 7 (by omega)]
      rw [hz]
      rfl
  · exact packB_get l i (by omega)
theorem last_lt (l : List Bool) : byteAt l (l.length / 8) < 2 ^ (l.length % 8) := by
  have hm : l.length % 8 < 8 := Nat.mod_lt _ (by decide)
  have hd := Nat.div_add_mod l.length 8
  have h0 := bitAt_le l (l.length / 8) 0
  have h1 := bitAt_le l (l.length / 8) 1
  have h2 := bitAt_le l (l.length / 8) 2
  have h3 := bitAt_le l (l.length / 8) 3
  have h4 := bitAt_le l (l.length / 8) 4
  have h5 := bitAt_le l (l.length / 8) 5
  have h6 := bitAt_le l (l.length / 8) 6
  have hz := fun j (h : l.length % 8 ≤ j) => bitAt_past l (l.length / 8) j (by omega)
  unfold byteAt
  generalize l.length % 8 = r at hm hz ⊢
  have h7 : bitAt l (l.length / 8) 7 = 0 := hz 7 (by omega)
  match r, hm with
  | 0, _ => rw [hz 0 (by omega), hz 1 (by omega), hz 2 (by omega), hz 3 (by omega), hz 4 (by omega), hz 5 (by omega), hz 6 (by omega), h7]; decide
  | 1, _ => rw [hz 1 (by omega), hz 2 (by omega), hz 3 (by omega), hz 4 (by omega), hz 5 (by omega), hz 6 (by omega), h7]; omega
  | 2, _ => rw [hz 2 (by omega), hz 3 (by omega), hz 4 (by omega), hz 5 (by omega), hz 6 (by omega), h7]; omega
  | 3, _ => rw [hz 3 (by omega), hz 4 (by omega), hz 5 (by omega), hz 6 (by omega), h7]; omega
  | 4, _ => rw [hz 4 (by omega), hz 5 (by omega), hz 6 (by omega), h7]; omega
  | 5, _ => rw [hz 5 (by omega), hz 6 (by omega), h7]; omega
  | 6, _ => rw [hz 6 (by omega), h7]; omega
  | 7, _ => rw [h7]; omega
theorem byteAt_snoc_far (l : List Bool) (b : Bool) (i : Nat) (h : i ≠ l.length / 8) : byteAt (l ++ [b]) i = byteAt l i := by
  unfold byteAt
  rw [bitAt_snoc l b i 0 (by omega), bitAt_snoc l b i 1 (by omega), bitAt_snoc l b i 2 (by omega), bitAt_snoc l b i 3 (by omega), bitAt_snoc l b i 4 (by omega), bitAt_snoc l b i 5 (by omega), bitAt_snoc l b i 6 (by omega), bitAt_snoc l b i 7 (by omega)]
theorem byteAt_snoc (l : List Bool) (b : Bool) : byteAt (l ++ [b]) (l.length / 8) = byteAt l (l.length / 8) + b.toNat * 2 ^ (l.length % 8) := by
  have hm : l.length % 8 < 8 := Nat.mod_lt _ (by decide)
  have hd := Nat.div_add_mod l.length 8
  have hs := fun j (h : j ≠ l.length % 8) => bitAt_snoc l b (l.length / 8) j (by omega)
  have hn := bitAt_new l b (l.length / 8) (l.length % 8) (by omega)
  have ho := bitAt_past l (l.length / 8) (l.length % 8) (by omega)
  unfold byteAt
  generalize l.length / 8 = q at hs hn ho ⊢
  generalize l.length % 8 = r at hm hs hn ho ⊢
  match r, hm with
  | 0, _ => rw [hn, ho, hs 1 (by omega), hs 2 (by omega), hs 3 (by omega), hs 4 (by omega), hs 5 (by omega), hs 6 (by omega), hs 7 (by omega)]; omega
  | 1, _ => rw [hn, ho, hs 0 (by omega), hs 2 (by omega), hs 3 (by omega), hs 4 (by omega), hs 5 (by omega), hs 6 (by omega), hs 7 (by omega)]; omega
  | 2, _ => rw [hn, ho, hs 0 (by omega), hs 1 (by omega), hs 3 (by omega), hs 4 (by omega), hs 5 (by omega), hs 6 (by omega), hs 7 (by omega)]; omega
  | 3, _ => rw [hn, ho, hs 0 (by omega), hs 1 (by omega), hs 2 (by omega), hs 4 (by omega), hs 5 (by omega), hs 6 (by omega), hs 7 (by omega)]; omega
  | 4, _ => rw [hn, ho, hs 0 (by omega), hs 1 (by omega), hs 2 (by omega), hs 3 (by omega), hs 5 (by omega), hs 6 (by omega), hs 7 (by omega)]; omega
  | 5, _ => rw [hn, ho, hs 0 (by omega), hs 1 (by omega), hs 2 (by omega), hs 3 (by omega), hs 4 (by omega), hs 6 (by omega), hs 7 (by omega)]; omega
  | 6, _ => rw [hn, ho, hs 0 (by omega), hs 1 (by omega), hs 2 (by omega), hs 3 (by omega), hs 4 (by omega), hs 5 (by omega), hs 7 (by omega)]; omega
  | 7, _ => rw [hn, ho, hs 0 (by omega), hs 1 (by omega), hs 2 (by omega), hs 3 (by omega), hs 4 (by omega), hs 5 (by omega), hs 6 (by omega)]; omega
/-- One bit more. -/
theorem pack_step (l : List Bool) (b : Bool) : (roomB l).set (l.length / 8) (byteAt l (l.length / 8) + b.toNat * 2 ^ (l.length % 8)) = packB (l ++ [b]) := by
  apply List.ext_getElem?
  intro i
  have hlen := roomB_length l
  rw [List.getElem?_set]
  by_cases h : l.length / 8 = i
  · subst h
    rw [if_pos rfl, if_pos (by omega), packB_get _ _ (by simp; omega), byteAt_snoc]
  · rw [if_neg h]
    rcases Nat.lt_or_ge i (l.length / 8 + 1) with h1 | h1
    · rw [roomB_get l i h1, packB_get _ _ (by simp; omega), byteAt_snoc_far l b i (Ne.symm h)]
    · rw [List.getElem?_eq_none (by omega), List.getElem?_eq_none (by rw [packB_length]; simp; omega)]
/-- The low bits of a number. -/
def bitsN (x : Nat) : Nat → List Bool
  | 0 => []
  | n + 1 => bitsN x n ++ [x / 2 ^ n % 2 == 1]
theorem bitsN_length (x n : Nat) : (bitsN x n).length = n := by
  induction n with
  | zero => rfl
  | succ n ih => simp [bitsN, ih]
end Go.Proofs.YtbjhdmknhimbjaaGreat
