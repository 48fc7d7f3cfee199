/- Plain: bytes of which four side by side have others laid over them. -/
import Derived.Test.YtplclgkchiaijaaCrcPlain
namespace Go.Proofs.Ytplclgkchiaijaa
/-- A list whose bytes from k on, j of them, have others laid over them. -/
def pat (l : List UInt8) (k : Nat) (bs : List UInt8) (j : Nat) : List UInt8 := l.mapIdx fun i c => if k ≤ i ∧ i < k + j then c ^^^ bs.getD (i - k) 0 else c
theorem pat_zero (l : List UInt8) (k : Nat) (bs : List UInt8) : pat l k bs 0 = l := by
  unfold pat
  apply List.ext_getElem?
  intro i
  rw [List.getElem?_mapIdx]
  cases l[i]? with
  | none => rfl
  | some c => simp only [Option.map_some]; rw [if_neg (by omega)]
theorem pat_at (l : List UInt8) (k : Nat) (bs : List UInt8) (j : Nat) : (pat l k bs j)[k + j]? = l[k + j]? := by
  unfold pat
  rw [List.getElem?_mapIdx]
  cases l[k + j]? with
  | none => rfl
  | some c => simp only [Option.map_some]; rw [if_neg (by omega)]
theorem pat_succ (l : List UInt8) (k : Nat) (bs : List UInt8) (j : Nat) (c b : UInt8) (hc : l[k + j]? = some c) (hb : bs[j]? = some b) : (pat l k bs j).set (k + j) (c ^^^ b) = pat l k bs (j + 1) := by
  apply List.ext_getElem?
  intro i
  rw [List.getElem?_set]
  unfold pat
  rw [List.getElem?_mapIdx, List.getElem?_mapIdx]
  by_cases hi : k + j = i
  · subst hi
    have hlt := (List.getElem?_eq_some_iff.1 hc).1
    rw [if_pos rfl, if_pos (by simpa using hlt), hc]
    simp only [Option.map_some]
    rw [if_pos (by omega), show k + j - k = j from by omega, List.getD_eq_getElem?_getD, hb]
    rfl
  · rw [if_neg hi]
    cases l[i]? with
    | none => rfl
    | some d =>
      simp only [Option.map_some]
      by_cases h1 : k ≤ i ∧ i < k + j
      · rw [if_pos h1, if_pos (by omega)]
      · rw [if_neg h1, if_neg (by omega)]
theorem pat_length (l : List UInt8) (k : Nat) (bs : List UInt8) (j : Nat) : (pat l k bs j).length = l.length := by simp [pat]
theorem xor_eq_self (c b : UInt8) : c ^^^ b = c ↔ b = 0 := by
  constructor
  · intro h
    have : c ^^^ (c ^^^ b) = c ^^^ c := by rw [h]
    simpa [← UInt8.xor_assoc] using this
  · rintro rfl; simp
/-- Of bytes of which four side by side have others laid over them the sum is the same just if nothing is laid. -/
theorem pat_sum (l : List UInt8) (k : Nat) (b0 b1 b2 b3 : UInt8) (hk : k + 4 ≤ l.length) :
    Crc.sum (pat l k [b0, b1, b2, b3] 4) = Crc.sum l ↔ b0 = 0 ∧ b1 = 0 ∧ b2 = 0 ∧ b3 = 0 := by
  obtain ⟨x0, h0⟩ : ∃ x, l[k]? = some x := ⟨_, List.getElem?_eq_getElem (by omega)⟩
  obtain ⟨x1, h1⟩ : ∃ x, l[k + 1]? = some x := ⟨_, List.getElem?_eq_getElem (by omega)⟩
  obtain ⟨x2, h2⟩ : ∃ x, l[k + 2]? = some x := ⟨_, List.getElem?_eq_getElem (by omega)⟩
  obtain ⟨x3, h3⟩ : ∃ x, l[k + 3]? = some x := ⟨_, List.getElem?_eq_getElem (by omega)⟩
  have hl : l = l.take k ++ [x0, x1, x2, x3] ++ l.drop (k + 4) := by
    apply List.ext_getElem?
    intro i
    rcases Nat.lt_or_ge i k with hi | hi
    · rw [List.append_assoc, List.getElem?_append_left (by simp; omega), List.getElem?_take, if_pos hi]
    · rw [List.append_assoc, List.getElem?_append_right (by simp; omega), List.length_take, Nat.min_eq_left (by omega)]
      rcases Nat.lt_or_ge i (k + 4) with h4 | h4
      · obtain ⟨d, rfl⟩ : ∃ d, i = k + d := ⟨i - k, by omega⟩
        have h5 : d < 4 := by omega
        clear h4 hi
        match d, h5 with
        | 0, _ => simpa using h0
        | 1, _ => simpa using h1
        | 2, _ => simpa using h2
        | 3, _ => simpa using h3
      · rw [List.getElem?_append_right (by simp; omega), List.getElem?_drop]
        congr 1; simp; omega
  have hp : pat l k [b0, b1, b2, b3] 4 = l.take k ++ [x0 ^^^ b0, x1 ^^^ b1, x2 ^^^ b2, x3 ^^^ b3] ++ l.drop (k + 4) := by
    apply List.ext_getElem?
    intro i
    unfold pat
    rw [List.getElem?_mapIdx]
    rcases Nat.lt_or_ge i k with hi | hi
    · rw [List.append_assoc, List.getElem?_append_left (by simp; omega), List.getElem?_take, if_pos hi]
      cases l[i]? with
      | none => rfl
      | some d => simp only [Option.map_some]; rw [if_neg (by omega)]
    · rw [List.append_assoc, List.getElem?_append_right (by simp; omega), List.length_take, Nat.min_eq_left (by omega)]
      rcases Nat.lt_or_ge i (k + 4) with h4 | h4
      · obtain ⟨d, rfl⟩ : ∃ d, i = k + d := ⟨i - k, by omega⟩
        have h5 : d < 4 := by omega
        clear h4 hi
        match d, h5 with
        | 0, _ => simp [h0]
        | 1, _ => simp [h1]
        | 2, _ => simp [h2]
        | 3, _ => simp [h3]
      · rw [List.getElem?_append_right (by simp; omega), List.getElem?_drop]
        have e : k + 4 + (i - k - [x0 ^^^ b0, x1 ^^^ b1, x2 ^^^ b2, x3 ^^^ b3].length) = i := by simp; omega
        rw [e]
        cases l[i]? with
        | none => rfl
        | some d => simp only [Option.map_some]; rw [if_neg (by omega)]
  rw [hp]
  rw [show Crc.sum l = Crc.sum (l.take k ++ [x0, x1, x2, x3] ++ l.drop (k + 4)) from by rw [← hl], Crc.sum_four rfl rfl]
  simp only [List.cons.injEq, and_true, xor_eq_self]

end Go.Proofs.Ytplclgkchiaijaa
