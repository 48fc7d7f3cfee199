/- The plain part of reading a map: signs, and what they make. -/
import Derived.Test.YthafngfnbnehiaaGreatDoorMovePlain
import GoSem.Core.Utf8
set_option linter.unusedSimpArgs false
set_option linter.unusedVariables false
namespace Go.Proofs.YthafngfnbnehiaaGreatDoor
inductive Sg where
  | wall
  | floor
  | spawn
  | nl
def Sg.bytes : Sg → List UInt8
  | .wall => [0xE2, 0x96, 0x88]
  | .floor => [0xC2, 0xB7]
  | .spawn => [0xE2, 0x97, 0x8E]
  | .nl => [0x0A]
def Sg.rune : Sg → Nat
  | .wall => 9608
  | .floor => 183
  | .spawn => 9678
  | .nl => 10
def sgBytes (l : List Sg) : List UInt8 := l.flatMap Sg.bytes
structure RdS where
  w : Nat
  h : Nat
  x : Nat
  walls : List Bool
  spawns : List VecV
def isWall : Sg → Bool
  | .wall => true
  | _ => false
def isSpawn : Sg → Bool
  | .spawn => true
  | _ => false
def isNl : Sg → Bool
  | .nl => true
  | _ => false
def rdStep (s : RdS) (g : Sg) : Option RdS :=
  if isNl g then (if s.x = 0 ∨ s.x < s.w ∧ 0 < s.h then none else some ⟨s.x, s.h + 1, 0, s.walls, s.spawns⟩)
  else if s.h = 32 ∨ s.x = 32 ∨ 0 < s.h ∧ s.x = s.w then none
  else some ⟨s.w, s.h, s.x + 1, s.walls ++ [isWall g], s.spawns ++ (if isSpawn g then [middle s.x s.h] else [])⟩
def rdAll (s : RdS) : List Sg → Option RdS
  | [] => some s
  | g :: l => match rdStep s g with | none => none | some s' => rdAll s' l
def rdStart : RdS := ⟨0, 0, 0, [], []⟩
def readF (l : List Sg) : Option MapV :=
  match rdAll rdStart l with
  | none => none
  | some s => if s.x = 0 ∧ 0 < s.spawns.length then some ⟨s.w, s.h, s.walls, s.spawns⟩ else none
theorem get_at (pre post mid : List UInt8) (k : Nat) (b : UInt8) (h : mid[k]? = some b) : ((⟨(pre ++ (mid ++ post)).toArray⟩ : ByteArray).get! (pre.length + k)) = b := by
  obtain ⟨hk, hb⟩ := List.getElem?_eq_some_iff.1 h
  have h1 : (pre ++ (mid ++ post))[pre.length + k]? = some b := by
    rw [List.getElem?_append_right (by omega), Nat.add_sub_cancel_left, List.getElem?_append_left hk, h]
  show (pre ++ (mid ++ post)).toArray[pre.length + k]! = b
  simp [h1]
theorem size_of_bytes (l : List UInt8) : (⟨l.toArray⟩ : ByteArray).size = l.length := by
  show l.toArray.size = _; simp
theorem decode_at (pre post : List UInt8) (g : Sg) : Utf8.decode ⟨(pre ++ (g.bytes ++ post)).toArray⟩ pre.length = (g.rune, g.bytes.length) := by
  have h := fun k b hb => get_at pre post g.bytes k b hb
  have hs : (⟨(pre ++ (g.bytes ++ post)).toArray⟩ : ByteArray).size = pre.length + (g.bytes.length + post.length) := by rw [size_of_bytes]; simp
  cases g
  · have h0 := h 0 0xE2 rfl
    have h1 := h 1 0x96 rfl
    have h2 := h 2 0x88 rfl
    rw [Nat.add_zero] at h0
    simp only [Sg.bytes, List.length_cons, List.length_nil] at hs h0 h1 h2 ⊢
    unfold Utf8.decode
    simp only [Nat.add_zero, h0, h1, h2, hs]
    simp [Sg.rune, Utf8.valid]
    omega
  · have h0 := h 0 0xC2 rfl
    have h1 := h 1 0xB7 rfl
    rw [Nat.add_zero] at h0
    simp only [Sg.bytes, List.length_cons, List.length_nil] at hs h0 h1 ⊢
    unfold Utf8.decode
    simp only [Nat.add_zero, h0, h1, hs]
    simp [Sg.rune]
    omega
  · have h0 := h 0 0xE2 rfl
    have h1 := h 1 0x97 rfl
    have h2 := h 2 0x8E rfl
    rw [Nat.add_zero] at h0
    simp only [Sg.bytes, List.length_cons, List.length_nil] at hs h0 h1 h2 ⊢
    unfold Utf8.decode
    simp only [Nat.add_zero, h0, h1, h2, hs]
    simp [Sg.rune, Utf8.valid]
    omega
  · have h0 := h 0 0x0A rfl
    rw [Nat.add_zero] at h0
    simp only [Sg.bytes] at h0
    unfold Utf8.decode
    simp only [Nat.add_zero, Sg.bytes, h0]
    simp [Sg.rune]
theorem sgBytes_split {l : List Sg} {k : Nat} {g : Sg} (h : l[k]? = some g) : sgBytes l = sgBytes (l.take k) ++ (g.bytes ++ sgBytes (l.drop (k + 1))) := by
  obtain ⟨hk, rfl⟩ := List.getElem?_eq_some_iff.1 h
  have : l = l.take k ++ (l[k] :: l.drop (k + 1)) := by rw [← List.drop_eq_getElem_cons hk, List.take_append_drop]
  have e := congrArg (fun l => l.flatMap Sg.bytes) this
  simp only [List.flatMap_append, List.flatMap_cons] at e
  exact e
theorem sgBytes_take {l : List Sg} {k : Nat} {g : Sg} (h : l[k]? = some g) : (sgBytes (l.take (k + 1))).length = (sgBytes (l.take k)).length + g.bytes.length := by
  rw [List.take_add_one, h]; simp [sgBytes]
theorem rdAll_take {l : List Sg} {s s1 : RdS} {k : Nat} {g : Sg} {e : RdS} (hk : l[k]? = some g) (h1 : rdAll s (l.take k) = some s1) (h : rdAll s l = some e) : ∃ s2, rdStep s1 g = some s2 ∧ rdAll s (l.take (k + 1)) = some s2 := by
  induction l generalizing s k with
  | nil => simp at hk
  | cons a l ih =>
    cases k with
    | zero =>
      simp at hk; subst hk
      simp only [List.take_zero, rdAll, Option.some.injEq] at h1
      subst h1
      rw [rdAll] at h
      cases hs : rdStep s a with
      | none => rw [hs] at h; cases h
      | some s2 => exact ⟨s2, rfl, by simp [rdAll, hs]⟩
    | succ k =>
      rw [rdAll] at h
      rw [List.take_succ_cons, rdAll] at h1
      cases hs : rdStep s a with
      | none => rw [hs] at h; cases h
      | some s' =>
        rw [hs] at h h1
        obtain ⟨s2, h2, h3⟩ := ih (by simpa using hk) h1 h
        exact ⟨s2, h2, by rw [List.take_succ_cons, rdAll, hs]; exact h3⟩
end Go.Proofs.YthafngfnbnehiaaGreatDoor
