/- The plain law of ServerSlots: who is in the world, of those that came and went. Bits as lists, packed into bytes: the plain part of layer 6. Layer 6: the writer of bits. Layer 14: headers, put. -/
import Derived.Test.YtojbijapdkohlaaGreatDoorWJoin
import Derived.Test.YtojbijapdkohlaaGreatDoorQ18ReadPlain
import Derived.Test.YtojbijapdkohlaaGreatDoorQ03SrvPut
import Derived.Deep.DeepCutAuto
import Derived.WalkSpells
import Derived.IntWalk
import Derived.Laws.Bits64b
set_option linter.unusedSimpArgs false
set_option linter.unusedVariables false
namespace Go.Proofs.YtojbijapdkohlaaGreatDoor
open Go.RowKit
def keyL (l : List EntV) : List (Int × Int) := l.map fun e => (e.id, e.kind)
def cntQ (q : List (Int × Int)) : Nat := (q.filter fun p => p.2 == 1).length
def oneT (b : Bool) : Nat := if b = true then 1 else 0
def tcnt (T : Nat → Bool) : Nat := oneT (T 1) + oneT (T 2) + oneT (T 3) + oneT (T 4) + oneT (T 5) + oneT (T 6) + oneT (T 7) + oneT (T 8)
def setT (T : Nat → Bool) (k : Nat) (v : Bool) : Nat → Bool := fun j => if j = k then v else T j
structure OkQ (T : Nat → Bool) (q : List (Int × Int)) : Prop where
  nd : (q.map (·.1)).Nodup
  of_ : ∀ p ∈ q, (p.2 = 1 ∧ ∃ k : Nat, 1 ≤ k ∧ k ≤ 8 ∧ p.1 = (k : Int) ∧ T k = true) ∨ (p.2 = 2 ∧ p.1 = 9)
  has : ∀ k : Nat, 1 ≤ k → k ≤ 8 → T k = true → ((k : Int), (1 : Int)) ∈ q
  cnt : cntQ q = tcnt T
theorem eight {k : Nat} (h1 : 1 ≤ k) (h8 : k ≤ 8) : k = 1 ∨ k = 2 ∨ k = 3 ∨ k = 4 ∨ k = 5 ∨ k = 6 ∨ k = 7 ∨ k = 8 := by omega
theorem tcnt_on (T : Nat → Bool) (k : Nat) (h1 : 1 ≤ k) (h8 : k ≤ 8) (h : T k = false) : tcnt (setT T k true) = tcnt T + 1 := by
  rcases eight h1 h8 with rfl | rfl | rfl | rfl | rfl | rfl | rfl | rfl <;> simp [tcnt, setT, h, oneT] <;> omega
theorem tcnt_off (T : Nat → Bool) (k : Nat) (h1 : 1 ≤ k) (h8 : k ≤ 8) (h : T k = true) : tcnt (setT T k false) + 1 = tcnt T := by
  rcases eight h1 h8 with rfl | rfl | rfl | rfl | rfl | rfl | rfl | rfl <;> simp [tcnt, setT, h, oneT] <;> omega
theorem OkQ.perm {T : Nat → Bool} {q r : List (Int × Int)} (h : OkQ T q) (p : q.Perm r) : OkQ T r :=
  ⟨((p.map (·.1)).nodup_iff).1 h.nd, fun x hx => h.of_ x (p.mem_iff.2 hx), fun k h1 h8 hk => p.mem_iff.1 (h.has k h1 h8 hk), by
    rw [← h.cnt]
    exact ((p.filter _).length_eq).symm⟩
theorem OkQ.on {T : Nat → Bool} {q : List (Int × Int)} (h : OkQ T q) (k : Nat) (h1 : 1 ≤ k) (h8 : k ≤ 8) (hk : T k = false) : OkQ (setT T k true) (((k : Int), (1 : Int)) :: q) := by
  refine ⟨?_, ?_, ?_, ?_⟩
  · rw [List.map_cons, List.nodup_cons]
    refine ⟨fun hm => ?_, h.nd⟩
    obtain ⟨p, hp, he⟩ := List.mem_map.1 hm
    rcases h.of_ p hp with ⟨-, j, j1, j8, hj, hT⟩ | ⟨-, h9⟩
    · have : j = k := by have : p.1 = (k : Int) := he; omega
      rw [this, hk] at hT
      cases hT
    · have : p.1 = (k : Int) := he
      omega
  · intro p hp
    rcases List.mem_cons.1 hp with rfl | hp
    · exact .inl ⟨rfl, k, h1, h8, rfl, by simp [setT]⟩
    · rcases h.of_ p hp with ⟨a, j, j1, j8, hj, hT⟩ | h9
      · exact .inl ⟨a, j, j1, j8, hj, by unfold setT; split <;> simp [hT]⟩
      · exact .inr h9
  · intro j j1 j8 hj
    unfold setT at hj
    split at hj
    · rename_i e
      rw [e]
      exact List.mem_cons_self
    · exact List.mem_cons_of_mem _ (h.has j j1 j8 hj)
  · rw [tcnt_on T k h1 h8 hk, ← h.cnt]
    simp [cntQ]
theorem OkQ.off {T : Nat → Bool} {q : List (Int × Int)} {k : Nat} (h : OkQ T (((k : Int), (1 : Int)) :: q)) (h1 : 1 ≤ k) (h8 : k ≤ 8) (hk : T k = true) : OkQ (setT T k false) q := by
  have hnd := h.nd
  rw [List.map_cons, List.nodup_cons] at hnd
  refine ⟨hnd.2, ?_, ?_, ?_⟩
  · intro p hp
    rcases h.of_ p (List.mem_cons_of_mem _ hp) with ⟨a, j, j1, j8, hj, hT⟩ | h9
    · refine .inl ⟨a, j, j1, j8, hj, ?_⟩
      unfold setT
      rw [if_neg (fun e => hnd.1 (List.mem_map.2 ⟨p, hp, by rw [hj, e]⟩))]
      exact hT
    · exact .inr h9
  · intro j j1 j8 hj
    unfold setT at hj
    split at hj
    · cases hj
    · rename_i hne
      rcases List.mem_cons.1 (h.has j j1 j8 hj) with e | e
      · exfalso
        have := congrArg Prod.fst e
        simp only at this
        omega
      · exact e
  · have h3 := tcnt_off T k h1 h8 hk
    have h4 := h.cnt
    simp [cntQ] at h4 ⊢
    omega
theorem keyL_join (l : List EntV) (p : Nat) (k : Nat) (v : VecV) : (((k : Int), (1 : Int)) :: keyL l).Perm (keyL (l.take p ++ newP (k : Int) v :: l.drop p)) := by
  unfold keyL
  have h : (newP (k : Int) v :: l).Perm (l.take p ++ newP (k : Int) v :: l.drop p) := by
    have := (List.perm_middle (a := newP (k : Int) v) (l₁ := l.take p) (l₂ := l.drop p)).symm
    rwa [List.take_append_drop] at this
  exact h.map fun e => (e.id, e.kind)
theorem keyL_leave (l : List EntV) (k : Nat) (e : EntV) (h : l[k]? = some e) : (keyL l).Perm ((e.id, e.kind) :: keyL (l.take k ++ l.drop (k + 1))) := by
  have hk : k < l.length := (List.getElem?_eq_some_iff.1 h).1
  have he : l[k] = e := (List.getElem?_eq_some_iff.1 h).2
  have e1 : l = l.take k ++ e :: l.drop (k + 1) := by
    rw [← he, List.getElem_cons_drop hk, List.take_append_drop]
  have h2 : l.Perm (e :: (l.take k ++ l.drop (k + 1))) := by
    have := List.perm_middle (a := e) (l₁ := l.take k) (l₂ := l.drop (k + 1))
    rwa [← e1] at this
  exact h2.map fun e => (e.id, e.kind)
theorem tick_key (v : WorldV) (hok : ∀ e ∈ v.l, okE e) : keyL (tickF v).l = keyL v.l := by
  apply List.ext_getElem?
  intro k
  unfold keyL
  rw [List.getElem?_map, List.getElem?_map]
  cases ha : v.l[k]? with
  | none =>
    have : (tickF v).l[k]? = none := by
      rw [List.getElem?_eq_none_iff] at ha ⊢
      rw [tickF_len]
      exact ha
    rw [this]
  | some a =>
    have hk : k < v.l.length := (List.getElem?_eq_some_iff.1 ha).1
    obtain ⟨b, hb⟩ : ∃ b, (tickF v).l[k]? = some b := ⟨_, List.getElem?_eq_getElem (by rw [tickF_len]; exact hk)⟩
    have h1 := tick_one v k a b (hok a (List.mem_of_getElem? ha)) ha hb
    rw [hb]
    simp [h1.1, h1.2.1]
theorem findF_no {T : Nat → Bool} {l : List EntV} (h : OkQ T (keyL l)) (k : Nat) (h8 : k ≤ 8) (hk : T k = false) : findF l (k : Int) = -1 := by
  rcases findF_spec l k with ⟨h1, -⟩ | ⟨j, e, h1, h2, h3⟩
  · exact h1
  · exfalso
    rcases h.of_ (e.id, e.kind) (List.mem_map.2 ⟨e, List.mem_of_getElem? h2, rfl⟩) with ⟨-, i, i1, i8, hi, hT⟩ | ⟨-, h9⟩
    · have : i = k := by have : e.id = (i : Int) := hi; omega
      rw [this, hk] at hT
      cases hT
    · have : e.id = 9 := h9
      omega
theorem playerF_yes {T : Nat → Bool} {l : List EntV} (h : OkQ T (keyL l)) (k : Nat) (h1 : 1 ≤ k) (h8 : k ≤ 8) (hk : T k = true) : playerF l (k : Int) ≠ -1 := by
  intro hp
  obtain ⟨e0, he0, hk0⟩ := List.mem_map.1 (h.has k h1 h8 hk)
  simp only [Prod.mk.injEq] at hk0
  unfold playerF at hp
  rcases findF_spec l k with ⟨h2, h3⟩ | ⟨j, e, h2, h3, h4⟩
  · exact h3 e0 he0 hk0.1
  · rw [if_neg (by omega), h2, Int.toNat_natCast, List.getD_eq_getElem?_getD, h3, Option.getD_some] at hp
    rcases h.of_ (e.id, e.kind) (List.mem_map.2 ⟨e, List.mem_of_getElem? h3, rfl⟩) with ⟨h5, -⟩ | ⟨-, h9⟩
    · rw [if_pos h5] at hp
      omega
    · have : e.id = 9 := h9
      omega
theorem OkQ.join {T : Nat → Bool} {l : List EntV} (h : OkQ T (keyL l)) (k : Nat) (h1 : 1 ≤ k) (h8 : k ≤ 8) (hk : T k = false) (p : Nat) (v : VecV) : OkQ (setT T k true) (keyL (l.take p ++ newP (k : Int) v :: l.drop p)) :=
  (h.on k h1 h8 hk).perm (keyL_join l p k v)
theorem OkQ.leave {T : Nat → Bool} {l : List EntV} (h : OkQ T (keyL l)) (k : Nat) (h1 : 1 ≤ k) (h8 : k ≤ 8) (hk : T k = true) : OkQ (setT T k false) (keyL (leaveL l (k : Int))) := by
  have hp := playerF_yes h k h1 h8 hk
  rcases playerF_spec l (k : Int) with h2 | ⟨j, e, h2, h3, h4, h5⟩
  · exact absurd h2 hp
  · unfold leaveL
    rw [if_neg hp, h2, Int.toNat_natCast]
    have := keyL_leave l j e h3
    rw [h4, h5] at this
    exact (h.perm this).off h1 h8 hk
theorem leave_ok {l : List EntV} {id : Int} (h : ∀ e ∈ l, okE e) : ∀ e ∈ leaveL l id, okE e := by
  intro e he
  unfold leaveL at he
  split at he
  · exact h e he
  · rcases List.mem_append.1 he with he | he
    · exact h e (List.mem_of_mem_take he)
    · exact h e (List.mem_of_mem_drop he)
theorem join_ok {l : List EntV} {p : Nat} {k : Int} {v : VecV} (h : ∀ e ∈ l, okE e) : ∀ e ∈ l.take p ++ newP k v :: l.drop p, okE e := by
  intro e he
  rcases List.mem_append.1 he with he | he
  · exact h e (List.mem_of_mem_take he)
  · rcases List.mem_cons.1 he with rfl | he
    · exact ⟨by show (0 : Int) ≤ 100; omega, by show (100 : Int) ≤ 100; omega, by show (0 : Int) ≤ 0; omega, by show (0 : Int) ≤ 20; omega⟩
    · exact h e (List.mem_of_mem_drop he)
theorem leave_len (l : List EntV) (id : Int) : (leaveL l id).length ≤ l.length := by
  unfold leaveL
  split
  · exact Nat.le_refl _
  · rw [List.length_append, List.length_take, List.length_drop]
    omega
theorem join_len (l : List EntV) (p : Nat) (e : EntV) : (l.take p ++ e :: l.drop p).length = l.length + 1 := by
  rw [List.length_append, List.length_cons, List.length_take, List.length_drop]
  omega
end Go.Proofs.YtojbijapdkohlaaGreatDoor
set_option linter.unusedSimpArgs false
set_option linter.unusedVariables false
namespace Go.Proofs.YtojbijapdkohlaaGreatDoor
def bitAt (l : List Bool) (i j : Nat) : Nat := if l.getD (8 * i + j) false then 2 ^ j else 0
def byteAt (l : List Bool) (i : Nat) : Nat := bitAt l i 0 + bitAt l i 1 + bitAt l i 2 + bitAt l i 3 + bitAt l i 4 + bitAt l i 5 + bitAt l i 6 + bitAt l i 7
def packB (l : List Bool) : List Nat := (List.range ((l.length + 7) / 8)).map (byteAt l)
theorem packB_length (l : List Bool) : (packB l).length = (l.length + 7) / 8 := by simp [packB]
theorem packB_get (l : List Bool) (i : Nat) (h : i < (l.length + 7) / 8) : (packB l)[i]? = some (byteAt l i) := by simp [packB, h]
theorem bitAt_le (l : List Bool) (i j : Nat) : bitAt l i j ≤ 2 ^ j := by
  unfold bitAt
  split
  · exact Nat.le_refl _
  · exact Nat.zero_le _
theorem byteAt_lt (l : List Bool) (i : Nat) : byteAt l i < 256 := by
  have h0 := bitAt_le l i 0
  have h1 := bitAt_le l i 1
  have h2 := bitAt_le l i 2
  have h3 := bitAt_le l i 3
  have h4 := bitAt_le l i 4
  have h5 := bitAt_le l i 5
  have h6 := bitAt_le l i 6
  have h7 := bitAt_le l i 7
  unfold byteAt
  omega
theorem bitAt_past (l : List Bool) (i j : Nat) (h : l.length ≤ 8 * i + j) : bitAt l i j = 0 := by
  unfold bitAt
  rw [List.getD_eq_getElem?_getD, List.getElem?_eq_none h]
  rfl
theorem bitAt_snoc (l : List Bool) (b : Bool) (i j : Nat) (h : 8 * i + j ≠ l.length) : bitAt (l ++ [b]) i j = bitAt l i j := by
  unfold bitAt
  have : (l ++ [b]).getD (8 * i + j) false = l.getD (8 * i + j) false := by
    rw [List.getD_eq_getElem?_getD, List.getD_eq_getElem?_getD]
    rcases Nat.lt_or_ge (8 * i + j) l.length with h1 | h1
    · rw [List.getElem?_append_left h1]
    · rw [List.getElem?_eq_none (by simp; omega), List.getElem?_eq_none h1]
  rw [this]
theorem bitAt_new (l : List Bool) (b : Bool) (i j : Nat) (h : 8 * i + j = l.length) : bitAt (l ++ [b]) i j = b.toNat * 2 ^ j := by
  unfold bitAt
  have : (l ++ [b]).getD (8 * i + j) false = b := by rw [List.getD_eq_getElem?_getD, h]; simp
  rw [this]
  cases b <;> simp
/-- The bytes, with room for one more bit. -/
def roomB (l : List Bool) : List Nat := if l.length % 8 = 0 then packB l ++ [0] else packB l
theorem roomB_length (l : List Bool) : (roomB l).length = l.length / 8 + 1 := by
  unfold roomB
  split
  · rw [List.length_append, packB_length]; simp; omega
  · rw [packB_length]; omega
theorem roomB_get (l : List Bool) (i : Nat) (h : i < l.length / 8 + 1) : (roomB l)[i]? = some (byteAt l i) := by
  unfold roomB
  split
  · rename_i h8
    rcases Nat.lt_or_ge i (packB l).length with h1 | h1
    · rw [List.getElem?_append_left h1, packB_get l i (by rw [packB_length] at h1; exact h1)]
    · rw [List.getElem?_append_right h1]
      have hp := packB_length l
      have : i - (packB l).length = 0 := by omega
      rw [this]
      have hz : byteAt l i = 0 := by
        unfold byteAt
        rw [bitAt_past l i 0 (by omega), bitAt_past l i 1 (by omega), bitAt_past l i 2 (by omega), bitAt_past l i 3 (by omega), bitAt_past l i 4 (by omega), bitAt_past l i 5 (by omega), bitAt_past l i 6 (by omega), bitAt_past l i 7 (by omega)]
      rw [hz]
      rfl
  · exact packB_get l i (by omega)
theorem last_lt (l : List Bool) : byteAt l (l.length / 8) < 2 ^ (l.length % 8) := by
  have hm : l.length % 8 < 8 := Nat.mod_lt _ (by decide)
  have hd := Nat.div_add_mod l.length 8
  have h0 := bitAt_le l (l.length / 8) 0
  have h1 := bitAt_le l (l.length / 8) 1
  have h2 := bitAt_le l (l.length / 8) 2
  have h3 := bitAt_le l (l.length / 8) 3
  have h4 := bitAt_le l (l.length / 8) 4
  have h5 := bitAt_le l (l.length / 8) 5
  have h6 := bitAt_le l (l.length / 8) 6
  have hz := fun j (h : l.length % 8 ≤ j) => bitAt_past l (l.length / 8) j (by omega)
  unfold byteAt
  generalize l.length % 8 = r at hm hz ⊢
  have h7 : bitAt l (l.length / 8) 7 = 0 := hz 7 (by omega)
  match r, hm with
  | 0, _ => rw [hz 0 (by omega), hz 1 (by omega), hz 2 (by omega), hz 3 (by omega), hz 4 (by omega), hz 5 (by omega), hz 6 (by omega), h7]; decide
  | 1, _ => rw [hz 1 (by omega), hz 2 (by omega), hz 3 (by omega), hz 4 (by omega), hz 5 (by omega), hz 6 (by omega), h7]; omega
  | 2, _ => rw [hz 2 (by omega), hz 3 (by omega), hz 4 (by omega), hz 5 (by omega), hz 6 (by omega), h7]; omega
  | 3, _ => rw [hz 3 (by omega), hz 4 (by omega), hz 5 (by omega), hz 6 (by omega), h7]; omega
  | 4, _ => rw [hz 4 (by omega), hz 5 (by omega), hz 6 (by omega), h7]; omega
  | 5, _ => rw [hz 5 (by omega), hz 6 (by omega), h7]; omega
  | 6, _ => rw [hz 6 (by omega), h7]; omega
  | 7, _ => rw [h7]; omega
theorem byteAt_snoc_far (l : List Bool) (b : Bool) (i : Nat) (h : i ≠ l.length / 8) : byteAt (l ++ [b]) i = byteAt l i := by
  unfold byteAt
  rw [bitAt_snoc l b i 0 (by omega), bitAt_snoc l b i 1 (by omega), bitAt_snoc l b i 2 (by omega), bitAt_snoc l b i 3 (by omega), bitAt_snoc l b i 4 (by omega), bitAt_snoc l b i 5 (by omega), bitAt_snoc l b i 6 (by omega), bitAt_snoc l b i 7 (by omega)]
theorem byteAt_snoc (l : List Bool) (b : Bool) : byteAt (l ++ [b]) (l.length / 8) = byteAt l (l.length / 8) + b.toNat * 2 ^ (l.length % 8) := by
  have hm : l.length % 8 < 8 := Nat.mod_lt _ (by decide)
  have hd := Nat.div_add_mod l.length 8
  have hs := fun j (h : j ≠ l.length % 8) => bitAt_snoc l b (l.length / 8) j (by omega)
  have hn := bitAt_new l b (l.length / 8) (l.length % 8) (by omega)
  have ho := bitAt_past l (l.length / 8) (l.length % 8) (by omega)
  unfold byteAt
  generalize l.length / 8 = q at hs hn ho ⊢
  generalize l.length % 8 = r at hm hs hn ho ⊢
  match r, hm with
  | 0, _ => rw [hn, ho, hs 1 (by omega), hs 2 (by omega), hs 3 (by omega), hs 4 (by omega), hs 5 (by omega), hs 6 (by omega), hs 7 (by omega)]; omega
  | 1, _ => rw [hn, ho, hs 0 (by omega), hs 2 (by omega), hs 3 (by omega), hs 4 (by omega), hs 5 (by omega), hs 6 (by omega), hs 7 (by omega)]; omega
  | 2, _ => rw [hn, ho, hs 0 (by omega), hs 1 (by omega), hs 3 (by omega), hs 4 (by omega), hs 5 (by omega), hs 6 (by omega), hs 7 (by omega)]; omega
  | 3, _ => rw [hn, ho, hs 0 (by omega), hs 1 (by omega), hs 2 (by omega), hs 4 (by omega), hs 5 (by omega), hs 6 (by omega), hs 7 (by omega)]; omega
  | 4, _ => rw [hn, ho, hs 0 (by omega), hs 1 (by omega), hs 2 (by omega), hs 3 (by omega), hs 5 (by omega), hs 6 (by omega), hs 7 (by omega)]; omega
  | 5, _ => rw [hn, ho, hs 0 (by omega), hs 1 (by omega), hs 2 (by omega), hs 3 (by omega), hs 4 (by omega), hs 6 (by omega), hs 7 (by omega)]; omega
  | 6, _ => rw [hn, ho, hs 0 (by omega), hs 1 (by omega), hs 2 (by omega), hs 3 (by omega), hs 4 (by omega), hs 5 (by omega), hs 7 (by omega)]; omega
  | 7, _ => rw [hn, ho, hs 0 (by omega), hs 1 (by omega), hs 2 (by omega), hs 3 (by omega), hs 4 (by omega), hs 5 (by omega), hs 6 (by omega)]; omega
/-- One bit more. -/
theorem pack_step (l : List Bool) (b : Bool) : (roomB l).set (l.length / 8) (byteAt l (l.length / 8) + b.toNat * 2 ^ (l.length % 8)) = packB (l ++ [b]) := by
  apply List.ext_getElem?
  intro i
  have hlen := roomB_length l
  rw [List.getElem?_set]
  by_cases h : l.length / 8 = i
  · subst h
    rw [if_pos rfl, if_pos (by omega), packB_get _ _ (by simp; omega), byteAt_snoc]
  · rw [if_neg h]
    rcases Nat.lt_or_ge i (l.length / 8 + 1) with h1 | h1
    · rw [roomB_get l i h1, packB_get _ _ (by simp; omega), byteAt_snoc_far l b i (Ne.symm h)]
    · rw [List.getElem?_eq_none (by omega), List.getElem?_eq_none (by rw [packB_length]; simp; omega)]
/-- The low bits of a number. -/
def bitsN (x : Nat) : Nat → List Bool
  | 0 => []
  | n + 1 => bitsN x n ++ [x / 2 ^ n % 2 == 1]
theorem bitsN_length (x n : Nat) : (bitsN x n).length = n := by
  induction n with
  | zero => rfl
  | succ n ih => simp [bitsN, ih]
end Go.Proofs.YtojbijapdkohlaaGreatDoor
set_option linter.unusedSimpArgs false
set_option linter.unusedVariables false
namespace Go.Proofs.YtojbijapdkohlaaGreatDoor
open Go.RowKit
def natsV (l : List Nat) : List Value := l.map fun x => Value.int .u8 ((x : Nat) : Int)
theorem natsV_length (l : List Nat) : (natsV l).length = l.length := by simp [natsV]
theorem natsV_at {l : List Nat} {k x : Nat} (h : l[k]? = some x) : (natsV l)[k]? = some (.int .u8 (x : Nat)) := by unfold natsV; rw [List.getElem?_map, h]; rfl
theorem natsV_one (l : List Nat) : ∀ u ∈ natsV l, u.oneCell' = true := by
  intro u hu
  unfold natsV at hu
  simp only [List.mem_map] at hu
  obtain ⟨e, _, rfl⟩ := hu
  rfl
theorem eltY : Elt Tryz.prog 100 5 1 1 := Elt.mk' Tryz.underlying100 (.int .u8 0) (by kernel_rfl) rfl (by decide) (by decide)
theorem Blk.turn {w w' : World} {g : Nat} {t : TypeId} {cs : Array Value} {F : Nat → Prop} (h : Blk w g t cs) (hc : Chg F w w') (hF : ¬ F g) : Blk w' g t cs := (hc.block g h.lt hF).trans h
/-- A writer that holds bits; its bytes lie where A says. -/
structure WrAt (w : World) (g : Nat) (A : Option Addr) (l : List Bool) : Prop where
  n : ∃ c, Blk w g 240 #[.slice A (packB l).length c, .int .i64 (l.length : Nat)] ∧ Row w 5 1 A (packB l).length c (natsV (packB l))
theorem bits_or_u8_nat (a b : Nat) (ha : a < 256) (hb : b < 256) : bits .or .u8 (a : Int) (b : Int) = ((a ||| b : Nat) : Int) := by
  have hx : a ||| b < 2 ^ 8 := Nat.or_lt_two_pow (by omega) (by omega)
  have h1 : (BitVec.ofInt 8 (a : Int)).toNat = a := by
    rw [BitVec.ofInt_natCast, BitVec.toNat_ofNat]; exact Nat.mod_eq_of_lt (by omega)
  have h2 : (BitVec.ofInt 8 (b : Int)).toNat = b := by
    rw [BitVec.ofInt_natCast, BitVec.toNat_ofNat]; exact Nat.mod_eq_of_lt (by omega)
  show IntKind.u8.wrap ((BitVec.ofInt 8 (a : Int) ||| BitVec.ofInt 8 (b : Int)).toNat : Int) = _
  rw [BitVec.toNat_or, h1, h2, IntKind.wrap_u8]
  omega
theorem put_byte (x k K bt r : Nat) (hx : x < 18446744073709551616) (hk : k < 64) (hr : r < 8) (hbt : bt < 2 ^ r) (hK : K % 8 = r) :
    bits .or .u8 (bt : Int) (bits .and .u64 ((x : Int) / 2 ^ min k 64) 1 % 256 * 2 ^ min (K % 8) 8 % 256) = ((bt + (x / 2 ^ k % 2 == 1).toNat * 2 ^ r : Nat) : Int) := by
  have e1 : min k 64 = k := by omega
  have e2 : min (K % 8) 8 = r := by omega
  have e3 : (x : Int) / 2 ^ k = ((x / 2 ^ k : Nat) : Int) := by simp
  have hd : x / 2 ^ k < 18446744073709551616 := Nat.lt_of_le_of_lt (Nat.div_le_self _ _) hx
  have e4 : bits .and .u64 ((x / 2 ^ k : Nat) : Int) 1 = ((x / 2 ^ k % 2 : Nat) : Int) := by
    have := bits_and_u64_nat (x / 2 ^ k) 1 hd (by omega)
    rw [Nat.and_one_is_mod] at this
    exact this
  rw [e1, e2, e3, e4]
  have hp : 2 ^ r ≤ 128 := by
    have : 2 ^ r ≤ 2 ^ 7 := Nat.pow_le_pow_right (by omega) (by omega)
    omega
  have hy : x / 2 ^ k % 2 < 2 := Nat.mod_lt _ (by omega)
  have hyb : (x / 2 ^ k % 2 == 1).toNat = x / 2 ^ k % 2 := by
    rcases (by omega : x / 2 ^ k % 2 = 0 ∨ x / 2 ^ k % 2 = 1) with h | h <;> rw [h] <;> rfl
  rw [hyb]
  generalize x / 2 ^ k % 2 = y at hy ⊢
  have e5 : ((y : Nat) : Int) % 256 * 2 ^ r % 256 = ((y * 2 ^ r : Nat) : Int) := by
    have : y * 2 ^ r ≤ 1 * 128 := Nat.mul_le_mul (by omega) hp
    rw [show ((y : Nat) : Int) % 256 = (y : Int) by omega]
    rw [show ((y : Nat) : Int) * 2 ^ r = ((y * 2 ^ r : Nat) : Int) by simp]
    omega
  have hl : y * 2 ^ r ≤ 1 * 128 := Nat.mul_le_mul (by omega) hp
  rw [e5, bits_or_u8_nat bt (y * 2 ^ r) (by omega) (by omega)]
  have := Nat.two_pow_add_eq_or_of_lt hbt y
  congr 1
  rw [Nat.or_comm, Nat.mul_comm y, ← this]
  omega
theorem Row.ne_blk {w : World} {e t : TypeId} {size n c g : Nat} {A : Option Addr} {xs : List Value} {cs : Array Value} (h : Row w e size A n c xs) (hb : Blk w g t cs) (hne : e ≠ t) : ∀ q, blkOf A = some q → q ≠ g := by
  intro q hq
  rcases h.2.2.2 with ⟨h3, -⟩ | ⟨g', off, cur, h3, h4, -, -⟩
  · rw [h3] at hq; cases hq
  · rw [h3] at hq
    have : g' = q := by simpa [blkOf] using hq
    subst this
    exact Blk.ne_ (t := e) h4 hb hne
set_option maxRecDepth 100000 in
set_option maxHeartbeats 4000000 in
theorem bitsPut (l : List Bool) (A : Option Addr) (g x n : Nat) (w : World) (h : WrAt w g A l) (hx : x < 18446744073709551616) (hn : n ≤ 64) (hl : l.length ≤ 100000) :
    Calls Tryz.prog 185 #[.pointer (some ⟨g, 0, none⟩), .int .u64 (x : Nat), .int .i64 (n : Nat)] w fun e w' => e = .returned (.tuple #[]) ∧ ∃ A', WrAt w' g A' (l ++ bitsN x n) ∧ (∀ q, blkOf A' = some q → blkOf A = some q ∨ w.heap.size ≤ q) ∧ Chg (fun q => q = g ∨ blkOf A = some q) w w' := by
  have d1 : decide ((n : Int) < 0) = false := decide_eq_false (by omega)
  have d2 : decide ((64 : Int) < (n : Int)) = false := decide_eq_false (by omega)
  have HH := Lib.hid h
  clear h
  go_enter Tryz.func185, Tryz.ntmps185
  go_wp2
  go_loopw [18] (fun i wr => ∃ (k : Nat) (A' : Option Addr), k ≤ n ∧ i = .int .i64 (k : Nat) ∧ WrAt wr g A' (l ++ bitsN x k) ∧ (∀ q, blkOf A' = some q → blkOf A = some q ∨ w.heap.size ≤ q) ∧ Chg (fun q => q = g ∨ blkOf A = some q) w wr) (fun i _ => n - (intOf i).toNat)
  case atStart => exact ⟨0, A, Nat.zero_le _, rfl, by rw [show l ++ bitsN x 0 = l by simp [bitsN]]; exact HH.out, fun q hq => .inl hq, Chg.refl⟩
  case round =>
    obtain ⟨k, A', hk, rfl, hw, hA', hc⟩ := hrel
    by_cases hlt : k < n
    · have hL : (l ++ bitsN x k).length = l.length + k := by simp [bitsN_length]
      have hstep : l ++ bitsN x (k + 1) = (l ++ bitsN x k) ++ [x / 2 ^ k % 2 == 1] := by simp [bitsN]
      obtain ⟨c, hb, hr⟩ := hw.n
      have HSTEP := Lib.hid hstep
      generalize l ++ bitsN x k = L at hL hb hr hstep HSTEP
      have hK : L.length ≤ 100064 := by omega
      generalize hLn : L.length = K at hL hb hK
      have hpl := packB_length L
      rw [hLn] at hpl
      have z0 : wr.cell? ⟨g, 0, none⟩ = some (.slice A' (packB L).length c) := hb.cell 0
      have z1 : wr.cell? ⟨g, 1, none⟩ = some (.int .i64 (K : Nat)) := hb.cell 1
      have f0 : wr.frozen? ⟨g, 0, none⟩ = false := hb.frozen 0
      have f1 : wr.frozen? ⟨g, 1, none⟩ = false := hb.frozen 1
      have lg := hb.lt
      have HB := Lib.hid hb
      have HR := Lib.hid hr
      have HC := Lib.hid hc
      have HA' := Lib.hid hA'
      have HL := Lib.hid hL
      have HLN := Lib.hid hLn
      have HPL := Lib.hid hpl
      clear hstep hb hr hc hA' hL hLn hpl hw
      generalize hN : (packB L).length = N at z0
      have HN := Lib.hid hN
      clear hN
      go_upto_if 26 with (fail)
      go_cut [] (fun wx => ∃ (A2 : Option Addr) (M c2 : Nat), Blk wx g 240 #[.slice A2 M c2, .int .i64 (K : Nat)] ∧ M = K / 8 + 1 ∧ Row wx 5 1 A2 M c2 (natsV (roomB L)) ∧ (∀ q, blkOf A2 = some q → blkOf A = some q ∨ w.heap.size ≤ q) ∧ Chg (fun q => q = g ∨ blkOf A = some q) w wx)
      case first =>
        by_cases h8 : K % 8 = 0
        · have e8 : ((K : Int) % 8 == 0) = true := by rw [beq_iff_eq]; omega
          have H8 := Lib.hid h8
          clear h8
          go_wp2_with (at_builtin; refine wpList_row rfl (.tmp 31) (.tmp 32) rfl eltY A' N c (natsV (packB L)) rfl (by have := HR.out; rw [HN.out] at this; exact this.keep (fun q hq => Below.heap_alloc _ _ _ (HR.out.lt hq))) (wr.heap.size + 1) (some ⟨wr.heap.size, 0, none⟩) 1 1 [.int .u8 0] rfl (Reads.blk (size := 1) (n := 1) (g := wr.heap.size) (heap_alloc_new wr (.cells #[.int .u8 0] 5)) (by omega) rfl) (by simp [Value.oneCell']) (by have := HPL.out; have := HN.out; omega) ?_; intro A2 c2 w2 hr2 hg2 hb2; have mb2 := (HB.out.alloc (.cells #[.int .u8 0] 5)).grown hg2 (fun e => HR.out.ne_blk HB.out (by decide) g e.symm rfl); have y0 := mb2.cell 0; have y1 := mb2.cell 1; have yz := mb2.frozen 0; have HR2 := Lib.hid hr2; have HG2 := Lib.hid hg2; have HB2 := Lib.hid hb2; have HMB := Lib.hid mb2; clear hr2 hg2 hb2 mb2)
          go_meet
          have hne2 := HR2.out.ne_blk HMB.out (by decide)
          have e0 : Blk (w2.setCell ⟨g, 0, none⟩ (.slice A2 (N + 1) c2)) g 240 #[.slice A2 (N + 1) c2, .int .i64 (K : Nat)] := HMB.out.set_ 0 _
          have e1 : Row (w2.setCell ⟨g, 0, none⟩ (.slice A2 (N + 1) c2)) 5 1 A2 (N + 1) c2 (natsV (roomB L)) := by
            have hr3 : roomB L = packB L ++ [0] := by unfold roomB; rw [HLN.out, if_pos H8.out]
            rw [hr3, show natsV (packB L ++ [0]) = natsV (packB L) ++ [.int .u8 0] by simp [natsV]]
            exact HR2.out.keep (fun q hq => Below.heap_setCell _ _ _ q (hne2 q hq))
          have hc3 : Chg (fun q => q = g ∨ blkOf A = some q) w (w2.setCell ⟨g, 0, none⟩ (.slice A2 (N + 1) c2)) := (((HC.out.alloc _).grown HG2.out (fun k hk => (HA'.out k hk).elim (fun h => .inl (.inr h)) .inr)).setCell (.inl (.inl rfl)) _)
          exact ⟨A2, N + 1, c2, e0, by have := HPL.out; have := HN.out; have := H8.out; omega, e1, fun q hq => by
            rcases HB2.out with h | h
            · exact HA'.out q (h ▸ hq)
            · rw [h] at hq; injection hq with hq; right; subst hq; have := HC.out.size; simp; omega, hc3⟩
        · have e8 : ((K : Int) % 8 == 0) = false := beq_eq_false_iff_ne.2 (by omega)
          have H8 := Lib.hid h8
          clear h8
          go_wp2_with fail
          go_meet
          have hr3 : roomB L = packB L := by unfold roomB; rw [HLN.out, if_neg H8.out]
          have e1 := HR.out
          have e0 := HB.out
          rw [HN.out] at e1 e0
          exact ⟨A', N, c, e0, by have := HPL.out; have := HN.out; have := H8.out; omega, by rw [hr3]; exact e1, HA'.out, HC.out⟩
      case rest =>
        obtain ⟨A2, M, c2, hb, hM, hr, hA2, hc⟩ := hcut
        have hq0 : K / 8 < M := by omega
        obtain ⟨g2, off, rfl, hg2, hcl⟩ := hr.cells (by omega)
        obtain ⟨y0, y1⟩ := hcl (K / 8) (by omega)
        have hbt := last_lt L
        have hgt := roomB_get L (K / 8) (by rw [HLN.out]; omega)
        rw [HLN.out] at hbt
        rw [natsV_at hgt] at y0
        have hps := pack_step L (x / 2 ^ k % 2 == 1)
        rw [HLN.out] at hps
        have HPS := Lib.hid hps
        clear hps hgt hcl
        generalize hbb : byteAt L (K / 8) = bt at hbt y0 HPS
        generalize hqq : K / 8 = q at y0 y1 hq0 HPS
        generalize hrr : K % 8 = r at hbt HPS
        have hrb : r < 8 := by omega
        have i1 : (K : Int) / 8 = (q : Int) := by omega
        have i2 : (K : Int) % 8 = (r : Int) := by omega
        have z0 : wc.cell? ⟨g, 0, none⟩ = some (.slice (some ⟨g2, off, none⟩) M c2) := hb.cell 0
        have z1 : wc.cell? ⟨g, 1, none⟩ = some (.int .i64 (K : Nat)) := hb.cell 1
        have f1 : wc.frozen? ⟨g, 1, none⟩ = false := hb.frozen 1
        have lg := hb.lt
        have gne : g2 ≠ g := hr.ne_blk hb (by decide) g2 rfl
        have j1 : (0 : Int) ≤ (q : Int) := by omega
        have j2 : (q : Int) < (M : Int) := by omega
        have HQQ := Lib.hid hqq
        have HRR := Lib.hid hrr
        have HM := Lib.hid hM
        have HB2 := Lib.hid hb
        have HR2 := Lib.hid hr
        have HA2 := Lib.hid hA2
        have HC2 := Lib.hid hc
        have HBB := Lib.hid hbb
        clear hqq hrr hM hb hr hA2 hc hbb
        have w1 : IntKind.i64.wrap (q : Int) = (q : Int) := IntWalk.i64_in _ (by omega)
        have w2 : IntKind.i64.wrap (r : Int) = (r : Int) := IntWalk.i64_in _ (by omega)
        go_wp2
        go_still_tail 26, (by kernel_rfl)
        change wpList _ _ _ _ _ wc.drew
        go_wp2_with fail
        have hval := put_byte x k K bt r hx (by omega) hrb hbt HRR.out
        have hps := HPS.out
        have hqq := HQQ.out
        have hne := fun q hq => HR2.out.ne_blk HB2.out (by decide) q hq
        have e0 : Blk ((wc.setCell ⟨g2, off + q, none⟩ (.int .u8 (bits .or .u8 (bt : Int) (bits .and .u64 ((x : Int) / 2 ^ min k 64) 1 % 256 * 2 ^ min (K % 8) 8 % 256)))).setCell ⟨g, 1, none⟩ (.int .i64 ((K : Int) + 1))) g 240 #[.slice (some ⟨g2, off, none⟩) M c2, .int .i64 ((K : Int) + 1)] := (HB2.out.far (Ne.symm gne) _).set_ 1 _
        have e1 : Row ((wc.setCell ⟨g2, off + q, none⟩ (.int .u8 (bits .or .u8 (bt : Int) (bits .and .u64 ((x : Int) / 2 ^ min k 64) 1 % 256 * 2 ^ min (K % 8) 8 % 256)))).setCell ⟨g, 1, none⟩ (.int .i64 ((K : Int) + 1))) 5 1 (some ⟨g2, off, none⟩) M c2 ((natsV (roomB L)).set q (.int .u8 (bits .or .u8 (bt : Int) (bits .and .u64 ((x : Int) / 2 ^ min k 64) 1 % 256 * 2 ^ min (K % 8) 8 % 256)))) := (HR2.out.set rfl q _).keep (fun q' hq' => Below.heap_setCell _ _ _ q' (by cases hq'; exact gne))
        have e2 : Chg (fun q => q = g ∨ blkOf A = some q) w ((wc.setCell ⟨g2, off + q, none⟩ (.int .u8 (bits .or .u8 (bt : Int) (bits .and .u64 ((x : Int) / 2 ^ min k 64) 1 % 256 * 2 ^ min (K % 8) 8 % 256)))).setCell ⟨g, 1, none⟩ (.int .i64 ((K : Int) + 1))) := (HC2.out.setCell ((HA2.out g2 rfl).elim (fun h => .inl (.inr h)) .inr) _).setCell (.inl (.inl rfl)) _
        refine ⟨⟨k + 1, some ⟨g2, off, none⟩, by omega, by go_num, ⟨⟨c2, ?_, ?_⟩⟩, HA2.out, ⟨e2.os, e2.tape, e2.output, e2.size, e2.block⟩⟩, by simp [intOf]; omega⟩
        · rw [HSTEP.out]
          have h1 : (packB (L ++ [x / 2 ^ k % 2 == 1])).length = M := by rw [packB_length]; simp only [List.length_append, List.length_singleton]; have := HLN.out; have := HM.out; omega
          have h2 : (((L ++ [x / 2 ^ k % 2 == 1]).length : Nat) : Int) = (K : Int) + 1 := by simp only [List.length_append, List.length_singleton]; have := HLN.out; omega
          rw [h1, h2]
          exact e0
        · rw [HSTEP.out]
          have h1 : (packB (L ++ [x / 2 ^ k % 2 == 1])).length = M := by rw [packB_length]; simp only [List.length_append, List.length_singleton]; have := HLN.out; have := HM.out; omega
          rw [h1, ← hps]
          rw [show natsV ((roomB L).set q (bt + (x / 2 ^ k % 2 == 1).toNat * 2 ^ r)) = (natsV (roomB L)).set q (.int .u8 (bits .or .u8 (bt : Int) (bits .and .u64 ((x : Int) / 2 ^ min k 64) 1 % 256 * 2 ^ min (K % 8) 8 % 256))) by unfold natsV; rw [List.map_set, hval]]
          exact e1
    · have hkn : k = n := by omega
      subst hkn
      go_wp2
      first | go_end0 | refine bodyPost_ret (results_none rfl _ _ _) rfl ?_
      exact ⟨rfl, A', hw, hA', hc⟩
set_option maxRecDepth 100000 in
set_option maxHeartbeats 4000000 in
theorem cloneY (l : List Nat) (w : World) (A : Option Addr) (n c : Nat) (h : Reads w w.heap.size 1 A n (natsV l)) (hn : n ≤ 100000) :
    Calls Tryz.prog 140 #[.slice A n c] w fun e w' => ∃ A' c', e = .returned (.slice A' n c') ∧ Fresh w w' 5 1 A' n c' (natsV l) := by
  have keq := fun w => Lib.run_eql_slice_nil (P := Tryz.prog) w 100 5 A n c 0 0 Tryz.underlying100
  rcases A with _ | ad
  · have hn0 : n = 0 := by
      rcases Nat.eq_zero_or_pos n with h0 | h0
      · exact h0
      · obtain ⟨ad, h1, _⟩ := h.2 h0
        cases h1
    subst hn0
    have hx : natsV l = [] := List.eq_nil_of_length_eq_zero (by simpa using h.1)
    have HX := Lib.hid hx
    clear h hx
    go_enter Tryz.func140, Tryz.ntmps140
    go_wp2
    go_ret
    exact ⟨none, 0, rfl, by rw [HX.out]; exact Row.nil_, (fun g hg => nomatch hg), (by repeat (first | with_reducible exact Below.refl _ _ | with_reducible assumption | with_reducible refine Below.drew ?_ | with_reducible refine below_drews ?_ _ | with_reducible refine Below.alloc ?_ (by first | omega | (simp; done) | (simp; omega)) _ | with_reducible refine Below.setCell ?_ (by first | omega | (simp; done) | (simp; omega)) _))⟩
  · have ho : (w.alloc (.cells #[] 5)).ownsRow w.heap.size 5 1 (.slice (some ⟨w.heap.size, 0, none⟩) 0 0) 0 [] := World.ownsRow_lit (e := 5) (size := 1) w #[] 0 (Nat.le_refl _) (by unfold maxLen; omega) rfl
    have hr := h.alloc (Nat.le_refl _) (.cells #[] 5)
    go_enter Tryz.func140, Tryz.ntmps140
    go_wp2_with (at_builtin; refine wpList_app _ rfl _ _ 100 rfl eltY _ _ _ _ rfl ho w.heap.size (some ad) n c (natsV l) rfl hr (natsV_one l) (by omega) (by simp) ?_; intro v' w2 ho2 hg hb')
    have hbel := below_own ((Below.refl _ _).alloc (Nat.le_refl _) (.cells #[] 5)) ho hg (by simp) (Nat.le_refl _)
    go_ret
    obtain ⟨A', c', rfl, hr', hb⟩ := Row.of_own ho2
    exact ⟨A', c', by simp, by simpa using hr', hb, hbel⟩

theorem Row.readsX {w : World} {e : TypeId} {n c : Nat} {A : Option Addr} {xs : List Value} (h : Row w e 1 A n c xs) : Reads w w.heap.size 1 A n xs := h.reads (by decide)
set_option maxRecDepth 100000 in
set_option maxHeartbeats 4000000 in
theorem bitsBytes (l : List Bool) (A : Option Addr) (g : Nat) (w : World) (h : WrAt w g A l) (hl : l.length ≤ 100000) :
    Calls Tryz.prog 127 #[.pointer (some ⟨g, 0, none⟩)] w fun e w' => ∃ A' c', e = .returned (.slice A' (packB l).length c') ∧ Fresh w w' 5 1 A' (packB l).length c' (natsV (packB l)) := by
  obtain ⟨c, hb, hr⟩ := h.n
  have z0 : w.cell? ⟨g, 0, none⟩ = some (.slice A (packB l).length c) := hb.cell 0
  have hC := cloneY (packB l) w A (packB l).length c (hr.reads (by decide)) (by rw [packB_length]; omega)
  clear h hb hr
  go_enter Tryz.func127, Tryz.ntmps127
  go_wp2_with fail
  refine hC.mono ?_
  rintro e w1 ⟨A', c', rfl, hf⟩
  go_wp2
  go_ret
  exact ⟨A', c', rfl, hf⟩
end Go.Proofs.YtojbijapdkohlaaGreatDoor
set_option linter.unusedSimpArgs false
set_option linter.unusedVariables false
namespace Go.Proofs.YtojbijapdkohlaaGreatDoor
open Go.RowKit
/-- What puts make of a writer. -/
structure Puts (w w' : World) (g : Nat) (A : Option Addr) (l : List Bool) : Prop where
  at_ : ∃ A', WrAt w' g A' l ∧ (∀ q, blkOf A' = some q → blkOf A = some q ∨ w.heap.size ≤ q)
  chg : Chg (fun q => q = g ∨ blkOf A = some q) w w'
/-- Blocks that are neither bytes nor a writer are as they were. -/
def Others (w w' : World) : Prop := ∀ (b : Nat) (t : TypeId) (cs : Array Value), t ≠ 5 → t ≠ 240 → Blk w b t cs → Blk w' b t cs
theorem Others.trans {a b c : World} (h : Others a b) (k : Others b c) : Others a c := fun q t cs h1 h2 h3 => k q t cs h1 h2 (h q t cs h1 h2 h3)
theorem bitsPutI (l : List Bool) (A : Option Addr) (g x n : Nat) (X N : Int) (w0 w : World) (h : Puts w0 w g A l) (hX : X = (x : Nat)) (hN : N = (n : Nat)) (hx : x < 18446744073709551616) (hn : n ≤ 64) (hl : l.length ≤ 100000) :
    Calls Tryz.prog 185 #[.pointer (some ⟨g, 0, none⟩), .int .u64 X, .int .i64 N] w fun e w' => e = .returned (.tuple #[]) ∧ Puts w0 w' g A (l ++ bitsN x n) ∧ w.heap.size ≤ w'.heap.size ∧ Others w w' := by
  subst hX hN
  obtain ⟨⟨A1, h1, h2⟩, hc⟩ := h
  refine (bitsPut l A1 g x n w h1 hx hn hl).mono ?_
  rintro e w' ⟨he, A2, h3, h4, h5⟩
  have hoth : Others w w' := by
    intro b t cs t1 t2 hb
    refine Blk.turn hb h5 ?_
    rintro (h | h)
    · subst h
      obtain ⟨c, hb1, -⟩ := h1.n
      exact Blk.ne_ (t := t) hb hb1 t2 rfl
    · obtain ⟨c, -, hr1⟩ := h1.n
      exact hr1.ne_blk hb (Ne.symm t1) b h rfl
  refine ⟨he, ⟨⟨A2, h3, fun q hq => ?_⟩, hc.trans h5 fun q hq => ?_⟩, h5.size, hoth⟩
  · rcases h4 q hq with h | h
    · exact h2 q h
    · exact .inr (Nat.le_trans hc.size h)
  · rcases hq with rfl | hq
    · exact .inl (.inl rfl)
    · rcases h2 q hq with h | h
      · exact .inl (.inr h)
      · exact .inr h
theorem Puts.start {w : World} {g : Nat} {A : Option Addr} {l : List Bool} (h : WrAt w g A l) : Puts w w g A l := ⟨⟨A, h, fun q hq => .inl hq⟩, Chg.refl⟩
theorem Puts.alloc {w0 w : World} {g : Nat} {A : Option Addr} {l : List Bool} (h : Puts w0 w g A l) (o : Obj) : Puts w0 (w.alloc o) g A l := by
  obtain ⟨⟨A1, ⟨⟨c, h1, h2⟩⟩, h3⟩, hc⟩ := h
  exact ⟨⟨A1, ⟨⟨c, h1.alloc o, h2.keep (fun q hq => Below.heap_alloc w o q (h2.lt hq))⟩⟩, h3⟩, hc.alloc o⟩
theorem Puts.cell {w0 w : World} {g : Nat} {A : Option Addr} {l : List Bool} (h : Puts w0 w g A l) {b o : Nat} (hb : b < w0.heap.size) (hg : b ≠ g) (hA : ∀ q, blkOf A = some q → b ≠ q) : w.cell? ⟨b, o, none⟩ = w0.cell? ⟨b, o, none⟩ := by
  unfold World.cell?
  rw [h.chg.block b hb (fun hh => hh.elim hg (fun h => hA b h rfl))]
structure HdrV where
  num : Nat
  any : Bool
  ack : Nat
  mask : Nat
structure HdrV.Ok (h : HdrV) : Prop where
  num : h.num ≤ 65535
  ack : h.ack ≤ 65535
  mask : h.mask ≤ 4294967295
def hdrBits (h : HdrV) : List Bool := bitsN h.num 16 ++ bitsN h.any.toNat 1 ++ bitsN h.ack 16 ++ bitsN h.mask 32
theorem hdrBits_length (h : HdrV) : (hdrBits h).length = 65 := by simp [hdrBits, bitsN_length]
set_option maxRecDepth 100000 in
set_option maxHeartbeats 4000000 in
theorem chanPut (h : HdrV) (hk : h.Ok) (l : List Bool) (A : Option Addr) (g : Nat) (w0 w : World) (hp : Puts w0 w g A l) (hl : l.length ≤ 90000) (hA : ∀ q, blkOf A = some q → q < w0.heap.size) (hg : g < w0.heap.size) :
    Calls Tryz.prog 123 #[.pointer (some ⟨g, 0, none⟩), .agg #[.int .u16 (h.num : Nat), .bool h.any, .int .u16 (h.ack : Nat), .int .u32 (h.mask : Nat)]] w fun e w' => e = .returned (.tuple #[]) ∧ Puts w0 w' g A (l ++ hdrBits h) ∧ w.heap.size ≤ w'.heap.size ∧ Others w w' := by
  obtain ⟨num, any, ack, mask⟩ := h
  obtain ⟨k1, k2, k3⟩ := hk
  simp only at k1 k2 k3
  have hw := hp.chg.size
  have b1 : (num : Int) ≤ 65535 := by omega
  have b2 : (ack : Int) ≤ 65535 := by omega
  have b3 : (mask : Int) ≤ 4294967295 := by omega
  have HP := Lib.hid hp
  clear hp hA
  have hbx : Blk (w.alloc (.cells #[.int .u16 (num : Nat), .bool any, .int .u16 (ack : Nat), .int .u32 (mask : Nat)] 215)) w.heap.size 215 #[.int .u16 (num : Nat), .bool any, .int .u16 (ack : Nat), .int .u32 (mask : Nat)] := Blk.new _ _ _
  have ho0 : Others w (w.alloc (.cells #[.int .u16 (num : Nat), .bool any, .int .u16 (ack : Nat), .int .u32 (mask : Nat)] 215)) := fun b t cs _ _ hb => hb.alloc _
  have HBX := Lib.hid hbx
  have HO0 := Lib.hid ho0
  clear hbx ho0
  cases any
  all_goals
    go_enter Tryz.func123, Tryz.ntmps123
    go_wp2_with fail
    refine (bitsPutI l A g num 16 _ _ w0 _ (HP.out.alloc _) rfl rfl (by omega) (by omega) (by omega)).mono ?_
    rintro e w1 ⟨rfl, p1, s1, o1⟩
    have x1 := o1 _ _ _ (by decide) (by decide) HBX.out
    have c11 := x1.cell 1
    have c12 := x1.cell 2
    have c13 := x1.cell 3
    have P1 := Lib.hid p1
    have O1 := Lib.hid (HO0.out.trans o1)
    have X1 := Lib.hid x1
    simp only [List.getElem?_toArray, List.getElem?_cons_zero, List.getElem?_cons_succ] at c11 c12 c13
    simp at s1
    clear p1 o1 x1
    go_wp2_with fail
    first
      | (refine (bitsPutI (l ++ bitsN num 16) A g 0 1 _ _ w0 _ P1.out (by rfl) (by rfl) (by omega) (by omega) (by simp [bitsN_length]; omega)).mono ?_)
      | (refine (bitsPutI (l ++ bitsN num 16) A g 1 1 _ _ w0 _ P1.out (by rfl) (by rfl) (by omega) (by omega) (by simp [bitsN_length]; omega)).mono ?_)
    rintro e w2 ⟨rfl, p2, s2, o2⟩
    have x2 := o2 _ _ _ (by decide) (by decide) X1.out
    have c21 := x2.cell 1
    have c22 := x2.cell 2
    have c23 := x2.cell 3
    have P2 := Lib.hid p2
    have O2 := Lib.hid (O1.out.trans o2)
    have X2 := Lib.hid x2
    simp only [List.getElem?_toArray, List.getElem?_cons_zero, List.getElem?_cons_succ] at c21 c22 c23
    clear p2 o2 x2 c11 c12 c13
    go_wp2_with fail
    refine (bitsPutI _ A g ack 16 _ _ w0 _ P2.out (by rfl) (by rfl) (by omega) (by omega) (by simp [bitsN_length]; omega)).mono ?_
    rintro e w3 ⟨rfl, p3, s3, o3⟩
    have x3 := o3 _ _ _ (by decide) (by decide) X2.out
    have c31 := x3.cell 1
    have c32 := x3.cell 2
    have c33 := x3.cell 3
    have P3 := Lib.hid p3
    have O3 := Lib.hid (O2.out.trans o3)
    have X3 := Lib.hid x3
    simp only [List.getElem?_toArray, List.getElem?_cons_zero, List.getElem?_cons_succ] at c31 c32 c33
    clear p3 o3 x3 c21 c22 c23
    go_wp2_with fail
    refine (bitsPutI _ A g mask 32 _ _ w0 _ P3.out (by rfl) (by rfl) (by omega) (by omega) (by simp [bitsN_length]; omega)).mono ?_
    rintro e w4 ⟨rfl, p4, s4, o4⟩
    have O4 := Lib.hid (O3.out.trans o4)
    have P4 := Lib.hid p4
    clear p4 o4
    go_wp2_with fail
    first | go_end0 | refine bodyPost_ret (results_none rfl _ _ _) rfl ?_
    have p4 := P4.out
    simp only [List.append_assoc] at p4
    refine ⟨rfl, ?_, by omega, O4.out⟩
    simp only [hdrBits, Bool.toNat_false, Bool.toNat_true, List.append_assoc]
    exact p4
end Go.Proofs.YtojbijapdkohlaaGreatDoor
