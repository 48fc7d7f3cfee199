/- Formed maps, as the reference has them: the spawns are the middles of free tiles, in their order. The plain part. -/
import Derived.Test.YthkgeeonhppliaaMovePlain
set_option linter.unusedSimpArgs false
set_option linter.unusedVariables false
namespace Go.Proofs.Ythkgeeonhppliaa
def mid (W j : Nat) : VecV := middle ((j % W : Nat) : Int) ((j / W : Nat) : Int)
theorem mid_inj {W a b : Nat} (hW : 0 < W) (h : mid W a = mid W b) : a = b := by
  unfold mid middle at h
  simp only [VecV.mk.injEq] at h
  have h1 : a % W = b % W := by omega
  have h2 : a / W = b / W := by omega
  rw [← Nat.div_add_mod a W, ← Nat.div_add_mod b W, h1, h2]
theorem seek_find {W n j : Nat} (hW : 0 < W) (hj : j < n) : ∀ (f k : Nat), k ≤ j → j < k + f → seek W n (mid W j) f k = some j
  | 0, k, h1, h2 => by omega
  | f + 1, k, h1, h2 => by
    unfold seek
    by_cases hk : mid W j = middle ((k % W : Nat) : Int) ((k / W : Nat) : Int)
    · rw [if_pos hk, mid_inj hW (show mid W j = mid W k from hk)]
    · rw [if_neg hk, if_neg (by
        have : k ≠ j := fun e => hk (by rw [e]; rfl)
        omega)]
      exact seek_find hW hj f (k + 1) (by
        have : k ≠ j := fun e => hk (by rw [e]; rfl)
        omega) (by omega)
theorem seek_some {W n : Nat} (p : VecV) : ∀ (f k r : Nat), seek W n p f k = some r → p = mid W r ∧ k ≤ r
  | 0, k, r, h => by cases h
  | f + 1, k, r, h => by
    unfold seek at h
    split at h
    · rename_i hp
      rw [← Option.some.inj h]
      exact ⟨hp, Nat.le_refl _⟩
    · split at h
      · cases h
      · have := seek_some p f (k + 1) r h
        exact ⟨this.1, by omega⟩
structure Places (walls : List Bool) (pos : Nat) (js : List Nat) : Prop where
  r : js.Pairwise (· < ·)
  lo : ∀ j ∈ js, pos ≤ j
  free : ∀ j ∈ js, walls.getD j true = false
theorem free_lt {walls : List Bool} {j : Nat} (h : walls.getD j true = false) : j < walls.length := by
  rcases Nat.lt_or_ge j walls.length with h1 | h1
  · exact h1
  · rw [List.getD_eq_getElem?_getD, List.getElem?_eq_none h1] at h; cases h
theorem formedFrom_places {walls : List Bool} {W : Nat} : ∀ (ps : List VecV) (pos : Nat), formedFrom walls W ps pos = true → ∃ js, ps = js.map (mid W) ∧ Places walls pos js
  | [], pos, _ => ⟨[], rfl, .nil, by simp, by simp⟩
  | p :: ps, pos, h => by
    unfold formedFrom at h
    split at h
    · cases h
    · split at h
      · cases h
      · rename_i j hj
        simp only [Bool.and_eq_true, Bool.not_eq_true'] at h
        obtain ⟨h1, h2⟩ := seek_some _ _ _ _ hj
        obtain ⟨js, h3, h4⟩ := formedFrom_places ps (j + 1) h.2
        refine ⟨j :: js, by rw [List.map_cons, h1, h3], ?_, ?_, ?_⟩
        · exact List.pairwise_cons.2 ⟨fun a ha => by have := h4.lo a ha; omega, h4.r⟩
        · intro a ha
          rcases List.mem_cons.1 ha with rfl | ha
          · omega
          · have := h4.lo a ha; omega
        · intro a ha
          rcases List.mem_cons.1 ha with rfl | ha
          · exact h.1
          · exact h4.free a ha
theorem idxFree {walls : List Bool} {pos j : Nat} (hj : walls.getD j true = false) (hp : pos ≤ j) : 0 ≤ idxFrom (fun w => !w) (walls.drop pos) 0 ∧ pos + (idxFrom (fun w => !w) (walls.drop pos) 0).toNat ≤ j := by
  have key : ∀ (l : List Bool) (k i : Nat), l[i]? = some false → 0 ≤ idxFrom (fun w => !w) l k ∧ (idxFrom (fun w => !w) l k).toNat ≤ k + i := by
    intro l
    induction l with
    | nil => intro k i h; simp at h
    | cons x l ih =>
      intro k i h
      unfold idxFrom
      cases x with
      | false => simp
      | true =>
        rcases i with _ | i
        · simp at h
        · obtain ⟨h1, h2⟩ := ih (k + 1) i (by simpa using h)
          simp only [Bool.not_true, Bool.false_eq_true, if_false]
          exact ⟨h1, by omega⟩
  have hl := free_lt hj
  have h1 : (walls.drop pos)[j - pos]? = some false := by
    rw [List.getElem?_drop, show pos + (j - pos) = j by omega]
    rw [List.getD_eq_getElem?_getD, List.getElem?_eq_getElem hl] at hj
    rw [List.getElem?_eq_getElem hl]
    simpa using hj
  have := key _ 0 _ h1
  exact ⟨this.1, by omega⟩
theorem places_formedFrom {walls : List Bool} {W : Nat} (hW : 0 < W) : ∀ (js : List Nat) (pos : Nat), Places walls pos js → formedFrom walls W (js.map (mid W)) pos = true
  | [], pos, _ => rfl
  | j :: js, pos, h => by
    have hj := h.free j (by simp)
    have hl := free_lt hj
    obtain ⟨i1, i2⟩ := idxFree hj (h.lo j (by simp))
    rw [List.map_cons]
    unfold formedFrom
    rw [if_neg (by omega), seek_find hW hl _ _ i2 (by omega)]
    simp only [hj, Bool.not_false, Bool.true_and]
    refine places_formedFrom hW js (j + 1) ⟨(List.pairwise_cons.1 h.r).2, fun a ha => (List.pairwise_cons.1 h.r).1 a ha, fun a ha => h.free a (by simp [ha])⟩
/-- The spawns that a text tells. -/
def toldAt (walls : List Bool) (W : Nat) (ps : List VecV) (i : Nat) : Bool := !(walls.getD i true) && decide (mid W i ∈ ps)
def told (walls : List Bool) (W : Nat) (ps : List VecV) (n : Nat) : List VecV := ((List.range n).filter (toldAt walls W ps)).map (mid W)
theorem sorted_eq {js ks : List Nat} (h1 : js.Pairwise (· < ·)) (h2 : ks.Pairwise (· < ·)) (h : ∀ a, a ∈ js ↔ a ∈ ks) : js = ks := by
  induction js generalizing ks with
  | nil =>
    cases ks with
    | nil => rfl
    | cons k ks => exact absurd ((h k).2 (by simp)) (by simp)
  | cons j js ih =>
    cases ks with
    | nil => exact absurd ((h j).1 (by simp)) (by simp)
    | cons k ks =>
      obtain ⟨a1, a2⟩ := List.pairwise_cons.1 h1
      obtain ⟨b1, b2⟩ := List.pairwise_cons.1 h2
      have e : j = k := by
        rcases List.mem_cons.1 ((h j).1 (by simp)) with e | e
        · exact e
        · rcases List.mem_cons.1 ((h k).2 (by simp)) with e' | e'
          · exact e'.symm
          · have := b1 j e; have := a1 k e'; omega
      subst e
      rw [ih a2 b2 fun a => ?_]
      constructor
      · intro ha
        rcases List.mem_cons.1 ((h a).1 (by simp [ha])) with e | e
        · subst e; have := a1 a ha; omega
        · exact e
      · intro ha
        rcases List.mem_cons.1 ((h a).2 (by simp [ha])) with e | e
        · subst e; have := b1 a ha; omega
        · exact e
theorem told_iff {walls : List Bool} {W : Nat} (hW : 0 < W) (ps : List VecV) : formedFrom walls W ps 0 = true ↔ told walls W ps walls.length = ps := by
  constructor
  · intro h
    obtain ⟨js, rfl, hp⟩ := formedFrom_places ps 0 h
    unfold told
    congr 1
    refine sorted_eq ?_ hp.r fun a => ?_
    · exact List.Pairwise.sublist List.filter_sublist List.pairwise_lt_range
    · simp only [List.mem_filter, List.mem_range, toldAt, Bool.and_eq_true, Bool.not_eq_true', decide_eq_true_eq, List.mem_map]
      constructor
      · rintro ⟨_, _, b, hb, hm⟩
        rw [← mid_inj hW hm]
        exact hb
      · intro ha
        exact ⟨free_lt (hp.free a ha), hp.free a ha, a, ha, rfl⟩
  · intro h
    rw [← h]
    unfold told
    refine places_formedFrom hW _ 0 ⟨?_, fun _ _ => Nat.zero_le _, fun a ha => ?_⟩
    · exact List.Pairwise.sublist List.filter_sublist List.pairwise_lt_range
    · simp only [List.mem_filter, toldAt, Bool.and_eq_true, Bool.not_eq_true'] at ha
      exact ha.2.1
end Go.Proofs.Ythkgeeonhppliaa
