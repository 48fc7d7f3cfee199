/- The plain law of a tick: what becomes of each entity. The plain law of ServerSlots: who is in the world, of those that came and went. -/
import Derived.Test.YtojbijapdkohlaaGreatDoorWTick
import Derived.Test.YtojbijapdkohlaaGreatDoorWJoin
set_option linter.unusedSimpArgs false
set_option linter.unusedVariables false
namespace Go.Proofs.YtojbijapdkohlaaGreatDoor
open Go.RowKit
/-- What hits make of one. -/
def Hurt (a b : EntV) : Prop :=
  b.id = a.id ∧ b.kind = a.kind ∧ b.at_ = a.at_ ∧ (b = a ∨ 0 < a.health ∧ b.health < a.health ∧ (0 < b.health ∧ b.wait = a.wait ∧ b.vel = a.vel ∨ b.health = 0 ∧ b.wait = 20 ∧ b.vel = ⟨0, 0⟩))
theorem Hurt.refl (a : EntV) : Hurt a a := ⟨rfl, rfl, rfl, .inl rfl⟩
theorem Hurt.hit {a b : EntV} (h : Hurt a b) (hb : 0 < b.health) : Hurt a (hitE b 5) := by
  obtain ⟨h1, h2, h3, h4⟩ := h
  have hba : b.health ≤ a.health ∧ b.wait = a.wait ∧ b.vel = a.vel := by
    rcases h4 with rfl | ⟨q1, q2, ⟨q3, q4, q5⟩ | ⟨q3, q4⟩⟩
    · exact ⟨Int.le_refl _, rfl, rfl⟩
    · exact ⟨by omega, q4, q5⟩
    · omega
  obtain ⟨p1, p2, p3⟩ := hba
  unfold hitE
  split
  · exact ⟨h1, h2, h3, .inr ⟨by omega, by show b.health - 5 < _; omega, .inl ⟨by show 0 < b.health - 5; omega, p2, p3⟩⟩⟩
  · exact ⟨h1, h2, h3, .inr ⟨by omega, by show (0 : Int) < _; omega, .inr ⟨rfl, rfl, rfl⟩⟩⟩
theorem hitAt_at (i j : Nat) (l : List EntV) (a p : EntV) (h : l[i]? = some p) (hp : Hurt a p) : ∃ q, (hitAt i j l)[i]? = some q ∧ Hurt a q := by
  have hi : i < l.length := (List.getElem?_eq_some_iff.1 h).1
  unfold hitAt
  rw [h]
  split
  · rename_i p' b hp' hb
    injection hp' with hp'
    subst hp'
    split
    · rename_i hbump
      unfold bumps at hbump
      simp only [Bool.and_eq_true, decide_eq_true_eq] at hbump
      exact ⟨_, List.getElem?_set_self hi, hp.hit hbump.1.2⟩
    · exact ⟨p, h, hp⟩
  · exact ⟨p, h, hp⟩
theorem hitAt_far (i j k : Nat) (l : List EntV) (h : k ≠ i) : (hitAt i j l)[k]? = l[k]? := by
  unfold hitAt
  split
  · split
    · rw [List.getElem?_set_ne (Ne.symm h)]
    · rfl
  · rfl
theorem hitJ_at (i j : Nat) (l : List EntV) (a : EntV) (h : l[i]? = some a) : ∃ q, (hitJ i j l)[i]? = some q ∧ Hurt a q := by
  induction j with
  | zero => exact ⟨a, h, Hurt.refl a⟩
  | succ j ih =>
    obtain ⟨p, h1, h2⟩ := ih
    exact hitAt_at i j _ a p h1 h2
theorem hitJ_far (i j k : Nat) (l : List EntV) (h : k ≠ i) : (hitJ i j l)[k]? = l[k]? := by
  induction j with
  | zero => rfl
  | succ j ih => exact (hitAt_far i j k _ h).trans ih
theorem hitI_at (n i k : Nat) (l : List EntV) (a : EntV) (h : l[k]? = some a) : ∃ q, (hitI n i l)[k]? = some q ∧ (q = a ∨ a.kind = 1 ∧ Hurt a q) ∧ (i ≤ k → q = a) := by
  induction i with
  | zero => exact ⟨a, h, .inl rfl, fun _ => rfl⟩
  | succ i ih =>
    obtain ⟨q, h1, h2, h3⟩ := ih
    unfold hitI
    split
    · exact ⟨q, h1, h2, fun hh => h3 (by omega)⟩
    · rename_i p hp
      split
      · rename_i hk
        by_cases hki : k = i
        · subst hki
          have hqa := h3 (Nat.le_refl _)
          subst hqa
          rw [h1] at hp
          injection hp with hp
          subst hp
          obtain ⟨r, r1, r2⟩ := hitJ_at k n _ q h1
          exact ⟨r, r1, .inr ⟨hk, r2⟩, fun hh => by omega⟩
        · exact ⟨q, (hitJ_far i n k _ hki).trans h1, h2, fun hh => h3 (by omega)⟩
      · exact ⟨q, h1, h2, fun hh => h3 (by omega)⟩
theorem rollN_get (m : MapV) (k j : Nat) (l : List EntV) (a : EntV) (h : l[j]? = some a) : (rollN m k l)[j]? = some (if j < k then rollF m a else a) := by
  induction k with
  | zero => rw [if_neg (by omega)]; exact h
  | succ k ih =>
    unfold rollN
    split
    · rename_i hn
      have : k ≠ j := fun e => by subst e; rw [ih] at hn; cases hn
      rw [ih]
      by_cases h1 : j < k
      · rw [if_pos h1, if_pos (by omega)]
      · rw [if_neg h1, if_neg (by omega)]
    · rename_i e he
      by_cases hjk : k = j
      · subst hjk
        rw [ih, if_neg (by omega)] at he
        injection he with he
        subst he
        rw [List.getElem?_set_self (by rw [rollN_len]; exact (List.getElem?_eq_some_iff.1 h).1), if_pos (by omega)]
      · rw [List.getElem?_set_ne hjk, ih]
        by_cases h1 : j < k
        · rw [if_pos h1, if_pos (by omega)]
        · rw [if_neg h1, if_neg (by omega)]
theorem waitN_get (m : MapV) (k j : Nat) (x : Int × List EntV) (a : EntV) (h : x.2[j]? = some a) : ∃ st, (waitN m k x).2[j]? = some (if j < k then (waitE m st a).2 else a) := by
  induction k with
  | zero => exact ⟨0, by rw [if_neg (by omega)]; exact h⟩
  | succ k ih =>
    obtain ⟨st, ih⟩ := ih
    unfold waitN
    split
    · rename_i hn
      refine ⟨st, ?_⟩
      have : k ≠ j := fun e => by subst e; rw [ih] at hn; cases hn
      rw [ih]
      by_cases h1 : j < k
      · rw [if_pos h1, if_pos (by omega)]
      · rw [if_neg h1, if_neg (by omega)]
    · rename_i e he
      by_cases hjk : k = j
      · subst hjk
        rw [ih, if_neg (by omega)] at he
        injection he with he
        subst he
        exact ⟨_, by rw [List.getElem?_set_self (by rw [waitN_len]; exact (List.getElem?_eq_some_iff.1 h).1), if_pos (by omega)]⟩
      · refine ⟨st, ?_⟩
        rw [List.getElem?_set_ne hjk, ih]
        by_cases h1 : j < k
        · rw [if_pos h1, if_pos (by omega)]
        · rw [if_neg h1, if_neg (by omega)]
theorem tickF_len (v : WorldV) : (tickF v).l.length = v.l.length := by
  show (waitF v.map v.st _).2.length = _
  unfold waitF
  rw [waitN_len]
  show (hitI _ _ _).length = _
  rw [hitI_len, rollN_len]
/-- What becomes of one in a tick. -/
theorem tickF_get (v : WorldV) (k : Nat) (a : EntV) (h : v.l[k]? = some a) : ∃ (q : EntV) (st : Int), (tickF v).l[k]? = some (waitE v.map st q).2 ∧ (q = rollF v.map a ∨ a.kind = 1 ∧ Hurt a q) := by
  have hk : k < v.l.length := (List.getElem?_eq_some_iff.1 h).1
  have h1 := rollN_get v.map v.l.length k v.l a h
  rw [if_pos hk] at h1
  obtain ⟨q, h2, h3, -⟩ := hitI_at v.l.length v.l.length k _ _ h1
  obtain ⟨st, h4⟩ := waitN_get v.map v.l.length k (v.st, hitI v.l.length v.l.length (rollN v.map v.l.length v.l)) q h2
  rw [if_pos hk] at h4
  have hw : (tickF v).l = (waitN v.map v.l.length (v.st, hitI v.l.length v.l.length (rollN v.map v.l.length v.l))).2 := by
    show (waitF v.map v.st _).2 = _
    unfold waitF
    rw [hitI_len, rollN_len]
  refine ⟨q, st, by rw [hw]; exact h4, ?_⟩
  rcases h3 with rfl | ⟨h5, h6⟩
  · exact .inl rfl
  · have hkind : (rollF v.map a).kind = a.kind := by unfold rollF; split <;> rfl
    rw [hkind] at h5
    have hsame : rollF v.map a = a := by unfold rollF; rw [if_pos (.inr (by omega))]
    rw [hsame] at h6
    exact .inr ⟨h5, h6⟩
/-- The law WorldTicks, of one entity. -/
theorem tick_one (v : WorldV) (k : Nat) (a b : EntV) (hok : okE a) (h : v.l[k]? = some a) (hb : (tickF v).l[k]? = some b) :
    a.id = b.id ∧ a.kind = b.kind ∧ (a.health < b.health → a.health = 0 ∧ a.wait = 1 ∧ b.health = 100) ∧ (a.kind = 1 → 0 < a.health → 0 < b.health → b.at_ = a.at_) := by
  obtain ⟨q, st, h1, h2⟩ := tickF_get v k a h
  rw [hb] at h1
  injection h1 with h1
  obtain ⟨o1, o2, o3, o4⟩ := hok
  have hroll : (rollF v.map a).id = a.id ∧ (rollF v.map a).kind = a.kind ∧ (rollF v.map a).health = a.health ∧ (rollF v.map a).wait = a.wait ∧ (a.kind = 1 → (rollF v.map a).at_ = a.at_) := by
    unfold rollF
    split
    · exact ⟨rfl, rfl, rfl, rfl, fun _ => rfl⟩
    · rename_i hn
      refine ⟨rfl, rfl, rfl, rfl, fun h => absurd (.inr (by omega)) hn⟩
  have hq : q.id = a.id ∧ q.kind = a.kind ∧ q.health ≤ a.health ∧ (a.kind = 1 → q.at_ = a.at_) ∧ (q.health = a.health ∧ q.wait = a.wait ∨ 0 < a.health ∧ (0 < q.health ∨ q.health = 0 ∧ q.wait = 20)) := by
    rcases h2 with rfl | ⟨_, g1, g2, g3, g4⟩
    · exact ⟨hroll.1, hroll.2.1, by rw [hroll.2.2.1]; exact Int.le_refl _, hroll.2.2.2.2, .inl ⟨hroll.2.2.1, hroll.2.2.2.1⟩⟩
    · rcases g4 with rfl | ⟨p1, p2, ⟨p3, -⟩ | ⟨p3, p4, -⟩⟩
      · exact ⟨g1, g2, Int.le_refl _, fun _ => rfl, .inl ⟨rfl, rfl⟩⟩
      · exact ⟨g1, g2, by omega, fun _ => g3, .inr ⟨p1, .inl p3⟩⟩
      · exact ⟨g1, g2, by omega, fun _ => g3, .inr ⟨p1, .inr ⟨p3, p4⟩⟩⟩
  obtain ⟨q1, q2, q3, q4, q5⟩ := hq
  unfold waitE at h1
  split at h1
  · subst h1
    refine ⟨q1.symm, q2.symm, fun hh => by (try simp only at hh); omega, fun hk _ _ => q4 hk⟩
  · rename_i hn
    have n1 : ¬ 0 < q.health := fun hh => hn (.inr (.inl hh))
    split at h1
    · rename_i hw
      subst h1
      refine ⟨q1.symm, q2.symm, fun hh => ?_, fun hk hp _ => ?_⟩
      · rcases q5 with ⟨e1, e2⟩ | ⟨p1, p2 | ⟨p2, p3⟩⟩
        · exact ⟨by omega, by omega, rfl⟩
        · omega
        · omega
      · rcases q5 with ⟨e1, e2⟩ | ⟨p1, p2 | ⟨p2, p3⟩⟩ <;> omega
    · subst h1
      refine ⟨q1.symm, q2.symm, fun hh => ?_, fun hk _ hp => ?_⟩
      · (try simp only at hh); omega
      · (try simp only at hp); omega
end Go.Proofs.YtojbijapdkohlaaGreatDoor
set_option linter.unusedSimpArgs false
set_option linter.unusedVariables false
namespace Go.Proofs.YtojbijapdkohlaaGreatDoor
open Go.RowKit
def keyL (l : List EntV) : List (Int × Int) := l.map fun e => (e.id, e.kind)
def cntQ (q : List (Int × Int)) : Nat := (q.filter fun p => p.2 == 1).length
def oneT (b : Bool) : Nat := if b = true then 1 else 0
def tcnt (T : Nat → Bool) : Nat := oneT (T 1) + oneT (T 2) + oneT (T 3) + oneT (T 4) + oneT (T 5) + oneT (T 6) + oneT (T 7) + oneT (T 8)
def setT (T : Nat → Bool) (k : Nat) (v : Bool) : Nat → Bool := fun j => if j = k then v else T j
structure OkQ (T : Nat → Bool) (q : List (Int × Int)) : Prop where
  nd : (q.map (·.1)).Nodup
  of_ : ∀ p ∈ q, (p.2 = 1 ∧ ∃ k : Nat, 1 ≤ k ∧ k ≤ 8 ∧ p.1 = (k : Int) ∧ T k = true) ∨ (p.2 = 2 ∧ p.1 = 9)
  has : ∀ k : Nat, 1 ≤ k → k ≤ 8 → T k = true → ((k : Int), (1 : Int)) ∈ q
  cnt : cntQ q = tcnt T
theorem eight {k : Nat} (h1 : 1 ≤ k) (h8 : k ≤ 8) : k = 1 ∨ k = 2 ∨ k = 3 ∨ k = 4 ∨ k = 5 ∨ k = 6 ∨ k = 7 ∨ k = 8 := by omega
theorem tcnt_on (T : Nat → Bool) (k : Nat) (h1 : 1 ≤ k) (h8 : k ≤ 8) (h : T k = false) : tcnt (setT T k true) = tcnt T + 1 := by
  rcases eight h1 h8 with rfl | rfl | rfl | rfl | rfl | rfl | rfl | rfl <;> simp [tcnt, setT, h, oneT] <;> omega
theorem tcnt_off (T : Nat → Bool) (k : Nat) (h1 : 1 ≤ k) (h8 : k ≤ 8) (h : T k = true) : tcnt (setT T k false) + 1 = tcnt T := by
  rcases eight h1 h8 with rfl | rfl | rfl | rfl | rfl | rfl | rfl | rfl <;> simp [tcnt, setT, h, oneT] <;> omega
theorem OkQ.perm {T : Nat → Bool} {q r : List (Int × Int)} (h : OkQ T q) (p : q.Perm r) : OkQ T r :=
  ⟨((p.map (·.1)).nodup_iff).1 h.nd, fun x hx => h.of_ x (p.mem_iff.2 hx), fun k h1 h8 hk => p.mem_iff.1 (h.has k h1 h8 hk), by
    rw [← h.cnt]
    exact ((p.filter _).length_eq).symm⟩
theorem OkQ.on {T : Nat → Bool} {q : List (Int × Int)} (h : OkQ T q) (k : Nat) (h1 : 1 ≤ k) (h8 : k ≤ 8) (hk : T k = false) : OkQ (setT T k true) (((k : Int), (1 : Int)) :: q) := by
  refine ⟨?_, ?_, ?_, ?_⟩
  · rw [List.map_cons, List.nodup_cons]
    refine ⟨fun hm => ?_, h.nd⟩
    obtain ⟨p, hp, he⟩ := List.mem_map.1 hm
    rcases h.of_ p hp with ⟨-, j, j1, j8, hj, hT⟩ | ⟨-, h9⟩
    · have : j = k := by have : p.1 = (k : Int) := he; omega
      rw [this, hk] at hT
      cases hT
    · have : p.1 = (k : Int) := he
      omega
  · intro p hp
    rcases List.mem_cons.1 hp with rfl | hp
    · exact .inl ⟨rfl, k, h1, h8, rfl, by simp [setT]⟩
    · rcases h.of_ p hp with ⟨a, j, j1, j8, hj, hT⟩ | h9
      · exact .inl ⟨a, j, j1, j8, hj, by unfold setT; split <;> simp [hT]⟩
      · exact .inr h9
  · intro j j1 j8 hj
    unfold setT at hj
    split at hj
    · rename_i e
      rw [e]
      exact List.mem_cons_self
    · exact List.mem_cons_of_mem _ (h.has j j1 j8 hj)
  · rw [tcnt_on T k h1 h8 hk, ← h.cnt]
    simp [cntQ]
theorem OkQ.off {T : Nat → Bool} {q : List (Int × Int)} {k : Nat} (h : OkQ T (((k : Int), (1 : Int)) :: q)) (h1 : 1 ≤ k) (h8 : k ≤ 8) (hk : T k = true) : OkQ (setT T k false) q := by
  have hnd := h.nd
  rw [List.map_cons, List.nodup_cons] at hnd
  refine ⟨hnd.2, ?_, ?_, ?_⟩
  · intro p hp
    rcases h.of_ p (List.mem_cons_of_mem _ hp) with ⟨a, j, j1, j8, hj, hT⟩ | h9
    · refine .inl ⟨a, j, j1, j8, hj, ?_⟩
      unfold setT
      rw [if_neg (fun e => hnd.1 (List.mem_map.2 ⟨p, hp, by rw [hj, e]⟩))]
      exact hT
    · exact .inr h9
  · intro j j1 j8 hj
    unfold setT at hj
    split at hj
    · cases hj
    · rename_i hne
      rcases List.mem_cons.1 (h.has j j1 j8 hj) with e | e
      · exfalso
        have := congrArg Prod.fst e
        simp only at this
        omega
      · exact e
  · have h3 := tcnt_off T k h1 h8 hk
    have h4 := h.cnt
    simp [cntQ] at h4 ⊢
    omega
theorem keyL_join (l : List EntV) (p : Nat) (k : Nat) (v : VecV) : (((k : Int), (1 : Int)) :: keyL l).Perm (keyL (l.take p ++ newP (k : Int) v :: l.drop p)) := by
  unfold keyL
  have h : (newP (k : Int) v :: l).Perm (l.take p ++ newP (k : Int) v :: l.drop p) := by
    have := (List.perm_middle (a := newP (k : Int) v) (l₁ := l.take p) (l₂ := l.drop p)).symm
    rwa [List.take_append_drop] at this
  exact h.map fun e => (e.id, e.kind)
theorem keyL_leave (l : List EntV) (k : Nat) (e : EntV) (h : l[k]? = some e) : (keyL l).Perm ((e.id, e.kind) :: keyL (l.take k ++ l.drop (k + 1))) := by
  have hk : k < l.length := (List.getElem?_eq_some_iff.1 h).1
  have he : l[k] = e := (List.getElem?_eq_some_iff.1 h).2
  have e1 : l = l.take k ++ e :: l.drop (k + 1) := by
    rw [← he, List.getElem_cons_drop hk, List.take_append_drop]
  have h2 : l.Perm (e :: (l.take k ++ l.drop (k + 1))) := by
    have := List.perm_middle (a := e) (l₁ := l.take k) (l₂ := l.drop (k + 1))
    rwa [← e1] at this
  exact h2.map fun e => (e.id, e.kind)
theorem tick_key (v : WorldV) (hok : ∀ e ∈ v.l, okE e) : keyL (tickF v).l = keyL v.l := by
  apply List.ext_getElem?
  intro k
  unfold keyL
  rw [List.getElem?_map, List.getElem?_map]
  cases ha : v.l[k]? with
  | none =>
    have : (tickF v).l[k]? = none := by
      rw [List.getElem?_eq_none_iff] at ha ⊢
      rw [tickF_len]
      exact ha
    rw [this]
  | some a =>
    have hk : k < v.l.length := (List.getElem?_eq_some_iff.1 ha).1
    obtain ⟨b, hb⟩ : ∃ b, (tickF v).l[k]? = some b := ⟨_, List.getElem?_eq_getElem (by rw [tickF_len]; exact hk)⟩
    have h1 := tick_one v k a b (hok a (List.mem_of_getElem? ha)) ha hb
    rw [hb]
    simp [h1.1, h1.2.1]
theorem findF_no {T : Nat → Bool} {l : List EntV} (h : OkQ T (keyL l)) (k : Nat) (h8 : k ≤ 8) (hk : T k = false) : findF l (k : Int) = -1 := by
  rcases findF_spec l k with ⟨h1, -⟩ | ⟨j, e, h1, h2, h3⟩
  · exact h1
  · exfalso
    rcases h.of_ (e.id, e.kind) (List.mem_map.2 ⟨e, List.mem_of_getElem? h2, rfl⟩) with ⟨-, i, i1, i8, hi, hT⟩ | ⟨-, h9⟩
    · have : i = k := by have : e.id = (i : Int) := hi; omega
      rw [this, hk] at hT
      cases hT
    · have : e.id = 9 := h9
      omega
theorem playerF_yes {T : Nat → Bool} {l : List EntV} (h : OkQ T (keyL l)) (k : Nat) (h1 : 1 ≤ k) (h8 : k ≤ 8) (hk : T k = true) : playerF l (k : Int) ≠ -1 := by
  intro hp
  obtain ⟨e0, he0, hk0⟩ := List.mem_map.1 (h.has k h1 h8 hk)
  simp only [Prod.mk.injEq] at hk0
  unfold playerF at hp
  rcases findF_spec l k with ⟨h2, h3⟩ | ⟨j, e, h2, h3, h4⟩
  · exact h3 e0 he0 hk0.1
  · rw [if_neg (by omega), h2, Int.toNat_natCast, List.getD_eq_getElem?_getD, h3, Option.getD_some] at hp
    rcases h.of_ (e.id, e.kind) (List.mem_map.2 ⟨e, List.mem_of_getElem? h3, rfl⟩) with ⟨h5, -⟩ | ⟨-, h9⟩
    · rw [if_pos h5] at hp
      omega
    · have : e.id = 9 := h9
      omega
theorem OkQ.join {T : Nat → Bool} {l : List EntV} (h : OkQ T (keyL l)) (k : Nat) (h1 : 1 ≤ k) (h8 : k ≤ 8) (hk : T k = false) (p : Nat) (v : VecV) : OkQ (setT T k true) (keyL (l.take p ++ newP (k : Int) v :: l.drop p)) :=
  (h.on k h1 h8 hk).perm (keyL_join l p k v)
theorem OkQ.leave {T : Nat → Bool} {l : List EntV} (h : OkQ T (keyL l)) (k : Nat) (h1 : 1 ≤ k) (h8 : k ≤ 8) (hk : T k = true) : OkQ (setT T k false) (keyL (leaveL l (k : Int))) := by
  have hp := playerF_yes h k h1 h8 hk
  rcases playerF_spec l (k : Int) with h2 | ⟨j, e, h2, h3, h4, h5⟩
  · exact absurd h2 hp
  · unfold leaveL
    rw [if_neg hp, h2, Int.toNat_natCast]
    have := keyL_leave l j e h3
    rw [h4, h5] at this
    exact (h.perm this).off h1 h8 hk
theorem leave_ok {l : List EntV} {id : Int} (h : ∀ e ∈ l, okE e) : ∀ e ∈ leaveL l id, okE e := by
  intro e he
  unfold leaveL at he
  split at he
  · exact h e he
  · rcases List.mem_append.1 he with he | he
    · exact h e (List.mem_of_mem_take he)
    · exact h e (List.mem_of_mem_drop he)
theorem join_ok {l : List EntV} {p : Nat} {k : Int} {v : VecV} (h : ∀ e ∈ l, okE e) : ∀ e ∈ l.take p ++ newP k v :: l.drop p, okE e := by
  intro e he
  rcases List.mem_append.1 he with he | he
  · exact h e (List.mem_of_mem_take he)
  · rcases List.mem_cons.1 he with rfl | he
    · exact ⟨by show (0 : Int) ≤ 100; omega, by show (100 : Int) ≤ 100; omega, by show (0 : Int) ≤ 0; omega, by show (0 : Int) ≤ 20; omega⟩
    · exact h e (List.mem_of_mem_drop he)
theorem leave_len (l : List EntV) (id : Int) : (leaveL l id).length ≤ l.length := by
  unfold leaveL
  split
  · exact Nat.le_refl _
  · rw [List.length_append, List.length_take, List.length_drop]
    omega
theorem join_len (l : List EntV) (p : Nat) (e : EntV) : (l.take p ++ e :: l.drop p).length = l.length + 1 := by
  rw [List.length_append, List.length_cons, List.length_take, List.length_drop]
  omega
end Go.Proofs.YtojbijapdkohlaaGreatDoor
