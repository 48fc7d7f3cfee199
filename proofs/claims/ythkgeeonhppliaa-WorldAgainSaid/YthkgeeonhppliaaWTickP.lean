/- The plain law of a tick: what becomes of each entity. -/
import Derived.Test.YthkgeeonhppliaaWTick
set_option linter.unusedSimpArgs false
set_option linter.unusedVariables false
namespace Go.Proofs.Ythkgeeonhppliaa
open Go.RowKit
/-- What hits make of one. -/
def Hurt (a b : EntV) : Prop :=
  b.id = a.id ∧ b.kind = a.kind ∧ b.at_ = a.at_ ∧ (b = a ∨ 0 < a.health ∧ b.health < a.health ∧ (0 < b.health ∧ b.wait = a.wait ∧ b.vel = a.vel ∨ b.health = 0 ∧ b.wait = 20 ∧ b.vel = ⟨0, 0⟩))
theorem Hurt.refl (a : EntV) : Hurt a a := ⟨rfl, rfl, rfl, .inl rfl⟩
theorem Hurt.hit {a b : EntV} (h : Hurt a b) (hb : 0 < b.health) : Hurt a (hitE b 5) := by
  obtain ⟨h1, h2, h3, h4⟩ := h
  have hba : b.health ≤ a.health ∧ b.wait = a.wait ∧ b.vel = a.vel := by
    rcases h4 with rfl | ⟨q1, q2, ⟨q3, q4, q5⟩ | ⟨q3, q4⟩⟩
    · exact ⟨Int.le_refl _, rfl, rfl⟩
    · exact ⟨by omega, q4, q5⟩
    · omega
  obtain ⟨p1, p2, p3⟩ := hba
  unfold hitE
  split
  · exact ⟨h1, h2, h3, .inr ⟨by omega, by show b.health - 5 < _; omega, .inl ⟨by show 0 < b.health - 5; omega, p2, p3⟩⟩⟩
  · exact ⟨h1, h2, h3, .inr ⟨by omega, by show (0 : Int) < _; omega, .inr ⟨rfl, rfl, rfl⟩⟩⟩
theorem hitAt_at (i j : Nat) (l : List EntV) (a p : EntV) (h : l[i]? = some p) (hp : Hurt a p) : ∃ q, (hitAt i j l)[i]? = some q ∧ Hurt a q := by
  have hi : i < l.length := (List.getElem?_eq_some_iff.1 h).1
  unfold hitAt
  rw [h]
  split
  · rename_i p' b hp' hb
    injection hp' with hp'
    subst hp'
    split
    · rename_i hbump
      unfold bumps at hbump
      simp only [Bool.and_eq_true, decide_eq_true_eq] at hbump
      exact ⟨_, List.getElem?_set_self hi, hp.hit hbump.1.2⟩
    · exact ⟨p, h, hp⟩
  · exact ⟨p, h, hp⟩
theorem hitAt_far (i j k : Nat) (l : List EntV) (h : k ≠ i) : (hitAt i j l)[k]? = l[k]? := by
  unfold hitAt
  split
  · split
    · rw [List.getElem?_set_ne (Ne.symm h)]
    · rfl
  · rfl
theorem hitJ_at (i j : Nat) (l : List EntV) (a : EntV) (h : l[i]? = some a) : ∃ q, (hitJ i j l)[i]? = some q ∧ Hurt a q := by
  induction j with
  | zero => exact ⟨a, h, Hurt.refl a⟩
  | succ j ih =>
    obtain ⟨p, h1, h2⟩ := ih
    exact hitAt_at i j _ a p h1 h2
theorem hitJ_far (i j k : Nat) (l : List EntV) (h : k ≠ i) : (hitJ i j l)[k]? = l[k]? := by
  induction j with
  | zero => rfl
  | succ j ih => exact (hitAt_far i j k _ h).trans ih
theorem hitI_at (n i k : Nat) (l : List EntV) (a : EntV) (h : l[k]? = some a) : ∃ q, (hitI n i l)[k]? = some q ∧ (q = a ∨ a.kind = 1 ∧ Hurt a q) ∧ (i ≤ k → q = a) := by
  induction i with
  | zero => exact ⟨a, h, .inl rfl, fun _ => rfl⟩
  | succ i ih =>
    obtain ⟨q, h1, h2, h3⟩ := ih
    unfold hitI
    split
    · exact ⟨q, h1, h2, fun hh => h3 (by omega)⟩
    · rename_i p hp
      split
      · rename_i hk
        by_cases hki : k = i
        · subst hki
          have hqa := h3 (Nat.le_refl _)
          subst hqa
          rw [h1] at hp
          injection hp with hp
          subst hp
          obtain ⟨r, r1, r2⟩ := hitJ_at k n _ q h1
          exact ⟨r, r1, .inr ⟨hk, r2⟩, fun hh => by omega⟩
        · exact ⟨q, (hitJ_far i n k _ hki).trans h1, h2, fun hh => h3 (by omega)⟩
      · exact ⟨q, h1, h2, fun hh => h3 (by omega)⟩
theorem rollN_get (m : MapV) (k j : Nat) (l : List EntV) (a : EntV) (h : l[j]? = some a) : (rollN m k l)[j]? = some (if j < k then rollF m a else a) := by
  induction k with
  | zero => rw [if_neg (by omega)]; exact h
  | succ k ih =>
    unfold rollN
    split
    · rename_i hn
      have : k ≠ j := fun e => by subst e; rw [ih] at hn; cases hn
      rw [ih]
      by_cases h1 : j < k
      · rw [if_pos h1, if_pos (by omega)]
      · rw [if_neg h1, if_neg (by omega)]
    · rename_i e he
      by_cases hjk : k = j
      · subst hjk
        rw [ih, if_neg (by omega)] at he
        injection he with he
        subst he
        rw [List.getElem?_set_self (by rw [rollN_len]; exact (List.getElem?_eq_some_iff.1 h).1), if_pos (by omega)]
      · rw [List.getElem?_set_ne hjk, ih]
        by_cases h1 : j < k
        · rw [if_pos h1, if_pos (by omega)]
        · rw [if_neg h1, if_neg (by omega)]
theorem waitN_get (m : MapV) (k j : Nat) (x : Int × List EntV) (a : EntV) (h : x.2[j]? = some a) : ∃ st, (waitN m k x).2[j]? = some (if j < k then (waitE m st a).2 else a) := by
  induction k with
  | zero => exact ⟨0, by rw [if_neg (by omega)]; exact h⟩
  | succ k ih =>
    obtain ⟨st, ih⟩ := ih
    unfold waitN
    split
    · rename_i hn
      refine ⟨st, ?_⟩
      have : k ≠ j := fun e => by subst e; rw [ih] at hn; cases hn
      rw [ih]
      by_cases h1 : j < k
      · rw [if_pos h1, if_pos (by omega)]
      · rw [if_neg h1, if_neg (by omega)]
    · rename_i e he
      by_cases hjk : k = j
      · subst hjk
        rw [ih, if_neg (by omega)] at he
        injection he with he
        subst he
        exact ⟨_, by rw [List.getElem?_set_self (by rw [waitN_len]; exact (List.getElem?_eq_some_iff.1 h).1), if_pos (by omega)]⟩
      · refine ⟨st, ?_⟩
        rw [List.getElem?_set_ne hjk, ih]
        by_cases h1 : j < k
        · rw [if_pos h1, if_pos (by omega)]
        · rw [if_neg h1, if_neg (by omega)]
theorem tickF_len (v : WorldV) : (tickF v).l.length = v.l.length := by
  show (waitF v.map v.st _).2.length = _
  unfold waitF
  rw [waitN_len]
  show (hitI _ _ _).length = _
  rw [hitI_len, rollN_len]
/-- What becomes of one in a tick. -/
theorem tickF_get (v : WorldV) (k : Nat) (a : EntV) (h : v.l[k]? = some a) : ∃ (q : EntV) (st : Int), (tickF v).l[k]? = some (waitE v.map st q).2 ∧ (q = rollF v.map a ∨ a.kind = 1 ∧ Hurt a q) := by
  have hk : k < v.l.length := (List.getElem?_eq_some_iff.1 h).1
  have h1 := rollN_get v.map v.l.length k v.l a h
  rw [if_pos hk] at h1
  obtain ⟨q, h2, h3, -⟩ := hitI_at v.l.length v.l.length k _ _ h1
  obtain ⟨st, h4⟩ := waitN_get v.map v.l.length k (v.st, hitI v.l.length v.l.length (rollN v.map v.l.length v.l)) q h2
  rw [if_pos hk] at h4
  have hw : (tickF v).l = (waitN v.map v.l.length (v.st, hitI v.l.length v.l.length (rollN v.map v.l.length v.l))).2 := by
    show (waitF v.map v.st _).2 = _
    unfold waitF
    rw [hitI_len, rollN_len]
  refine ⟨q, st, by rw [hw]; exact h4, ?_⟩
  rcases h3 with rfl | ⟨h5, h6⟩
  · exact .inl rfl
  · have hkind : (rollF v.map a).kind = a.kind := by unfold rollF; split <;> rfl
    rw [hkind] at h5
    have hsame : rollF v.map a = a := by unfold rollF; rw [if_pos (.inr (by omega))]
    rw [hsame] at h6
    exact .inr ⟨h5, h6⟩
/-- The law WorldTicks, of one entity. -/
theorem tick_one (v : WorldV) (k : Nat) (a b : EntV) (hok : okE a) (h : v.l[k]? = some a) (hb : (tickF v).l[k]? = some b) :
    a.id = b.id ∧ a.kind = b.kind ∧ (a.health < b.health → a.health = 0 ∧ a.wait = 1 ∧ b.health = 100) ∧ (a.kind = 1 → 0 < a.health → 0 < b.health → b.at_ = a.at_) := by
  obtain ⟨q, st, h1, h2⟩ := tickF_get v k a h
  rw [hb] at h1
  injection h1 with h1
  obtain ⟨o1, o2, o3, o4⟩ := hok
  have hroll : (rollF v.map a).id = a.id ∧ (rollF v.map a).kind = a.kind ∧ (rollF v.map a).health = a.health ∧ (rollF v.map a).wait = a.wait ∧ (a.kind = 1 → (rollF v.map a).at_ = a.at_) := by
    unfold rollF
    split
    · exact ⟨rfl, rfl, rfl, rfl, fun _ => rfl⟩
    · rename_i hn
      refine ⟨rfl, rfl, rfl, rfl, fun h => absurd (.inr (by omega)) hn⟩
  have hq : q.id = a.id ∧ q.kind = a.kind ∧ q.health ≤ a.health ∧ (a.kind = 1 → q.at_ = a.at_) ∧ (q.health = a.health ∧ q.wait = a.wait ∨ 0 < a.health ∧ (0 < q.health ∨ q.health = 0 ∧ q.wait = 20)) := by
    rcases h2 with rfl | ⟨_, g1, g2, g3, g4⟩
    · exact ⟨hroll.1, hroll.2.1, by rw [hroll.2.2.1]; exact Int.le_refl _, hroll.2.2.2.2, .inl ⟨hroll.2.2.1, hroll.2.2.2.1⟩⟩
    · rcases g4 with rfl | ⟨p1, p2, ⟨p3, -⟩ | ⟨p3, p4, -⟩⟩
      · exact ⟨g1, g2, Int.le_refl _, fun _ => rfl, .inl ⟨rfl, rfl⟩⟩
      · exact ⟨g1, g2, by omega, fun _ => g3, .inr ⟨p1, .inl p3⟩⟩
      · exact ⟨g1, g2, by omega, fun _ => g3, .inr ⟨p1, .inr ⟨p3, p4⟩⟩⟩
  obtain ⟨q1, q2, q3, q4, q5⟩ := hq
  unfold waitE at h1
  split at h1
  · subst h1
    refine ⟨q1.symm, q2.symm, fun hh => by (try simp only at hh); omega, fun hk _ _ => q4 hk⟩
  · rename_i hn
    have n1 : ¬ 0 < q.health := fun hh => hn (.inr (.inl hh))
    split at h1
    · rename_i hw
      subst h1
      refine ⟨q1.symm, q2.symm, fun hh => ?_, fun hk hp _ => ?_⟩
      · rcases q5 with ⟨e1, e2⟩ | ⟨p1, p2 | ⟨p2, p3⟩⟩
        · exact ⟨by omega, by omega, rfl⟩
        · omega
        · omega
      · rcases q5 with ⟨e1, e2⟩ | ⟨p1, p2 | ⟨p2, p3⟩⟩ <;> omega
    · subst h1
      refine ⟨q1.symm, q2.symm, fun hh => ?_, fun hk _ hp => ?_⟩
      · (try simp only at hh); omega
      · (try simp only at hp); omega
end Go.Proofs.Ythkgeeonhppliaa
