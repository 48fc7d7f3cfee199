/- The plain law of WorldFormed: all entities stay formed, stand free, and their numbers rise. -/
import Derived.Test.YthkgeeonhppliaaWAct
import Derived.Test.YthkgeeonhppliaaW13
import Derived.Test.YthkgeeonhppliaaMoveFree
set_option linter.unusedSimpArgs false
set_option linter.unusedVariables false
namespace Go.Proofs.Ythkgeeonhppliaa
structure FineE (m : MapV) (e : EntV) : Prop where
  ok : entOk e = true
  st : standsB m e.at_ = true
def Rises (l : List EntV) : Prop := (l.map EntV.id).Pairwise (· < ·)
structure FineW (v : WorldV) : Prop where
  m : formedB v.map = true
  e : ∀ e ∈ v.l, FineE v.map e
  r : Rises v.l
theorem entOk_iff (e : EntV) : entOk e = true ↔ (1 ≤ e.id ∧ e.id ≤ 16 ∧ (e.kind = 1 ∧ e.id ≤ 8 ∨ e.kind = 2 ∧ 8 < e.id)) ∧ (-134217728 ≤ e.at_.x ∧ e.at_.x ≤ 134217728 ∧ -134217728 ≤ e.at_.y ∧ e.at_.y ≤ 134217728) ∧ (-65536 ≤ e.vel.x ∧ e.vel.x ≤ 65536) ∧ (-65536 ≤ e.vel.y ∧ e.vel.y ≤ 65536) ∧
    (0 ≤ e.health ∧ e.health ≤ 100 ∧ 0 ≤ e.wait ∧ e.wait ≤ 20 ∧ (e.kind = 2 ∧ e.health = 100 ∧ e.wait = 0 ∨ e.kind ≠ 2 ∧ (e.health = 0 ∧ 0 < e.wait ∨ 0 < e.health ∧ e.wait = 0))) := by
  unfold entOk kindOk vecOk slowOk restOk
  simp only [Bool.and_eq_true, decide_eq_true_eq]
  constructor
  · rintro ⟨⟨⟨⟨a, b⟩, c⟩, d⟩, e⟩; exact ⟨a, b, c, d, e⟩
  · rintro ⟨a, b, c, d, e⟩; exact ⟨⟨⟨⟨a, b⟩, c⟩, d⟩, e⟩
theorem seek_spec (W n : Nat) (p : VecV) (f j r : Nat) (h : seek W n p f j = some r) : p = middle ((r % W : Nat) : Int) ((r / W : Nat) : Int) := by
  induction f generalizing j with
  | zero => cases h
  | succ f ih =>
    unfold seek at h
    split at h
    · rename_i hp
      rw [← Option.some.inj h]
      exact hp
    · split at h
      · cases h
      · exact ih _ h
theorem formedFrom_spec (walls : List Bool) (W : Nat) (ps : List VecV) (pos : Nat) (h : formedFrom walls W ps pos = true) : ∀ p ∈ ps, ∃ j : Nat, walls.getD j true = false ∧ p = middle ((j % W : Nat) : Int) ((j / W : Nat) : Int) := by
  induction ps generalizing pos with
  | nil => intro p hp; cases hp
  | cons q ps ih =>
    unfold formedFrom at h
    split at h
    · cases h
    · split at h
      · cases h
      · rename_i j hj
        simp only [Bool.and_eq_true, Bool.not_eq_true'] at h
        intro p hp
        rcases List.mem_cons.1 hp with rfl | hp
        · exact ⟨j, h.1, seek_spec _ _ _ _ _ _ hj⟩
        · exact ih _ h.2 p hp
theorem spawn_stands {m : MapV} (h : formedB m = true) {p : VecV} (hp : p ∈ m.spawns) : standsB m p = true := by
  obtain ⟨w1, w2, h1, h2, hl⟩ := sizeOk_of_formed h
  have hff := h
  unfold formedB at hff
  simp only [Bool.and_eq_true] at hff
  obtain ⟨j, hj, rfl⟩ := formedFrom_spec _ _ _ _ hff.2 p hp
  have hjl : j < m.walls.length := by
    rcases Nat.lt_or_ge j m.walls.length with h3 | h3
    · exact h3
    · rw [List.getD_eq_getElem?_getD, List.getElem?_eq_none h3] at hj; cases hj
  have hWp : 0 < m.W.toNat := by omega
  have ha : j % m.W.toNat < m.W.toNat := Nat.mod_lt _ hWp
  have hln : m.walls.length = m.W.toNat * m.H.toNat := by
    have e1 : ((m.W.toNat * m.H.toNat : Nat) : Int) = m.W * m.H := by rw [Int.natCast_mul, Int.toNat_of_nonneg (by omega), Int.toNat_of_nonneg (by omega)]
    omega
  have hb : j / m.W.toNat < m.H.toNat := Nat.div_lt_of_lt_mul (by omega)
  have hd := Nat.div_add_mod j m.W.toNat
  generalize j % m.W.toNat = a at ha hd ⊢
  generalize j / m.W.toNat = b at hb hd ⊢
  refine (standsB_iff m _).2 ⟨h, ?_, ?_, ?_, ?_, ?_⟩
  · show (24576 : Int) ≤ (a : Int) * 65536 + 32768; omega
  · show (a : Int) * 65536 + 32768 + 24576 ≤ m.W * 65536; omega
  · show (24576 : Int) ≤ (b : Int) * 65536 + 32768; omega
  · show (b : Int) * 65536 + 32768 + 24576 ≤ m.H * 65536; omega
  · intro y hy x hx hw
    show ¬ ((x : Int) * 65536 < (a : Int) * 65536 + 32768 + 24576 ∧ (a : Int) * 65536 + 32768 - 24576 < ((x : Int) + 1) * 65536 ∧ (y : Int) * 65536 < (b : Int) * 65536 + 32768 + 24576 ∧ (b : Int) * 65536 + 32768 - 24576 < ((y : Int) + 1) * 65536)
    rintro ⟨q1, q2, q3, q4⟩
    have e1 : x = a := by omega
    have e2 : y = b := by omega
    subst e1 e2
    unfold wallAt at hw
    rw [Nat.mul_comm, hd, hj] at hw
    cases hw
theorem spawnP_mem {m : MapV} (h : formedB m = true) (hs : m.spawns.length ≤ 9223372036854775807) (st : Int) : spawnP m st ∈ m.spawns := by
  have h1 : 1 ≤ m.spawns.length := by
    have h2 := h
    unfold formedB sizeOk at h2
    simp only [Bool.and_eq_true, decide_eq_true_eq] at h2
    omega
  obtain ⟨k0, kn⟩ := belowK_range st m.spawns.length (by omega) (by omega)
  unfold spawnP
  rw [List.getD_eq_getElem?_getD, List.getElem?_eq_getElem (by omega)]
  exact List.getElem_mem _
theorem spawnP_stands {m : MapV} (h : formedB m = true) (st : Int) : standsB m (spawnP m st) = true := by
  have hs : m.spawns.length ≤ 9223372036854775807 := by
    obtain ⟨w1, w2, h1, h2, hl⟩ := sizeOk_of_formed h
    have h3 := h
    unfold formedB sizeOk at h3
    simp only [Bool.and_eq_true, decide_eq_true_eq] at h3
    have : m.W * m.H ≤ 32 * 32 := Int.mul_le_mul w2 h2 (by omega) (by omega)
    omega
  exact spawn_stands h (spawnP_mem h hs st)
theorem fine_new {m : MapV} (h : formedB m = true) (st : Int) {id kind : Int} {vel : VecV} (hk : 1 ≤ id ∧ id ≤ 16 ∧ (kind = 1 ∧ id ≤ 8 ∨ kind = 2 ∧ 8 < id)) (hv : -65536 ≤ vel.x ∧ vel.x ≤ 65536 ∧ -65536 ≤ vel.y ∧ vel.y ≤ 65536) : FineE m ⟨id, kind, spawnP m st, vel, 100, 0⟩ := by
  have hs := spawnP_stands h st
  obtain ⟨a1, a2, a3, a4⟩ := standsB_at hs
  refine ⟨(entOk_iff _).2 ⟨hk, ⟨by show _ ≤ (spawnP m st).x; omega, by show (spawnP m st).x ≤ _; omega, by show _ ≤ (spawnP m st).y; omega, by show (spawnP m st).y ≤ _; omega⟩, ⟨hv.1, hv.2.1⟩, hv.2.2, ?_⟩, hs⟩
  show (0 : Int) ≤ 100 ∧ (100 : Int) ≤ 100 ∧ (0 : Int) ≤ 0 ∧ (0 : Int) ≤ 20 ∧ (kind = 2 ∧ (100 : Int) = 100 ∧ (0 : Int) = 0 ∨ kind ≠ 2 ∧ ((100 : Int) = 0 ∧ (0 : Int) < 0 ∨ (0 : Int) < 100 ∧ (0 : Int) = 0))
  omega
theorem fine_moved {m : MapV} {e e' : EntV} (h : FineE m e) (hs : standsB m e'.at_ = true) (h1 : e'.id = e.id) (h2 : e'.kind = e.kind) (h3 : e'.health = e.health) (h4 : e'.wait = e.wait) (hv : -65536 ≤ e'.vel.x ∧ e'.vel.x ≤ 65536 ∧ -65536 ≤ e'.vel.y ∧ e'.vel.y ≤ 65536) : FineE m e' := by
  obtain ⟨k1, k2, k3, k4, k5⟩ := (entOk_iff e).1 h.ok
  obtain ⟨a1, a2, a3, a4⟩ := standsB_at hs
  refine ⟨(entOk_iff _).2 ⟨?_, ⟨by omega, by omega, by omega, by omega⟩, ⟨hv.1, hv.2.1⟩, hv.2.2, ?_⟩, hs⟩
  · rw [h1, h2]; exact k1
  · rw [h2, h3, h4]; exact k5
theorem fine_walk {m : MapV} {e : EntV} (h : FineE m e) (mx my : Int) (x0 : -128 ≤ mx) (x1 : mx ≤ 127) (y0 : -128 ≤ my) (y1 : my ≤ 127) : FineE m (walkF m e mx my) := by
  obtain ⟨w1, -, -, -, -, w2, w3, w4, w5⟩ := walk_free m e mx my h.st x0 x1 y0 y1
  refine fine_moved h w1 w2 w5 w3 w4 ?_
  obtain ⟨k1, k2, k3, k4, k5⟩ := (entOk_iff e).1 h.ok
  unfold walkF
  split
  · exact ⟨k3.1, k3.2, k4⟩
  · rename_i hn
    have q4 : mx ≠ -128 := fun hh => hn (.inr (.inr (.inr (.inl hh))))
    have q5 : my ≠ -128 := fun hh => hn (.inr (.inr (.inr (.inr hh))))
    obtain ⟨p1, p2⟩ := partF_le mx (by omega) x1
    obtain ⟨p3, p4⟩ := partF_le my (by omega) y1
    show -65536 ≤ partF mx ∧ partF mx ≤ 65536 ∧ -65536 ≤ partF my ∧ partF my ≤ 65536
    omega
theorem fine_roll {m : MapV} {e : EntV} (h : FineE m e) : FineE m (rollF m e) := by
  unfold rollF
  split
  · exact h
  · obtain ⟨k1, k2, k3, k4, k5⟩ := (entOk_iff e).1 h.ok
    refine fine_moved h (stepped_stands m e h.st).1 rfl rfl rfl rfl ?_
    show -65536 ≤ (if (stepped m e).2.1 then e.vel.x else -e.vel.x) ∧ (if (stepped m e).2.1 then e.vel.x else -e.vel.x) ≤ 65536 ∧ -65536 ≤ (if (stepped m e).2.2 then e.vel.y else -e.vel.y) ∧ (if (stepped m e).2.2 then e.vel.y else -e.vel.y) ≤ 65536
    split <;> split <;> omega
theorem fine_hit {m : MapV} {e : EntV} (h : FineE m e) (hk : e.kind = 1) (hh : 0 < e.health) (by_ : Int) (hb : 1 ≤ by_) : FineE m (hitE e by_) := by
  obtain ⟨k1, k2, k3, k4, k5⟩ := (entOk_iff e).1 h.ok
  unfold hitE
  split
  · refine ⟨(entOk_iff _).2 ⟨k1, k2, k3, k4, ?_⟩, h.st⟩
    show (0 : Int) ≤ e.health - by_ ∧ e.health - by_ ≤ 100 ∧ 0 ≤ e.wait ∧ e.wait ≤ 20 ∧ (e.kind = 2 ∧ e.health - by_ = 100 ∧ e.wait = 0 ∨ e.kind ≠ 2 ∧ (e.health - by_ = 0 ∧ 0 < e.wait ∨ 0 < e.health - by_ ∧ e.wait = 0))
    omega
  · refine ⟨(entOk_iff _).2 ⟨k1, k2, ?_, ?_, ?_⟩, h.st⟩
    · show (-65536 : Int) ≤ 0 ∧ (0 : Int) ≤ 65536; omega
    · show (-65536 : Int) ≤ 0 ∧ (0 : Int) ≤ 65536; omega
    · show (0 : Int) ≤ 0 ∧ (0 : Int) ≤ 100 ∧ (0 : Int) ≤ 20 ∧ (20 : Int) ≤ 20 ∧ (e.kind = 2 ∧ (0 : Int) = 100 ∧ (20 : Int) = 0 ∨ e.kind ≠ 2 ∧ ((0 : Int) = 0 ∧ (0 : Int) < 20 ∨ (0 : Int) < 0 ∧ (20 : Int) = 0))
      omega
theorem fine_hitP {m : MapV} {e : EntV} (h : FineE m e) (hk : e.kind = 1) (by_ : Int) : FineE m (hitP by_ e) := by
  obtain ⟨k1, k2, k3, k4, k5⟩ := (entOk_iff e).1 h.ok
  unfold hitP
  split
  · exact h
  · exact fine_hit h hk (by omega) by_ (by omega)
theorem fine_wait {m : MapV} (hm : formedB m = true) {e : EntV} (h : FineE m e) (st : Int) : FineE m (waitE m st e).2 := by
  obtain ⟨k1, k2, k3, k4, k5⟩ := (entOk_iff e).1 h.ok
  unfold waitE
  split
  · exact h
  · split
    · exact fine_new hm st k1 (by show (-65536 : Int) ≤ 0 ∧ (0 : Int) ≤ 65536 ∧ (-65536 : Int) ≤ 0 ∧ (0 : Int) ≤ 65536; omega)
    · refine ⟨(entOk_iff _).2 ⟨k1, k2, k3, k4, ?_⟩, h.st⟩
      show 0 ≤ e.health ∧ e.health ≤ 100 ∧ 0 ≤ e.wait - 1 ∧ e.wait - 1 ≤ 20 ∧ (e.kind = 2 ∧ e.health = 100 ∧ e.wait - 1 = 0 ∨ e.kind ≠ 2 ∧ (e.health = 0 ∧ 0 < e.wait - 1 ∨ 0 < e.health ∧ e.wait - 1 = 0))
      omega
theorem rises_set {l : List EntV} {k : Nat} {e e' : EntV} (h : Rises l) (he : l[k]? = some e) (hi : e'.id = e.id) : Rises (l.set k e') := by
  unfold Rises at *
  rw [List.map_set, hi, set_same (by rw [List.getElem?_map, he]; rfl)]
  exact h
theorem rises_next {l : List EntV} (h : Rises l) {k : Nat} {a b : EntV} (ha : l[k]? = some a) (hb : l[k + 1]? = some b) : a.id < b.id := by
  obtain ⟨h1, rfl⟩ := List.getElem?_eq_some_iff.1 ha
  obtain ⟨h2, rfl⟩ := List.getElem?_eq_some_iff.1 hb
  have := List.pairwise_iff_getElem.1 h k (k + 1) (by simpa using h1) (by simpa using h2) (by omega)
  simpa using this
theorem waitE_id (m : MapV) (st : Int) (e : EntV) : (waitE m st e).2.id = e.id := by
  unfold waitE
  split
  · rfl
  · split <;> rfl
theorem hitE_id (e : EntV) (b : Int) : (hitE e b).id = e.id ∧ (hitE e b).kind = e.kind := by
  unfold hitE
  split <;> exact ⟨rfl, rfl⟩
theorem rollF_id (m : MapV) (e : EntV) : (rollF m e).id = e.id := by
  unfold rollF
  split <;> rfl
def FineL (m : MapV) (l : List EntV) : Prop := (∀ e ∈ l, FineE m e) ∧ Rises l
theorem FineL.set {m : MapV} {l : List EntV} {k : Nat} {e e' : EntV} (h : FineL m l) (he : l[k]? = some e) (hi : e'.id = e.id) (hf : FineE m e') : FineL m (l.set k e') := ⟨set_all h.1 hf, rises_set h.2 he hi⟩
theorem fine_waitN {m : MapV} (hm : formedB m = true) (k : Nat) (x : Int × List EntV) (h : FineL m x.2) : FineL m (waitN m k x).2 := by
  induction k with
  | zero => exact h
  | succ k ih =>
    unfold waitN
    split
    · exact ih
    · rename_i e he
      exact ih.set he (waitE_id _ _ _) (fine_wait hm (ih.1 e (List.mem_of_getElem? he)) _)
theorem fine_rollN {m : MapV} (k : Nat) (l : List EntV) (h : FineL m l) : FineL m (rollN m k l) := by
  induction k with
  | zero => exact h
  | succ k ih =>
    unfold rollN
    split
    · exact ih
    · rename_i e he
      exact ih.set he (rollF_id _ _) (fine_roll (ih.1 e (List.mem_of_getElem? he)))
theorem fine_hitAt {m : MapV} (i j : Nat) (l : List EntV) (h : FineL m l) (hk : ∀ p, l[i]? = some p → p.kind = 1) : FineL m (hitAt i j l) ∧ ∀ p, (hitAt i j l)[i]? = some p → p.kind = 1 := by
  unfold hitAt
  split
  · rename_i p b hp hb
    split
    · rename_i hbump
      unfold bumps at hbump
      simp only [Bool.and_eq_true, decide_eq_true_eq] at hbump
      refine ⟨h.set hp (hitE_id p 5).1 (fine_hit (h.1 p (List.mem_of_getElem? hp)) (hk p hp) hbump.1.2 5 (by omega)), fun q hq => ?_⟩
      rw [List.getElem?_set_self (List.getElem?_eq_some_iff.1 hp).1] at hq
      injection hq with hq
      rw [← hq, (hitE_id p 5).2]
      exact hk p hp
    · exact ⟨h, hk⟩
  · exact ⟨h, hk⟩
theorem fine_hitJ {m : MapV} (i j : Nat) (l : List EntV) (h : FineL m l) (hk : ∀ p, l[i]? = some p → p.kind = 1) : FineL m (hitJ i j l) ∧ ∀ p, (hitJ i j l)[i]? = some p → p.kind = 1 := by
  induction j with
  | zero => exact ⟨h, hk⟩
  | succ j ih => exact fine_hitAt i j _ ih.1 ih.2
theorem fine_hitI {m : MapV} (n i : Nat) (l : List EntV) (h : FineL m l) : FineL m (hitI n i l) := by
  induction i with
  | zero => exact h
  | succ i ih =>
    unfold hitI
    split
    · exact ih
    · rename_i p hp
      split
      · rename_i hk
        exact (fine_hitJ i n _ ih (fun q hq => by rw [hp] at hq; injection hq with hq; rw [← hq]; exact hk)).1
      · exact ih
theorem fine_tick {v : WorldV} (h : FineW v) : FineW (tickF v) := by
  have h1 : FineL v.map (tickF v).l := by
    show FineL v.map (waitF v.map v.st _).2
    exact fine_waitN h.m _ _ (fine_hitI _ _ _ (fine_rollN _ _ ⟨h.e, h.r⟩))
  exact ⟨h.m, h1.1, h1.2⟩
theorem fine_atPlayer {m : MapV} {l : List EntV} (h : FineL m l) (id : Int) (f : EntV → EntV) (hi : ∀ e, (f e).id = e.id) (hf : ∀ e, e.kind = 1 → FineE m e → FineE m (f e)) : FineL m (atPlayer l id f) := by
  rcases atPlayer_spec l id f with ⟨_, h2⟩ | ⟨k, e, _, h2, _, h4, h5⟩
  · rw [h2]; exact h
  · rw [h5]; exact h.set h2 (hi e) (hf e h4 (h.1 e (List.mem_of_getElem? h2)))
theorem fine_leave {m : MapV} {l : List EntV} (h : FineL m l) (id : Int) : FineL m (leaveL l id) := by
  unfold leaveL
  split
  · exact h
  · have hs : (l.take (playerF l id).toNat ++ l.drop ((playerF l id).toNat + 1)).Sublist l := by
      rw [← List.eraseIdx_eq_take_drop_succ]
      exact List.eraseIdx_sublist _ _
    exact ⟨fun e he => h.1 e (hs.subset he), h.2.sublist (hs.map _)⟩
theorem findF_none {l : List EntV} {id : Int} (h : findF l id = -1) : ∀ e ∈ l, e.id ≠ id := by
  rcases findF_spec l id with ⟨_, h2⟩ | ⟨k, e, h1, _, _⟩
  · exact h2
  · omega
theorem rises_join {l : List EntV} {e : EntV} (h : Rises l) (hn : ∀ x ∈ l, x.id ≠ e.id) : Rises (l.take (joinK l e.id) ++ e :: l.drop (joinK l e.id)) := by
  have hk : ∃ k : Nat, joinK l e.id = k ∧ k ≤ l.length ∧ (∀ x ∈ l.take k, x.id < e.id) ∧ (∀ x ∈ l.drop k, e.id < x.id) := by
    rcases idxFrom_spec (fun x : EntV => decide (e.id < x.id)) l 0 with ⟨h1, h2⟩ | ⟨k, x, h1, h2, h3, h4⟩
    · refine ⟨l.length, by unfold joinK; rw [h1, if_pos (by omega)], Nat.le_refl _, fun x hx => ?_, fun x hx => ?_⟩
      · have hx' := List.mem_of_mem_take hx
        have := h2 x hx'
        have := hn x hx'
        simp only [decide_eq_false_iff_not] at *
        omega
      · rw [List.drop_length] at hx; cases hx
    · have hkl := (List.getElem?_eq_some_iff.1 h2).1
      refine ⟨k, by unfold joinK; rw [h1, if_neg (by omega)]; omega, by omega, fun y hy => ?_, fun y hy => ?_⟩
      · have hy' := List.mem_of_mem_take hy
        obtain ⟨i, hi, rfl⟩ := List.getElem_of_mem hy
        have hi' : i < k := by have := List.length_take_le k l; omega
        have h5 := h4 i l[i] hi' (List.getElem?_eq_getElem (by omega))
        have h6 := hn l[i] (List.getElem_mem _)
        simp only [decide_eq_false_iff_not] at h5
        rw [List.getElem_take]
        omega
      · have h5 : e.id < x.id := by simpa using h3
        have h6 : (l.drop k).map EntV.id = x.id :: ((l.drop (k + 1)).map EntV.id) := by rw [drop_cons_of h2]; rfl
        have h7 : ((l.drop k).map EntV.id).Pairwise (· < ·) := List.Pairwise.sublist ((List.drop_sublist k l).map _) h
        rw [h6, List.pairwise_cons] at h7
        rw [drop_cons_of h2] at hy
        rcases List.mem_cons.1 hy with rfl | hy
        · exact h5
        · have := h7.1 y.id (List.mem_map_of_mem hy)
          omega
  obtain ⟨k, hk0, hkl, h1, h2⟩ := hk
  rw [hk0]
  unfold Rises at *
  rw [List.map_append, List.map_cons, List.pairwise_append]
  refine ⟨List.Pairwise.sublist ((List.take_sublist k l).map _) h, ?_, ?_⟩
  · rw [List.pairwise_cons]
    refine ⟨fun y hy => ?_, List.Pairwise.sublist ((List.drop_sublist k l).map _) h⟩
    obtain ⟨x, hx, rfl⟩ := List.mem_map.1 hy
    exact h2 x hx
  · intro y hy z hz
    obtain ⟨x, hx, rfl⟩ := List.mem_map.1 hy
    have hx1 := h1 x hx
    rcases List.mem_cons.1 hz with rfl | hz
    · exact hx1
    · obtain ⟨u, hu, rfl⟩ := List.mem_map.1 hz
      have := h2 u hu
      omega
theorem fine_join {v : WorldV} (h : FineW v) (id : Int) : FineW (joinV v id).1 := by
  unfold joinV
  split
  · exact h
  · split
    · exact h
    · rename_i h1 h2
      have h2 : findF v.l id = -1 := Decidable.byContradiction h2
      refine ⟨h.m, fun e he => ?_, rises_join (e := newP id (spawnP v.map v.st)) h.r (findF_none h2)⟩
      simp only [List.mem_append, List.mem_cons] at he
      rcases he with he | rfl | he
      · exact h.e e (List.mem_of_mem_take he)
      · exact fine_new h.m _ (by omega) (by show (-65536 : Int) ≤ 0 ∧ (0 : Int) ≤ 65536 ∧ (-65536 : Int) ≤ 0 ∧ (0 : Int) ≤ 65536; omega)
      · exact h.e e (List.mem_of_mem_drop he)
theorem hitP_id (b : Int) (e : EntV) : (hitP b e).id = e.id := by
  unfold hitP
  split
  · rfl
  · exact (hitE_id e b).1
theorem goP_id (m : MapV) (c : CmdV) (e : EntV) : (goP m c e).id = e.id := by
  unfold goP walkF
  split
  · split <;> rfl
  · rfl
theorem fine_act {v : WorldV} (h : FineW v) (o : OpV) (ho : -128 ≤ o.c.mx ∧ o.c.mx ≤ 127 ∧ -128 ≤ o.c.my ∧ o.c.my ≤ 127) : FineW (actV v o).1 := by
  unfold actV
  split
  · exact fine_join h _
  · split
    · have := fine_leave ⟨h.e, h.r⟩ o.id
      exact ⟨h.m, this.1, this.2⟩
    · split
      · have := fine_atPlayer ⟨h.e, h.r⟩ o.id (hitP o.by_) (hitP_id _) fun e hk he => fine_hitP he hk _
        exact ⟨h.m, this.1, this.2⟩
      · split
        · have := fine_atPlayer ⟨h.e, h.r⟩ o.id (goP v.map o.c) (goP_id _ _) fun e hk he => by
            unfold goP
            split
            · exact fine_walk he _ _ ho.1 ho.2.1 ho.2.2.1 ho.2.2.2
            · exact he
          exact ⟨h.m, this.1, this.2⟩
        · split
          · exact fine_tick h
          · exact h
theorem fine_balls {m : MapV} (h : formedB m = true) (k : Nat) (hk : k ≤ 8) (st : Int) : FineL m (ballsF m k st).2 ∧ ∀ e ∈ (ballsF m k st).2, e.id < 9 + k := by
  induction k with
  | zero => exact ⟨⟨fun e he => absurd he List.not_mem_nil, List.Pairwise.nil⟩, fun e he => absurd he List.not_mem_nil⟩
  | succ k ih =>
    obtain ⟨⟨i1, i2⟩, i3⟩ := ih (by omega)
    obtain ⟨x0, x1⟩ := belowK_range (nextS (ballsF m k st).1) 32769 (by omega) (by omega)
    obtain ⟨y0, y1⟩ := belowK_range (nextS (nextS (ballsF m k st).1)) 32769 (by omega) (by omega)
    show FineL m ((ballsF m k st).2 ++ [_]) ∧ ∀ e ∈ ((ballsF m k st).2 ++ [_]), _
    refine ⟨⟨fun e he => ?_, ?_⟩, fun e he => ?_⟩
    · rcases List.mem_append.1 he with he | he
      · exact i1 e he
      · rw [List.mem_singleton.1 he]
        exact fine_new h _ (by omega) ⟨by show (-65536 : Int) ≤ belowK _ 32769 - 16384; omega, by show belowK _ 32769 - 16384 ≤ 65536; omega, by show (-65536 : Int) ≤ belowK _ 32769 - 16384; omega, by show belowK _ 32769 - 16384 ≤ 65536; omega⟩
    · unfold Rises at *
      rw [List.map_append, List.pairwise_append]
      refine ⟨i2, by simp, fun a ha b hb => ?_⟩
      obtain ⟨e, he, rfl⟩ := List.mem_map.1 ha
      simp only [List.map_cons, List.map_nil, List.mem_singleton] at hb
      subst hb
      exact i3 e he
    · rcases List.mem_append.1 he with he | he
      · have := i3 e he; omega
      · rw [List.mem_singleton.1 he]; show (9 : Int) + k < 9 + ((k + 1 : Nat) : Int); omega
theorem fine_newF {m : MapV} (h : formedB m = true) (k : Nat) (hk : k ≤ 8) (seed : Int) : FineW (newF m seed k) :=
  ⟨h, (fine_balls h k hk seed).1.1, (fine_balls h k hk seed).1.2⟩
end Go.Proofs.Ythkgeeonhppliaa
