/- A spawn. Where an entity, and a player, stands in a row. -/
import Derived.Test.YtojbijapdkohlaaGreatDoorQ09WHit
set_option linter.unusedSimpArgs false
set_option linter.unusedVariables false
namespace Go.Proofs.YtojbijapdkohlaaGreatDoor
open Go.RowKit
def spawnP (m : MapV) (st : Int) : VecV := m.spawns.getD (belowK st m.spawns.length).toNat ⟨0, 0⟩
set_option maxRecDepth 100000 in
set_option maxHeartbeats 4000000 in
theorem wSpawn (b : Nat) (v : WorldV) (s : WorldS) (w : World) (hb : Blk w b 46 #[.int .i64 v.map.W, .int .i64 v.map.H, .slice s.ms.A s.ms.n s.ms.c, .slice s.ms.A2 s.ms.n2 s.ms.c2, .int .u64 v.st, .int .i64 v.tick, .slice s.A s.n s.c]) (hM : MapAt w w.heap.size v.map s.ms) (h1 : 1 ≤ s.ms.n2) (h2 : s.ms.n2 ≤ 100000) (hne : ∀ g, blkOf s.ms.A2 = some g → g ≠ b) :
    Calls Tryz.prog 154 #[.pointer (some ⟨b, 0, none⟩)] w fun r w' => r = .returned (.agg #[.int .i64 (spawnP v.map v.st).x, .int .i64 (spawnP v.map v.st).y]) ∧ Blk w' b 46 #[.int .i64 (WorldV.mk v.map (nextS v.st) v.tick v.l).map.W, .int .i64 (WorldV.mk v.map (nextS v.st) v.tick v.l).map.H, .slice s.ms.A s.ms.n s.ms.c, .slice s.ms.A2 s.ms.n2 s.ms.c2, .int .u64 (WorldV.mk v.map (nextS v.st) v.tick v.l).st, .int .i64 (WorldV.mk v.map (nextS v.st) v.tick v.l).tick, .slice s.A s.n s.c] ∧ Chg (fun g => g = b) w w' := by
  have hlen := hM.len.2
  have hsp : Reads w w.heap.size 2 s.ms.A2 s.ms.n2 (vecsV v.map.spawns) := hM.spawns
  obtain ⟨k0, kn⟩ := belowK_range v.st s.ms.n2 (by omega) (by omega)
  have hRB := fun W => rndBelow v.st s.ms.n2 (by omega) (by omega) W
  have hp : spawnP v.map v.st = v.map.spawns.getD (belowK v.st s.ms.n2).toNat ⟨0, 0⟩ := by unfold spawnP; rw [hlen]
  obtain ⟨K, hK⟩ : ∃ K : Nat, belowK v.st s.ms.n2 = (K : Int) := ⟨(belowK v.st s.ms.n2).toNat, by omega⟩
  simp only [hK] at hRB k0 kn hp
  rw [Int.toNat_natCast] at hp
  obtain ⟨p, hpk⟩ : ∃ p, v.map.spawns[K]? = some p := ⟨_, List.getElem?_eq_getElem (by omega)⟩
  have hp2 : spawnP v.map v.st = p := by rw [hp, List.getD_eq_getElem?_getD, hpk]; rfl
  rw [hp2]
  obtain ⟨g, off, hA2, hg, hc⟩ := hsp.flat (by omega) (by decide)
  have s0 : w.cell? ⟨g, off + K * 2, none⟩ = some (.int .i64 p.x) := hc _ _ (vecsV_at _ _ _ hpk).1
  have s1 : w.cell? ⟨g, off + K * 2 + 1, none⟩ = some (.int .i64 p.y) := hc _ _ (vecsV_at _ _ _ hpk).2
  have c3 : w.cell? ⟨b, 3, none⟩ = some (.slice s.ms.A2 s.ms.n2 s.ms.c2) := hb.cell 3
  have c4 : w.cell? ⟨b, 4, none⟩ = some (.int .u64 v.st) := hb.cell 4
  have f4 : w.frozen? ⟨b, 4, none⟩ = false := hb.frozen 4
  rw [hA2] at c3
  have l1 := hb.lt
  have l2 : g < w.heap.size := hg
  have hgb : ¬ g = b := hne g (by rw [hA2]; rfl)
  have t1 : decide (s.ms.n2 ≤ K) = false := decide_eq_false (by omega)
  have t2 : decide ((s.ms.n2 : Int) ≤ (K : Int)) = false := decide_eq_false (by omega)
  have hKn : K < s.ms.n2 := by omega
  have HB := Lib.hid hb
  clear hb hM hsp hc hp hpk hp2 hA2 hK kn
  go_enter Tryz.func154, Tryz.ntmps154
  go_wp2
  go_region_law (go_simp; go_at_call 155; refine (hRB _).mono ?_; rintro r w1 ⟨rfl, ⟨q, rfl⟩⟩)
  all_goals
    go_wp2
    have hbl : ¬ b = w.heap.size := by omega
    refine bodyPost_ret (v := (.agg #[.int .i64 p.x, .int .i64 p.y])) (by simp [results, Tryz.results154, go_sem]) rfl ⟨rfl, ?_, (by repeat (first | with_reducible exact Chg.refl | with_reducible assumption | with_reducible refine Chg.drewN ?_ _ | with_reducible refine Chg.drewN ?_ 1 | with_reducible refine Chg.alloc ?_ _ | with_reducible refine Chg.setCell ?_ (by first | (simp; done) | (simp; omega)) _))⟩
    have := ((((HB.out.alloc (.cells #[.int .i64 0, .int .i64 0] 53)).drewN (1 + q)).set_ 4 (.int .u64 (nextS v.st))).far (p := ⟨w.heap.size, 0, none⟩) hbl (.int .i64 p.x)).far (p := ⟨w.heap.size, 1, none⟩) hbl (.int .i64 p.y)
    exact this
end Go.Proofs.YtojbijapdkohlaaGreatDoor
set_option linter.unusedSimpArgs false
set_option linter.unusedVariables false
namespace Go.Proofs.YtojbijapdkohlaaGreatDoor
open Go.RowKit
def playerF (l : List EntV) (id : Int) : Int := if findF l id = -1 then -1 else if (l.getD (findF l id).toNat ⟨0, 0, ⟨0, 0⟩, ⟨0, 0⟩, 0, 0⟩).kind = 1 then findF l id else -1
theorem playerF_spec (l : List EntV) (id : Int) : playerF l id = -1 ∨ ∃ (k : Nat) (e : EntV), playerF l id = (k : Int) ∧ l[k]? = some e ∧ e.id = id ∧ e.kind = 1 := by
  unfold playerF
  rcases findF_spec l id with ⟨h1, h2⟩ | ⟨k, e, h1, h2, h3⟩
  · left; rw [if_pos h1]
  · rw [if_neg (by omega), h1, Int.toNat_natCast, List.getD_eq_getElem?_getD, h2]
    by_cases hk : e.kind = 1
    · right; exact ⟨k, e, by rw [Option.getD_some, if_pos hk], h2, h3, hk⟩
    · left; rw [Option.getD_some, if_neg hk]
set_option maxHeartbeats 4000000 in
theorem wPlayer (v : WorldV) (s : WorldS) (id : Int) (w : World) (h : Reads w w.heap.size 8 s.A s.n (entsV v.l)) (hn : s.n ≤ 100000) :
    Calls Tryz.prog 156 #[(.agg #[.int .i64 v.map.W, .int .i64 v.map.H, .slice s.ms.A s.ms.n s.ms.c, .slice s.ms.A2 s.ms.n2 s.ms.c2, .int .u64 v.st, .int .i64 v.tick, .slice s.A s.n s.c]), .int .i64 id] w fun e w' => e = .returned (.int .i64 (playerF v.l id)) ∧ Below w.heap.size w w' := by
  have hF := fun W (hW : Below w.heap.size w W) => wFind v.l id W s.A s.n s.c ((h.below hW).upto hW.size) hn
  have hl : v.l.length = s.n := by have := h.1; rw [entsV_length] at this; omega
  have HF := Lib.hid hF
  have hpl : playerF v.l id = if findF v.l id = -1 then -1 else if (v.l.getD (findF v.l id).toNat ⟨0, 0, ⟨0, 0⟩, ⟨0, 0⟩, 0, 0⟩).kind = 1 then findF v.l id else -1 := rfl
  rcases findF_spec v.l id with ⟨h1, h2⟩ | ⟨k, e, h1, h2, h3⟩
  · rw [if_pos h1] at hpl
    rw [hpl]
    clear hF hpl h2 hl h
    go_enter Tryz.func156, Tryz.ntmps156
    go_wp2_with (go_at_call 83; refine (HF.out _ (by repeat (first | with_reducible exact Below.refl _ _ | with_reducible assumption | with_reducible refine Below.drew ?_ | with_reducible refine below_drews ?_ _ | with_reducible refine Below.alloc ?_ (by first | omega | (simp; done) | (simp; omega)) _ | with_reducible refine Below.setCell ?_ (by first | omega | (simp; done) | (simp; omega)) _))).mono ?_; rw [h1]; rintro r w1 ⟨rfl, hb1⟩; obtain ⟨hc1, hf1⟩ := bcell hb1; have hs1 := hb1.size; (try simp at hs1); have l1 : w.heap.size < w1.heap.size := (by omega); have B1 : Below w.heap.size w w1 := Below.trans (by repeat (first | with_reducible exact Below.refl _ _ | with_reducible assumption | with_reducible refine Below.drew ?_ | with_reducible refine below_drews ?_ _ | with_reducible refine Below.alloc ?_ (by first | omega | (simp; done) | (simp; omega)) _ | with_reducible refine Below.setCell ?_ (by first | omega | (simp; done) | (simp; omega)) _)) (hb1.mono (by simp)))
    go_ret
    exact ⟨rfl, (by repeat (first | with_reducible exact Below.refl _ _ | with_reducible assumption | with_reducible refine Below.drew ?_ | with_reducible refine below_drews ?_ _ | with_reducible refine Below.alloc ?_ (by first | omega | (simp; done) | (simp; omega)) _ | with_reducible refine Below.setCell ?_ (by first | omega | (simp; done) | (simp; omega)) _))⟩
  · rw [if_neg (by omega), h1, Int.toNat_natCast, List.getD_eq_getElem?_getD, h2, Option.getD_some] at hpl
    have hk : k < s.n := by rw [← hl]; exact (List.getElem?_eq_some_iff.1 h2).1
    obtain ⟨g, off, hA, hg, hc⟩ := h.flat (by omega) (by decide)
    have ck : w.cell? ⟨g, off + k * 8 + 1, none⟩ = some (.int .i64 e.kind) := by rw [Nat.add_assoc]; exact hc _ _ ((entsV_at h2 1 (by decide)).trans rfl)
    by_cases hk1 : e.kind = 1
    · have hk2 : (e.kind != 1) = false := by rw [hk1]; rfl
      rw [if_pos hk1] at hpl
      rw [hpl]
      obtain ⟨m, st, tick, l⟩ := v
      obtain ⟨ms, A, n, c⟩ := s
      simp only at hA
      subst hA
      clear hF hpl h2 hl h hc hk1
      go_enter Tryz.func156, Tryz.ntmps156
      go_wp2_with (go_at_call 83; refine (HF.out _ (by repeat (first | with_reducible exact Below.refl _ _ | with_reducible assumption | with_reducible refine Below.drew ?_ | with_reducible refine below_drews ?_ _ | with_reducible refine Below.alloc ?_ (by first | omega | (simp; done) | (simp; omega)) _ | with_reducible refine Below.setCell ?_ (by first | omega | (simp; done) | (simp; omega)) _))).mono ?_; rw [h1]; rintro r w1 ⟨rfl, hb1⟩; obtain ⟨hc1, hf1⟩ := bcell hb1; have hs1 := hb1.size; (try simp at hs1); have l1 : w.heap.size < w1.heap.size := (by omega); have l2 : g < w.heap.size + 1 := (by omega); have B1 : Below w.heap.size w w1 := Below.trans (by repeat (first | with_reducible exact Below.refl _ _ | with_reducible assumption | with_reducible refine Below.drew ?_ | with_reducible refine below_drews ?_ _ | with_reducible refine Below.alloc ?_ (by first | omega | (simp; done) | (simp; omega)) _ | with_reducible refine Below.setCell ?_ (by first | omega | (simp; done) | (simp; omega)) _)) (hb1.mono (by simp)))
      go_ret
      exact ⟨rfl, (by repeat (first | with_reducible exact Below.refl _ _ | with_reducible assumption | with_reducible refine Below.drew ?_ | with_reducible refine below_drews ?_ _ | with_reducible refine Below.alloc ?_ (by first | omega | (simp; done) | (simp; omega)) _ | with_reducible refine Below.setCell ?_ (by first | omega | (simp; done) | (simp; omega)) _))⟩
    · have hk2 : (e.kind != 1) = true := bne_iff_ne.2 hk1
      rw [if_neg hk1] at hpl
      rw [hpl]
      obtain ⟨m, st, tick, l⟩ := v
      obtain ⟨ms, A, n, c⟩ := s
      simp only at hA
      subst hA
      clear hF hpl h2 hl h hc hk1
      go_enter Tryz.func156, Tryz.ntmps156
      go_wp2_with (go_at_call 83; refine (HF.out _ (by repeat (first | with_reducible exact Below.refl _ _ | with_reducible assumption | with_reducible refine Below.drew ?_ | with_reducible refine below_drews ?_ _ | with_reducible refine Below.alloc ?_ (by first | omega | (simp; done) | (simp; omega)) _ | with_reducible refine Below.setCell ?_ (by first | omega | (simp; done) | (simp; omega)) _))).mono ?_; rw [h1]; rintro r w1 ⟨rfl, hb1⟩; obtain ⟨hc1, hf1⟩ := bcell hb1; have hs1 := hb1.size; (try simp at hs1); have l1 : w.heap.size < w1.heap.size := (by omega); have l2 : g < w.heap.size + 1 := (by omega); have B1 : Below w.heap.size w w1 := Below.trans (by repeat (first | with_reducible exact Below.refl _ _ | with_reducible assumption | with_reducible refine Below.drew ?_ | with_reducible refine below_drews ?_ _ | with_reducible refine Below.alloc ?_ (by first | omega | (simp; done) | (simp; omega)) _ | with_reducible refine Below.setCell ?_ (by first | omega | (simp; done) | (simp; omega)) _)) (hb1.mono (by simp)))
      go_ret
      exact ⟨rfl, (by repeat (first | with_reducible exact Below.refl _ _ | with_reducible assumption | with_reducible refine Below.drew ?_ | with_reducible refine below_drews ?_ _ | with_reducible refine Below.alloc ?_ (by first | omega | (simp; done) | (simp; omega)) _ | with_reducible refine Below.setCell ?_ (by first | omega | (simp; done) | (simp; omega)) _))⟩
end Go.Proofs.YtojbijapdkohlaaGreatDoor
