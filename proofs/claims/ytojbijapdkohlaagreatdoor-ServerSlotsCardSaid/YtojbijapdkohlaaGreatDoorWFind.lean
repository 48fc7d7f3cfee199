/- Where an entity, and a player, stands in a row. -/
import Derived.Test.YtojbijapdkohlaaGreatDoorWSpawn
import Derived.Test.YtojbijapdkohlaaGreatDoorFind
set_option linter.unusedSimpArgs false
set_option linter.unusedVariables false
namespace Go.Proofs.YtojbijapdkohlaaGreatDoor
open Go.RowKit
def playerF (l : List EntV) (id : Int) : Int := if findF l id = -1 then -1 else if (l.getD (findF l id).toNat ⟨0, 0, ⟨0, 0⟩, ⟨0, 0⟩, 0, 0⟩).kind = 1 then findF l id else -1
theorem playerF_spec (l : List EntV) (id : Int) : playerF l id = -1 ∨ ∃ (k : Nat) (e : EntV), playerF l id = (k : Int) ∧ l[k]? = some e ∧ e.id = id ∧ e.kind = 1 := by
  unfold playerF
  rcases findF_spec l id with ⟨h1, h2⟩ | ⟨k, e, h1, h2, h3⟩
  · left; rw [if_pos h1]
  · rw [if_neg (by omega), h1, Int.toNat_natCast, List.getD_eq_getElem?_getD, h2]
    by_cases hk : e.kind = 1
    · right; exact ⟨k, e, by rw [Option.getD_some, if_pos hk], h2, h3, hk⟩
    · left; rw [Option.getD_some, if_neg hk]
set_option maxHeartbeats 4000000 in
theorem wPlayer (v : WorldV) (s : WorldS) (id : Int) (w : World) (h : Reads w w.heap.size 8 s.A s.n (entsV v.l)) (hn : s.n ≤ 100000) :
    Calls Tryz.prog 156 #[(.agg #[.int .i64 v.map.W, .int .i64 v.map.H, .slice s.ms.A s.ms.n s.ms.c, .slice s.ms.A2 s.ms.n2 s.ms.c2, .int .u64 v.st, .int .i64 v.tick, .slice s.A s.n s.c]), .int .i64 id] w fun e w' => e = .returned (.int .i64 (playerF v.l id)) ∧ Below w.heap.size w w' := by
  have hF := fun W (hW : Below w.heap.size w W) => wFind v.l id W s.A s.n s.c ((h.below hW).upto hW.size) hn
  have hl : v.l.length = s.n := by have := h.1; rw [entsV_length] at this; omega
  have HF := Lib.hid hF
  have hpl : playerF v.l id = if findF v.l id = -1 then -1 else if (v.l.getD (findF v.l id).toNat ⟨0, 0, ⟨0, 0⟩, ⟨0, 0⟩, 0, 0⟩).kind = 1 then findF v.l id else -1 := rfl
  rcases findF_spec v.l id with ⟨h1, h2⟩ | ⟨k, e, h1, h2, h3⟩
  · rw [if_pos h1] at hpl
    rw [hpl]
    clear hF hpl h2 hl h
    go_enter Tryz.func156, Tryz.ntmps156
    go_wp2_with (go_at_call 83; refine (HF.out _ (by repeat (first | with_reducible exact Below.refl _ _ | with_reducible assumption | with_reducible refine Below.drew ?_ | with_reducible refine below_drews ?_ _ | with_reducible refine Below.alloc ?_ (by first | omega | (simp; done) | (simp; omega)) _ | with_reducible refine Below.setCell ?_ (by first | omega | (simp; done) | (simp; omega)) _))).mono ?_; rw [h1]; rintro r w1 ⟨rfl, hb1⟩; obtain ⟨hc1, hf1⟩ := bcell hb1; have hs1 := hb1.size; (try simp at hs1); have l1 : w.heap.size < w1.heap.size := (by omega); have B1 : Below w.heap.size w w1 := Below.trans (by repeat (first | with_reducible exact Below.refl _ _ | with_reducible assumption | with_reducible refine Below.drew ?_ | with_reducible refine below_drews ?_ _ | with_reducible refine Below.alloc ?_ (by first | omega | (simp; done) | (simp; omega)) _ | with_reducible refine Below.setCell ?_ (by first | omega | (simp; done) | (simp; omega)) _)) (hb1.mono (by simp)))
    go_ret
    exact ⟨rfl, (by repeat (first | with_reducible exact Below.refl _ _ | with_reducible assumption | with_reducible refine Below.drew ?_ | with_reducible refine below_drews ?_ _ | with_reducible refine Below.alloc ?_ (by first | omega | (simp; done) | (simp; omega)) _ | with_reducible refine Below.setCell ?_ (by first | omega | (simp; done) | (simp; omega)) _))⟩
  · rw [if_neg (by omega), h1, Int.toNat_natCast, List.getD_eq_getElem?_getD, h2, Option.getD_some] at hpl
    have hk : k < s.n := by rw [← hl]; exact (List.getElem?_eq_some_iff.1 h2).1
    obtain ⟨g, off, hA, hg, hc⟩ := h.flat (by omega) (by decide)
    have ck : w.cell? ⟨g, off + k * 8 + 1, none⟩ = some (.int .i64 e.kind) := by rw [Nat.add_assoc]; exact hc _ _ ((entsV_at h2 1 (by decide)).trans rfl)
    by_cases hk1 : e.kind = 1
    · have hk2 : (e.kind != 1) = false := by rw [hk1]; rfl
      rw [if_pos hk1] at hpl
      rw [hpl]
      obtain ⟨m, st, tick, l⟩ := v
      obtain ⟨ms, A, n, c⟩ := s
      simp only at hA
      subst hA
      clear hF hpl h2 hl h hc hk1
      go_enter Tryz.func156, Tryz.ntmps156
      go_wp2_with (go_at_call 83; refine (HF.out _ (by repeat (first | with_reducible exact Below.refl _ _ | with_reducible assumption | with_reducible refine Below.drew ?_ | with_reducible refine below_drews ?_ _ | with_reducible refine Below.alloc ?_ (by first | omega | (simp; done) | (simp; omega)) _ | with_reducible refine Below.setCell ?_ (by first | omega | (simp; done) | (simp; omega)) _))).mono ?_; rw [h1]; rintro r w1 ⟨rfl, hb1⟩; obtain ⟨hc1, hf1⟩ := bcell hb1; have hs1 := hb1.size; (try simp at hs1); have l1 : w.heap.size < w1.heap.size := (by omega); have l2 : g < w.heap.size + 1 := (by omega); have B1 : Below w.heap.size w w1 := Below.trans (by repeat (first | with_reducible exact Below.refl _ _ | with_reducible assumption | with_reducible refine Below.drew ?_ | with_reducible refine below_drews ?_ _ | with_reducible refine Below.alloc ?_ (by first | omega | (simp; done) | (simp; omega)) _ | with_reducible refine Below.setCell ?_ (by first | omega | (simp; done) | (simp; omega)) _)) (hb1.mono (by simp)))
      go_ret
      exact ⟨rfl, (by repeat (first | with_reducible exact Below.refl _ _ | with_reducible assumption | with_reducible refine Below.drew ?_ | with_reducible refine below_drews ?_ _ | with_reducible refine Below.alloc ?_ (by first | omega | (simp; done) | (simp; omega)) _ | with_reducible refine Below.setCell ?_ (by first | omega | (simp; done) | (simp; omega)) _))⟩
    · have hk2 : (e.kind != 1) = true := bne_iff_ne.2 hk1
      rw [if_neg hk1] at hpl
      rw [hpl]
      obtain ⟨m, st, tick, l⟩ := v
      obtain ⟨ms, A, n, c⟩ := s
      simp only at hA
      subst hA
      clear hF hpl h2 hl h hc hk1
      go_enter Tryz.func156, Tryz.ntmps156
      go_wp2_with (go_at_call 83; refine (HF.out _ (by repeat (first | with_reducible exact Below.refl _ _ | with_reducible assumption | with_reducible refine Below.drew ?_ | with_reducible refine below_drews ?_ _ | with_reducible refine Below.alloc ?_ (by first | omega | (simp; done) | (simp; omega)) _ | with_reducible refine Below.setCell ?_ (by first | omega | (simp; done) | (simp; omega)) _))).mono ?_; rw [h1]; rintro r w1 ⟨rfl, hb1⟩; obtain ⟨hc1, hf1⟩ := bcell hb1; have hs1 := hb1.size; (try simp at hs1); have l1 : w.heap.size < w1.heap.size := (by omega); have l2 : g < w.heap.size + 1 := (by omega); have B1 : Below w.heap.size w w1 := Below.trans (by repeat (first | with_reducible exact Below.refl _ _ | with_reducible assumption | with_reducible refine Below.drew ?_ | with_reducible refine below_drews ?_ _ | with_reducible refine Below.alloc ?_ (by first | omega | (simp; done) | (simp; omega)) _ | with_reducible refine Below.setCell ?_ (by first | omega | (simp; done) | (simp; omega)) _)) (hb1.mono (by simp)))
      go_ret
      exact ⟨rfl, (by repeat (first | with_reducible exact Below.refl _ _ | with_reducible assumption | with_reducible refine Below.drew ?_ | with_reducible refine below_drews ?_ _ | with_reducible refine Below.alloc ?_ (by first | omega | (simp; done) | (simp; omega)) _ | with_reducible refine Below.setCell ?_ (by first | omega | (simp; done) | (simp; omega)) _))⟩
end Go.Proofs.YtojbijapdkohlaaGreatDoor
