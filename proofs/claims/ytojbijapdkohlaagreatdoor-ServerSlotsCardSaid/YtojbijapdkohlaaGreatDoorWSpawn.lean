/- A spawn. -/
import Derived.Test.YtojbijapdkohlaaGreatDoorWHit
set_option linter.unusedSimpArgs false
set_option linter.unusedVariables false
namespace Go.Proofs.YtojbijapdkohlaaGreatDoor
open Go.RowKit
def spawnP (m : MapV) (st : Int) : VecV := m.spawns.getD (belowK st m.spawns.length).toNat ⟨0, 0⟩
set_option maxRecDepth 100000 in
set_option maxHeartbeats 4000000 in
theorem wSpawn (b : Nat) (v : WorldV) (s : WorldS) (w : World) (hb : Blk w b 46 #[.int .i64 v.map.W, .int .i64 v.map.H, .slice s.ms.A s.ms.n s.ms.c, .slice s.ms.A2 s.ms.n2 s.ms.c2, .int .u64 v.st, .int .i64 v.tick, .slice s.A s.n s.c]) (hM : MapAt w w.heap.size v.map s.ms) (h1 : 1 ≤ s.ms.n2) (h2 : s.ms.n2 ≤ 100000) (hne : ∀ g, blkOf s.ms.A2 = some g → g ≠ b) :
    Calls Tryz.prog 154 #[.pointer (some ⟨b, 0, none⟩)] w fun r w' => r = .returned (.agg #[.int .i64 (spawnP v.map v.st).x, .int .i64 (spawnP v.map v.st).y]) ∧ Blk w' b 46 #[.int .i64 (WorldV.mk v.map (nextS v.st) v.tick v.l).map.W, .int .i64 (WorldV.mk v.map (nextS v.st) v.tick v.l).map.H, .slice s.ms.A s.ms.n s.ms.c, .slice s.ms.A2 s.ms.n2 s.ms.c2, .int .u64 (WorldV.mk v.map (nextS v.st) v.tick v.l).st, .int .i64 (WorldV.mk v.map (nextS v.st) v.tick v.l).tick, .slice s.A s.n s.c] ∧ Chg (fun g => g = b) w w' := by
  have hlen := hM.len.2
  have hsp : Reads w w.heap.size 2 s.ms.A2 s.ms.n2 (vecsV v.map.spawns) := hM.spawns
  obtain ⟨k0, kn⟩ := belowK_range v.st s.ms.n2 (by omega) (by omega)
  have hRB := fun W => rndBelow v.st s.ms.n2 (by omega) (by omega) W
  have hp : spawnP v.map v.st = v.map.spawns.getD (belowK v.st s.ms.n2).toNat ⟨0, 0⟩ := by unfold spawnP; rw [hlen]
  obtain ⟨K, hK⟩ : ∃ K : Nat, belowK v.st s.ms.n2 = (K : Int) := ⟨(belowK v.st s.ms.n2).toNat, by omega⟩
  simp only [hK] at hRB k0 kn hp
  rw [Int.toNat_natCast] at hp
  obtain ⟨p, hpk⟩ : ∃ p, v.map.spawns[K]? = some p := ⟨_, List.getElem?_eq_getElem (by omega)⟩
  have hp2 : spawnP v.map v.st = p := by rw [hp, List.getD_eq_getElem?_getD, hpk]; rfl
  rw [hp2]
  obtain ⟨g, off, hA2, hg, hc⟩ := hsp.flat (by omega) (by decide)
  have s0 : w.cell? ⟨g, off + K * 2, none⟩ = some (.int .i64 p.x) := hc _ _ (vecsV_at _ _ _ hpk).1
  have s1 : w.cell? ⟨g, off + K * 2 + 1, none⟩ = some (.int .i64 p.y) := hc _ _ (vecsV_at _ _ _ hpk).2
  have c3 : w.cell? ⟨b, 3, none⟩ = some (.slice s.ms.A2 s.ms.n2 s.ms.c2) := hb.cell 3
  have c4 : w.cell? ⟨b, 4, none⟩ = some (.int .u64 v.st) := hb.cell 4
  have f4 : w.frozen? ⟨b, 4, none⟩ = false := hb.frozen 4
  rw [hA2] at c3
  have l1 := hb.lt
  have l2 : g < w.heap.size := hg
  have hgb : ¬ g = b := hne g (by rw [hA2]; rfl)
  have t1 : decide (s.ms.n2 ≤ K) = false := decide_eq_false (by omega)
  have t2 : decide ((s.ms.n2 : Int) ≤ (K : Int)) = false := decide_eq_false (by omega)
  have hKn : K < s.ms.n2 := by omega
  have HB := Lib.hid hb
  clear hb hM hsp hc hp hpk hp2 hA2 hK kn
  go_enter Tryz.func154, Tryz.ntmps154
  go_wp2
  go_region_law (go_simp; go_at_call 155; refine (hRB _).mono ?_; rintro r w1 ⟨rfl, ⟨q, rfl⟩⟩)
  all_goals
    go_wp2
    have hbl : ¬ b = w.heap.size := by omega
    refine bodyPost_ret (v := (.agg #[.int .i64 p.x, .int .i64 p.y])) (by simp [results, Tryz.results154, go_sem]) rfl ⟨rfl, ?_, (by repeat (first | with_reducible exact Chg.refl | with_reducible assumption | with_reducible refine Chg.drewN ?_ _ | with_reducible refine Chg.drewN ?_ 1 | with_reducible refine Chg.alloc ?_ _ | with_reducible refine Chg.setCell ?_ (by first | (simp; done) | (simp; omega)) _))⟩
    have := ((((HB.out.alloc (.cells #[.int .i64 0, .int .i64 0] 53)).drewN (1 + q)).set_ 4 (.int .u64 (nextS v.st))).far (p := ⟨w.heap.size, 0, none⟩) hbl (.int .i64 p.x)).far (p := ⟨w.heap.size, 1, none⟩) hbl (.int .i64 p.y)
    exact this
end Go.Proofs.YtojbijapdkohlaaGreatDoor
