/- The walk of wait: the dead wait, and come in. -/
import Derived.Test.YtojbijapdkohlaaGreatDoorWNew
import Derived.Test.YtojbijapdkohlaaGreatDoorQ13WLeave
set_option linter.unusedSimpArgs false
set_option linter.unusedVariables false
namespace Go.Proofs.YtojbijapdkohlaaGreatDoor
open Go.RowKit
def waitE (m : MapV) (st : Int) (e : EntV) : Int × EntV :=
  if e.kind ≠ 1 ∨ 0 < e.health ∨ e.wait = 0 then (st, e) else if e.wait = 1 then (nextS st, ⟨e.id, e.kind, spawnP m st, ⟨0, 0⟩, 100, 0⟩) else (st, ⟨e.id, e.kind, e.at_, e.vel, e.health, e.wait - 1⟩)
def waitN (m : MapV) : Nat → Int × List EntV → Int × List EntV
  | 0, x => x
  | k + 1, x => match (waitN m k x).2[k]? with
    | none => waitN m k x
    | some e => ((waitE m (waitN m k x).1 e).1, (waitN m k x).2.set k (waitE m (waitN m k x).1 e).2)
def waitF (m : MapV) (st : Int) (l : List EntV) : Int × List EntV := waitN m l.length (st, l)
theorem waitN_len (m : MapV) (k : Nat) (x : Int × List EntV) : (waitN m k x).2.length = x.2.length := by
  induction k with
  | zero => rfl
  | succ k ih => unfold waitN; split <;> simp [ih]
theorem waitN_later (m : MapV) (k j : Nat) (x : Int × List EntV) (h : k ≤ j) : (waitN m k x).2[j]? = x.2[j]? := by
  induction k with
  | zero => rfl
  | succ k ih =>
    unfold waitN
    split
    · exact ih (by omega)
    · rw [List.getElem?_set_ne (by omega)]; exact ih (by omega)
theorem waitN_at (m : MapV) (k : Nat) (x : Int × List EntV) (e : EntV) (h : x.2[k]? = some e) : waitN m (k + 1) x = ((waitE m (waitN m k x).1 e).1, (waitN m k x).2.set k (waitE m (waitN m k x).1 e).2) := by
  have := waitN_later m k k x (Nat.le_refl _)
  show (match (waitN m k x).2[k]? with | none => _ | some e => _) = _
  rw [this, h]
set_option maxRecDepth 100000 in
set_option maxHeartbeats 8000000 in
theorem wWait (b B : Nat) (v : WorldV) (s : WorldS) (w : World) (hb : Blk w b 46 #[.int .i64 v.map.W, .int .i64 v.map.H, .slice s.ms.A s.ms.n s.ms.c, .slice s.ms.A2 s.ms.n2 s.ms.c2, .int .u64 v.st, .int .i64 v.tick, .slice s.A s.n s.c]) (hM : MapAt w B v.map s.ms) (hB : B ≤ w.heap.size) (hbB : B ≤ b) (h1 : 1 ≤ s.ms.n2) (h2 : s.ms.n2 ≤ 100000)
    (hr : Row w 55 8 s.A s.n s.c (entsV v.l)) (hA : ∀ g, blkOf s.A = some g → B ≤ g ∧ g ≠ b) (hn : s.n ≤ 1000) (hok : ∀ e ∈ v.l, 0 ≤ e.wait ∧ e.wait ≤ 20) :
    Calls Tryz.prog 172 #[.pointer (some ⟨b, 0, none⟩)] w fun r w' => r = .returned (.tuple #[]) ∧ Blk w' b 46 #[.int .i64 (WorldV.mk v.map (waitF v.map v.st v.l).1 v.tick (waitF v.map v.st v.l).2).map.W, .int .i64 (WorldV.mk v.map (waitF v.map v.st v.l).1 v.tick (waitF v.map v.st v.l).2).map.H, .slice s.ms.A s.ms.n s.ms.c, .slice s.ms.A2 s.ms.n2 s.ms.c2, .int .u64 (WorldV.mk v.map (waitF v.map v.st v.l).1 v.tick (waitF v.map v.st v.l).2).st, .int .i64 (WorldV.mk v.map (waitF v.map v.st v.l).1 v.tick (waitF v.map v.st v.l).2).tick, .slice s.A s.n s.c] ∧
      Row w' 55 8 s.A s.n s.c (entsV (waitF v.map v.st v.l).2) ∧ Chg (fun g => g = b ∨ blkOf s.A = some g) w w' := by
  obtain ⟨m, st, tick, l⟩ := v
  obtain ⟨ms, A, n, c⟩ := s
  have hlen : l.length = n := by have := hr.1; rw [entsV_length] at this; show l.length = n; have h8 : l.length * 8 = n * 8 := this; omega
  have HLEN := Lib.hid hlen
  have HB0 := Lib.hid hb
  have HR0 := Lib.hid hr
  have HM := Lib.hid hM
  have HA := Lib.hid hA
  have HOK := Lib.hid hok
  have y6 : w.cell? ⟨b, 6, none⟩ = some (.slice A n c) := hb.cell 6
  have hbl := hb.lt
  clear hlen hb hr hM hA hok
  go_enter Tryz.func172, Tryz.ntmps172
  go_wp2
  go_loopw [9] (fun i wr => ∃ (k : Nat), k ≤ n ∧ i = .int .i64 (k : Nat) ∧ Blk wr b 46 #[.int .i64 (WorldV.mk m (waitN m k (st, l)).1 tick l).map.W, .int .i64 (WorldV.mk m (waitN m k (st, l)).1 tick l).map.H, .slice (WorldS.mk ms A n c).ms.A (WorldS.mk ms A n c).ms.n (WorldS.mk ms A n c).ms.c, .slice (WorldS.mk ms A n c).ms.A2 (WorldS.mk ms A n c).ms.n2 (WorldS.mk ms A n c).ms.c2, .int .u64 (WorldV.mk m (waitN m k (st, l)).1 tick l).st, .int .i64 (WorldV.mk m (waitN m k (st, l)).1 tick l).tick, .slice (WorldS.mk ms A n c).A (WorldS.mk ms A n c).n (WorldS.mk ms A n c).c] ∧ Row wr 55 8 A n c (entsV (waitN m k (st, l)).2) ∧ Chg (fun g => g = b ∨ blkOf A = some g) w wr) (fun i _ => n - (intOf i).toNat)
  case atStart => exact ⟨0, Nat.zero_le _, rfl, HB0.out, HR0.out, Chg.refl⟩
  case round =>
    obtain ⟨k, hk, rfl, hbk, hrw, hcw⟩ := hrel
    by_cases hlt : k < n
    · obtain ⟨e, he⟩ : ∃ e, l[k]? = some e := ⟨_, List.getElem?_eq_getElem (by rw [HLEN.out]; exact hlt)⟩
      have hnext := waitN_at m k (st, l) e he
      have hke : (waitN m k (st, l)).2[k]? = some e := (waitN_later m k k (st, l) (Nat.le_refl _)).trans he
      obtain ⟨w0, w20⟩ := HOK.out e (List.mem_of_getElem? he)
      obtain ⟨⟨su, L⟩, hX⟩ : ∃ X, waitN m k (st, l) = X := ⟨_, rfl⟩
      rw [hX] at hbk hrw hnext hke
      simp only at hbk hrw hnext hke
      obtain ⟨g, off, rfl, hgl, h8⟩ := hrw.ent (e := e) hke
      obtain ⟨hgB, hgb⟩ := HA.out g rfl
      have c1 : wr.cell? ⟨g, off + k * 8 + 1, none⟩ = some (.int .i64 e.kind) := (h8 1 (by decide)).1
      have c2 : wr.cell? ⟨g, off + k * 8 + 2, none⟩ = some (.int .i64 e.at_.x) := (h8 2 (by decide)).1
      have c3 : wr.cell? ⟨g, off + k * 8 + 3, none⟩ = some (.int .i64 e.at_.y) := (h8 3 (by decide)).1
      have c4 : wr.cell? ⟨g, off + k * 8 + 4, none⟩ = some (.int .i64 e.vel.x) := (h8 4 (by decide)).1
      have c5 : wr.cell? ⟨g, off + k * 8 + 5, none⟩ = some (.int .i64 e.vel.y) := (h8 5 (by decide)).1
      have c6 : wr.cell? ⟨g, off + k * 8 + 6, none⟩ = some (.int .i64 e.health) := (h8 6 (by decide)).1
      have c7 : wr.cell? ⟨g, off + k * 8 + 7, none⟩ = some (.int .i64 e.wait) := (h8 7 (by decide)).1
      have f7 : wr.frozen? ⟨g, off + k * 8 + 7, none⟩ = false := (h8 7 (by decide)).2
      have x6 : wr.cell? ⟨b, 6, none⟩ = some (.slice (some ⟨g, off, none⟩) n c) := hbk.cell 6
      have hbl2 := hbk.lt
      have HBK := Lib.hid hbk
      have HRW := Lib.hid hrw
      have HCW := Lib.hid hcw
      have HKE := Lib.hid hke
      have HNX := Lib.hid hnext
      clear h8 hbk hrw hcw hke hnext hX he y6 HB0 HR0
      by_cases a1 : e.kind = 1
      · have a1' : (e.kind != 1) = false := by rw [a1]; rfl
        by_cases a2 : 0 < e.health
        · have a2' : decide (0 < e.health) = true := decide_eq_true a2
          have HQ := Lib.hid (show waitE m su e = (su, e) by unfold waitE; rw [if_pos (.inr (.inl a2))])
          clear a1
          go_wp2
          have hnx := HNX.out
          rw [HQ.out, set_same HKE.out] at hnx
          exact ⟨⟨k + 1, hlt, by go_num, by rw [hnx]; exact HBK.out, by rw [hnx]; exact HRW.out, HCW.out⟩, by simp [intOf]; omega⟩
        · have a2' : decide (0 < e.health) = false := decide_eq_false a2
          by_cases a3 : e.wait = 0
          · have a3' : (e.wait == 0) = true := by rw [a3]; rfl
            have HQ := Lib.hid (show waitE m su e = (su, e) by unfold waitE; rw [if_pos (.inr (.inr a3))])
            clear a1 a2 a3
            go_wp2
            have hnx := HNX.out
            rw [HQ.out, set_same HKE.out] at hnx
            exact ⟨⟨k + 1, hlt, by go_num, by rw [hnx]; exact HBK.out, by rw [hnx]; exact HRW.out, HCW.out⟩, by simp [intOf]; omega⟩
          · have a3' : (e.wait == 0) = false := beq_eq_false_iff_ne.2 a3
            have hno : ¬ (e.kind ≠ 1 ∨ 0 < e.health ∨ e.wait = 0) := by
              rintro (h | h | h)
              · exact h a1
              · exact a2 h
              · exact a3 h
            by_cases a4 : e.wait = 1
            · have HQ := Lib.hid (show waitE m su e = (nextS su, ⟨e.id, e.kind, spawnP m su, ⟨0, 0⟩, 100, 0⟩) by unfold waitE; rw [if_neg hno, if_pos a4])
              have a4' : (e.wait - 1 == 0) = true := by rw [a4]; rfl
              clear a1 a2 a3 hno
              obtain ⟨p, hp⟩ : ∃ p, spawnP m su = p := ⟨_, rfl⟩
              have hbk1 : Blk (wr.setCell ⟨g, off + k * 8 + 7, none⟩ (.int .i64 0)) b 46 #[.int .i64 (WorldV.mk m su tick L).map.W, .int .i64 (WorldV.mk m su tick L).map.H, .slice (WorldS.mk ms (some ⟨g, off, none⟩) n c).ms.A (WorldS.mk ms (some ⟨g, off, none⟩) n c).ms.n (WorldS.mk ms (some ⟨g, off, none⟩) n c).ms.c, .slice (WorldS.mk ms (some ⟨g, off, none⟩) n c).ms.A2 (WorldS.mk ms (some ⟨g, off, none⟩) n c).ms.n2 (WorldS.mk ms (some ⟨g, off, none⟩) n c).ms.c2, .int .u64 (WorldV.mk m su tick L).st, .int .i64 (WorldV.mk m su tick L).tick, .slice (WorldS.mk ms (some ⟨g, off, none⟩) n c).A (WorldS.mk ms (some ⟨g, off, none⟩) n c).n (WorldS.mk ms (some ⟨g, off, none⟩) n c).c] := HBK.out.far (p := ⟨g, off + k * 8 + 7, none⟩) (Ne.symm hgb) _
              have hr1 := HRW.out.ent1 rfl HKE.out 7 (by decide) (.int .i64 0) ⟨e.id, e.kind, e.at_, e.vel, e.health, 0⟩ rfl
              have hcw1 : Chg (fun q => q = b ∨ blkOf (some ⟨g, off, none⟩ : Option Addr) = some q) w (wr.setCell ⟨g, off + k * 8 + 7, none⟩ (.int .i64 0)) := Chg.setCell (p := ⟨g, off + k * 8 + 7, none⟩) HCW.out (.inl (.inr rfl)) _
              have hM1 := (HM.out.below (hcw1.to_below hB (fun q hq => by rcases hq with rfl | hq; exact hbB; exact (HA.out q hq).1))).upto (B' := (wr.setCell ⟨g, off + k * 8 + 7, none⟩ (.int .i64 0)).heap.size) (by have := hcw1.size; omega)
              have hne : ∀ q, blkOf ms.A2 = some q → q ≠ b := fun q hq => by
                obtain ⟨ad, h, h', _⟩ := HM.out.spawns.2 h1
                have h : ms.A2 = some ad := h
                rw [h] at hq
                have : ad.block = q := by simpa [blkOf] using hq
                omega
              have hS := wSpawn b ⟨m, su, tick, L⟩ ⟨ms, some ⟨g, off, none⟩, n, c⟩ _ hbk1 hM1 h1 h2 hne
              have hS2 : Calls Tryz.prog 154 #[.pointer (some ⟨b, 0, none⟩)] (wr.setCell ⟨g, off + k * 8 + 7, none⟩ (.int .i64 0)) fun r w' => r = .returned (.agg #[.int .i64 p.x, .int .i64 p.y]) ∧ Blk w' b 46 #[.int .i64 (WorldV.mk m (nextS su) tick L).map.W, .int .i64 (WorldV.mk m (nextS su) tick L).map.H, .slice (WorldS.mk ms (some ⟨g, off, none⟩) n c).ms.A (WorldS.mk ms (some ⟨g, off, none⟩) n c).ms.n (WorldS.mk ms (some ⟨g, off, none⟩) n c).ms.c, .slice (WorldS.mk ms (some ⟨g, off, none⟩) n c).ms.A2 (WorldS.mk ms (some ⟨g, off, none⟩) n c).ms.n2 (WorldS.mk ms (some ⟨g, off, none⟩) n c).ms.c2, .int .u64 (WorldV.mk m (nextS su) tick L).st, .int .i64 (WorldV.mk m (nextS su) tick L).tick, .slice (WorldS.mk ms (some ⟨g, off, none⟩) n c).A (WorldS.mk ms (some ⟨g, off, none⟩) n c).n (WorldS.mk ms (some ⟨g, off, none⟩) n c).c] ∧ Chg (fun g => g = b) (wr.setCell ⟨g, off + k * 8 + 7, none⟩ (.int .i64 0)) w' := by rw [← hp]; exact hS
              have HS := Lib.hid hS2
              have HR1 := Lib.hid hr1
              have HC1 := Lib.hid hcw1
              have HPP := Lib.hid hp
              have HA4 := Lib.hid a4
              clear hS hS2 hp hbk1 hr1 hcw1 hM1 hne
              go_wp2_with fail
              refine HS.out.mono ?_
              rintro r w5 ⟨rfl, hb5, hc5⟩
              have hr5 := HR1.out.chg hc5 (fun q hq => by cases hq; exact hgb)
              have hke5 : (L.set k ⟨e.id, e.kind, e.at_, e.vel, e.health, 0⟩)[k]? = some ⟨e.id, e.kind, e.at_, e.vel, e.health, 0⟩ := List.getElem?_set_self (List.getElem?_eq_some_iff.1 HKE.out).1
              obtain ⟨g', off', hA', hgl5, h8⟩ := hr5.ent hke5
              simp only [Option.some.injEq, Addr.mk.injEq, and_true] at hA'
              obtain ⟨rfl, rfl⟩ := hA'
              have c2 : w5.cell? ⟨g, off + k * 8 + 2, none⟩ = some (.int .i64 e.at_.x) := (h8 2 (by decide)).1
              have c3 : w5.cell? ⟨g, off + k * 8 + 3, none⟩ = some (.int .i64 e.at_.y) := (h8 3 (by decide)).1
              have c4 : w5.cell? ⟨g, off + k * 8 + 4, none⟩ = some (.int .i64 e.vel.x) := (h8 4 (by decide)).1
              have c5 : w5.cell? ⟨g, off + k * 8 + 5, none⟩ = some (.int .i64 e.vel.y) := (h8 5 (by decide)).1
              have c6 : w5.cell? ⟨g, off + k * 8 + 6, none⟩ = some (.int .i64 e.health) := (h8 6 (by decide)).1
              have f2 : w5.frozen? ⟨g, off + k * 8 + 2, none⟩ = false := (h8 2 (by decide)).2
              have f3 : w5.frozen? ⟨g, off + k * 8 + 3, none⟩ = false := (h8 3 (by decide)).2
              have f4 : w5.frozen? ⟨g, off + k * 8 + 4, none⟩ = false := (h8 4 (by decide)).2
              have f5 : w5.frozen? ⟨g, off + k * 8 + 5, none⟩ = false := (h8 5 (by decide)).2
              have f6 : w5.frozen? ⟨g, off + k * 8 + 6, none⟩ = false := (h8 6 (by decide)).2
              have HR5 := Lib.hid hr5
              have HB5 := Lib.hid hb5
              have HC5 := Lib.hid (HC1.out.trans hc5 (fun q hq => .inl (.inl hq)))
              clear h8 hr5 hb5 hc5
              go_wp2
              have hnx := HNX.out
              rw [HQ.out, HPP.out] at hnx
              have q : ∀ y : EntV, (L.set k y)[k]? = some y := fun y => by rw [List.getElem?_set_self (List.getElem?_eq_some_iff.1 HKE.out).1]
              have r2 := HR5.out.ent1 (e := ⟨e.id, e.kind, e.at_, e.vel, e.health, 0⟩) rfl (q _) 2 (by decide) (.int .i64 p.x) ⟨e.id, e.kind, ⟨p.x, e.at_.y⟩, e.vel, e.health, 0⟩ rfl
              rw [List.set_set] at r2
              have r3 := r2.ent1 (e := ⟨e.id, e.kind, ⟨p.x, e.at_.y⟩, e.vel, e.health, 0⟩) rfl (q _) 3 (by decide) (.int .i64 p.y) ⟨e.id, e.kind, p, e.vel, e.health, 0⟩ rfl
              rw [List.set_set] at r3
              have r4 := r3.ent1 (e := ⟨e.id, e.kind, p, e.vel, e.health, 0⟩) rfl (q _) 4 (by decide) (.int .i64 0) ⟨e.id, e.kind, p, ⟨0, e.vel.y⟩, e.health, 0⟩ rfl
              rw [List.set_set] at r4
              have r5 := r4.ent1 (e := ⟨e.id, e.kind, p, ⟨0, e.vel.y⟩, e.health, 0⟩) rfl (q _) 5 (by decide) (.int .i64 0) ⟨e.id, e.kind, p, ⟨0, 0⟩, e.health, 0⟩ rfl
              rw [List.set_set] at r5
              have r6 := r5.ent1 (e := ⟨e.id, e.kind, p, ⟨0, 0⟩, e.health, 0⟩) rfl (q _) 6 (by decide) (.int .i64 100) ⟨e.id, e.kind, p, ⟨0, 0⟩, 100, 0⟩ rfl
              rw [List.set_set] at r6
              have far : ∀ (W : World) (j : Nat) (u : Value), Blk W b 46 #[.int .i64 (WorldV.mk m (nextS su) tick L).map.W, .int .i64 (WorldV.mk m (nextS su) tick L).map.H, .slice (WorldS.mk ms (some ⟨g, off, none⟩) n c).ms.A (WorldS.mk ms (some ⟨g, off, none⟩) n c).ms.n (WorldS.mk ms (some ⟨g, off, none⟩) n c).ms.c, .slice (WorldS.mk ms (some ⟨g, off, none⟩) n c).ms.A2 (WorldS.mk ms (some ⟨g, off, none⟩) n c).ms.n2 (WorldS.mk ms (some ⟨g, off, none⟩) n c).ms.c2, .int .u64 (WorldV.mk m (nextS su) tick L).st, .int .i64 (WorldV.mk m (nextS su) tick L).tick, .slice (WorldS.mk ms (some ⟨g, off, none⟩) n c).A (WorldS.mk ms (some ⟨g, off, none⟩) n c).n (WorldS.mk ms (some ⟨g, off, none⟩) n c).c] → Blk (W.setCell ⟨g, j, none⟩ u) b 46 #[.int .i64 (WorldV.mk m (nextS su) tick L).map.W, .int .i64 (WorldV.mk m (nextS su) tick L).map.H, .slice (WorldS.mk ms (some ⟨g, off, none⟩) n c).ms.A (WorldS.mk ms (some ⟨g, off, none⟩) n c).ms.n (WorldS.mk ms (some ⟨g, off, none⟩) n c).ms.c, .slice (WorldS.mk ms (some ⟨g, off, none⟩) n c).ms.A2 (WorldS.mk ms (some ⟨g, off, none⟩) n c).ms.n2 (WorldS.mk ms (some ⟨g, off, none⟩) n c).ms.c2, .int .u64 (WorldV.mk m (nextS su) tick L).st, .int .i64 (WorldV.mk m (nextS su) tick L).tick, .slice (WorldS.mk ms (some ⟨g, off, none⟩) n c).A (WorldS.mk ms (some ⟨g, off, none⟩) n c).n (WorldS.mk ms (some ⟨g, off, none⟩) n c).c] := fun W j u h => h.far (p := ⟨g, j, none⟩) (Ne.symm hgb) u
              have cf : ∀ (W : World) (j : Nat) (u : Value), Chg (fun q => q = b ∨ blkOf (some ⟨g, off, none⟩ : Option Addr) = some q) w W → Chg (fun q => q = b ∨ blkOf (some ⟨g, off, none⟩ : Option Addr) = some q) w (W.setCell ⟨g, j, none⟩ u) := fun W j u h => Chg.setCell (p := ⟨g, j, none⟩) h (.inl (.inr rfl)) u
              refine ⟨⟨k + 1, hlt, by go_num, ?_, ?_, ?_⟩, by simp [intOf]; omega⟩
              · rw [hnx]; exact far _ _ _ (far _ _ _ (far _ _ _ (far _ _ _ (far _ _ _ HB5.out))))
              · rw [hnx]
                have e5 : off + k * 8 + 4 + 1 = off + k * 8 + 5 := rfl
                have e3 : off + k * 8 + 2 + 1 = off + k * 8 + 3 := rfl
                rw [← e5, ← e3] at r6
                first | exact r6 | (rw [e5, e3] at r6; exact r6) | (rw [e5] at r6; exact r6) | (rw [e3] at r6; exact r6)
              · exact cf _ _ _ (cf _ _ _ (cf _ _ _ (cf _ _ _ (cf _ _ _ HC5.out))))
            · have HQ := Lib.hid (show waitE m su e = (su, ⟨e.id, e.kind, e.at_, e.vel, e.health, e.wait - 1⟩) by unfold waitE; rw [if_neg hno, if_neg a4])
              have a4' : (e.wait - 1 == 0) = false := beq_eq_false_iff_ne.2 (by omega)
              clear a1 a2 a3 hno
              go_wp2
              have hnx := HNX.out
              rw [HQ.out] at hnx
              exact ⟨⟨k + 1, hlt, by go_num, by rw [hnx]; exact HBK.out.far (p := ⟨g, off + k * 8 + 7, none⟩) (Ne.symm hgb) _, by rw [hnx]; exact HRW.out.ent1 rfl HKE.out 7 (by decide) _ _ rfl, Chg.setCell (p := ⟨g, off + k * 8 + 7, none⟩) HCW.out (.inl (.inr rfl)) _⟩, by simp [intOf]; omega⟩
      · have a1' : (e.kind != 1) = true := bne_iff_ne.2 a1
        have HQ := Lib.hid (show waitE m su e = (su, e) by unfold waitE; rw [if_pos (.inl a1)])
        clear a1
        go_wp2
        have hnx := HNX.out
        rw [HQ.out, set_same HKE.out] at hnx
        exact ⟨⟨k + 1, hlt, by go_num, by rw [hnx]; exact HBK.out, by rw [hnx]; exact HRW.out, HCW.out⟩, by simp [intOf]; omega⟩
    · obtain rfl : k = n := by omega
      have hll := HLEN.out
      subst hll
      have HBK := Lib.hid hbk
      have HRW := Lib.hid hrw
      have HCW := Lib.hid hcw
      clear hbk hrw hcw
      go_wp2
      first | go_end0 | refine bodyPost_ret (results_none rfl _ _ _) rfl ?_
      exact ⟨rfl, HBK.out, HRW.out, HCW.out⟩
end Go.Proofs.YtojbijapdkohlaaGreatDoor
