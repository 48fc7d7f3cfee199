/- The walk of world.Tick. -/
import Derived.Test.YtojbijapdkohlaaGreatDoorWWait
set_option linter.unusedSimpArgs false
set_option linter.unusedVariables false
namespace Go.Proofs.YtojbijapdkohlaaGreatDoor
open Go.RowKit
def rollN (m : MapV) : Nat → List EntV → List EntV
  | 0, l => l
  | k + 1, l => match (rollN m k l)[k]? with
    | none => rollN m k l
    | some e => (rollN m k l).set k (rollF m e)
def bumps (p b : EntV) : Bool := decide (b.kind = 2) && decide (0 < p.health) && overlap (around b.at_ 24576) (around p.at_ 24576)
def hitAt (i j : Nat) (l : List EntV) : List EntV :=
  match l[i]?, l[j]? with
  | some p, some b => if bumps p b then l.set i (hitE p 5) else l
  | _, _ => l
def hitJ (i : Nat) : Nat → List EntV → List EntV
  | 0, l => l
  | j + 1, l => hitAt i j (hitJ i j l)
def hitI (n : Nat) : Nat → List EntV → List EntV
  | 0, l => l
  | i + 1, l => match (hitI n i l)[i]? with
    | none => hitI n i l
    | some p => if p.kind = 1 then hitJ i n (hitI n i l) else hitI n i l
def okE (e : EntV) : Prop := 0 ≤ e.health ∧ e.health ≤ 100 ∧ 0 ≤ e.wait ∧ e.wait ≤ 20
def tickF (v : WorldV) : WorldV :=
  let l2 := hitI v.l.length v.l.length (rollN v.map v.l.length v.l)
  ⟨v.map, (waitF v.map v.st l2).1, wrap64 (v.tick + 1), (waitF v.map v.st l2).2⟩
theorem rollN_len (m : MapV) (k : Nat) (l : List EntV) : (rollN m k l).length = l.length := by
  induction k with
  | zero => rfl
  | succ k ih => unfold rollN; split <;> simp [ih]
theorem rollN_later (m : MapV) (k j : Nat) (l : List EntV) (h : k ≤ j) : (rollN m k l)[j]? = l[j]? := by
  induction k with
  | zero => rfl
  | succ k ih =>
    unfold rollN
    split
    · exact ih (by omega)
    · rw [List.getElem?_set_ne (by omega)]; exact ih (by omega)
theorem rollN_at (m : MapV) (k : Nat) (l : List EntV) (e : EntV) (h : l[k]? = some e) : rollN m (k + 1) l = (rollN m k l).set k (rollF m e) := by
  have := rollN_later m k k l (Nat.le_refl _)
  show (match (rollN m k l)[k]? with | none => _ | some e => _) = _
  rw [this, h]
theorem rollF_ok (m : MapV) (e : EntV) (h : okE e) : okE (rollF m e) := by
  unfold rollF
  split
  · exact h
  · exact h
theorem set_all {P : EntV → Prop} {l : List EntV} {k : Nat} {e : EntV} (h : ∀ x ∈ l, P x) (he : P e) : ∀ x ∈ l.set k e, P x := fun x hx => by
  rcases List.mem_or_eq_of_mem_set hx with h1 | h1
  · exact h x h1
  · rw [h1]; exact he
theorem rollN_ok (m : MapV) (k : Nat) (l : List EntV) (h : ∀ e ∈ l, okE e) : ∀ e ∈ rollN m k l, okE e := by
  induction k with
  | zero => exact h
  | succ k ih =>
    unfold rollN
    split
    · exact ih
    · rename_i e he
      exact set_all ih (rollF_ok m e (ih e (List.mem_of_getElem? he)))
theorem hitE_ok (e : EntV) (h : okE e) : okE (hitE e 5) := by
  obtain ⟨h1, h2, h3, h4⟩ := h
  unfold hitE
  split
  · exact ⟨by show 0 ≤ e.health - 5; omega, by show e.health - 5 ≤ 100; omega, h3, h4⟩
  · exact ⟨by show (0 : Int) ≤ 0; omega, by show (0 : Int) ≤ 100; omega, by show (0 : Int) ≤ 20; omega, by show (20 : Int) ≤ 20; omega⟩
theorem hitAt_ok (i j : Nat) (l : List EntV) (h : ∀ e ∈ l, okE e) : ∀ e ∈ hitAt i j l, okE e := by
  unfold hitAt
  split
  · rename_i p b hp hb
    split
    · exact set_all h (hitE_ok p (h p (List.mem_of_getElem? hp)))
    · exact h
  · exact h
theorem hitJ_ok (i j : Nat) (l : List EntV) (h : ∀ e ∈ l, okE e) : ∀ e ∈ hitJ i j l, okE e := by
  induction j with
  | zero => exact h
  | succ j ih => exact hitAt_ok i j _ ih
theorem hitI_ok (n i : Nat) (l : List EntV) (h : ∀ e ∈ l, okE e) : ∀ e ∈ hitI n i l, okE e := by
  induction i with
  | zero => exact h
  | succ i ih =>
    unfold hitI
    split
    · exact ih
    · split
      · exact hitJ_ok _ _ _ ih
      · exact ih
theorem hitAt_len (i j : Nat) (l : List EntV) : (hitAt i j l).length = l.length := by
  unfold hitAt
  split
  · split <;> simp
  · rfl
theorem hitJ_len (i j : Nat) (l : List EntV) : (hitJ i j l).length = l.length := by
  induction j with
  | zero => rfl
  | succ j ih => exact (hitAt_len i j _).trans ih
theorem hitI_len (n i : Nat) (l : List EntV) : (hitI n i l).length = l.length := by
  induction i with
  | zero => rfl
  | succ i ih =>
    unfold hitI
    split
    · exact ih
    · split
      · exact (hitJ_len _ _ _).trans ih
      · exact ih
set_option maxRecDepth 100000 in
set_option maxHeartbeats 16000000 in
theorem wTick (v : WorldV) (s : WorldS) (w : World) (h : WorldAt w w.heap.size v s) (hn : s.n ≤ 1000) (h1 : 1 ≤ s.ms.n2) (h2 : s.ms.n2 ≤ 100000) (hok : ∀ e ∈ v.l, okE e) :
    Calls Tryz.prog 100 #[(.agg #[.int .i64 v.map.W, .int .i64 v.map.H, .slice s.ms.A s.ms.n s.ms.c, .slice s.ms.A2 s.ms.n2 s.ms.c2, .int .u64 v.st, .int .i64 v.tick, .slice s.A s.n s.c])] w fun r w' => Gives w w' v s r (tickF v) := by
  have hC := fun W (hW : Below w.heap.size w W) => cloneE v.l W s.A s.n s.c ((h.l.below hW).upto hW.size) (by omega)
  have hlen := h.len
  have HC := Lib.hid hC
  have HW := Lib.hid h
  have HOK := Lib.hid hok
  have HLEN := Lib.hid hlen
  clear h hC hlen hok
  obtain ⟨m, st, tick, l⟩ := v
  obtain ⟨ms, A0, n, c0⟩ := s
  simp only at hn h1 h2
  go_enter Tryz.func100, Tryz.ntmps100
  go_wp2_with fail
  have mb0 : Blk ((w.alloc (.cells #[.int .i64 m.W, .int .i64 m.H, .slice ms.A ms.n ms.c, .slice ms.A2 ms.n2 ms.c2, .int .u64 st, .int .i64 tick, .slice A0 n c0] 46)).alloc (.cells #[.int .i64 0, .int .i64 0, .slice none 0 0, .slice none 0 0, .int .u64 0, .int .i64 0, .slice none 0 0] 46)) w.heap.size 46 #[.int .i64 m.W, .int .i64 m.H, .slice ms.A ms.n ms.c, .slice ms.A2 ms.n2 ms.c2, .int .u64 st, .int .i64 tick, .slice A0 n c0] := (Blk.new _ _ _).alloc _
  have mz0 : Blk ((w.alloc (.cells #[.int .i64 m.W, .int .i64 m.H, .slice ms.A ms.n ms.c, .slice ms.A2 ms.n2 ms.c2, .int .u64 st, .int .i64 tick, .slice A0 n c0] 46)).alloc (.cells #[.int .i64 0, .int .i64 0, .slice none 0 0, .slice none 0 0, .int .u64 0, .int .i64 0, .slice none 0 0] 46)) (w.heap.size + 1) 46 #[.int .i64 0, .int .i64 0, .slice none 0 0, .slice none 0 0, .int .u64 0, .int .i64 0, .slice none 0 0] := by
    have := Blk.new (w.alloc (.cells #[.int .i64 m.W, .int .i64 m.H, .slice ms.A ms.n ms.c, .slice ms.A2 ms.n2 ms.c2, .int .u64 st, .int .i64 tick, .slice A0 n c0] 46)) 46 #[.int .i64 0, .int .i64 0, .slice none 0 0, .slice none 0 0, .int .u64 0, .int .i64 0, .slice none 0 0]
    simpa using this
  refine (HC.out _ (by repeat (first | with_reducible exact Below.refl _ _ | with_reducible assumption | with_reducible refine Below.drew ?_ | with_reducible refine below_drews ?_ _ | with_reducible refine Below.alloc ?_ (by first | omega | (simp; done) | (simp; omega)) _ | with_reducible refine Below.setCell ?_ (by first | omega | (simp; done) | (simp; omega)) _))).mono ?_
  rintro r w2 ⟨A, c, rfl, hr2, hf2, hb2⟩
  have mb2 := Blk.below mb0 hb2 (by simp; omega)
  have mz2 := Blk.below mz0 hb2 (by simp)
  have hs2 := hb2.size
  (try simp at hs2)
  have hA : ∀ g, blkOf A = some g → w.heap.size + 1 < g := fun g hg => by have := hf2 g hg; (try simp at this); omega
  have B2 : Below w.heap.size w w2 := Below.trans (by repeat (first | with_reducible exact Below.refl _ _ | with_reducible assumption | with_reducible refine Below.drew ?_ | with_reducible refine below_drews ?_ _ | with_reducible refine Below.alloc ?_ (by first | omega | (simp; done) | (simp; omega)) _ | with_reducible refine Below.setCell ?_ (by first | omega | (simp; done) | (simp; omega)) _)) (hb2.mono (by (try simp) <;> omega))
  have l7 : w.heap.size < w2.heap.size := by omega
  have y0 : w2.cell? ⟨w.heap.size, 0, none⟩ = some (.int .i64 m.W) := mb2.cell 0
  have y1 : w2.cell? ⟨w.heap.size, 1, none⟩ = some (.int .i64 m.H) := mb2.cell 1
  have y2 : w2.cell? ⟨w.heap.size, 2, none⟩ = some (.slice ms.A ms.n ms.c) := mb2.cell 2
  have y3 : w2.cell? ⟨w.heap.size, 3, none⟩ = some (.slice ms.A2 ms.n2 ms.c2) := mb2.cell 3
  have y4 : w2.cell? ⟨w.heap.size, 4, none⟩ = some (.int .u64 st) := mb2.cell 4
  have y5 : w2.cell? ⟨w.heap.size, 5, none⟩ = some (.int .i64 tick) := mb2.cell 5
  have y6 : w2.cell? ⟨w.heap.size, 6, none⟩ = some (.slice A0 n c0) := mb2.cell 6
  have z0 := mb2.frozen 0
  have z1 := mb2.frozen 1
  have z2 := mb2.frozen 2
  have z3 := mb2.frozen 3
  have z4 := mb2.frozen 4
  have z5 := mb2.frozen 5
  have z6 := mb2.frozen 6
  have hr3 : Row (w2.setCell ⟨w.heap.size, 6, none⟩ (.slice A n c)) 55 8 A n c (entsV l) := hr2.far (p := ⟨w.heap.size, 6, none⟩) (fun g hg => by have := hA g hg; show g ≠ w.heap.size; omega) _
  have mb3 : Blk (w2.setCell ⟨w.heap.size, 6, none⟩ (.slice A n c)) w.heap.size 46 #[.int .i64 m.W, .int .i64 m.H, .slice ms.A ms.n ms.c, .slice ms.A2 ms.n2 ms.c2, .int .u64 st, .int .i64 tick, .slice A n c] := mb2.set_ 6 _
  have mz3 : Blk (w2.setCell ⟨w.heap.size, 6, none⟩ (.slice A n c)) (w.heap.size + 1) 46 #[.int .i64 0, .int .i64 0, .slice none 0 0, .slice none 0 0, .int .u64 0, .int .i64 0, .slice none 0 0] := mz2.far (by simp) _
  have B4 : Below w.heap.size w (w2.setCell ⟨w.heap.size, 6, none⟩ (.slice A n c)) := (by repeat (first | with_reducible exact Below.refl _ _ | with_reducible assumption | with_reducible refine Below.drew ?_ | with_reducible refine below_drews ?_ _ | with_reducible refine Below.alloc ?_ (by first | omega | (simp; done) | (simp; omega)) _ | with_reducible refine Below.setCell ?_ (by first | omega | (simp; done) | (simp; omega)) _))
  have HR3 := Lib.hid hr3
  have HB3 := Lib.hid mb3
  have HZ3 := Lib.hid mz3
  have HBB := Lib.hid B4
  have HA := Lib.hid hA
  have HMAP := Lib.hid (fun W (hW : Below w.heap.size w W) => HW.out.map.below hW)
  clear hr2 hr3 mb3 mz3 B4 mb0 mz0 mb2 mz2 hb2 B2 hA hf2
  go_wp2_with fail
  go_loopw [15] (fun i wr => ∃ (k : Nat), k ≤ n ∧ i = .int .i64 (k : Nat) ∧ Blk wr w.heap.size 46 #[.int .i64 m.W, .int .i64 m.H, .slice ms.A ms.n ms.c, .slice ms.A2 ms.n2 ms.c2, .int .u64 st, .int .i64 tick, .slice A n c] ∧ Row wr 55 8 A n c (entsV (rollN m k l)) ∧ Blk wr (w.heap.size + 1) 46 #[.int .i64 0, .int .i64 0, .slice none 0 0, .slice none 0 0, .int .u64 0, .int .i64 0, .slice none 0 0] ∧ Below w.heap.size w wr) (fun i _ => n - (intOf i).toNat)
  case atStart => exact ⟨0, Nat.zero_le _, rfl, HB3.out, HR3.out, HZ3.out, HBB.out⟩
  case round =>
    obtain ⟨k, hk, rfl, hbk, hrw, hzk, hbw⟩ := hrel
    by_cases hlt : k < n
    · obtain ⟨e, he⟩ : ∃ e, l[k]? = some e := ⟨_, List.getElem?_eq_getElem (by have : l.length = n := HLEN.out; omega)⟩
      have hnext := rollN_at m k l e he
      have hke : (rollN m k l)[k]? = some e := (rollN_later m k k l (Nat.le_refl _)).trans he
      obtain ⟨L, hX⟩ : ∃ L, rollN m k l = L := ⟨_, rfl⟩
      rw [hX] at hrw hnext hke
      obtain ⟨g, off, rfl, hgl, h8⟩ := hrw.ent (e := e) hke
      have hgA := HA.out g rfl
      have hR := fun W (hW : Below w.heap.size w W) => mRoll m ms e W ((HMAP.out W hW).upto hW.size)
      obtain ⟨X, hXX⟩ : ∃ X, rollF m e = X := ⟨_, rfl⟩
      simp only [hXX] at hR
      rw [hXX] at hnext
      have c0 : wr.cell? ⟨g, off + k * 8, none⟩ = some (.int .i64 e.id) := (h8 0 (by decide)).1
      have c1 : wr.cell? ⟨g, off + k * 8 + 1, none⟩ = some (.int .i64 e.kind) := (h8 1 (by decide)).1
      have c2 : wr.cell? ⟨g, off + k * 8 + 2, none⟩ = some (.int .i64 e.at_.x) := (h8 2 (by decide)).1
      have c3 : wr.cell? ⟨g, off + k * 8 + 3, none⟩ = some (.int .i64 e.at_.y) := (h8 3 (by decide)).1
      have c4 : wr.cell? ⟨g, off + k * 8 + 4, none⟩ = some (.int .i64 e.vel.x) := (h8 4 (by decide)).1
      have c5 : wr.cell? ⟨g, off + k * 8 + 5, none⟩ = some (.int .i64 e.vel.y) := (h8 5 (by decide)).1
      have c6 : wr.cell? ⟨g, off + k * 8 + 6, none⟩ = some (.int .i64 e.health) := (h8 6 (by decide)).1
      have c7 : wr.cell? ⟨g, off + k * 8 + 7, none⟩ = some (.int .i64 e.wait) := (h8 7 (by decide)).1
      have y0 : wr.cell? ⟨w.heap.size, 0, none⟩ = some (.int .i64 m.W) := hbk.cell 0
      have y1 : wr.cell? ⟨w.heap.size, 1, none⟩ = some (.int .i64 m.H) := hbk.cell 1
      have y2 : wr.cell? ⟨w.heap.size, 2, none⟩ = some (.slice ms.A ms.n ms.c) := hbk.cell 2
      have y3 : wr.cell? ⟨w.heap.size, 3, none⟩ = some (.slice ms.A2 ms.n2 ms.c2) := hbk.cell 3
      have y4 : wr.cell? ⟨w.heap.size, 4, none⟩ = some (.int .u64 st) := hbk.cell 4
      have y5 : wr.cell? ⟨w.heap.size, 5, none⟩ = some (.int .i64 tick) := hbk.cell 5
      have y6 : wr.cell? ⟨w.heap.size, 6, none⟩ = some (.slice (some ⟨g, off, none⟩) n c) := hbk.cell 6
      have hs := hbw.size
      have hl1 := hbk.lt
      have hl2 := hzk.lt
      have HROLL := Lib.hid hR
      have HBK := Lib.hid hbk
      have HRW := Lib.hid hrw
      have HZK := Lib.hid hzk
      have HBW := Lib.hid hbw
      have HKE := Lib.hid hke
      have HNX := Lib.hid hnext
      clear h8 hR hX hXX he hbk hrw hzk hbw hke hnext
      go_wp2
      refine wp_region_kin_tail 12 (wr.heap.size) (by kernel_rfl) (by kernel_rfl) (fun kk => ?_)
      simp only [List.take_succ_cons, List.take_zero, List.drop_succ_cons, List.drop_zero]
      repeat (first | go_big_quiet_step ((go_at_call 169; exact kin_of (Nat.le_refl _) (HROLL.out _ (HBW.out.trans ((Kin.below _).mono hs))))) | quiet_step ((go_at_call 169; exact kin_of (Nat.le_refl _) (HROLL.out _ (HBW.out.trans ((Kin.below _).mono hs))))))
      refine wpQuiet_nil ?_
      rintro _ ⟨x, rfl⟩
      have hb5 := x.below
      obtain ⟨w5, hw5⟩ : ∃ w5, x.w = w5 := ⟨_, rfl⟩
      simp only [hw5] at hb5 ⊢
      clear hw5 kk x c0 c1 c2 c3 c4 c5 c6 c7 y0 y1 y2 y3 y4 y5 y6
      have hr5 := HRW.out.keep (w' := w5) (fun q hq => hb5.block q (HRW.out.lt hq))
      obtain ⟨g', off', hA', hgl5, h8⟩ := hr5.ent (e := e) HKE.out
      simp only [Option.some.injEq, Addr.mk.injEq, and_true] at hA'
      obtain ⟨rfl, rfl⟩ := hA'
      have c0 : w5.cell? ⟨g, off + k * 8, none⟩ = some (.int .i64 e.id) := (h8 0 (by decide)).1
      have f0 : w5.frozen? ⟨g, off + k * 8, none⟩ = false := (h8 0 (by decide)).2
      have c1 : w5.cell? ⟨g, off + k * 8 + 1, none⟩ = some (.int .i64 e.kind) := (h8 1 (by decide)).1
      have f1 : w5.frozen? ⟨g, off + k * 8 + 1, none⟩ = false := (h8 1 (by decide)).2
      have c2 : w5.cell? ⟨g, off + k * 8 + 2, none⟩ = some (.int .i64 e.at_.x) := (h8 2 (by decide)).1
      have f2 : w5.frozen? ⟨g, off + k * 8 + 2, none⟩ = false := (h8 2 (by decide)).2
      have c3 : w5.cell? ⟨g, off + k * 8 + 3, none⟩ = some (.int .i64 e.at_.y) := (h8 3 (by decide)).1
      have f3 : w5.frozen? ⟨g, off + k * 8 + 3, none⟩ = false := (h8 3 (by decide)).2
      have c4 : w5.cell? ⟨g, off + k * 8 + 4, none⟩ = some (.int .i64 e.vel.x) := (h8 4 (by decide)).1
      have f4 : w5.frozen? ⟨g, off + k * 8 + 4, none⟩ = false := (h8 4 (by decide)).2
      have c5 : w5.cell? ⟨g, off + k * 8 + 5, none⟩ = some (.int .i64 e.vel.y) := (h8 5 (by decide)).1
      have f5 : w5.frozen? ⟨g, off + k * 8 + 5, none⟩ = false := (h8 5 (by decide)).2
      have c6 : w5.cell? ⟨g, off + k * 8 + 6, none⟩ = some (.int .i64 e.health) := (h8 6 (by decide)).1
      have f6 : w5.frozen? ⟨g, off + k * 8 + 6, none⟩ = false := (h8 6 (by decide)).2
      have c7 : w5.cell? ⟨g, off + k * 8 + 7, none⟩ = some (.int .i64 e.wait) := (h8 7 (by decide)).1
      have f7 : w5.frozen? ⟨g, off + k * 8 + 7, none⟩ = false := (h8 7 (by decide)).2
      have HR5 := Lib.hid hr5
      have HB5 := Lib.hid hb5
      clear h8 hr5 hb5
      go_wp2
      have hb5 := HB5.out
      have hne : ∀ j : Nat, j ≠ g → ((((((((w5.setCell ⟨g, off + k * 8, none⟩ (.int .i64 X.id)).setCell ⟨g, off + k * 8 + 1, none⟩ (.int .i64 X.kind)).setCell ⟨g, off + k * 8 + 2, none⟩ (.int .i64 X.at_.x)).setCell ⟨g, off + k * 8 + 3, none⟩ (.int .i64 X.at_.y)).setCell ⟨g, off + k * 8 + 4, none⟩ (.int .i64 X.vel.x)).setCell ⟨g, off + k * 8 + 5, none⟩ (.int .i64 X.vel.y)).setCell ⟨g, off + k * 8 + 6, none⟩ (.int .i64 X.health)).setCell ⟨g, off + k * 8 + 7, none⟩ (.int .i64 X.wait)).heap[j]? = w5.heap[j]? := fun j hj => (Below.heap_setCell _ _ _ j hj).trans ((Below.heap_setCell _ _ _ j hj).trans ((Below.heap_setCell _ _ _ j hj).trans ((Below.heap_setCell _ _ _ j hj).trans ((Below.heap_setCell _ _ _ j hj).trans ((Below.heap_setCell _ _ _ j hj).trans ((Below.heap_setCell _ _ _ j hj).trans (Below.heap_setCell _ _ _ j hj)))))))
      have hr6 : Row ((((((((w5.setCell ⟨g, off + k * 8, none⟩ (.int .i64 X.id)).setCell ⟨g, off + k * 8 + 1, none⟩ (.int .i64 X.kind)).setCell ⟨g, off + k * 8 + 2, none⟩ (.int .i64 X.at_.x)).setCell ⟨g, off + k * 8 + 3, none⟩ (.int .i64 X.at_.y)).setCell ⟨g, off + k * 8 + 4, none⟩ (.int .i64 X.vel.x)).setCell ⟨g, off + k * 8 + 5, none⟩ (.int .i64 X.vel.y)).setCell ⟨g, off + k * 8 + 6, none⟩ (.int .i64 X.health)).setCell ⟨g, off + k * 8 + 7, none⟩ (.int .i64 X.wait)) 55 8 (some ⟨g, off, none⟩) n c (entsV (L.set k X)) := HR5.out.ent8 rfl HKE.out X
      have B5 : Below w.heap.size w w5 := HBW.out.trans (hb5.mono hs)
      exact ⟨⟨k + 1, hlt, by go_num, (hne _ (by omega)).trans (Blk.below HBK.out hb5 hl1), by rw [HNX.out]; exact hr6, (hne _ (by omega)).trans (Blk.below HZK.out hb5 hl2), (by repeat (first | with_reducible exact Below.refl _ _ | with_reducible assumption | with_reducible refine Below.drew ?_ | with_reducible refine below_drews ?_ _ | with_reducible refine Below.alloc ?_ (by first | omega | (simp; done) | (simp; omega)) _ | with_reducible refine Below.setCell ?_ (by first | omega | (simp; done) | (simp; omega)) _))⟩, by simp [intOf]; omega⟩
    · obtain rfl : n = k := by omega
      obtain ⟨L1, hL1⟩ : ∃ L1, rollN m n l = L1 := ⟨_, rfl⟩
      have hl1n : L1.length = n := by rw [← hL1, rollN_len]; have := HLEN.out; exact this
      have hok1 : ∀ e ∈ L1, okE e := by rw [← hL1]; exact rollN_ok m n l HOK.out
      rw [hL1] at hrw
      have HL1 := Lib.hid hL1
      have HL1N := Lib.hid hl1n
      have HOK1 := Lib.hid hok1
      have HBK := Lib.hid hbk
      have HRW := Lib.hid hrw
      have HZK := Lib.hid hzk
      have HBW := Lib.hid hbw
      have y0 : wr.cell? ⟨w.heap.size, 0, none⟩ = some (.int .i64 m.W) := hbk.cell 0
      have y1 : wr.cell? ⟨w.heap.size, 1, none⟩ = some (.int .i64 m.H) := hbk.cell 1
      have y2 : wr.cell? ⟨w.heap.size, 2, none⟩ = some (.slice ms.A ms.n ms.c) := hbk.cell 2
      have y3 : wr.cell? ⟨w.heap.size, 3, none⟩ = some (.slice ms.A2 ms.n2 ms.c2) := hbk.cell 3
      have y4 : wr.cell? ⟨w.heap.size, 4, none⟩ = some (.int .u64 st) := hbk.cell 4
      have y5 : wr.cell? ⟨w.heap.size, 5, none⟩ = some (.int .i64 tick) := hbk.cell 5
      have y6 : wr.cell? ⟨w.heap.size, 6, none⟩ = some (.slice A n c) := hbk.cell 6
      have hl1 := hbk.lt
      clear hL1 hl1n hok1 hbk hrw hzk hbw y0 y1 y2 y3 y4 y5
      go_wp2
      clear y6
      go_loopw [34] (fun i wr => ∃ (k : Nat), k ≤ n ∧ i = .int .i64 (k : Nat) ∧ Blk wr w.heap.size 46 #[.int .i64 m.W, .int .i64 m.H, .slice ms.A ms.n ms.c, .slice ms.A2 ms.n2 ms.c2, .int .u64 st, .int .i64 tick, .slice A n c] ∧ Row wr 55 8 A n c (entsV (hitI n k L1)) ∧ Blk wr (w.heap.size + 1) 46 #[.int .i64 0, .int .i64 0, .slice none 0 0, .slice none 0 0, .int .u64 0, .int .i64 0, .slice none 0 0] ∧ Below w.heap.size w wr) (fun i _ => n - (intOf i).toNat)
      case atStart => exact ⟨0, Nat.zero_le _, rfl, HBK.out, HRW.out, HZK.out, HBW.out⟩
      case round =>
        clear HBK HRW HZK HBW hl1
        obtain ⟨k, hk, rfl, hbk, hrw, hzk, hbw⟩ := hrel
        by_cases hlt : k < n
        · obtain ⟨e, hke⟩ : ∃ e, (hitI n k L1)[k]? = some e := ⟨_, List.getElem?_eq_getElem (by rw [hitI_len, HL1N.out]; exact hlt)⟩
          have hnext : hitI n (k + 1) L1 = if e.kind = 1 then hitJ k n (hitI n k L1) else hitI n k L1 := by
            show (match (hitI n k L1)[k]? with | none => _ | some p => _) = _
            rw [hke]
          have hokk : ∀ e ∈ hitI n k L1, okE e := hitI_ok n k L1 HOK1.out
          have hlk : (hitI n k L1).length = n := by rw [hitI_len, HL1N.out]
          obtain ⟨Lc, hX⟩ : ∃ Lc, hitI n k L1 = Lc := ⟨_, rfl⟩
          rw [hX] at hrw hnext hke hokk hlk
          obtain ⟨g, off, rfl, hgl, h8⟩ := hrw.ent (e := e) hke
          have hgA := HA.out g rfl
          have c1 : wr.cell? ⟨g, off + k * 8 + 1, none⟩ = some (.int .i64 e.kind) := (h8 1 (by decide)).1
          have y6 : wr.cell? ⟨w.heap.size, 6, none⟩ = some (.slice (some ⟨g, off, none⟩) n c) := hbk.cell 6
          have hl1 := hbk.lt
          have HBK := Lib.hid hbk
          have HRW := Lib.hid hrw
          have HZK := Lib.hid hzk
          have HBW := Lib.hid hbw
          have HKE := Lib.hid hke
          have HNX := Lib.hid hnext
          have HOKK := Lib.hid hokk
          have HLK := Lib.hid hlk
          have HHX := Lib.hid hX
          clear h8 hX hbk hrw hzk hbw hke hnext hokk hlk
          by_cases a1 : e.kind = 1
          · have a1' : (e.kind != 1) = false := by rw [a1]; rfl
            have HQ := Lib.hid (show (if e.kind = 1 then hitJ k n Lc else Lc) = hitJ k n Lc from if_pos a1)
            clear a1
            go_wp2
            obtain ⟨wo, hwo⟩ : ∃ wo : World, wo = wr := ⟨_, rfl⟩
            go_loopw [49] (fun i wq => ∃ (j : Nat), j ≤ n ∧ i = .int .i64 (j : Nat) ∧ Blk wq w.heap.size 46 #[.int .i64 m.W, .int .i64 m.H, .slice ms.A ms.n ms.c, .slice ms.A2 ms.n2 ms.c2, .int .u64 st, .int .i64 tick, .slice (some ⟨g, off, none⟩) n c] ∧ Row wq 55 8 (some ⟨g, off, none⟩) n c (entsV (hitJ k j Lc)) ∧ Blk wq (w.heap.size + 1) 46 #[.int .i64 0, .int .i64 0, .slice none 0 0, .slice none 0 0, .int .u64 0, .int .i64 0, .slice none 0 0] ∧ Below w.heap.size w wq) (fun i _ => n - (intOf i).toNat)
            case atStart => exact ⟨0, Nat.zero_le _, rfl, HBK.out, HRW.out, HZK.out, HBW.out⟩
            case round =>
              clear HBK HRW HZK HBW hl1 y6 c1 hwo
              obtain ⟨j, hj, rfl, hbk, hrw, hzk, hbw⟩ := hrel
              have hljn : (hitJ k j Lc).length = n := by rw [hitJ_len]; exact HLK.out
              by_cases hlt2 : j < n
              · obtain ⟨q, hq⟩ : ∃ q, (hitJ k j Lc)[j]? = some q := ⟨_, List.getElem?_eq_getElem (by rw [hljn]; exact hlt2)⟩
                obtain ⟨p, hp⟩ : ∃ p, (hitJ k j Lc)[k]? = some p := ⟨_, List.getElem?_eq_getElem (by rw [hljn]; exact hlt)⟩
                have hnext : hitJ k (j + 1) Lc = if bumps p q then (hitJ k j Lc).set k (hitE p 5) else hitJ k j Lc := by
                  show hitAt k j (hitJ k j Lc) = _
                  unfold hitAt
                  rw [hp, hq]
                obtain ⟨p0, p1, -, -⟩ := hitJ_ok k j Lc HOKK.out p (List.mem_of_getElem? hp)
                obtain ⟨Lj, hX⟩ : ∃ Lj, hitJ k j Lc = Lj := ⟨_, rfl⟩
                rw [hX] at hrw hnext hq hp
                obtain ⟨g1, off1, hA1, hgl, h8⟩ := hrw.ent (e := q) hq
                simp only [Option.some.injEq, Addr.mk.injEq, and_true] at hA1
                obtain ⟨rfl, rfl⟩ := hA1
                obtain ⟨g1, off1, hA1, hgl, h9⟩ := hrw.ent (e := p) hp
                simp only [Option.some.injEq, Addr.mk.injEq, and_true] at hA1
                obtain ⟨rfl, rfl⟩ := hA1
                have d0 : wr.cell? ⟨g, off + j * 8, none⟩ = some (.int .i64 q.id) := (h8 0 (by decide)).1
                have d1 : wr.cell? ⟨g, off + j * 8 + 1, none⟩ = some (.int .i64 q.kind) := (h8 1 (by decide)).1
                have d2 : wr.cell? ⟨g, off + j * 8 + 2, none⟩ = some (.int .i64 q.at_.x) := (h8 2 (by decide)).1
                have d3 : wr.cell? ⟨g, off + j * 8 + 3, none⟩ = some (.int .i64 q.at_.y) := (h8 3 (by decide)).1
                have d4 : wr.cell? ⟨g, off + j * 8 + 4, none⟩ = some (.int .i64 q.vel.x) := (h8 4 (by decide)).1
                have d5 : wr.cell? ⟨g, off + j * 8 + 5, none⟩ = some (.int .i64 q.vel.y) := (h8 5 (by decide)).1
                have d6 : wr.cell? ⟨g, off + j * 8 + 6, none⟩ = some (.int .i64 q.health) := (h8 6 (by decide)).1
                have d7 : wr.cell? ⟨g, off + j * 8 + 7, none⟩ = some (.int .i64 q.wait) := (h8 7 (by decide)).1
                have c6 : wr.cell? ⟨g, off + k * 8 + 6, none⟩ = some (.int .i64 p.health) := (h9 6 (by decide)).1
                have c2 : wr.cell? ⟨g, off + k * 8 + 2, none⟩ = some (.int .i64 p.at_.x) := (h9 2 (by decide)).1
                have c3 : wr.cell? ⟨g, off + k * 8 + 3, none⟩ = some (.int .i64 p.at_.y) := (h9 3 (by decide)).1
                obtain ⟨v1, hv1⟩ : ∃ v1, (q.kind == 2) = v1 := ⟨_, rfl⟩
                obtain ⟨v2, hv2⟩ : ∃ v2, decide (0 < p.health) = v2 := ⟨_, rfl⟩
                obtain ⟨v3, hv3⟩ : ∃ v3, overlap (around q.at_ 24576) (around p.at_ 24576) = v3 := ⟨_, rfl⟩
                have hbump : bumps p q = (v1 && v2 && v3) := by
                  unfold bumps
                  rw [hv2, hv3, ← hv1]
                  rfl
                rw [hbump] at hnext
                have hov := fun W => boxOverlap (around q.at_ 24576) (around p.at_ 24576) W
                simp only [hv3] at hov
                have HOV := Lib.hid hov
                have HBK := Lib.hid hbk
                have HRW := Lib.hid hrw
                have HZK := Lib.hid hzk
                have HBW := Lib.hid hbw
                have HP := Lib.hid hp
                have HNX2 := Lib.hid hnext
                have hl1 := hbk.lt
                have hl2 := hzk.lt
                have hs := hbw.size
                have hg1 : g < wr.heap.size + 1 := by omega
                clear h8 h9 hX hbk hrw hzk hbw hp hq hnext hov hv3 hbump hljn
                cases v1 <;> cases v2 <;> cases v3
                all_goals
                  go_wp2
                  refine wp_region_kin' (wr.heap.size + 1) (by kernel_rfl) (by kernel_rfl) (fun kk => ?_)
                  repeat (first | go_big_quiet_step ((first | (go_at_call 29; exact kin_of (by simp) (boxAround _ _ _ _)) | (go_at_call 170; exact kin_of (by simp) (HOV.out _)))) | quiet_step ((first | (go_at_call 29; exact kin_of (by simp) (boxAround _ _ _ _)) | (go_at_call 170; exact kin_of (by simp) (HOV.out _)))))
                  refine wpQuiet_nil ?_
                  rintro _ ⟨x, rfl⟩
                  have hb5 : Below wr.heap.size wr x.w := ((Below.refl _ _).alloc (Nat.le_refl _) _).trans (x.below.mono (by omega))
                  obtain ⟨w5, hw5⟩ : ∃ w5, x.w = w5 := ⟨_, rfl⟩
                  simp only [hw5] at hb5 ⊢
                  clear hw5 kk x d0 d1 d2 d3 d4 d5 d6 d7 c6 c2 c3
                  have hbk5 := Blk.below HBK.out hb5 hl1
                  have hzk5 := Blk.below HZK.out hb5 hl2
                  have hrw5 := HRW.out.keep (w' := w5) (fun q hq => hb5.block q (HRW.out.lt hq))
                  have hbw5 : Below w.heap.size w w5 := HBW.out.trans (hb5.mono hs)
                  first
                    | (
                      go_wp2_with fail
                      exact ⟨⟨j + 1, hlt2, by go_num, hbk5, by rw [HNX2.out]; exact hrw5, hzk5, hbw5⟩, by simp [intOf]; omega⟩)
                    | (
                      go_wp2_with (go_at_call 171; refine (wHit Lj _ n c k g off p 5 _ hrw5 rfl HP.out (by decide) p0 (by omega) (by decide)).mono ?_; rintro r w6 ⟨rfl, hr6, hc6⟩)
                      exact ⟨⟨j + 1, hlt2, by go_num, hbk5.chg hc6 (by omega), by rw [HNX2.out]; exact hr6, hzk5.chg hc6 (by omega), hbw5.trans (hc6.to_below hbw5.size (fun q hq => by subst hq; omega))⟩, by simp [intOf]; omega⟩)
              · obtain rfl : n = j := by omega
                have hnx := HNX.out
                rw [HQ.out] at hnx
                go_wp2
                exact ⟨⟨k + 1, hlt, by go_num, hbk, by rw [hnx]; exact hrw, hzk, hbw⟩, by simp [intOf]; omega⟩
          · have a1' : (e.kind != 1) = true := bne_iff_ne.2 a1
            have HQ := Lib.hid (show (if e.kind = 1 then hitJ k n Lc else Lc) = Lc from if_neg a1)
            clear a1
            go_wp2
            have hnx := HNX.out
            rw [HQ.out] at hnx
            exact ⟨⟨k + 1, hlt, by go_num, HBK.out, by rw [hnx]; exact HRW.out, HZK.out, HBW.out⟩, by simp [intOf]; omega⟩
        · obtain rfl : n = k := by omega
          have hok2 : ∀ e ∈ hitI n n L1, 0 ≤ e.wait ∧ e.wait ≤ 20 := fun e he => ⟨(hitI_ok n n L1 HOK1.out e he).2.2.1, (hitI_ok n n L1 HOK1.out e he).2.2.2⟩
          have hfin : tickF ⟨m, st, tick, l⟩ = ⟨m, (waitF m st (hitI n n L1)).1, wrap64 (tick + 1), (waitF m st (hitI n n L1)).2⟩ := by
            have hll : l.length = n := HLEN.out
            unfold tickF
            simp only [hll, HL1.out]
          obtain ⟨L2, hL2⟩ : ∃ L2, hitI n n L1 = L2 := ⟨_, rfl⟩
          rw [hL2] at hrw hok2 hfin
          have hwt := wWait w.heap.size w.heap.size ⟨m, st, tick, L2⟩ ⟨ms, A, n, c⟩ wr hbk (HMAP.out wr hbw) hbw.size (Nat.le_refl _) h1 h2 hrw (fun g hg => by have := HA.out g hg; omega) hn hok2
          obtain ⟨⟨st3, L3⟩, hX3⟩ : ∃ X, waitF m st L2 = X := ⟨_, rfl⟩
          simp only [hX3] at hwt hfin
          have HFIN := Lib.hid hfin
          have HWT := Lib.hid hwt
          have HZK := Lib.hid hzk
          have HBW := Lib.hid hbw
          have hs := hbw.size
          clear hL2 hX3 hwt hok2 hfin hbk hrw hzk hbw
          go_wp2_with fail
          refine HWT.out.mono ?_
          rintro r w5 ⟨rfl, hb5, hr5, hc5⟩
          have hs5 := hc5.size
          have hA5 : ∀ g, blkOf A = some g → g ≠ w.heap.size + 1 := fun g hg => by have := HA.out g hg; omega
          have hz5 := HZK.out.chg hc5 (by rintro (h | h); omega; exact hA5 _ h rfl)
          have hB5 : Below w.heap.size w w5 := HBW.out.trans (hc5.to_below hs (fun q hq => by rcases hq with h | h; omega; have := HA.out q h; omega))
          have y0 : w5.cell? ⟨w.heap.size, 0, none⟩ = some (.int .i64 m.W) := hb5.cell 0
          have y1 : w5.cell? ⟨w.heap.size, 1, none⟩ = some (.int .i64 m.H) := hb5.cell 1
          have y2 : w5.cell? ⟨w.heap.size, 2, none⟩ = some (.slice ms.A ms.n ms.c) := hb5.cell 2
          have y3 : w5.cell? ⟨w.heap.size, 3, none⟩ = some (.slice ms.A2 ms.n2 ms.c2) := hb5.cell 3
          have y4 : w5.cell? ⟨w.heap.size, 4, none⟩ = some (.int .u64 st3) := hb5.cell 4
          have y5 : w5.cell? ⟨w.heap.size, 5, none⟩ = some (.int .i64 tick) := hb5.cell 5
          have y6 : w5.cell? ⟨w.heap.size, 6, none⟩ = some (.slice A n c) := hb5.cell 6
          have f5 := hb5.frozen 5
          have x0 : w5.cell? ⟨w.heap.size + 1, 0, none⟩ = some (.int .i64 0) := hz5.cell 0
          have x1 : w5.cell? ⟨w.heap.size + 1, 1, none⟩ = some (.int .i64 0) := hz5.cell 1
          have x2 : w5.cell? ⟨w.heap.size + 1, 2, none⟩ = some (.slice none 0 0) := hz5.cell 2
          have x3 : w5.cell? ⟨w.heap.size + 1, 3, none⟩ = some (.slice none 0 0) := hz5.cell 3
          have x4 : w5.cell? ⟨w.heap.size + 1, 4, none⟩ = some (.int .u64 0) := hz5.cell 4
          have x5 : w5.cell? ⟨w.heap.size + 1, 5, none⟩ = some (.int .i64 0) := hz5.cell 5
          have x6 : w5.cell? ⟨w.heap.size + 1, 6, none⟩ = some (.slice none 0 0) := hz5.cell 6
          have z0 := hz5.frozen 0
          have z1 := hz5.frozen 1
          have z2 := hz5.frozen 2
          have z3 := hz5.frozen 3
          have z4 := hz5.frozen 4
          have z5 := hz5.frozen 5
          have z6 := hz5.frozen 6
          have l8 : w.heap.size < w5.heap.size := hb5.lt
          have l9 : w.heap.size + 1 < w5.heap.size := hz5.lt
          have HB5 := Lib.hid hb5
          have HR5 := Lib.hid hr5
          have HZ5 := Lib.hid hz5
          have HBB5 := Lib.hid hB5
          have HA5 := Lib.hid hA5
          clear hb5 hr5 hz5 hB5 hc5 hA5
          go_wp2
          have b5 := HBB5.out
          have hB7 : Below w.heap.size w ((((((((w5.setCell ⟨w.heap.size, 5, none⟩ (.int .i64 (wrap64 (tick + 1)))).setCell ⟨w.heap.size + 1, 0, none⟩ (.int .i64 m.W)).setCell ⟨w.heap.size + 1, 1, none⟩ (.int .i64 m.H)).setCell ⟨w.heap.size + 1, 2, none⟩ (.slice ms.A ms.n ms.c)).setCell ⟨w.heap.size + 1, 3, none⟩ (.slice ms.A2 ms.n2 ms.c2)).setCell ⟨w.heap.size + 1, 4, none⟩ (.int .u64 st3)).setCell ⟨w.heap.size + 1, 5, none⟩ (.int .i64 (wrap64 (tick + 1)))).setCell ⟨w.heap.size + 1, 6, none⟩ (.slice A n c)) := (by repeat (first | with_reducible exact Below.refl _ _ | with_reducible assumption | with_reducible refine Below.drew ?_ | with_reducible refine below_drews ?_ _ | with_reducible refine Below.alloc ?_ (by first | omega | (simp; done) | (simp; omega)) _ | with_reducible refine Below.setCell ?_ (by first | omega | (simp; done) | (simp; omega)) _))
          have hz7 : Blk ((((((((w5.setCell ⟨w.heap.size, 5, none⟩ (.int .i64 (wrap64 (tick + 1)))).setCell ⟨w.heap.size + 1, 0, none⟩ (.int .i64 m.W)).setCell ⟨w.heap.size + 1, 1, none⟩ (.int .i64 m.H)).setCell ⟨w.heap.size + 1, 2, none⟩ (.slice ms.A ms.n ms.c)).setCell ⟨w.heap.size + 1, 3, none⟩ (.slice ms.A2 ms.n2 ms.c2)).setCell ⟨w.heap.size + 1, 4, none⟩ (.int .u64 st3)).setCell ⟨w.heap.size + 1, 5, none⟩ (.int .i64 (wrap64 (tick + 1)))).setCell ⟨w.heap.size + 1, 6, none⟩ (.slice A n c)) (w.heap.size + 1) 46 #[.int .i64 m.W, .int .i64 m.H, .slice ms.A ms.n ms.c, .slice ms.A2 ms.n2 ms.c2, .int .u64 st3, .int .i64 (wrap64 (tick + 1)), .slice A n c] := ((((((((HZ5.out.far (p := ⟨w.heap.size, 5, none⟩) (by simp) _).set_ 0 (.int .i64 m.W)).set_ 1 (.int .i64 m.H)).set_ 2 (.slice ms.A ms.n ms.c)).set_ 3 (.slice ms.A2 ms.n2 ms.c2)).set_ 4 (.int .u64 st3)).set_ 5 (.int .i64 (wrap64 (tick + 1)))).set_ 6 (.slice A n c))
          have hzz : ∀ j : Nat, j ≠ w.heap.size + 1 → ((((((((w5.setCell ⟨w.heap.size, 5, none⟩ (.int .i64 (wrap64 (tick + 1)))).setCell ⟨w.heap.size + 1, 0, none⟩ (.int .i64 m.W)).setCell ⟨w.heap.size + 1, 1, none⟩ (.int .i64 m.H)).setCell ⟨w.heap.size + 1, 2, none⟩ (.slice ms.A ms.n ms.c)).setCell ⟨w.heap.size + 1, 3, none⟩ (.slice ms.A2 ms.n2 ms.c2)).setCell ⟨w.heap.size + 1, 4, none⟩ (.int .u64 st3)).setCell ⟨w.heap.size + 1, 5, none⟩ (.int .i64 (wrap64 (tick + 1)))).setCell ⟨w.heap.size + 1, 6, none⟩ (.slice A n c)).heap[j]? = (w5.setCell ⟨w.heap.size, 5, none⟩ (.int .i64 (wrap64 (tick + 1)))).heap[j]? := fun j hj => (Below.heap_setCell _ _ _ j hj).trans ((Below.heap_setCell _ _ _ j hj).trans ((Below.heap_setCell _ _ _ j hj).trans ((Below.heap_setCell _ _ _ j hj).trans ((Below.heap_setCell _ _ _ j hj).trans ((Below.heap_setCell _ _ _ j hj).trans (Below.heap_setCell _ _ _ j hj))))))
          have hr7 := (HR5.out.far (p := ⟨w.heap.size, 5, none⟩) (fun g hg => by have := HA.out g hg; show g ≠ w.heap.size; omega) (.int .i64 (wrap64 (tick + 1)))).keep (w' := ((((((((w5.setCell ⟨w.heap.size, 5, none⟩ (.int .i64 (wrap64 (tick + 1)))).setCell ⟨w.heap.size + 1, 0, none⟩ (.int .i64 m.W)).setCell ⟨w.heap.size + 1, 1, none⟩ (.int .i64 m.H)).setCell ⟨w.heap.size + 1, 2, none⟩ (.slice ms.A ms.n ms.c)).setCell ⟨w.heap.size + 1, 3, none⟩ (.slice ms.A2 ms.n2 ms.c2)).setCell ⟨w.heap.size + 1, 4, none⟩ (.int .u64 st3)).setCell ⟨w.heap.size + 1, 5, none⟩ (.int .i64 (wrap64 (tick + 1)))).setCell ⟨w.heap.size + 1, 6, none⟩ (.slice A n c))) (fun g hg => hzz g (HA5.out g hg))
          clear hzz
          generalize ((((((((w5.setCell ⟨w.heap.size, 5, none⟩ (.int .i64 (wrap64 (tick + 1)))).setCell ⟨w.heap.size + 1, 0, none⟩ (.int .i64 m.W)).setCell ⟨w.heap.size + 1, 1, none⟩ (.int .i64 m.H)).setCell ⟨w.heap.size + 1, 2, none⟩ (.slice ms.A ms.n ms.c)).setCell ⟨w.heap.size + 1, 3, none⟩ (.slice ms.A2 ms.n2 ms.c2)).setCell ⟨w.heap.size + 1, 4, none⟩ (.int .u64 st3)).setCell ⟨w.heap.size + 1, 5, none⟩ (.int .i64 (wrap64 (tick + 1)))).setCell ⟨w.heap.size + 1, 6, none⟩ (.slice A n c)) = wf at hB7 hz7 hr7 ⊢
          have q0 : wf.cell? ⟨w.heap.size + 1, 0, none⟩ = some (.int .i64 m.W) := hz7.cell 0
          have q1 : wf.cell? ⟨w.heap.size + 1, 1, none⟩ = some (.int .i64 m.H) := hz7.cell 1
          have q2 : wf.cell? ⟨w.heap.size + 1, 2, none⟩ = some (.slice ms.A ms.n ms.c) := hz7.cell 2
          have q3 : wf.cell? ⟨w.heap.size + 1, 3, none⟩ = some (.slice ms.A2 ms.n2 ms.c2) := hz7.cell 3
          have q4 : wf.cell? ⟨w.heap.size + 1, 4, none⟩ = some (.int .u64 st3) := hz7.cell 4
          have q5 : wf.cell? ⟨w.heap.size + 1, 5, none⟩ = some (.int .i64 (wrap64 (tick + 1))) := hz7.cell 5
          have q6 : wf.cell? ⟨w.heap.size + 1, 6, none⟩ = some (.slice A n c) := hz7.cell 6
          refine bodyPost_ret (v := .agg #[.int .i64 m.W, .int .i64 m.H, .slice ms.A ms.n ms.c, .slice ms.A2 ms.n2 ms.c2, .int .u64 st3, .int .i64 (wrap64 (tick + 1)), .slice A n c]) (by simp [results, Tryz.results100, go_sem, q0, q1, q2, q3, q4, q5, q6]) rfl ?_
          rw [HFIN.out]
          exact ⟨⟨ms, A, n, c⟩, rfl, ⟨(HMAP.out wf hB7).upto hB7.size, hr7.reads (by decide), hr7.2.1⟩, rfl, .inr ⟨hr7, fun q hq => by have := HA.out q hq; omega⟩, hB7⟩
end Go.Proofs.YtojbijapdkohlaaGreatDoor
