/- The walk of world.Go. -/
import Derived.Test.YtojbijapdkohlaaGreatDoorQ13WLeave
import Derived.Test.YtojbijapdkohlaaGreatDoorQ04SrvTell
import Derived.Test.YtojbijapdkohlaaGreatDoorQ03SrvPut
set_option linter.unusedSimpArgs false
set_option linter.unusedVariables false
namespace Go.Proofs.YtojbijapdkohlaaGreatDoor
open Go.RowKit
set_option maxRecDepth 100000 in
set_option maxHeartbeats 8000000 in
theorem wGoNo (v : WorldV) (s : WorldS) (q : CmdV) (id : Int) (w : World) (h : WorldAt w w.heap.size v s) (hn : s.n ≤ 1000) (hno : playerF v.l id = -1 ∨ ∃ k : Nat, playerF v.l id = (k : Int) ∧ cmdOk q = false) :
    Calls Tryz.prog 98 #[(.agg #[.int .i64 v.map.W, .int .i64 v.map.H, .slice s.ms.A s.ms.n s.ms.c, .slice s.ms.A2 s.ms.n2 s.ms.c2, .int .u64 v.st, .int .i64 v.tick, .slice s.A s.n s.c]), .agg #[.int .u32 q.num, .int .i8 q.mx, .int .i8 q.my, .bool q.fire, .int .u32 q.view, .int .u8 q.frac], .int .i64 id] w fun r w' => r = .returned (.agg #[.int .i64 v.map.W, .int .i64 v.map.H, .slice s.ms.A s.ms.n s.ms.c, .slice s.ms.A2 s.ms.n2 s.ms.c2, .int .u64 v.st, .int .i64 v.tick, .slice s.A s.n s.c]) ∧ Below w.heap.size w w' := by
  have hP := fun W (hW : Below w.heap.size w W) => wPlayer v s id W ((h.l.below hW).upto hW.size) (by omega)
  have HP := Lib.hid hP
  clear hP h
  rcases hno with h1 | ⟨k, h1, h2⟩
  · go_enter Tryz.func98, Tryz.ntmps98
    go_wp2_with (go_at_call 156; refine (HP.out _ (by repeat (first | with_reducible exact Below.refl _ _ | with_reducible assumption | with_reducible refine Below.drew ?_ | with_reducible refine below_drews ?_ _ | with_reducible refine Below.alloc ?_ (by first | omega | (simp; done) | (simp; omega)) _ | with_reducible refine Below.setCell ?_ (by first | omega | (simp; done) | (simp; omega)) _))).mono ?_; rw [h1]; rintro r w1 ⟨rfl, hb1⟩; obtain ⟨hc1, hf1⟩ := bcell hb1; have hs1 := hb1.size; (try simp at hs1); have l1 : w.heap.size < w1.heap.size := (by omega); have l2 : w.heap.size + 1 < w1.heap.size := (by omega); have l3 : w.heap.size + 1 + 1 < w1.heap.size := (by omega); have B1 : Below w.heap.size w w1 := Below.trans (by repeat (first | with_reducible exact Below.refl _ _ | with_reducible assumption | with_reducible refine Below.drew ?_ | with_reducible refine below_drews ?_ _ | with_reducible refine Below.alloc ?_ (by first | omega | (simp; done) | (simp; omega)) _ | with_reducible refine Below.setCell ?_ (by first | omega | (simp; done) | (simp; omega)) _)) (hb1.mono (by simp; omega)))
    refine bodyPost_ret (v := (.agg #[.int .i64 v.map.W, .int .i64 v.map.H, .slice s.ms.A s.ms.n s.ms.c, .slice s.ms.A2 s.ms.n2 s.ms.c2, .int .u64 v.st, .int .i64 v.tick, .slice s.A s.n s.c])) (by simp [results, Tryz.results98, go_sem, hc1, hf1, l1, l2, l3]) rfl ⟨rfl, (by repeat (first | with_reducible exact Below.refl _ _ | with_reducible assumption | with_reducible refine Below.drew ?_ | with_reducible refine below_drews ?_ _ | with_reducible refine Below.alloc ?_ (by first | omega | (simp; done) | (simp; omega)) _ | with_reducible refine Below.setCell ?_ (by first | omega | (simp; done) | (simp; omega)) _))⟩
  · have hq := fun W => cmdFormed q W
    simp only [h2] at hq
    go_enter Tryz.func98, Tryz.ntmps98
    go_wp2_with (first
      | (go_at_call 156; refine (HP.out _ (by repeat (first | with_reducible exact Below.refl _ _ | with_reducible assumption | with_reducible refine Below.drew ?_ | with_reducible refine below_drews ?_ _ | with_reducible refine Below.alloc ?_ (by first | omega | (simp; done) | (simp; omega)) _ | with_reducible refine Below.setCell ?_ (by first | omega | (simp; done) | (simp; omega)) _))).mono ?_; rw [h1]; rintro r w1 ⟨rfl, hb1⟩; obtain ⟨hc1, hf1⟩ := bcell hb1; have hs1 := hb1.size; (try simp at hs1); have l1 : w.heap.size < w1.heap.size := (by omega); have l2 : w.heap.size + 1 < w1.heap.size := (by omega); have l3 : w.heap.size + 1 + 1 < w1.heap.size := (by omega); have B1 : Below w.heap.size w w1 := Below.trans (by repeat (first | with_reducible exact Below.refl _ _ | with_reducible assumption | with_reducible refine Below.drew ?_ | with_reducible refine below_drews ?_ _ | with_reducible refine Below.alloc ?_ (by first | omega | (simp; done) | (simp; omega)) _ | with_reducible refine Below.setCell ?_ (by first | omega | (simp; done) | (simp; omega)) _)) (hb1.mono (by simp; omega)))
      | (go_at_call 164; refine (hq _).mono ?_; rintro r w2 ⟨rfl, hb2⟩; obtain ⟨hc2, hf2⟩ := bcell hb2; have hs2 := hb2.size; have l4 : w.heap.size < w2.heap.size := (by omega); have l5 : w.heap.size + 1 < w2.heap.size := (by omega); have l6 : w.heap.size + 1 + 1 < w2.heap.size := (by omega); have B2 : Below w.heap.size w w2 := B1.trans (hb2.mono (by omega))))
    refine bodyPost_ret (v := (.agg #[.int .i64 v.map.W, .int .i64 v.map.H, .slice s.ms.A s.ms.n s.ms.c, .slice s.ms.A2 s.ms.n2 s.ms.c2, .int .u64 v.st, .int .i64 v.tick, .slice s.A s.n s.c])) (by simp [results, Tryz.results98, go_sem, hc1, hf1, hc2, hf2, l1, l2, l3, l4, l5, l6]) rfl ⟨rfl, (by repeat (first | with_reducible exact Below.refl _ _ | with_reducible assumption | with_reducible refine Below.drew ?_ | with_reducible refine below_drews ?_ _ | with_reducible refine Below.alloc ?_ (by first | omega | (simp; done) | (simp; omega)) _ | with_reducible refine Below.setCell ?_ (by first | omega | (simp; done) | (simp; omega)) _))⟩
set_option maxRecDepth 100000 in
set_option maxHeartbeats 8000000 in
theorem wGoYes (v : WorldV) (s : WorldS) (q : CmdV) (id : Int) (k : Nat) (e : EntV) (w : World) (h : WorldAt w w.heap.size v s) (hn : s.n ≤ 1000) (h1 : playerF v.l id = (k : Int)) (h2 : v.l[k]? = some e) (h3 : cmdOk q = true) (x1 : q.mx ≤ 127) (y1 : q.my ≤ 127) :
    Calls Tryz.prog 98 #[(.agg #[.int .i64 v.map.W, .int .i64 v.map.H, .slice s.ms.A s.ms.n s.ms.c, .slice s.ms.A2 s.ms.n2 s.ms.c2, .int .u64 v.st, .int .i64 v.tick, .slice s.A s.n s.c]), .agg #[.int .u32 q.num, .int .i8 q.mx, .int .i8 q.my, .bool q.fire, .int .u32 q.view, .int .u8 q.frac], .int .i64 id] w fun r w' => Gives w w' v s r ⟨v.map, v.st, v.tick, v.l.set k (walkF v.map e q.mx q.my)⟩ := by
  have x0 : -128 ≤ q.mx ∧ -128 ≤ q.my := by unfold cmdOk at h3; simp only [decide_eq_true_eq] at h3; omega
  have hP := fun W (hW : Below w.heap.size w W) => wPlayer v s id W ((h.l.below hW).upto hW.size) (by omega)
  have hC := fun W (hW : Below w.heap.size w W) => cloneE v.l W s.A s.n s.c ((h.l.below hW).upto hW.size) (by omega)
  have hK := fun W (hW : Below w.heap.size w W) => mWalk v.map s.ms e q.mx q.my W ((h.map.below hW).upto hW.size) x0.1 x1 x0.2 y1
  have hq := fun W => cmdFormed q W
  simp only [h3] at hq
  obtain ⟨X, hX⟩ : ∃ X, walkF v.map e q.mx q.my = X := ⟨_, rfl⟩
  simp only [hX] at hK
  rw [hX]
  have hlen := h.len
  have hk : k < s.n := by rw [← hlen]; exact (List.getElem?_eq_some_iff.1 h2).1
  obtain ⟨g0, off0, hA, hg, -⟩ := h.l.flat (by omega) (by decide)
  have HP := Lib.hid hP
  have HC := Lib.hid hC
  have HK := Lib.hid hK
  have HW := Lib.hid h
  have H2 := Lib.hid h2
  clear h hP hC hK h2 hlen h3 hX x0 x1 y1
  obtain ⟨m, st, tick, l⟩ := v
  obtain ⟨ms, A0, n, c0⟩ := s
  simp only at hA hk
  subst hA
  go_enter Tryz.func98, Tryz.ntmps98
  go_wp2_with (first
    | (go_at_call 156; refine (HP.out _ (by repeat (first | with_reducible exact Below.refl _ _ | with_reducible assumption | with_reducible refine Below.drew ?_ | with_reducible refine below_drews ?_ _ | with_reducible refine Below.alloc ?_ (by first | omega | (simp; done) | (simp; omega)) _ | with_reducible refine Below.setCell ?_ (by first | omega | (simp; done) | (simp; omega)) _))).mono ?_; rw [h1]; rintro r w1 ⟨rfl, hb1⟩; obtain ⟨hc1, hf1⟩ := bcell hb1; have hs1 := hb1.size; (try simp at hs1); have l1 : w.heap.size < w1.heap.size := (by omega); have l2 : w.heap.size + 1 < w1.heap.size := (by omega); have l3 : w.heap.size + 1 + 1 < w1.heap.size := (by omega); have B1 : Below w.heap.size w w1 := Below.trans (by repeat (first | with_reducible exact Below.refl _ _ | with_reducible assumption | with_reducible refine Below.drew ?_ | with_reducible refine below_drews ?_ _ | with_reducible refine Below.alloc ?_ (by first | omega | (simp; done) | (simp; omega)) _ | with_reducible refine Below.setCell ?_ (by first | omega | (simp; done) | (simp; omega)) _)) (hb1.mono (by simp; omega)))
    | (go_at_call 164; refine (hq _).mono ?_; rintro r w1' ⟨rfl, hb2⟩; obtain ⟨hc2, hf2⟩ := bcell hb2; have hs2 := hb2.size; have l4 : w.heap.size < w1'.heap.size := (by omega); have l5 : w.heap.size + 1 < w1'.heap.size := (by omega); have l6 : w.heap.size + 1 + 1 < w1'.heap.size := (by omega); have B2 : Below w.heap.size w w1' := B1.trans (hb2.mono (by omega))))
  have mb0 : Blk w1 w.heap.size 46 #[.int .i64 m.W, .int .i64 m.H, .slice ms.A ms.n ms.c, .slice ms.A2 ms.n2 ms.c2, .int .u64 st, .int .i64 tick, .slice (some ⟨g0, off0, none⟩) n c0] := Blk.below (((Blk.new _ _ _).alloc _).alloc _) hb1 (by simp; omega)
  have mc0 : Blk w1 (w.heap.size + 1) 121 #[.int .u32 q.num, .int .i8 q.mx, .int .i8 q.my, .bool q.fire, .int .u32 q.view, .int .u8 q.frac] := by
    have := Blk.below ((Blk.new (w.alloc _) _ _).alloc _) hb1 (by simp)
    simpa using this
  have mz0 : Blk w1 (w.heap.size + 1 + 1) 46 #[.int .i64 0, .int .i64 0, .slice none 0 0, .slice none 0 0, .int .u64 0, .int .i64 0, .slice none 0 0] := by
    have := Blk.below (Blk.new ((w.alloc _).alloc _) _ _) hb1 (by simp)
    simpa using this
  have mb := Blk.below mb0 hb2 l1
  have mc := Blk.below mc0 hb2 l2
  have mz := Blk.below mz0 hb2 l3
  refine (HC.out _ B2).mono ?_
  rintro r w2 ⟨A, c, rfl, hr2, hf2', hb3⟩
  obtain ⟨g, off, rfl, hgl, -⟩ := hr2.ent (e := e) H2.out
  have hg2 : w1'.heap.size ≤ g := hf2' g rfl
  have mb2 := Blk.below mb hb3 l4
  have mc2 := Blk.below mc hb3 l5
  have mz2 := Blk.below mz hb3 l6
  have hs3 := hb3.size
  have hne : g ≠ w.heap.size := by omega
  have hne1 : g ≠ w.heap.size + 1 := by omega
  have hne2 : g ≠ w.heap.size + 1 + 1 := by omega
  have B3 : Below w.heap.size w w2 := B2.trans (hb3.mono (by omega))
  have l7 : w.heap.size < w2.heap.size := by omega
  have y0 : w2.cell? ⟨w.heap.size, 0, none⟩ = some (.int .i64 m.W) := mb2.cell 0
  have y1 : w2.cell? ⟨w.heap.size, 1, none⟩ = some (.int .i64 m.H) := mb2.cell 1
  have y2 : w2.cell? ⟨w.heap.size, 2, none⟩ = some (.slice ms.A ms.n ms.c) := mb2.cell 2
  have y3 : w2.cell? ⟨w.heap.size, 3, none⟩ = some (.slice ms.A2 ms.n2 ms.c2) := mb2.cell 3
  have y4 : w2.cell? ⟨w.heap.size, 4, none⟩ = some (.int .u64 st) := mb2.cell 4
  have y5 : w2.cell? ⟨w.heap.size, 5, none⟩ = some (.int .i64 tick) := mb2.cell 5
  have y6 : w2.cell? ⟨w.heap.size, 6, none⟩ = some (.slice (some ⟨g0, off0, none⟩) n c0) := mb2.cell 6
  have z0 := mb2.frozen 0
  have z1 := mb2.frozen 1
  have z2 := mb2.frozen 2
  have z3 := mb2.frozen 3
  have z4 := mb2.frozen 4
  have z5 := mb2.frozen 5
  have z6 := mb2.frozen 6
  have hr3 : Row (w2.setCell ⟨w.heap.size, 6, none⟩ (.slice (some ⟨g, off, none⟩) n c)) 55 8 (some ⟨g, off, none⟩) n c (entsV l) := hr2.keep (fun q hq => by cases hq; exact Below.heap_setCell _ _ _ _ hne)
  have mb3 : Blk (w2.setCell ⟨w.heap.size, 6, none⟩ (.slice (some ⟨g, off, none⟩) n c)) w.heap.size 46 #[.int .i64 m.W, .int .i64 m.H, .slice ms.A ms.n ms.c, .slice ms.A2 ms.n2 ms.c2, .int .u64 st, .int .i64 tick, .slice (some ⟨g, off, none⟩) n c] := mb2.set_ 6 _
  have mc3 : Blk (w2.setCell ⟨w.heap.size, 6, none⟩ (.slice (some ⟨g, off, none⟩) n c)) (w.heap.size + 1) 121 #[.int .u32 q.num, .int .i8 q.mx, .int .i8 q.my, .bool q.fire, .int .u32 q.view, .int .u8 q.frac] := mc2.far (by simp) _
  have mz3 : Blk (w2.setCell ⟨w.heap.size, 6, none⟩ (.slice (some ⟨g, off, none⟩) n c)) (w.heap.size + 1 + 1) 46 #[.int .i64 0, .int .i64 0, .slice none 0 0, .slice none 0 0, .int .u64 0, .int .i64 0, .slice none 0 0] := mz2.far (by simp; omega) _
  have B4 : Below w.heap.size w (w2.setCell ⟨w.heap.size, 6, none⟩ (.slice (some ⟨g, off, none⟩) n c)) := (by repeat (first | with_reducible exact Below.refl _ _ | with_reducible assumption | with_reducible refine Below.drew ?_ | with_reducible refine below_drews ?_ _ | with_reducible refine Below.alloc ?_ (by first | omega | (simp; done) | (simp; omega)) _ | with_reducible refine Below.setCell ?_ (by first | omega | (simp; done) | (simp; omega)) _))
  have hs4 : (w2.setCell ⟨w.heap.size, 6, none⟩ (.slice (some ⟨g, off, none⟩) n c)).heap.size = w2.heap.size := by simp
  have HR3 := Lib.hid hr3
  have HB3 := Lib.hid mb3
  have HC3 := Lib.hid mc3
  have HZ3 := Lib.hid mz3
  have HBB := Lib.hid B4
  clear hr2 hr3 mb3 mc3 mz3 B4 mb mc mz mb0 mc0 mz0 mb2 mc2 mz2 hc1 hf1 hc2 hf2 B3 B2 B1 hb1 hb2 hb3
  go_wp2_with fail
  generalize (w2.setCell ⟨w.heap.size, 6, none⟩ (.slice (some ⟨g, off, none⟩) n c)) = w3 at HR3 HB3 HC3 HZ3 HBB hs4 ⊢
  obtain ⟨g', off', hA', hgl3, h8⟩ := HR3.out.ent (e := e) H2.out
  simp only [Option.some.injEq, Addr.mk.injEq, and_true] at hA'
  obtain ⟨rfl, rfl⟩ := hA'
  have c0 : w3.cell? ⟨g, off + k * 8, none⟩ = some (.int .i64 e.id) := (h8 0 (by decide)).1
  have f0 : w3.frozen? ⟨g, off + k * 8, none⟩ = false := (h8 0 (by decide)).2
  have c1 : w3.cell? ⟨g, off + k * 8 + 1, none⟩ = some (.int .i64 e.kind) := (h8 1 (by decide)).1
  have f1 : w3.frozen? ⟨g, off + k * 8 + 1, none⟩ = false := (h8 1 (by decide)).2
  have c2 : w3.cell? ⟨g, off + k * 8 + 2, none⟩ = some (.int .i64 e.at_.x) := (h8 2 (by decide)).1
  have f2 : w3.frozen? ⟨g, off + k * 8 + 2, none⟩ = false := (h8 2 (by decide)).2
  have c3 : w3.cell? ⟨g, off + k * 8 + 3, none⟩ = some (.int .i64 e.at_.y) := (h8 3 (by decide)).1
  have f3 : w3.frozen? ⟨g, off + k * 8 + 3, none⟩ = false := (h8 3 (by decide)).2
  have c4 : w3.cell? ⟨g, off + k * 8 + 4, none⟩ = some (.int .i64 e.vel.x) := (h8 4 (by decide)).1
  have f4 : w3.frozen? ⟨g, off + k * 8 + 4, none⟩ = false := (h8 4 (by decide)).2
  have c5 : w3.cell? ⟨g, off + k * 8 + 5, none⟩ = some (.int .i64 e.vel.y) := (h8 5 (by decide)).1
  have f5 : w3.frozen? ⟨g, off + k * 8 + 5, none⟩ = false := (h8 5 (by decide)).2
  have c6 : w3.cell? ⟨g, off + k * 8 + 6, none⟩ = some (.int .i64 e.health) := (h8 6 (by decide)).1
  have f6 : w3.frozen? ⟨g, off + k * 8 + 6, none⟩ = false := (h8 6 (by decide)).2
  have c7 : w3.cell? ⟨g, off + k * 8 + 7, none⟩ = some (.int .i64 e.wait) := (h8 7 (by decide)).1
  have f7 : w3.frozen? ⟨g, off + k * 8 + 7, none⟩ = false := (h8 7 (by decide)).2
  clear h8 y0 z0 y1 z1 y2 z2 y3 z3 y4 z4 y5 z5 y6 z6
  have y0 : w3.cell? ⟨w.heap.size, 0, none⟩ = some (.int .i64 m.W) := HB3.out.cell 0
  have y1 : w3.cell? ⟨w.heap.size, 1, none⟩ = some (.int .i64 m.H) := HB3.out.cell 1
  have y2 : w3.cell? ⟨w.heap.size, 2, none⟩ = some (.slice ms.A ms.n ms.c) := HB3.out.cell 2
  have y3 : w3.cell? ⟨w.heap.size, 3, none⟩ = some (.slice ms.A2 ms.n2 ms.c2) := HB3.out.cell 3
  have y4 : w3.cell? ⟨w.heap.size, 4, none⟩ = some (.int .u64 st) := HB3.out.cell 4
  have y5 : w3.cell? ⟨w.heap.size, 5, none⟩ = some (.int .i64 tick) := HB3.out.cell 5
  have y6 : w3.cell? ⟨w.heap.size, 6, none⟩ = some (.slice (some ⟨g, off, none⟩) n c) := HB3.out.cell 6
  have u0 : w3.cell? ⟨w.heap.size + 1, 0, none⟩ = some (.int .u32 q.num) := HC3.out.cell 0
  have u1 : w3.cell? ⟨w.heap.size + 1, 1, none⟩ = some (.int .i8 q.mx) := HC3.out.cell 1
  have u2 : w3.cell? ⟨w.heap.size + 1, 2, none⟩ = some (.int .i8 q.my) := HC3.out.cell 2
  have u3 : w3.cell? ⟨w.heap.size + 1, 3, none⟩ = some (.bool q.fire) := HC3.out.cell 3
  have u4 : w3.cell? ⟨w.heap.size + 1, 4, none⟩ = some (.int .u32 q.view) := HC3.out.cell 4
  have u5 : w3.cell? ⟨w.heap.size + 1, 5, none⟩ = some (.int .u8 q.frac) := HC3.out.cell 5
  have l8 : w.heap.size < w3.heap.size := HB3.out.lt
  have l9 : w.heap.size + 1 < w3.heap.size := HC3.out.lt
  have l10 : w.heap.size + 1 + 1 < w3.heap.size := HZ3.out.lt
  have HQR := HR3
  have HQB := HB3
  have HQZ := HZ3
  have HQ := HBB
  clear hs4
  refine wp_region_kin_tail 16 (w3.heap.size) (by kernel_rfl) (by kernel_rfl) (fun kk => ?_)
  simp only [List.take_succ_cons, List.take_zero, List.drop_succ_cons, List.drop_zero]
  repeat (first | go_big_quiet_step ((go_at_call 84; exact kin_of (Nat.le_refl _) (HK.out _ (HQ.out.trans ((Kin.below _).mono (by omega)))))) | quiet_step ((go_at_call 84; exact kin_of (Nat.le_refl _) (HK.out _ (HQ.out.trans ((Kin.below _).mono (by omega)))))))
  refine wpQuiet_nil ?_
  rintro _ ⟨x, rfl⟩
  have hb5 := x.below
  obtain ⟨w5, hw5⟩ : ∃ w5, x.w = w5 := ⟨_, rfl⟩
  simp only [hw5] at hb5 ⊢
  clear hw5 kk x c0 f0 c1 f1 c2 f2 c3 f3 c4 f4 c5 f5 c6 f6 c7 f7 y0 y1 y2 y3 y4 y5 y6 u0 u1 u2 u3 u4 u5
  have hs5 := hb5.size
  have hr5 := HR3.out.keep (w' := w5) (fun q hq => hb5.block q (HR3.out.lt hq))
  obtain ⟨g', off', hA', hgl5, h8⟩ := hr5.ent (e := e) H2.out
  simp only [Option.some.injEq, Addr.mk.injEq, and_true] at hA'
  obtain ⟨rfl, rfl⟩ := hA'
  have x0 : w5.cell? ⟨g, off + k * 8, none⟩ = some (.int .i64 e.id) := (h8 0 (by decide)).1
  have z0 : w5.frozen? ⟨g, off + k * 8, none⟩ = false := (h8 0 (by decide)).2
  have x1 : w5.cell? ⟨g, off + k * 8 + 1, none⟩ = some (.int .i64 e.kind) := (h8 1 (by decide)).1
  have z1 : w5.frozen? ⟨g, off + k * 8 + 1, none⟩ = false := (h8 1 (by decide)).2
  have x2 : w5.cell? ⟨g, off + k * 8 + 2, none⟩ = some (.int .i64 e.at_.x) := (h8 2 (by decide)).1
  have z2 : w5.frozen? ⟨g, off + k * 8 + 2, none⟩ = false := (h8 2 (by decide)).2
  have x3 : w5.cell? ⟨g, off + k * 8 + 3, none⟩ = some (.int .i64 e.at_.y) := (h8 3 (by decide)).1
  have z3 : w5.frozen? ⟨g, off + k * 8 + 3, none⟩ = false := (h8 3 (by decide)).2
  have x4 : w5.cell? ⟨g, off + k * 8 + 4, none⟩ = some (.int .i64 e.vel.x) := (h8 4 (by decide)).1
  have z4 : w5.frozen? ⟨g, off + k * 8 + 4, none⟩ = false := (h8 4 (by decide)).2
  have x5 : w5.cell? ⟨g, off + k * 8 + 5, none⟩ = some (.int .i64 e.vel.y) := (h8 5 (by decide)).1
  have z5 : w5.frozen? ⟨g, off + k * 8 + 5, none⟩ = false := (h8 5 (by decide)).2
  have x6 : w5.cell? ⟨g, off + k * 8 + 6, none⟩ = some (.int .i64 e.health) := (h8 6 (by decide)).1
  have z6 : w5.frozen? ⟨g, off + k * 8 + 6, none⟩ = false := (h8 6 (by decide)).2
  have x7 : w5.cell? ⟨g, off + k * 8 + 7, none⟩ = some (.int .i64 e.wait) := (h8 7 (by decide)).1
  have z7 : w5.frozen? ⟨g, off + k * 8 + 7, none⟩ = false := (h8 7 (by decide)).2
  have mb5 := Blk.below HQB.out hb5 l8
  have mz5 := Blk.below HQZ.out hb5 l10
  have y0 : w5.cell? ⟨w.heap.size, 0, none⟩ = some (.int .i64 m.W) := mb5.cell 0
  have y1 : w5.cell? ⟨w.heap.size, 1, none⟩ = some (.int .i64 m.H) := mb5.cell 1
  have y2 : w5.cell? ⟨w.heap.size, 2, none⟩ = some (.slice ms.A ms.n ms.c) := mb5.cell 2
  have y3 : w5.cell? ⟨w.heap.size, 3, none⟩ = some (.slice ms.A2 ms.n2 ms.c2) := mb5.cell 3
  have y4 : w5.cell? ⟨w.heap.size, 4, none⟩ = some (.int .u64 st) := mb5.cell 4
  have y5 : w5.cell? ⟨w.heap.size, 5, none⟩ = some (.int .i64 tick) := mb5.cell 5
  have y6 : w5.cell? ⟨w.heap.size, 6, none⟩ = some (.slice (some ⟨g, off, none⟩) n c) := mb5.cell 6
  have v0 : w5.cell? ⟨w.heap.size + 1 + 1, 0, none⟩ = some (.int .i64 0) := mz5.cell 0
  have k0 := mz5.frozen 0
  have v1 : w5.cell? ⟨w.heap.size + 1 + 1, 1, none⟩ = some (.int .i64 0) := mz5.cell 1
  have k1 := mz5.frozen 1
  have v2 : w5.cell? ⟨w.heap.size + 1 + 1, 2, none⟩ = some (.slice none 0 0) := mz5.cell 2
  have k2 := mz5.frozen 2
  have v3 : w5.cell? ⟨w.heap.size + 1 + 1, 3, none⟩ = some (.slice none 0 0) := mz5.cell 3
  have k3 := mz5.frozen 3
  have v4 : w5.cell? ⟨w.heap.size + 1 + 1, 4, none⟩ = some (.int .u64 0) := mz5.cell 4
  have k4 := mz5.frozen 4
  have v5 : w5.cell? ⟨w.heap.size + 1 + 1, 5, none⟩ = some (.int .i64 0) := mz5.cell 5
  have k5 := mz5.frozen 5
  have v6 : w5.cell? ⟨w.heap.size + 1 + 1, 6, none⟩ = some (.slice none 0 0) := mz5.cell 6
  have k6 := mz5.frozen 6
  have l12 : w.heap.size + 1 + 1 < w5.heap.size := mz5.lt
  have l13 : w.heap.size < w5.heap.size := by omega
  have HR5 := Lib.hid hr5
  have HB5 := Lib.hid hb5
  clear h8 hr5 hb5 mb5 mz5
  all_goals
    go_wp2
    have hb5 := HB5.out
    have hz5 : ∀ j : Nat, j ≠ g → ((((((((w5.setCell ⟨g, off + k * 8, none⟩ (.int .i64 X.id)).setCell ⟨g, off + k * 8 + 1, none⟩ (.int .i64 X.kind)).setCell ⟨g, off + k * 8 + 2, none⟩ (.int .i64 X.at_.x)).setCell ⟨g, off + k * 8 + 3, none⟩ (.int .i64 X.at_.y)).setCell ⟨g, off + k * 8 + 4, none⟩ (.int .i64 X.vel.x)).setCell ⟨g, off + k * 8 + 5, none⟩ (.int .i64 X.vel.y)).setCell ⟨g, off + k * 8 + 6, none⟩ (.int .i64 X.health)).setCell ⟨g, off + k * 8 + 7, none⟩ (.int .i64 X.wait)).heap[j]? = w5.heap[j]? := fun j hj => (Below.heap_setCell _ _ _ j hj).trans ((Below.heap_setCell _ _ _ j hj).trans ((Below.heap_setCell _ _ _ j hj).trans ((Below.heap_setCell _ _ _ j hj).trans ((Below.heap_setCell _ _ _ j hj).trans ((Below.heap_setCell _ _ _ j hj).trans ((Below.heap_setCell _ _ _ j hj).trans (Below.heap_setCell _ _ _ j hj)))))))
    have hr6 : Row ((((((((w5.setCell ⟨g, off + k * 8, none⟩ (.int .i64 X.id)).setCell ⟨g, off + k * 8 + 1, none⟩ (.int .i64 X.kind)).setCell ⟨g, off + k * 8 + 2, none⟩ (.int .i64 X.at_.x)).setCell ⟨g, off + k * 8 + 3, none⟩ (.int .i64 X.at_.y)).setCell ⟨g, off + k * 8 + 4, none⟩ (.int .i64 X.vel.x)).setCell ⟨g, off + k * 8 + 5, none⟩ (.int .i64 X.vel.y)).setCell ⟨g, off + k * 8 + 6, none⟩ (.int .i64 X.health)).setCell ⟨g, off + k * 8 + 7, none⟩ (.int .i64 X.wait)) 55 8 (some ⟨g, off, none⟩) n c (entsV (l.set k X)) := HR5.out.ent8 rfl H2.out X
    have mz6 : Blk ((((((((w5.setCell ⟨g, off + k * 8, none⟩ (.int .i64 X.id)).setCell ⟨g, off + k * 8 + 1, none⟩ (.int .i64 X.kind)).setCell ⟨g, off + k * 8 + 2, none⟩ (.int .i64 X.at_.x)).setCell ⟨g, off + k * 8 + 3, none⟩ (.int .i64 X.at_.y)).setCell ⟨g, off + k * 8 + 4, none⟩ (.int .i64 X.vel.x)).setCell ⟨g, off + k * 8 + 5, none⟩ (.int .i64 X.vel.y)).setCell ⟨g, off + k * 8 + 6, none⟩ (.int .i64 X.health)).setCell ⟨g, off + k * 8 + 7, none⟩ (.int .i64 X.wait)) (w.heap.size + 1 + 1) 46 #[.int .i64 0, .int .i64 0, .slice none 0 0, .slice none 0 0, .int .u64 0, .int .i64 0, .slice none 0 0] := (hz5 _ (Ne.symm hne2)).trans (Blk.below HQZ.out hb5 l10)
    have B5 : Below w.heap.size w w5 := HQ.out.trans (hb5.mono (by omega))
    have B6 : Below w.heap.size w ((((((((w5.setCell ⟨g, off + k * 8, none⟩ (.int .i64 X.id)).setCell ⟨g, off + k * 8 + 1, none⟩ (.int .i64 X.kind)).setCell ⟨g, off + k * 8 + 2, none⟩ (.int .i64 X.at_.x)).setCell ⟨g, off + k * 8 + 3, none⟩ (.int .i64 X.at_.y)).setCell ⟨g, off + k * 8 + 4, none⟩ (.int .i64 X.vel.x)).setCell ⟨g, off + k * 8 + 5, none⟩ (.int .i64 X.vel.y)).setCell ⟨g, off + k * 8 + 6, none⟩ (.int .i64 X.health)).setCell ⟨g, off + k * 8 + 7, none⟩ (.int .i64 X.wait)) := (by repeat (first | with_reducible exact Below.refl _ _ | with_reducible assumption | with_reducible refine Below.drew ?_ | with_reducible refine below_drews ?_ _ | with_reducible refine Below.alloc ?_ (by first | omega | (simp; done) | (simp; omega)) _ | with_reducible refine Below.setCell ?_ (by first | omega | (simp; done) | (simp; omega)) _))
    clear hz5 x0 z0 y0 x1 z1 y1 x2 z2 y2 x3 z3 y3 x4 z4 y4 x5 z5 y5 x6 z6 y6 v0 k0 v1 k1 v2 k2 v3 k3 v4 k4 v5 k5 v6 k6
    generalize ((((((((w5.setCell ⟨g, off + k * 8, none⟩ (.int .i64 X.id)).setCell ⟨g, off + k * 8 + 1, none⟩ (.int .i64 X.kind)).setCell ⟨g, off + k * 8 + 2, none⟩ (.int .i64 X.at_.x)).setCell ⟨g, off + k * 8 + 3, none⟩ (.int .i64 X.at_.y)).setCell ⟨g, off + k * 8 + 4, none⟩ (.int .i64 X.vel.x)).setCell ⟨g, off + k * 8 + 5, none⟩ (.int .i64 X.vel.y)).setCell ⟨g, off + k * 8 + 6, none⟩ (.int .i64 X.health)).setCell ⟨g, off + k * 8 + 7, none⟩ (.int .i64 X.wait)) = w6 at hr6 mz6 B6 ⊢
    have hzz : ∀ j : Nat, j ≠ w.heap.size + 1 + 1 → (((((((w6.setCell ⟨w.heap.size + 1 + 1, 0, none⟩ (.int .i64 m.W)).setCell ⟨w.heap.size + 1 + 1, 1, none⟩ (.int .i64 m.H)).setCell ⟨w.heap.size + 1 + 1, 2, none⟩ (.slice ms.A ms.n ms.c)).setCell ⟨w.heap.size + 1 + 1, 3, none⟩ (.slice ms.A2 ms.n2 ms.c2)).setCell ⟨w.heap.size + 1 + 1, 4, none⟩ (.int .u64 st)).setCell ⟨w.heap.size + 1 + 1, 5, none⟩ (.int .i64 tick)).setCell ⟨w.heap.size + 1 + 1, 6, none⟩ (.slice (some ⟨g, off, none⟩) n c)).heap[j]? = w6.heap[j]? := fun j hj => (Below.heap_setCell _ _ _ j hj).trans ((Below.heap_setCell _ _ _ j hj).trans ((Below.heap_setCell _ _ _ j hj).trans ((Below.heap_setCell _ _ _ j hj).trans ((Below.heap_setCell _ _ _ j hj).trans ((Below.heap_setCell _ _ _ j hj).trans (Below.heap_setCell _ _ _ j hj))))))
    have B7 : Below w.heap.size w (((((((w6.setCell ⟨w.heap.size + 1 + 1, 0, none⟩ (.int .i64 m.W)).setCell ⟨w.heap.size + 1 + 1, 1, none⟩ (.int .i64 m.H)).setCell ⟨w.heap.size + 1 + 1, 2, none⟩ (.slice ms.A ms.n ms.c)).setCell ⟨w.heap.size + 1 + 1, 3, none⟩ (.slice ms.A2 ms.n2 ms.c2)).setCell ⟨w.heap.size + 1 + 1, 4, none⟩ (.int .u64 st)).setCell ⟨w.heap.size + 1 + 1, 5, none⟩ (.int .i64 tick)).setCell ⟨w.heap.size + 1 + 1, 6, none⟩ (.slice (some ⟨g, off, none⟩) n c)) := (by repeat (first | with_reducible exact Below.refl _ _ | with_reducible assumption | with_reducible refine Below.drew ?_ | with_reducible refine below_drews ?_ _ | with_reducible refine Below.alloc ?_ (by first | omega | (simp; done) | (simp; omega)) _ | with_reducible refine Below.setCell ?_ (by first | omega | (simp; done) | (simp; omega)) _))
    have mz7 : Blk (((((((w6.setCell ⟨w.heap.size + 1 + 1, 0, none⟩ (.int .i64 m.W)).setCell ⟨w.heap.size + 1 + 1, 1, none⟩ (.int .i64 m.H)).setCell ⟨w.heap.size + 1 + 1, 2, none⟩ (.slice ms.A ms.n ms.c)).setCell ⟨w.heap.size + 1 + 1, 3, none⟩ (.slice ms.A2 ms.n2 ms.c2)).setCell ⟨w.heap.size + 1 + 1, 4, none⟩ (.int .u64 st)).setCell ⟨w.heap.size + 1 + 1, 5, none⟩ (.int .i64 tick)).setCell ⟨w.heap.size + 1 + 1, 6, none⟩ (.slice (some ⟨g, off, none⟩) n c)) (w.heap.size + 1 + 1) 46 #[.int .i64 m.W, .int .i64 m.H, .slice ms.A ms.n ms.c, .slice ms.A2 ms.n2 ms.c2, .int .u64 st, .int .i64 tick, .slice (some ⟨g, off, none⟩) n c] := (((((((mz6.set_ 0 (.int .i64 m.W)).set_ 1 (.int .i64 m.H)).set_ 2 (.slice ms.A ms.n ms.c)).set_ 3 (.slice ms.A2 ms.n2 ms.c2)).set_ 4 (.int .u64 st)).set_ 5 (.int .i64 tick)).set_ 6 (.slice (some ⟨g, off, none⟩) n c))
    have hr7 := hr6.keep (w' := (((((((w6.setCell ⟨w.heap.size + 1 + 1, 0, none⟩ (.int .i64 m.W)).setCell ⟨w.heap.size + 1 + 1, 1, none⟩ (.int .i64 m.H)).setCell ⟨w.heap.size + 1 + 1, 2, none⟩ (.slice ms.A ms.n ms.c)).setCell ⟨w.heap.size + 1 + 1, 3, none⟩ (.slice ms.A2 ms.n2 ms.c2)).setCell ⟨w.heap.size + 1 + 1, 4, none⟩ (.int .u64 st)).setCell ⟨w.heap.size + 1 + 1, 5, none⟩ (.int .i64 tick)).setCell ⟨w.heap.size + 1 + 1, 6, none⟩ (.slice (some ⟨g, off, none⟩) n c))) (fun q hq => by cases hq; exact hzz _ hne2)
    generalize (((((((w6.setCell ⟨w.heap.size + 1 + 1, 0, none⟩ (.int .i64 m.W)).setCell ⟨w.heap.size + 1 + 1, 1, none⟩ (.int .i64 m.H)).setCell ⟨w.heap.size + 1 + 1, 2, none⟩ (.slice ms.A ms.n ms.c)).setCell ⟨w.heap.size + 1 + 1, 3, none⟩ (.slice ms.A2 ms.n2 ms.c2)).setCell ⟨w.heap.size + 1 + 1, 4, none⟩ (.int .u64 st)).setCell ⟨w.heap.size + 1 + 1, 5, none⟩ (.int .i64 tick)).setCell ⟨w.heap.size + 1 + 1, 6, none⟩ (.slice (some ⟨g, off, none⟩) n c)) = wf at B7 mz7 hr7 ⊢
    have q0 : wf.cell? ⟨w.heap.size + 1 + 1, 0, none⟩ = some (.int .i64 m.W) := mz7.cell 0
    have q1 : wf.cell? ⟨w.heap.size + 1 + 1, 1, none⟩ = some (.int .i64 m.H) := mz7.cell 1
    have q2 : wf.cell? ⟨w.heap.size + 1 + 1, 2, none⟩ = some (.slice ms.A ms.n ms.c) := mz7.cell 2
    have q3 : wf.cell? ⟨w.heap.size + 1 + 1, 3, none⟩ = some (.slice ms.A2 ms.n2 ms.c2) := mz7.cell 3
    have q4 : wf.cell? ⟨w.heap.size + 1 + 1, 4, none⟩ = some (.int .u64 st) := mz7.cell 4
    have q5 : wf.cell? ⟨w.heap.size + 1 + 1, 5, none⟩ = some (.int .i64 tick) := mz7.cell 5
    have q6 : wf.cell? ⟨w.heap.size + 1 + 1, 6, none⟩ = some (.slice (some ⟨g, off, none⟩) n c) := mz7.cell 6
    refine bodyPost_ret (v := .agg #[.int .i64 m.W, .int .i64 m.H, .slice ms.A ms.n ms.c, .slice ms.A2 ms.n2 ms.c2, .int .u64 st, .int .i64 tick, .slice (some ⟨g, off, none⟩) n c]) (by simp [results, Tryz.results98, go_sem, q0, q1, q2, q3, q4, q5, q6]) rfl ?_
    exact ⟨⟨ms, some ⟨g, off, none⟩, n, c⟩, rfl, Row.worldAt HW.out B7 B7.size hr7 _ _, rfl, .inr ⟨hr7, fun q hq => by have hq : g = q := (by simpa [blkOf] using hq); omega⟩, B7⟩
end Go.Proofs.YtojbijapdkohlaaGreatDoor
