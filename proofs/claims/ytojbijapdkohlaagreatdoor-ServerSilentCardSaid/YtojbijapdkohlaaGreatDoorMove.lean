/- The walks of layer 12: steps. -/
import Derived.Test.YtojbijapdkohlaaGreatDoorFree
set_option linter.unusedSimpArgs false
set_option linter.unusedVariables false
namespace Go.Proofs.YtojbijapdkohlaaGreatDoor
open Go.RowKit
theorem place1 (x y : Int) (bx be : Nat) (w : World) (h1 : w.cell? ⟨bx, 0, none⟩ = some (.pointer (some ⟨be, 0, none⟩))) (h2 : w.cell? ⟨be, 3, none⟩ = some (.int .i64 y)) :
    Calls Tryz.prog 210 #[.int .i64 x, .pointer (some ⟨bx, 0, none⟩)] w fun e w' => e = .returned (.agg #[.int .i64 x, .int .i64 y]) ∧ Below w.heap.size w w' := by
  have l1 := World.block_lt_of_cell? w _ h1
  have l2 := World.block_lt_of_cell? w _ h2
  go_enter Tryz.func210, Tryz.ntmps210
  go_wp2
  exact bodyPost_ret (v := (.agg #[.int .i64 x, .int .i64 y])) (by simp [results, Tryz.results210, go_sem]) rfl ⟨rfl, (by repeat (first | with_reducible exact Below.refl _ _ | with_reducible assumption | with_reducible refine Below.drew ?_ | with_reducible refine below_drews ?_ _ | with_reducible refine Below.alloc ?_ (by first | omega | (simp; done) | (simp; omega)) _ | with_reducible refine Below.setCell ?_ (by first | omega | (simp; done) | (simp; omega)) _))⟩
set_option maxHeartbeats 2000000 in
theorem along1 (m : MapV) (s : MapS) (x d y : Int) (bx be : Nat) (w : World) (h : MapAt w w.heap.size m s) (h1 : w.cell? ⟨bx, 0, none⟩ = some (.pointer (some ⟨be, 0, none⟩))) (h2 : w.cell? ⟨be, 3, none⟩ = some (.int .i64 y))
    (q1 : -134217728 ≤ x) (q2 : x ≤ 134217728) (q3 : -65536 ≤ d) (q4 : d ≤ 65536) :
    Calls Tryz.prog 209 #[(.agg #[.int .i64 m.W, .int .i64 m.H, .slice s.A s.n s.c, .slice s.A2 s.n2 s.c2]), .int .i64 x, .int .i64 d, .func (.func 210) #[] #[.pointer (some ⟨bx, 0, none⟩)]] w fun e w' =>
      e = .returned (.tuple #[.int .i64 (if standsB m ⟨x + d, y⟩ then x + d else x), .bool (standsB m ⟨x + d, y⟩)]) ∧ Below w.heap.size w w' := by
  have hS := fun W (hW : Below w.heap.size w W) => mStands m s (x + d) y W ((h.below hW).upto hW.size)
  have hpl := fun W (hW : Below w.heap.size w W) => place1 (x + d) y bx be W ((hW.cell (p := ⟨bx, 0, none⟩) (World.block_lt_of_cell? w _ h1)).trans h1) ((hW.cell (p := ⟨be, 3, none⟩) (World.block_lt_of_cell? w _ h2)).trans h2)
  have HPL := Lib.hid hpl
  have hba : Below w.heap.size w (w.alloc (.cells #[.int .i64 m.W, .int .i64 m.H, .slice s.A s.n s.c, .slice s.A2 s.n2 s.c2] 25)) := (by repeat (first | with_reducible exact Below.refl _ _ | with_reducible assumption | with_reducible refine Below.drew ?_ | with_reducible refine below_drews ?_ _ | with_reducible refine Below.alloc ?_ (by first | omega | (simp; done) | (simp; omega)) _ | with_reducible refine Below.setCell ?_ (by first | omega | (simp; done) | (simp; omega)) _))
  have HB := Lib.hid hba
  clear hba hpl h1 h2
  cases hst : standsB m ⟨x + d, y⟩
  all_goals
    simp only [hst] at hS
    go_enter Tryz.func209, Tryz.ntmps209
    go_wp2
    have l1 : w.heap.size < w.heap.size + 1 := by omega
    refine wp_region_kin' (w.heap.size + 1) (by kernel_rfl) (by kernel_rfl) (fun kk => ?_)
    repeat (first
      | go_big_quiet_step ((first | (go_at_call 210; exact kin_of (by simp) (HPL.out _ (HB.out.trans ((Kin.below _).mono (by omega))))) | (go_at_call 237; exact kin_of (by simp) (hS _ (HB.out.trans ((Kin.below _).mono (by omega)))))))
      | quiet_step ((first | (go_at_call 210; exact kin_of (by simp) (HPL.out _ (HB.out.trans ((Kin.below _).mono (by omega))))) | (go_at_call 237; exact kin_of (by simp) (hS _ (HB.out.trans ((Kin.below _).mono (by omega))))))))
    refine wpQuiet_nil ?_
    rintro _ ⟨⟨wk, hwk⟩, rfl⟩
    go_wp2
    go_ret2
    exact ⟨rfl, HB.out.trans (hwk.mono (by omega))⟩
theorem place2 (y x : Int) (bx be : Nat) (w : World) (h1 : w.cell? ⟨bx, 0, none⟩ = some (.pointer (some ⟨be, 0, none⟩))) (h2 : w.cell? ⟨be, 2, none⟩ = some (.int .i64 x)) :
    Calls Tryz.prog 211 #[.int .i64 y, .pointer (some ⟨bx, 0, none⟩)] w fun e w' => e = .returned (.agg #[.int .i64 x, .int .i64 y]) ∧ Below w.heap.size w w' := by
  have l1 := World.block_lt_of_cell? w _ h1
  have l2 := World.block_lt_of_cell? w _ h2
  go_enter Tryz.func211, Tryz.ntmps211
  go_wp2
  exact bodyPost_ret (v := (.agg #[.int .i64 x, .int .i64 y])) (by simp [results, Tryz.results211, go_sem]) rfl ⟨rfl, (by repeat (first | with_reducible exact Below.refl _ _ | with_reducible assumption | with_reducible refine Below.drew ?_ | with_reducible refine below_drews ?_ _ | with_reducible refine Below.alloc ?_ (by first | omega | (simp; done) | (simp; omega)) _ | with_reducible refine Below.setCell ?_ (by first | omega | (simp; done) | (simp; omega)) _))⟩
set_option maxHeartbeats 2000000 in
theorem along2 (m : MapV) (s : MapS) (y d x : Int) (bx be : Nat) (w : World) (h : MapAt w w.heap.size m s) (h1 : w.cell? ⟨bx, 0, none⟩ = some (.pointer (some ⟨be, 0, none⟩))) (h2 : w.cell? ⟨be, 2, none⟩ = some (.int .i64 x))
    (q1 : -134217728 ≤ y) (q2 : y ≤ 134217728) (q3 : -65536 ≤ d) (q4 : d ≤ 65536) :
    Calls Tryz.prog 209 #[(.agg #[.int .i64 m.W, .int .i64 m.H, .slice s.A s.n s.c, .slice s.A2 s.n2 s.c2]), .int .i64 y, .int .i64 d, .func (.func 211) #[] #[.pointer (some ⟨bx, 0, none⟩)]] w fun e w' =>
      e = .returned (.tuple #[.int .i64 (if standsB m ⟨x, y + d⟩ then y + d else y), .bool (standsB m ⟨x, y + d⟩)]) ∧ Below w.heap.size w w' := by
  have hS := fun W (hW : Below w.heap.size w W) => mStands m s x (y + d) W ((h.below hW).upto hW.size)
  have hpl := fun W (hW : Below w.heap.size w W) => place2 (y + d) x bx be W ((hW.cell (p := ⟨bx, 0, none⟩) (World.block_lt_of_cell? w _ h1)).trans h1) ((hW.cell (p := ⟨be, 2, none⟩) (World.block_lt_of_cell? w _ h2)).trans h2)
  have HPL := Lib.hid hpl
  have hba : Below w.heap.size w (w.alloc (.cells #[.int .i64 m.W, .int .i64 m.H, .slice s.A s.n s.c, .slice s.A2 s.n2 s.c2] 25)) := (by repeat (first | with_reducible exact Below.refl _ _ | with_reducible assumption | with_reducible refine Below.drew ?_ | with_reducible refine below_drews ?_ _ | with_reducible refine Below.alloc ?_ (by first | omega | (simp; done) | (simp; omega)) _ | with_reducible refine Below.setCell ?_ (by first | omega | (simp; done) | (simp; omega)) _))
  have HB := Lib.hid hba
  clear hba hpl h1 h2
  cases hst : standsB m ⟨x, y + d⟩
  all_goals
    simp only [hst] at hS
    go_enter Tryz.func209, Tryz.ntmps209
    go_wp2
    have l1 : w.heap.size < w.heap.size + 1 := by omega
    refine wp_region_kin' (w.heap.size + 1) (by kernel_rfl) (by kernel_rfl) (fun kk => ?_)
    repeat (first
      | go_big_quiet_step ((first | (go_at_call 211; exact kin_of (by simp) (HPL.out _ (HB.out.trans ((Kin.below _).mono (by omega))))) | (go_at_call 237; exact kin_of (by simp) (hS _ (HB.out.trans ((Kin.below _).mono (by omega)))))))
      | quiet_step ((first | (go_at_call 211; exact kin_of (by simp) (HPL.out _ (HB.out.trans ((Kin.below _).mono (by omega))))) | (go_at_call 237; exact kin_of (by simp) (hS _ (HB.out.trans ((Kin.below _).mono (by omega))))))))
    refine wpQuiet_nil ?_
    rintro _ ⟨⟨wk, hwk⟩, rfl⟩
    go_wp2
    go_ret2
    exact ⟨rfl, HB.out.trans (hwk.mono (by omega))⟩
theorem Blk.chg {w w' : World} {g : Nat} {t : TypeId} {cs : Array Value} {F : Nat → Prop} (h : Blk w g t cs) (hc : Chg F w w') (hF : ¬ F g) : Blk w' g t cs := (hc.block g h.lt hF).trans h
set_option maxRecDepth 100000 in
set_option maxHeartbeats 4000000 in
theorem mStep (m : MapV) (s : MapS) (B be : Nat) (e : EntV) (w : World) (h : MapAt w B m s) (hB : B ≤ be) (hb : Blk w be 55 #[.int .i64 e.id, .int .i64 e.kind, .int .i64 e.at_.x, .int .i64 e.at_.y, .int .i64 e.vel.x, .int .i64 e.vel.y, .int .i64 e.health, .int .i64 e.wait])
    (q1 : -134217728 ≤ e.at_.x) (q2 : e.at_.x ≤ 134217728) (q3 : -134217728 ≤ e.at_.y) (q4 : e.at_.y ≤ 134217728) (q5 : -65536 ≤ e.vel.x) (q6 : e.vel.x ≤ 65536) (q7 : -65536 ≤ e.vel.y) (q8 : e.vel.y ≤ 65536) :
    Calls Tryz.prog 152 #[(.agg #[.int .i64 m.W, .int .i64 m.H, .slice s.A s.n s.c, .slice s.A2 s.n2 s.c2]), .pointer (some ⟨be, 0, none⟩)] w fun r w' => r = .returned (.tuple #[.bool (stepped m e).2.1, .bool (stepped m e).2.2]) ∧ Blk w' be 55 #[.int .i64 (stepped m e).1.id, .int .i64 (stepped m e).1.kind, .int .i64 (stepped m e).1.at_.x, .int .i64 (stepped m e).1.at_.y, .int .i64 (stepped m e).1.vel.x, .int .i64 (stepped m e).1.vel.y, .int .i64 (stepped m e).1.health, .int .i64 (stepped m e).1.wait] ∧ Chg (fun g => g = be) w w' := by
  have hlt := hb.lt
  have c2 : w.cell? ⟨be, 2, none⟩ = some (.int .i64 e.at_.x) := hb.cell 2
  have c3 : w.cell? ⟨be, 3, none⟩ = some (.int .i64 e.at_.y) := hb.cell 3
  have c4 : w.cell? ⟨be, 4, none⟩ = some (.int .i64 e.vel.x) := hb.cell 4
  have c5 : w.cell? ⟨be, 5, none⟩ = some (.int .i64 e.vel.y) := hb.cell 5
  have HB := Lib.hid hb
  have HM := Lib.hid h
  clear hb h
  go_enter Tryz.func152, Tryz.ntmps152
  go_wp2
  have hb2 : Blk ((w.alloc (.cells #[.int .i64 m.W, .int .i64 m.H, .slice s.A s.n s.c, .slice s.A2 s.n2 s.c2] 25)).alloc (.cells #[.pointer (some ⟨be, 0, none⟩)] 270)) be 55 #[.int .i64 e.id, .int .i64 e.kind, .int .i64 e.at_.x, .int .i64 e.at_.y, .int .i64 e.vel.x, .int .i64 e.vel.y, .int .i64 e.health, .int .i64 e.wait] := (HB.out.alloc _).alloc _
  have m0 : ((w.alloc (.cells #[.int .i64 m.W, .int .i64 m.H, .slice s.A s.n s.c, .slice s.A2 s.n2 s.c2] 25)).alloc (.cells #[.pointer (some ⟨be, 0, none⟩)] 270)).cell? ⟨w.heap.size, 0, none⟩ = some (.int .i64 m.W) := by go_simp
  have m1 : ((w.alloc (.cells #[.int .i64 m.W, .int .i64 m.H, .slice s.A s.n s.c, .slice s.A2 s.n2 s.c2] 25)).alloc (.cells #[.pointer (some ⟨be, 0, none⟩)] 270)).cell? ⟨w.heap.size, 1, none⟩ = some (.int .i64 m.H) := by go_simp
  have m2 : ((w.alloc (.cells #[.int .i64 m.W, .int .i64 m.H, .slice s.A s.n s.c, .slice s.A2 s.n2 s.c2] 25)).alloc (.cells #[.pointer (some ⟨be, 0, none⟩)] 270)).cell? ⟨w.heap.size, 2, none⟩ = some (.slice s.A s.n s.c) := by go_simp
  have m3 : ((w.alloc (.cells #[.int .i64 m.W, .int .i64 m.H, .slice s.A s.n s.c, .slice s.A2 s.n2 s.c2] 25)).alloc (.cells #[.pointer (some ⟨be, 0, none⟩)] 270)).cell? ⟨w.heap.size, 3, none⟩ = some (.slice s.A2 s.n2 s.c2) := by go_simp
  have m4 : ((w.alloc (.cells #[.int .i64 m.W, .int .i64 m.H, .slice s.A s.n s.c, .slice s.A2 s.n2 s.c2] 25)).alloc (.cells #[.pointer (some ⟨be, 0, none⟩)] 270)).cell? ⟨w.heap.size + 1, 0, none⟩ = some (.pointer (some ⟨be, 0, none⟩)) := by go_simp
  have hbw : Below w.heap.size w ((w.alloc (.cells #[.int .i64 m.W, .int .i64 m.H, .slice s.A s.n s.c, .slice s.A2 s.n2 s.c2] 25)).alloc (.cells #[.pointer (some ⟨be, 0, none⟩)] 270)) := (by repeat (first | with_reducible exact Below.refl _ _ | with_reducible assumption | with_reducible refine Below.drew ?_ | with_reducible refine below_drews ?_ _ | with_reducible refine Below.alloc ?_ (by first | omega | (simp; done) | (simp; omega)) _ | with_reducible refine Below.setCell ?_ (by first | omega | (simp; done) | (simp; omega)) _))
  have hs2 : ((w.alloc (.cells #[.int .i64 m.W, .int .i64 m.H, .slice s.A s.n s.c, .slice s.A2 s.n2 s.c2] 25)).alloc (.cells #[.pointer (some ⟨be, 0, none⟩)] 270)).heap.size = w.heap.size + 1 + 1 := by simp
  generalize ((w.alloc (.cells #[.int .i64 m.W, .int .i64 m.H, .slice s.A s.n s.c, .slice s.A2 s.n2 s.c2] 25)).alloc (.cells #[.pointer (some ⟨be, 0, none⟩)] 270)) = w2 at hb2 m0 m1 m2 m3 m4 hbw hs2 ⊢
  have hA1 := fun W (hW : Below w2.heap.size w2 W) => along1 m s e.at_.x e.vel.x e.at_.y (w.heap.size + 1) be W ((HM.out.below ((hbw.trans (hW.mono hbw.size)).mono (by omega))).upto (by have := hW.size; omega))
    ((hW.cell (p := ⟨w.heap.size + 1, 0, none⟩) (by simp; omega)).trans m4) ((hW.cell (p := ⟨be, 3, none⟩) (by simp; omega)).trans (hb2.cell 3)) q1 q2 q5 q6
  obtain ⟨ok, hok⟩ : ∃ ok, standsB m ⟨e.at_.x + e.vel.x, e.at_.y⟩ = ok := ⟨_, rfl⟩
  simp only [hok] at hA1
  obtain ⟨x1, hx1⟩ : ∃ x1, (if ok then e.at_.x + e.vel.x else e.at_.x) = x1 := ⟨_, rfl⟩
  have hx1b : -134283264 ≤ x1 ∧ x1 ≤ 134283264 := by rw [← hx1]; split <;> omega
  simp only [hx1] at hA1
  have HA1 := Lib.hid hA1
  have HX := Lib.hid (show _ ∧ _ from ⟨hok, hx1⟩)
  have HB2 := Lib.hid hb2
  have HS2 := Lib.hid hs2
  have HBW := Lib.hid hbw
  have l1 : w.heap.size < w2.heap.size := by omega
  have l2 : w.heap.size + 1 < w2.heap.size := by omega
  have l3 : be < w2.heap.size := by omega
  have d2 : w2.cell? ⟨be, 2, none⟩ = some (.int .i64 e.at_.x) := hb2.cell 2
  have d4 : w2.cell? ⟨be, 4, none⟩ = some (.int .i64 e.vel.x) := hb2.cell 4
  have z2 := hb2.frozen 2
  clear hA1 hok hx1 hb2 hs2 hbw c2 c3 c4 c5
  refine wp_region_kin' w2.heap.size (by kernel_rfl) (by kernel_rfl) (fun kk => ?_)
  repeat (first | go_big_quiet_step ((go_at_call 209; exact kin_of (Nat.le_refl _) (HA1.out _ (Kin.below _)))) | quiet_step ((go_at_call 209; exact kin_of (Nat.le_refl _) (HA1.out _ (Kin.below _)))))
  refine wpQuiet_nil ?_
  rintro wk ⟨⟨_, hwk⟩, rfl⟩
  obtain ⟨kc, kf⟩ := bcell hwk
  have hks := hwk.size
  have l4 : be < wk.heap.size := by omega
  go_wp2
  have hb3 : Blk (wk.setCell ⟨be, 2, none⟩ (.int .i64 x1)) be 55 #[.int .i64 e.id, .int .i64 e.kind, .int .i64 x1, .int .i64 e.at_.y, .int .i64 e.vel.x, .int .i64 e.vel.y, .int .i64 e.health, .int .i64 e.wait] := by
    have := Blk.set_ (HB2.out.below hwk l3) 2 (.int .i64 x1)
    simpa using this
  have hk3 : ∀ b o, b < w2.heap.size → b ≠ be → (wk.setCell ⟨be, 2, none⟩ (.int .i64 x1)).cell? ⟨b, o, none⟩ = w2.cell? ⟨b, o, none⟩ := fun b o h1 h2 =>
    (World.cell?_of_block (a := ⟨b, o, none⟩) (Below.heap_setCell wk ⟨be, 2, none⟩ (.int .i64 x1) b h2)).trans (hwk.cell (p := ⟨b, o, none⟩) h1)
  have m0' := (hk3 w.heap.size 0 l1 (by omega)).trans m0
  have m1' := (hk3 w.heap.size 1 l1 (by omega)).trans m1
  have m2' := (hk3 w.heap.size 2 l1 (by omega)).trans m2
  have m3' := (hk3 w.heap.size 3 l1 (by omega)).trans m3
  have m4' := (hk3 (w.heap.size + 1) 0 l2 (by omega)).trans m4
  have hch3 : Chg (fun g => g = be) w (wk.setCell ⟨be, 2, none⟩ (.int .i64 x1)) := Chg.setCell (F := fun g => g = be) ((Chg.refl.below HBW.out (Nat.le_refl _)).below hwk (by omega)) (.inl rfl) _
  have hs3 : w2.heap.size ≤ (wk.setCell ⟨be, 2, none⟩ (.int .i64 x1)).heap.size := by simpa using hks
  clear m0 m1 m2 m3 m4 kc kf kk hk3 d2 d4 z2 hks l4 hwk
  generalize wk.setCell ⟨be, 2, none⟩ (.int .i64 x1) = w3 at hb3 m0' m1' m2' m3' m4' hch3 hs3 ⊢
  have hbw3 : Below B w w3 := hch3.to_below (by omega) (fun g hg => by rw [hg]; exact hB)
  have hA2 := fun W (hW : Below w3.heap.size w3 W) => along2 m s e.at_.y e.vel.y x1 (w.heap.size + 1) be W ((HM.out.below (hbw3.trans (hW.mono (by omega)))).upto (by have := hW.size; omega))
    ((hW.cell (p := ⟨w.heap.size + 1, 0, none⟩) (by simp; omega)).trans m4') ((hW.cell (p := ⟨be, 2, none⟩) (by simp; omega)).trans (hb3.cell 2)) q3 q4 q7 q8
  obtain ⟨fine, hfine⟩ : ∃ fine, standsB m ⟨x1, e.at_.y + e.vel.y⟩ = fine := ⟨_, rfl⟩
  simp only [hfine] at hA2
  obtain ⟨y1, hy1⟩ : ∃ y1, (if fine then e.at_.y + e.vel.y else e.at_.y) = y1 := ⟨_, rfl⟩
  simp only [hy1] at hA2
  have HA2 := Lib.hid hA2
  have HY := Lib.hid (show _ ∧ _ from ⟨hfine, hy1⟩)
  have HB3 := Lib.hid hb3
  have HC3 := Lib.hid hch3
  have l5 : w.heap.size < w3.heap.size := by omega
  have l6 : w.heap.size + 1 < w3.heap.size := by omega
  have l7 : be < w3.heap.size := by omega
  have d3 : w3.cell? ⟨be, 3, none⟩ = some (.int .i64 e.at_.y) := hb3.cell 3
  have d5 : w3.cell? ⟨be, 5, none⟩ = some (.int .i64 e.vel.y) := hb3.cell 5
  have z3 := hb3.frozen 3
  clear hA2 hfine hy1 hb3 hch3 hbw3
  refine wp_region_kin' w3.heap.size (by kernel_rfl) (by kernel_rfl) (fun kk => ?_)
  repeat (first | go_big_quiet_step ((go_at_call 209; exact kin_of (Nat.le_refl _) (HA2.out _ (Kin.below _)))) | quiet_step ((go_at_call 209; exact kin_of (Nat.le_refl _) (HA2.out _ (Kin.below _)))))
  refine wpQuiet_nil ?_
  rintro wj ⟨⟨_, hwj⟩, rfl⟩
  obtain ⟨kc, kf⟩ := bcell hwj
  have hjs := hwj.size
  have l8 : be < wj.heap.size := by omega
  go_wp2
  have e1 : stepped m e = (⟨e.id, e.kind, ⟨x1, y1⟩, e.vel, e.health, e.wait⟩, ok, fine) := by
    unfold stepped
    simp only [HX.out.1, HX.out.2, HY.out.1, HY.out.2]
  rw [e1]
  have hb4 : Blk (wj.setCell ⟨be, 3, none⟩ (.int .i64 y1)) be 55 #[.int .i64 e.id, .int .i64 e.kind, .int .i64 x1, .int .i64 y1, .int .i64 e.vel.x, .int .i64 e.vel.y, .int .i64 e.health, .int .i64 e.wait] := by
    have := Blk.set_ (HB3.out.below hwj l7) 3 (.int .i64 y1)
    simpa using this
  go_ret2
  exact ⟨rfl, hb4, Chg.setCell (F := fun g => g = be) (HC3.out.below hwj (by omega)) (.inl rfl) _⟩
end Go.Proofs.YtojbijapdkohlaaGreatDoor
