/- Layer 14: a header is made. (Printed by gen_chansend.py.) -/
import Derived.Test.YtojbijapdkohlaaGreatDoorQ24Chan
import Derived.Deep.RegionLaw
import Derived.Deep.DeepCutAuto
set_option linter.unusedSimpArgs false
set_option linter.unusedVariables false
namespace Go.Proofs.YtojbijapdkohlaaGreatDoor
open Go.RowKit
def u16V (l : List Nat) : List Value := l.map fun x => Value.int .u16 ((x : Nat) : Int)
theorem twoBoxesC (w : World) (cs1 cs2 : Array Value) (t1 t2 : TypeId) : Below w.heap.size w ((w.alloc (.cells cs1 t1)).alloc (.cells cs2 t2)) ∧ Blk ((w.alloc (.cells cs1 t1)).alloc (.cells cs2 t2)) w.heap.size t1 cs1 ∧ Blk ((w.alloc (.cells cs1 t1)).alloc (.cells cs2 t2)) (w.heap.size + 1) t2 cs2 := by
  refine ⟨(by repeat (first | with_reducible exact Below.refl _ _ | with_reducible assumption | with_reducible refine Below.drew ?_ | with_reducible refine below_drews ?_ _ | with_reducible refine Below.alloc ?_ (by first | omega | (simp; done) | (simp; omega)) _ | with_reducible refine Below.setCell ?_ (by first | omega | (simp; done) | (simp; omega)) _)), (Blk.new _ _ _).alloc _, ?_⟩
  have := Blk.new (w.alloc (.cells cs1 t1)) t2 cs2
  simpa using this
theorem u16V_length (l : List Nat) : (u16V l).length = l.length := by simp [u16V]
set_option maxRecDepth 100000 in
theorem elt16 : Elt Tryz.prog 173 95 1 2 := Elt.mk' Tryz.underlying173 (.int .u16 0) (by kernel_rfl) rfl (by decide) (by decide)
theorem Row.ne_blkS {w : World} {e t : TypeId} {size n c g : Nat} {A : Option Addr} {xs : List Value} {cs : Array Value} (h : Row w e size A n c xs) (hb : Blk w g t cs) (hne : e ≠ t) : ∀ q, blkOf A = some q → q ≠ g := h.ne_blk hb hne
def SendRet (b : Nat) (t : TypeId) (cs : Array Value) (h : HdrV) (op : List Nat) (A : Option Addr) (w : World) (e : Ending) (w' : World) : Prop :=
  e = .returned (.agg #[.int .u16 (h.num : Nat), .bool h.any, .int .u16 (h.ack : Nat), .int .u32 (h.mask : Nat)]) ∧ ∃ (A3 : Option Addr) (n2 c3 : Nat), n2 = op.length + 1 ∧ Blk w' b t ((cs.setIfInBounds 10 (.slice A3 n2 c3)).setIfInBounds 6 (.int .u16 ((h.num + 1) % 65536 : Nat))) ∧ Row w' 95 1 A3 n2 c3 (u16V (op ++ [h.num])) ∧
    (∀ q, blkOf A3 = some q → blkOf A = some q ∨ w.heap.size ≤ q) ∧ Chg (fun q => q = b ∨ blkOf A = some q) w w'
set_option maxRecDepth 100000 in
set_option maxHeartbeats 8000000 in
theorem chanSend (b : Nat) (t : TypeId) (cs : Array Value) (h : HdrV) (hk : h.Ok) (op : List Nat) (A : Option Addr) (n c : Nat) (w : World) (hb : Blk w b t cs) (ht : 95 ≠ t) (ht2 : 215 ≠ t)
    (k0 : cs[6]? = some (.int .u16 (h.num : Nat))) (k1 : cs[7]? = some (.bool h.any)) (k2 : cs[8]? = some (.int .u16 (h.ack : Nat))) (k3 : cs[9]? = some (.int .u32 (h.mask : Nat))) (k4 : cs[10]? = some (.slice A n c))
    (hr : Row w 95 1 A n c (u16V op)) (hn : op.length < 64) :
    Calls Tryz.prog 124 #[.pointer (some ⟨b, 6, none⟩)] w (SendRet b t cs h op A w) := by
  have hl : op.length = n := by have := hr.1; rw [u16V_length] at this; omega
  obtain ⟨q1, q2, q3⟩ := hk
  have lb := hb.lt
  have z0 : w.cell? ⟨b, 6, none⟩ = some (.int .u16 (h.num : Nat)) := (hb.cell 6).trans k0
  have z1 : w.cell? ⟨b, 7, none⟩ = some (.bool h.any) := (hb.cell 7).trans k1
  have z2 : w.cell? ⟨b, 8, none⟩ = some (.int .u16 (h.ack : Nat)) := (hb.cell 8).trans k2
  have z3 : w.cell? ⟨b, 9, none⟩ = some (.int .u32 (h.mask : Nat)) := (hb.cell 9).trans k3
  have z4 : w.cell? ⟨b, 10, none⟩ = some (.slice A n c) := (hb.cell 10).trans k4
  have HL := Lib.hid hl
  have HB := Lib.hid hb
  have HR := Lib.hid hr
  have K := Lib.hid (show _ ∧ _ ∧ _ ∧ _ ∧ _ from ⟨k0, k1, k2, k3, k4⟩)
  clear hb hr k0 k1 k2 k3 k4
  go_enter Tryz.func124, Tryz.ntmps124
  go_upto_region 3 with (fail)
  go_cut [3] (fun s3 wx => s3 = .pointer (some ⟨w.heap.size + 1, 0, none⟩) ∧ Blk wx (w.heap.size + 1) 215 #[.int .u16 (h.num : Nat), .bool h.any, .int .u16 (h.ack : Nat), .int .u32 (h.mask : Nat)] ∧ Blk wx w.heap.size 215 #[.int .u16 0, .bool false, .int .u16 0, .int .u32 0] ∧ Below w.heap.size w wx)
  case first =>
    go_region_held3 (fun w' => w'.cell? ⟨b, 6, none⟩ = some (.int .u16 (h.num : Nat)) ∧ w'.cell? ⟨b, 7, none⟩ = some (.bool h.any) ∧ w'.cell? ⟨b, 8, none⟩ = some (.int .u16 (h.ack : Nat)) ∧ w'.cell? ⟨b, 9, none⟩ = some (.int .u32 (h.mask : Nat))) (go_keep) (fail)
    all_goals go_wp2_with fail
    all_goals go_meet
    all_goals
      obtain ⟨B1, b1, b2⟩ := twoBoxesC w #[.int .u16 0, .bool false, .int .u16 0, .int .u32 0] #[.int .u16 (h.num : Nat), .bool h.any, .int .u16 (h.ack : Nat), .int .u32 (h.mask : Nat)] 215 215
      exact ⟨rfl, b2, b1, B1.drew⟩
  case rest =>
    obtain ⟨rfl, e1, e0, e2⟩ := hcut
    have y0 : wc.cell? ⟨b, 6, none⟩ = some (.int .u16 (h.num : Nat)) := (e2.cell (p := ⟨b, 6, none⟩) lb).trans z0
    have y4 : wc.cell? ⟨b, 10, none⟩ = some (.slice A n c) := (e2.cell (p := ⟨b, 10, none⟩) lb).trans z4
    have hbc := HB.out.below e2 lb
    have hrc := HR.out.keep (fun q hq => e2.block q (HR.out.lt hq))
    have f4 : wc.frozen? ⟨b, 10, none⟩ = false := hbc.frozen 10
    have E0 := Lib.hid e0
    have E1 := Lib.hid e1
    have E2 := Lib.hid e2
    have HBC := Lib.hid hbc
    have HRC := Lib.hid hrc
    have s1 := e1.lt
    have lbc := hbc.lt
    have s0 := e0.lt
    have HA := Lib.hid (fun q (hq : blkOf A = some q) => HR.out.lt hq)
    clear e0 e1 e2 hbc hrc z0 z1 z2 z3 z4 HB HR
    go_upto_region 4 with (fail)
    go_cut [3] (fun s3 wx => s3 = .pointer (some ⟨w.heap.size + 1, 0, none⟩) ∧ ∃ (A3 : Option Addr) (n2 c3 : Nat), n2 = n + 1 ∧ Blk wx b t (cs.setIfInBounds 10 (.slice A3 n2 c3)) ∧ Row wx 95 1 A3 n2 c3 (u16V (op ++ [h.num])) ∧ Blk wx (w.heap.size + 1) 215 #[.int .u16 (h.num : Nat), .bool h.any, .int .u16 (h.ack : Nat), .int .u32 (h.mask : Nat)] ∧ Blk wx w.heap.size 215 #[.int .u16 0, .bool false, .int .u16 0, .int .u32 0] ∧
      (∀ q, blkOf A3 = some q → blkOf A = some q ∨ w.heap.size ≤ q) ∧ Chg (fun q => q = b ∨ blkOf A = some q) w wx)
    case first =>
      go_region_law (refine step_row rfl (.tmp 31) (.tmp 36) rfl elt16 A n c (u16V op) (by simp [Act.eval, Act.put]) (HRC.out.keep (fun q hq => Below.heap_alloc _ (.cells #[.int .u16 (h.num : Nat)] 95) q (HRC.out.lt hq))) (wc.heap.size + 1) (some ⟨wc.heap.size, 0, none⟩) 1 1 [.int .u16 (h.num : Nat)] (by simp [Act.eval, Act.put]) (Reads.blk (size := 1) (n := 1) (g := wc.heap.size) (heap_alloc_new wc (.cells #[.int .u16 (h.num : Nat)] 95)) (by omega) rfl) (by simp [Value.oneCell']) (by omega) ?_; intro A3 c3 w3 hr3 hg3 hb3; have mb3 := (HBC.out.alloc (.cells #[.int .u16 (h.num : Nat)] 95)).drew.grown hg3 (fun e => HRC.out.ne_blkS HBC.out ht b e.symm rfl); have s10 : w3.cell? ⟨b, 10, none⟩ = some (.slice A n c) := (mb3.cell 10).trans K.out.2.2.2.2; have t10 : w3.frozen? ⟨b, 10, none⟩ = false := mb3.frozen 10)
      all_goals go_wp2_with fail
      all_goals go_meet
      all_goals
        have k3 := hr3.ne_blkS mb3 ht
        have u1 := (E1.out.alloc (.cells #[.int .u16 (h.num : Nat)] 95)).drew.grown hg3 (fun e => by have := HA.out _ e.symm; omega)
        have u0 := (E0.out.alloc (.cells #[.int .u16 (h.num : Nat)] 95)).drew.grown hg3 (fun e => by have := HA.out _ e.symm; omega)
        have v0 : Blk (w3.setCell ⟨b, 10, none⟩ (.slice A3 (n + 1) c3)) b t (cs.setIfInBounds 10 (.slice A3 (n + 1) c3)) := mb3.set_ 10 _
        have v1 : Blk (w3.setCell ⟨b, 10, none⟩ (.slice A3 (n + 1) c3)) (w.heap.size + 1) 215 #[.int .u16 (h.num : Nat), .bool h.any, .int .u16 (h.ack : Nat), .int .u32 (h.mask : Nat)] := u1.far (p := ⟨b, 10, none⟩) (by show w.heap.size + 1 ≠ b; omega) _
        have v2 : Blk (w3.setCell ⟨b, 10, none⟩ (.slice A3 (n + 1) c3)) w.heap.size 215 #[.int .u16 0, .bool false, .int .u16 0, .int .u32 0] := u0.far (p := ⟨b, 10, none⟩) (by show w.heap.size ≠ b; omega) _
        have v3 : Row (w3.setCell ⟨b, 10, none⟩ (.slice A3 (n + 1) c3)) 95 1 A3 (n + 1) c3 (u16V (op ++ [h.num])) := by
          have := hr3.keep (w' := (w3.setCell ⟨b, 10, none⟩ (.slice A3 (n + 1) c3))) (fun q hq => Below.heap_setCell _ _ _ q (k3 q hq))
          simpa [u16V] using this
        have v4 : ∀ q, blkOf A3 = some q → blkOf A = some q ∨ w.heap.size ≤ q := by
          intro q hq
          rcases hb3 with h | h
          · exact .inl (h.symm.trans hq)
          · rw [h] at hq
            have := E2.out.size
            simp at hq
            exact .inr (by omega)
        have v5 : Chg (fun q => q = b ∨ blkOf A = some q) w (w3.setCell ⟨b, 10, none⟩ (.slice A3 (n + 1) c3)) := Chg.setCell (Chg.grown (Chg.drewN (Chg.alloc (Chg.below (Chg.refl (w := w)) E2.out (Nat.le_refl _)) _) 1) hg3 (fun k hk => .inl (.inr hk))) (p := ⟨b, 10, none⟩) (.inl (.inl rfl)) _
        exact ⟨rfl, A3, n + 1, c3, rfl, v0, v3, v1, v2, v4, v5⟩
    case rest =>
      clear y0 y4 f4 s0 s1 E0 E1 E2 HBC HRC HA
      obtain ⟨rfl, A3, n2, c3, hn2, d0, d1, d2, d3, d4, d5⟩ := hcut
      obtain ⟨k0, k1, k2, k3, k4⟩ := K.out
      have hsz : 10 < cs.size := (Array.getElem?_eq_some_iff.1 k4).1
      have y0 : wc.cell? ⟨b, 6, none⟩ = some (.int .u16 (h.num : Nat)) := (d0.cell 6).trans ((Array.getElem?_setIfInBounds_ne (by decide)).trans k0)
      have y4 : wc.cell? ⟨b, 10, none⟩ = some (.slice A3 n2 c3) := (d0.cell 10).trans (Array.getElem?_setIfInBounds_self_of_lt hsz)
      have f0 : wc.frozen? ⟨b, 6, none⟩ = false := d0.frozen 6
      have g0 := d2.cell 0
      have g1 := d2.cell 1
      have g2 := d2.cell 2
      have g3 := d2.cell 3
      have r0 := d3.cell 0
      have r1 := d3.cell 1
      have r2 := d3.cell 2
      have r3 := d3.cell 3
      have m0 := d3.frozen 0
      have m1 := d3.frozen 1
      have m2 := d3.frozen 2
      have m3 := d3.frozen 3
      simp only [List.getElem?_toArray, List.getElem?_cons_zero, List.getElem?_cons_succ] at g0 g1 g2 g3 r0 r1 r2 r3
      have l0 := d0.lt
      have l2 := d2.lt
      have l3 := d3.lt
      have t1 : decide ((64 : Int) < (n2 : Int)) = false := decide_eq_false (by omega)
      have t1n : decide (64 < n2) = false := decide_eq_false (by omega)
      have D0 := Lib.hid d0
      have D1 := Lib.hid d1
      have D3 := Lib.hid d3
      have D4 := Lib.hid d4
      have D5 := Lib.hid d5
      have HN2 := Lib.hid hn2
      have HKK := Lib.hid (d1.ne_blkS d0 ht)
      have b1 : b ≠ w.heap.size := by omega
      have b2 : b ≠ w.heap.size + 1 := by omega
      have HA1 := Lib.hid (fun q (hq : blkOf A3 = some q) => d1.ne_blkS d3 (by decide) q hq)
      clear d0 d1 d2 d3 d4 d5 hn2 k0 k1 k2 k3 k4
      go_wp2
      have hwr : IntKind.u16.wrap ((h.num : Int) + 1) = (((h.num + 1) % 65536 : Nat) : Int) := by rw [IntKind.wrap_u16]; omega
      rw [hwr]
      have e0 : Blk (((((wc.setCell ⟨b, 6, none⟩ (.int .u16 (((h.num + 1) % 65536 : Nat) : Int))).setCell ⟨w.heap.size, 0, none⟩ (.int .u16 (h.num : Nat))).setCell ⟨w.heap.size, 1, none⟩ (.bool h.any)).setCell ⟨w.heap.size, 2, none⟩ (.int .u16 (h.ack : Nat))).setCell ⟨w.heap.size, 3, none⟩ (.int .u32 (h.mask : Nat))) b t ((cs.setIfInBounds 10 (.slice A3 n2 c3)).setIfInBounds 6 (.int .u16 ((h.num + 1) % 65536 : Nat))) := Blk.far (p := ⟨w.heap.size, 3, none⟩) (Blk.far (p := ⟨w.heap.size, 2, none⟩) (Blk.far (p := ⟨w.heap.size, 1, none⟩) (Blk.far (p := ⟨w.heap.size, 0, none⟩) (D0.out.set_ 6 _) b1 _) b1 _) b1 _) b1 _
      have e3 : Blk (((((wc.setCell ⟨b, 6, none⟩ (.int .u16 (((h.num + 1) % 65536 : Nat) : Int))).setCell ⟨w.heap.size, 0, none⟩ (.int .u16 (h.num : Nat))).setCell ⟨w.heap.size, 1, none⟩ (.bool h.any)).setCell ⟨w.heap.size, 2, none⟩ (.int .u16 (h.ack : Nat))).setCell ⟨w.heap.size, 3, none⟩ (.int .u32 (h.mask : Nat))) w.heap.size 215 #[.int .u16 (h.num : Nat), .bool h.any, .int .u16 (h.ack : Nat), .int .u32 (h.mask : Nat)] := by
        have := ((((D3.out.far (p := ⟨b, 6, none⟩) (Ne.symm b1) (.int .u16 (((h.num + 1) % 65536 : Nat) : Int))).set_ 0 (.int .u16 (h.num : Nat))).set_ 1 (.bool h.any)).set_ 2 (.int .u16 (h.ack : Nat))).set_ 3 (.int .u32 (h.mask : Nat))
        simpa using this
      have e1 : Row (((((wc.setCell ⟨b, 6, none⟩ (.int .u16 (((h.num + 1) % 65536 : Nat) : Int))).setCell ⟨w.heap.size, 0, none⟩ (.int .u16 (h.num : Nat))).setCell ⟨w.heap.size, 1, none⟩ (.bool h.any)).setCell ⟨w.heap.size, 2, none⟩ (.int .u16 (h.ack : Nat))).setCell ⟨w.heap.size, 3, none⟩ (.int .u32 (h.mask : Nat))) 95 1 A3 n2 c3 (u16V (op ++ [h.num])) := D1.out.keep (fun q hq => (Below.heap_setCell _ _ _ q (HA1.out q hq)).trans ((Below.heap_setCell _ _ _ q (HA1.out q hq)).trans ((Below.heap_setCell _ _ _ q (HA1.out q hq)).trans ((Below.heap_setCell _ _ _ q (HA1.out q hq)).trans (Below.heap_setCell _ _ _ q (HKK.out q hq))))))
      have e5 : Chg (fun q => q = b ∨ blkOf A = some q) w (((((wc.setCell ⟨b, 6, none⟩ (.int .u16 (((h.num + 1) % 65536 : Nat) : Int))).setCell ⟨w.heap.size, 0, none⟩ (.int .u16 (h.num : Nat))).setCell ⟨w.heap.size, 1, none⟩ (.bool h.any)).setCell ⟨w.heap.size, 2, none⟩ (.int .u16 (h.ack : Nat))).setCell ⟨w.heap.size, 3, none⟩ (.int .u32 (h.mask : Nat))) := Chg.setCell (Chg.setCell (Chg.setCell (Chg.setCell (Chg.setCell D5.out (p := ⟨b, 6, none⟩) (.inl (.inl rfl)) _) (p := ⟨w.heap.size, 0, none⟩) (.inr (Nat.le_refl _)) _) (p := ⟨w.heap.size, 1, none⟩) (.inr (Nat.le_refl _)) _) (p := ⟨w.heap.size, 2, none⟩) (.inr (Nat.le_refl _)) _) (p := ⟨w.heap.size, 3, none⟩) (.inr (Nat.le_refl _)) _
      generalize (((((wc.setCell ⟨b, 6, none⟩ (.int .u16 (((h.num + 1) % 65536 : Nat) : Int))).setCell ⟨w.heap.size, 0, none⟩ (.int .u16 (h.num : Nat))).setCell ⟨w.heap.size, 1, none⟩ (.bool h.any)).setCell ⟨w.heap.size, 2, none⟩ (.int .u16 (h.ack : Nat))).setCell ⟨w.heap.size, 3, none⟩ (.int .u32 (h.mask : Nat))) = wf at e0 e1 e3 e5 ⊢
      have q0 : wf.cell? ⟨w.heap.size, 0, none⟩ = some (.int .u16 (h.num : Nat)) := e3.cell 0
      have q1 : wf.cell? ⟨w.heap.size, 1, none⟩ = some (.bool h.any) := e3.cell 1
      have q2 : wf.cell? ⟨w.heap.size, 2, none⟩ = some (.int .u16 (h.ack : Nat)) := e3.cell 2
      have q3 : wf.cell? ⟨w.heap.size, 3, none⟩ = some (.int .u32 (h.mask : Nat)) := e3.cell 3
      clear y0 y4 f0 g0 g1 g2 g3 r0 r1 r2 r3 m0 m1 m2 m3
      exact bodyPost_ret (v := .agg #[.int .u16 (h.num : Nat), .bool h.any, .int .u16 (h.ack : Nat), .int .u32 (h.mask : Nat)]) (by simp [results, Tryz.results124, go_sem, q0, q1, q2, q3]) rfl ⟨rfl, A3, n2, c3, by have := HN2.out; have := HL.out; omega, e0, e1, D4.out, e5⟩
end Go.Proofs.YtojbijapdkohlaaGreatDoor
