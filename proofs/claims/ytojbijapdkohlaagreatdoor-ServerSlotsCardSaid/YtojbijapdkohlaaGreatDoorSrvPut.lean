/- Layer 18: the first list that a ring keeps. -/
import Derived.Test.YtojbijapdkohlaaGreatDoorRing
import Derived.Deep.RegionLaw
import Derived.Deep.DeepCutAuto
set_option linter.unusedSimpArgs false
set_option linter.unusedVariables false
namespace Go.Proofs.YtojbijapdkohlaaGreatDoor
open Go.RowKit
set_option maxRecDepth 100000 in
theorem eltI : Elt Tryz.prog 158 3 1 8 := Elt.mk' Tryz.underlying158 (.int .i64 0) (by kernel_rfl) rfl (by decide) (by decide)
set_option maxRecDepth 100000 in
theorem eql_map_nil (w : World) : (binOp .eql 159 (.map none) (.map none)).run Tryz.prog w = .ok (.bool true) w := by kernel_rfl
theorem Row.ne_blkR {w : World} {e t : TypeId} {size n c g : Nat} {A : Option Addr} {xs : List Value} {cs : Array Value} (h : Row w e size A n c xs) (hb : Blk w g t cs) (hne : e ≠ t) : ∀ q, blkOf A = some q → q ≠ g := by
  intro q hq
  rcases h.2.2.2 with ⟨h3, -⟩ | ⟨g', off, cur, h3, h4, -, -⟩
  · rw [h3] at hq; cases hq
  · rw [h3] at hq
    have : g' = q := by simpa [blkOf] using hq
    subst this
    exact Blk.ne_ (t := e) h4 hb hne
theorem Chg.cellF {F : Nat → Prop} {w w' : World} (h : Chg F w w') {p : Addr} (hp : p.block < w.heap.size) (hF : ¬ F p.block) : w'.cell? p = w.cell? p := by
  unfold World.cell?
  rw [h.block p.block hp hF]
theorem Reads.keepA {w w' : World} {B size n : Nat} {A : Option Addr} {xs : List Value} (h : Reads w B size A n xs) (hk : ∀ p : Addr, blkOf A = some p.block → p.block < B → w'.cell? p = w.cell? p) : Reads w' B size A n xs :=
  ⟨h.1, fun hn => by
    obtain ⟨ad, hA, hb, hc⟩ := h.2 hn
    exact ⟨ad, hA, hb, fun j u hu => (hk (ad.add j) (by rw [hA, block_of_add]; rfl) (by rw [block_of_add]; exact hb)).trans (hc j u hu)⟩⟩
def PutNew (b : Nat) (t : TypeId) (cs : Array Value) (tick : Int) (w : World) (e : Ending) (w' : World) : Prop :=
  e = .returned (.int .i64 0) ∧ ∃ (A' : Option Addr) (c' mb : Nat), Blk w' b t ((cs.setIfInBounds 9 (.map (some mb))).setIfInBounds 8 (.slice A' 1 c')) ∧ Row w' 3 1 A' 1 c' (intsV [tick]) ∧ (∀ q, blkOf A' = some q → w.heap.size ≤ q) ∧ w.heap.size ≤ mb ∧ Chg (fun q => q = b) w w'
set_option maxRecDepth 100000 in
set_option maxHeartbeats 8000000 in
theorem ringPutNew (b : Nat) (t : TypeId) (cs : Array Value) (tick : Int) (l : List EntV) (A : Option Addr) (n c : Nat) (w : World) (hb : Blk w b t cs) (hti : 3 ≠ t) (k8 : cs[8]? = some (.slice none 0 0)) (k9 : cs[9]? = some (.map none)) (hl : Reads w w.heap.size 8 A n (entsV l)) (hlb : ∀ q, blkOf A = some q → q ≠ b) (hn : n ≤ 100000) (h0 : 0 ≤ tick) (h1 : tick ≤ 4294967296) :
    Calls Tryz.prog 90 #[.pointer (some ⟨b, 8, none⟩), .int .i64 tick, .slice A n c] w (PutNew b t cs tick w) := by
  have z8 : w.cell? ⟨b, 8, none⟩ = some (.slice none 0 0) := (hb.cell 8).trans k8
  have lb := hb.lt
  have hL := ringLast [] b 8 none 0 0 w z8 Reads.none_ (by omega)
  have hla : lastI [] = -1 := rfl
  rw [hla] at hL
  have d1 : decide (tick ≤ -1) = false := decide_eq_false (by omega)
  have HB := Lib.hid hb
  have HL := Lib.hid hl
  have HLB := Lib.hid hlb
  have K := Lib.hid (show _ ∧ _ from ⟨k8, k9⟩)
  clear hb hl k8 k9 hla hlb z8
  go_enter Tryz.func90, Tryz.ntmps90
  go_wp2_with fail
  refine hL.mono ?_
  rintro e w1 ⟨rfl, hb1⟩
  have HB1 := Lib.hid (HB.out.below hb1 lb)
  have z8 : w1.cell? ⟨b, 8, none⟩ = some (.slice none 0 0) := (HB1.out.cell 8).trans K.out.1
  have z9 : w1.cell? ⟨b, 9, none⟩ = some (.map none) := (HB1.out.cell 9).trans K.out.2
  have f8 : w1.frozen? ⟨b, 8, none⟩ = false := HB1.out.frozen 8
  have f9 : w1.frozen? ⟨b, 9, none⟩ = false := HB1.out.frozen 9
  have lb1 := HB1.out.lt
  have HBE := Lib.hid hb1
  have kmap := fun w => eql_map_nil w
  clear hL hb1
  have kmk := fun w => run_makeMap (P := Tryz.prog) 159 w
  go_upto_if 19 with (fail)
  go_cut [] (fun wx => ∃ mb, Blk wx b t (cs.setIfInBounds 9 (.map (some mb))) ∧ IMap wx mb [] ∧ w.heap.size ≤ mb ∧ mb ≠ b ∧ Chg (fun q => q = b) w wx)
  case first =>
    go_wp2_with fail
    go_meet
    have hs := HBE.out.size
    have e0 : Blk ((w1.setCell ⟨b, 9, none⟩ (.map (some w1.heap.size))).alloc (.map #[] 0)) b t (cs.setIfInBounds 9 (.map (some w1.heap.size))) := (HB1.out.set_ 9 _).alloc _
    have e1 : IMap ((w1.setCell ⟨b, 9, none⟩ (.map (some w1.heap.size))).alloc (.map #[] 0)) w1.heap.size [] := by
      have := IMap.new (w1.setCell ⟨b, 9, none⟩ (.map (some w1.heap.size)))
      simpa using this
    have e2 : Chg (fun q => q = b) w ((w1.setCell ⟨b, 9, none⟩ (.map (some w1.heap.size))).alloc (.map #[] 0)) := Chg.alloc (Chg.setCell (F := fun q => q = b) (Chg.below (Chg.refl (w := w)) HBE.out (Nat.le_refl _)) (p := ⟨b, 9, none⟩) (.inl rfl) _) _
    exact ⟨w1.heap.size, e0, e1, hs, by omega, e2⟩
  case rest =>
    obtain ⟨mb, h0', h1', h2', h3', h4'⟩ := hcut
    have z8' : wc.cell? ⟨b, 8, none⟩ = some (.slice none 0 0) := (h0'.cell 8).trans ((Array.getElem?_setIfInBounds_ne (by decide)).trans K.out.1)
    have f8' : wc.frozen? ⟨b, 8, none⟩ = false := h0'.frozen 8
    have lbc := h0'.lt
    have C0 := Lib.hid h0'
    have C1 := Lib.hid h1'
    have C4 := Lib.hid h4'
    have lmb := h1'.lt
    have hsz := h4'.size
    clear h0' h1' h4' z8 z9 f8 f9 kmap kmk HB1 HBE lb1
    go_upto_region 8 with (at_builtin; refine wpList_row rfl (.tmp 28) (.tmp 30) rfl eltI none 0 0 [] rfl Row.nil_ (wc.heap.size + 1) (some ⟨wc.heap.size, 0, none⟩) 1 1 [.int .i64 tick] rfl (Reads.blk (size := 1) (n := 1) (g := wc.heap.size) (heap_alloc_new wc (.cells #[.int .i64 tick] 3)) (by omega) rfl) (by simp [Value.oneCell']) (by omega) ?_; intro A3 c3 w3 hr3 hg3 hb3; have mb3 := (C0.out.alloc (.cells #[.int .i64 tick] 3)).grown hg3 (by simp [blkOf]); have s8 : w3.cell? ⟨b, 8, none⟩ = some (.slice none 0 0) := (mb3.cell 8).trans ((Array.getElem?_setIfInBounds_ne (by decide)).trans K.out.1); have t8 : w3.frozen? ⟨b, 8, none⟩ = false := mb3.frozen 8)
    have hneb := hr3.ne_blkR mb3 hti
    have E0 : Blk (w3.setCell ⟨b, 8, none⟩ (.slice A3 1 c3)) b t ((cs.setIfInBounds 9 (.map (some mb))).setIfInBounds 8 (.slice A3 1 c3)) := mb3.set_ 8 _
    have E1 : IMap (w3.setCell ⟨b, 8, none⟩ (.slice A3 1 c3)) mb [] := C1.out.keep ((Below.heap_setCell _ _ _ mb h3').trans ((hg3.block mb (by simp; omega) (by simp [blkOf])).trans (Below.heap_alloc wc _ mb lmb)))
    have E3 : Row (w3.setCell ⟨b, 8, none⟩ (.slice A3 1 c3)) 3 1 A3 1 c3 (intsV [tick]) := by
      have := hr3.keep (w' := w3.setCell ⟨b, 8, none⟩ (.slice A3 1 c3)) (fun q hq => Below.heap_setCell _ _ _ q (hneb q hq))
      simpa [intsV] using this
    have E4 : Chg (fun q => q = b) w (w3.setCell ⟨b, 8, none⟩ (.slice A3 1 c3)) := Chg.setCell (F := fun q => q = b) (Chg.grown (Chg.alloc C4.out _) hg3 (fun k hk => by simp [blkOf] at hk)) (p := ⟨b, 8, none⟩) (.inl rfl) _
    have E5 : ∀ q, blkOf A3 = some q → w.heap.size ≤ q := by
      intro q hq
      rcases hb3 with h | h
      · rw [h] at hq; simp [blkOf] at hq
      · rw [h] at hq; simp at hq; omega
    have E6 : mb < (w3.setCell ⟨b, 8, none⟩ (.slice A3 1 c3)).heap.size := E1.lt
    clear hr3 hg3 hb3 mb3 s8 t8 hneb C0 C1 C4 z8' f8'
    generalize w3.setCell ⟨b, 8, none⟩ (.slice A3 1 c3) = w4 at E0 E1 E3 E4 E5 E6 ⊢
    have hk8 : 8 < cs.size := (Array.getElem?_eq_some_iff.1 K.out.1).1
    have hk9 : 9 < cs.size := (Array.getElem?_eq_some_iff.1 K.out.2).1
    have z9 : w4.cell? ⟨b, 9, none⟩ = some (.map (some mb)) := (E0.cell 9).trans ((Array.getElem?_setIfInBounds_ne (by decide)).trans (Array.getElem?_setIfInBounds_self_of_lt hk9))
    have z8 : w4.cell? ⟨b, 8, none⟩ = some (.slice A3 1 c3) := (E0.cell 8).trans (Array.getElem?_setIfInBounds_self_of_lt (by simpa using hk8))
    have lb4 := E0.lt
    have sz4 := E4.size
    have HRD := Lib.hid ((HL.out.keepA (w' := w4) (fun p hp hpb => E4.cellF hpb (fun e => HLB.out _ hp e))).upto sz4)
    have HC := Lib.hid (fun W (hW : Below w4.heap.size w4 W) => cloneE l W A n c ((HRD.out.below hW).upto hW.size) hn)
    have G0 := Lib.hid E0
    have G1 := Lib.hid E1
    have G3 := Lib.hid E3
    have G4 := Lib.hid E4
    have G5 := Lib.hid E5
    clear E0 E1 E3 E4 E5
    go_cut [] (fun wx => Blk wx b t ((cs.setIfInBounds 9 (.map (some mb))).setIfInBounds 8 (.slice A3 1 c3)) ∧ Row wx 3 1 A3 1 c3 (intsV [tick]) ∧ Chg (fun q => q = b) w wx)
    case first =>
      go_region_law (go_simp; go_at_call 71; refine (HC.out _ (by repeat (first | with_reducible exact Below.refl _ _ | with_reducible assumption | with_reducible refine Below.drew ?_ | with_reducible refine below_drews ?_ _ | with_reducible refine Below.alloc ?_ (by first | omega | (simp; done) | (simp; omega)) _ | with_reducible refine Below.setCell ?_ (by first | omega | (simp; done) | (simp; omega)) _))).mono ?_; rintro r wv ⟨Av, cv, rfl, hrv, hfv, hbv⟩; have BV : Below w4.heap.size w4 wv := (by refine Below.trans (by repeat (first | with_reducible exact Below.refl _ _ | with_reducible assumption | with_reducible refine Below.drew ?_ | with_reducible refine below_drews ?_ _ | with_reducible refine Below.alloc ?_ (by first | omega | (simp; done) | (simp; omega)) _ | with_reducible refine Below.setCell ?_ (by first | omega | (simp; done) | (simp; omega)) _)) (hbv.mono ?_); simp); have zv9 : wv.cell? ⟨b, 9, none⟩ = some (.map (some mb)) := (BV.cell (p := ⟨b, 9, none⟩) lb4).trans z9; obtain ⟨wm, hrun, hmap, hgr⟩ := run_mapUpdate_imap (P := Tryz.prog) Tryz.underlying159 Tryz.underlying3 (G1.out.keep (BV.block mb E6)) tick (.slice Av n cv))
      all_goals go_wp2_with fail
      all_goals go_meet
      all_goals
        have hne3 : ∀ q, blkOf A3 = some q → q ≠ mb := by
          intro q hq e
          subst e
          obtain ⟨es, ck, hm, -⟩ := G1.out
          rcases G3.out.2.2.2 with ⟨h5, -⟩ | ⟨g5, off5, cur5, h5, h6, -, -⟩
          · rw [h5] at hq; cases hq
          · rw [h5] at hq
            have : g5 = q := by simpa [blkOf] using hq
            subst this
            rw [h6] at hm
            cases hm
        have y0 := (G0.out.below BV lb4).grown hgr (fun e => h3' (Option.some.inj e).symm)
        have y1 : Row wm 3 1 A3 1 c3 (intsV [tick]) := G3.out.keep (fun q hq => (hgr.block q (Nat.lt_of_lt_of_le (G3.out.lt hq) BV.size) (fun e => hne3 q hq (Option.some.inj e))).trans (BV.block q (G3.out.lt hq)))
        have y2 : Chg (fun q => q = b) w wm := (G4.out.below BV sz4).grown hgr (fun k hk => .inr (by cases hk; exact h2'))
        exact ⟨y0, y1, y2⟩
    case rest =>
      obtain ⟨y0, y1, y2⟩ := hcut
      have z8' : wc.cell? ⟨b, 8, none⟩ = some (.slice A3 1 c3) := (y0.cell 8).trans (Array.getElem?_setIfInBounds_self_of_lt (by simpa using hk8))
      have Y := Lib.hid (show _ ∧ _ ∧ _ from ⟨y0, y1, y2⟩)
      clear y0 y1 y2
      go_wp2
      go_ret
      exact ⟨rfl, A3, c3, mb, Y.out.1, Y.out.2.1, G5.out, h2', Y.out.2.2⟩
end Go.Proofs.YtojbijapdkohlaaGreatDoor
