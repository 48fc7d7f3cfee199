/- Layer 22's laws: awake. -/
import Derived.Test.YtbjhdmknhimbjaaGreatFew22
set_option linter.unusedSimpArgs false
set_option linter.unusedVariables false
namespace Go.Proofs.YtbjhdmknhimbjaaGreat
open Go.RowKit
theorem Chg.bel {F : Nat → Prop} {w a b : World} {B : Nat} (h : Below B w a) (hB : B ≤ w.heap.size) (hc : Chg F a b) (hF : ∀ q, F q → B ≤ q) : Below B w b :=
  h.trans ⟨hc.os, hc.tape, hc.output, hc.size, fun g hg => hc.block g (by have := h.size; omega) (fun hh => by have := hF g hh; omega)⟩
set_option maxRecDepth 100000 in
set_option maxHeartbeats 8000000 in
theorem awake22 (w : World) : Calls Tryz.prog 7 #[] w fun e w' => e = .returned (.bool true) ∧ Below w.heap.size w w' := by
  have hR := fun W => tRead _ _ read22 (by decide) W
  have hs : (⟨(sgBytes [.spawn, .spawn, .nl]).toArray⟩ : ByteArray) = ⟨#[226, 151, 142, 226, 151, 142, 10]⟩ := by rfl
  rw [hs] at hR
  have hN := fun (s : MapS) W hM h1 h2 => cliNewYes map22 s 7 1 W hM ok22 h1 h2
  simp only [map22] at hR hN
  clear hs
  go_enter Tryz.func7, Tryz.ntmps7
  go_wp2_with fail
  refine (hR _).mono ?_
  rintro e w1 ⟨s, rfl, hmat, hb1⟩
  have HMT := Lib.hid hmat
  have hs1 := hb1.size
  have hl := hmat.len
  simp only [List.length_cons, List.length_nil] at hl
  have HL := Lib.hid hl
  clear hmat hl
  go_wp2_with fail
  refine (hN s _ ((HMT.out.below (Below.alloc (Below.refl _ _) (Nat.le_refl _) _)).upto (by simp)) (by have := HL.out; omega) (by have := HL.out; omega)).mono ?_
  rintro e w2 ⟨b, s2, rfl, hb2, -, hbb, hbl⟩
  have z16 : w2.cell? ⟨b, 16, none⟩ = some (.slice none 0 0) := hb2.cell 16
  have s2 := hbl.size
  simp at s2
  have B2 : Below w.heap.size w w2 := (hb1.trans ((Below.alloc (Below.refl _ _) (Nat.le_refl _) _).mono hs1)).trans (hbl.mono (by simp; omega))
  have hbw : w.heap.size ≤ b := by simp at hbb; omega
  have HB2 := Lib.hid hb2
  have HBL2 := Lib.hid B2
  clear hb2 hbl B2 z16 hb1
  go_wp2_with fail
  refine (cliEnter _ _ _ _ _ _ _ _ _ _ _ _ _ _ _ [] b 0 none 0 0 0 0 1 1 false [] none 0 w2 HB2.out Row.nil_ Row.nil_ (by decide) (by decide) (by decide) (by decide) (by decide) (by decide)).mono ?_
  rintro e w3 ⟨rfl, A3, c3, rs3, pl3, hb3, hr3, hcase, hpv, hch⟩
  have hpl : pl3 = [newCmd [] 0 1 1 false 0] := by
    rcases hcase with ⟨-, h, -⟩ | ⟨h, -, -⟩
    · simpa using h
    · simp at h
  subst hpl
  have z3 : w3.cell? ⟨b, 16, none⟩ = some (.slice A3 1 c3) := hb3.cell 16
  have HB3 := Lib.hid hb3
  have HR3 := Lib.hid hr3
  have HL3 := Lib.hid (Chg.bel (F := fun q => q = b ∨ blkOf none = some q) HBL2.out (Nat.le_refl _) hch (fun q hq => hq.elim (fun h => by omega) (fun h => nomatch h)))
  clear hb3 hr3 hcase hpv hch
  go_wp2_with fail
  refine (cliPending b A3 1 c3 w3 z3).mono ?_
  rintro e w4 ⟨rfl, rfl⟩
  clear z3
  go_wp2_with fail
  refine (cliSend _ _ _ _ _ _ _ _ _ _ 7 1 ⟨0, false, 0, 0⟩ ⟨by decide, by decide, by decide⟩ none 0 0 [] 0 [] none 0 0 [newCmd [] 0 1 1 false 0] A3 1 c3 b w3 HB3.out Row.nil_ Row.nil_ HR3.out (by decide) (by decide) (by decide) (fun _ => by decide +kernel) (by
    intro c hc
    simp at hc
    subst hc
    exact ⟨by decide, by decide, by decide, by decide, by decide⟩) (by decide)).mono ?_
  rintro e w5 ⟨v, m, oA, on, oc, rfl, hown, -, -, -, -, hch⟩
  obtain ⟨A, c, rfl, hm, hm2⟩ := sent_len hown
  have HL5 := Lib.hid (Chg.bel (F := fun q => q = b ∨ blkOf none = some q) HL3.out (Nat.le_refl _) hch (fun q hq => hq.elim (fun h => by omega) (fun h => nomatch h)))
  have t1 : decide (4 < m) = true := decide_eq_true hm
  have t1n : decide ((4 : Int) < (m : Int)) = true := decide_eq_true (by omega)
  clear hown hch
  go_wp2
  go_ret
  exact ⟨rfl, HL5.out⟩
end Go.Proofs.YtbjhdmknhimbjaaGreat
