/- Layer 21's laws: awake. -/
import Derived.Test.YtbjhdmknhimbjaaGreatDoorSrvJoin
import Derived.Test.YtbjhdmknhimbjaaGreatDoorRead
set_option linter.unusedSimpArgs false
set_option linter.unusedVariables false
namespace Go.Proofs.YtbjhdmknhimbjaaGreatDoor
open Go.RowKit
def map21 : MapV := ⟨2, 1, [false, false], [⟨32768, 32768⟩, ⟨98304, 32768⟩]⟩
theorem read21 : readF [.spawn, .spawn, .nl] = some map21 := by rfl
theorem formed21 : formedB map21 = true := by rfl
theorem ballsF_lenS (m : MapV) (k : Nat) (st : Int) : (ballsF m k st).2.length = k := by
  induction k with
  | zero => rfl
  | succ k ih => show ((ballsF m k st).2 ++ [_]).length = _; simp [ih]
theorem len21 : (newF map21 7 1).l.length = 1 := ballsF_lenS _ _ _
theorem find21 : findF (newF map21 7 1).l 2 = -1 := by decide +kernel
theorem wldL (v : WorldV) (s : WorldS) (w : World) : (Instr.field 49 (.agg #[.int .i64 v.map.W, .int .i64 v.map.H, .slice s.ms.A s.ms.n s.ms.c, .slice s.ms.A2 s.ms.n2 s.ms.c2, .int .u64 v.st, .int .i64 v.tick, .slice s.A s.n s.c]) 3).run Tryz.prog w = .ok (.slice s.A s.n s.c) w := by kernel_rfl
theorem Chg.belS {F : Nat → Prop} {w a b : World} {B : Nat} (h : Below B w a) (hB : B ≤ w.heap.size) (hc : Chg F a b) (hF : ∀ q, F q → B ≤ q) : Below B w b :=
  h.trans ⟨hc.os, hc.tape, hc.output, hc.size, fun g hg => hc.block g (by have := h.size; omega) (fun hh => by have := hF g hh; omega)⟩
set_option maxRecDepth 100000 in
set_option maxHeartbeats 8000000 in
theorem awake21 (w : World) : Calls Tryz.prog 9 #[] w fun e w' => e = .returned (.bool true) ∧ Below w.heap.size w w' := by
  have hR := fun W => tRead _ _ read21 (by decide) W
  have hs : (⟨(sgBytes [.spawn, .spawn, .nl]).toArray⟩ : ByteArray) = ⟨#[226, 151, 142, 226, 151, 142, 10]⟩ := by rfl
  rw [hs] at hR
  obtain ⟨V, hV⟩ : ∃ V, newF map21 7 1 = V := ⟨_, rfl⟩
  have hl1 := len21
  have hf1 := find21
  have hms : (newF map21 7 1).map = map21 := rfl
  rw [hV] at hl1 hf1 hms
  have hN := fun (s : MapS) W hM => srvNewYes map21 s 7 1 V hV W hM formed21 (by decide) (by have := MapAt.len hM; simp [map21] at this; omega) (by have := MapAt.len hM; simp [map21] at this; omega) (by omega) (by omega)
  have HN := Lib.hid hN
  have HL1 := Lib.hid hl1
  have HF1 := Lib.hid hf1
  have HMS := Lib.hid hms
  have HM21 := Lib.hid (show map21.W = 2 ∧ map21.H = 1 from ⟨rfl, rfl⟩)
  clear hs hN hV hl1 hf1 hms
  go_enter Tryz.func9, Tryz.ntmps9
  go_wp2_with fail
  refine (hR _).mono ?_
  rintro e w1 ⟨s, rfl, hmat, hb1⟩
  have HMT := Lib.hid hmat
  have hs1 := hb1.size
  have HB1 := Lib.hid hb1
  clear hmat hb1 hR
  go_wp2_with fail
  refine (HN.out s _ ((HMT.out.below (Below.alloc (Below.refl _ _) (Nat.le_refl _) _)).upto (by simp))).mono ?_
  rintro e w2 ⟨b, S, A3, c3, mb, rfl, hsb, hat, hbb, hb2⟩
  have HB2 := Lib.hid (HB1.out.trans ((Below.alloc (Below.refl _ _) (Nat.le_refl _) _).mono hs1) |>.trans (hb2.mono (by simp; omega)))
  have hbw : w.heap.size ≤ b := by simp at hbb; omega
  have hn2 : S.ms.n2 = 2 := by have := hat.map.len.2; rw [HMS.out] at this; exact this.symm
  have hn1 : S.n = 1 := by have := hat.len; rw [HL1.out] at this; exact this.symm
  have HC := Lib.hid (srvConnect2 7 V S A3 1 c3 (some mb) b w2 hsb hat (by omega) HF1.out (by omega) (by omega))
  clear hsb hat hbb hb2 hn1 hn2
  go_wp2_with fail
  refine HC.out.mono ?_
  rintro e w3 ⟨rfl, V', S', pb, hlen, hsb, hl, hch⟩
  have hn' : S'.n = 2 := by have := hl.1; rw [entsV_length] at this; have := HL1.out; omega
  have HB3 := Lib.hid (Chg.belS (F := fun q => q = b) HB2.out (Nat.le_refl _) hch (fun q hq => by omega))
  have HSB := Lib.hid hsb
  have HL := Lib.hid hl
  have HLN := Lib.hid hn'
  have hs3 := HB3.out.size
  clear hsb hl hch hlen HC hn'
  go_wp2_with fail
  refine (srvConnected2 7 V' S' A3 1 c3 (some mb) pb b w3 HSB.out).mono ?_
  rintro e w4 ⟨rfl, rfl⟩
  go_wp2_with fail
  refine (srvWorld 7 V' S' A3 1 c3 (some mb) pb b w3 HSB.out HL.out (by have := HLN.out; omega)).mono ?_
  rintro e w4 ⟨s', rfl, hs', hb4⟩
  have hn2 : s'.n = 2 := by rw [hs']; exact HLN.out
  have hfld := fun w => wldL V' s' w
  rw [hn2] at hfld
  have HB4 := Lib.hid (HB3.out.trans (hb4.mono hs3))
  have HN2 := Lib.hid hn2
  rw [hn2]
  clear hb4 hs' hn2
  go_wp2
  go_ret
  exact ⟨rfl, HB4.out⟩
end Go.Proofs.YtbjhdmknhimbjaaGreatDoor
