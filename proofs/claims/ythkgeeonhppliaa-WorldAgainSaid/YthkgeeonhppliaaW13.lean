/- The little functions of the laws of layer 13. -/
import Derived.Test.YthkgeeonhppliaaWTickP
set_option linter.unusedSimpArgs false
set_option linter.unusedVariables false
namespace Go.Proofs.Ythkgeeonhppliaa
open Go.RowKit
theorem ballsF_len (m : MapV) (k : Nat) (st : Int) : (ballsF m k st).2.length = k := by
  induction k with
  | zero => rfl
  | succ k ih => show ((ballsF m k st).2 ++ [_]).length = _; simp [ih]
theorem ballsF_ok (m : MapV) (k : Nat) (st : Int) : ∀ e ∈ (ballsF m k st).2, okE e := by
  induction k with
  | zero => intro e he; cases he
  | succ k ih =>
    intro e he
    have he : e ∈ (ballsF m k st).2 ++ [_] := he
    simp only [List.mem_append, List.mem_singleton] at he
    rcases he with he | rfl
    · exact ih e he
    · exact ⟨by show (0 : Int) ≤ 100; omega, by show (100 : Int) ≤ 100; omega, by show (0 : Int) ≤ 0; omega, by show (0 : Int) ≤ 20; omega⟩
theorem few13 (m : MapV) (s : MapS) (w : World) : Calls Try.prog 23 #[(.agg #[.int .i64 m.W, .int .i64 m.H, .slice s.A s.n s.c, .slice s.A2 s.n2 s.c2])] w fun e w' => e = .returned (.bool (decide (s.n ≤ 400 ∧ s.n2 ≤ 400))) ∧ Below w.heap.size w w' := by
  go_enter Try.func23, Try.ntmps23
  go_wp2
  all_goals
    go_ret
    refine ⟨ret_bool ?_, (by repeat (first | with_reducible exact Below.refl _ _ | with_reducible assumption | with_reducible refine Below.drew ?_ | with_reducible refine below_drews ?_ _ | with_reducible refine Below.alloc ?_ (by first | omega | (simp; done) | (simp; omega)) _ | with_reducible refine Below.setCell ?_ (by first | omega | (simp; done) | (simp; omega)) _))⟩
    rw [Bool.eq_iff_iff]
    simp
    try omega
theorem tickAt (a b st t : Int) (A A2 A3 : Option Addr) (n c n2 c2 n3 c3 : Nat) (W : World) : (Instr.field 58 (.agg #[.int .i64 a, .int .i64 b, .slice A n c, .slice A2 n2 c2, .int .u64 st, .int .i64 t, .slice A3 n3 c3]) 2).run Try.prog W = .ok (.int .i64 t) W := by kernel_rfl
def map13 : MapV := ⟨2, 1, [false, false], [⟨32768, 32768⟩, ⟨98304, 32768⟩]⟩
theorem read13 : readF [.spawn, .spawn, .nl] = some map13 := by rfl
theorem formed13 : formedB map13 = true := by rfl
set_option maxRecDepth 100000 in
set_option maxHeartbeats 4000000 in
theorem awake13 (w : World) : Calls Try.prog 22 #[] w fun e w' => e = .returned (.bool true) ∧ Below w.heap.size w w' := by
  have hR := fun W => tRead _ _ read13 (by decide) W
  have hs : (⟨(sgBytes [.spawn, .spawn, .nl]).toArray⟩ : ByteArray) = ⟨#[226, 151, 142, 226, 151, 142, 10]⟩ := by rfl
  rw [hs] at hR
  have hN := fun (s : MapS) W (hM : MapAt W W.heap.size map13 s) => wNewYes map13 s 7 1 W hM formed13 (by decide) (by have := hM.len.1; simp [map13] at this; omega) (by have := hM.len.2; simp [map13] at this; omega)
  have HN := Lib.hid hN
  have HM13 := Lib.hid (show map13.W = 2 ∧ map13.H = 1 from ⟨rfl, rfl⟩)
  clear hs hN
  go_enter Try.func22, Try.ntmps22
  go_wp2_with fail
  refine (hR _).mono ?_
  rintro e w1 ⟨s, rfl, hmat, hb1⟩
  have HMT := Lib.hid hmat
  clear hmat
  have hs1 := hb1.size
  go_wp2_with fail
  refine (HN.out s _ ((HMT.out.below (Below.alloc (Below.refl _ _) (Nat.le_refl _) _)).upto (by simp))).mono ?_
  rintro e w2 ⟨s2, rfl, hat, hb2⟩
  have hs2 := hb2.size
  have hms : (newF map13 7 1).map = map13 := rfl
  have hll : (newF map13 7 1).l.length = 1 := ballsF_len _ _ _
  have hsn : s2.n = 1 := by have := hat.len; omega
  have hn2 : s2.ms.n2 = 2 := by have := hat.map.len.2; rw [hms] at this; exact this.symm
  have hT := fun W (hW : Below w2.heap.size w2 W) => wTick (newF map13 7 1) s2 W ((hat.below hW).upto hW.size) (by omega) (by omega) (by omega) (ballsF_ok _ _ _)
  have htk : (tickF (newF map13 7 1)).tick = 1 := by show wrap64 (0 + 1) = 1; unfold wrap64; omega
  simp only [hsn, hn2] at hT
  have HT := Lib.hid hT
  have HTK := Lib.hid htk
  have hfld := tickAt
  have hB2 : Below w.heap.size w w2 := Below.trans hb1 ((Below.alloc (Below.refl _ _) (Nat.le_refl _) _).trans (hb2.mono (by simp)) |>.mono hs1)
  have HB2 := Lib.hid hB2
  have HHV := Lib.hid hat
  clear hT htk hat hb2 hB2 hms hll
  go_wp2_with fail
  refine (HT.out _ (by repeat (first | with_reducible exact Below.refl _ _ | with_reducible assumption | with_reducible refine Below.drew ?_ | with_reducible refine below_drews ?_ _ | with_reducible refine Below.alloc ?_ (by first | omega | (simp; done) | (simp; omega)) _ | with_reducible refine Below.setCell ?_ (by first | omega | (simp; done) | (simp; omega)) _))).mono ?_
  rintro e w3 ⟨s3, rfl, hat3, -, -, hb3⟩
  have htk := HTK.out
  have hs3 := hb3.size
  go_wp2
  go_ret
  refine ⟨rfl, ?_⟩
  have b2 := HB2.out
  have B3 : Below w2.heap.size w2 w3 := Below.trans (by repeat (first | with_reducible exact Below.refl _ _ | with_reducible assumption | with_reducible refine Below.drew ?_ | with_reducible refine below_drews ?_ _ | with_reducible refine Below.alloc ?_ (by first | omega | (simp; done) | (simp; omega)) _ | with_reducible refine Below.setCell ?_ (by first | omega | (simp; done) | (simp; omega)) _)) (hb3.mono (by simp))
  exact b2.trans (B3.mono b2.size)
end Go.Proofs.Ythkgeeonhppliaa
