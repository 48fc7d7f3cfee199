/- Layer 16: lines are confirmed. -/
import Derived.Test.YtojbijapdkohlaaGreatDoorQ04SrvTell
import Derived.Test.YtojbijapdkohlaaGreatDoorChanRead
import Derived.Test.YtojbijapdkohlaaGreatDoorQ20RingX
import Derived.ChangeAlike
import Derived.RegionTactic
set_option linter.unusedSimpArgs false
set_option linter.unusedVariables false
namespace Go.Proofs.YtojbijapdkohlaaGreatDoor
open Go.RowKit
/-- How many lines go. -/
def goneN (gone len wants : Nat) : Nat := if wants ≤ gone + 1 ∨ gone + len + 1 < wants then 0 else wants - gone - 1
theorem strsV_drop (l : List ByteArray) (k : Nat) : (strsV l).drop k = strsV (l.drop k) := by unfold strsV; rw [List.map_drop]
def Confirmed (b o : Nat) (t : TypeId) (cs : Array Value) (gone : Nat) (l : List ByteArray) (wants : Nat) (A : Option Addr) (w : World) (e : Ending) (w' : World) : Prop :=
  e = .returned (.int .i64 (goneN gone l.length wants : Nat)) ∧ ∃ (A' : Option Addr) (n' c' : Nat), Blk w' b t ((cs.setIfInBounds (o + 1) (.slice A' n' c')).setIfInBounds o (.int .u32 ((gone + goneN gone l.length wants : Nat) : Int))) ∧ Row w' 9 1 A' n' c' (strsV (l.drop (goneN gone l.length wants))) ∧ blkOf A' = blkOf A ∧ Chg (fun q => q = b) w w'
set_option maxRecDepth 100000 in
set_option maxHeartbeats 4000000 in
theorem sndConfirm (b o : Nat) (t : TypeId) (cs : Array Value) (gone : Nat) (l : List ByteArray) (wants : Nat) (A : Option Addr) (n c : Nat) (w : World) (hb : Blk w b t cs) (ht : 9 ≠ t) (k0 : cs[o]? = some (.int .u32 (gone : Nat))) (k1 : cs[o + 1]? = some (.slice A n c)) (hr : Row w 9 1 A n c (strsV l)) (hg : gone ≤ 4000000000) (hn : n ≤ 1000) (hw : wants ≤ 4294967295) :
    Calls Tryz.prog 109 #[.pointer (some ⟨b, o, none⟩), .int .u32 (wants : Nat)] w (Confirmed b o t cs gone l wants A w) := by
  have hl : l.length = n := by have := hr.1; rw [strsV_length] at this; omega
  have hnc := hr.2.1
  have lb := hb.lt
  have z0 : w.cell? ⟨b, o, none⟩ = some (.int .u32 (gone : Nat)) := (hb.cell _).trans k0
  have z1 : w.cell? ⟨b, o + 1, none⟩ = some (.slice A n c) := (hb.cell _).trans k1
  have f0 : w.frozen? ⟨b, o, none⟩ = false := hb.frozen _
  have f1 : w.frozen? ⟨b, o + 1, none⟩ = false := hb.frozen _
  unfold Confirmed
  have v1 : IntKind.u64.wrap ((gone : Int) + 1) = ((gone + 1 : Nat) : Int) := by rw [wrap_u64R]; omega
  have v1b : ((gone + 1 : Nat) : Int) = (gone : Int) + 1 := by omega
  have v2 : IntKind.u64.wrap ((gone : Int) + (n : Int)) = (gone : Int) + (n : Int) := by rw [wrap_u64R]; omega
  have v3 : IntKind.u64.wrap ((gone : Int) + (n : Int) + 1) = (gone : Int) + (n : Int) + 1 := by rw [wrap_u64R]; omega
  obtain ⟨m, hm⟩ : ∃ m, goneN gone l.length wants = m := ⟨_, rfl⟩
  have hmv : m = if wants ≤ gone + 1 ∨ gone + n + 1 < wants then 0 else wants - gone - 1 := by rw [← hm, hl]; rfl
  rw [hm]
  have HB := Lib.hid hb
  have HR := Lib.hid hr
  have K := Lib.hid (show _ ∧ _ ∧ _ from ⟨k0, k1, hl⟩)
  have HM := Lib.hid hmv
  clear hb hr k0 k1 hl hm hmv
  by_cases h1 : wants ≤ gone + 1
  · have t1 : decide ((wants : Int) ≤ (gone : Int) + 1) = true := decide_eq_true (by omega)
    have t1n : decide (wants ≤ gone + 1) = true := decide_eq_true h1
    have hm0 := HM.out
    rw [if_pos (.inl h1)] at hm0
    subst hm0
    clear h1
    go_enter Tryz.func109, Tryz.ntmps109
    go_wp2
    go_quiet (fail)
    go_wp2
    go_ret
    have hk : Blk (w.drewN nq) b t cs := HB.out
    refine ⟨rfl, A, n, c, ?_, HR.out.keep (fun _ _ => rfl), rfl, Chg.refl.drewN nq⟩
    rw [set_sameX K.out.2.1, Nat.add_zero, set_sameX K.out.1]
    exact hk
  · have t1 : decide ((wants : Int) ≤ (gone : Int) + 1) = false := decide_eq_false (by omega)
    have t1n : decide (wants ≤ gone + 1) = false := decide_eq_false h1
    by_cases h2 : gone + n + 1 < wants
    · have t2 : decide ((gone : Int) + (n : Int) + 1 < (wants : Int)) = true := decide_eq_true (by omega)
      have hm0 := HM.out
      rw [if_pos (.inr h2)] at hm0
      subst hm0
      clear h1 h2
      go_enter Tryz.func109, Tryz.ntmps109
      go_wp2
      go_quiet (fail)
      go_wp2
      go_ret
      have hk : Blk (w.drewN nq) b t cs := HB.out
      refine ⟨rfl, A, n, c, ?_, HR.out.keep (fun _ _ => rfl), rfl, Chg.refl.drewN nq⟩
      rw [set_sameX K.out.2.1, Nat.add_zero, set_sameX K.out.1]
      exact hk
    · have t2 : decide ((gone : Int) + (n : Int) + 1 < (wants : Int)) = false := decide_eq_false (by omega)
      have hm0 := HM.out
      rw [if_neg (fun hh => by rcases hh with hh | hh <;> omega)] at hm0
      have v4 : IntKind.u32.wrap ((wants : Int) - (gone : Int)) = (wants : Int) - (gone : Int) := by rw [IntKind.wrap_u32]; omega
      have v5 : IntKind.u32.wrap ((wants : Int) - (gone : Int) - 1) = (m : Int) := by rw [IntKind.wrap_u32]; omega
      have v6 := wrap32 (x := m) (by omega)
      have v7 : IntKind.u32.wrap ((gone : Int) + (m : Int)) = ((gone + m : Nat) : Int) := by rw [IntKind.wrap_u32]; omega
      have hmn : m ≤ n := by omega
      have hct := fun w => run_cut (P := Tryz.prog) eltS A n c .i64 m hmn (m : Int) rfl w
      have hmc : m ≤ c := by omega
      clear h1 h2 hm0
      go_enter Tryz.func109, Tryz.ntmps109
      go_wp2
      go_quiet (fail)
      go_wp2
      go_region
      all_goals go_wp2
      all_goals go_ret
      all_goals
        have hk : Blk (w.drewN (nq + 1)) b t cs := HB.out
        have hd := HR.out.drop hmn
        rw [Nat.mul_one, strsV_drop] at hd
        have hne : ∀ q, blkOf (cutA A c m 1) = some q → q ≠ b := fun q hq => by
          rw [cutA_blk] at hq
          exact HR.out.ne_blkR HB.out ht q hq
        exact ⟨rfl, cutA A c m 1, n - m, c - m, (hk.set_ (o + 1) _).set_ o _, hd.keep (fun q hq => (Below.heap_setCell _ _ _ q (hne q hq)).trans (Below.heap_setCell _ _ _ q (hne q hq))), cutA_blk _ _ _ _, Chg.setCell (F := fun q => q = b) (Chg.setCell (F := fun q => q = b) (Chg.refl.drewN (nq + 1)) (p := ⟨b, o + 1, none⟩) (.inl rfl) _) (p := ⟨b, o, none⟩) (.inl rfl) _⟩
end Go.Proofs.YtojbijapdkohlaaGreatDoor
