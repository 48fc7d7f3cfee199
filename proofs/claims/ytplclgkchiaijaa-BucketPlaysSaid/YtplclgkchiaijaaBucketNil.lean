/- The walk of the law BucketNil, and of awake. -/
import Derived.Test.YtplclgkchiaijaaOffer
set_option linter.unusedSimpArgs false
set_option linter.unusedVariables false
namespace Go.Proofs.Ytplclgkchiaijaa
open Go.RowKit
def cmd1 : Cmd := ⟨1, 0, 0, false, 0, 0⟩
theorem offer_first : offer ⟨0, [], 16⟩ [cmd1] = (⟨1, [cmd1], 16⟩, 1) := by
  rfl
set_option maxHeartbeats 2000000 in
theorem awake19 (w : World) : Calls Try.prog 40 #[] w fun e w' => e = .returned (.bool true) ∧ Below w.heap.size w w' := by
  go_enter Try.func40, Try.ntmps40
  go_wp2_with (first
    | (go_at_call 37; refine (newWalk w).mono ?_; rintro e w1 ⟨rfl, hb1, hh, hlt⟩
       have hO := fun c1 => offerWalk (hh.below ((Below.refl _ _).alloc (Nat.le_refl _) (.cells #[.int .u32 1, .int .i8 0, .int .i8 0, .bool false, .int .u32 0, .int .u8 0] 58))) [cmd1] (some ⟨w1.heap.size, 0, none⟩) 1 c1 (Reads.blk (size := 6) (n := 1) (heap_alloc_new w1 _) (by simp) rfl) (by intro _ g hg; injection hg with hg; refine ⟨by show g ≠ _; have := hh.obj.lt; simp at hg; omega, by simp [blkOf]⟩) (by omega) (by decide)
       rw [offer_first] at hO)
    | (go_at_call 38; refine (hO _).mono ?_; rintro e w2 ⟨rfl, hc2, ⟨A2, c2, hh2, hb2⟩, -, -⟩
       have hT := tokensWalk hh2
       have hL := lastWalk hh2)
    | (go_at_call 51; refine hT.mono ?_; rintro e w3 ⟨rfl, rfl⟩)
    | (go_at_call 41; refine hL.mono ?_; rintro e w3 ⟨rfl, rfl⟩))
  go_ret
  refine ⟨rfl, (hb1.alloc hb1.size (.cells #[.int .u32 1, .int .i8 0, .int .i8 0, .bool false, .int .u32 0, .int .u8 0] 58)).trans (hc2.to_below (by simp <;> omega) ?_)⟩
  rintro g (rfl | hg)
  · exact Nat.le_refl _
  · simp [blkOf] at hg
set_option maxHeartbeats 1000000 in
theorem walkBucketNil (w : World) (A : Option Addr) (n c : Nat) (i : Int) (hn : n ≤ 9223372036854775807) : Calls Try.prog 19 #[.slice A n c, .int .i64 i] w fun e w' => e = .returned (.bool true) ∧ Below w.heap.size w w' := by
  by_cases h : n ≤ 100
  · go_enter Try.func19, Try.ntmps19
    go_wp2_with (first
      | (go_at_call 40; refine (awake19 _).mono ?_; rintro e w1 ⟨rfl, hb1⟩)
      | (go_at_call 45; refine (fillNil _ _).mono ?_; rintro e w2 ⟨rfl, rfl⟩)
      | (go_at_call 38; refine (offerNil _ _).mono ?_; rintro e w3 ⟨rfl, rfl⟩)
      | (go_at_call 39; refine (takeNil _ _).mono ?_; rintro e w4 ⟨rfl, hd⟩)
      | (go_at_call 41; refine (lastNil _).mono ?_; rintro e w5 ⟨rfl, rfl⟩)
      | (go_at_call 50; refine (waitsNil _).mono ?_; rintro e w6 ⟨rfl, rfl⟩)
      | (go_at_call 51; refine (tokensNil _).mono ?_; rintro e w7 ⟨rfl, rfl⟩))
    go_ret
    exact ⟨rfl, hb1.trans (hd.below _)⟩
  · go_enter Try.func19, Try.ntmps19
    go_wp2_with (go_at_call 40; refine (awake19 _).mono ?_; rintro e w1 ⟨rfl, hb1⟩; have hb2 := hb1.size)
    go_ret
    rename_i w0 hb0 _
    exact ⟨rfl, (by assumption : Below w.heap.size w _).trans (hb1.mono hb0)⟩
end Go.Proofs.Ytplclgkchiaijaa
