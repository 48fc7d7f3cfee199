/- The walk of the law BucketCalm. -/
import Derived.Test.YtplclgkchiaijaaBucketNil
import Derived.Test.YtplclgkchiaijaaCmdEq
import Derived.BigQuiet
import Derived.Deep.QuietTactic
set_option linter.unusedSimpArgs false
set_option linter.unusedVariables false
namespace Go.Proofs.Ytplclgkchiaijaa
open Go.RowKit
/-- The command of tick k. -/
def calmCmd (f : BitVec 32) (k : Nat) : Cmd := ⟨f + BitVec.ofNat 32 k, Int8.ofInt ((k % 100 : Nat) : Int), 0, false, 0, 0⟩
theorem calm_cells (f : BitVec 32) (j : Nat) (hf : f.toNat ≤ 1073741824) (hj : j < 255) :
    cmdV (calmCmd f (j + 1)) = [.int .u32 ((f.toNat : Int) + ((j : Int) + 1)), .int .i8 (((j : Int) + 1) % 100), .int .i8 0, .bool false, .int .u32 0, .int .u8 0] := by
  have h1 : ((f + BitVec.ofNat 32 (j + 1)).toNat : Int) = (f.toNat : Int) + ((j : Int) + 1) := by
    rw [BitVec.toNat_add, BitVec.toNat_ofNat]; omega
  have h2 : (Int8.ofInt (((j + 1) % 100 : Nat) : Int)).toInt = ((j : Int) + 1) % 100 := by
    rw [Int8.toInt_ofInt_of_le (by omega) (by omega)]; omega
  simp only [cmdV, calmCmd, h1, h2]
  rfl
theorem calm_number (f : BitVec 32) (j : Nat) (hf : f.toNat ≤ 1073741824) (hj : j < 255) : (calmCmd f (j + 1)).number.toNat = f.toNat + (j + 1) := by
  simp only [calmCmd]
  rw [BitVec.toNat_add, BitVec.toNat_ofNat]; omega
theorem calm_row (f : BitVec 32) (j : Nat) (hf : f.toNat ≤ 1073741824) (hj : j < 255) : rowB [calmCmd f (j + 1)] = true := by
  have h1 := calm_number f j hf hj
  have h2 : (Int8.ofInt (((j + 1) % 100 : Nat) : Int)).toInt = ((j : Int) + 1) % 100 := by
    rw [Int8.toInt_ofInt_of_le (by omega) (by omega)]; omega
  have hfm : formedB (calmCmd f (j + 1)) = true := by
    unfold formedB
    rw [h1]
    apply decide_eq_true
    refine ⟨by omega, by omega, ?_, (by decide : -127 ≤ (0 : Int8).toInt), .inr ⟨rfl, rfl, rfl⟩⟩
    show -127 ≤ (Int8.ofInt (((j + 1) % 100 : Nat) : Int)).toInt
    rw [h2]; omega
  unfold rowB
  have : okAt [calmCmd f (j + 1)] 0 = true := okAt_zero rfl hfm
  simp [List.range_succ, this]
set_option maxHeartbeats 4000000 in
theorem walkBucketCalm (w : World) (f : BitVec 32) (n : UInt8) : Calls Try.prog 20 #[.int .u32 (f.toNat : Int), .int .u8 (n.toNat : Int)] w fun e w' => e = .returned (.bool true) ∧ Below w.heap.size w w' := by
  have hn := n.toNat_lt
  have hf := f.isLt
  cases hbig : decide ((1073741824 : Int) < (f.toNat : Int)) with
  | true =>
    go_enter Try.func20, Try.ntmps20
    go_wp2_with (go_at_call 40; refine (awake19 _).mono ?_; rintro e w1 ⟨rfl, hb1⟩; have hb2 := hb1.size)
    go_ret
    exact ⟨rfl, (by assumption : Below w.heap.size w _).trans (hb1.mono (by assumption))⟩
  | false =>
    go_enter Try.func20, Try.ntmps20
    go_wp2_with (first
      | (go_at_call 40; refine (awake19 _).mono ?_; rintro e w1 ⟨rfl, hb1⟩)
      | (go_at_call 37; refine (newWalk _).mono ?_; rintro e w2 ⟨rfl, hb2, hh, hlt⟩))
    have hf30 : f.toNat ≤ 1073741824 := by have := of_decide_eq_false hbig; omega
    clear hbig
    have hs1 := hb1.size
    have hs2 := hb2.size
    go_loopw [6] (fun i wr => ∃ (j : Nat) (s : Intk) (A : Option Addr) (c : Nat), j ≤ n.toNat ∧ i = .int .u32 ((j + 1 : Nat) : Int) ∧ Has wr w1.heap.size A c s ∧ s.queue = [] ∧ (s.tok = 15 ∨ s.tok = 16) ∧ s.last.toNat ≤ f.toNat + j ∧ (0 < j → s.last.toNat = f.toNat + j) ∧
      Below w.heap.size w wr ∧ (∀ g, blkOf A = some g → w.heap.size ≤ g)) (fun i _ => n.toNat + 1 - (intOf i).toNat)
    case atStart => exact ⟨0, ⟨0, [], 16⟩, none, 0, Nat.zero_le _, rfl, hh, rfl, .inr rfl, by simp, fun h => absurd h (Nat.lt_irrefl _), hb1.trans (hb2.mono hs1), by simp [blkOf]⟩
    case round =>
      obtain ⟨j, s, A, c, hj, rfl, has, hq, ht, hl1, hl2, hbel, hAb⟩ := hrel
      have hB := Lib.hid hbel
      by_cases hlt : j < n.toNat
      · have hj255 : j < 255 := by omega
        obtain ⟨last, queue, tok⟩ := s
        obtain rfl : queue = [] := hq
        have hcv := calm_cells f j hf30 hj255
        have hcn := calm_number f j hf30 hj255
        have hcr := calm_row f j hf30 hj255
        generalize calmCmd f (j + 1) = x at hcv hcn hcr
        have hoff : offer ⟨last, [], tok⟩ [x] = (⟨x.number, [x], tok⟩, 1) := by
          unfold offer
          rw [hcr, if_pos rfl]
          simp [offerStep]
          have : last.toNat ≤ f.toNat + j := hl1
          omega
        have hfill : fill ⟨x.number, [x], tok⟩ 1 = ⟨x.number, [x], 16⟩ := by
          unfold fill
          rw [if_pos (by decide)]
          have e : tok + min 1 (16 - tok) = 16 := by rcases ht with h | h <;> (have h' : tok = _ := h; omega)
          simp only [e]
        have htok : 0 ≤ tok ∧ tok ≤ 16 := by rcases ht with h | h <;> (have h' : tok = _ := h; omega)
        have htk : takes ⟨x.number, [x], 16⟩ 1 = 1 := rfl
        have hts : takeS ⟨x.number, [x], 16⟩ 1 = ⟨x.number, [], 15⟩ := by unfold takeS; rw [htk]; rfl
        have hbb := has.obj.lt
        have hbel2 := ((Below.refl wr.heap.size wr).alloc (Nat.le_refl _) (.cells #[.int .u32 ((f.toNat : Int) + ((j : Int) + 1)), .int .i8 (((j : Int) + 1) % 100), .int .i8 0, .bool false, .int .u32 0, .int .u8 0] 58)).alloc (by simp) (.cells #[.int .u32 ((f.toNat : Int) + ((j : Int) + 1)), .int .i8 (((j : Int) + 1) % 100), .int .i8 0, .bool false, .int .u32 0, .int .u8 0] 58)
        have hnews : Reads ((wr.alloc (.cells #[.int .u32 ((f.toNat : Int) + ((j : Int) + 1)), .int .i8 (((j : Int) + 1) % 100), .int .i8 0, .bool false, .int .u32 0, .int .u8 0] 58)).alloc (.cells #[.int .u32 ((f.toNat : Int) + ((j : Int) + 1)), .int .i8 (((j : Int) + 1) % 100), .int .i8 0, .bool false, .int .u32 0, .int .u8 0] 58)) (wr.heap.size + 2) 6 (some ⟨wr.heap.size + 1, 0, none⟩) 1 (cmdsV [x]) := by
          rw [show cmdsV [x] = cmdV x by simp [cmdsV], hcv]
          refine Reads.blk (size := 6) (n := 1) (t := 58) (f := (0, 0)) (g := wr.heap.size + 1) ?_ (by omega) rfl
          have := heap_alloc_new (wr.alloc (.cells #[.int .u32 ((f.toNat : Int) + ((j : Int) + 1)), .int .i8 (((j : Int) + 1) % 100), .int .i8 0, .bool false, .int .u32 0, .int .u8 0] 58)) (.cells #[.int .u32 ((f.toNat : Int) + ((j : Int) + 1)), .int .i8 (((j : Int) + 1) % 100), .int .i8 0, .bool false, .int .u32 0, .int .u8 0] 58)
          simpa using this
        have hO := fun c1 => offerWalk (has.below hbel2) [x] (some ⟨wr.heap.size + 1, 0, none⟩) 1 c1 (by simpa using hnews) (fun _ g hg => by
          simp [blkOf] at hg
          exact ⟨by omega, fun e => by have := has.row.lt e; omega⟩) (by omega) (by simp)
        rw [hoff] at hO
        clear hnews
        go_wp2_with (first
          | (go_at_call 38; refine (hO _).mono ?_; rintro e w3 ⟨rfl, hc3, ⟨A3, c3, hh3, hb3⟩, -, -⟩
             have hF := fillWalk hh3 1 htok.1 htok.2 (by omega))
          | (go_at_call 45; refine hF.mono ?_; rintro e w4 ⟨rfl, hc4, hh4⟩
             have hh4 : Has w4 w1.heap.size A3 c3 ⟨x.number, [x], 16⟩ := by rw [← hfill]; exact hh4
             have hT := takeWalk hh4 1 (by simp) (by simp) (by simp) (by omega)
             rw [htk, hts] at hT)
          | (go_at_call 39; refine hT.mono ?_; rintro e w5 ⟨A5, c5, A6, c6, rfl, hr5, hf5, hc5, hh5, hb5⟩))
        have hs3 := hc3.size
        have hs4 := hc4.size
        have hs5 := hc5.size
        have hbox : w5.heap[wr.heap.size]? = some (.cells #[.int .u32 ((f.toNat : Int) + ((j : Int) + 1)), .int .i8 (((j : Int) + 1) % 100), .int .i8 0, .bool false, .int .u32 0, .int .u8 0] 58) := by
          refine ((hc5.block _ (by simp at hs3; omega) (by omega)).trans ((hc4.block _ (by simp at hs3; omega) (by omega)).trans (hc3.block _ (by simp <;> omega) (fun h => h.elim (by omega) (fun e => by have := has.row.lt e; omega))))).trans ?_
          refine (Below.heap_alloc _ _ _ (by simp)).trans (heap_alloc_new wr _)
        have x0 : w5.cell? ⟨wr.heap.size, 0, none⟩ = some (.int .u32 ((f.toNat : Int) + ((j : Int) + 1))) := cell_of_row w5 _ 0 _ _ _ hbox
        have x1 : w5.cell? ⟨wr.heap.size, 1, none⟩ = some (.int .i8 (((j : Int) + 1) % 100)) := cell_of_row w5 _ 1 _ _ _ hbox
        have x2 : w5.cell? ⟨wr.heap.size, 2, none⟩ = some (.int .i8 0) := cell_of_row w5 _ 2 _ _ _ hbox
        have x3 : w5.cell? ⟨wr.heap.size, 3, none⟩ = some (.bool false) := cell_of_row w5 _ 3 _ _ _ hbox
        have x4 : w5.cell? ⟨wr.heap.size, 4, none⟩ = some (.int .u32 0) := cell_of_row w5 _ 4 _ _ _ hbox
        have x5 : w5.cell? ⟨wr.heap.size, 5, none⟩ = some (.int .u8 0) := cell_of_row w5 _ 5 _ _ _ hbox
        obtain ⟨g5, o5, rfl, hg5, hcc0⟩ := hr5.cells (by decide)
        have hxs : cmdsV (List.take 1 [x]) = cmdV x := by simp [cmdsV]
        have hcc : ∀ i, i < 6 → w5.cell? ⟨g5, o5 + i, none⟩ = (cmdV x)[i]? := fun i hi => by rw [← hxs]; exact (hcc0 i (by omega)).1
        rw [hcv] at hcc
        have y0 : w5.cell? ⟨g5, o5, none⟩ = some (.int .u32 ((f.toNat : Int) + ((j : Int) + 1))) := hcc 0 (by decide)
        have y1 : w5.cell? ⟨g5, o5 + 1, none⟩ = some (.int .i8 (((j : Int) + 1) % 100)) := hcc 1 (by decide)
        have y2 : w5.cell? ⟨g5, o5 + 2, none⟩ = some (.int .i8 0) := hcc 2 (by decide)
        have y3 : w5.cell? ⟨g5, o5 + 3, none⟩ = some (.bool false) := hcc 3 (by decide)
        have y4 : w5.cell? ⟨g5, o5 + 4, none⟩ = some (.int .u32 0) := hcc 4 (by decide)
        have y5 : w5.cell? ⟨g5, o5 + 5, none⟩ = some (.int .u8 0) := hcc 5 (by decide)
        have keq : ∀ w, (binOp .neq 58 (.agg #[.int .u32 ((f.toNat : Int) + ((j : Int) + 1)), .int .i8 (((j : Int) + 1) % 100), .int .i8 0, .bool false, .int .u32 0, .int .u8 0]) (.agg #[.int .u32 ((f.toNat : Int) + ((j : Int) + 1)), .int .i8 (((j : Int) + 1) % 100), .int .i8 0, .bool false, .int .u32 0, .int .u8 0])).run Try.prog w = .ok (.bool false) w := fun w => by
          have := neq58 x x w
          rw [hcv] at this
          simpa using this
        have q50 := fun q => waitsWalk (w := w5.drewN q) ⟨hh5.obj, hh5.row, hh5.apart⟩
        have q51 := fun q => tokensWalk (w := w5.drewN q) ⟨hh5.obj, hh5.row, hh5.apart⟩
        have HH5 := Lib.hid hh5
        clear hcc hcc0 hh5
        go_quiet ((first | (go_at_call 50; exact quiet_left (q50 _)) | (go_at_call 51; exact quiet_left (q51 _))))
        go_wp2
        have hs6 := hB.out.size
        have hchg : Chg (fun g => w.heap.size ≤ g) w w5 := (((((Chg.refl (w := w)).below hB.out (Nat.le_refl _)).below hbel2 hs6).trans hc3 (fun g hg => .inr (hg.elim (fun e => by omega) (fun e => hAb g e)))).trans hc4 (fun g hg => .inr (by omega))).trans hc5 (fun g hg => .inr (by omega))
        refine ⟨⟨j + 1, ⟨x.number, [], 15⟩, A6, c6, hlt, by go_num, ⟨HH5.out.obj, HH5.out.row, HH5.out.apart⟩, rfl, .inl rfl, by show x.number.toNat ≤ _; omega, fun _ => by show x.number.toNat = _; omega, (hchg.to_below (Nat.le_refl _) (fun g hg => hg)).trans ((Dr.refl _).drewN nq |>.below _), fun g hg => ?_⟩, ?_⟩
        · rw [hb5] at hg
          rcases hb3 g hg with e | e
          · exact hAb g e
          · simp at e; omega
        · simp [intOf]; omega
      · have hjn : j = n.toNat := by omega
        subst hjn
        have hL := lastWalk has
        cases hz : decide (n.toNat = 0) with
        | true =>
          have hz' : n.toNat = 0 := of_decide_eq_true hz
          go_wp2_with (go_at_call 41; refine hL.mono ?_; rintro e w3 ⟨rfl, rfl⟩)
          all_goals
            go_ret
            exact ⟨rfl, hB.out⟩
        | false =>
          have hz' : 0 < n.toNat := by have := of_decide_eq_false hz; omega
          have hlast := hl2 hz'
          go_wp2_with (go_at_call 41; refine hL.mono ?_; rintro e w3 ⟨rfl, rfl⟩)
          all_goals
            go_ret
            exact ⟨rfl, hB.out⟩
end Go.Proofs.Ytplclgkchiaijaa
