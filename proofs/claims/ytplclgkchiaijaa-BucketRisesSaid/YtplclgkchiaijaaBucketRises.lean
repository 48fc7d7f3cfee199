/- The walk of the law BucketRises. -/
import Derived.Test.YtplclgkchiaijaaRisesPlain
import Derived.Test.YtplclgkchiaijaaOps
import Derived.Test.YtplclgkchiaijaaBucketNil
import Derived.Test.YtplclgkchiaijaaCmdEq
import Derived.BigQuiet
import Derived.Deep.QuietTactic
set_option linter.unusedSimpArgs false
set_option linter.unusedVariables false
namespace Go.Proofs.Ytplclgkchiaijaa
open Go.RowKit
/-- What stands in memory between two acts. -/
structure RMem (B b : Nat) (w0 w : World) (A : Option Addr) (c : Nat) (s : Intk) (A4 : Option Addr) (c4 : Nat) (off : List Cmd) : Prop where
  has : Has w b A c s
  row : Row w 58 6 A4 off.length c4 (cmdsV off)
  below : Below B w0 w
  hb : B ≤ b
  hA : ∀ g, blkOf A = some g → B ≤ g
  hA4 : ∀ g, blkOf A4 = some g → B ≤ g
  ab : blkOf A4 ≠ some b
  aa : ∀ g, blkOf A = some g → blkOf A4 ≠ some g
theorem RMem.keep {B b : Nat} {w0 w w' : World} {A : Option Addr} {c : Nat} {s : Intk} {A4 : Option Addr} {c4 : Nat} {off : List Cmd} (h : RMem B b w0 w A c s A4 c4 off) (hb : Below w.heap.size w w') (hB : B ≤ w.heap.size) : RMem B b w0 w' A c s A4 c4 off :=
  ⟨h.has.below hb, h.row.keep (fun g hg => hb.block g (h.row.lt hg)), h.below.trans (hb.mono hB), h.hb, h.hA, h.hA4, h.ab, h.aa⟩
theorem RMem.chgb {B b : Nat} {w0 w w' : World} {A A' : Option Addr} {c c' : Nat} {s s' : Intk} {A4 : Option Addr} {c4 : Nat} {off : List Cmd} (h : RMem B b w0 w A c s A4 c4 off) (hc : Chg (fun g => g = b) w w') (hh : Has w' b A' c' s') (he : blkOf A' = blkOf A) (hB : B ≤ w.heap.size) :
    RMem B b w0 w' A' c' s' A4 c4 off :=
  ⟨hh, h.row.chg hc (fun g hg e => h.ab (by rw [hg, e])), h.below.trans (hc.to_below hB (fun g e => by rw [e]; exact h.hb)), h.hb, fun g hg => h.hA g (he ▸ hg), h.hA4, h.ab, fun g hg => h.aa g (he ▸ hg)⟩
theorem RMem.offered {B b : Nat} {w0 w w' : World} {A A' : Option Addr} {c c' : Nat} {s s' : Intk} {A4 : Option Addr} {c4 : Nat} {off : List Cmd} (h : RMem B b w0 w A c s A4 c4 off) (hc : Chg (fun g => g = b ∨ blkOf A = some g) w w') (hh : Has w' b A' c' s')
    (he : ∀ g, blkOf A' = some g → blkOf A = some g ∨ w.heap.size ≤ g) (hB : B ≤ w.heap.size) : RMem B b w0 w' A' c' s' A4 c4 off :=
  ⟨hh, h.row.chg hc (fun g hg e => e.elim (fun e => h.ab (by rw [hg, e])) (fun e => h.aa g e hg)), h.below.trans (hc.to_below hB (fun g e => e.elim (fun e => by rw [e]; exact h.hb) (fun e => h.hA g e))), h.hb,
    fun g hg => (he g hg).elim (fun e => h.hA g e) (fun e => Nat.le_trans hB e), h.hA4, h.ab, fun g hg e => (he g hg).elim (fun e1 => h.aa g e1 e) (fun e1 => by have := h.row.lt e; omega)⟩
theorem RMem.appended {B b : Nat} {w0 w w' : World} {A : Option Addr} {c : Nat} {s : Intk} {A4 A5 : Option Addr} {c4 c5 : Nat} {off l : List Cmd} (h : RMem B b w0 w A c s A4 c4 off) (hr : Row w' 58 6 A5 (off ++ l).length c5 (cmdsV (off ++ l))) (hg : w.grownBy w' (blkOf A4))
    (he : blkOf A5 = blkOf A4 ∨ blkOf A5 = some w.heap.size) (hB : B ≤ w.heap.size) : RMem B b w0 w' A c s A5 c5 (off ++ l) where
  has := h.has.keep (hg.block b h.has.obj.lt (fun e => h.ab e.symm)) (fun g hgA => hg.block g (h.has.row.lt hgA) (fun e => h.aa g hgA e.symm))
  row := hr
  below := h.below.trans (Below.grown (Below.refl B w) hg hB (fun k hk => h.hA4 k hk))
  hb := h.hb
  hA := h.hA
  hA4 := fun g hgA => he.elim (fun e => h.hA4 g (e ▸ hgA)) (fun e => by rw [e] at hgA; injection hgA with hgA; omega)
  ab := fun e1 => he.elim (fun e => h.ab (e ▸ e1)) (fun e => by rw [e] at e1; injection e1 with e1; have := h.has.obj.lt; omega)
  aa := fun g hgA e1 => he.elim (fun e => h.aa g hgA (e ▸ e1)) (fun e => by rw [e] at e1; injection e1 with e1; have := h.has.row.lt hgA; omega)
theorem RInv.ok {s : Intk} {off : List Cmd} {last : BitVec 32} {filled taken : Int} {k : Nat} (h : RInv s off last filled taken k) :
    decide (filled < taken) = false ∧ decide (32 < (s.queue.length : Int)) = false ∧ decide (s.tok < 0) = false ∧ decide (16 < s.tok) = false := by
  have h1 := h.q32
  have h2 := h.tok0
  have h3 := h.tok16
  have h4 := h.bal
  refine ⟨decide_eq_false ?_, decide_eq_false ?_, decide_eq_false ?_, decide_eq_false ?_⟩ <;> omega
set_option maxRecDepth 4000 in
set_option maxHeartbeats 8000000 in
theorem walkBucketRises (ops : List OpV) (w : World) (A0 : Option Addr) (n c0 : Nat) (h : OpsAt w w.heap.size A0 n ops) (hn : n ≤ 9223372036854775807) :
    Calls Try.prog 18 #[.slice A0 n c0] w fun e w' => e = .returned (.bool true) ∧ Below w.heap.size w w' := by
  have hl := h.length
  cases hfew : fewB ops with
  | false =>
    have hF := fun W (hW : Below w.heap.size w W) => fewWalk ops W A0 n c0 ((h.below hW).upTo hW.size) hn
    rw [hfew] at hF
    go_enter Try.func18, Try.ntmps18
    go_wp2_with (first
      | (go_at_call 42; refine (hF _ hb1).mono ?_; rintro e w2 ⟨rfl, rfl⟩)
      | (go_at_call 40; refine (awake19 _).mono ?_; rintro e w1 ⟨rfl, hb1⟩; have hs1 := hb1.size))
    go_ret
    exact ⟨rfl, (by assumption : Below w.heap.size w _).trans (hb1.mono (by assumption))⟩
  | true =>
    have hF := fun W (hW : Below w.heap.size w W) => fewWalk ops W A0 n c0 ((h.below hW).upTo hW.size) hn
    rw [hfew] at hF
    have hn200 : n ≤ 200 := by
      unfold fewB at hfew
      simp only [Bool.and_eq_true, decide_eq_true_eq] at hfew
      omega
    have HL := Lib.hid hl
    clear hl
    go_enter Try.func18, Try.ntmps18
    go_wp2_with (first
      | (go_at_call 42; refine (hF _ hb1).mono ?_; rintro e w2 ⟨rfl, rfl⟩)
      | (go_at_call 40; refine (awake19 _).mono ?_; rintro e w1 ⟨rfl, hb1⟩; have hs1 := hb1.size)
      | (go_at_call 37; refine (newWalk _).mono ?_; rintro e w2 ⟨rfl, hb2, hh, hlt⟩))
    clear hF
    have hs2 := hb2.size
    go_loopw [8, 4, 5, 6, 7] (fun i v4 v5 v6 v7 wr => ∃ (k : Nat) (s : Intk) (A : Option Addr) (c : Nat) (A4 : Option Addr) (c4 : Nat) (off : List Cmd) (last : BitVec 32) (filled taken : Int), k ≤ n ∧ i = .int .i64 (k : Nat) ∧ v4 = .slice A4 off.length c4 ∧ v5 = .int .u32 (last.toNat : Int) ∧ v6 = .int .i64 filled ∧ v7 = .int .i64 taken ∧
      RMem w.heap.size w1.heap.size w wr A c s A4 c4 off ∧ RInv s off last filled taken k) (fun i _ _ _ _ _ => n - (intOf i).toNat)
    case atStart => exact ⟨0, ⟨0, [], 16⟩, none, 0, none, 0, [], 0, 16, 0, Nat.zero_le _, rfl, rfl, rfl, rfl, rfl, ⟨hh, Row.nil_, hb1.trans (hb2.mono hs1), hs1, by simp [blkOf], by simp [blkOf], by simp [blkOf], by simp [blkOf]⟩, RInv.start⟩
    case round =>
      obtain ⟨k, s, A, c, A4, c4, off, last, filled, taken, hk, rfl, rfl, rfl, rfl, rfl, M, R⟩ := hrel
      have HM := Lib.hid M
      have HR := Lib.hid R
      have hsz := M.below.size
      clear M R
      by_cases hlt : k < n
      · obtain ⟨g, off0, o, rfl, hg, ho, hok, e0, e1, e2⟩ := ((h.below HM.out.below).opAt hlt)
        obtain ⟨kind, m, oA, olen, ocap, ol⟩ := o
        have hreads := hok.reads
        have holen := hok.len
        have hm1 := hok.n
        have hk1 := hok.kind
        have HK := Lib.hid (h.inner _ (List.mem_of_getElem? ho))
        clear hok ho
        dsimp only at e0 e1 e2 hreads holen hm1 hk1
        have hal := (Below.refl wr.heap.size wr).alloc (Nat.le_refl _) (.cells #[.int .i64 kind, .int .i64 m, .slice oA olen ocap] 65)
        have M1 := HM.out.keep hal hsz
        have hreads1 := Reads.upTo (hreads.below (hal.mono hsz)) (show w.heap.size ≤ (wr.alloc (.cells #[.int .i64 kind, .int .i64 m, .slice oA olen ocap] 65)).heap.size by simp; omega)
        have HM1 := Lib.hid M1
        have HRd := Lib.hid hreads1
        clear M1 hreads1 hreads
        have R0 := HR.out.more
        have hbal := R0.bal
        have ht0 := R0.tok0
        have ht16 := R0.tok16
        have htk := R0.taken0
        have hfl := HR.out.filled0
        have R0 := Lib.hid R0
        by_cases hkd : kind = 1
        · subst hkd
          obtain ⟨s3, hs3'⟩ : ∃ s3, (offer s ol).1 = s3 := ⟨_, rfl⟩
          have hO := offerWalk HM1.out.has ol oA olen ocap HRd.out (fun h0 g hg => by
            have h1 := HK.out.reads.blk_lt h0 hg
            exact ⟨by have := HM.out.hb; omega, fun e => by have := HM.out.hA g e; omega⟩) holen HR.out.q32
          rw [hs3'] at hO
          have hsW : wr.heap.size < (wr.alloc (.cells #[.int .i64 1, .int .i64 m, .slice oA olen ocap] 65)).heap.size := by simp
          have hsW2 : w.heap.size ≤ (wr.alloc (.cells #[.int .i64 1, .int .i64 m, .slice oA olen ocap] 65)).heap.size := by omega
          have hq := fun W hW hB => refRow ol W oA olen ocap (Reads.upTo (HK.out.reads.below (w' := W) hW) hB) holen
          cases hrow : rowB ol with
          | false =>
            have RF := HR.out.offer_none hrow
            rw [hs3'] at RF
            simp only [refRowB_eq, hrow] at hq
            clear hs3'
            obtain ⟨q1, q2, q3, q4⟩ := RF.ok
            have RF := Lib.hid RF
            go_wp2_with (first
              | (go_at_call 38; refine hO.mono ?_; rintro e w3 ⟨rfl, hc3, ⟨A3, c3, hh3, hb3⟩, -, -⟩
                 have M3 := HM1.out.offered hc3 hh3 hb3 hsW2
                 have v2 : w3.cell? ⟨wr.heap.size, 2, none⟩ = some (.slice oA olen ocap) := (World.cell?_of_block (hc3.block wr.heap.size hsW (fun e => e.elim (fun e => by have := HM.out.has.obj.lt; omega) (fun e => by have := HM.out.has.row.lt e; omega)))).trans (by simp))
              | (go_at_call 52; refine (hq _ M3.below M3.below.size).mono ?_; rintro e w4 ⟨rfl, hb4⟩
                 have MF := M3.keep hb4 M3.below.size
                 have hW := waitsWalk MF.has
                 have hT := tokensWalk MF.has)
              | (go_at_call 50; refine hW.mono ?_; rintro e w6 ⟨rfl, rfl⟩)
              | (go_at_call 51; refine hT.mono ?_; rintro e w6 ⟨rfl, rfl⟩))
            exact ⟨⟨k + 1, s3, A3, c3, A4, c4, off, last, filled, taken, hlt, by go_num, rfl, rfl, rfl, rfl, MF, RF.out⟩, by simp [intOf]; omega⟩
          | true =>
            have RF := HR.out.offer_row hrow
            rw [hs3'] at RF
            simp only [refRowB_eq, hrow] at hq
            clear hs3'
            have hol8 := (rowB_length hrow).2
            have holl : ol.length = olen := HK.out.reads.cmd_len
            have hoff := HR.out.offlen
            obtain ⟨q1, q2, q3, q4⟩ := RF.ok
            have RF := Lib.hid RF
            go_wp2_with (first
              | (go_at_call 38; refine hO.mono ?_; rintro e w3 ⟨rfl, hc3, ⟨A3, c3, hh3, hb3⟩, -, -⟩
                 have M3 := HM1.out.offered hc3 hh3 hb3 hsW2
                 have hbx : w3.heap[wr.heap.size]? = _ := hc3.block wr.heap.size hsW (fun e => e.elim (fun e => by have := HM.out.has.obj.lt; omega) (fun e => by have := HM.out.has.row.lt e; omega))
                 have v2 : w3.cell? ⟨wr.heap.size, 2, none⟩ = some (.slice oA olen ocap) := (World.cell?_of_block hbx).trans (by simp))
              | (go_at_call 52; refine (hq _ M3.below M3.below.size).mono ?_; rintro e w4 ⟨rfl, hb4⟩
                 have M4 := M3.keep hb4 M3.below.size
                 have v2' : w4.cell? ⟨wr.heap.size, 2, none⟩ = some (.slice oA olen ocap) := (hb4.cell (show wr.heap.size < _ by have := hc3.size; omega)).trans v2)
              | (at_builtin; refine wpList_row rfl (.tmp 44) (.tmp 46) rfl elt50 A4 off.length c4 (cmdsV off) rfl M4.row w.heap.size oA olen ocap (cmdsV ol) rfl (HK.out.reads.below M4.below) (oneCell_cmds ol) (by omega) ?_
                 intro A5 c5 w5 hr5 hg5 hb5
                 have MF := M4.appended (l := ol) (c5 := c5) (by simpa [cmdsV, holl] using hr5) hg5 hb5 M4.below.size
                 have hW := waitsWalk MF.has
                 have hT := tokensWalk MF.has)
              | (go_at_call 50; refine hW.mono ?_; rintro e w6 ⟨rfl, rfl⟩)
              | (go_at_call 51; refine hT.mono ?_; rintro e w6 ⟨rfl, rfl⟩))
            exact ⟨⟨k + 1, s3, A3, c3, A5, c5, off ++ ol, last, filled, taken, hlt, by go_num, by simp [holl], rfl, rfl, rfl, MF, RF.out⟩, by simp [intOf]; omega⟩
        · by_cases hkd2 : kind = 2
          · subst hkd2
            have b1 : ((2 : Int) == 1) = false := rfl
            obtain ⟨s2, hs2'⟩ : ∃ s2, fill s m = s2 := ⟨_, rfl⟩
            have hF := fillWalk HM1.out.has m (HR.out.tok0) (HR.out.tok16) ⟨hm1.1, by omega⟩
            rw [hs2'] at hF
            have RF := HR.out.fill m
            rw [hs2'] at RF
            clear hs2'
            have hsW : wr.heap.size < (wr.alloc (.cells #[.int .i64 2, .int .i64 m, .slice oA olen ocap] 65)).heap.size := by simp
            have hbw := HM1.out.has.obj.lt
            by_cases hm0 : 0 < m
            · rw [if_pos hm0] at RF
              by_cases hm16 : 16 < m
              · rw [show min m 16 = 16 by omega] at RF
                obtain ⟨q1, q2, q3, q4⟩ := RF.ok
                have RF := Lib.hid RF
                go_wp2_with (first
                  | (go_at_call 45; refine hF.mono ?_; rintro e w3 ⟨rfl, hc3, hh3⟩
                     have MF := HM1.out.chgb hc3 hh3 rfl (by have := hsz; omega)
                     have v1 : w3.cell? ⟨wr.heap.size, 1, none⟩ = some (.int .i64 m) := (World.cell?_of_block (hc3.block wr.heap.size hsW (by have := HM.out.has.obj.lt; omega))).trans (by simp)
                     have hW := waitsWalk hh3
                     have hT := tokensWalk hh3)
                  | (go_at_call 50; refine hW.mono ?_; rintro e w6 ⟨rfl, rfl⟩)
                  | (go_at_call 51; refine hT.mono ?_; rintro e w6 ⟨rfl, rfl⟩))
                exact ⟨⟨k + 1, s2, A, c, A4, c4, off, last, filled + 16, taken, hlt, by go_num, rfl, rfl, rfl, rfl, MF, RF.out⟩, by simp [intOf]; omega⟩
              · rw [show min m 16 = m by omega] at RF
                obtain ⟨q1, q2, q3, q4⟩ := RF.ok
                have RF := Lib.hid RF
                go_wp2_with (first
                  | (go_at_call 45; refine hF.mono ?_; rintro e w3 ⟨rfl, hc3, hh3⟩
                     have MF := HM1.out.chgb hc3 hh3 rfl (by have := hsz; omega)
                     have v1 : w3.cell? ⟨wr.heap.size, 1, none⟩ = some (.int .i64 m) := (World.cell?_of_block (hc3.block wr.heap.size hsW (by have := HM.out.has.obj.lt; omega))).trans (by simp)
                     have hW := waitsWalk hh3
                     have hT := tokensWalk hh3)
                  | (go_at_call 50; refine hW.mono ?_; rintro e w6 ⟨rfl, rfl⟩)
                  | (go_at_call 51; refine hT.mono ?_; rintro e w6 ⟨rfl, rfl⟩))
                exact ⟨⟨k + 1, s2, A, c, A4, c4, off, last, filled + m, taken, hlt, by go_num, rfl, rfl, rfl, rfl, MF, RF.out⟩, by simp [intOf]; omega⟩
            · rw [if_neg hm0] at RF
              obtain ⟨q1, q2, q3, q4⟩ := RF.ok
              have RF := Lib.hid RF
              go_wp2_with (first
                | (go_at_call 45; refine hF.mono ?_; rintro e w3 ⟨rfl, hc3, hh3⟩
                   have MF := HM1.out.chgb hc3 hh3 rfl (by have := hsz; omega)
                   have v1 : w3.cell? ⟨wr.heap.size, 1, none⟩ = some (.int .i64 m) := (World.cell?_of_block (hc3.block wr.heap.size hsW (by have := HM.out.has.obj.lt; omega))).trans (by simp)
                   have hW := waitsWalk hh3
                   have hT := tokensWalk hh3)
                | (go_at_call 50; refine hW.mono ?_; rintro e w6 ⟨rfl, rfl⟩)
                | (go_at_call 51; refine hT.mono ?_; rintro e w6 ⟨rfl, rfl⟩))
              exact ⟨⟨k + 1, s2, A, c, A4, c4, off, last, filled, taken, hlt, by go_num, rfl, rfl, rfl, rfl, MF, RF.out⟩, by simp [intOf]; omega⟩
          · by_cases hkd3 : kind = 3
            · subst hkd3
              have b1 : ((3 : Int) == 1) = false := rfl
              have b2 : ((3 : Int) == 2) = false := rfl
              have hT0 := takeWalk HM1.out.has m HR.out.tok0 HR.out.tok16 (by have := HR.out.q32; omega) ⟨hm1.1, by omega⟩
              have RF := HR.out.take m
              have ht32 : takes s m ≤ s.queue.length := by unfold takes; omega
              have hq32 := HR.out.q32
              obtain ⟨t, ht⟩ : ∃ t, takes s m = t := ⟨_, rfl⟩
              obtain ⟨s2, hs2'⟩ : ∃ s2, takeS s m = s2 := ⟨_, rfl⟩
              rw [ht] at hT0 RF ht32
              rw [hs2'] at hT0 RF
              clear ht hs2'
              obtain ⟨q1, q2, q3, q4⟩ := RF.ok
              have RF := Lib.hid RF
              have hoffl := HR.out.offlen
              have hsW : wr.heap.size < (wr.alloc (.cells #[.int .i64 3, .int .i64 m, .slice oA olen ocap] 65)).heap.size := by simp
              have hsW2 : w.heap.size ≤ (wr.alloc (.cells #[.int .i64 3, .int .i64 m, .slice oA olen ocap] 65)).heap.size := by omega
              go_wp2_with (go_at_call 39; refine hT0.mono ?_; rintro e w3 ⟨A1, c1, A5, c5, rfl, hr1, hf1, hc3, hh3, hb5⟩
                           have M3 := HM1.out.chgb hc3 hh3 hb5 hsW2)
              clear hT0
              have HM3 := Lib.hid M3
              have HR1 := Lib.hid hr1
              clear hr1 hc3 hh3 hb5 hf1
              go_loopw [11, 5] (fun v11 v5 wj => ∃ j : Nat, j ≤ t ∧ v11 = .int .i64 (j : Nat) ∧ v5 = .int .u32 ((lastAt last s.queue j).toNat : Int) ∧ Dr w3 wj) (fun v11 _ _ => t - (intOf v11).toNat)
              case atStart => exact ⟨0, Nat.zero_le _, rfl, by rw [lastAt_zero], Dr.refl _⟩
              case round =>
                obtain ⟨j, hj, rfl, rfl, ⟨qd, rfl⟩⟩ := hrel
                by_cases hjt : j < t
                · obtain ⟨g1, o1, x, rfl, hg1, hx, x0, x1, x2, x3, x4, x5⟩ := (HR1.out.reads (by decide)).cmdAt hjt
                  have hxq : s.queue[j]? = some x := by rw [List.getElem?_take, if_pos hjt] at hx; exact hx
                  have hat := HR.out.at_ hxq
                  have hls := lastAt_succ last s.queue j x hxq
                  generalize lastAt last s.queue j = lj at hat
                  have HX := Lib.hid hat
                  have hgt : decide (x.number.toNat ≤ lj.toNat) = false := decide_eq_false (by have := hat.2; omega)
                  have HLS := Lib.hid hls
                  clear hx hxq hat hls
                  go_wp2
                  go_loopw [13, 12] (fun v13 v12 wi => ∃ i : Nat, i ≤ off.length ∧ v13 = .int .i64 (i : Nat) ∧ v12 = .bool ((off.take i).any (fun y => decide (y = x))) ∧ Dr w3 wi) (fun v13 _ _ => off.length - (intOf v13).toNat)
                  case atStart => exact ⟨0, Nat.zero_le _, rfl, rfl, ⟨qd, rfl⟩⟩
                  case round =>
                    obtain ⟨i, hi, rfl, rfl, ⟨qe, rfl⟩⟩ := hrel
                    by_cases hio : i < off.length
                    · obtain ⟨g4, o4, y, rfl, hg4, hy, y0, y1, y2, y3, y4, y5⟩ := (HM3.out.row.reads (by decide)).cmdAt hio
                      have hsn : (off.take (i + 1)).any (fun y => decide (y = x)) = ((off.take i).any (fun y => decide (y = x)) || decide (y = x)) := by rw [take_snoc off i y hy]; simp
                      have HS := Lib.hid hsn
                      clear hsn hy
                      have keq := fun w => eql58 y x w
                      unfold cmdV at keq
                      generalize (off.take i).any (fun y => decide (y = x)) = th at HS
                      cases th with
                      | true =>
                        go_wp2
                        go_quiet (fail)
                        go_wp2
                        exact ⟨⟨i + 1, hio, by go_num, by rw [HS.out]; rfl, ⟨qe + nq, rfl⟩⟩, by simp [intOf]; omega⟩
                      | false =>
                        go_wp2
                        go_quiet (fail)
                        go_wp2
                        exact ⟨⟨i + 1, hio, by go_num, by rw [HS.out]; rfl, ⟨qe + nq, rfl⟩⟩, by simp [intOf]; omega⟩
                    · obtain rfl : i = off.length := by omega
                      have hany : (off.take off.length).any (fun y => decide (y = x)) = true := by
                        rw [List.take_length, List.any_eq_true]
                        exact ⟨x, HX.out.1, by simp⟩
                      rw [hany]
                      go_wp2
                      exact ⟨⟨j + 1, hjt, by go_num, by rw [HLS.out], ⟨qe, rfl⟩⟩, by simp [intOf]; omega⟩
                · obtain rfl : j = t := by omega
                  have hW := waitsWalk (w := w3.drewN qd) ⟨HM3.out.has.obj, HM3.out.has.row, HM3.out.has.apart⟩
                  have hT := tokensWalk (w := w3.drewN qd) ⟨HM3.out.has.obj, HM3.out.has.row, HM3.out.has.apart⟩
                  go_wp2_with (first
                    | (go_at_call 50; refine hW.mono ?_; rintro e w6 ⟨rfl, rfl⟩)
                    | (go_at_call 51; refine hT.mono ?_; rintro e w6 ⟨rfl, rfl⟩))
                  exact ⟨⟨k + 1, s2, A5, c5, A4, c4, off, lastAt last s.queue j, filled, taken + j, hlt, by go_num, rfl, rfl, rfl, by go_num, HM3.out.keep ((Dr.refl _).drewN qd |>.below _) HM3.out.below.size, RF.out⟩, by simp [intOf]; omega⟩
            · have b1 : (kind == 1) = false := by rw [beq_eq_false_iff_ne]; exact hkd
              have b2 : (kind == 2) = false := by rw [beq_eq_false_iff_ne]; exact hkd2
              have b3 : (kind == 3) = false := by rw [beq_eq_false_iff_ne]; exact hkd3
              obtain ⟨q1, q2, q3, q4⟩ := R0.out.ok
              have hW := waitsWalk HM1.out.has
              have hT := tokensWalk HM1.out.has
              go_wp2_with (first
                | (go_at_call 50; refine hW.mono ?_; rintro e w6 ⟨rfl, rfl⟩)
                | (go_at_call 51; refine hT.mono ?_; rintro e w6 ⟨rfl, rfl⟩))
              exact ⟨⟨k + 1, s, A, c, A4, c4, off, last, filled, taken, hlt, by go_num, rfl, rfl, rfl, rfl, HM1.out, R0.out⟩, by simp [intOf]; omega⟩
      · go_wp2
        go_ret
        exact ⟨rfl, HM.out.below⟩
end Go.Proofs.Ytplclgkchiaijaa
