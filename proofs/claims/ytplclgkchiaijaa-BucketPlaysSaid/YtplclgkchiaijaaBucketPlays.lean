/- The walk of the law BucketPlays. -/
import Derived.Test.YtplclgkchiaijaaPlaysPlain
import Derived.Test.YtplclgkchiaijaaRefSame
import Derived.Test.YtplclgkchiaijaaOps
import Derived.Test.YtplclgkchiaijaaBucketNil
import Derived.BigQuiet
import Derived.Deep.QuietTactic
import Derived.Deep.RegionHeld3
set_option linter.unusedSimpArgs false
set_option linter.unusedVariables false
namespace Go.Proofs.Ytplclgkchiaijaa
open Go.RowKit
/-- What stands in memory between two acts: the intake and the document's. -/
structure PMem (B b b' : Nat) (w0 w : World) (A : Option Addr) (c : Nat) (s : Intk) (A' : Option Addr) (c' : Nat) (v : RIntk) : Prop where
  has : Has w b A c s
  ref : RHas w b' A' c' v
  below : Below B w0 w
  hb : B ≤ b
  hb' : B ≤ b'
  hA : ∀ g, blkOf A = some g → B ≤ g
  hA' : ∀ g, blkOf A' = some g → B ≤ g
  bb : b ≠ b'
  ab : blkOf A ≠ some b'
  ba : blkOf A' ≠ some b
  aa : ∀ g, blkOf A = some g → blkOf A' ≠ some g
section
variable {B b b' : Nat} {w0 w w' : World} {A A' : Option Addr} {c c' : Nat} {s : Intk} {v : RIntk}
theorem PMem.keep (h : PMem B b b' w0 w A c s A' c' v) (hb : Below w.heap.size w w') (hB : B ≤ w.heap.size) : PMem B b b' w0 w' A c s A' c' v :=
  { h with has := h.has.below hb, ref := h.ref.below hb, below := h.below.trans (hb.mono hB) }
theorem PMem.drewN (h : PMem B b b' w0 w A c s A' c' v) (n : Nat) : PMem B b b' w0 (w.drewN n) A c s A' c' v :=
  { h with has := ⟨h.has.obj, h.has.row, h.has.apart⟩, ref := ⟨h.ref.obj, h.ref.row, h.ref.apart⟩, below := below_drews h.below n }
theorem PMem.own (h : PMem B b b' w0 w A c s A' c' v) (hB : B ≤ w.heap.size) {A2 : Option Addr} {c2 : Nat} {s2 : Intk} (hc : Chg (fun g => g = b ∨ blkOf A = some g) w w') (hh : Has w' b A2 c2 s2) (he : ∀ g, blkOf A2 = some g → blkOf A = some g ∨ w.heap.size ≤ g) :
    PMem B b b' w0 w' A2 c2 s2 A' c' v where
  has := hh
  ref := h.ref.keep (hc.block _ h.ref.obj.lt (fun e => e.elim (fun e => h.bb e.symm) h.ab)) (fun g hg => hc.block g (h.ref.row.lt hg) (fun e => e.elim (fun e => h.ba (by rw [hg, e])) (fun e => h.aa g e hg)))
  below := h.below.trans (hc.to_below hB (fun g e => e.elim (fun e => by rw [e]; exact h.hb) (fun e => h.hA g e)))
  hb := h.hb
  hb' := h.hb'
  hA := fun g hg => (he g hg).elim (h.hA g) (fun e => Nat.le_trans hB e)
  hA' := h.hA'
  bb := h.bb
  ab := fun e => (he _ e).elim h.ab (fun e => by have := h.ref.obj.lt; omega)
  ba := h.ba
  aa := fun g hg e => (he _ hg).elim (fun e1 => h.aa g e1 e) (fun e1 => by have := h.ref.row.lt e; omega)
theorem PMem.ref_ (h : PMem B b b' w0 w A c s A' c' v) (hB : B ≤ w.heap.size) {A2 : Option Addr} {c2 : Nat} {v2 : RIntk} (hc : Chg (fun g => g = b' ∨ blkOf A' = some g) w w') (hh : RHas w' b' A2 c2 v2) (he : ∀ g, blkOf A2 = some g → blkOf A' = some g ∨ w.heap.size ≤ g) :
    PMem B b b' w0 w' A c s A2 c2 v2 where
  ref := hh
  has := h.has.keep (hc.block _ h.has.obj.lt (fun e => e.elim h.bb h.ba)) (fun g hg => hc.block g (h.has.row.lt hg) (fun e => e.elim (fun e => h.ab (by rw [hg, e])) (fun e => h.aa g hg e)))
  below := h.below.trans (hc.to_below hB (fun g e => e.elim (fun e => by rw [e]; exact h.hb') (fun e => h.hA' g e)))
  hb := h.hb
  hb' := h.hb'
  hA := h.hA
  hA' := fun g hg => (he g hg).elim (h.hA' g) (fun e => Nat.le_trans hB e)
  bb := h.bb
  ab := h.ab
  ba := fun e => (he _ e).elim h.ba (fun e => by have := h.has.obj.lt; omega)
  aa := fun g hg e => (he _ e).elim (fun e1 => h.aa g hg e1) (fun e1 => by have := h.has.row.lt hg; omega)
theorem PMem.drew (h : PMem B b b' w0 w A c s A' c' v) : PMem B b b' w0 w.drew A c s A' c' v := h.drewN 1
theorem offerP (M : PMem B b b' w0 w A c s A' c' v) (hB : B ≤ w.heap.size) (l : List Cmd) (A1 : Option Addr) (n1 c1 : Nat) (hl : Reads w B 6 A1 n1 (cmdsV l)) (hn1 : n1 ≤ 9223372036854775807) (hq : s.queue.length ≤ 32)
    {p : Addr} {y : Value} (hp : w.cell? p = some y) (hpb : p.block ≠ b) (hpA : blkOf A ≠ some p.block) :
    Calls Try.prog 38 #[.pointer (some ⟨b, 0, none⟩), .slice A1 n1 c1] w fun e w' => e = .returned (.int .i64 ((offer s l).2 : Int)) ∧ (∃ A2 c2, PMem B b b' w0 w' A2 c2 (offer s l).1 A' c' v) ∧ w'.cell? p = some y ∧ w.heap.size ≤ w'.heap.size := by
  have hlt := M.has.obj.lt
  refine (offerWalk M.has l A1 n1 c1 (Reads.upTo hl hB) (fun h0 g hg => ?_) hn1 hq).mono ?_
  · have h1 := hl.blk_lt h0 hg
    have h2 := M.hb
    exact ⟨by omega, fun e => by have := M.hA g e; omega⟩
  · rintro e w' ⟨rfl, hc, ⟨A2, c2, hh, he⟩, -, -⟩
    refine ⟨rfl, ⟨A2, c2, M.own hB hc hh he⟩, ?_, hc.size⟩
    rw [← hp]
    exact World.cell?_of_block (hc.block _ (World.block_lt_of_cell? w _ hp) (fun e => e.elim hpb hpA))
theorem refOfferP (M : PMem B b b' w0 w A c s A' c' v) (hB : B ≤ w.heap.size) (l : List Cmd) (A1 : Option Addr) (n1 c1 : Nat) (hl : Reads w B 6 A1 n1 (cmdsV l)) (hn1 : n1 ≤ 9223372036854775807) (hq : v.all.length ≤ 1000000) (hg0 : v.gone ≤ v.all.length)
    {p : Addr} {y : Value} (hp : w.cell? p = some y) (hpb : p.block ≠ b') (hpA : blkOf A' ≠ some p.block) :
    Calls Try.prog 44 #[.pointer (some ⟨b', 0, none⟩), .slice A1 n1 c1] w fun e w' => e = .returned (.int .i64 ((rOffer v l).2 : Int)) ∧ (∃ A2 c2, PMem B b b' w0 w' A c s A2 c2 (rOffer v l).1) ∧ w'.cell? p = some y ∧ w.heap.size ≤ w'.heap.size ∧ (rOffer v l).1.all.length ≤ v.all.length + 8 := by
  have hlt := M.ref.obj.lt
  refine (refOffer M.ref l A1 n1 c1 (Reads.upTo hl hB) (fun h0 g hg => ?_) hn1 hq hg0).mono ?_
  · have h1 := hl.blk_lt h0 hg
    have h2 := M.hb'
    exact ⟨by omega, fun e => by have := M.hA' g e; omega⟩
  · rintro e w' ⟨rfl, hc, ⟨A2, c2, hh, he⟩, hlen, -⟩
    refine ⟨rfl, ⟨A2, c2, M.ref_ hB hc hh he⟩, ?_, hc.size, hlen⟩
    rw [← hp]
    exact World.cell?_of_block (hc.block _ (World.block_lt_of_cell? w _ hp) (fun e => e.elim hpb hpA))
theorem Chg.one {F : Nat → Prop} (hc : Chg (fun g => g = b) w w') : Chg (fun g => g = b ∨ F g) w w' := hc.mono fun _ e => .inl e
theorem fillP (M : PMem B b b' w0 w A c s A' c' v) (hB : B ≤ w.heap.size) (n : Int) (h0 : 0 ≤ s.tok) (h1 : s.tok ≤ 16) (hn : -9223372036854775808 ≤ n ∧ n ≤ 9223372036854775807)
    {p : Addr} {y : Value} (hp : w.cell? p = some y) (hpb : p.block ≠ b) :
    Calls Try.prog 45 #[.pointer (some ⟨b, 0, none⟩), .int .i64 n] w fun e w' => e = .returned undef ∧ PMem B b b' w0 w' A c (fill s n) A' c' v ∧ w'.cell? p = some y ∧ w.heap.size ≤ w'.heap.size := by
  refine (fillWalk M.has n h0 h1 ⟨hn.1, by omega⟩).mono ?_
  rintro e w' ⟨rfl, hc, hh⟩
  refine ⟨rfl, M.own hB hc.one hh (fun g hg => .inl hg), ?_, hc.size⟩
  rw [← hp]
  exact World.cell?_of_block (hc.block _ (World.block_lt_of_cell? w _ hp) hpb)
theorem refFillP (M : PMem B b b' w0 w A c s A' c' v) (hB : B ≤ w.heap.size) (n : Int) (h0 : 0 ≤ v.tok) (h1 : v.tok ≤ 16) (hn : -9223372036854775808 ≤ n ∧ n ≤ 9223372036854775807) :
    Calls Try.prog 46 #[.pointer (some ⟨b', 0, none⟩), .int .i64 n] w fun e w' => e = .returned undef ∧ PMem B b b' w0 w' A c s A' c' (refFillS v n) := by
  refine (refFill M.ref n h0 h1 hn).mono ?_
  rintro e w' ⟨rfl, hc, hh⟩
  exact ⟨rfl, M.ref_ hB hc.one hh (fun g hg => .inl hg)⟩
theorem takeP (M : PMem B b b' w0 w A c s A' c' v) (hB : B ≤ w.heap.size) (n : Int) (h0 : 0 ≤ s.tok) (h1 : s.tok ≤ 16) (hq : s.queue.length ≤ 32) (hn : -9223372036854775808 ≤ n ∧ n ≤ 9223372036854775807)
    {p : Addr} {y : Value} (hp : w.cell? p = some y) (hpb : p.block ≠ b) :
    Calls Try.prog 39 #[.pointer (some ⟨b, 0, none⟩), .int .i64 n] w fun e w' => ∃ A1 c1, e = .returned (.slice A1 (takes s n) c1) ∧ Row w' 58 6 A1 (takes s n) c1 (cmdsV (s.queue.take (takes s n))) ∧ blkOf A1 ≠ some b' ∧
      (∃ A2 c2, PMem B b b' w0 w' A2 c2 (takeS s n) A' c' v) ∧ w'.cell? p = some y ∧ w.heap.size ≤ w'.heap.size := by
  refine (takeWalk M.has n h0 h1 (by omega) ⟨hn.1, by omega⟩).mono ?_
  rintro e w' ⟨A1, c1, A2, c2, rfl, hr, hf, hc, hh, he⟩
  refine ⟨A1, c1, rfl, hr, fun e => by have := hf _ e; have := M.ref.obj.lt; omega, ⟨A2, c2, M.own hB hc.one hh (fun g hg => .inl (he ▸ hg))⟩, ?_, hc.size⟩
  rw [← hp]
  exact World.cell?_of_block (hc.block _ (World.block_lt_of_cell? w _ hp) hpb)
theorem refTakeP (M : PMem B b b' w0 w A c s A' c' v) (hB : B ≤ w.heap.size) (n : Int) (h0 : 0 ≤ v.tok) (h1 : v.tok ≤ 16) (hg : v.gone ≤ v.all.length) (hn : -9223372036854775808 ≤ n ∧ n ≤ 9223372036854775807)
    {A3 : Option Addr} {n3 c3 : Nat} {xs : List Value} (hr : Row w 58 6 A3 n3 c3 xs) (h3 : blkOf A3 ≠ some b') {p : Addr} {y : Value} (hp : w.cell? p = some y) (hpb : p.block ≠ b') :
    Calls Try.prog 48 #[.pointer (some ⟨b', 0, none⟩), .int .i64 n] w fun e w' => ∃ A1 c1, e = .returned (.slice A1 (rtakes v n) c1) ∧ Row w' 58 6 A1 (rtakes v n) c1 (cmdsV ((v.all.drop v.gone).take (rtakes v n))) ∧
      PMem B b b' w0 w' A c s A' c' (rtakeS v n) ∧ Row w' 58 6 A3 n3 c3 xs ∧ w'.cell? p = some y := by
  refine (refTake M.ref n h0 h1 hg hn).mono ?_
  rintro e w' ⟨A1, c1, rfl, hr1, hf, hc, hh⟩
  refine ⟨A1, c1, rfl, hr1, M.ref_ hB hc.one hh (fun g hg => .inl hg), hr.chg hc (fun g hg e => h3 (by rw [hg, e])), ?_⟩
  rw [← hp]
  exact World.cell?_of_block (hc.block _ (World.block_lt_of_cell? w _ hp) hpb)
theorem lastP (M : PMem B b b' w0 w A c s A' c' v) (n : Nat) : Calls Try.prog 41 #[.pointer (some ⟨b, 0, none⟩)] (w.drewN n) fun e w' => e = .returned (.int .u32 (s.last.toNat : Int)) ∧ w.drewN n = w' := lastWalk (M.drewN n).has
theorem refLastP (M : PMem B b b' w0 w A c s A' c' v) (n : Nat) : Calls Try.prog 49 #[.pointer (some ⟨b', 0, none⟩)] (w.drewN n) fun e w' => e = .returned (.int .u32 ((lastOf v.all).toNat : Int)) ∧ Dr (w.drewN n) w' := refLast (M.drewN n).ref
theorem waitsP (M : PMem B b b' w0 w A c s A' c' v) (n : Nat) : Calls Try.prog 50 #[.pointer (some ⟨b, 0, none⟩)] (w.drewN n) fun e w' => e = .returned (.int .i64 (s.queue.length : Int)) ∧ w.drewN n = w' := waitsWalk (M.drewN n).has
theorem tokensP (M : PMem B b b' w0 w A c s A' c' v) (n : Nat) : Calls Try.prog 51 #[.pointer (some ⟨b, 0, none⟩)] (w.drewN n) fun e w' => e = .returned (.int .i64 s.tok) ∧ w.drewN n = w' := tokensWalk (M.drewN n).has
end
set_option maxRecDepth 4000 in
set_option maxHeartbeats 8000000 in
theorem walkBucketPlays (ops : List OpV) (w : World) (A0 : Option Addr) (n c0 : Nat) (h : OpsAt w w.heap.size A0 n ops) (hn : n ≤ 9223372036854775807) :
    Calls Try.prog 17 #[.slice A0 n c0] w fun e w' => e = .returned (.bool true) ∧ Below w.heap.size w w' := by
  have hl := h.length
  cases hfew : fewB ops with
  | false =>
    have hF := fun W (hW : Below w.heap.size w W) => fewWalk ops W A0 n c0 ((h.below hW).upTo hW.size) hn
    rw [hfew] at hF
    go_enter Try.func17, Try.ntmps17
    go_wp2_with (first
      | (go_at_call 42; refine (hF _ hb1).mono ?_; rintro e w2 ⟨rfl, rfl⟩)
      | (go_at_call 40; refine (awake19 _).mono ?_; rintro e w1 ⟨rfl, hb1⟩; have hs1 := hb1.size))
    go_ret
    exact ⟨rfl, (by assumption : Below w.heap.size w _).trans (hb1.mono (by assumption))⟩
  | true =>
    have hF := fun W (hW : Below w.heap.size w W) => fewWalk ops W A0 n c0 ((h.below hW).upTo hW.size) hn
    rw [hfew] at hF
    have hn200 : n ≤ 200 := by
      unfold fewB at hfew
      simp only [Bool.and_eq_true, decide_eq_true_eq] at hfew
      omega
    have HL := Lib.hid hl
    clear hl
    go_enter Try.func17, Try.ntmps17
    go_wp2_with (first
      | (go_at_call 42; refine (hF _ hb1).mono ?_; rintro e w2 ⟨rfl, rfl⟩)
      | (go_at_call 40; refine (awake19 _).mono ?_; rintro e w1 ⟨rfl, hb1⟩; have hs1 := hb1.size)
      | (go_at_call 37; refine (newWalk _).mono ?_; rintro e w2 ⟨rfl, hb2, hh, hlt⟩)
      | (go_at_call 43; refine (refNew _).mono ?_; rintro e w3 ⟨rfl, hb3, hh3, hlt3⟩))
    clear hF
    have hs2 := hb2.size
    have hs3 := hb3.size
    have HS : Hid (w1.heap.size ≤ w2.heap.size ∧ w2.heap.size ≤ w3.heap.size ∧ w.heap.size ≤ w1.heap.size) := ⟨hs2, hs3, hb1.size⟩
    go_loopw [5] (fun i wr => ∃ (k : Nat) (s : Intk) (A : Option Addr) (c : Nat) (A' : Option Addr) (c' : Nat) (v : RIntk), k ≤ n ∧ i = .int .i64 (k : Nat) ∧
      PMem w.heap.size w1.heap.size w2.heap.size w wr A c s A' c' v ∧ PInv s v k) (fun i _ => n - (intOf i).toNat)
    case atStart =>
      refine ⟨0, _, none, 0, none, 0, _, Nat.zero_le _, rfl, ⟨hh.below hb3, hh3, hb1.trans ((hb2.mono HS.out.2.2).trans (hb3.mono (by have := HS.out; omega))), HS.out.2.2, by have := HS.out; omega, by simp [blkOf], by simp [blkOf], by omega, by simp [blkOf], by simp [blkOf], by simp [blkOf]⟩, PInv.start⟩
    case round =>
      obtain ⟨k, s, A, c, A', c', v, hk, rfl, M, P⟩ := hrel
      have hsz := M.below.size
      have HM := Lib.hid M
      have HP := Lib.hid P
      clear M P
      by_cases hlt : k < n
      · obtain ⟨g, off0, o, rfl, hg, ho, hok, e0, e1, e2⟩ := ((h.below HM.out.below).opAt hlt)
        obtain ⟨kind, m, oA, olen, ocap, ol⟩ := o
        have hreads := hok.reads
        have holen := hok.len
        have hm1 := hok.n
        have hk1 := hok.kind
        have HK := Lib.hid (h.inner _ (List.mem_of_getElem? ho))
        clear hok ho
        dsimp only at e0 e1 e2 hreads holen hm1 hk1
        have hal := (Below.refl wr.heap.size wr).alloc (Nat.le_refl _) (.cells #[.int .i64 kind, .int .i64 m, .slice oA olen ocap] 65)
        have M1 := HM.out.keep hal hsz
        have HM1 := Lib.hid M1
        clear M1 hreads
        have hxb : wr.heap.size ≠ w1.heap.size := by have := HM.out.has.obj.lt; omega
        have hxb' : wr.heap.size ≠ w2.heap.size := by have := HM.out.ref.obj.lt; omega
        have hxA : blkOf A ≠ some wr.heap.size := fun e => by have := HM.out.has.row.lt e; omega
        have hxA' : blkOf A' ≠ some wr.heap.size := fun e => by have := HM.out.ref.row.lt e; omega
        have HX := Lib.hid (show wr.heap.size ≠ w1.heap.size ∧ wr.heap.size ≠ w2.heap.size ∧ blkOf A ≠ some wr.heap.size ∧ blkOf A' ≠ some wr.heap.size from ⟨hxb, hxb', hxA, hxA'⟩)
        clear hxb hxb' hxA hxA'
        by_cases hkd : kind = 1
        · subst hkd
          have hpo := HP.out.offer ol
          obtain ⟨⟨s2, cn⟩, hs2⟩ : ∃ p, offer s ol = p := ⟨_, rfl⟩
          obtain ⟨⟨v2, cm⟩, hv2⟩ : ∃ p, rOffer v ol = p := ⟨_, rfl⟩
          have hO1 := fun W (M : PMem w.heap.size w1.heap.size w2.heap.size w W A c s A' c' v) hp => offerP (p := ⟨wr.heap.size, 2, none⟩) (y := .slice oA olen ocap) M M.below.size ol oA olen ocap (HK.out.reads.below M.below) holen HP.out.q32 hp HX.out.1 HX.out.2.2.1
          have hO2 := fun A2 c2 W (M : PMem w.heap.size w1.heap.size w2.heap.size w W A2 c2 s2 A' c' v) hp => refOfferP (p := ⟨wr.heap.size, 2, none⟩) (y := .slice oA olen ocap) M M.below.size ol oA olen ocap (HK.out.reads.below M.below) holen (by have := HP.out.len; omega) HP.out.gone hp HX.out.2.1 HX.out.2.2.2
          rw [hs2, hv2] at hpo
          simp only [hs2] at hO1
          simp only [hv2] at hO2
          have HO1 := Lib.hid hO1
          have HO2 := Lib.hid hO2
          have HPO := Lib.hid hpo
          clear hO1 hO2 hpo hs2 hv2
          go_wp2_with fail
          go_region_held3 (fun w' => w'.cell? ⟨wr.heap.size, 2, none⟩ = some (.slice oA olen ocap)) (first | go_keep | assumption)
            (first
              | (go_at_call 38; refine (HO1.out _ HM1.out.drew (by simp)).mono ?_
                 rintro e w4 ⟨rfl, ⟨A2, c2, M4⟩, hp4, hs4⟩
                 have M4 := Lib.hid M4)
              | (go_at_call 44; refine (HO2.out _ _ _ M4.out hp4).mono ?_
                 rintro e w5 ⟨rfl, ⟨A3, c3, M5⟩, hp5, hs5, hlen⟩))
          obtain ⟨rfl, R2⟩ := HPO.out hlen
          have hne : ((cn : Int) != (cn : Int)) = false := by simp
          have q1 : ((s2.last.toNat : Int) != ((lastOf v2.all).toNat : Int)) = false := by rw [R2.last]; simp
          have q2 : ((s2.queue.length : Int) != (v2.all.length : Int) - (v2.gone : Int)) = false := by rw [bne_eq_false_iff_eq]; have := R2.qlen; have := R2.gone; omega
          have q3 : (s2.tok != v2.tok) = false := by rw [bne_eq_false_iff_eq, R2.tok]
          have R2 := Lib.hid R2
          have f0 := M5.ref.obj.c0
          have f1 := M5.ref.obj.c1
          have f2 := M5.ref.obj.c2
          have hgn := R2.out.gone
          have hln := R2.out.len
          have M5 := Lib.hid M5
          go_wp2
          go_quiet (first
            | (go_at_call 41; exact quiet_left (lastP M5.out _))
            | (go_at_call 49; exact quiet_dr (refLastP M5.out _))
            | (go_at_call 50; exact quiet_left (waitsP M5.out _))
            | (go_at_call 51; exact quiet_left (tokensP M5.out _)))
          go_wp2
          exact ⟨⟨k + 1, s2, _, _, _, _, v2, hlt, by go_num, M5.out.drewN nq, R2.out⟩, by simp [intOf]; omega⟩
        · by_cases hkd2 : kind = 2
          · subst hkd2
            have b1 : ((2 : Int) == 1) = false := rfl
            have R2 := HP.out.fill m
            have t0 := HP.out.tok0
            have t1 := HP.out.tok16
            have t2 := HP.out.tok
            have hO1 := fun W (M : PMem w.heap.size w1.heap.size w2.heap.size w W A c s A' c' v) hp => fillP (p := ⟨wr.heap.size, 1, none⟩) (y := .int .i64 m) M M.below.size m t0 t1 hm1 hp HX.out.1
            obtain ⟨d, hd⟩ : ∃ d, min m 100 = d := ⟨_, rfl⟩
            have hO2 := fun s2 W (M : PMem w.heap.size w1.heap.size w2.heap.size w W A c s2 A' c' v) => refFillP M M.below.size d (by rw [t2]; exact t0) (by rw [t2]; exact t1) (by omega)
            rw [hd] at R2
            obtain ⟨s2, hs2⟩ : ∃ p, fill s m = p := ⟨_, rfl⟩
            obtain ⟨v2, hv2⟩ : ∃ p, refFillS v d = p := ⟨_, rfl⟩
            rw [hs2, hv2] at R2
            simp only [hs2] at hO1
            simp only [hv2] at hO2
            have HO1 := Lib.hid hO1
            have HO2 := Lib.hid hO2
            have hmin : (if (100 : Int) < m then 100 else m) = d := by rw [← hd]; split <;> omega
            clear hO1 hO2 hs2 hv2 t2 hd
            go_wp2_with (first
              | (go_at_call 45; refine (HO1.out _ HM1.out (by simp)).mono ?_
                 rintro e w4 ⟨rfl, M4, hp4, hs4⟩
                 have M4 := Lib.hid M4
                 clear HM1)
              | (go_at_call 46; refine (HO2.out _ _ M4.out).mono ?_
                 rintro e w5 ⟨rfl, M5⟩))
            have q1 : ((s2.last.toNat : Int) != ((lastOf v2.all).toNat : Int)) = false := by rw [R2.last]; simp
            have q2 : ((s2.queue.length : Int) != (v2.all.length : Int) - (v2.gone : Int)) = false := by rw [bne_eq_false_iff_eq]; have := R2.qlen; have := R2.gone; omega
            have q3 : (s2.tok != v2.tok) = false := by rw [bne_eq_false_iff_eq, R2.tok]
            have R2 := Lib.hid R2
            have f0 := M5.ref.obj.c0
            have f1 := M5.ref.obj.c1
            have f2 := M5.ref.obj.c2
            have hgn := R2.out.gone
            have hln := R2.out.len
            have M5 := Lib.hid M5
            go_wp2
            go_quiet (first
              | (go_at_call 41; exact quiet_left (lastP M5.out _))
              | (go_at_call 49; exact quiet_dr (refLastP M5.out _))
              | (go_at_call 50; exact quiet_left (waitsP M5.out _))
              | (go_at_call 51; exact quiet_left (tokensP M5.out _)))
            go_wp2
            exact ⟨⟨k + 1, s2, _, _, _, _, v2, hlt, by go_num, M5.out.drewN nq, R2.out⟩, by simp [intOf]; omega⟩
          · by_cases hkd3 : kind = 3
            · subst hkd3
              have b1 : ((3 : Int) == 1) = false := rfl
              have b2 : ((3 : Int) == 2) = false := rfl
              obtain ⟨R2, hte⟩ := HP.out.take m
              have hre := HP.out.takes_eq m
              have t0 := HP.out.tok0
              have t1 := HP.out.tok16
              have t2 := HP.out.tok
              have hql := HP.out.qlen
              have hO1 := fun W (M : PMem w.heap.size w1.heap.size w2.heap.size w W A c s A' c' v) hp => takeP (p := ⟨wr.heap.size, 1, none⟩) (y := .int .i64 m) M M.below.size m t0 t1 HP.out.q32 hm1 hp HX.out.1
              have hO2 := fun A2 c2 s2 W (M : PMem w.heap.size w1.heap.size w2.heap.size w W A2 c2 s2 A' c' v) A3 n3 c3 xs (hr : Row W 58 6 A3 n3 c3 xs) h3 hp => refTakeP (p := ⟨wr.heap.size, 1, none⟩) (y := .int .i64 m) M M.below.size m (by rw [t2]; exact t0) (by rw [t2]; exact t1) HP.out.gone hm1 hr h3 hp HX.out.2.1
              have ht32 : takes s m ≤ 32 := by have := HP.out.q32; unfold takes; omega
              rw [hre] at hte
              simp only [hre, hte] at hO2
              obtain ⟨t, ht⟩ : ∃ p, takes s m = p := ⟨_, rfl⟩
              rw [ht] at ht32
              simp only [ht] at hO1 hO2
              obtain ⟨l, hl⟩ : ∃ l, s.queue.take t = l := ⟨_, rfl⟩
              obtain ⟨s2, hs2⟩ : ∃ p, takeS s m = p := ⟨_, rfl⟩
              obtain ⟨v2, hv2⟩ : ∃ p, rtakeS v m = p := ⟨_, rfl⟩
              rw [hs2, hv2] at R2
              simp only [hs2, hl] at hO1
              simp only [hv2, hl] at hO2
              have HO1 := Lib.hid hO1
              have HO2 := Lib.hid hO2
              clear hO1 hO2 hs2 hv2 t2 hte hre hql ht hl
              have h3 := fun W A1 c1 A2 c2 (r1 : Row W 58 6 A1 t c1 (cmdsV l)) (r2 : Row W 58 6 A2 t c2 (cmdsV l)) => refSame l l W A1 t c1 A2 t c2 (r1.reads (by decide)) (r2.reads (by decide)) (by omega) (by omega)
              simp only [decide_true] at h3
              have H3 := Lib.hid h3
              clear h3
              go_wp2_with fail
              go_region_held3 (fun w' => w'.cell? ⟨wr.heap.size, 1, none⟩ = some (.int .i64 m)) (first | go_keep | assumption)
                (first
                  | (go_at_call 39; refine (HO1.out _ HM1.out.drew (by simp)).mono ?_
                     rintro e w4 ⟨A1, c1, rfl, hr1, hne1, ⟨A2, c2, M4⟩, hp4, hs4⟩
                     have M4 := Lib.hid M4
                     have HR1 := Lib.hid hr1
                     clear hr1)
                  | (go_at_call 48; refine (HO2.out _ _ _ _ M4.out _ _ _ _ HR1.out hne1 hp4).mono ?_
                     rintro e w5 ⟨A3, c3, rfl, hr3, M5, hr4, hp5⟩
                     have HR3 := Lib.hid hr3
                     have HR4 := Lib.hid hr4
                     have M5' := Lib.hid M5
                     clear hr3 hr4 M5)
                  | (go_at_call 47; refine (H3.out _ _ _ _ _ HR4.out HR3.out).mono ?_
                     rintro e w6 ⟨rfl, hdr⟩
                     have hp6 : w6.cell? ⟨wr.heap.size, 1, none⟩ = some (.int .i64 m) := by obtain ⟨_, rfl⟩ := hdr; exact hp5
                     have M6 : PMem w.heap.size w1.heap.size w2.heap.size w w6 A2 c2 s2 A' c' v2 := by obtain ⟨_, rfl⟩ := hdr; exact M5'.out.drewN _
                     clear hdr))
              have M5 := M6
              have q1 : ((s2.last.toNat : Int) != ((lastOf v2.all).toNat : Int)) = false := by rw [R2.last]; simp
              have q2 : ((s2.queue.length : Int) != (v2.all.length : Int) - (v2.gone : Int)) = false := by rw [bne_eq_false_iff_eq]; have := R2.qlen; have := R2.gone; omega
              have q3 : (s2.tok != v2.tok) = false := by rw [bne_eq_false_iff_eq, R2.tok]
              have R2 := Lib.hid R2
              have f0 := M5.ref.obj.c0
              have f1 := M5.ref.obj.c1
              have f2 := M5.ref.obj.c2
              have hgn := R2.out.gone
              have hln := R2.out.len
              have M5 := Lib.hid M5
              go_wp2
              go_quiet (first
                | (go_at_call 41; exact quiet_left (lastP M5.out _))
                | (go_at_call 49; exact quiet_dr (refLastP M5.out _))
                | (go_at_call 50; exact quiet_left (waitsP M5.out _))
                | (go_at_call 51; exact quiet_left (tokensP M5.out _)))
              go_wp2
              exact ⟨⟨k + 1, s2, _, _, _, _, v2, hlt, by go_num, M5.out.drewN nq, R2.out⟩, by simp [intOf]; omega⟩
            · have b1 : (kind == 1) = false := by rw [beq_eq_false_iff_ne]; exact hkd
              have b2 : (kind == 2) = false := by rw [beq_eq_false_iff_ne]; exact hkd2
              have b3 : (kind == 3) = false := by rw [beq_eq_false_iff_ne]; exact hkd3
              have M5 := HM1.out
              have R2 := HP.out.more
              have q1 : ((s.last.toNat : Int) != ((lastOf v.all).toNat : Int)) = false := by rw [R2.last]; simp
              have q2 : ((s.queue.length : Int) != (v.all.length : Int) - (v.gone : Int)) = false := by rw [bne_eq_false_iff_eq]; have := R2.qlen; have := R2.gone; omega
              have q3 : (s.tok != v.tok) = false := by rw [bne_eq_false_iff_eq, R2.tok]
              have R2 := Lib.hid R2
              have f0 := M5.ref.obj.c0
              have f1 := M5.ref.obj.c1
              have f2 := M5.ref.obj.c2
              have hgn := R2.out.gone
              have hln := R2.out.len
              have M5 := Lib.hid M5
              go_wp2
              go_quiet (first
                | (go_at_call 41; exact quiet_left (lastP M5.out _))
                | (go_at_call 49; exact quiet_dr (refLastP M5.out _))
                | (go_at_call 50; exact quiet_left (waitsP M5.out _))
                | (go_at_call 51; exact quiet_left (tokensP M5.out _)))
              go_wp2
              exact ⟨⟨k + 1, s, _, _, _, _, v, hlt, by go_num, M5.out.drewN nq, R2.out⟩, by simp [intOf]; omega⟩
      · go_wp2
        go_ret
        exact ⟨rfl, HM.out.below⟩
end Go.Proofs.Ytplclgkchiaijaa
