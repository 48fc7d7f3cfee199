/- The walk of the document's Offer. -/
import Derived.Test.YtplclgkchiaijaaRefBucket
import Derived.Deep.RegionLaw
set_option linter.unusedSimpArgs false
set_option linter.unusedVariables false
namespace Go.Proofs.Ytplclgkchiaijaa
open Go.RowKit
def rStep (p : RIntk × Nat) (x : Cmd) : RIntk × Nat := if (lastOf p.1.all).toNat < x.number.toNat ∧ p.1.all.length < p.1.gone + 32 then (⟨p.1.all ++ [x], p.1.gone, p.1.tok⟩, p.2 + 1) else p
def rOffer (v : RIntk) (l : List Cmd) : RIntk × Nat := if rowB l then l.foldl rStep (v, 0) else (v, 0)
structure RRel (w : World) (b : Nat) (A : Option Addr) (c : Nat) (v : RIntk) (l : List Cmd) (k cnt : Nat) (wr : World) (v' : RIntk) (A' : Option Addr) (c' : Nat) : Prop where
  fold : (l.take k).foldl rStep (v, 0) = (v', cnt)
  chg : Chg (fun g => g = b ∨ blkOf A = some g) w wr
  has : RHas wr b A' c' v'
  blk : ∀ g, blkOf A' = some g → blkOf A = some g ∨ w.heap.size ≤ g
  len : v'.all.length ≤ v.all.length + k
  gone : v'.gone = v.gone
  cntle : cnt ≤ k
section
variable {w wr w' : World} {b : Nat} {A A' : Option Addr} {c c' : Nat} {v v' : RIntk} {l : List Cmd} {k cnt : Nat} {x : Cmd}
theorem RRel.skip (R : RRel w b A c v l k cnt wr v' A' c') (hx : l[k]? = some x) (hno : ¬ ((lastOf v'.all).toNat < x.number.toNat ∧ v'.all.length < v'.gone + 32)) (hb : Below wr.heap.size wr w') : RRel w b A c v l (k + 1) cnt w' v' A' c' where
  fold := by rw [take_snoc l k x hx, List.foldl_append, R.fold]; simp [rStep, hno]
  chg := R.chg.below hb R.chg.size
  has := R.has.below hb
  blk := R.blk
  len := by have := R.len; omega
  gone := R.gone
  cntle := Nat.le_succ_of_le R.cntle
theorem RRel.step (R : RRel w b A c v l k cnt wr v' A' c') (hx : l[k]? = some x) (h1 : (lastOf v'.all).toNat < x.number.toNat) (h2 : v'.all.length < v'.gone + 32) {A2 : Option Addr} {c2 : Nat}
    (hc : Chg (fun g => g = b ∨ blkOf A' = some g) wr w') (hh : RHas w' b A2 c2 ⟨v'.all ++ [x], v'.gone, v'.tok⟩) (hb : ∀ g, blkOf A2 = some g → blkOf A' = some g ∨ wr.heap.size ≤ g) : RRel w b A c v l (k + 1) (cnt + 1) w' ⟨v'.all ++ [x], v'.gone, v'.tok⟩ A2 c2 where
  fold := by rw [take_snoc l k x hx, List.foldl_append, R.fold]; simp [rStep, h1, h2]
  chg := R.chg.trans hc fun g hg => hg.elim (fun e => .inl (.inl e)) (fun e => (R.blk g e).elim (fun e => .inl (.inr e)) .inr)
  has := hh
  blk := fun g hg => (hb g hg).elim (fun e => R.blk g e) (fun e => .inr (Nat.le_trans R.chg.size e))
  len := by have := R.len; simp; omega
  gone := R.gone
  cntle := Nat.succ_le_succ R.cntle
end
set_option maxHeartbeats 8000000 in
theorem refOffer {w : World} {b : Nat} {A : Option Addr} {c : Nat} {v : RIntk} (h : RHas w b A c v) (l : List Cmd) (A1 : Option Addr) (n1 c1 : Nat) (hl : Reads w w.heap.size 6 A1 n1 (cmdsV l))
    (hd : 0 < n1 → ∀ g, blkOf A1 = some g → g ≠ b ∧ blkOf A ≠ some g) (hn1 : n1 ≤ 9223372036854775807) (hq : v.all.length ≤ 1000000) (hg0 : v.gone ≤ v.all.length) :
    Calls Try.prog 44 #[.pointer (some ⟨b, 0, none⟩), .slice A1 n1 c1] w fun e w' => e = .returned (.int .i64 ((rOffer v l).2 : Int)) ∧ Chg (fun g => g = b ∨ blkOf A = some g) w w' ∧
      (∃ A' c', RHas w' b A' c' (rOffer v l).1 ∧ ∀ g, blkOf A' = some g → blkOf A = some g ∨ w.heap.size ≤ g) ∧ (rOffer v l).1.all.length ≤ v.all.length + 8 ∧ (rOffer v l).1.gone = v.gone := by
  have hll := hl.cmd_len
  have HL := Lib.hid hll
  clear hll
  cases hrow : rowB l with
  | false =>
    have hcr := refRow l w A1 n1 c1 hl hn1
    rw [refRowB_eq, hrow] at hcr
    have e : rOffer v l = (v, 0) := by unfold rOffer; rw [hrow]; rfl
    have HE := Lib.hid e
    clear e hrow
    go_enter Try.func44, Try.ntmps44
    go_wp2
    go_loopw [6, 5] (fun i n wr => i = .int .i64 0 ∧ n = .int .i64 0 ∧ w = wr) (fun i _ _ => n1 - (intOf i).toNat)
    case atStart => exact ⟨rfl, rfl, rfl⟩
    case round =>
      obtain ⟨rfl, rfl, rfl⟩ := hrel
      rcases Nat.eq_zero_or_pos n1 with hz | hz
      · subst hz
        go_wp2
        go_ret
        rw [HE.out]
        exact ⟨rfl, Chg.refl, ⟨A, c, h, fun g hg => .inl hg⟩, Nat.le_add_right _ _, rfl⟩
      · have hz' : (0 : Int) < (n1 : Int) := by omega
        go_wp2_with (go_at_call 52; refine hcr.mono ?_; rintro e w1 ⟨rfl, hb1⟩)
        go_ret
        rw [HE.out]
        exact ⟨rfl, Chg.refl.below hb1 (Nat.le_refl _), ⟨A, c, h.below hb1, fun g hg => .inl hg⟩, Nat.le_add_right _ _, rfl⟩
  | true =>
    have hn8 : n1 ≤ 8 := by rw [← HL.out]; exact (rowB_length hrow).2
    have HRw := Lib.hid hrow
    clear hrow
    go_enter Try.func44, Try.ntmps44
    go_wp2
    go_loopw [6, 5] (fun i n wr => ∃ k cnt v' A' c', k ≤ n1 ∧ i = .int .i64 (k : Nat) ∧ n = .int .i64 (cnt : Nat) ∧ RRel w b A c v l k cnt wr v' A' c') (fun i _ _ => n1 - (intOf i).toNat)
    case atStart => exact ⟨0, 0, v, A, c, Nat.zero_le _, rfl, rfl, rfl, Chg.refl, h, fun g hg => .inl hg, Nat.le_refl _, rfl, Nat.le_refl _⟩
    case round =>
      obtain ⟨k, cnt, v', A', c', hk, rfl, rfl, R⟩ := hrel
      have hcnt := R.cntle
      have HR := Lib.hid R
      have hsz := R.chg.size
      clear R
      by_cases hlt : k < n1
      · have hlr := hl.chgF HR.out.chg (Nat.le_refl _) (fun g hg hF => hF.elim (hd (by omega) g hg).1 (hd (by omega) g hg).2)
        have hcr := refRow l wr A1 n1 c1 (by obtain ⟨p, q⟩ := hlr; exact ⟨p, fun hn => by obtain ⟨a, r1, r2, r3⟩ := q hn; exact ⟨a, r1, Nat.lt_of_lt_of_le r2 hsz, r3⟩⟩) hn1
        rw [refRowB_eq, HRw.out] at hcr
        go_wp2_with (go_at_call 52; refine hcr.mono ?_; rintro e w1 ⟨rfl, hb1⟩)
        have has1 := HR.out.has.below hb1
        obtain ⟨g, off, x, rfl, hg, hx, e0, e1, e2, e3, e4, e5⟩ := (hlr.below (hb1.mono hsz)).cmdAt hlt
        have HX := Lib.hid hx
        have HB1 := Lib.hid hb1
        have hlen := HR.out.len
        have hgone := HR.out.gone
        obtain ⟨all, gone, tok⟩ := v'
        have hlen : all.length ≤ v.all.length + k := hlen
        have hgone2 : gone = v.gone := hgone
        have HGo := Lib.hid hgone2
        have hgb : gone ≤ 1000000 := by omega
        have hab : all.length ≤ 1000010 := by omega
        clear hgone hgone2
        have hlast := fun q => refLast (w := w1.drewN q) ⟨has1.obj, has1.row, has1.apart⟩
        have f0 := has1.obj.c0
        have f1 := has1.obj.c1
        have z0 := has1.obj.z 0
        obtain ⟨la, hla⟩ : ∃ la, lastOf all = la := ⟨_, rfl⟩
        have hlast : ∀ q, Calls Try.prog 49 #[.pointer (some ⟨b, 0, none⟩)] (w1.drewN q) fun e w' => e = .returned (.int .u32 (la.toNat : Int)) ∧ Dr (w1.drewN q) w' := fun q => by have := hlast q; rw [← hla]; exact this
        have HLa := Lib.hid hla
        clear hla hx hb1 hlr hcr
        cases hgt : decide (la.toNat < x.number.toNat) with
        | false =>
          go_quiet ((go_at_call 49; exact quiet_dr (hlast _)))
          go_wp2
          exact ⟨⟨k + 1, cnt, _, A', c', hlt, by go_num, rfl, HR.out.skip HX.out (fun e => of_decide_eq_false hgt (by rw [← HLa.out]; exact e.1)) (HB1.out.trans ((Dr.refl _).drewN nq |>.below _))⟩, by simp [intOf]; omega⟩
        | true =>
          cases hln : decide ((all.length : Int) - (gone : Int) < 32) with
          | false =>
            go_quiet ((go_at_call 49; exact quiet_dr (hlast _)))
            go_wp2
            exact ⟨⟨k + 1, cnt, _, A', c', hlt, by go_num, rfl, HR.out.skip HX.out (fun e => of_decide_eq_false hln (by have e2 : all.length < gone + 32 := e.2; omega)) (HB1.out.trans ((Dr.refl _).drewN nq |>.below _))⟩, by simp [intOf]; omega⟩
          | true =>
            have hln' : all.length < gone + 32 := by have := of_decide_eq_true hln; omega
            have hgt' : la.toNat < x.number.toNat := of_decide_eq_true hgt
            have hal := (Below.refl w1.heap.size w1).alloc (Nat.le_refl _) (.cells #[.int .u32 (x.number.toNat : Int), .int .i8 x.mx.toInt, .int .i8 x.my.toInt, .bool x.fire, .int .u32 (x.view.toNat : Int), .int .u8 (x.frac.toNat : Int)] 58)
            have has2 := has1.below hal
            have hnews : Reads (w1.alloc (.cells #[.int .u32 (x.number.toNat : Int), .int .i8 x.mx.toInt, .int .i8 x.my.toInt, .bool x.fire, .int .u32 (x.view.toNat : Int), .int .u8 (x.frac.toNat : Int)] 58)) (w1.heap.size + 1) 6 (some ⟨w1.heap.size, 0, none⟩) 1 (cmdV x) := Reads.blk (size := 6) (n := 1) (g := w1.heap.size) (heap_alloc_new w1 (.cells #[.int .u32 (x.number.toNat : Int), .int .i8 x.mx.toInt, .int .i8 x.my.toInt, .bool x.fire, .int .u32 (x.view.toNat : Int), .int .u8 (x.frac.toNat : Int)] 58)) (by omega) rfl
            have HH2 := Lib.hid has2
            have HV := Lib.hid hnews
            have HAL := Lib.hid hal
            have hbb := has1.obj.lt
            have p0 : ∀ q, ((w1.drewN q).alloc (.cells #[.int .u32 (x.number.toNat : Int), .int .i8 x.mx.toInt, .int .i8 x.my.toInt, .bool x.fire, .int .u32 (x.view.toNat : Int), .int .u8 (x.frac.toNat : Int)] 58)).cell? ⟨b, 0, none⟩ = some (.slice A' all.length c') := fun q => (World.cell?_of_block (Below.heap_alloc (w1.drewN q) _ b hbb)).trans f0
            clear has2 hnews hal
            go_quiet ((go_at_call 49; exact quiet_dr (hlast _)))
            go_wp2
            go_region_law (refine step_row rfl (.tmp 42) (.tmp 47) rfl elt50 A' all.length c' (cmdsV all) (by simp [Act.eval, Act.put]) (by exact HH2.out.row) (w1.heap.size + 1) (some ⟨w1.heap.size, 0, none⟩) 1 1 (cmdV x) (by simp [Act.eval, Act.put]) (by exact HV.out) (oneCell_cmd x) (by omega) ?_; intro A2 c2 w2 hr2 hg2 hb2; have ob2 := HH2.out.obj.keep (hg2.block b HH2.out.obj.lt (Ne.symm HH2.out.apart)); have y0 := ob2.z 0; have q0 := ob2.c0)
            all_goals
              have hsw1 := HB1.out.size
              have hAw : ∀ g, blkOf A' = some g → g < w1.heap.size := fun g hg => has1.row.lt hg
              have hbw : b < w1.heap.size := has1.obj.lt
              go_wp2
              have hbA2 : ∀ g, blkOf A2 = some g → blkOf A' = some g ∨ wr.heap.size ≤ g := fun g hg => by
                rcases hb2 with e | e
                · exact .inl (e ▸ hg)
                · right; rw [e] at hg; injection hg with hg; rw [← hg]; simp <;> omega
              have hA2b : blkOf A2 ≠ some b := fun e => by
                rcases hb2 with e1 | e1
                · exact has1.apart (e1 ▸ e)
                · rw [e1] at e; injection e with e; simp at e; omega
              refine ⟨⟨k + 1, cnt + 1, ⟨all ++ [x], gone, tok⟩, A2, c2, hlt, by go_num, by go_num, HR.out.step HX.out (by rw [← HLa.out] at hgt'; exact hgt') hln' (Chg.setCell (Chg.grown (F := fun g => g = b ∨ blkOf A' = some g) ((((Chg.refl.below HB1.out (Nat.le_refl _)).drewN (nq + 1)).alloc _)) hg2 (fun k hk => .inl (.inr hk))) (.inl (.inl rfl)) _) ?_ hbA2⟩, by simp [intOf]; omega⟩
              refine ⟨?_, ?_, hA2b⟩
              · have := ob2.s0 (.slice A2 (all.length + 1) c2)
                simpa using this
              · have := hr2.keep (w' := w2.setCell ⟨b, 0, none⟩ (.slice A2 (all.length + 1) c2)) (fun g hg => Below.heap_setCell _ _ _ g (fun e => hA2b (by rw [hg, e])))
                simpa [cmdsV_snoc] using this
      · have hkn : k = n1 := by omega
        subst hkn
        go_wp2
        go_ret
        have hfold : rOffer v l = (v', cnt) := by
          have h1 := HR.out.fold
          rw [List.take_of_length_le (by have := HL.out; omega)] at h1
          unfold rOffer; rw [HRw.out, h1]; rfl
        rw [hfold]
        exact ⟨rfl, HR.out.chg, ⟨A', c', HR.out.has, HR.out.blk⟩, by have := HR.out.len; show v'.all.length ≤ _; omega, HR.out.gone⟩
end Go.Proofs.Ytplclgkchiaijaa
