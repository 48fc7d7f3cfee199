/- The walk of an offer. -/
import Derived.Test.YtplclgkchiaijaaBucket
import Derived.Deep.RegionLaw
set_option linter.unusedSimpArgs false
set_option linter.unusedVariables false
namespace Go.Proofs.Ytplclgkchiaijaa
open Go.RowKit
def offerStep (p : Intk × Nat) (x : Cmd) : Intk × Nat := if p.1.last.toNat < x.number.toNat ∧ p.1.queue.length < 32 then (⟨x.number, p.1.queue ++ [x], p.1.tok⟩, p.2 + 1) else p
def offer (s : Intk) (l : List Cmd) : Intk × Nat := if rowB l then l.foldl offerStep (s, 0) else (s, 0)
theorem rowB_length {l : List Cmd} (h : rowB l = true) : 1 ≤ l.length ∧ l.length ≤ 8 := by
  unfold rowB at h
  simp only [Bool.and_eq_true, decide_eq_true_eq] at h
  exact ⟨h.1.2, h.2⟩
theorem take_snoc {α : Type} (l : List α) (k : Nat) (x : α) (h : l[k]? = some x) : l.take (k + 1) = l.take k ++ [x] := by
  rw [List.take_add_one, h]; rfl
theorem oneCell_cmd (x : Cmd) : ∀ u ∈ cmdV x, u.oneCell' = true := by
  have := oneCell_cmds [x]
  simpa only [cmdsV, List.flatMap_cons, List.flatMap_nil, List.append_nil] using this
theorem cmdsV_snoc (l : List Cmd) (x : Cmd) : cmdsV (l ++ [x]) = cmdsV l ++ cmdV x := by simp [cmdsV]
section
variable {w : World} {b : Nat} {A : Option Addr} {c : Nat} {s : Intk}
theorem Has.keep {w' : World} (h : Has w b A c s) (hb : w'.heap[b]? = w.heap[b]?) (hA : ∀ g, blkOf A = some g → w'.heap[g]? = w.heap[g]?) : Has w' b A c s :=
  ⟨h.obj.keep hb, h.row.keep hA, h.apart⟩
theorem Has.below {w' : World} (h : Has w b A c s) (hb : Below w.heap.size w w') : Has w' b A c s :=
  h.keep (hb.block _ h.obj.lt) (fun g hg => hb.block g (h.row.lt hg))
end
theorem Reads.chgF {w w' : World} {F : Nat → Prop} {B size n : Nat} {A : Option Addr} {xs : List Value} (h : Reads w B size A n xs) (hc : Chg F w w') (hB : B ≤ w.heap.size) (hA : ∀ g, blkOf A = some g → ¬ F g) : Reads w' B size A n xs := by
  refine ⟨h.1, fun hn => ?_⟩
  obtain ⟨a, rfl, hb, hcell⟩ := h.2 hn
  refine ⟨a, rfl, hb, fun j u hu => ?_⟩
  have := hcell j u hu
  rw [← this]
  exact World.cell?_of_block (hc.block _ (by rw [block_of_add]; omega) (by rw [block_of_add]; exact hA _ rfl))
theorem Reads.blk_lt {w : World} {B size n : Nat} {A : Option Addr} {xs : List Value} (h : Reads w B size A n xs) (hn : 0 < n) {g : Nat} (hg : blkOf A = some g) : g < B := by
  obtain ⟨a, rfl, hb, _⟩ := h.2 hn
  cases hg; exact hb
/-- The state of the loop. -/
structure OfferRel (w : World) (b : Nat) (A : Option Addr) (c : Nat) (s : Intk) (l : List Cmd) (k cnt : Nat) (wr : World) (s' : Intk) (A' : Option Addr) (c' : Nat) : Prop where
  fold : (l.take k).foldl offerStep (s, 0) = (s', cnt)
  chg : Chg (fun g => g = b ∨ blkOf A = some g) w wr
  has : Has wr b A' c' s'
  blk : ∀ g, blkOf A' = some g → blkOf A = some g ∨ w.heap.size ≤ g
  len : s'.queue.length ≤ 32
  cntle : cnt ≤ k
  none_ : cnt = 0 → s' = s ∧ Below w.heap.size w wr
section
variable {w wr w' : World} {b : Nat} {A A' : Option Addr} {c c' : Nat} {s s' : Intk} {l : List Cmd} {k cnt : Nat} {x : Cmd}
theorem OfferRel.skip (R : OfferRel w b A c s l k cnt wr s' A' c') (hx : l[k]? = some x) (hno : ¬ (s'.last.toNat < x.number.toNat ∧ s'.queue.length < 32)) (hb : Below wr.heap.size wr w') : OfferRel w b A c s l (k + 1) cnt w' s' A' c' where
  fold := by rw [take_snoc l k x hx, List.foldl_append, R.fold]; simp [offerStep, hno]
  chg := R.chg.below hb R.chg.size
  has := R.has.below hb
  blk := R.blk
  len := R.len
  cntle := Nat.le_succ_of_le R.cntle
  none_ := fun h0 => ⟨(R.none_ h0).1, (R.none_ h0).2.trans (hb.mono (R.none_ h0).2.size)⟩
theorem OfferRel.step (R : OfferRel w b A c s l k cnt wr s' A' c') (hx : l[k]? = some x) (h1 : s'.last.toNat < x.number.toNat) (h2 : s'.queue.length < 32) {A2 : Option Addr} {c2 : Nat}
    (hc : Chg (fun g => g = b ∨ blkOf A' = some g) wr w') (hh : Has w' b A2 c2 ⟨x.number, s'.queue ++ [x], s'.tok⟩) (hb : ∀ g, blkOf A2 = some g → blkOf A' = some g ∨ wr.heap.size ≤ g) : OfferRel w b A c s l (k + 1) (cnt + 1) w' ⟨x.number, s'.queue ++ [x], s'.tok⟩ A2 c2 where
  fold := by rw [take_snoc l k x hx, List.foldl_append, R.fold]; simp [offerStep, h1, h2]
  chg := R.chg.trans hc fun g hg => hg.elim (fun e => .inl (.inl e)) (fun e => (R.blk g e).elim (fun e => .inl (.inr e)) .inr)
  has := hh
  blk := fun g hg => (hb g hg).elim (fun e => R.blk g e) (fun e => .inr (Nat.le_trans R.chg.size e))
  len := by simp; omega
  cntle := Nat.succ_le_succ R.cntle
  none_ := fun h0 => absurd h0 (Nat.succ_ne_zero _)
end
set_option maxHeartbeats 4000000 in
theorem offerWalk {w : World} {b : Nat} {A : Option Addr} {c : Nat} {s : Intk} (h : Has w b A c s) (l : List Cmd) (A1 : Option Addr) (n1 c1 : Nat) (hl : Reads w w.heap.size 6 A1 n1 (cmdsV l))
    (hd : 0 < n1 → ∀ g, blkOf A1 = some g → g ≠ b ∧ blkOf A ≠ some g) (hn1 : n1 ≤ 9223372036854775807) (hq : s.queue.length ≤ 32) :
    Calls Try.prog 38 #[.pointer (some ⟨b, 0, none⟩), .slice A1 n1 c1] w fun e w' => e = .returned (.int .i64 ((offer s l).2 : Int)) ∧ Chg (fun g => g = b ∨ blkOf A = some g) w w' ∧
      (∃ A' c', Has w' b A' c' (offer s l).1 ∧ ∀ g, blkOf A' = some g → blkOf A = some g ∨ w.heap.size ≤ g) ∧ (offer s l).1.queue.length ≤ 32 ∧ ((offer s l).2 = 0 → (offer s l).1 = s ∧ Below w.heap.size w w') := by
  have hll := hl.cmd_len
  have HL := Lib.hid hll
  clear hll
  have hcr : ∀ W : World, W = w → Calls Try.prog 55 #[.slice A1 n1 c1] W fun e w' => e = .returned (.bool (rowB l)) ∧ Below W.heap.size W w' := fun W e => by subst e; exact cmdRow l _ A1 n1 c1 hl hn1
  cases hrow : rowB l with
  | false =>
    rw [hrow] at hcr
    go_enter Try.func38, Try.ntmps38
    go_wp2_with (go_at_call 55; refine (hcr _ rfl).mono ?_; rintro e w1 ⟨rfl, hb1⟩)
    go_ret
    have e : offer s l = (s, 0) := by unfold offer; rw [hrow]; rfl
    rw [e]
    exact ⟨rfl, Chg.refl.below hb1 (Nat.le_refl _), ⟨A, c, h.below hb1, fun g hg => .inl hg⟩, hq, fun _ => ⟨rfl, hb1⟩⟩
  | true =>
    rw [hrow] at hcr
    have hn8 : n1 ≤ 8 := by rw [← HL.out]; exact (rowB_length hrow).2
    have HR := Lib.hid hrow
    clear hrow
    go_enter Try.func38, Try.ntmps38
    go_wp2_with (go_at_call 55; refine (hcr _ rfl).mono ?_; rintro e w1 ⟨rfl, hb1⟩)
    go_loopw [17, 5] (fun i n wr => ∃ k cnt s' A' c', k ≤ n1 ∧ i = .int .i64 (k : Nat) ∧ n = .int .i64 (cnt : Nat) ∧ OfferRel w b A c s l k cnt wr s' A' c') (fun i _ _ => n1 - (intOf i).toNat)
    case atStart => exact ⟨0, 0, s, A, c, Nat.zero_le _, rfl, rfl, rfl, Chg.refl.below hb1 (Nat.le_refl _), h.below hb1, fun g hg => .inl hg, hq, Nat.le_refl _, fun _ => ⟨rfl, hb1⟩⟩
    case round =>
      obtain ⟨k, cnt, s', A', c', hk, rfl, rfl, R⟩ := hrel
      have has := R.has
      have len := R.len
      have hcnt := R.cntle
      have HC := Lib.hid R.chg
      have HR' := Lib.hid R
      clear R
      by_cases hlt : k < n1
      · obtain ⟨g, off, x, rfl, hg, hx, e0, e1, e2, e3, e4, e5⟩ := (hl.chgF HC.out (Nat.le_refl _) (fun g hg hF => hF.elim (hd (by omega) g hg).1 (hd (by omega) g hg).2)).cmdAt hlt
        have HX := Lib.hid hx
        clear hx
        have hsz := HC.out.size
        have hbb := has.obj.lt
        have hal := (Below.refl wr.heap.size wr).alloc (Nat.le_refl _) (.cells #[.int .u32 (x.number.toNat : Int), .int .i8 x.mx.toInt, .int .i8 x.my.toInt, .bool x.fire, .int .u32 (x.view.toNat : Int), .int .u8 (x.frac.toNat : Int)] 58)
        have o1 := has.below hal
        have HA := Lib.hid hal
        clear hal
        have p0 := o1.obj.c0
        have p1 := o1.obj.c1
        cases hgt : decide (s'.last.toNat < x.number.toNat) with
        | false =>
          go_wp2
          go_quiet (fail)
          go_wp2
          exact ⟨⟨k + 1, cnt, s', A', c', hlt, rfl, rfl, HR'.out.skip HX.out (fun e => of_decide_eq_false hgt e.1) ((HA.out.trans ((Dr.refl _).drewN nq |>.below _)))⟩, show n1 - (k + 1) < n1 - k by omega⟩
        | true =>
          cases hln : decide ((s'.queue.length : Int) < 32) with
          | false =>
            go_wp2
            go_quiet (fail)
            go_wp2
            exact ⟨⟨k + 1, cnt, s', A', c', hlt, rfl, rfl, HR'.out.skip HX.out (fun e => of_decide_eq_false hln (by have := e.2; omega)) ((HA.out.trans ((Dr.refl _).drewN nq |>.below _)))⟩, show n1 - (k + 1) < n1 - k by omega⟩
          | true =>
            have hln' : s'.queue.length < 32 := by have := of_decide_eq_true hln; omega
            have hgt' : s'.last.toNat < x.number.toNat := of_decide_eq_true hgt
            have hrow := o1.row.keep (w' := (wr.alloc (.cells #[.int .u32 (x.number.toNat : Int), .int .i8 x.mx.toInt, .int .i8 x.my.toInt, .bool x.fire, .int .u32 (x.view.toNat : Int), .int .u8 (x.frac.toNat : Int)] 58)).alloc (.cells #[.int .u32 (x.number.toNat : Int), .int .i8 x.mx.toInt, .int .i8 x.my.toInt, .bool x.fire, .int .u32 (x.view.toNat : Int), .int .u8 (x.frac.toNat : Int)] 58)) (fun g hg => Below.heap_alloc _ _ g (by have := o1.row.lt hg; simpa using this))
            have hob := o1.obj.keep (w' := (wr.alloc (.cells #[.int .u32 (x.number.toNat : Int), .int .i8 x.mx.toInt, .int .i8 x.my.toInt, .bool x.fire, .int .u32 (x.view.toNat : Int), .int .u8 (x.frac.toNat : Int)] 58)).alloc (.cells #[.int .u32 (x.number.toNat : Int), .int .i8 x.mx.toInt, .int .i8 x.my.toInt, .bool x.fire, .int .u32 (x.view.toNat : Int), .int .u8 (x.frac.toNat : Int)] 58)) (Below.heap_alloc _ _ b (by have := o1.obj.lt; simpa using this))
            have hnews : Reads ((wr.alloc (.cells #[.int .u32 (x.number.toNat : Int), .int .i8 x.mx.toInt, .int .i8 x.my.toInt, .bool x.fire, .int .u32 (x.view.toNat : Int), .int .u8 (x.frac.toNat : Int)] 58)).alloc (.cells #[.int .u32 (x.number.toNat : Int), .int .i8 x.mx.toInt, .int .i8 x.my.toInt, .bool x.fire, .int .u32 (x.view.toNat : Int), .int .u8 (x.frac.toNat : Int)] 58)) (wr.heap.size + 2) 6 (some ⟨wr.heap.size + 1, 0, none⟩) 1 (cmdV x) := by
              refine Reads.blk (size := 6) (n := 1) (g := wr.heap.size + 1) (by have := heap_alloc_new (wr.alloc (.cells #[.int .u32 (x.number.toNat : Int), .int .i8 x.mx.toInt, .int .i8 x.my.toInt, .bool x.fire, .int .u32 (x.view.toNat : Int), .int .u8 (x.frac.toNat : Int)] 58)) (.cells #[.int .u32 (x.number.toNat : Int), .int .i8 x.mx.toInt, .int .i8 x.my.toInt, .bool x.fire, .int .u32 (x.view.toNat : Int), .int .u8 (x.frac.toNat : Int)] 58); simpa using this) (by omega) rfl
            have hcell : ((wr.alloc (.cells #[.int .u32 (x.number.toNat : Int), .int .i8 x.mx.toInt, .int .i8 x.my.toInt, .bool x.fire, .int .u32 (x.view.toNat : Int), .int .u8 (x.frac.toNat : Int)] 58)).alloc (.cells #[.int .u32 (x.number.toNat : Int), .int .i8 x.mx.toInt, .int .i8 x.my.toInt, .bool x.fire, .int .u32 (x.view.toNat : Int), .int .u8 (x.frac.toNat : Int)] 58)).cell? ⟨wr.heap.size, 0, none⟩ = some (.int .u32 (x.number.toNat : Int)) := by simp
            have HW := Lib.hid hrow
            have HO := Lib.hid hob
            have HV := Lib.hid hnews
            have HE := Lib.hid hcell
            clear hrow hob hnews hcell
            go_wp2
            go_quiet (fail)
            go_wp2
            go_region_law (refine step_row rfl (.tmp 40) (.tmp 42) rfl elt50 A' s'.queue.length c' (cmdsV s'.queue) (by simp [Act.eval, Act.put]) (by exact HW.out) (wr.heap.size + 2) (some ⟨wr.heap.size + 1, 0, none⟩) 1 1 (cmdV x) (by simp [Act.eval, Act.put]) (by exact HV.out) (oneCell_cmd x) (by omega) ?_; intro A2 c2 w2 hr2 hg2 hb2; have ob2 := HO.out.keep (hg2.block b HO.out.lt (Ne.symm o1.apart)); have y1 := ob2.z 1; have q1 := ob2.c1)
            all_goals
              have hsz2 := hg2.size
              have hszl : w.heap.size ≤ wr.heap.size := hsz
              have hA'lt : ∀ g, blkOf A' = some g → g < wr.heap.size := fun g hg => has.row.lt hg
              have v0 : (w2.setCell ⟨b, 1, none⟩ (.slice A2 (s'.queue.length + 1) c2)).cell? ⟨wr.heap.size, 0, none⟩ = some (.int .u32 (x.number.toNat : Int)) := by
                rw [← HE.out]
                refine (World.cell?_of_block (Below.heap_setCell _ _ _ _ (show wr.heap.size ≠ b by omega))).trans (World.cell?_of_block (hg2.block _ (by simp <;> omega) (fun e => Nat.lt_irrefl _ (hA'lt _ e.symm))))
              have t0 := (ob2.s1 (.slice A2 (s'.queue.length + 1) c2)).c0
              have r0 := (ob2.s1 (.slice A2 (s'.queue.length + 1) c2)).z 0
              go_wp2
              have hbA2 : ∀ g, blkOf A2 = some g → blkOf A' = some g ∨ wr.heap.size ≤ g := fun g hg => by
                rcases hb2 with e | e
                · exact .inl (e ▸ hg)
                · right; rw [e] at hg; injection hg with hg; rw [← hg]; simp <;> omega
              have hA2b : blkOf A2 ≠ some b := fun e => by
                rcases hbA2 _ e with h1 | h1
                · exact has.apart h1
                · omega
              refine ⟨⟨k + 1, cnt + 1, ⟨x.number, s'.queue ++ [x], s'.tok⟩, A2, c2, hlt, by go_num, by go_num, HR'.out.step HX.out hgt' hln' (Chg.setCell (Chg.setCell (Chg.grown (F := fun g => g = b ∨ blkOf A' = some g) ((((Chg.refl (w := wr)).alloc _).drewN (nq + 1)).alloc _) hg2 (fun k hk => .inl (.inr hk.symm.symm))) (.inl (.inl rfl)) _) (.inl (.inl rfl)) _) ?_ hbA2⟩, show n1 - (k + 1) < n1 - k by omega⟩
              refine ⟨?_, ?_, hA2b⟩
              · have := (ob2.s1 (.slice A2 (s'.queue.length + 1) c2)).s0 (.int .u32 (x.number.toNat : Int))
                simpa using this
              · have := hr2.keep (w' := (w2.setCell ⟨b, 1, none⟩ (.slice A2 (s'.queue.length + 1) c2)).setCell ⟨b, 0, none⟩ (.int .u32 (x.number.toNat : Int))) (fun g hg => (Below.heap_setCell _ _ _ g (fun e => hA2b (by rw [hg, e]))).trans (Below.heap_setCell _ _ _ g (fun e => hA2b (by rw [hg, e]))))
                simpa [cmdsV_snoc] using this
      · have hkn : k = n1 := by omega
        subst hkn
        go_wp2
        go_ret
        have hfold : offer s l = (s', cnt) := by
          have h1 := HR'.out.fold
          rw [List.take_of_length_le (by have := HL.out; omega)] at h1
          unfold offer; rw [HR.out, h1]; rfl
        rw [hfold]
        exact ⟨rfl, HC.out, ⟨A', c', has, HR'.out.blk⟩, len, HR'.out.none_⟩
end Go.Proofs.Ytplclgkchiaijaa
