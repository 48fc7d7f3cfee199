/- The walk of the document's Take. -/
import Derived.Test.YtplclgkchiaijaaRefBucket
import Derived.Deep.RegionLaw
set_option linter.unusedSimpArgs false
set_option linter.unusedVariables false
namespace Go.Proofs.Ytplclgkchiaijaa
open Go.RowKit
def rtakes (v : RIntk) (n : Int) : Nat := (min (min n v.tok) ((v.all.length - v.gone : Nat) : Int)).toNat
def rtakeS (v : RIntk) (n : Int) : RIntk := ⟨v.all, v.gone + rtakes v n, v.tok - rtakes v n⟩
section
variable {w w' : World} {b : Nat} {A : Option Addr} {c : Nat} {v : RIntk}
set_option maxHeartbeats 4000000 in
theorem refTake (h : RHas w b A c v) (n : Int) (h0 : 0 ≤ v.tok) (h1 : v.tok ≤ 16) (hg : v.gone ≤ v.all.length) (hn : -9223372036854775808 ≤ n ∧ n ≤ 9223372036854775807) :
    Calls Try.prog 48 #[.pointer (some ⟨b, 0, none⟩), .int .i64 n] w fun e w' => ∃ A1 c1, e = .returned (.slice A1 (rtakes v n) c1) ∧ Row w' 58 6 A1 (rtakes v n) c1 (cmdsV ((v.all.drop v.gone).take (rtakes v n))) ∧
      (∀ g, blkOf A1 = some g → w.heap.size ≤ g) ∧ Chg (fun g => g = b) w w' ∧ RHas w' b A c (rtakeS v n) := by
  obtain ⟨all, gone, tok⟩ := v
  have h0 : 0 ≤ tok := h0
  have h1 : tok ≤ 16 := h1
  have hg : gone ≤ all.length := hg
  have hallm : all.length ≤ 9223372036854775807 := by
    have h5 : all.length ≤ c := h.row.2.1
    have h6 : c ≤ maxLen := h.row.2.2.1
    unfold maxLen at h6; omega
  obtain ⟨t, ht⟩ : ∃ t, rtakes ⟨all, gone, tok⟩ n = t := ⟨_, rfl⟩
  have htt : t = (min (min n tok) ((all.length - gone : Nat) : Int)).toNat := ht.symm
  have hS : rtakeS ⟨all, gone, tok⟩ n = ⟨all, gone + t, tok - t⟩ := by unfold rtakeS; rw [ht]
  rw [hS, ht]
  clear hS ht
  have HT := Lib.hid htt
  clear htt
  have hblt := h.obj.lt
  go_enter Try.func48, Try.ntmps48
  go_wp2
  go_loopw [5] (fun i wr => ∃ (j : Nat) (A1 : Option Addr) (c1 : Nat), i = .slice A1 j c1 ∧ j ≤ t ∧ Row wr 58 6 A1 j c1 (cmdsV ((all.drop gone).take j)) ∧ (∀ g, blkOf A1 = some g → w.heap.size ≤ g) ∧ Chg (fun g => g = b) w wr ∧ RHas wr b A c ⟨all, gone + j, tok - j⟩) (fun i _ => 20 - (match i with | .slice _ j _ => j | _ => 0))
  case atStart => exact ⟨0, none, 0, rfl, Nat.zero_le _, by simpa [cmdsV] using Row.nil_, by simp [blkOf], Chg.refl, by simpa using h⟩
  case round =>
    obtain ⟨j, A1, c1, rfl, hj, hr, hf, hc, hh⟩ := hrel
    obtain ⟨p, hp⟩ : ∃ p, gone + j = p := ⟨_, rfl⟩
    rw [hp] at hh
    have f0 := hh.obj.c0
    have f1 := hh.obj.c1
    have f2 := hh.obj.c2
    have HR := Lib.hid hr
    have HF := Lib.hid hf
    have HC := Lib.hid hc
    have HH := Lib.hid hh
    clear hr hf hc hh
    have HP := Lib.hid hp
    cases d1 : decide ((j : Int) < n) with
    | false =>
      go_wp2
      go_quiet (fail)
      go_wp2
      go_ret
      obtain rfl : j = t := by
        have := HT.out
        have := of_decide_eq_false d1
        omega
      exact ⟨A1, c1, rfl, HR.out.keep (fun g hg => rfl), HF.out, HC.out.drewN nq, by rw [hp]; exact HH.out.keep rfl (fun g hg => rfl)⟩
    | true =>
      cases d2 : decide ((j : Int) < tok) with
      | false =>
        go_wp2
        go_quiet (fail)
        go_wp2
        go_ret
        obtain rfl : j = t := by
          have := HT.out
          have := of_decide_eq_false d2
          omega
        exact ⟨A1, c1, rfl, HR.out.keep (fun g hg => rfl), HF.out, HC.out.drewN nq, by rw [hp]; exact HH.out.keep rfl (fun g hg => rfl)⟩
      | true =>
        cases d3 : decide (p < all.length) with
        | false =>
          go_wp2
          go_quiet (fail)
          go_wp2
          go_ret
          obtain rfl : j = t := by
            have := HT.out
            have := of_decide_eq_false d3
            omega
          exact ⟨A1, c1, rfl, HR.out.keep (fun g hg => rfl), HF.out, HC.out.drewN nq, by rw [hp]; exact HH.out.keep rfl (fun g hg => rfl)⟩
        | true =>
          have hlt : p < all.length := of_decide_eq_true d3
          obtain ⟨g, off, x, rfl, hgx, hx, x0, x1, x2, x3, x4, x5⟩ := (HH.out.row.reads (by decide)).cmdAt (k := p) hlt
          have hsn : (all.drop gone).take (j + 1) = (all.drop gone).take j ++ [x] := take_snoc _ j x (by rw [List.getElem?_drop, hp]; exact hx)
          have HS := Lib.hid hsn
          have hj16 : j < 16 := by have := of_decide_eq_true d2; omega
          have hal := (Below.refl wr.heap.size wr).alloc (Nat.le_refl _) (.cells #[.int .u32 (x.number.toNat : Int), .int .i8 x.mx.toInt, .int .i8 x.my.toInt, .bool x.fire, .int .u32 (x.view.toNat : Int), .int .u8 (x.frac.toNat : Int)] 58)
          have hrow := HR.out.keep (w' := wr.alloc (.cells #[.int .u32 (x.number.toNat : Int), .int .i8 x.mx.toInt, .int .i8 x.my.toInt, .bool x.fire, .int .u32 (x.view.toNat : Int), .int .u8 (x.frac.toNat : Int)] 58)) (fun g hg => hal.block g (HR.out.lt hg))
          have hnews : Reads (wr.alloc (.cells #[.int .u32 (x.number.toNat : Int), .int .i8 x.mx.toInt, .int .i8 x.my.toInt, .bool x.fire, .int .u32 (x.view.toNat : Int), .int .u8 (x.frac.toNat : Int)] 58)) (wr.heap.size + 1) 6 (some ⟨wr.heap.size, 0, none⟩) 1 (cmdV x) := Reads.blk (size := 6) (n := 1) (g := wr.heap.size) (heap_alloc_new wr (.cells #[.int .u32 (x.number.toNat : Int), .int .i8 x.mx.toInt, .int .i8 x.my.toInt, .bool x.fire, .int .u32 (x.view.toNat : Int), .int .u8 (x.frac.toNat : Int)] 58)) (by omega) rfl
          have HW := Lib.hid hrow
          have HV := Lib.hid hnews
          have HAL := Lib.hid hal
          clear hsn hx hal hrow hnews
          go_wp2
          go_quiet (fail)
          go_wp2
          go_region_law (refine step_row rfl (.tmp 29) (.tmp 40) rfl elt50 A1 j c1 (cmdsV ((all.drop gone).take j)) (by simp [Act.eval, Act.put]) (by exact HW.out) (wr.heap.size + 1) (some ⟨wr.heap.size, 0, none⟩) 1 1 (cmdV x) (by simp [Act.eval, Act.put]) (by exact HV.out) (oneCell_cmd x) (by omega) ?_; intro A2 c2 w2 hr2 hg2 hb2)
          all_goals
            have hlt2 := HC.out.size
            have hh2 : RHas w2 b _ c ⟨all, p, tok - j⟩ := (HH.out.below HAL.out).keep (hg2.block b (by simp <;> omega) (fun e => by have := HF.out b e.symm; omega)) (fun g' hg' => hg2.block g' (by have := HH.out.row.lt hg'; simp <;> omega) (fun e => by have := HF.out g' e.symm; have := h.row.lt hg'; omega))
            have f1' := hh2.obj.c1
            have z1' := hh2.obj.z 1
            have f2' := (hh2.obj.s1 (.int .i64 ((p : Int) + 1))).c2
            have z2' := (hh2.obj.s1 (.int .i64 ((p : Int) + 1))).z 2
            go_wp2
            have hset : ∀ g' : Nat, g' ≠ b → ((w2.setCell ⟨b, 1, none⟩ (.int .i64 ((p : Int) + 1))).setCell ⟨b, 2, none⟩ (.int .i64 (tok - (j : Int) - 1))).heap[g']? = w2.heap[g']? := fun g' hg' => (Below.heap_setCell _ _ _ g' hg').trans (Below.heap_setCell _ _ _ g' hg')
            have hfA2 : ∀ g', blkOf A2 = some g' → w.heap.size ≤ g' := fun g' hg' => by
              rcases hb2 with e | e
              · exact HF.out g' (e ▸ hg')
              · rw [e] at hg'; injection hg' with hg'; rw [← hg']; simp <;> omega
            refine ⟨⟨j + 1, A2, c2, rfl, ?_, ?_, hfA2, ?_, ?_⟩, ?_⟩
            · have := HT.out
              have := of_decide_eq_true d1
              have := of_decide_eq_true d2
              omega
            · rw [HS.out, cmdsV_snoc]
              exact hr2.keep (fun g' hg' => hset g' (by have := hfA2 g' hg'; omega))
            · exact Chg.setCell (Chg.setCell (Chg.grown ((HC.out.drewN (nq + 1)).alloc _) hg2 (fun k hk => .inr (HF.out k hk))) (.inl rfl) _) (.inl rfl) _
            · have e1 : gone + (j + 1) = p + 1 := by omega
              have e2 : tok - ((j + 1 : Nat) : Int) = tok - (j : Int) - 1 := by omega
              rw [e1, e2]
              refine ⟨?_, hh2.row.keep (fun g' hg' => hset g' (fun e => hh2.apart (by rw [hg', e]))), hh2.apart⟩
              have := (hh2.obj.s1 (.int .i64 ((p : Int) + 1))).s2 (.int .i64 (tok - (j : Int) - 1))
              simpa using this
            · show 20 - (j + 1) < 20 - j
              omega
end
end Go.Proofs.Ytplclgkchiaijaa
