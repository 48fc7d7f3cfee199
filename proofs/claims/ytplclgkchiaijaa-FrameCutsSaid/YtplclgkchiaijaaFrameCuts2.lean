/- The walk of the law FrameCuts, the other way. -/
import Derived.Test.YtplclgkchiaijaaFrameCuts
namespace Go.Proofs.Ytplclgkchiaijaa
open Go.RowKit
set_option maxHeartbeats 4000000 in
theorem lawFrameCutsOther (key : BitVec 32) (p m : List UInt8) (w : World) (A A' : Option Addr) (n n' c c' : Nat) (h : Reads w w.heap.size 1 A n (bytesV p)) (hn : n ≤ 9223372036854775807)
    (h' : Reads w w.heap.size 1 A' n' (bytesV m)) (h1 : n ≤ 1300) (h2 : n' ≠ 0) (h3 : n' ≤ 60) (hq : num4 (frameSum key p) ≠ num4 (frameSum key (p ++ m))) :
    Calls Try.prog 14 #[u32V key, .slice A n c, .slice A' n' c'] w fun e w' => e = .returned (.bool true) ∧ Below w.heap.size w w' := by
  have hl := bytes_len h
  have hl' := bytes_len h'
  have ew : wrapF key p = (num4 (frameSum key p) ++ p, 0) := by unfold wrapF; rw [if_pos (by omega)]
  have ew2 : wrapF key (p ++ m) = (num4 (frameSum key (p ++ m)) ++ (p ++ m), 0) := by unfold wrapF; rw [if_pos (by simp; omega)]
  have ec : openF key (num4 (frameSum key p) ++ p ++ m) = ([], 5) := by rw [cuts key p m (by omega), if_neg hq]
  have d1 : decide ((1300 : Int) < (n : Int)) = false := decide_eq_false (by omega)
  have d2 : ((n' : Int) == 0) = false := beq_eq_false_iff_ne.2 (by omega)
  have d3 : decide ((60 : Int) < (n' : Int)) = false := decide_eq_false (by omega)
  have EW := Lib.hid ew
  have EW2 := Lib.hid ew2
  have EC := Lib.hid ec
  have HQ := Lib.hid hq
  have HL := Lib.hid hl
  have HL' := Lib.hid hl'
  clear ew ew2 ec hl hl' hq
  unfold u32V
  go_enter Try.func14, Try.ntmps14
  go_wp2_with fail
  refine (frameAwake _).mono ?_
  rintro e w1 ⟨rfl, hb1⟩
  have s1 := hb1.size
  go_wp2_with fail
  refine (frame_wrap key p _ A n c ((h.below hb1).more s1) hn).mono ?_
  rintro e w2 ⟨v2, n2, rfl, ho2, hb2⟩
  rw [EW.out] at ho2 ⊢
  have b2 := hb1.trans (hb2.mono s1)
  have s2 := b2.size
  obtain ⟨A2, c2, rfl, r2⟩ := Reads.owned ho2
  clear ho2
  have L2 : Hid (n2 = 4 + n) := by have := bytes_len r2; have := HL.out; simp [num4_length'] at *; show _ = _; omega
  have n2le : n2 ≤ 2000 := by have := L2.out; omega
  have n24 : 4 ≤ n2 := by have := L2.out; omega
  go_wp2_with (first
    | (at_builtin; refine wpList_app _ rfl (.tmp 41) (.tmp 42) 29 rfl elt29 w2.heap.size (.slice none 0 0) 0 [] rfl (World.ownsRow_nil _ _ _ _) w2.heap.size A2 n2 c2 (bytesV (num4 (frameSum key p) ++ p)) rfl r2 (oneCell_bytes _) (by omega) (Nat.le_refl _) ?_; intro v3 w3 ho3 hg3 hb3'; have hb3 := below_own (Below.refl w2.heap.size w2) (World.ownsRow_nil w2 w2.heap.size 5 1) hg3 (Nat.le_refl _) (Nat.le_refl _); have b3 := b2.trans (hb3.mono s2); have s3 := b3.size; have t3 := hb3.size; have ho3' := own_zero ho3; clear ho3; have r3 := ((h'.below b3).more s3))
    | (at_builtin; refine wpList_app _ rfl (.tmp 44) (.tmp 45) 29 rfl elt29 w2.heap.size v3 n2 _ rfl ho3' w3.heap.size A' n' c' (bytesV m) rfl r3 (oneCell_bytes _) (by omega) t3 ?_; intro v4 w4 ho4 hg4 hb4'; have hb4 := below_own (Below.refl w2.heap.size w3) ho3' hg4 t3 (Nat.le_refl _); have b4 := b3.trans (hb4.mono s2); have s4 := b4.size; have t4 := hb4.size; have ho4' := own_app ho4; clear ho4))
  obtain ⟨A4, c4, rfl, r4⟩ := Reads.owned ho4'
  have hc4 : n2 + n' ≤ c4 := by
    rcases ho4'.2 with ⟨hv, _⟩ | ⟨g, cap, cur, hv, _, _, hc, _⟩
    · simp at hv; omega
    · simp at hv; omega
  clear ho3' ho4' hg3 hg4 hb3' hb4'
  go_wp2_with fail
  refine (frame_open key _ _ A4 (n2 + n') c4 r4 (by omega) hc4).mono ?_
  rintro e w5 ⟨v5, n5, rfl, ho5, hb5⟩
  rw [EC.out] at ho5 ⊢
  have b5 := b4.trans (hb5.mono s4)
  have s5 := b5.size
  obtain ⟨A5, c5, rfl, r5⟩ := Reads.owned ho5
  clear ho5
  have L5 := bytes_len r5
  have L5' : Hid (n5 = 0) := by have := HL.out; have := HL'.out; simp at L5; show _ = _; omega
  clear L5
  clear r5 r4
  have oz : (w5.alloc (.cells #[] 5)).ownsRow w5.heap.size 5 1 (.slice (some ⟨w5.heap.size, 0, none⟩) 0 0) 0 [] := World.ownsRow_lit (e := 5) (size := 1) w5 #[] 0 (Nat.le_refl _) (by unfold maxLen; omega) rfl
  have rz := ((h.below b5).more s5).alloc (Nat.le_refl _) (.cells #[] 5)
  have bz : Below w5.heap.size w5 (w5.alloc (.cells #[] 5)) := (Below.refl _ _).alloc (Nat.le_refl _) _
  go_wp2_with (first
    | (at_builtin; refine wpList_app _ rfl (.tmp 55) (.tmp 56) 29 rfl elt29 w5.heap.size (.slice (some ⟨w5.heap.size, 0, none⟩) 0 0) 0 [] rfl oz w5.heap.size A n c (bytesV p) rfl rz (oneCell_bytes _) (by omega) (by simp) ?_; intro v6 w6 ho6 hg6 hb6'; have hb6 := below_own bz oz hg6 (by simp) (Nat.le_refl _); have b6 := b5.trans (hb6.mono s5); have s6 := b6.size; have t6 := hb6.size; have ho6' := own_zero ho6; clear ho6; have r6 := ((h'.below b6).more s6))
    | (at_builtin; refine wpList_app _ rfl (.tmp 57) (.tmp 58) 29 rfl elt29 w5.heap.size v6 n _ rfl ho6' w6.heap.size A' n' c' (bytesV m) rfl r6 (oneCell_bytes _) (by omega) t6 ?_; intro v7 w7 ho7 hg7 hb7'; have hb7 := below_own hb6 ho6' hg7 t6 (Nat.le_refl _); have b7 := b5.trans (hb7.mono s5); have s7 := b7.size; have t7 := hb7.size; have ho7' := own_app ho7; clear ho7))
  obtain ⟨A7, c7, rfl, r7⟩ := Reads.owned ho7'
  clear ho6' ho7' hg6 hg7 hb6' hb7' oz rz bz
  go_wp2_with fail
  refine (ref_wrap key (p ++ m) _ A7 (n + n') c7 r7 (by omega)).mono ?_
  rintro e w8 ⟨v8, n8, rfl, ho8, hb8⟩
  rw [EW2.out] at ho8 ⊢
  have b8 := b7.trans (hb8.mono s7)
  have s8 := b8.size
  obtain ⟨A8, c8, rfl, r8⟩ := Reads.owned ho8
  clear ho8
  have L8 : Hid (n8 = 4 + n + n') := by have := bytes_len r8; have := HL.out; have := HL'.out; simp [num4_length'] at *; show _ = _; omega
  have n84 : 4 ≤ n8 := by have := L8.out; omega
  have t5 := hb5.size
  have r2' := ((((r2.below hb3).below hb4).below (hb5.mono (by omega))).below (hb7.mono (by omega))).below (hb8.mono (by omega))
  obtain ⟨g8, o8, x0, x1, x2, x3, m8, rfl, e8, c80, c81, c82, c83⟩ := r8.at4 n84
  obtain ⟨g2, o2, y0, y1, y2, y3, m2, rfl, e2, c20, c21, c22, c23⟩ := r2'.at4 n24
  have j8 : 0 < n8 := by omega
  have j81 : 1 < n8 := by omega
  have j82 : 2 < n8 := by omega
  have j83 : 3 < n8 := by omega
  have j2 : 0 < n2 := by omega
  have j21 : 1 < n2 := by omega
  have j22 : 2 < n2 := by omega
  have j23 : 3 < n2 := by omega
  have ex : x0 = byteAt (frameSum key (p ++ m)) 0 ∧ x1 = byteAt (frameSum key (p ++ m)) 1 ∧ x2 = byteAt (frameSum key (p ++ m)) 2 ∧ x3 = byteAt (frameSum key (p ++ m)) 3 := by
    simp only [num4, List.cons_append, List.nil_append, List.cons.injEq] at e8
    exact ⟨e8.1.symm, e8.2.1.symm, e8.2.2.1.symm, e8.2.2.2.1.symm⟩
  have ey : y0 = byteAt (frameSum key p) 0 ∧ y1 = byteAt (frameSum key p) 1 ∧ y2 = byteAt (frameSum key p) 2 ∧ y3 = byteAt (frameSum key p) 3 := by
    simp only [num4, List.cons_append, List.nil_append, List.cons.injEq] at e2
    exact ⟨e2.1.symm, e2.2.1.symm, e2.2.2.1.symm, e2.2.2.2.1.symm⟩
  unfold byteV at c80 c81 c82 c83 c20 c21 c22 c23
  have q0 := byte_eqb x0 y0
  have q1 := byte_eqb x1 y1
  have q2 := byte_eqb x2 y2
  have q3 := byte_eqb x3 y3
  clear e8 e2 r2 r2' r8
  have hnum : (n : Int) + (n' : Int) ≤ 9223372036854775807 := by omega
  have hx := num4_parts _ _ HQ.out
  obtain ⟨ex0, ex1, ex2, ex3⟩ := ex
  obtain ⟨ey0, ey1, ey2, ey3⟩ := ey
  rw [← ex0, ← ex1, ← ex2, ← ex3, ← ey0, ← ey1, ← ey2, ← ey3] at hx
  clear ex0 ex1 ex2 ex3 ey0 ey1 ey2 ey3
  rcases hx with h0 | ⟨h0, h1⟩ | ⟨h0, h1, h2⟩ | ⟨h0, h1, h2, h3⟩
  · rw [decide_eq_false h0] at q0
    clear h0 q1 q2 q3
    go_wp2
    go_quiet (fail)
    go_wp2
    go_ret
    exact ⟨rfl, below_drews b8 _⟩
  · rw [decide_eq_true h0] at q0
    rw [decide_eq_false h1] at q1
    clear h0 h1 q2 q3
    go_wp2
    go_quiet (fail)
    go_wp2
    go_ret
    exact ⟨rfl, below_drews b8 _⟩
  · rw [decide_eq_true h0] at q0
    rw [decide_eq_true h1] at q1
    rw [decide_eq_false h2] at q2
    clear h0 h1 h2 q3
    go_wp2
    go_quiet (fail)
    go_wp2
    go_ret
    exact ⟨rfl, below_drews b8 _⟩
  · rw [decide_eq_true h0] at q0
    rw [decide_eq_true h1] at q1
    rw [decide_eq_true h2] at q2
    rw [decide_eq_false h3] at q3
    clear h0 h1 h2 h3 
    go_wp2
    go_quiet (fail)
    go_wp2
    go_ret
    exact ⟨rfl, below_drews b8 _⟩
set_option maxHeartbeats 1000000 in
theorem lawFrameCutsNo (key : BitVec 32) (w : World) (A A' : Option Addr) (n n' c c' : Nat) (hn : n ≤ 9223372036854775807) (hn' : n' ≤ 9223372036854775807) (H : ¬ (n ≤ 1300 ∧ n' ≠ 0 ∧ n' ≤ 60)) :
    Calls Try.prog 14 #[u32V key, .slice A n c, .slice A' n' c'] w fun e w' => e = .returned (.bool true) ∧ Below w.heap.size w w' := by
  have hcase : (decide ((1300 : Int) < (n : Int)) = true) ∨ (decide ((1300 : Int) < (n : Int)) = false ∧ ((n' : Int) == 0) = true) ∨ (decide ((1300 : Int) < (n : Int)) = false ∧ ((n' : Int) == 0) = false ∧ decide ((60 : Int) < (n' : Int)) = true) := by
    by_cases h1 : n ≤ 1300
    · by_cases h2 : n' = 0
      · exact .inr (.inl ⟨decide_eq_false (by omega), beq_iff_eq.2 (by omega)⟩)
      · exact .inr (.inr ⟨decide_eq_false (by omega), beq_eq_false_iff_ne.2 (by omega), decide_eq_true (by omega)⟩)
    · exact .inl (decide_eq_true (by omega))
  clear H
  unfold u32V
  rcases hcase with h1 | ⟨h1, h2⟩ | ⟨h1, h2, h3⟩
  · go_enter Try.func14, Try.ntmps14
    go_wp2_with fail
    refine (frameAwake _).mono ?_
    rintro e w1 ⟨rfl, hb1⟩
    go_wp2_with fail
    refine (frameAwake _).mono ?_
    rintro e w2 ⟨rfl, hb2⟩
    go_wp2
    go_ret
    exact ⟨rfl, hb1.trans (hb2.mono hb1.size)⟩
  · go_enter Try.func14, Try.ntmps14
    go_wp2_with fail
    refine (frameAwake _).mono ?_
    rintro e w1 ⟨rfl, hb1⟩
    go_wp2_with fail
    refine (frameAwake _).mono ?_
    rintro e w2 ⟨rfl, hb2⟩
    go_wp2
    go_ret
    exact ⟨rfl, hb1.trans (hb2.mono hb1.size)⟩
  · go_enter Try.func14, Try.ntmps14
    go_wp2_with fail
    refine (frameAwake _).mono ?_
    rintro e w1 ⟨rfl, hb1⟩
    go_wp2_with fail
    refine (frameAwake _).mono ?_
    rintro e w2 ⟨rfl, hb2⟩
    go_wp2
    go_ret
    exact ⟨rfl, hb1.trans (hb2.mono hb1.size)⟩
theorem lawFrameCuts (key : BitVec 32) (p m : List UInt8) (w : World) (A A' : Option Addr) (n n' c c' : Nat) (h : Reads w w.heap.size 1 A n (bytesV p)) (hn : n ≤ 9223372036854775807)
    (h' : Reads w w.heap.size 1 A' n' (bytesV m)) (hn' : n' ≤ 9223372036854775807) :
    Calls Try.prog 14 #[u32V key, .slice A n c, .slice A' n' c'] w fun e w' => e = .returned (.bool true) ∧ Below w.heap.size w w' := by
  by_cases H : n ≤ 1300 ∧ n' ≠ 0 ∧ n' ≤ 60
  · by_cases hq : num4 (frameSum key p) = num4 (frameSum key (p ++ m))
    · exact lawFrameCutsSame key p m w A A' n n' c c' h hn h' H.1 H.2.1 H.2.2 hq
    · exact lawFrameCutsOther key p m w A A' n n' c c' h hn h' H.1 H.2.1 H.2.2 hq
  · exact lawFrameCutsNo key w A A' n n' c c' hn hn' H
end Go.Proofs.Ytplclgkchiaijaa
