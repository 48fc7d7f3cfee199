/- The walk of the reference's Text and Formed. -/
import Derived.Test.YthkgeeonhppliaaMTextP
import Derived.Test.YthkgeeonhppliaaMRead
set_option linter.unusedSimpArgs false
set_option linter.unusedVariables false
namespace Go.Proofs.Ythkgeeonhppliaa
open Go.RowKit
def dimsOk (m : MapV) (s : MapS) : Bool := decide (1 ≤ m.W ∧ m.W ≤ 32 ∧ 1 ≤ m.H ∧ m.H ≤ 32 ∧ (s.n : Int) = m.W * m.H)
set_option maxRecDepth 100000 in
set_option maxHeartbeats 4000000 in
theorem rTextNo (m : MapV) (s : MapS) (w : World) (hno : dimsOk m s = false) (hc : s.n ≤ 100000) :
    Calls Try.prog 83 #[(.agg #[.int .i64 m.W, .int .i64 m.H, .slice s.A s.n s.c, .slice s.A2 s.n2 s.c2])] w fun e w' => e = .returned (.tuple #[.string ⟨#[]⟩, .int .i64 1]) ∧ Below w.heap.size w w' := by
  unfold dimsOk at hno
  rw [decide_eq_false_iff_not] at hno
  by_cases hr : 1 ≤ m.W ∧ m.W ≤ 32 ∧ 1 ≤ m.H ∧ m.H ≤ 32
  · obtain ⟨w1, w2, h1, h2⟩ := hr
    obtain ⟨wh, hwh⟩ : ∃ wh, m.W * m.H = wh := ⟨_, rfl⟩
    have b0 : 0 ≤ wh := by rw [← hwh]; exact Int.mul_nonneg (by omega) (by omega)
    have b1 : wh ≤ 1024 := by
      rw [← hwh]
      exact Int.le_trans (Int.mul_le_mul w2 h2 (by omega) (by omega)) (by decide)
    have hne : ((s.n : Int) != wh) = true := by rw [bne_iff_ne]; intro e; exact hno ⟨w1, w2, h1, h2, by rw [hwh]; exact e⟩
    have HN := Lib.hid hne
    have HNO := Lib.hid hno
    clear hno
    go_enter Try.func83, Try.ntmps83
    go_wp2
    all_goals first | (go_ret2; exact ⟨rfl, (by repeat (first | with_reducible exact Below.refl _ _ | with_reducible assumption | with_reducible refine Below.drew ?_ | with_reducible refine below_drews ?_ _ | with_reducible refine Below.alloc ?_ (by first | omega | (simp; done) | (simp; omega)) _ | with_reducible refine Below.setCell ?_ (by first | omega | (simp; done) | (simp; omega)) _))⟩) | (exfalso; have := HN.out; simp at this; omega)
  · have HR := Lib.hid hr
    clear hno hr
    go_enter Try.func83, Try.ntmps83
    go_wp2
    all_goals first | (go_ret2; exact ⟨rfl, (by repeat (first | with_reducible exact Below.refl _ _ | with_reducible assumption | with_reducible refine Below.drew ?_ | with_reducible refine below_drews ?_ _ | with_reducible refine Below.alloc ?_ (by first | omega | (simp; done) | (simp; omega)) _ | with_reducible refine Below.setCell ?_ (by first | omega | (simp; done) | (simp; omega)) _))⟩) | (exfalso; have := HR.out; omega)
theorem cat_sg (l l' : List Sg) (g : Sg) (b : Array UInt8) (hb : g.bytes.toArray = b) (hl : l' = l ++ [g]) : Value.string ((⟨(sgBytes l).toArray⟩ : ByteArray) ++ (⟨b⟩ : ByteArray)) = .string ⟨(sgBytes l').toArray⟩ := by
  rw [← hb, sg_str, hl]
def TextRet (w : World) (m : MapV) (e : Ending) (w' : World) : Prop := ∃ S : ByteArray, e = .returned (.tuple #[.string S, .int .i64 (if formedB m then 0 else 1)]) ∧ Below w.heap.size w w'
theorem rSame (a b : MapV) (s s' : MapS) (w : World) (h : MapAt w w.heap.size a s) (h' : MapAt w w.heap.size b s') (hn3 : s.n ≤ 100000) (hn4 : s.n2 ≤ 100000) :
    Calls Try.prog 94 #[(.agg #[.int .i64 a.W, .int .i64 a.H, .slice s.A s.n s.c, .slice s.A2 s.n2 s.c2]), (.agg #[.int .i64 b.W, .int .i64 b.H, .slice s'.A s'.n s'.c, .slice s'.A2 s'.n2 s'.c2])] w fun e w' => e = .returned (.bool (sameMap a b)) ∧ Below w.heap.size w w' := by
  by_cases h1 : a.W = b.W
  · by_cases h2 : a.H = b.H
    · by_cases h3 : s.n = s'.n
      · by_cases h4 : s.n2 = s'.n2
        · exact rSameYes a b s s' w h h' h1 h2 h3 h4 hn3 hn4
        · exact rSameNo a b s s' w h h' (.inr (.inr (.inr h4)))
      · exact rSameNo a b s s' w h h' (.inr (.inr (.inl h3)))
    · exact rSameNo a b s s' w h h' (.inr (.inl h2))
  · exact rSameNo a b s s' w h h' (.inl h1)
theorem lineSg_succ (m : MapV) (y x : Nat) : lineSg m y (x + 1) = lineSg m y x ++ [sgOf m (y * m.W.toNat + x)] := by simp [lineSg, List.range_succ]
set_option maxRecDepth 100000 in
set_option maxHeartbeats 16000000 in
theorem rTextYes (m : MapV) (g1 off1 n c : Nat) (A2 : Option Addr) (n2 c2 : Nat) (w : World) (h : MapAt w w.heap.size m ⟨some ⟨g1, off1, none⟩, n, c, A2, n2, c2⟩) (hg1 : g1 < w.heap.size) (hc1 : ∀ j u, (boolsV m.walls)[j]? = some u → w.cell? ⟨g1, off1 + j, none⟩ = some u)
    (w1 : 1 ≤ m.W) (w2 : m.W ≤ 32) (h1 : 1 ≤ m.H) (h2 : m.H ≤ 32) (hlen : (m.walls.length : Int) = m.W * m.H) (hn : n ≤ 100000) (hn2 : n2 ≤ 100000) :
    Calls Try.prog 83 #[.agg #[.int .i64 m.W, .int .i64 m.H, .slice (some ⟨g1, off1, none⟩) n c, .slice A2 n2 c2]] w (TextRet w m) := by
  have hlm := h.len
  simp only at hlm
  have hsp := formedB_told m ⟨w1, w2, h1, h2, hlen⟩
  obtain ⟨wh, hwh⟩ : ∃ wh, m.W * m.H = wh := ⟨_, rfl⟩
  have b0 : 0 ≤ wh := by rw [← hwh]; exact Int.mul_nonneg (by omega) (by omega)
  have b1 : wh ≤ 1024 := by
    rw [← hwh]
    exact Int.le_trans (Int.mul_le_mul w2 h2 (by omega) (by omega)) (by decide)
  have hne : ((n : Int) != wh) = false := by rw [bne_eq_false_iff_eq]; rw [← hwh, ← hlen]; omega
  have d1 : decide (m.W < 1) = false := decide_eq_false (by omega)
  have d2 : decide (32 < m.W) = false := decide_eq_false (by omega)
  have d3 : decide (m.H < 1) = false := decide_eq_false (by omega)
  have d4 : decide (32 < m.H) = false := decide_eq_false (by omega)
  have hmul : m.walls.length = m.H.toNat * m.W.toNat := by
    have : ((m.H.toNat * m.W.toNat : Nat) : Int) = m.W * m.H := by rw [Int.natCast_mul, Int.toNat_of_nonneg (by omega), Int.toNat_of_nonneg (by omega), Int.mul_comm]
    omega
  have hrd := rd_text m (by omega) (by omega) m.H.toNat (by omega) (by omega)
  have HRD := Lib.hid hrd
  have HSP := Lib.hid hsp
  have HM := Lib.hid h
  have HC1 := Lib.hid hc1
  have HLM := Lib.hid hlm
  have HLN := Lib.hid hlen
  have HMUL := Lib.hid hmul
  have BX := Lib.hid (Blk.new w 45 #[.int .i64 m.W, .int .i64 m.H, .slice (some ⟨g1, off1, none⟩) n c, .slice A2 n2 c2])
  have BB := Lib.hid (Below.alloc (Below.refl w.heap.size w) (Nat.le_refl _) (.cells #[.int .i64 m.W, .int .i64 m.H, .slice (some ⟨g1, off1, none⟩) n c, .slice A2 n2 c2] 45))
  clear hrd hsp h hc1 hlm hlen hmul
  go_enter Try.func83, Try.ntmps83
  go_wp2
  have bx := BX.out
  have bb := BB.out
  clear BX BB hne hwh b0 b1
  generalize w.alloc (.cells #[.int .i64 m.W, .int .i64 m.H, .slice (some ⟨g1, off1, none⟩) n c, .slice A2 n2 c2] 45) = wa at bx bb ⊢
  have HBX := Lib.hid bx
  have HBB := Lib.hid bb
  have lwa := bx.lt
  have hsa := bb.size
  clear bx bb
  go_loopw [4, 5] (fun S i wr => ∃ y : Nat, y ≤ m.H.toNat ∧ i = .int .i64 (y : Nat) ∧ S = .string ⟨(sgBytes (textSg m y)).toArray⟩ ∧ Below wa.heap.size wa wr) (fun _ i _ => 40 - (intOf i).toNat)
  case atStart => exact ⟨0, Nat.zero_le _, rfl, rfl, Below.refl _ _⟩
  case round =>
    obtain ⟨y, hy, rfl, rfl, hbr⟩ := hrel
    obtain ⟨wo, hwo⟩ : ∃ wo : World, wo = wr := ⟨_, rfl⟩
    subst hwo
    have hso := hbr.size
    have ob := HBX.out.below hbr lwa
    have p0 : wo.cell? ⟨w.heap.size, 0, none⟩ = some (.int .i64 m.W) := ob.cell 0
    have p1 : wo.cell? ⟨w.heap.size, 1, none⟩ = some (.int .i64 m.H) := ob.cell 1
    have p2 : wo.cell? ⟨w.heap.size, 2, none⟩ = some (.slice (some ⟨g1, off1, none⟩) n c) := ob.cell 2
    have p3 : wo.cell? ⟨w.heap.size, 3, none⟩ = some (.slice A2 n2 c2) := ob.cell 3
    have HBO := Lib.hid hbr
    have HOB := Lib.hid ob
    clear hbr ob
    by_cases hyH : (y : Int) < m.H
    · have ty : decide ((y : Int) < m.H) = true := decide_eq_true hyH
      obtain ⟨r, hr⟩ : ∃ r, y * m.W.toNat = r := ⟨_, rfl⟩
      have hrn : r + m.W.toNat ≤ n := by
        have h3 : (y + 1) * m.W.toNat ≤ m.H.toNat * m.W.toNat := Nat.mul_le_mul_right _ (by omega)
        have h4 := HMUL.out
        have h5 := HLM.out.1
        rw [Nat.add_mul, hr, Nat.one_mul] at h3
        omega
      have hyW : (y : Int) * m.W = (r : Int) := by rw [← hr, Int.natCast_mul, Int.toNat_of_nonneg (by omega)]
      have HR := Lib.hid hr
      obtain ⟨bt0, hbt0⟩ : ∃ bt : ByteArray, (⟨(sgBytes (textSg m y)).toArray⟩ : ByteArray) = bt := ⟨_, rfl⟩
      rw [hbt0]
      have HBT0 := Lib.hid hbt0
      clear hr hbt0
      go_wp2
      clear p0 p1 p2 p3
      go_loopw [4, 6] (fun S i wi => ∃ x : Nat, x ≤ m.W.toNat ∧ i = .int .i64 (x : Nat) ∧ S = .string ⟨(sgBytes (textSg m y ++ lineSg m y x)).toArray⟩ ∧ Below wo.heap.size wo wi) (fun _ i _ => 40 - (intOf i).toNat)
      case atStart => exact ⟨0, Nat.zero_le _, rfl, by rw [← HBT0.out]; simp [lineSg], Below.refl _ _⟩
      case round =>
        obtain ⟨x, hx, rfl, rfl, hbi⟩ := hrel
        have hsi := hbi.size
        have lwo := HOB.out.lt
        have ib := HOB.out.below hbi lwo
        have p0 : wr.cell? ⟨w.heap.size, 0, none⟩ = some (.int .i64 m.W) := ib.cell 0
        have p1 : wr.cell? ⟨w.heap.size, 1, none⟩ = some (.int .i64 m.H) := ib.cell 1
        have p2 : wr.cell? ⟨w.heap.size, 2, none⟩ = some (.slice (some ⟨g1, off1, none⟩) n c) := ib.cell 2
        have p3 : wr.cell? ⟨w.heap.size, 3, none⟩ = some (.slice A2 n2 c2) := ib.cell 3
        have HBI := Lib.hid hbi
        have HBW := Lib.hid (HBB.out.trans ((HBO.out.trans (hbi.mono HBO.out.size)).mono hsa))
        obtain ⟨bt, hbt⟩ : ∃ bt : ByteArray, (⟨(sgBytes (textSg m y ++ lineSg m y x)).toArray⟩ : ByteArray) = bt := ⟨_, rfl⟩
        rw [hbt]
        have hbs : bt.size ≤ 100000 := by
          rw [← hbt, size_of_bytes]
          have e1 := sg_len (textSg m y ++ lineSg m y x)
          have e2 : y * (m.W.toNat + 1) ≤ 32 * 33 := Nat.mul_le_mul (by omega) (by omega)
          rw [List.length_append, textSg_len] at e1
          have e3 : (lineSg m y x).length = x := by simp [lineSg]
          omega
        have HBT := Lib.hid hbt
        clear hbi ib hbt
        have lw3 : w.heap.size < wr.heap.size := by omega
        have lg3 : g1 < wr.heap.size := by omega
        by_cases hxW : (x : Int) < m.W
        · have tx : decide ((x : Int) < m.W) = true := decide_eq_true hxW
          obtain ⟨v, hv⟩ : ∃ v, m.walls[r + x]? = some v := ⟨_, List.getElem?_eq_getElem (by have := HLM.out.1; omega)⟩
          have f1 : wr.cell? ⟨g1, off1 + (r + x), none⟩ = some (.bool v) := (HBW.out.cell (p := ⟨g1, off1 + (r + x), none⟩) hg1).trans (HC1.out _ _ (by simp [boolsV, hv]))
          have hgD : m.walls.getD (y * m.W.toNat + x) true = v := by rw [HR.out, List.getD_eq_getElem?_getD, hv]; rfl
          have HGD := Lib.hid hgD
          clear hv hgD
          cases v with
          | true =>
            have hsg : sgOf m (y * m.W.toNat + x) = .wall := by unfold sgOf; rw [HGD.out]; rfl
            have HSG := Lib.hid hsg
            clear hsg
            go_wp2
            exact ⟨⟨x + 1, by omega, by go_num, by rw [← HBT.out]; exact cat_sg _ _ .wall _ rfl (by rw [lineSg_succ, HSG.out, List.append_assoc]), HBI.out⟩, by simp [intOf]; omega⟩
          | false =>
            have hmid := fun W => rMiddle (x : Int) (y : Int) (by omega) (by omega) (by omega) (by omega) W
            obtain ⟨mv, hmv⟩ : ∃ mv, middle (x : Int) (y : Int) = mv := ⟨_, rfl⟩
            simp only [hmv] at hmid
            obtain ⟨q, hq⟩ : ∃ q, decide (mv ∈ m.spawns) = q := ⟨_, rfl⟩
            have hspw := fun W (hW : Below w.heap.size w W) => rSpawns m ⟨some ⟨g1, off1, none⟩, n, c, A2, n2, c2⟩ mv W ((HM.out.below hW).upto hW.size) hn2
            simp only [hq] at hspw
            have hsg : sgOf m (y * m.W.toNat + x) = if q then .spawn else .floor := by
              unfold sgOf
              rw [HGD.out, mid_at y x (by omega), hmv, if_neg (by decide), ← hq]
              by_cases hm : mv ∈ m.spawns <;> simp [hm]
            have HSG := Lib.hid hsg
            have HMID := Lib.hid hmid
            have HSPW := Lib.hid hspw
            clear hsg hmid hspw hq hmv
            go_upto_region 12 with (fail)
            refine wp_region_kin' wr.heap.size (by kernel_rfl) (by kernel_rfl) (fun kk => ?_)
            repeat (first
              | go_big_quiet_step ((first | (go_at_call 92; exact kin_of (by simp) (HMID.out _)) | (go_at_call 91; exact kin_of (by simp) (HSPW.out _ (HBW.out.trans ((Kin.below _).mono (by omega)))))))
              | quiet_step ((first | (go_at_call 92; exact kin_of (by simp) (HMID.out _)) | (go_at_call 91; exact kin_of (by simp) (HSPW.out _ (HBW.out.trans ((Kin.below _).mono (by omega))))))))
            refine wpQuiet_nil ?_
            rintro wk ⟨⟨wk0, hwk⟩, rfl⟩
            have HWK := Lib.hid (HBI.out.trans (hwk.mono HBI.out.size))
            clear hwk kk
            cases q with
            | true =>
              go_wp2
              exact ⟨⟨x + 1, by omega, by go_num, by rw [← HBT.out]; exact cat_sg _ _ .spawn _ rfl (by rw [lineSg_succ, HSG.out, List.append_assoc]; rfl), HWK.out⟩, by simp [intOf]; omega⟩
            | false =>
              go_wp2
              exact ⟨⟨x + 1, by omega, by go_num, by rw [← HBT.out]; exact cat_sg _ _ .floor _ rfl (by rw [lineSg_succ, HSG.out, List.append_assoc]; rfl), HWK.out⟩, by simp [intOf]; omega⟩
        · have tx : decide ((x : Int) < m.W) = false := decide_eq_false hxW
          have hxe : x = m.W.toNat := by omega
          subst hxe
          go_wp2
          exact ⟨⟨y + 1, by omega, by go_num, by rw [← HBT.out]; exact cat_sg _ _ .nl _ rfl (by rw [textSg, List.append_assoc]), HBO.out.trans (HBI.out.mono hso)⟩, by simp [intOf]; omega⟩
    · have ty : decide ((y : Int) < m.H) = false := decide_eq_false hyH
      have hye : y = m.H.toNat := by omega
      subst hye
      obtain ⟨fin, hfin⟩ : ∃ fin, rdAt m m.H.toNat 0 = fin := ⟨_, rfl⟩
      have hx0 : fin.x = 0 := by rw [← hfin]; rfl
      have hfw : fin.w = m.W.toNat := by rw [← hfin]; unfold rdAt; simp only; rw [if_neg (by omega)]
      have hfh : fin.h = m.H.toNat := by rw [← hfin]; rfl
      have hmul := HMUL.out
      have hfa : fin.walls = m.walls := by rw [← hfin]; unfold rdAt; simp only; rw [Nat.add_zero, ← hmul, List.take_length]
      have hfs : fin.spawns = told m.walls m.W.toNat m.spawns m.walls.length := by rw [← hfin]; unfold rdAt; simp only; rw [Nat.add_zero, ← hmul]
      have hrd := HRD.out
      rw [hfin] at hrd
      have hts := textSg_len m m.H.toNat
      have hle : m.H.toNat * (m.W.toNat + 1) ≤ 32 * 33 := Nat.mul_le_mul (by omega) (by omega)
      have hsl := sg_len (textSg m m.H.toNat)
      have hread := fun W => rRead (textSg m m.H.toNat) fin hrd hx0 (by omega) (by omega) W
      obtain ⟨bt, hbt⟩ : ∃ bt : ByteArray, (⟨(sgBytes (textSg m m.H.toNat)).toArray⟩ : ByteArray) = bt := ⟨_, rfl⟩
      rw [hbt] at hread ⊢
      have HREAD := Lib.hid hread
      have hfm : formedB m = decide (fin.spawns.length ≠ 0 ∧ fin.spawns = m.spawns) := by rw [hfs]; exact HSP.out
      have hfl : fin.spawns.length ≤ 2000 := by
        rw [hfs]
        have := told_len m.walls m.W.toNat m.spawns m.walls.length
        have : m.H.toNat * m.W.toNat ≤ 32 * 32 := Nat.mul_le_mul (by omega) (by omega)
        omega
      have HFM := Lib.hid hfm
      have HFX := Lib.hid (show _ ∧ _ ∧ _ from ⟨hfw, hfh, hfa⟩)
      clear hread hbt hfin hx0 hfw hfh hfa hfs hrd hmul hts hle hsl hfm
      go_wp2_with fail
      refine (HREAD.out _).mono ?_
      rintro e w5 ⟨m', s', pp, rfl, hback, hb5⟩
      have lwo := HOB.out.lt
      have ob5 := HOB.out.below hb5 lwo
      have HB5 := Lib.hid (HBB.out.trans ((HBO.out.trans (hb5.mono HBO.out.size)).mono hsa))
      have hs5 := hb5.size
      have l5 : w.heap.size < w5.heap.size := by omega
      have q0 : w5.cell? ⟨w.heap.size, 0, none⟩ = some (.int .i64 m.W) := ob5.cell 0
      have q1 : w5.cell? ⟨w.heap.size, 1, none⟩ = some (.int .i64 m.H) := ob5.cell 1
      have q2 : w5.cell? ⟨w.heap.size, 2, none⟩ = some (.slice (some ⟨g1, off1, none⟩) n c) := ob5.cell 2
      have q3 : w5.cell? ⟨w.heap.size, 3, none⟩ = some (.slice A2 n2 c2) := ob5.cell 3
      clear p0 p1 p2 p3 hb5 ob5
      by_cases h0 : fin.spawns.length = 0
      · have hf : formedB m = false := by rw [HFM.out]; exact decide_eq_false (fun hh => hh.1 h0)
        rw [if_pos h0]
        have HF := Lib.hid hf
        clear h0 hf hback
        go_wp2
        go_ret2
        exact ⟨_, by rw [HF.out]; rfl, HB5.out.alloc HB5.out.size _⟩
      · obtain ⟨rfl, hmat⟩ := hback h0
        obtain ⟨hfw, hfh, hfa⟩ := HFX.out
        have e1 : (fin.w : Int) = m.W := by omega
        have e2 : (fin.h : Int) = m.H := by omega
        rw [if_neg h0]
        have HS := Lib.hid (fun W (hW : Below w5.heap.size w5 W) => rSame ⟨fin.w, fin.h, fin.walls, fin.spawns⟩ m s' ⟨some ⟨g1, off1, none⟩, n, c, A2, n2, c2⟩ W ((hmat.below hW).upto hW.size) ((HM.out.below (HB5.out.trans (hW.mono HB5.out.size))).upto (Nat.le_trans HB5.out.size hW.size)) (by have := hmat.len.1; simp only at this; have := HLM.out.1; rw [hfa] at *; omega) (by have := hmat.len.2; simp only at this; omega))
        have hq : sameMap ⟨fin.w, fin.h, fin.walls, fin.spawns⟩ m = formedB m := by
          rw [HFM.out]
          unfold sameMap
          rw [e1, e2, hfa]
          simp [h0]
        rw [hq] at HS
        obtain ⟨q, hqq⟩ : ∃ q, formedB m = q := ⟨_, rfl⟩
        rw [hqq] at HS
        have HQ := Lib.hid hqq
        clear h0 hback hmat hfw hfh hfa e1 e2 hq hqq
        go_wp2_with fail
        refine (HS.out _ (Below.alloc (Below.refl _ _) (Nat.le_refl _) _)).mono ?_
        rintro e w6 ⟨rfl, hb6⟩
        have HB6 := Lib.hid ((HB5.out.alloc HB5.out.size _).trans (hb6.mono (by simp; omega)))
        clear hb6
        cases q
        all_goals
          go_wp2
          go_ret2
          exact ⟨_, by rw [HQ.out]; rfl, HB6.out⟩
theorem rText (m : MapV) (s : MapS) (w : World) (h : MapAt w w.heap.size m s) (hn : s.n ≤ 100000) (hn2 : s.n2 ≤ 100000) : Calls Try.prog 83 #[(.agg #[.int .i64 m.W, .int .i64 m.H, .slice s.A s.n s.c, .slice s.A2 s.n2 s.c2])] w (TextRet w m) := by
  have hl := h.len.1
  by_cases hd : 1 ≤ m.W ∧ m.W ≤ 32 ∧ 1 ≤ m.H ∧ m.H ≤ 32 ∧ (m.walls.length : Int) = m.W * m.H
  · obtain ⟨w1, w2, h1, h2, h3⟩ := hd
    have hp : 0 < m.W * m.H := Int.mul_pos (by omega) (by omega)
    obtain ⟨g1, off1, hA, hg1, hc1⟩ := h.walls.flat (by omega) (by decide)
    obtain ⟨A, n, c, A2, n2, c2⟩ := s
    simp only at hA hl hn hn2 ⊢
    subst hA
    exact rTextYes m g1 off1 n c A2 n2 c2 w h hg1 hc1 w1 w2 h1 h2 h3 hn hn2
  · have hf : formedB m = false := by
      unfold formedB sizeOk
      rw [Bool.and_eq_false_iff]
      left
      rw [decide_eq_false_iff_not]
      rintro ⟨a, b, c, d, e, -⟩
      exact hd ⟨a, b, c, d, e⟩
    refine (rTextNo m s w ?_ hn).mono ?_
    · unfold dimsOk
      rw [decide_eq_false_iff_not]
      rintro ⟨a, b, c, d, e⟩
      exact hd ⟨a, b, c, d, by rw [hl]; exact e⟩
    · rintro e w' ⟨rfl, hb⟩
      exact ⟨_, by rw [hf]; rfl, hb⟩
theorem rFormed (m : MapV) (s : MapS) (w : World) (h : MapAt w w.heap.size m s) (hn : s.n ≤ 100000) (hn2 : s.n2 ≤ 100000) : Calls Try.prog 67 #[(.agg #[.int .i64 m.W, .int .i64 m.H, .slice s.A s.n s.c, .slice s.A2 s.n2 s.c2])] w fun e w' => e = .returned (.bool (formedB m)) ∧ Below w.heap.size w w' := by
  have hT := Lib.hid (fun W (hW : Below w.heap.size w W) => rText m s W ((h.below hW).upto hW.size) hn hn2)
  clear h
  go_enter Try.func67, Try.ntmps67
  go_wp2_with fail
  refine (hT.out _ (by repeat (first | with_reducible exact Below.refl _ _ | with_reducible assumption | with_reducible refine Below.drew ?_ | with_reducible refine below_drews ?_ _ | with_reducible refine Below.alloc ?_ (by first | omega | (simp; done) | (simp; omega)) _ | with_reducible refine Below.setCell ?_ (by first | omega | (simp; done) | (simp; omega)) _))).mono ?_
  rintro e w1 ⟨S, rfl, hb1⟩
  have HB := Lib.hid ((Below.alloc (Below.refl _ _) (Nat.le_refl _) _).trans (hb1.mono (by simp)) : Below w.heap.size w w1)
  clear hb1
  obtain ⟨q, hq⟩ : ∃ q, formedB m = q := ⟨_, rfl⟩
  have HQ := Lib.hid hq
  rw [hq]
  clear hq
  cases q
  all_goals
    go_wp2
    go_ret
    exact ⟨ret_bool HQ.out.symm, HB.out⟩
end Go.Proofs.Ythkgeeonhppliaa
