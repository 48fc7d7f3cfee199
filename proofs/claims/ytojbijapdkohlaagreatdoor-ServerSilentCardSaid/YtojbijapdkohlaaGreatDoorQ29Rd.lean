/- Bits read out of bytes: the plain part of layer 6's reader. Layer 6: the reader of bits. -/
import Derived.Test.YtojbijapdkohlaaGreatDoorQ24Chan
import Derived.BigQuiet
import Derived.Deep.QuietTactic
set_option linter.unusedSimpArgs false
set_option linter.unusedVariables false
namespace Go.Proofs.YtojbijapdkohlaaGreatDoor
def bitB (bs : List Nat) (i : Nat) : Bool := bs.getD (i / 8) 0 / 2 ^ (i % 8) % 2 == 1
def unpackB (bs : List Nat) : List Bool := (List.range (8 * bs.length)).map (bitB bs)
theorem unpackB_length (bs : List Nat) : (unpackB bs).length = 8 * bs.length := by simp [unpackB]
theorem unpackB_get (bs : List Nat) (i : Nat) (h : i < 8 * bs.length) : (unpackB bs)[i]? = some (bitB bs i) := by simp [unpackB, h]
def numB : List Bool → Nat
  | [] => 0
  | b :: l => b.toNat + 2 * numB l
theorem numB_snoc (l : List Bool) (b : Bool) : numB (l ++ [b]) = numB l + b.toNat * 2 ^ l.length := by
  induction l with
  | nil => simp [numB]
  | cons a l ih =>
    show a.toNat + 2 * numB (l ++ [b]) = a.toNat + 2 * numB l + b.toNat * 2 ^ (l.length + 1)
    rw [ih, Nat.pow_succ, ← Nat.mul_assoc b.toNat]
    generalize b.toNat * 2 ^ l.length = z
    omega
theorem numB_lt (l : List Bool) : numB l < 2 ^ l.length := by
  induction l with
  | nil => simp [numB]
  | cons a l ih =>
    show a.toNat + 2 * numB l < 2 ^ (l.length + 1)
    rw [Nat.pow_succ]
    have : a.toNat ≤ 1 := by cases a <;> decide
    omega
/-- What a reader holds: bytes, where it is, whether it failed. -/
structure RdV where
  bs : List Nat
  at_ : Nat
  fail : Bool
def RdV.rest (r : RdV) : List Bool := (unpackB r.bs).drop r.at_
/-- So many bits taken. -/
def RdV.take (r : RdV) (n : Nat) : Nat × RdV :=
  if r.fail = true ∨ 8 * r.bs.length < r.at_ + n then (0, { r with fail := true }) else (numB (r.rest.take n), { r with at_ := r.at_ + n })
def RdV.ok (r : RdV) : Prop := r.at_ ≤ 8 * r.bs.length ∧ r.bs.length ≤ 5000 ∧ ∀ x ∈ r.bs, x < 256
theorem RdV.take_ok {r : RdV} (h : r.ok) (n : Nat) : (r.take n).2.ok := by
  unfold RdV.take
  split
  · exact h
  · rename_i hn
    refine ⟨?_, h.2⟩
    show r.at_ + n ≤ 8 * r.bs.length
    have : ¬ 8 * r.bs.length < r.at_ + n := fun hh => hn (.inr hh)
    omega
theorem RdV.take_lt (r : RdV) (n : Nat) : (r.take n).1 < 2 ^ n := by
  unfold RdV.take
  split
  · exact Nat.two_pow_pos n
  · have h1 := numB_lt (r.rest.take n)
    have h2 : (r.rest.take n).length ≤ n := by rw [List.length_take]; exact Nat.min_le_left _ _
    exact Nat.lt_of_lt_of_le h1 (Nat.pow_le_pow_right (by decide) h2)
theorem RdV.take_bs (r : RdV) (n : Nat) : (r.take n).2.bs = r.bs := by
  unfold RdV.take
  split <;> rfl
/-- All was read. -/
def RdV.done (r : RdV) : Bool := !r.fail && decide (8 * r.bs.length < r.at_ + 8) && (r.rest.all fun b => !b)
theorem rest_take_snoc (r : RdV) (k : Nat) (h : r.at_ + k < 8 * r.bs.length) : r.rest.take (k + 1) = r.rest.take k ++ [bitB r.bs (r.at_ + k)] := by
  have hl : r.rest.length = 8 * r.bs.length - r.at_ := by unfold RdV.rest; rw [List.length_drop, unpackB_length]
  have hk : k < r.rest.length := by omega
  rw [List.take_succ_eq_append_getElem hk]
  congr 2
  have h1 : r.rest[k]? = some (bitB r.bs (r.at_ + k)) := by
    unfold RdV.rest
    rw [List.getElem?_drop, unpackB_get _ _ h]
  exact (List.getElem?_eq_some_iff.1 h1).2
theorem rest_take_length (r : RdV) (k : Nat) (h : r.at_ + k ≤ 8 * r.bs.length) : (r.rest.take k).length = k := by
  have hl : r.rest.length = 8 * r.bs.length - r.at_ := by unfold RdV.rest; rw [List.length_drop, unpackB_length]
  rw [List.length_take]
  omega
theorem num_step (r : RdV) (k : Nat) (h : r.at_ + k < 8 * r.bs.length) : numB (r.rest.take (k + 1)) = numB (r.rest.take k) + (bitB r.bs (r.at_ + k)).toNat * 2 ^ k := by
  rw [rest_take_snoc r k h, numB_snoc, rest_take_length r k (by omega)]
end Go.Proofs.YtojbijapdkohlaaGreatDoor
set_option linter.unusedSimpArgs false
set_option linter.unusedVariables false
namespace Go.Proofs.YtojbijapdkohlaaGreatDoor
open Go.RowKit
/-- A reader that lies at g. -/
structure RdAt (w : World) (g : Nat) (r : RdV) : Prop where
  n : ∃ A c, Blk w g 289 #[.slice A r.bs.length c, .int .i64 (r.at_ : Nat), .bool r.fail] ∧ Row w 5 1 A r.bs.length c (natsV r.bs)
  ok : r.ok
theorem RdAt.below {w w' : World} {g B : Nat} {r : RdV} (h : RdAt w g r) (hb : Below B w w') (hB : w.heap.size ≤ B) : RdAt w' g r := by
  obtain ⟨A, c, h1, h2⟩ := h.n
  exact ⟨⟨A, c, (hb.block g (Nat.lt_of_lt_of_le h1.lt hB)).trans h1, h2.keep (fun q hq => hb.block q (Nat.lt_of_lt_of_le (h2.lt hq) hB))⟩, h.ok⟩
theorem RdAt.lt {w : World} {g : Nat} {r : RdV} (h : RdAt w g r) : g < w.heap.size := by
  obtain ⟨A, c, h1, h2⟩ := h.n
  exact h1.lt
set_option maxRecDepth 100000 in
set_option maxHeartbeats 4000000 in
theorem rdLeft (r : RdV) (g : Nat) (w : World) (h : RdAt w g r) : Calls Tryz.prog 175 #[.pointer (some ⟨g, 0, none⟩)] w fun e w' => e = .returned (.int .i64 ((8 * r.bs.length : Nat) - (r.at_ : Int))) ∧ Dr w w' := by
  obtain ⟨A, c, hb, hr⟩ := h.n
  obtain ⟨h1, h2, h3⟩ := h.ok
  obtain ⟨n, hn⟩ : ∃ n, r.bs.length = n := ⟨_, rfl⟩
  obtain ⟨K, hK⟩ : ∃ K, r.at_ = K := ⟨_, rfl⟩
  rw [hn, hK] at hb
  rw [hn] at h1 h2
  rw [hK] at h1
  rw [hn, hK]
  have z0 : w.cell? ⟨g, 0, none⟩ = some (.slice A n c) := hb.cell 0
  have z1 : w.cell? ⟨g, 1, none⟩ = some (.int .i64 (K : Nat)) := hb.cell 1
  have w1 : IntKind.i64.wrap (8 * (n : Int)) = 8 * (n : Int) := IntWalk.i64_in _ (by omega)
  have w2 : IntKind.i64.wrap (8 * (n : Int) - (K : Int)) = 8 * (n : Int) - (K : Int) := IntWalk.i64_in _ (by omega)
  clear hb hr h3 hn hK h
  go_enter Tryz.func175, Tryz.ntmps175
  go_wp2
  go_quiet (fail)
  go_wp2
  go_ret
  exact ⟨ret_int (by push_cast; rfl), ⟨_, rfl⟩⟩
theorem wrap_u64R (n : Int) : IntKind.u64.wrap n = n % 18446744073709551616 := by simp [IntKind.wrap, IntKind.bits, IntKind.signed]
theorem bits_and1_u8 (z : Nat) (hz : z < 256) : bits .and .u8 (z : Int) 1 = ((z % 2 : Nat) : Int) := by
  show IntKind.u8.wrap ((BitVec.ofInt 8 (z : Int) &&& BitVec.ofInt 8 1).toNat : Int) = _
  have h1 : (BitVec.ofInt 8 (z : Int)).toNat = z := by
    rw [BitVec.ofInt_natCast, BitVec.toNat_ofNat]; exact Nat.mod_eq_of_lt (by omega)
  have h2 : (BitVec.ofInt 8 1).toNat = 1 := rfl
  rw [BitVec.toNat_and, h1, h2, IntKind.wrap_u8, Nat.and_one_is_mod]
  omega
theorem rd_or (X y j k : Nat) (hX : X < 2 ^ k) (hk : k < 64) (hy : y < 256) :
    bits .or .u64 (X : Int) (IntKind.u64.wrap (IntKind.u64.wrap (bits .and .u8 ((y : Int) / 2 ^ j) 1) * 2 ^ k)) = ((X + (y / 2 ^ j % 2 == 1).toNat * 2 ^ k : Nat) : Int) := by
  have e3 : (y : Int) / 2 ^ j = ((y / 2 ^ j : Nat) : Int) := by simp
  have hd : y / 2 ^ j < 256 := Nat.lt_of_le_of_lt (Nat.div_le_self _ _) hy
  rw [e3, bits_and1_u8 _ hd]
  have hz : y / 2 ^ j % 2 < 2 := Nat.mod_lt _ (by omega)
  have hyb : (y / 2 ^ j % 2 == 1).toNat = y / 2 ^ j % 2 := by
    rcases (by omega : y / 2 ^ j % 2 = 0 ∨ y / 2 ^ j % 2 = 1) with h | h <;> rw [h] <;> rfl
  rw [hyb]
  generalize y / 2 ^ j % 2 = z at hz ⊢
  have hp : 2 ^ k ≤ 2 ^ 63 := Nat.pow_le_pow_right (by omega) (by omega)
  have hl : z * 2 ^ k ≤ 1 * 2 ^ 63 := Nat.mul_le_mul (by omega) hp
  have e1 : IntKind.u64.wrap (z : Int) = (z : Int) := by rw [wrap_u64R]; omega
  have e2 : IntKind.u64.wrap ((z : Int) * 2 ^ k) = ((z * 2 ^ k : Nat) : Int) := by
    rw [show (z : Int) * 2 ^ k = ((z * 2 ^ k : Nat) : Int) by simp, wrap_u64R]
    omega
  rw [e1, e2, bits_or_u64_nat X (z * 2 ^ k) (by omega) (by omega)]
  have := Nat.two_pow_add_eq_or_of_lt hX z
  congr 1
  rw [Nat.or_comm, Nat.mul_comm z, ← this]
  omega
theorem RdAt.fail {w : World} {g : Nat} {r : RdV} (h : RdAt w g r) : RdAt (w.setCell ⟨g, 2, none⟩ (.bool true)) g { r with fail := true } := by
  obtain ⟨A, c, hb, hr⟩ := h.n
  refine ⟨⟨A, c, hb.set_ 2 _, hr.keep (fun q hq => Below.heap_setCell _ _ _ q (hr.ne_blk hb (by decide) q hq))⟩, h.ok⟩
set_option maxRecDepth 100000 in
set_option maxHeartbeats 4000000 in
theorem rdTake (r : RdV) (g n : Nat) (w : World) (h : RdAt w g r) (hn : n ≤ 64) :
    Calls Tryz.prog 105 #[.pointer (some ⟨g, 0, none⟩), .int .i64 (n : Nat)] w fun e w' => e = .returned (.int .u64 ((r.take n).1 : Nat)) ∧ RdAt w' g (r.take n).2 ∧ Chg (fun q => q = g) w w' := by
  obtain ⟨A, c, hb, hr⟩ := h.n
  obtain ⟨h1, h2, h3⟩ := h.ok
  have hL := fun W (hW : RdAt W g r) => rdLeft r g W hW
  have lg := hb.lt
  have d1 : decide ((n : Int) < 0) = false := decide_eq_false (by omega)
  have d2 : decide ((64 : Int) < (n : Int)) = false := decide_eq_false (by omega)
  have d2n : decide (64 < n) = false := decide_eq_false (by omega)
  obtain ⟨m, hm⟩ : ∃ m, r.bs.length = m := ⟨_, rfl⟩
  obtain ⟨K, hK⟩ : ∃ K, r.at_ = K := ⟨_, rfl⟩
  obtain ⟨f, hf⟩ : ∃ f, r.fail = f := ⟨_, rfl⟩
  have z0 : w.cell? ⟨g, 0, none⟩ = some (.slice A m c) := by rw [← hm]; exact hb.cell 0
  have z1 : w.cell? ⟨g, 1, none⟩ = some (.int .i64 (K : Nat)) := by rw [← hK]; exact hb.cell 1
  have z2 : w.cell? ⟨g, 2, none⟩ = some (.bool f) := by rw [← hf]; exact hb.cell 2
  have f2 : w.frozen? ⟨g, 2, none⟩ = false := hb.frozen 2
  rw [hm] at h1 h2
  rw [hK] at h1
  have HH := Lib.hid h
  have HF := Lib.hid hf
  have HM := Lib.hid (show _ ∧ _ from ⟨hm, hK⟩)
  simp only [hm, hK] at hL
  have HL := Lib.hid hL
  have HB := Lib.hid hb
  have HR := Lib.hid hr
  clear h hf hm hK hL h3 hb hr
  cases f with
  | true =>
    have ht : r.take n = (0, { r with fail := true }) := by unfold RdV.take; rw [if_pos (.inl HF.out)]
    have HT := Lib.hid ht
    clear ht
    go_enter Tryz.func105, Tryz.ntmps105
    go_wp2
    go_ret
    rw [HT.out]
    exact ⟨rfl, HH.out.fail, Chg.setCell (F := fun q => q = g) Chg.refl (p := ⟨g, 2, none⟩) (.inl rfl) _⟩
  | false =>
    by_cases hlt : 8 * m < K + n
    · have ht : r.take n = (0, { r with fail := true }) := by unfold RdV.take; rw [if_pos (.inr (by rw [HM.out.1, HM.out.2]; exact hlt))]
      have HT := Lib.hid ht
      have d3 : decide (((8 * m : Nat) : Int) - (K : Int) < (n : Int)) = true := decide_eq_true (by omega)
      have d3b : decide (8 * (m : Int) - (K : Int) < (n : Int)) = true := decide_eq_true (by omega)
      clear ht
      go_enter Tryz.func105, Tryz.ntmps105
      go_wp2_with fail
      refine (HL.out _ HH.out).mono ?_
      rintro e w1 ⟨rfl, nq, rfl⟩
      go_wp2
      go_ret
      rw [HT.out]
      refine ⟨rfl, ?_, ?_⟩
      · have h5 : RdAt (w.drewN nq) g r := HH.out.below (B := w.heap.size) ((Dr.refl w).drewN nq |>.below _) (Nat.le_refl _)
        exact h5.fail
      · exact Chg.setCell (F := fun q => q = g) (Chg.refl.drewN nq) (p := ⟨g, 2, none⟩) (.inl rfl) _
    · have d3 : decide (((8 * m : Nat) : Int) - (K : Int) < (n : Int)) = false := decide_eq_false (by omega)
      have d3b : decide (8 * (m : Int) - (K : Int) < (n : Int)) = false := decide_eq_false (by omega)
      have ht : r.take n = (numB (r.rest.take n), { r with at_ := r.at_ + n }) := by
        unfold RdV.take
        rw [if_neg (fun hh => by
          rcases hh with hh | hh
          · rw [HF.out] at hh; cases hh
          · rw [HM.out.1, HM.out.2] at hh; omega)]
      have HT := Lib.hid ht
      clear ht
      go_enter Tryz.func105, Tryz.ntmps105
      go_wp2_with fail
      refine (HL.out _ HH.out).mono ?_
      rintro e w1 ⟨rfl, nq, rfl⟩
      go_wp2
      go_loopw [5, 35] (fun x i wr => ∃ k : Nat, k ≤ n ∧ i = .int .i64 (k : Nat) ∧ x = .int .u64 (numB (r.rest.take k) : Nat) ∧ RdAt wr g { r with at_ := r.at_ + k } ∧ Chg (fun q => q = g) w wr) (fun _ i _ => n - (intOf i).toNat)
      case atStart => exact ⟨0, Nat.zero_le _, rfl, rfl, HH.out.below (B := w.heap.size) ((Dr.refl w).drewN nq |>.below _) (Nat.le_refl _), Chg.refl.drewN nq⟩
      case round =>
        obtain ⟨k, hk, rfl, rfl, hrd, hc⟩ := hrel
        by_cases hkn : k < n
        · obtain ⟨A', c', hb', hr'⟩ := hrd.n
          have hb' : Blk wr g 289 #[.slice A' r.bs.length c', .int .i64 ((r.at_ + k : Nat) : Nat), .bool r.fail] := hb'
          have hr' : Row wr 5 1 A' r.bs.length c' (natsV r.bs) := hr'
          obtain ⟨P, hP⟩ : ∃ P, r.at_ + k = P := ⟨_, rfl⟩
          have hPlt : P < 8 * m := by have := HM.out.2; omega
          obtain ⟨q, hq⟩ : ∃ q, P / 8 = q := ⟨_, rfl⟩
          obtain ⟨j, hj⟩ : ∃ j, P % 8 = j := ⟨_, rfl⟩
          rw [hP] at hb'
          rw [HM.out.1] at hb' hr'
          have hq0 : q < m := by omega
          obtain ⟨g2, off, rfl, hg2, hcl⟩ := hr'.cells (by omega)
          obtain ⟨y, hy⟩ : ∃ y, r.bs[q]? = some y := ⟨_, List.getElem?_eq_getElem (by rw [HM.out.1]; exact hq0)⟩
          have hy256 : y < 256 := HH.out.ok.2.2 y (List.mem_of_getElem? hy)
          have y0 : wr.cell? ⟨g2, off + q, none⟩ = some (.int .u8 (y : Nat)) := by rw [(hcl q (by omega)).1]; exact natsV_at hy
          have z0 : wr.cell? ⟨g, 0, none⟩ = some (.slice (some ⟨g2, off, none⟩) m c') := hb'.cell 0
          have z1 : wr.cell? ⟨g, 1, none⟩ = some (.int .i64 (P : Nat)) := hb'.cell 1
          have f1 : wr.frozen? ⟨g, 1, none⟩ = false := hb'.frozen 1
          have lg := hb'.lt
          have gne : g2 ≠ g := hr'.ne_blk hb' (by decide) g2 rfl
          have i1 : (P : Int) / 8 = (q : Int) := by omega
          have i2 : (P : Int) % 8 = (j : Int) := by omega
          have j1 : (0 : Int) ≤ (q : Int) := by omega
          have j2 : (q : Int) < (m : Int) := by omega
          have w1 : IntKind.i64.wrap (q : Int) = (q : Int) := IntWalk.i64_in _ (by omega)
          have w2 : IntKind.i64.wrap (j : Int) = (j : Int) := IntWalk.i64_in _ (by omega)
          have hs := num_step r k (by rw [HM.out.1]; omega)
          have hlo := numB_lt (r.rest.take k)
          have hkl := rest_take_length r k (by rw [HM.out.1]; omega)
          rw [hkl] at hlo
          rw [hP] at hs
          have HS := Lib.hid (show _ ∧ _ ∧ _ from ⟨hs, hlo, hy⟩)
          have HP := Lib.hid (show _ ∧ _ ∧ _ from ⟨hP, hq, hj⟩)
          have HB' := Lib.hid hb'
          have HR' := Lib.hid hr'
          have HC := Lib.hid hc
          generalize numB (r.rest.take k) = X at HS ⊢
          clear hb' hr' hcl hy hP hq hj hs hlo hkl hc hrd
          go_wp2
          go_quiet (fail)
          go_wp2
          have hval := rd_or X y j k HS.out.2.1 (by omega) hy256
          have hbit : (y / 2 ^ j % 2 == 1) = bitB r.bs P := by
            unfold bitB
            rw [HP.out.2.1, HP.out.2.2, List.getD_eq_getElem?_getD, HS.out.2.2, Option.getD_some]
          have e0 : Blk (((wr.drewN nq)).setCell ⟨g, 1, none⟩ (.int .i64 ((P : Int) + 1))) g 289 #[.slice (some ⟨g2, off, none⟩) m c', .int .i64 ((P : Int) + 1), .bool r.fail] := Blk.set_ (w := wr.drewN nq) HB'.out 1 _
          have e1 : Row (((wr.drewN nq)).setCell ⟨g, 1, none⟩ (.int .i64 ((P : Int) + 1))) 5 1 (some ⟨g2, off, none⟩) m c' (natsV r.bs) := HR'.out.keep (fun q' hq' => Below.heap_setCell (wr.drewN nq) _ _ q' (by cases hq'; exact gne))
          refine ⟨⟨k + 1, by omega, by go_num, ?_, ⟨⟨some ⟨g2, off, none⟩, c', ?_, ?_⟩, ?_⟩, Chg.setCell (F := fun q => q = g) (HC.out.drewN nq) (p := ⟨g, 1, none⟩) (.inl rfl) _⟩, by simp [intOf]; omega⟩
          · rw [hval, hbit, HS.out.1]
          · have h6 : ((r.at_ + (k + 1) : Nat) : Int) = (P : Int) + 1 := by have := HP.out.1; omega
            show Blk _ g _ #[.slice _ r.bs.length c', .int .i64 ((r.at_ + (k + 1) : Nat) : Int), .bool r.fail]
            rw [h6, HM.out.1]
            exact e0
          · show Row _ _ 1 _ r.bs.length c' (natsV r.bs)
            rw [HM.out.1]
            exact e1
          · refine ⟨?_, HH.out.ok.2⟩
            show r.at_ + (k + 1) ≤ 8 * r.bs.length
            rw [HM.out.1]
            have := HM.out.2
            omega
        · have hkn' : k = n := by omega
          subst hkn'
          go_wp2
          go_ret
          rw [HT.out]
          exact ⟨rfl, hrd, hc⟩
theorem rdOK (r : RdV) (g : Nat) (w : World) (h : RdAt w g r) : Calls Tryz.prog 174 #[.pointer (some ⟨g, 0, none⟩)] w fun e w' => e = .returned (.bool (!r.fail)) ∧ w = w' := by
  obtain ⟨A, c, hb, hr⟩ := h.n
  have z2 : w.cell? ⟨g, 2, none⟩ = some (.bool r.fail) := hb.cell 2
  clear hb hr h
  obtain ⟨f, hf⟩ : ∃ f, r.fail = f := ⟨_, rfl⟩
  rw [hf] at z2 ⊢
  cases f
  all_goals
    clear hf
    go_enter Tryz.func174, Tryz.ntmps174
    go_wp2
    go_ret
    exact ⟨rfl, rfl⟩
theorem tail_bits : ∀ y : Nat, y < 256 → ∀ j : Nat, j < 8 → ((∀ t : Nat, t < 8 → j ≤ t → y / 2 ^ t % 2 = 0) ↔ y / 2 ^ j = 0) := by decide +kernel
theorem rest_all (r : RdV) (hok : r.ok) (hl : 8 * r.bs.length < r.at_ + 8) (hl0 : r.at_ < 8 * r.bs.length) (y : Nat) (hy : r.bs[r.bs.length - 1]? = some y) : (r.rest.all fun b => !b) = decide (y / 2 ^ (r.at_ % 8) = 0) := by
  obtain ⟨h1, h2, h3⟩ := hok
  have hy256 := h3 y (List.mem_of_getElem? hy)
  have hq : r.at_ / 8 = r.bs.length - 1 := by omega
  have hbit : ∀ t, t < 8 → bitB r.bs (8 * (r.bs.length - 1) + t) = (y / 2 ^ t % 2 == 1) := fun t ht => by
    unfold bitB
    rw [show (8 * (r.bs.length - 1) + t) / 8 = r.bs.length - 1 by omega, show (8 * (r.bs.length - 1) + t) % 8 = t by omega, List.getD_eq_getElem?_getD, hy, Option.getD_some]
  have hlen : r.rest.length = 8 * r.bs.length - r.at_ := by unfold RdV.rest; rw [List.length_drop, unpackB_length]
  have hget : ∀ i, i < r.rest.length → r.rest[i]? = some (bitB r.bs (r.at_ + i)) := fun i hi => by
    unfold RdV.rest
    rw [List.getElem?_drop, unpackB_get _ _ (by omega)]
  rw [Bool.eq_iff_iff, List.all_eq_true, decide_eq_true_eq, ← tail_bits y hy256 (r.at_ % 8) (by omega)]
  constructor
  · intro hall t ht hjt
    have h5 := hget (t - r.at_ % 8) (by omega)
    have h6 := hall _ (List.mem_of_getElem? h5)
    rw [show r.at_ + (t - r.at_ % 8) = 8 * (r.bs.length - 1) + t by omega, hbit t ht] at h6
    rcases (by omega : y / 2 ^ t % 2 = 0 ∨ y / 2 ^ t % 2 = 1) with h7 | h7
    · exact h7
    · rw [h7] at h6; cases h6
  · intro hz b hb
    obtain ⟨i, hi⟩ := List.mem_iff_getElem?.1 hb
    have hil : i < r.rest.length := (List.getElem?_eq_some_iff.1 hi).1
    rw [hget i hil] at hi
    cases hi
    rw [show r.at_ + i = 8 * (r.bs.length - 1) + (r.at_ % 8 + i) by omega, hbit _ (by omega), hz (r.at_ % 8 + i) (by omega) (by omega)]
    rfl
set_option maxRecDepth 100000 in
set_option maxHeartbeats 4000000 in
theorem rdDone (r : RdV) (g : Nat) (w : World) (h : RdAt w g r) : Calls Tryz.prog 107 #[.pointer (some ⟨g, 0, none⟩)] w fun e w' => e = .returned (.bool r.done) ∧ Dr w w' := by
  obtain ⟨A, c, hb, hr⟩ := h.n
  obtain ⟨h1, h2, h3⟩ := h.ok
  have hO := rdOK r g w h
  have hL := fun W (hW : RdAt W g r) => rdLeft r g W hW
  obtain ⟨m, hm⟩ : ∃ m, r.bs.length = m := ⟨_, rfl⟩
  obtain ⟨K, hK⟩ : ∃ K, r.at_ = K := ⟨_, rfl⟩
  obtain ⟨f, hf⟩ : ∃ f, r.fail = f := ⟨_, rfl⟩
  have HRA := Lib.hid (fun (hl : 8 * m < K + 8) (hl0 : K < 8 * m) y hy => rest_all r h.ok (by rw [hm, hK]; exact hl) (by rw [hm, hK]; exact hl0) y hy)
  have z0 : w.cell? ⟨g, 0, none⟩ = some (.slice A m c) := by rw [← hm]; exact hb.cell 0
  have z1 : w.cell? ⟨g, 1, none⟩ = some (.int .i64 (K : Nat)) := by rw [← hK]; exact hb.cell 1
  rw [hm] at h1 h2
  rw [hK] at h1
  simp only [hm, hK] at hL
  rw [hf] at hO
  have HH := Lib.hid h
  have HL := Lib.hid hL
  have HO := Lib.hid hO
  have HM := Lib.hid (show _ ∧ _ ∧ _ from ⟨hm, hK, hf⟩)
  have HR := Lib.hid hr
  have H3 := Lib.hid h3
  clear h hb hr hO hL hm hK hf h3
  unfold RdV.done
  cases f with
  | true =>
    have hd : (!r.fail && decide (8 * r.bs.length < r.at_ + 8) && r.rest.all fun b => !b) = false := by rw [HM.out.2.2]; rfl
    rw [hd]
    clear hd
    go_enter Tryz.func107, Tryz.ntmps107
    go_wp2_with fail
    refine HO.out.mono ?_
    rintro e w1 ⟨rfl, rfl⟩
    go_wp2
    go_ret
    exact ⟨rfl, Dr.refl _⟩
  | false =>
    by_cases h8 : 8 * m < K + 8
    · have d1 : decide ((8 : Int) ≤ ((8 * m : Nat) : Int) - (K : Int)) = false := decide_eq_false (by omega)
      have d1b : decide ((8 : Int) ≤ 8 * (m : Int) - (K : Int)) = false := decide_eq_false (by omega)
      have hd : (!r.fail && decide (8 * r.bs.length < r.at_ + 8) && r.rest.all fun b => !b) = r.rest.all fun b => !b := by rw [HM.out.2.2, HM.out.1, HM.out.2.1, decide_eq_true h8]; rfl
      rw [hd]
      clear hd
      by_cases h0 : K = 8 * m
      · have d2 : ((((8 * m : Nat) : Int) - (K : Int)) == 0) = true := by rw [beq_iff_eq]; omega
        have d2b : ((8 * (m : Int) - (K : Int)) == 0) = true := by rw [beq_iff_eq]; omega
        have ha : (r.rest.all fun b => !b) = true := by
          have : r.rest = [] := List.eq_nil_of_length_eq_zero (by unfold RdV.rest; rw [List.length_drop, unpackB_length, HM.out.1, HM.out.2.1]; omega)
          rw [this]
          rfl
        rw [ha]
        clear ha
        have H0 := Lib.hid h0
        clear h0
        go_enter Tryz.func107, Tryz.ntmps107
        go_wp2_with fail
        refine HO.out.mono ?_
        rintro e w1 ⟨rfl, rfl⟩
        go_wp2_with fail
        refine (HL.out _ HH.out).mono ?_
        rintro e w1 ⟨rfl, nq, rfl⟩
        go_wp2
        have HH2 := Lib.hid (fun n => (HH.out.below (B := w.heap.size) ((Dr.refl w).drewN n |>.below _) (Nat.le_refl _) : RdAt (w.drewN n) g r))
        go_quiet ((go_at_call 175; exact quiet_add_dr (HL.out _ (HH2.out _))))
        go_wp2
        go_ret
        exact ⟨rfl, ((Dr.refl w).drewN _).drewN _⟩
      · have d2 : ((((8 * m : Nat) : Int) - (K : Int)) == 0) = false := beq_eq_false_iff_ne.2 (by omega)
        have d2b : ((8 * (m : Int) - (K : Int)) == 0) = false := beq_eq_false_iff_ne.2 (by omega)
        obtain ⟨q, hq⟩ : ∃ q, m - 1 = q := ⟨_, rfl⟩
        obtain ⟨j, hj⟩ : ∃ j, K % 8 = j := ⟨_, rfl⟩
        obtain ⟨g2, off, rfl, hg2, hcl⟩ := HR.out.cells (by rw [HM.out.1]; omega)
        obtain ⟨y, hy⟩ : ∃ y, r.bs[q]? = some y := ⟨_, List.getElem?_eq_getElem (by rw [HM.out.1]; omega)⟩
        have hy256 : y < 256 := H3.out y (List.mem_of_getElem? hy)
        have y0 : w.cell? ⟨g2, off + q, none⟩ = some (.int .u8 (y : Nat)) := by rw [(hcl q (by rw [HM.out.1]; omega)).1]; exact natsV_at hy
        have ha := HRA.out h8 (by omega) y (by rw [HM.out.1, hq]; exact hy)
        rw [HM.out.2.1, hj] at ha
        rw [ha]
        have i1 : (m : Int) - 1 = (q : Int) := by omega
        have i2 : (K : Int) % 8 = (j : Int) := by omega
        have j1 : (0 : Int) ≤ (q : Int) := by omega
        have j2 : (q : Int) < (m : Int) := by omega
        have w1 : IntKind.i64.wrap (q : Int) = (q : Int) := IntWalk.i64_in _ (by omega)
        have w2 : IntKind.i64.wrap (j : Int) = (j : Int) := IntWalk.i64_in _ (by omega)
        have HX := Lib.hid (show _ ∧ _ ∧ _ from ⟨hq, hj, hy⟩)
        clear h0 hq hj hy hcl ha
        go_enter Tryz.func107, Tryz.ntmps107
        go_wp2_with fail
        refine HO.out.mono ?_
        rintro e w1 ⟨rfl, rfl⟩
        go_wp2_with fail
        refine (HL.out _ HH.out).mono ?_
        rintro e w1 ⟨rfl, nq, rfl⟩
        go_wp2
        have HH2 := Lib.hid (fun n => (HH.out.below (B := w.heap.size) ((Dr.refl w).drewN n |>.below _) (Nat.le_refl _) : RdAt (w.drewN n) g r))
        go_quiet ((go_at_call 175; exact quiet_add_dr (HL.out _ (HH2.out _))))
        go_wp2
        go_ret
        refine ⟨ret_bool (a := ((y : Int) / 2 ^ j == 0)) ?_, ((Dr.refl w).drewN _).drewN _⟩
        rw [show (y : Int) / 2 ^ j = ((y / 2 ^ j : Nat) : Int) by simp, Bool.eq_iff_iff, beq_iff_eq, decide_eq_true_eq]
        omega
    · have d1 : decide ((8 : Int) ≤ ((8 * m : Nat) : Int) - (K : Int)) = true := decide_eq_true (by omega)
      have d1b : decide ((8 : Int) ≤ 8 * (m : Int) - (K : Int)) = true := decide_eq_true (by omega)
      have hd : (!r.fail && decide (8 * r.bs.length < r.at_ + 8) && r.rest.all fun b => !b) = false := by rw [HM.out.1, HM.out.2.1, decide_eq_false h8]; simp
      rw [hd]
      clear hd
      go_enter Tryz.func107, Tryz.ntmps107
      go_wp2_with fail
      refine HO.out.mono ?_
      rintro e w1 ⟨rfl, rfl⟩
      go_wp2_with fail
      refine (HL.out _ HH.out).mono ?_
      rintro e w1 ⟨rfl, nq, rfl⟩
      go_wp2
      go_ret
      exact ⟨rfl, ⟨_, rfl⟩⟩
theorem rdNew (l : List Nat) (w : World) (A : Option Addr) (n c : Nat) (h : Reads w w.heap.size 1 A n (natsV l)) (hn : n ≤ 5000) (h256 : ∀ x ∈ l, x < 256) :
    Calls Tryz.prog 103 #[.slice A n c] w fun e w' => ∃ g, e = .returned (.pointer (some ⟨g, 0, none⟩)) ∧ RdAt w' g ⟨l, 0, false⟩ ∧ w.heap.size ≤ g ∧ Below w.heap.size w w' := by
  have hl : l.length = n := by have := h.1; rw [natsV_length] at this; omega
  have hC := cloneY l w A n c h (by omega)
  have HL := Lib.hid hl
  clear h hl
  go_enter Tryz.func103, Tryz.ntmps103
  go_wp2_with fail
  refine hC.mono ?_
  rintro e w1 ⟨A', c', rfl, hr, hf, hb1⟩
  have HR := Lib.hid hr
  have HB := Lib.hid hb1
  clear hr hf hb1
  go_wp2
  go_ret
  have hs := HB.out.size
  refine ⟨w1.heap.size, rfl, ⟨⟨A', c', ?_, ?_⟩, ?_⟩, hs, ?_⟩
  · show Blk _ _ _ #[.slice A' l.length c', .int .i64 ((0 : Nat) : Int), .bool false]
    rw [HL.out]
    exact Blk.new _ _ _
  · show Row _ _ 1 A' l.length c' (natsV l)
    rw [HL.out]
    exact HR.out.keep (fun q hq => Below.heap_alloc _ _ q (HR.out.lt hq))
  · exact ⟨Nat.zero_le _, by show l.length ≤ 5000; rw [HL.out]; exact hn, h256⟩
  · exact HB.out.alloc (by omega) _
end Go.Proofs.YtojbijapdkohlaaGreatDoor
