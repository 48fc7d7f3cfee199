/- The reference of layer 6: the bytes of bits. The reference of layer 21: a datagram without a row. The plain side of a datagram: what was put is read. -/
import Derived.Test.YtojbijapdkohlaaGreatDoorQ42RBits
import Derived.Test.YtojbijapdkohlaaGreatDoorQ39SrvTickP
import Derived.Test.YtojbijapdkohlaaGreatDoorChanSend
set_option linter.unusedSimpArgs false
set_option linter.unusedVariables false
namespace Go.Proofs.YtojbijapdkohlaaGreatDoor
open Go.RowKit
def bitSum (l : List Bool) (i : Nat) : Nat → Nat
  | 0 => 0
  | t + 1 => bitSum l i t + bitAt l i t
theorem bitSum_byte (l : List Bool) (i : Nat) : bitSum l i 8 = byteAt l i := by simp [bitSum, byteAt]
theorem bitSum_lt (l : List Bool) (i t : Nat) : bitSum l i t < 2 ^ t := by
  induction t with
  | zero => exact Nat.one_pos
  | succ t ih =>
    have := bitAt_le l i t
    show bitSum l i t + bitAt l i t < 2 ^ (t + 1)
    rw [Nat.pow_succ]
    omega
theorem bitSum_end (l : List Bool) (i t : Nat) (ht : t ≤ 8) (h : l.length ≤ 8 * i + t) : bitSum l i 8 = bitSum l i t := by
  have key : ∀ d, t + d ≤ 8 → bitSum l i (t + d) = bitSum l i t := by
    intro d
    induction d with
    | zero => intro _; rfl
    | succ d ih =>
      intro hd
      show bitSum l i (t + d) + bitAt l i (t + d) = _
      rw [bitAt_past l i (t + d) (by omega), Nat.add_zero, ih (by omega)]
  have := key (8 - t) (by omega)
  rwa [show t + (8 - t) = 8 by omega] at this
theorem packB_take (l : List Bool) (j : Nat) (h : j < (l.length + 7) / 8) : (packB l).take (j + 1) = (packB l).take j ++ [byteAt l j] := by
  rw [List.take_add_one, packB_get l j h]; rfl
theorem natsV_app (a b : List Nat) : natsV (a ++ b) = natsV a ++ natsV b := by simp [natsV]
set_option maxRecDepth 100000 in
set_option maxHeartbeats 8000000 in
theorem refBytes (w0 w : World) (g : Nat) (L : List Bool) (h : BrAt w0 w g L) (hL : L.length ≤ 100000) :
    Calls Tryz.prog 116 #[.pointer (some ⟨g, 0, none⟩)] w fun e w' => ∃ v, e = .returned v ∧ w'.ownsRow w.heap.size 5 1 v ((L.length + 7) / 8) (natsV (packB L)) ∧ Below w.heap.size w w' := by
  obtain ⟨v, hv1, hv2⟩ := h.n
  obtain ⟨A, c, rfl, hrow, hA⟩ := Row.of_own hv2
  obtain ⟨m, hm⟩ : ∃ m, L.length = m := ⟨_, rfl⟩
  rw [hm] at hv1 hrow hL ⊢
  have HV := Lib.hid (show _ ∧ _ from ⟨hv1, hrow⟩)
  have HM := Lib.hid hm
  clear hv1 hv2 hrow hA hm h
  go_enter Tryz.func116, Tryz.ntmps116
  go_wp2
  go_loopw [3, 4] (fun o i wr => ∃ j : Nat, j ≤ (m + 7) / 8 ∧ i = .int .i64 ((8 * j : Nat) : Int) ∧ wr.ownsRow w.heap.size 5 1 o j (natsV ((packB L).take j)) ∧ Below w.heap.size w wr) (fun _ i _ => 100008 - (intOf i).toNat)
  case atStart => exact ⟨0, Nat.zero_le _, rfl, by simpa [natsV] using World.ownsRow_nil _ _ _ _, Below.refl _ _⟩
  case round =>
    obtain ⟨j, hj, rfl, hown, hbel⟩ := hrel
    have hb2 := HV.out.1.below hbel HV.out.1.lt
    have z0 : wr.cell? ⟨g, 0, none⟩ = some (.slice A m c) := hb2.cell 0
    have hz := hbel.size
    have HR := Lib.hid (show _ ∧ _ from ⟨hown, hbel⟩)
    clear hb2
    by_cases hlt : 8 * j < m
    · have t1 : decide (((8 * j : Nat) : Int) < (m : Int)) = true := decide_eq_true (by omega)
      clear hown hbel
      go_wp2
      go_loopw [5, 6, 7] (fun cc one k wi => ∃ t : Nat, t ≤ 8 ∧ 8 * j + t ≤ m ∧ cc = .int .i64 ((bitSum L j t : Nat) : Int) ∧ one = .int .i64 ((2 ^ t : Nat) : Int) ∧ k = .int .i64 ((8 * j + t : Nat) : Int) ∧ wi = wr) (fun _ _ k _ => 8 * j + 8 - (intOf k).toNat)
      case atStart => exact ⟨0, by omega, by omega, rfl, rfl, rfl, rfl⟩
      case round =>
        obtain ⟨t, ht, htm, rfl, rfl, rfl, hwi⟩ := hrel
        subst hwi
        obtain ⟨kk, hkk⟩ : ∃ kk, 8 * j + t = kk := ⟨_, rfl⟩
        obtain ⟨i0, hi0⟩ : ∃ i0, 8 * j = i0 := ⟨_, rfl⟩
        obtain ⟨cs, hcs⟩ : ∃ cs, bitSum L j t = cs := ⟨_, rfl⟩
        obtain ⟨on, hon⟩ : ∃ on, 2 ^ t = on := ⟨_, rfl⟩
        have hbs := bitSum_lt L j t
        have h28 : 2 ^ t ≤ 256 := Nat.pow_le_pow_right (n := 2) (by decide) ht
        rw [hon] at hbs h28
        rw [hcs] at hbs
        rw [hkk] at htm
        rw [hkk, hcs, hon, hi0]
        have E := Lib.hid (show _ ∧ _ ∧ _ ∧ _ ∧ _ ∧ _ from ⟨hkk, hi0, hcs, hon, ht, hj⟩)
        have hk2 : kk = i0 + t := by omega
        have hib : i0 ≤ 100000 := by omega
        have hkb : kk ≤ 100000 := by omega
        have w8 : IntKind.i64.wrap ((i0 : Int) + 8) = (i0 : Int) + 8 := by simp [IntKind.wrap, IntKind.bits, IntKind.signed]; omega
        clear hkk hcs hon ht hj
        by_cases hin : t < 8 ∧ kk < m
        · obtain ⟨ht8, hkm⟩ := hin
          have t2 : decide ((kk : Int) < (i0 : Int) + 8) = true := decide_eq_true (by omega)
          have t3 : decide ((kk : Int) < (m : Int)) = true := decide_eq_true (by omega)
          have t3n : decide (kk < m) = true := decide_eq_true hkm
          obtain ⟨ga, off, hA, hga, hcell⟩ := HV.out.2.cells (by omega)
          subst hA
          obtain ⟨bb, hbb⟩ : ∃ bb, L[kk]? = some bb := ⟨_, List.getElem?_eq_getElem (by rw [HM.out]; exact hkm)⟩
          have y0 : w.cell? ⟨ga, off + kk, none⟩ = some (.bool bb) := by rw [(hcell kk (by omega)).1]; unfold boolsV; rw [List.getElem?_map, hbb]; rfl
          have y1 : wr.cell? ⟨ga, off + kk, none⟩ = some (.bool bb) := (HR.out.2.cell (p := ⟨ga, off + kk, none⟩) hga).trans y0
          have hst : bitSum L j (t + 1) = cs + if bb = true then on else 0 := by
            show bitSum L j t + bitAt L j t = _
            rw [E.out.2.2.1]
            unfold bitAt
            rw [List.getD_eq_getElem?_getD, E.out.1, hbb, E.out.2.2.2.1]; rfl
          have HST := Lib.hid (show _ ∧ _ from ⟨hst, hkm⟩)
          have hk0 : (0 : Int) ≤ (kk : Int) := by omega
          clear hcell y0 hbb hst hk2 hi0
          cases bb
          · go_wp2
            exact ⟨⟨t + 1, by omega, by have := E.out; have := HST.out.2; omega, by rw [HST.out.1]; simp, by rw [Nat.pow_succ, E.out.2.2.2.1]; go_num, by rw [show i0 + (t + 1) = kk + 1 from by have := E.out; omega]; go_num, trivial⟩, by have h1 := E.out.1; have h2 := E.out.2.1; simp [intOf]; omega⟩
          · go_wp2
            exact ⟨⟨t + 1, by omega, by have := E.out; have := HST.out.2; omega, by rw [HST.out.1]; simp, by rw [Nat.pow_succ, E.out.2.2.2.1]; go_num, by rw [show i0 + (t + 1) = kk + 1 from by have := E.out; omega]; go_num, trivial⟩, by have h1 := E.out.1; have h2 := E.out.2.1; simp [intOf]; omega⟩
        · have hby : cs = byteAt L j := by
            rw [← bitSum_byte, ← E.out.2.2.1]
            by_cases ht8 : t < 8
            · exact (bitSum_end L j t (by omega) (by have := E.out.1; rw [HM.out]; omega)).symm
            · have : t = 8 := by have := E.out.2.2.2.2.1; omega
              rw [this]
          have hc256 : cs < 256 := by rw [hby]; exact byteAt_lt L j
          have hw8 := wrap8 hc256
          have hr : Reads (wr.alloc (.cells #[.int .u8 (cs : Nat)] 5)) (wr.heap.size + 1) 1 (some ⟨wr.heap.size, 0, none⟩) 1 (natsV [cs]) := Reads.new (size := 1) (n := 1) (Nat.lt_succ_self _) rfl
          have HBY := Lib.hid hby
          have hown := HR.out.1
          clear hby
          by_cases ht8 : t < 8
          · have t2 : decide ((kk : Int) < (i0 : Int) + 8) = true := decide_eq_true (by omega)
            have t3 : decide ((kk : Int) < (m : Int)) = false := decide_eq_false (by omega)
            have t3n : decide (kk < m) = false := decide_eq_false (by omega)
            have hjn : j ≤ 20000 := by omega
            clear hk2 hi0 hin hlt htm
            go_wp2_with (at_builtin; refine wpList_app _ rfl _ _ 100 rfl eltY _ _ _ _ rfl (hown.alloc _) (wr.heap.size + 1) (some ⟨wr.heap.size, 0, none⟩) 1 1 (natsV [cs]) rfl hr (natsV_one [cs]) (by omega) (by simp; omega) ?_; intro v' w' ho hg' hb')
            have hbel' := below_own (HR.out.2.alloc hz _) (HR.out.1.alloc _) hg' (by simp; omega) (Nat.le_refl _)
            have hjl : j < (m + 7) / 8 := by have h2 := E.out.2.1; omega
            have ho2 : w'.ownsRow w.heap.size 5 1 v' (j + 1) (natsV ((packB L).take (j + 1))) := by
              rw [packB_take L j (by rw [HM.out]; exact hjl), natsV_app, ← HBY.out]; exact ho
            exact ⟨⟨j + 1, by omega, by rw [show 8 * (j + 1) = i0 + 8 from by have h2 := E.out.2.1; omega]; go_num, ho2, hbel'⟩, by have h2 := E.out.2.1; simp [intOf]; omega⟩
          · have t8 : t = 8 := by have := E.out.2.2.2.2.1; omega
            have t2 : decide ((kk : Int) < (i0 : Int) + 8) = false := decide_eq_false (by omega)
            have hjn : j ≤ 20000 := by omega
            clear hk2 hi0 hin hlt htm
            go_wp2_with (at_builtin; refine wpList_app _ rfl _ _ 100 rfl eltY _ _ _ _ rfl (hown.alloc _) (wr.heap.size + 1) (some ⟨wr.heap.size, 0, none⟩) 1 1 (natsV [cs]) rfl hr (natsV_one [cs]) (by omega) (by simp; omega) ?_; intro v' w' ho hg' hb')
            have hbel' := below_own (HR.out.2.alloc hz _) (HR.out.1.alloc _) hg' (by simp; omega) (Nat.le_refl _)
            have hjl : j < (m + 7) / 8 := by have h2 := E.out.2.1; omega
            have ho2 : w'.ownsRow w.heap.size 5 1 v' (j + 1) (natsV ((packB L).take (j + 1))) := by
              rw [packB_take L j (by rw [HM.out]; exact hjl), natsV_app, ← HBY.out]; exact ho
            exact ⟨⟨j + 1, by omega, by rw [show 8 * (j + 1) = i0 + 8 from by have h2 := E.out.2.1; omega]; go_num, ho2, hbel'⟩, by have h2 := E.out.2.1; simp [intOf]; omega⟩
    · have t1 : decide (((8 * j : Nat) : Int) < (m : Int)) = false := decide_eq_false (by omega)
      have hjm : j = (m + 7) / 8 := by omega
      have e : (packB L).take j = packB L := List.take_of_length_le (by rw [packB_length, HM.out, hjm]; exact Nat.le_refl _)
      rw [e, hjm] at HR
      clear hown hbel hjm e
      go_wp2
      go_ret
      exact ⟨_, rfl, HR.out.1, HR.out.2⟩
end Go.Proofs.YtojbijapdkohlaaGreatDoor
set_option linter.unusedSimpArgs false
set_option linter.unusedVariables false
namespace Go.Proofs.YtojbijapdkohlaaGreatDoor
open Go.RowKit
set_option maxRecDepth 100000 in
set_option maxHeartbeats 4000000 in
theorem refKey (seed : Int) (k : Nat) (w : World) (h0 : 0 ≤ seed) (h1 : seed < 18446744073709551616) (hk : k ≤ 100) : Calls Tryz.prog 115 #[.int .u64 seed, .int .i64 (k : Nat)] w fun e w' => e = .returned (.int .u32 ((keyBV seed k).toNat : Int)) ∧ w = w' := by
  rw [← keyBV_eq]
  unfold keyI
  have e1 : (k : Int) % 4294967296 = (k : Int) := by omega
  rw [e1]
  have e2 : (k : Int) % 18446744073709551616 = (k : Int) := by omega
  have e3 : (k : Int) * 2654435761 % 18446744073709551616 = (k : Int) * 2654435761 := by omega
  have e4 : seed % 4294967296 % 4294967296 = seed % 4294967296 := by omega
  have e5 : (k : Int) * 2654435761 % 4294967296 % 4294967296 = (k : Int) * 2654435761 % 4294967296 := by omega
  go_enter Tryz.func115, Tryz.ntmps115
  go_wp2
  go_ret
  exact ⟨rfl, rfl⟩
def dgBits (h : HdrV) (wants tick : Nat) : List Bool := hdrBits h ++ (bitsN wants 32 ++ (bitsN tick 32 ++ bitsN 0 1))
def dgBytes (seed : Int) (k : Nat) (h : HdrV) (wants tick : Nat) : List UInt8 := (wrapF (keyBV seed k) (bytes8 (packB (dgBits h wants tick)))).1
set_option maxRecDepth 100000 in
set_option maxHeartbeats 8000000 in
theorem refDgram0 (seed : Int) (k : Nat) (h : HdrV) (hh : h.Ok) (wants : Nat) (tick : Int) (A : Option Addr) (c : Nat) (w : World) (h0 : 0 ≤ seed) (h1 : seed < 18446744073709551616) (hk : k ≤ 100) (hw : wants ≤ 4294967295) (ht : -2147483648 ≤ tick) (ht2 : tick ≤ 2147483647) :
    Calls Tryz.prog 50 #[.int .u64 seed, .int .i64 (k : Nat), .agg #[.int .u16 (h.num : Nat), .bool h.any, .int .u16 (h.ack : Nat), .int .u32 (h.mask : Nat)], .int .u32 (wants : Nat), .int .i64 tick, .slice A 0 c] w fun e w' => ∃ v n, e = .returned v ∧ w'.ownsRow w.heap.size 5 1 v n (bytesV (dgBytes seed k h wants (tick % 4294967296).toNat)) ∧ Below w.heap.size w w' := by
  obtain ⟨tk, htk⟩ : ∃ tk : Nat, (tick % 4294967296).toNat = tk := ⟨_, rfl⟩
  have hti : tick % 4294967296 = (tk : Int) := by rw [← htk]; omega
  have htl : tk < 4294967296 := by omega
  have hti2 : (tick + 4294967296) % 4294967296 = (tk : Int) := by omega
  have hti3 : (tick + 4294967296) % 18446744073709551616 = tick + 4294967296 := by omega
  rw [htk]
  have HKEY := Lib.hid (fun W => refKey seed k W h0 h1 hk)
  have HH := Lib.hid hh
  have HT := Lib.hid hti
  clear htk hti h0 h1 hh
  go_enter Tryz.func50, Tryz.ntmps50
  go_wp2_with fail
  obtain ⟨mB, -, mb2⟩ := twoBoxesC w #[.int .u16 (h.num : Nat), .bool h.any, .int .u16 (h.ack : Nat), .int .u32 (h.mask : Nat)] #[.slice none 0 0] 98 226
  generalize ((w.alloc (.cells #[.int .u16 (h.num : Nat), .bool h.any, .int .u16 (h.ack : Nat), .int .u32 (h.mask : Nat)] 98)).alloc (.cells #[.slice none 0 0] 226)) = wa at mB mb2 ⊢
  have b0 : BrAt w wa (w.heap.size + 1) [] := ⟨⟨.slice none 0 0, mb2, World.ownsRow_nil _ _ _ _⟩, mB, by omega⟩
  have B0 := Lib.hid b0
  clear b0 mB mb2
  obtain ⟨g, hg⟩ : ∃ g, w.heap.size + 1 = g := ⟨_, rfl⟩
  rw [hg] at B0 ⊢
  clear hg
  have n1 := hdrBits_length h
  have N1 := Lib.hid n1
  clear n1
  refine (refPutH w wa g h HH.out [] B0.out (by decide)).mono ?_
  rintro e w1 ⟨rfl, hb1, -⟩
  have B1 := Lib.hid hb1
  clear hb1 B0
  go_wp2_with fail
  refine (refPutB w w1 g wants 32 _ B1.out (by omega) (by decide) (by have := N1.out; simp; omega)).mono ?_
  rintro e w2 ⟨rfl, hb2, -⟩
  have B2 := Lib.hid hb2
  clear hb2 B1
  go_wp2_with fail
  refine (refPutB w w2 g tk 32 _ B2.out (by omega) (by decide) (by have := N1.out; simp [bitsN_length]; omega)).mono ?_
  rintro e w3 ⟨rfl, hb3, -⟩
  have B3 := Lib.hid hb3
  clear hb3 B2
  go_wp2_with fail
  refine (refPutB w w3 g 0 1 _ B3.out (by decide) (by decide) (by have := N1.out; simp [bitsN_length]; omega)).mono ?_
  rintro e w4 ⟨rfl, hb4, -⟩
  have hbits : [] ++ hdrBits h ++ bitsN wants 32 ++ bitsN tk 32 ++ bitsN 0 1 = dgBits h wants tk := by simp [dgBits]
  rw [hbits] at hb4
  have B4 := Lib.hid hb4
  clear hb4 B3 hbits
  have n2 : (dgBits h wants tk).length = 130 := by have := N1.out; simp [dgBits, bitsN_length]; omega
  have N2 := Lib.hid n2
  clear n2
  go_wp2_with fail
  refine (HKEY.out _).mono ?_
  rintro e w5 ⟨rfl, rfl⟩
  go_wp2_with fail
  refine (refBytes w w4 g _ B4.out (by rw [N2.out]; decide)).mono ?_
  rintro e w6 ⟨vb, rfl, ho6, hb6⟩
  obtain ⟨A6, c6, rfl, hr6, hA6⟩ := Row.of_own ho6
  have hw := ref_wrap (keyBV seed k) (bytes8 (packB (dgBits h wants tk))) w6 A6 (((dgBits h wants tk).length + 7) / 8) c6 (by rw [← natsV_bytes (packB_lt _)]; exact hr6.reads (by decide)) (by rw [N2.out]; decide)
  have HW := Lib.hid hw
  have B6 := Lib.hid (show _ ∧ _ from ⟨B4.out.bel.trans (hb6.mono B4.out.bel.size), Nat.le_trans B4.out.bel.size hb6.size⟩)
  clear hw ho6 hb6 hr6 hA6
  go_wp2_with fail
  refine HW.out.mono ?_
  rintro e w7 ⟨v7, n7, rfl, ho7, hb7⟩
  have B7 := Lib.hid (show _ ∧ _ from ⟨own_mono ho7 B6.out.2, B6.out.1.trans (hb7.mono B6.out.2)⟩)
  clear ho7 hb7
  go_wp2
  go_ret
  exact ⟨v7, n7, rfl, B7.out.1, B7.out.2⟩
end Go.Proofs.YtojbijapdkohlaaGreatDoor
set_option linter.unusedSimpArgs false
set_option linter.unusedVariables false
namespace Go.Proofs.YtojbijapdkohlaaGreatDoor
open Go.RowKit
theorem openF_wrap (key : BitVec 32) (l : List UInt8) (h : l.length ≤ 1400) : openF key (wrapF key l).1 = (l, 0) := by
  have e : (wrapF key l).1 = num4 (frameSum key l) ++ l := by unfold wrapF; rw [if_pos h]
  have h4 : (num4 (frameSum key l)).length = 4 := rfl
  rw [e]
  unfold openF
  rw [if_neg (by simp [h4]), if_neg (by simp [h4]; omega)]
  rw [show (num4 (frameSum key l) ++ l).take 4 = num4 (frameSum key l) by rw [List.take_left' h4], show (num4 (frameSum key l) ++ l).drop 4 = l by rw [List.drop_left' h4], if_pos rfl]
theorem natsOf_bytes8 {l : List Nat} (h : ∀ x ∈ l, x < 256) : natsOf (bytes8 l) = l := by
  unfold natsOf bytes8
  rw [List.map_map]
  conv => rhs; rw [← List.map_id l]
  refine List.map_congr_left fun x hx => ?_
  have := h x hx
  simp
  omega
theorem byte_bits : ∀ b0 b1 b2 b3 b4 b5 b6 b7 : Bool, ∀ j : Fin 8, ((((if b0 then 2 ^ 0 else 0) + (if b1 then 2 ^ 1 else 0) + (if b2 then 2 ^ 2 else 0) + (if b3 then 2 ^ 3 else 0) + (if b4 then 2 ^ 4 else 0) + (if b5 then 2 ^ 5 else 0) + (if b6 then 2 ^ 6 else 0) + (if b7 then 2 ^ 7 else 0) : Nat) / 2 ^ j.val % 2 == 1) : Bool) = [b0, b1, b2, b3, b4, b5, b6, b7].getD j.val false := by decide +kernel
theorem byteAt_bit (l : List Bool) (i j : Nat) (hj : j < 8) : ((byteAt l i / 2 ^ j % 2 == 1) : Bool) = l.getD (8 * i + j) false := by
  have h := byte_bits (l.getD (8 * i + 0) false) (l.getD (8 * i + 1) false) (l.getD (8 * i + 2) false) (l.getD (8 * i + 3) false) (l.getD (8 * i + 4) false) (l.getD (8 * i + 5) false) (l.getD (8 * i + 6) false) (l.getD (8 * i + 7) false) ⟨j, hj⟩
  unfold byteAt bitAt
  rw [h]
  match j, hj with
  | 0, _ => rfl
  | 1, _ => rfl
  | 2, _ => rfl
  | 3, _ => rfl
  | 4, _ => rfl
  | 5, _ => rfl
  | 6, _ => rfl
  | 7, _ => rfl
theorem bitB_pack (l : List Bool) (i : Nat) (h : i < 8 * ((l.length + 7) / 8)) : bitB (packB l) i = l.getD i false := by
  unfold bitB
  rw [List.getD_eq_getElem?_getD, packB_get l (i / 8) (by omega), Option.getD_some, byteAt_bit l (i / 8) (i % 8) (Nat.mod_lt _ (by decide))]
  rw [show 8 * (i / 8) + i % 8 = i by omega]
theorem unpack_pack (l : List Bool) : unpackB (packB l) = l ++ List.replicate (8 * ((l.length + 7) / 8) - l.length) false := by
  apply List.ext_getElem?
  intro i
  by_cases hi : i < 8 * ((l.length + 7) / 8)
  · rw [unpackB_get _ _ (by rw [packB_length]; exact hi), bitB_pack l i hi]
    by_cases hl : i < l.length
    · rw [List.getElem?_append_left hl, List.getD_eq_getElem?_getD, List.getElem?_eq_getElem hl]; rfl
    · rw [List.getElem?_append_right (by omega), List.getD_eq_getElem?_getD, List.getElem?_eq_none (by omega), List.getElem?_replicate, if_pos (by omega)]; rfl
  · rw [List.getElem?_eq_none (by rw [unpackB_length, packB_length]; omega), List.getElem?_eq_none (by simp; omega)]
theorem numB_bitsN (x n : Nat) : numB (bitsN x n) = x % 2 ^ n := by
  induction n with
  | zero => simp [bitsN, numB, Nat.mod_one]
  | succ n ih =>
    show numB (bitsN x n ++ [x / 2 ^ n % 2 == 1]) = _
    rw [numB_snoc, ih, bitsN_length, Nat.pow_succ, Nat.mod_mul]
    rcases Nat.mod_two_eq_zero_or_one (x / 2 ^ n) with h | h <;> simp [h]
/-- A reader that has the bits l ahead, and less than eight that are none. -/
structure RdIs (r : RdV) (l : List Bool) : Prop where
  fail : r.fail = false
  z : ∃ z, z < 8 ∧ r.rest = l ++ List.replicate z false ∧ r.at_ + l.length + z = 8 * r.bs.length
theorem RdIs.start (l : List Bool) : RdIs (rdOf (bytes8 (packB l))) l := by
  have e : natsOf (bytes8 (packB l)) = packB l := natsOf_bytes8 (packB_lt l)
  refine ⟨rfl, 8 * ((l.length + 7) / 8) - l.length, by omega, ?_, ?_⟩
  · show (unpackB (natsOf (bytes8 (packB l)))).drop 0 = _
    rw [e, List.drop_zero, unpack_pack]
  · show 0 + l.length + _ = 8 * (natsOf (bytes8 (packB l))).length
    rw [e, packB_length]
    omega
theorem RdIs.take {r : RdV} {x n : Nat} {l : List Bool} (h : RdIs r (bitsN x n ++ l)) (hx : x < 2 ^ n) : (r.take n).1 = x ∧ RdIs (r.take n).2 l := by
  obtain ⟨z, hz, hr, ha⟩ := h.z
  rw [List.length_append, bitsN_length] at ha
  unfold RdV.take
  rw [if_neg (fun hh => hh.elim (fun e => by rw [h.fail] at e; cases e) (fun e => by omega))]
  refine ⟨?_, h.fail, z, hz, ?_, ?_⟩
  · show numB (r.rest.take n) = x
    rw [hr, List.append_assoc, List.take_left' (bitsN_length x n), numB_bitsN, Nat.mod_eq_of_lt hx]
  · show (unpackB r.bs).drop (r.at_ + n) = _
    have : (unpackB r.bs).drop (r.at_ + n) = r.rest.drop n := by unfold RdV.rest; rw [List.drop_drop]
    rw [this, hr, List.append_assoc, List.drop_left' (bitsN_length x n)]
  · show r.at_ + n + l.length + z = 8 * r.bs.length
    omega
theorem RdIs.done {r : RdV} (h : RdIs r []) : r.done = true := by
  obtain ⟨z, hz, hr, ha⟩ := h.z
  unfold RdV.done
  rw [h.fail, hr]
  simp at ha
  simp
  omega
theorem RdIs.hdr {r : RdV} {h : HdrV} {l : List Bool} (hk : h.Ok) (hr : RdIs r (hdrBits h ++ l)) : hdrOf r = h ∧ RdIs (rdHdr r) l := by
  obtain ⟨num, any, ack, mask⟩ := h
  obtain ⟨h1, h2, h3⟩ := hk
  simp only at h1 h2 h3
  unfold hdrBits at hr
  simp only [List.append_assoc] at hr
  obtain ⟨a1, r1⟩ := hr.take (by omega)
  obtain ⟨a2, r2⟩ := r1.take (by cases any <;> decide)
  obtain ⟨a3, r3⟩ := r2.take (by omega)
  obtain ⟨a4, r4⟩ := r3.take (by omega)
  refine ⟨?_, r4⟩
  unfold hdrOf
  rw [a1, a2, a3, a4]
  cases any <;> rfl
/-- What a datagram without a row is taken for. -/
theorem dg_take (seed : Int) (k : Nat) (h : HdrV) (hk : h.Ok) (hg : h.any = true ∨ (h.ack = 0 ∧ h.mask = 0)) (wants tick : Nat) (hw : wants < 4294967296) (ht : tick < 4294967296) :
    ∃ pl : List UInt8, openF (keyBV seed k) (dgBytes seed k h wants tick) = (pl, 0) ∧ tkGood (rdOf pl) = true ∧ hdrRead (rdOf pl) = h ∧ tkWants (rdOf pl) = wants ∧ tkTick (rdOf pl) = tick ∧ tkRow (rdOf pl) = [] := by
  obtain ⟨r0, hr0⟩ : ∃ r0, rdOf (bytes8 (packB (dgBits h wants tick))) = r0 := ⟨_, rfl⟩
  have hs := RdIs.start (dgBits h wants tick)
  rw [hr0] at hs
  obtain ⟨e1, s1⟩ := hs.hdr hk
  obtain ⟨e2, s2⟩ := s1.take (by omega)
  obtain ⟨e3, s3⟩ := s2.take (by omega)
  have s3' : RdIs (((rdHdr r0).take 32).2.take 32).2 (bitsN 0 1 ++ []) := by simpa using s3
  obtain ⟨e4, s4⟩ := s3'.take (by decide)
  have hgood : hdrGood r0 = true := by
    unfold hdrGood
    rw [e1]
    have hf : (rdHdr r0).fail = false := s1.fail
    rw [hf]
    rcases hg with hg | ⟨h5, h6⟩
    · simp [hg]
    · simp [h5, h6]
  have hflag : tkFlag r0 = false := by
    unfold tkFlag tkBit
    rw [e4]
    rfl
  refine ⟨bytes8 (packB (dgBits h wants tick)), openF_wrap _ _ ?_, ?_, ?_, ?_, ?_, ?_⟩
  · have n1 := hdrBits_length h
    simp [bytes8, packB_length, dgBits, bitsN_length]
    omega
  all_goals rw [hr0]
  · unfold tkGood tkOk tkEnd
    rw [hflag, if_neg (by decide), if_neg (by decide), hgood]
    exact s4.done
  · unfold hdrRead
    rw [if_pos hgood]
    exact e1
  · exact e2
  · exact e3
  · unfold tkRow
    rw [hflag, if_neg (by decide)]
end Go.Proofs.YtojbijapdkohlaaGreatDoor
