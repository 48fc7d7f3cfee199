/- Layer 4: numbers that go round, windows. -/
import Derived.Test.YtojbijapdkohlaaGreatDoorQ24Chan
import Derived.Laws.BitsAllLaws
set_option linter.unusedSimpArgs false
set_option linter.unusedVariables false
namespace Go.Proofs.YtojbijapdkohlaaGreatDoor
open Go.RowKit
structure WinV where
  any : Bool
  last : Nat
  mask : Nat
structure WinV.Ok (w : WinV) : Prop where
  last : w.last ≤ 65535
  mask : w.mask ≤ 4294967295
/-- How many steps there are from a to b. -/
def stepsI (a b : Nat) : Int := ((b : Int) - (a : Int) + 32768) % 65536 - 32768
theorem stepsI_range (a b : Nat) : -32768 ≤ stepsI a b ∧ stepsI a b ≤ 32767 := by
  unfold stepsI
  omega
theorem wrap_u16S (n : Int) : IntKind.u16.wrap n = n % 65536 := by simp [IntKind.wrap, IntKind.bits, IntKind.signed]
theorem wrap_i16S (n : Int) : IntKind.i16.wrap n = (n + 32768) % 65536 - 32768 := by
  simp [IntKind.wrap, IntKind.bits, IntKind.signed]
  try omega
theorem serSteps (a b : Nat) (w : World) : Calls Tryz.prog 221 #[.int .u16 (a : Nat), .int .u16 (b : Nat)] w fun e w' => e = .returned (.int .i64 (stepsI a b)) ∧ w = w' := by
  go_enter Tryz.func221, Tryz.ntmps221
  go_wp2
  go_ret
  refine ⟨ret_int ?_, rfl⟩
  rw [wrap_u16S, wrap_i16S]
  unfold stepsI wrap64
  omega
def hasW (w : WinV) (n : Nat) : Bool := w.any && (decide (stepsI w.last n = 0) || (decide (stepsI w.last n < 0 ∧ -32 ≤ stepsI w.last n) && (w.mask / 2 ^ (-stepsI w.last n - 1).toNat % 2 == 1)))
theorem bit_u32 (m k : Nat) (hm : m ≤ 4294967295) : bits .and .u32 ((m : Int) / 2 ^ k) 1 = ((m / 2 ^ k % 2 : Nat) : Int) := by
  have e3 : (m : Int) / 2 ^ k = ((m / 2 ^ k : Nat) : Int) := by simp
  have hd : m / 2 ^ k ≤ 4294967295 := Nat.le_trans (Nat.div_le_self _ _) hm
  rw [e3]
  generalize m / 2 ^ k = z at hd
  show IntKind.u32.wrap ((BitVec.ofInt 32 (z : Int) &&& BitVec.ofInt 32 1).toNat : Int) = _
  have h1 : (BitVec.ofInt 32 (z : Int)).toNat = z := by
    rw [BitVec.ofInt_natCast, BitVec.toNat_ofNat]; exact Nat.mod_eq_of_lt (by omega)
  have h2 : (BitVec.ofInt 32 1).toNat = 1 := rfl
  rw [BitVec.toNat_and, h1, h2, Nat.and_one_is_mod, IntKind.wrap_u32]
  omega
set_option maxRecDepth 100000 in
set_option maxHeartbeats 4000000 in
theorem serHas (v : WinV) (hv : v.Ok) (n : Nat) (w : World) : Calls Tryz.prog 181 #[.agg #[.bool v.any, .int .u16 (v.last : Nat), .int .u32 (v.mask : Nat)], .int .u16 (n : Nat)] w fun e w' => e = .returned (.bool (hasW v n)) ∧ Below w.heap.size w w' := by
  have hS := fun W => serSteps v.last n W
  have hr := stepsI_range v.last n
  unfold hasW
  obtain ⟨any, last, mask⟩ := v
  have hm := hv.mask
  simp only at hS hm hr ⊢
  obtain ⟨d, hd⟩ : ∃ d, stepsI last n = d := ⟨_, rfl⟩
  simp only [hd] at hS hr ⊢
  obtain ⟨hr1, hr2⟩ := hr
  have HS := Lib.hid hS
  clear hd hS hv
  cases any with
  | false =>
    go_enter Tryz.func181, Tryz.ntmps181
    go_wp2_with fail
    refine (HS.out _).mono ?_
    rintro e w1 ⟨rfl, rfl⟩
    go_wp2
    go_ret
    exact ⟨rfl, (by repeat (first | with_reducible exact Below.refl _ _ | with_reducible assumption | with_reducible refine Below.drew ?_ | with_reducible refine below_drews ?_ _ | with_reducible refine Below.alloc ?_ (by first | omega | (simp; done) | (simp; omega)) _ | with_reducible refine Below.setCell ?_ (by first | omega | (simp; done) | (simp; omega)) _))⟩
  | true =>
    by_cases h0 : d = 0
    · subst h0
      go_enter Tryz.func181, Tryz.ntmps181
      go_wp2_with fail
      refine (HS.out _).mono ?_
      rintro e w1 ⟨rfl, rfl⟩
      go_wp2
      go_ret
      exact ⟨rfl, (by repeat (first | with_reducible exact Below.refl _ _ | with_reducible assumption | with_reducible refine Below.drew ?_ | with_reducible refine below_drews ?_ _ | with_reducible refine Below.alloc ?_ (by first | omega | (simp; done) | (simp; omega)) _ | with_reducible refine Below.setCell ?_ (by first | omega | (simp; done) | (simp; omega)) _))⟩
    · have t0 : (d == 0) = false := beq_eq_false_iff_ne.2 h0
      rw [decide_eq_false h0]
      by_cases hneg : d < 0
      · have t1 : decide (d < 0) = true := decide_eq_true hneg
        by_cases h32 : -32 ≤ d
        · have t2 : decide (-32 ≤ d) = true := decide_eq_true h32
          rw [decide_eq_true (show d < 0 ∧ -32 ≤ d from ⟨hneg, h32⟩)]
          obtain ⟨k, hk⟩ : ∃ k : Nat, d = -((k : Int) + 1) := ⟨(-d - 1).toNat, by omega⟩
          have e0 : (-d - 1).toNat = k := by omega
          have e1 : -d = (k : Int) + 1 := by omega
          have e2 : (k : Int) + 1 - 1 = (k : Int) := by omega
          rw [e0]
          have hk31 : k ≤ 31 := by omega
          have HB := Lib.hid (bit_u32 mask k hm)
          clear e0 hk h0 hneg
          go_enter Tryz.func181, Tryz.ntmps181
          go_wp2_with fail
          refine (HS.out _).mono ?_
          rintro e w1 ⟨rfl, rfl⟩
          go_wp2
          go_ret
          refine ⟨ret_bool (a := (bits .and .u32 ((mask : Int) / 2 ^ k) 1 == 1)) ?_, (by repeat (first | with_reducible exact Below.refl _ _ | with_reducible assumption | with_reducible refine Below.drew ?_ | with_reducible refine below_drews ?_ _ | with_reducible refine Below.alloc ?_ (by first | omega | (simp; done) | (simp; omega)) _ | with_reducible refine Below.setCell ?_ (by first | omega | (simp; done) | (simp; omega)) _))⟩
          rw [HB.out, Bool.eq_iff_iff]
          generalize mask / 2 ^ k % 2 = z
          simp
          omega
        · have t2 : decide (-32 ≤ d) = false := decide_eq_false h32
          rw [decide_eq_false (show ¬ (d < 0 ∧ -32 ≤ d) from fun h => h32 h.2)]
          clear hneg h32 h0
          go_enter Tryz.func181, Tryz.ntmps181
          go_wp2_with fail
          refine (HS.out _).mono ?_
          rintro e w1 ⟨rfl, rfl⟩
          go_wp2
          go_ret
          exact ⟨rfl, (by repeat (first | with_reducible exact Below.refl _ _ | with_reducible assumption | with_reducible refine Below.drew ?_ | with_reducible refine below_drews ?_ _ | with_reducible refine Below.alloc ?_ (by first | omega | (simp; done) | (simp; omega)) _ | with_reducible refine Below.setCell ?_ (by first | omega | (simp; done) | (simp; omega)) _))⟩
      · have t1 : decide (d < 0) = false := decide_eq_false hneg
        rw [decide_eq_false (show ¬ (d < 0 ∧ -32 ≤ d) from fun h => hneg h.1)]
        clear hneg h0
        go_enter Tryz.func181, Tryz.ntmps181
        go_wp2_with fail
        refine (HS.out _).mono ?_
        rintro e w1 ⟨rfl, rfl⟩
        go_wp2
        go_ret
        exact ⟨rfl, (by repeat (first | with_reducible exact Below.refl _ _ | with_reducible assumption | with_reducible refine Below.drew ?_ | with_reducible refine below_drews ?_ _ | with_reducible refine Below.alloc ?_ (by first | omega | (simp; done) | (simp; omega)) _ | with_reducible refine Below.setCell ?_ (by first | omega | (simp; done) | (simp; omega)) _))⟩
theorem or_u32N (a b : Nat) (ha : a < 4294967296) (hb : b < 4294967296) : bits .or .u32 (a : Int) (b : Int) = ((a ||| b : Nat) : Int) := by
  have hx : a ||| b < 2 ^ 32 := Nat.or_lt_two_pow (by omega) (by omega)
  have h1 : (BitVec.ofInt 32 (a : Int)).toNat = a := by
    rw [BitVec.ofInt_natCast, BitVec.toNat_ofNat]; exact Nat.mod_eq_of_lt (by omega)
  have h2 : (BitVec.ofInt 32 (b : Int)).toNat = b := by
    rw [BitVec.ofInt_natCast, BitVec.toNat_ofNat]; exact Nat.mod_eq_of_lt (by omega)
  show IntKind.u32.wrap ((BitVec.ofInt 32 (a : Int) ||| BitVec.ofInt 32 (b : Int)).toNat : Int) = _
  rw [BitVec.toNat_or, h1, h2, IntKind.wrap_u32]
  omega
def shl32 (x k : Nat) : Nat := x * 2 ^ min k 32 % 4294967296
theorem shl32_lt (x k : Nat) : shl32 x k < 4294967296 := Nat.mod_lt _ (by decide)
theorem shl32_cast (x k : Nat) : (x : Int) * 2 ^ min k 32 % 4294967296 = ((shl32 x k : Nat) : Int) := by
  unfold shl32
  rw [Int.natCast_emod, Int.natCast_mul, Int.natCast_pow]
  rfl
theorem shl32_one (k : Nat) : (2 : Int) ^ min k 32 % 4294967296 = ((shl32 1 k : Nat) : Int) := by
  rw [← shl32_cast 1 k, show (((1 : Nat) : Int)) = 1 from rfl, Int.one_mul]
def takeW (w : WinV) (n : Nat) : WinV × Bool :=
  if w.any = false then (⟨true, n, 0⟩, true) else
  if 0 < stepsI w.last n then (⟨true, n, shl32 w.mask (stepsI w.last n).toNat ||| shl32 1 (stepsI w.last n - 1).toNat⟩, true) else
  if stepsI w.last n = 0 ∨ stepsI w.last n < -32 ∨ hasW w n = true then (w, false) else
  (⟨true, w.last, w.mask ||| shl32 1 (-stepsI w.last n - 1).toNat⟩, true)
set_option maxRecDepth 100000 in
set_option maxHeartbeats 4000000 in
theorem serTake (v : WinV) (hv : v.Ok) (n : Nat) (w : World) : Calls Tryz.prog 178 #[.agg #[.bool v.any, .int .u16 (v.last : Nat), .int .u32 (v.mask : Nat)], .int .u16 (n : Nat)] w fun e w' => e = .returned (.tuple #[.agg #[.bool (takeW v n).1.any, .int .u16 ((takeW v n).1.last : Nat), .int .u32 ((takeW v n).1.mask : Nat)], .bool (takeW v n).2]) ∧ Below w.heap.size w w' := by
  have hS := fun W => serSteps v.last n W
  have hH := fun W => serHas v hv n W
  have hr := stepsI_range v.last n
  unfold takeW
  obtain ⟨any, last, mask⟩ := v
  have hm := hv.mask
  simp only at hS hm hr hH ⊢
  obtain ⟨d, hd⟩ : ∃ d, stepsI last n = d := ⟨_, rfl⟩
  obtain ⟨h, hh⟩ : ∃ h, hasW ⟨any, last, mask⟩ n = h := ⟨_, rfl⟩
  simp only [hd] at hS hr ⊢
  simp only [hh] at hH ⊢
  obtain ⟨hr1, hr2⟩ := hr
  have HS := Lib.hid hS
  have HH := Lib.hid hH
  have HHH := Lib.hid hh
  clear hd hS hv hH hh
  cases any with
  | false =>
    rw [if_pos rfl]
    go_enter Tryz.func178, Tryz.ntmps178
    go_wp2_with fail
    refine (HS.out _).mono ?_
    rintro e w1 ⟨rfl, rfl⟩
    go_wp2
    refine bodyPost_ret (v := .tuple #[.agg #[.bool true, .int .u16 (n : Nat), .int .u32 0], .bool true]) (by simp [results, Tryz.results178, go_sem]) rfl ?_
    exact ⟨rfl, (by repeat (first | with_reducible exact Below.refl _ _ | with_reducible assumption | with_reducible refine Below.drew ?_ | with_reducible refine below_drews ?_ _ | with_reducible refine Below.alloc ?_ (by first | omega | (simp; done) | (simp; omega)) _ | with_reducible refine Below.setCell ?_ (by first | omega | (simp; done) | (simp; omega)) _))⟩
  | true =>
    rw [if_neg (by decide)]
    by_cases hpos : 0 < d
    · rw [if_pos hpos]
      obtain ⟨j, hj⟩ : ∃ j : Nat, d = (j : Int) := ⟨d.toNat, by omega⟩
      subst hj
      obtain ⟨k, hk⟩ : ∃ k : Nat, (j : Int) - 1 = (k : Int) := ⟨j - 1, by omega⟩
      have t0 : decide ((0 : Int) < (j : Int)) = true := decide_eq_true hpos
      have t0n : decide (0 < j) = true := decide_eq_true (by omega)
      rw [hk, Int.toNat_natCast, Int.toNat_natCast]
      have k0 : 0 ≤ k := Nat.zero_le _
      clear hpos
      go_enter Tryz.func178, Tryz.ntmps178
      go_wp2_with fail
      refine (HS.out _).mono ?_
      rintro e w1 ⟨rfl, rfl⟩
      go_wp2
      have hv : bits .or .u32 ((mask : Int) * 2 ^ min j 32 % 4294967296) (2 ^ min k 32 % 4294967296) = ((shl32 mask j ||| shl32 1 k : Nat) : Int) := by
        rw [shl32_cast, shl32_one, or_u32N _ _ (shl32_lt _ _) (shl32_lt _ _)]
      rw [hv]
      refine bodyPost_ret (v := .tuple #[.agg #[.bool true, .int .u16 (n : Nat), .int .u32 ((shl32 mask j ||| shl32 1 k : Nat) : Int)], .bool true]) (by simp [results, Tryz.results178, go_sem]) rfl ?_
      exact ⟨rfl, (by repeat (first | with_reducible exact Below.refl _ _ | with_reducible assumption | with_reducible refine Below.drew ?_ | with_reducible refine below_drews ?_ _ | with_reducible refine Below.alloc ?_ (by first | omega | (simp; done) | (simp; omega)) _ | with_reducible refine Below.setCell ?_ (by first | omega | (simp; done) | (simp; omega)) _))⟩
    · rw [if_neg hpos]
      have t0 : decide (0 < d) = false := decide_eq_false hpos
      by_cases h0 : d = 0
      · rw [if_pos (.inl h0)]
        subst h0
        clear hpos
        go_enter Tryz.func178, Tryz.ntmps178
        go_wp2_with fail
        refine (HS.out _).mono ?_
        rintro e w1 ⟨rfl, rfl⟩
        go_wp2
        refine bodyPost_ret (v := .tuple #[.agg #[.bool true, .int .u16 (last : Nat), .int .u32 (mask : Nat)], .bool false]) (by simp [results, Tryz.results178, go_sem]) rfl ?_
        exact ⟨rfl, (by repeat (first | with_reducible exact Below.refl _ _ | with_reducible assumption | with_reducible refine Below.drew ?_ | with_reducible refine below_drews ?_ _ | with_reducible refine Below.alloc ?_ (by first | omega | (simp; done) | (simp; omega)) _ | with_reducible refine Below.setCell ?_ (by first | omega | (simp; done) | (simp; omega)) _))⟩
      · have t1 : (d == 0) = false := beq_eq_false_iff_ne.2 h0
        by_cases h32 : d < -32
        · rw [if_pos (.inr (.inl h32))]
          have t2 : decide (d < -32) = true := decide_eq_true h32
          clear hpos h0
          go_enter Tryz.func178, Tryz.ntmps178
          go_wp2_with fail
          refine (HS.out _).mono ?_
          rintro e w1 ⟨rfl, rfl⟩
          go_wp2
          refine bodyPost_ret (v := .tuple #[.agg #[.bool true, .int .u16 (last : Nat), .int .u32 (mask : Nat)], .bool false]) (by simp [results, Tryz.results178, go_sem]) rfl ?_
          exact ⟨rfl, (by repeat (first | with_reducible exact Below.refl _ _ | with_reducible assumption | with_reducible refine Below.drew ?_ | with_reducible refine below_drews ?_ _ | with_reducible refine Below.alloc ?_ (by first | omega | (simp; done) | (simp; omega)) _ | with_reducible refine Below.setCell ?_ (by first | omega | (simp; done) | (simp; omega)) _))⟩
        · have t2 : decide (d < -32) = false := decide_eq_false h32
          cases h with
          | true =>
            rw [if_pos (.inr (.inr rfl))]
            clear hpos h0 h32
            go_enter Tryz.func178, Tryz.ntmps178
            go_wp2_with fail
            refine (HS.out _).mono ?_
            rintro e w1 ⟨rfl, rfl⟩
            go_wp2_with fail
            refine (HH.out _).mono ?_
            rintro e w1 ⟨rfl, hb1⟩
            obtain ⟨hc1, hf1⟩ := bcell hb1
            have hs1 := hb1.size
            (try simp at hs1)
            have l1 : w.heap.size < w1.heap.size := by omega
            have l2 : w.heap.size + 1 < w1.heap.size := by omega
            have B1 : Below w.heap.size w w1 := Below.trans (by repeat (first | with_reducible exact Below.refl _ _ | with_reducible assumption | with_reducible refine Below.drew ?_ | with_reducible refine below_drews ?_ _ | with_reducible refine Below.alloc ?_ (by first | omega | (simp; done) | (simp; omega)) _ | with_reducible refine Below.setCell ?_ (by first | omega | (simp; done) | (simp; omega)) _)) (hb1.mono (by simp; omega))
            clear hb1
            go_wp2
            refine bodyPost_ret (v := .tuple #[.agg #[.bool true, .int .u16 (last : Nat), .int .u32 (mask : Nat)], .bool false]) (by simp [results, Tryz.results178, go_sem, hc1, hf1, l1, l2]) rfl ?_
            exact ⟨rfl, (by repeat (first | with_reducible exact Below.refl _ _ | with_reducible assumption | with_reducible refine Below.drew ?_ | with_reducible refine below_drews ?_ _ | with_reducible refine Below.alloc ?_ (by first | omega | (simp; done) | (simp; omega)) _ | with_reducible refine Below.setCell ?_ (by first | omega | (simp; done) | (simp; omega)) _))⟩
          | false =>
            rw [if_neg (fun hh => by
              rcases hh with hh | hh | hh
              · exact h0 hh
              · exact h32 hh
              · cases hh)]
            obtain ⟨m, hm1⟩ : ∃ m : Nat, -d = (m : Int) := ⟨(-d).toNat, by omega⟩
            obtain ⟨k, hk⟩ : ∃ k : Nat, (m : Int) - 1 = (k : Int) := ⟨m - 1, by omega⟩
            rw [hm1, hk, Int.toNat_natCast]
            clear hpos h0 h32
            go_enter Tryz.func178, Tryz.ntmps178
            go_wp2_with fail
            refine (HS.out _).mono ?_
            rintro e w1 ⟨rfl, rfl⟩
            go_wp2_with fail
            refine (HH.out _).mono ?_
            rintro e w1 ⟨rfl, hb1⟩
            obtain ⟨hc1, hf1⟩ := bcell hb1
            have hs1 := hb1.size
            (try simp at hs1)
            have l1 : w.heap.size < w1.heap.size := by omega
            have l2 : w.heap.size + 1 < w1.heap.size := by omega
            have B1 : Below w.heap.size w w1 := Below.trans (by repeat (first | with_reducible exact Below.refl _ _ | with_reducible assumption | with_reducible refine Below.drew ?_ | with_reducible refine below_drews ?_ _ | with_reducible refine Below.alloc ?_ (by first | omega | (simp; done) | (simp; omega)) _ | with_reducible refine Below.setCell ?_ (by first | omega | (simp; done) | (simp; omega)) _)) (hb1.mono (by simp; omega))
            have mb : Blk w1 w.heap.size 172 #[.bool true, .int .u16 (last : Nat), .int .u32 (mask : Nat)] := Blk.below ((Blk.new _ _ _).alloc _) hb1 (by simp; omega)
            have mz : Blk w1 (w.heap.size + 1) 172 #[.bool false, .int .u16 0, .int .u32 0] := by
              have := Blk.below (Blk.new (w.alloc (.cells #[.bool true, .int .u16 (last : Nat), .int .u32 (mask : Nat)] 172)) 172 #[.bool false, .int .u16 0, .int .u32 0]) hb1 (by simp)
              simpa using this
            have hv : bits .or .u32 (mask : Int) (2 ^ min k 32 % 4294967296) = ((mask ||| shl32 1 k : Nat) : Int) := by
              rw [shl32_one, or_u32N _ _ (by omega) (shl32_lt _ _)]
            have HV := Lib.hid hv
            have e0 : Blk (w1.setCell ⟨w.heap.size, 2, none⟩ (.int .u32 (bits .or .u32 (mask : Int) (2 ^ min k 32 % 4294967296)))) w.heap.size 172 #[.bool true, .int .u16 (last : Nat), .int .u32 (bits .or .u32 (mask : Int) (2 ^ min k 32 % 4294967296))] := mb.set_ 2 _
            have ez : Blk (w1.setCell ⟨w.heap.size, 2, none⟩ (.int .u32 (bits .or .u32 (mask : Int) (2 ^ min k 32 % 4294967296)))) (w.heap.size + 1) 172 #[.bool false, .int .u16 0, .int .u32 0] := mz.far (p := ⟨w.heap.size, 2, none⟩) (by simp) _
            have q0 := e0.cell 0
            have q1 := e0.cell 1
            have q2 := e0.cell 2
            have r0 := ez.cell 0
            have r1 := ez.cell 1
            have r2 := ez.cell 2
            have f0 := ez.frozen 0
            have f1 := ez.frozen 1
            have f2 := ez.frozen 2
            have p2 := mb.frozen 2
            have v2 := mb.cell 2
            have EZ := Lib.hid ez
            clear hb1 mb mz e0 ez hv
            go_wp2
            rw [HV.out]
            have hez := EZ.out
            rw [HV.out] at hez
            have g0 : Blk ((((w1.setCell ⟨w.heap.size, 2, none⟩ (.int .u32 ((mask ||| shl32 1 k : Nat) : Int))).setCell ⟨w.heap.size + 1, 0, none⟩ (.bool true)).setCell ⟨w.heap.size + 1, 1, none⟩ (.int .u16 (last : Nat))).setCell ⟨w.heap.size + 1, 2, none⟩ (.int .u32 ((mask ||| shl32 1 k : Nat) : Int))) (w.heap.size + 1) 172 #[.bool true, .int .u16 (last : Nat), .int .u32 ((mask ||| shl32 1 k : Nat) : Int)] := ((hez.set_ 0 (.bool true)).set_ 1 (.int .u16 (last : Nat))).set_ 2 (.int .u32 ((mask ||| shl32 1 k : Nat) : Int))
            have g1 : Below w.heap.size w ((((w1.setCell ⟨w.heap.size, 2, none⟩ (.int .u32 ((mask ||| shl32 1 k : Nat) : Int))).setCell ⟨w.heap.size + 1, 0, none⟩ (.bool true)).setCell ⟨w.heap.size + 1, 1, none⟩ (.int .u16 (last : Nat))).setCell ⟨w.heap.size + 1, 2, none⟩ (.int .u32 ((mask ||| shl32 1 k : Nat) : Int))) := (by repeat (first | with_reducible exact Below.refl _ _ | with_reducible assumption | with_reducible refine Below.drew ?_ | with_reducible refine below_drews ?_ _ | with_reducible refine Below.alloc ?_ (by first | omega | (simp; done) | (simp; omega)) _ | with_reducible refine Below.setCell ?_ (by first | omega | (simp; done) | (simp; omega)) _))
            generalize ((((w1.setCell ⟨w.heap.size, 2, none⟩ (.int .u32 ((mask ||| shl32 1 k : Nat) : Int))).setCell ⟨w.heap.size + 1, 0, none⟩ (.bool true)).setCell ⟨w.heap.size + 1, 1, none⟩ (.int .u16 (last : Nat))).setCell ⟨w.heap.size + 1, 2, none⟩ (.int .u32 ((mask ||| shl32 1 k : Nat) : Int))) = wf at g0 g1 ⊢
            have s0 := g0.cell 0
            have s1 := g0.cell 1
            have s2 := g0.cell 2
            refine bodyPost_ret (v := .tuple #[.agg #[.bool true, .int .u16 (last : Nat), .int .u32 ((mask ||| shl32 1 k : Nat) : Int)], .bool true]) (by simp [results, Tryz.results178, go_sem, s0, s1, s2]) rfl ?_
            exact ⟨rfl, g1⟩
theorem takeW_ok {v : WinV} (hv : v.Ok) {n : Nat} (hn : n ≤ 65535) : (takeW v n).1.Ok := by
  unfold takeW
  split
  · exact ⟨hn, Nat.zero_le _⟩
  · split
    · refine ⟨hn, ?_⟩
      have := Nat.or_lt_two_pow (n := 32) (shl32_lt v.mask (stepsI v.last n).toNat) (shl32_lt 1 (stepsI v.last n - 1).toNat)
      show _ ||| _ ≤ _
      omega
    · split
      · exact hv
      · refine ⟨hv.last, ?_⟩
        have := Nat.or_lt_two_pow (n := 32) (show v.mask < 2 ^ 32 by have := hv.mask; omega) (shl32_lt 1 (-stepsI v.last n - 1).toNat)
        show _ ||| _ ≤ _
        omega
end Go.Proofs.YtojbijapdkohlaaGreatDoor
