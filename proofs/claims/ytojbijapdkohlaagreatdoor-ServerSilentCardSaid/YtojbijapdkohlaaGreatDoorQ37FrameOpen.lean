/- The plain law of the sums of layer 5, over bit vectors, without any program: a step is linear and one-to-one; four bytes side by side that are others give another sum. The walks of layer 5. The walks of layer 5: the sums of two numbers, the reference's, and what is asked first. The walks of layer 7. The walks of layer 7: a copy, and what is opened. -/
import Derived.Test.YtojbijapdkohlaaGreatDoorProg
import Derived.Test.YtojbijapdkohlaaGreatDoorQ00Row
import Derived.WalkKit
import Derived.WalkSpells
import Derived.WalkLawsBesides
import Derived.Laws.BitsAllLaws
import Derived.Lib.Hide
import Derived.RegionTactic
import Derived.ChangeAlike
import Derived.Lib.SlBytesConst
import Derived.BigQuiet
import Derived.Deep.QuietTactic
namespace Go.Proofs.YtojbijapdkohlaaGreatDoor.Crc

def stp (s : BitVec 32) : BitVec 32 := (s >>> 1) ^^^ (if s.getLsbD 0 then 3988292384#32 else 0#32)
def stpN : Nat → BitVec 32 → BitVec 32
  | 0, s => s
  | n + 1, s => stpN n (stp s)
def wide (c : UInt8) : BitVec 32 := c.toBitVec.setWidth 32
def eat (s : BitVec 32) (c : UInt8) : BitVec 32 := stpN 8 (s ^^^ wide c)
def run (s : BitVec 32) (l : List UInt8) : BitVec 32 := l.foldl eat s
def sum (l : List UInt8) : BitVec 32 := ~~~ (run 4294967295#32 l)

theorem xlc (a b c : BitVec 32) : a ^^^ (b ^^^ c) = b ^^^ (a ^^^ c) := by rw [← BitVec.xor_assoc, BitVec.xor_comm a b, BitVec.xor_assoc]
theorem xsc (a b : BitVec 32) : a ^^^ (b ^^^ a) = b := by rw [xlc]; simp
theorem xsc2 (a b : BitVec 32) : a ^^^ (a ^^^ b) = b := by rw [← BitVec.xor_assoc]; simp
theorem stp_xor (a b : BitVec 32) : stp (a ^^^ b) = stp a ^^^ stp b := by
  unfold stp
  rw [BitVec.getLsbD_xor, BitVec.ushiftRight_xor_distrib]
  cases a.getLsbD 0 <;> cases b.getLsbD 0 <;> simp [BitVec.xor_assoc]
  all_goals first | exact BitVec.xor_comm _ _ | exact xlc _ _ _ | exact (xsc _ _).symm
theorem stp_zero {d : BitVec 32} (h : stp d = 0#32) : d = 0#32 := by
  unfold stp at h
  cases hb : d.getLsbD 0 with
  | true =>
    rw [hb, if_pos rfl] at h
    have h31 : ((d >>> 1) ^^^ 3988292384#32).getLsbD 31 = (0#32).getLsbD 31 := by rw [h]
    rw [BitVec.getLsbD_xor, BitVec.getLsbD_ushiftRight, BitVec.getLsbD_of_ge d (1 + 31) (by omega)] at h31
    exact absurd h31 (by decide)
  | false =>
    rw [hb] at h
    simp only [Bool.false_eq_true, if_false, BitVec.xor_zero] at h
    refine BitVec.eq_of_getLsbD_eq fun i hi => ?_
    rw [BitVec.getLsbD_zero]
    rcases i with _ | i
    · exact hb
    · have : (d >>> 1).getLsbD i = (0#32).getLsbD i := by rw [h]
      rw [BitVec.getLsbD_ushiftRight, BitVec.getLsbD_zero, Nat.add_comm] at this
      exact this
theorem stpN_xor (n : Nat) : ∀ a b, stpN n (a ^^^ b) = stpN n a ^^^ stpN n b := by
  induction n with
  | zero => intro a b; rfl
  | succ n ih => intro a b; simp only [stpN]; rw [stp_xor, ih]
theorem stpN_zero (n : Nat) : ∀ {d}, stpN n d = 0#32 → d = 0#32 := by
  induction n with
  | zero => intro d h; exact h
  | succ n ih => intro d h; exact stp_zero (ih h)
theorem stpN_add (n : Nat) : ∀ m s, stpN (n + m) s = stpN m (stpN n s) := by
  induction n with
  | zero => intro m s; rw [Nat.zero_add]; rfl
  | succ n ih => intro m s; rw [Nat.add_right_comm]; simp only [stpN]; exact ih m _
theorem stpN_low (n : Nat) : ∀ x : BitVec 32, (∀ i, i < n → x.getLsbD i = false) → stpN n x = x >>> n := by
  induction n with
  | zero => intro x _; simp [stpN]
  | succ n ih =>
    intro x h
    have e : stp x = x >>> 1 := by unfold stp; rw [h 0 (by omega)]; simp
    simp only [stpN]
    rw [e, ih (x >>> 1) (fun i hi => by rw [BitVec.getLsbD_ushiftRight]; exact h _ (by omega)), ← BitVec.shiftRight_add, Nat.add_comm 1 n]

theorem xor_self_iff {a b : BitVec 32} : a ^^^ b = 0#32 ↔ a = b := by
  constructor
  · intro h
    have : a ^^^ b ^^^ b = 0#32 ^^^ b := by rw [h]
    simpa [BitVec.xor_assoc] using this
  · rintro rfl; simp
theorem stpN_inj (n : Nat) {a b : BitVec 32} (h : stpN n a = stpN n b) : a = b :=
  xor_self_iff.1 (stpN_zero n (by rw [stpN_xor, h]; simp))
theorem eat_inj {a b : BitVec 32} {c : UInt8} (h : eat a c = eat b c) : a = b := by
  have h1 := stpN_inj 8 h
  have h2 : a ^^^ wide c ^^^ wide c = b ^^^ wide c ^^^ wide c := by rw [h1]
  simpa [BitVec.xor_assoc] using h2
theorem run_inj (l : List UInt8) : ∀ {a b : BitVec 32}, run a l = run b l → a = b := by
  induction l with
  | nil => intro a b h; exact h
  | cons c l ih => intro a b h; exact eat_inj (ih h)
theorem run_append (s : BitVec 32) (l m : List UInt8) : run s (l ++ m) = run (run s l) m := by simp [run]

/-- Four bytes as one number. -/
def four (a b c d : UInt8) : BitVec 32 := wide a ^^^ (wide b <<< 8) ^^^ (wide c <<< 16) ^^^ (wide d <<< 24)
theorem wide_bit (c : UInt8) (i : Nat) : (wide c).getLsbD i = c.toBitVec.getLsbD i := by
  unfold wide
  rw [BitVec.getLsbD_setWidth]
  rcases Nat.lt_or_ge i 32 with h | h
  · simp [h]
  · rw [BitVec.getLsbD_of_ge c.toBitVec i (by omega)]; simp
theorem wide_high (c : UInt8) (i : Nat) (h : 8 ≤ i) : (wide c).getLsbD i = false := by
  rw [wide_bit]; exact BitVec.getLsbD_of_ge _ _ h
theorem shl_back (c : UInt8) (k : Nat) (hk : k + 16 ≤ 32) : (wide c <<< (k + 8)) >>> 8 = wide c <<< k := by
  refine BitVec.eq_of_getLsbD_eq fun i hi => ?_
  rw [BitVec.getLsbD_ushiftRight, BitVec.getLsbD_shiftLeft, BitVec.getLsbD_shiftLeft]
  rcases Nat.lt_or_ge i k with h | h
  · rw [decide_eq_true (show 8 + i < k + 8 by omega), decide_eq_true h]; simp
  · have e : 8 + i - (k + 8) = i - k := by omega
    rw [e, decide_eq_false (show ¬ 8 + i < k + 8 by omega), decide_eq_false (show ¬ i < k by omega), decide_eq_true hi]
    rcases Nat.lt_or_ge (8 + i) 32 with h2 | h2
    · rw [decide_eq_true h2]
    · rw [wide_high c (i - k) (by omega)]; simp
theorem stp8_shl (c : UInt8) (k : Nat) (hk : k + 16 ≤ 32) : stpN 8 (wide c <<< (k + 8)) = wide c <<< k := by
  rw [stpN_low, shl_back c k hk]
  intro i hi
  rw [BitVec.getLsbD_shiftLeft, decide_eq_true (show i < k + 8 by omega)]
  simp
/-- To eat four bytes is to lay their number over the state, and to make 32 steps. -/
theorem eat_four (s : BitVec 32) (a b c d : UInt8) : eat (eat (eat (eat s a) b) c) d = stpN 32 (s ^^^ four a b c d) := by
  have e : ∀ x, stpN 32 x = stpN 8 (stpN 8 (stpN 8 (stpN 8 x))) := fun x => by rw [← stpN_add, ← stpN_add, ← stpN_add]
  have h8 : ∀ x : BitVec 32, x <<< 0 = x := fun x => by simp
  have s1 := fun c => stp8_shl c 0 (by omega)
  have s2 := fun c => stp8_shl c 8 (by omega)
  have s3 := fun c => stp8_shl c 16 (by omega)
  simp only [Nat.zero_add, h8, Nat.reduceAdd] at s1 s2 s3
  rw [e]
  unfold eat four
  simp only [stpN_xor, s1, s2, s3, BitVec.xor_assoc]
theorem four_inj {a b c d a' b' c' d' : UInt8} (h : four a b c d = four a' b' c' d') : a = a' ∧ b = b' ∧ c = c' ∧ d = d' := by
  have bit : ∀ i, (four a b c d).getLsbD i = (four a' b' c' d').getLsbD i := fun i => by rw [h]
  simp only [four, BitVec.getLsbD_xor, BitVec.getLsbD_shiftLeft] at bit
  have low : ∀ x y : UInt8, (∀ i, i < 8 → (wide x).getLsbD i = (wide y).getLsbD i) → x = y := fun x y hxy =>
    UInt8.eq_of_toBitVec_eq (BitVec.eq_of_getLsbD_eq fun i hi => by rw [← wide_bit, ← wide_bit]; exact hxy i hi)
  refine ⟨low _ _ fun i hi => ?_, low _ _ fun i hi => ?_, low _ _ fun i hi => ?_, low _ _ fun i hi => ?_⟩
  · have := bit i
    simpa [show i < 8 by omega, show i < 16 by omega, show i < 24 by omega, show i < 32 by omega] using this
  · have := bit (i + 8)
    rw [wide_high a (i + 8) (by omega), wide_high a' (i + 8) (by omega)] at this
    simpa [show i + 8 < 16 by omega, show i + 8 < 24 by omega, show i + 8 < 32 by omega, show ¬ (i + 8 < 8) by omega, wide_high] using this
  · have := bit (i + 16)
    rw [wide_high a (i + 16) (by omega), wide_high a' (i + 16) (by omega)] at this
    simpa [show i + 16 < 24 by omega, show i + 16 < 32 by omega, show ¬ (i + 16 < 16) by omega, wide_high, show 8 ≤ i + 16 by omega, show i + 16 - 8 = i + 8 by omega] using this
  · have := bit (i + 24)
    rw [wide_high a (i + 24) (by omega), wide_high a' (i + 24) (by omega)] at this
    simpa [show i + 24 < 32 by omega, show ¬ (i + 24 < 24) by omega, wide_high, show 8 ≤ i + 24 by omega, show i + 24 - 8 = i + 16 by omega, show 8 ≤ i + 16 by omega, show i + 24 - 16 = i + 8 by omega] using this
theorem run_four {s : BitVec 32} {l m : List UInt8} (hl : l.length = 4) (hm : m.length = 4) (h : run s l = run s m) : l = m := by
  match l, hl, m, hm with
  | [a, b, c, d], _, [a', b', c', d'], _ =>
    have h' : eat (eat (eat (eat s a) b) c) d = eat (eat (eat (eat s a') b') c') d' := h
    rw [eat_four, eat_four] at h'
    have h2 := stpN_inj 32 h'
    have h3 : four a b c d = four a' b' c' d' := by
      have : s ^^^ (s ^^^ four a b c d) = s ^^^ (s ^^^ four a' b' c' d') := by rw [h2]
      simpa [← BitVec.xor_assoc] using this
    obtain ⟨rfl, rfl, rfl, rfl⟩ := four_inj h3
    rfl
/-- Of two lists that part in four bytes side by side alone the sums are the same just if the lists are. -/
theorem sum_four {p q l m : List UInt8} (hl : l.length = 4) (hm : m.length = 4) : sum (p ++ l ++ q) = sum (p ++ m ++ q) ↔ l = m := by
  constructor
  · intro h
    have h1 : run 4294967295#32 (p ++ l ++ q) = run 4294967295#32 (p ++ m ++ q) := by
      have : ~~~ sum (p ++ l ++ q) = ~~~ sum (p ++ m ++ q) := by rw [h]
      simpa [sum] using this
    rw [run_append, run_append, run_append 4294967295#32 (p ++ m), run_append _ p m] at h1
    exact run_four hl hm (run_inj q h1)
  · rintro rfl; rfl

/-- The sums hang on the bytes by exclusive or. -/
def lay : List UInt8 → List UInt8 → List UInt8 → List UInt8
  | a :: l, b :: m, c :: n => (a ^^^ b ^^^ c) :: lay l m n
  | _, _, _ => []
theorem wide_xor (a b : UInt8) : wide (a ^^^ b) = wide a ^^^ wide b := by
  refine BitVec.eq_of_getLsbD_eq fun i hi => ?_
  rw [BitVec.getLsbD_xor, wide_bit, wide_bit, wide_bit, UInt8.toBitVec_xor, BitVec.getLsbD_xor]
theorem run_lay (l : List UInt8) : ∀ (m n : List UInt8) (s t u : BitVec 32), m.length = l.length → n.length = l.length →
    run (s ^^^ t ^^^ u) (lay l m n) = run s l ^^^ run t m ^^^ run u n := by
  induction l with
  | nil =>
    intro m n s t u hm hn
    obtain rfl : m = [] := List.eq_nil_of_length_eq_zero hm
    obtain rfl : n = [] := List.eq_nil_of_length_eq_zero hn
    rfl
  | cons a l ih =>
    intro m n s t u hm hn
    match m, n, hm, hn with
    | b :: m, c :: n, hm, hn =>
      have e : eat (s ^^^ t ^^^ u) (a ^^^ b ^^^ c) = eat s a ^^^ eat t b ^^^ eat u c := by
        unfold eat
        rw [← stpN_xor, ← stpN_xor, wide_xor, wide_xor]
        congr 1
        simp only [BitVec.xor_assoc]
        rw [xlc (wide a) t, xlc (wide b) u, xlc (wide a) u]
      show run (eat (s ^^^ t ^^^ u) (a ^^^ b ^^^ c)) (lay l m n) = _
      rw [e, ih m n _ _ _ (by simpa using hm) (by simpa using hn)]
      rfl
theorem sum_lay (l m n : List UInt8) (hm : m.length = l.length) (hn : n.length = l.length) : sum l ^^^ sum m ^^^ sum n ^^^ sum (lay l m n) = 0#32 := by
  have h := run_lay l m n 4294967295#32 4294967295#32 4294967295#32 hm hn
  have e : (4294967295#32 ^^^ 4294967295#32 ^^^ 4294967295#32 : BitVec 32) = 4294967295#32 := by decide
  rw [e] at h
  unfold sum
  rw [h]
  generalize run 4294967295#32 l = a
  generalize run 4294967295#32 m = b
  generalize run 4294967295#32 n = c
  refine BitVec.eq_of_getLsbD_eq fun i hi => ?_
  simp only [BitVec.getLsbD_xor, BitVec.getLsbD_not, BitVec.getLsbD_zero, hi, decide_true, Bool.true_and]
  cases a.getLsbD i <;> cases b.getLsbD i <;> cases c.getLsbD i <;> rfl
end Go.Proofs.YtojbijapdkohlaaGreatDoor.Crc
namespace Go.Proofs.YtojbijapdkohlaaGreatDoor
open Go.RowKit

def u32V (x : BitVec 32) : Value := .int .u32 (x.toNat : Int)
def byteV (c : UInt8) : Value := .int .u8 (c.toNat : Int)
def bytesV (l : List UInt8) : List Value := l.map byteV
attribute [go_sem] u32V byteV

theorem bits_u32 (a b : BitVec 32) : bits .xor .u32 (a.toNat : Int) (b.toNat : Int) = ((a ^^^ b).toNat : Int) := by
  rw [u32_xor_nat _ _ a.isLt b.isLt, BitVec.toNat_xor]
theorem and_u32 (a b : BitVec 32) : bits .and .u32 (a.toNat : Int) (b.toNat : Int) = ((a &&& b).toNat : Int) := by
  rw [u32_and_nat _ _ a.isLt b.isLt, BitVec.toNat_and]
theorem wide_nat (c : UInt8) : ((c.toNat : Int) % 4294967296) = ((Crc.wide c).toNat : Int) := by
  have h : (Crc.wide c).toNat = c.toNat := by
    unfold Crc.wide
    rw [BitVec.toNat_setWidth]
    exact Nat.mod_eq_of_lt (Nat.lt_of_lt_of_le c.toBitVec.isLt (by decide))
  have := c.toNat_lt
  rw [h]; omega
theorem stp_walk (s : BitVec 32) : bits .xor .u32 ((s.toNat : Int) / 2) (bits .and .u32 3988292384 (- bits .and .u32 (s.toNat : Int) 1 % 4294967296)) = ((Crc.stp s).toNat : Int) := by
  have e1 : ((s.toNat : Int) / (2 : Int)) = ((s >>> 1).toNat : Int) := by
    rw [BitVec.toNat_ushiftRight, Nat.shiftRight_eq_div_pow]; omega
  have e2 : bits .and .u32 (s.toNat : Int) 1 = ((s.toNat % 2 : Nat) : Int) := by
    have := u32_and_nat s.toNat 1 s.isLt (by decide)
    rw [show ((1 : Nat) : Int) = 1 from rfl] at this
    rw [this, Nat.and_one_is_mod]
  have hb : s.getLsbD 0 = decide (s.toNat % 2 = 1) := by
    rw [BitVec.getLsbD, Nat.testBit_zero]
  rw [e1, e2]
  unfold Crc.stp
  rw [hb]
  rcases Nat.mod_two_eq_zero_or_one s.toNat with h | h
  · rw [h]
    have : bits .and .u32 3988292384 (-((0 : Nat) : Int) % 4294967296) = ((0#32).toNat : Int) := by decide
    rw [this, bits_u32]; rfl
  · rw [h]
    have : bits .and .u32 3988292384 (-((1 : Nat) : Int) % 4294967296) = ((3988292384#32).toNat : Int) := by decide
    rw [this, bits_u32]; rfl
theorem stpN_succ (j : Nat) (s : BitVec 32) : Crc.stpN (j + 1) s = Crc.stp (Crc.stpN j s) := by rw [Crc.stpN_add]; rfl
theorem run_snoc (l : List UInt8) (k : Nat) (b : UInt8) (h : l[k]? = some b) (s : BitVec 32) : Crc.run s (l.take (k + 1)) = Crc.stpN 8 (Crc.run s (l.take k) ^^^ Crc.wide b) := by
  rw [List.take_add_one, h, Crc.run_append]; rfl
theorem not_u32 (s : BitVec 32) : bits .xor .u32 IntKind.u32.max (s.toNat : Int) = ((~~~ s).toNat : Int) := by
  have e : IntKind.u32.max = ((4294967295#32 : BitVec 32).toNat : Int) := by decide
  rw [e, bits_u32]
  congr 2
theorem ret_u32 {a b : Int} (h : a = b) : Ending.returned (.int .u32 a) = .returned (.int .u32 b) := by rw [h]
theorem at_bytes {l : List UInt8} {k : Nat} {v : Value} (hx : (bytesV l)[k]? = some v) : ∃ b, l[k]? = some b ∧ v = byteV b := by
  simp only [bytesV, List.getElem?_map, Option.map_eq_some_iff] at hx
  obtain ⟨b, h1, h2⟩ := hx
  exact ⟨b, h1, h2.symm⟩

set_option maxHeartbeats 400000 in
theorem crcSum (l : List UInt8) (w : World) (B : Nat) (A : Option Addr) (n c : Nat) (h : Reads w B 1 A n (bytesV l)) (hn : n ≤ 9223372036854775807) :
    Calls Tryz.prog 220 #[.slice A n c] w fun e w' => e = .returned (u32V (Crc.sum l)) ∧ w = w' := by
  have hl : l.length = n := by have := h.1; simpa [bytesV] using this
  have HL := Lib.hid hl
  clear hl
  go_enter Tryz.func220, Tryz.ntmps220
  go_wp2
  go_loop [3, 5, 8] (fun s _ i => ∃ k : Nat, k ≤ n ∧ i = .int .i64 k ∧ s = .int .u32 ((Crc.run 4294967295#32 (l.take k)).toNat : Int)) (fun _ _ i => n - (intOf i).toNat)
  case atStart => exact ⟨0, Nat.zero_le _, rfl, rfl⟩
  case round =>
    obtain ⟨k, hk, rfl, rfl⟩ := hrel
    by_cases hlt : k < n
    · obtain ⟨ad, v, rfl, _, hx, hc⟩ := h.at_ hlt
      obtain ⟨b, hb, rfl⟩ := at_bytes hx
      have HB := Lib.hid hb
      clear hb hx h
      unfold byteV at hc
      go_wp2
      rw [wide_nat, bits_u32]
      go_loop [3, 16] (fun s j => ∃ m : Nat, m ≤ 8 ∧ j = .int .i64 m ∧ s = .int .u32 ((Crc.stpN m (Crc.run 4294967295#32 (l.take k) ^^^ Crc.wide b)).toNat : Int)) (fun _ j => 8 - (intOf j).toNat)
      case atStart => exact ⟨0, by omega, rfl, rfl⟩
      case round =>
        obtain ⟨m, hm, rfl, rfl⟩ := hrel
        by_cases hlm : m < 8
        · go_wp2
          rw [stp_walk]
          go_round
          case rel => exact ⟨m + 1, by omega, by go_num, by rw [stpN_succ]⟩
          case measure => simp [intOf]; omega
        · go_wp2
          go_round
          case rel => exact ⟨k + 1, by omega, by go_num, by rw [run_snoc l k b HB.out, show m = 8 from by omega]⟩
          case measure => simp [intOf]; omega
    · go_wp2
      rw [not_u32]
      go_ret
      exact ⟨ret_u32 (by rw [List.take_of_length_le (by rw [HL.out]; omega)]; rfl), rfl⟩
end Go.Proofs.YtojbijapdkohlaaGreatDoor
namespace Go.Proofs.YtojbijapdkohlaaGreatDoor
open Go.RowKit

set_option maxRecDepth 100000 in
theorem elt29 : Elt Tryz.prog 100 5 1 1 := Elt.mk' Tryz.underlying100 (.int .u8 0) (by kernel_rfl) rfl (by decide) (by decide)
/-- Byte i of a number. -/
def byteOf (a : BitVec 32) (i : Nat) : UInt8 := UInt8.ofNat (a.toNat / 256 ^ i)
theorem byteOf_nat (a : BitVec 32) (i : Nat) : (byteOf a i).toNat = a.toNat / 256 ^ i % 256 := by
  unfold byteOf; simp [UInt8.toNat_ofNat']
def num4 (a : BitVec 32) : List UInt8 := [byteOf a 0, byteOf a 1, byteOf a 2, byteOf a 3]
def mixL (a b : BitVec 32) : List UInt8 := num4 a ++ num4 b
def mixB (a b : BitVec 32) : BitVec 32 := Crc.sum (mixL a b)
theorem byteV_at (a : BitVec 32) (i : Nat) (x : Int) (h : x = ((a.toNat / 256 ^ i % 256 : Nat) : Int)) : Value.int .u8 x = byteV (byteOf a i) := by
  unfold byteV; rw [byteOf_nat, h]
theorem mixL_cells (a b : BitVec 32) : [Value.int .u8 (↑a.toNat % 256), .int .u8 (↑a.toNat / 256 % 256), .int .u8 (↑a.toNat / 65536 % 256), .int .u8 (↑a.toNat / 16777216),
    .int .u8 (↑b.toNat % 256), .int .u8 (↑b.toNat / 256 % 256), .int .u8 (↑b.toNat / 65536 % 256), .int .u8 (↑b.toNat / 16777216)] = bytesV (mixL a b) := by
  have ha := a.isLt
  have hb := b.isLt
  rw [byteV_at a 0 (↑a.toNat % 256) (by omega), byteV_at a 1 (↑a.toNat / 256 % 256) (by omega), byteV_at a 2 (↑a.toNat / 65536 % 256) (by omega), byteV_at a 3 (↑a.toNat / 16777216) (by omega),
    byteV_at b 0 (↑b.toNat % 256) (by omega), byteV_at b 1 (↑b.toNat / 256 % 256) (by omega), byteV_at b 2 (↑b.toNat / 65536 % 256) (by omega), byteV_at b 3 (↑b.toNat / 16777216) (by omega)]
  rfl

set_option maxHeartbeats 1000000 in
theorem crcMix (a b : BitVec 32) (w : World) : Calls Tryz.prog 219 #[u32V a, u32V b] w fun e w' => e = .returned (u32V (mixB a b)) ∧ Below w.heap.size w w' := by
  unfold u32V
  have hcells := mixL_cells a b
  have HC := Lib.hid hcells
  clear hcells
  go_enter Tryz.func219, Tryz.ntmps219
  go_wp2
  refine wp_loop_rounds 5 ?_
  rw [rounds_succ]
  go_wp2
  go_region
  go_wp2
  rw [rounds_succ]
  go_wp2
  go_region
  go_wp2
  rw [rounds_succ]
  go_wp2
  go_region
  go_wp2
  rw [rounds_succ]
  go_wp2
  go_region
  go_wp2
  rw [rounds_succ]
  go_wp2_with fail
  refine (crcSum (mixL a b) _ (w.heap.size + 1) (some ⟨w.heap.size, 0, none⟩) 8 8 ?_ (by omega)).mono ?_
  · rw [← HC.out]
    exact Reads.new (size := 1) (n := 8) (by omega) rfl
  · rintro e w' ⟨rfl, rfl⟩
    go_wp2
    go_ret
    exact ⟨rfl, below_drews ((Below.refl _ _).alloc (Nat.le_refl _) _) 4⟩
theorem oneCell_bytes (l : List UInt8) : ∀ u ∈ bytesV l, u.oneCell' = true := by
  intro u hu
  simp only [bytesV, List.mem_map] at hu
  obtain ⟨b, _, rfl⟩ := hu
  rfl
theorem bytesV_append (l m : List UInt8) : bytesV (l ++ m) = bytesV l ++ bytesV m := by simp [bytesV]
end Go.Proofs.YtojbijapdkohlaaGreatDoor
namespace Go.Proofs.YtojbijapdkohlaaGreatDoor
open Go.RowKit

def frameSum (key : BitVec 32) (l : List UInt8) : BitVec 32 := mixB (Crc.sum l) (mixB key (BitVec.ofNat 32 l.length))
/-- A call that gives out a list of bytes of its own, and an error. -/
def RetOwn (w : World) (out : List UInt8) (err : Int) (e : Ending) (w' : World) : Prop :=
  ∃ v n, e = .returned (.tuple #[v, .int .i64 err]) ∧ w'.ownsRow w.heap.size 5 1 v n (bytesV out) ∧ Below w.heap.size w w'
theorem ofNat_u32 (n : Nat) : ((n : Int) % 4294967296) = ((BitVec.ofNat 32 n).toNat : Int) := by rw [BitVec.toNat_ofNat]; omega
set_option maxHeartbeats 400000 in
theorem frame_sum (key : BitVec 32) (l : List UInt8) (w : World) (A : Option Addr) (n c : Nat) (h : Reads w w.heap.size 1 A n (bytesV l)) (hn : n ≤ 9223372036854775807) :
    Calls Tryz.prog 173 #[u32V key, .slice A n c] w fun e w' => e = .returned (u32V (frameSum key l)) ∧ Below w.heap.size w w' := by
  have hl : l.length = n := by have := h.1; simpa [bytesV] using this
  have HL := Lib.hid hl
  clear hl
  unfold u32V
  go_enter Tryz.func173, Tryz.ntmps173
  go_wp2_with fail
  refine (crcSum l _ _ A n c h hn).mono ?_
  rintro e w2 ⟨rfl, rfl⟩
  go_wp2_with fail
  rw [ofNat_u32]
  refine (crcMix key (BitVec.ofNat 32 n) _).mono ?_
  rintro e w2 ⟨rfl, hb2⟩
  unfold u32V
  go_wp2_with fail
  refine (crcMix (Crc.sum l) (mixB key (BitVec.ofNat 32 n)) _).mono ?_
  rintro e w3 ⟨rfl, hb3⟩
  unfold u32V
  go_wp2
  go_ret
  refine ⟨ret_u32 ?_, hb2.trans (hb3.mono hb2.size)⟩
  unfold frameSum
  rw [HL.out]
theorem num4_cells (a : BitVec 32) : [Value.int .u8 (↑a.toNat % 256), .int .u8 (↑a.toNat / 256 % 256), .int .u8 (↑a.toNat / 65536 % 256), .int .u8 (↑a.toNat / 16777216)] = bytesV (num4 a) := by
  have ha := a.isLt
  rw [byteV_at a 0 (↑a.toNat % 256) (by omega), byteV_at a 1 (↑a.toNat / 256 % 256) (by omega), byteV_at a 2 (↑a.toNat / 65536 % 256) (by omega), byteV_at a 3 (↑a.toNat / 16777216) (by omega)]
  rfl
def wrapF (key : BitVec 32) (l : List UInt8) : List UInt8 × Int := if l.length ≤ 1400 then (num4 (frameSum key l) ++ l, 0) else ([], 3)
set_option maxHeartbeats 400000 in
theorem frame_wrap (key : BitVec 32) (l : List UInt8) (w : World) (A : Option Addr) (n c : Nat) (h : Reads w w.heap.size 1 A n (bytesV l)) (hn : n ≤ 9223372036854775807) :
    Calls Tryz.prog 126 #[u32V key, .slice A n c] w (RetOwn w (wrapF key l).1 (wrapF key l).2) := by
  have hl : l.length = n := by have := h.1; simpa [bytesV] using this
  by_cases hle : n ≤ 1400
  · have e : wrapF key l = (num4 (frameSum key l) ++ l, 0) := by unfold wrapF; rw [if_pos (by omega)]
    have HE := Lib.hid e
    have HL := Lib.hid hl
    rw [e]
    clear hl e
    unfold u32V
    go_enter Tryz.func126, Tryz.ntmps126
    go_wp2_with fail
    refine (frame_sum key l _ A n c h hn).mono ?_
    rintro e w1 ⟨rfl, hb1⟩
    have h1 := h.below hb1
    unfold u32V
    have hc := num4_cells (frameSum key l)
    have HC := Lib.hid hc
    clear hc
    have := (frameSum key l).isLt
    have ho : (w1.alloc (.cells #[.int .u8 (↑(frameSum key l).toNat % 256), .int .u8 (↑(frameSum key l).toNat / 256 % 256), .int .u8 (↑(frameSum key l).toNat / 65536 % 256), .int .u8 (↑(frameSum key l).toNat / 16777216)] 5)).ownsRow w.heap.size 5 1 (.slice (some ⟨w1.heap.size, 0, none⟩) 4 4) 4 (bytesV (num4 (frameSum key l))) := by
      rw [← HC.out]
      exact World.ownsRow_lit (e := 5) (size := 1) w1 #[.int .u8 (↑(frameSum key l).toNat % 256), .int .u8 (↑(frameSum key l).toNat / 256 % 256), .int .u8 (↑(frameSum key l).toNat / 65536 % 256), .int .u8 (↑(frameSum key l).toNat / 16777216)] 4 hb1.size (by unfold maxLen; omega) rfl
    have hr := h1.alloc hb1.size (.cells #[.int .u8 (↑(frameSum key l).toNat % 256), .int .u8 (↑(frameSum key l).toNat / 256 % 256), .int .u8 (↑(frameSum key l).toNat / 65536 % 256), .int .u8 (↑(frameSum key l).toNat / 16777216)] 5)
    go_wp2_with (at_builtin; refine wpList_app _ rfl _ _ 100 rfl elt29 _ _ _ _ rfl ho w.heap.size A n c (bytesV l) rfl hr (oneCell_bytes l) (by omega) (by have := hb1.size; simp; omega) ?_; intro v' w2 ho2 hg hb')
    have hbel := below_own (hb1.alloc hb1.size (.cells #[.int .u8 (↑(frameSum key l).toNat % 256), .int .u8 (↑(frameSum key l).toNat / 256 % 256), .int .u8 (↑(frameSum key l).toNat / 65536 % 256), .int .u8 (↑(frameSum key l).toNat / 16777216)] 5)) ho hg (by have := hb1.size; simp; omega) (Nat.le_refl _)
    go_ret2
    exact ⟨v', 4 + n, rfl, by rw [bytesV_append]; exact ho2, hbel⟩
  · have e : wrapF key l = ([], 3) := by unfold wrapF; rw [if_neg (by omega)]
    rw [e]
    clear e hl
    go_enter Tryz.func126, Tryz.ntmps126
    go_wp2
    go_ret2
    exact ⟨_, 0, rfl, World.ownsRow_nil _ _ _ _, Below.refl _ _⟩
end Go.Proofs.YtojbijapdkohlaaGreatDoor
namespace Go.Proofs.YtojbijapdkohlaaGreatDoor
open Go.RowKit
/-- A call that gives out a list of bytes of its own. -/
def GivesOwn (w : World) (out : List UInt8) (e : Ending) (w' : World) : Prop :=
  ∃ v n, e = .returned v ∧ w'.ownsRow w.heap.size 5 1 v n (bytesV out) ∧ Below w.heap.size w w'
set_option maxHeartbeats 400000 in
theorem cloneBytes (l : List UInt8) (w : World) (A : Option Addr) (n c : Nat) (h : Reads w w.heap.size 1 A n (bytesV l)) (hn : n ≤ 140737488355328) :
    Calls Tryz.prog 140 #[.slice A n c] w (GivesOwn w l) := by
  have hl : l.length = n := by have := h.1; simpa [bytesV] using this
  have keq := fun w => Lib.run_eql_slice_nil (P := Tryz.prog) w 100 5 A n c 0 0 Tryz.underlying100
  rcases A with _ | ad
  · have hnil : l = [] := by
      have := h.2
      rcases Nat.eq_zero_or_pos n with h0 | h0
      · exact List.eq_nil_of_length_eq_zero (by omega)
      · obtain ⟨_, h1, _⟩ := this h0; cases h1
    subst hnil
    go_enter Tryz.func140, Tryz.ntmps140
    go_wp2
    go_ret
    exact ⟨_, 0, rfl, World.ownsRow_nil _ _ _ _, Below.refl _ _⟩
  · clear hl
    have ho : (w.alloc (.cells #[] 5)).ownsRow w.heap.size 5 1 (.slice (some ⟨w.heap.size, 0, none⟩) 0 0) 0 [] := World.ownsRow_lit (e := 5) (size := 1) w #[] 0 (Nat.le_refl _) (by unfold maxLen; omega) rfl
    have hr := h.alloc (Nat.le_refl _) (.cells #[] 5)
    go_enter Tryz.func140, Tryz.ntmps140
    go_wp2_with (at_builtin; refine wpList_app _ rfl _ _ 100 rfl elt29 _ _ _ _ rfl ho w.heap.size (some ad) n c (bytesV l) rfl hr (oneCell_bytes l) (by omega) (by simp) ?_; intro v' w2 ho2 hg hb')
    have hbel := below_own ((Below.refl _ _).alloc (Nat.le_refl _) (.cells #[] 5)) ho hg (by simp) (Nat.le_refl _)
    go_ret
    exact ⟨v', 0 + n, rfl, by simpa using ho2, hbel⟩
def openF (key : BitVec 32) (b : List UInt8) : List UInt8 × Int :=
  if b.length < 4 then ([], 4) else if 1404 < b.length then ([], 3) else if b.take 4 = num4 (frameSum key (b.drop 4)) then (b.drop 4, 0) else ([], 5)
/-- Four bytes as a number. -/
def un4 (a b c d : UInt8) : BitVec 32 := BitVec.ofNat 32 (a.toNat + 256 * b.toNat + 65536 * c.toNat + 16777216 * d.toNat)
theorem un4_nat (a b c d : UInt8) : (un4 a b c d).toNat = a.toNat + 256 * b.toNat + 65536 * c.toNat + 16777216 * d.toNat := by
  have := a.toNat_lt
  have := b.toNat_lt
  have := c.toNat_lt
  have := d.toNat_lt
  unfold un4
  rw [BitVec.toNat_ofNat]; omega
theorem num4_un4 (a b c d : UInt8) (s : BitVec 32) : un4 a b c d = s ↔ [a, b, c, d] = num4 s := by
  have ha := a.toNat_lt
  have hb := b.toNat_lt
  have hc := c.toNat_lt
  have hd := d.toNat_lt
  have hs := s.isLt
  have e := un4_nat a b c d
  simp only [num4, List.cons.injEq, and_true]
  constructor
  · rintro rfl
    refine ⟨?_, ?_, ?_, ?_⟩ <;> (apply UInt8.toNat_inj.1; rw [byteOf_nat, e]; omega)
  · rintro ⟨h0, h1, h2, h3⟩
    have g0 := byteOf_nat s 0
    have g1 := byteOf_nat s 1
    have g2 := byteOf_nat s 2
    have g3 := byteOf_nat s 3
    rw [← h0] at g0
    rw [← h1] at g1
    rw [← h2] at g2
    rw [← h3] at g3
    apply BitVec.eq_of_toNat_eq
    rw [e]; omega
theorem or_num (x y : Nat) (k : Nat) (hx : x < 2 ^ k) (hy : x + 2 ^ k * y < 4294967296) : bits .or .u32 (x : Int) ((2 ^ k * y : Nat) : Int) = ((x + 2 ^ k * y : Nat) : Int) := by
  rw [u32_or_nat _ _ (by omega) (by omega), Nat.or_comm, ← Nat.two_pow_add_eq_or_of_lt hx, Nat.add_comm]
theorem un4_walk (a b c d : UInt8) : bits .or .u32 (bits .or .u32 (bits .or .u32 (a.toNat : Int) ((b.toNat : Int) * 256)) ((c.toNat : Int) * 65536)) ((d.toNat : Int) * 16777216) = ((un4 a b c d).toNat : Int) := by
  have ha := a.toNat_lt
  have hb := b.toNat_lt
  have hc := c.toNat_lt
  have hd := d.toNat_lt
  rw [un4_nat]
  have e1 := or_num a.toNat b.toNat 8 (by omega) (by omega)
  have e2 := or_num (a.toNat + 2 ^ 8 * b.toNat) c.toNat 16 (by omega) (by omega)
  have e3 := or_num (a.toNat + 2 ^ 8 * b.toNat + 2 ^ 16 * c.toNat) d.toNat 24 (by omega) (by omega)
  rw [show ((b.toNat : Int) * 256) = ((2 ^ 8 * b.toNat : Nat) : Int) from by omega, e1, show ((c.toNat : Int) * 65536) = ((2 ^ 16 * c.toNat : Nat) : Int) from by omega, e2,
    show ((d.toNat : Int) * 16777216) = ((2 ^ 24 * d.toNat : Nat) : Int) from by omega, e3]
theorem un4_mod (a b c d : UInt8) : bits .or .u32 (bits .or .u32 (bits .or .u32 (a.toNat : Int) ((b.toNat : Int) * 256 % 4294967296)) ((c.toNat : Int) * 65536 % 4294967296)) ((d.toNat : Int) * 16777216 % 4294967296) = ((un4 a b c d).toNat : Int) := by
  have hb := b.toNat_lt
  have hc := c.toNat_lt
  have hd := d.toNat_lt
  rw [show (b.toNat : Int) * 256 % 4294967296 = (b.toNat : Int) * 256 from by omega, show (c.toNat : Int) * 65536 % 4294967296 = (c.toNat : Int) * 65536 from by omega,
    show (d.toNat : Int) * 16777216 % 4294967296 = (d.toNat : Int) * 16777216 from by omega]
  exact un4_walk a b c d
theorem Reads.at4 {w : World} {B n : Nat} {A : Option Addr} {l : List UInt8} (h : Reads w B 1 A n (bytesV l)) (hn : 4 ≤ n) :
    ∃ g o a b c d m, A = some ⟨g, o, none⟩ ∧ l = a :: b :: c :: d :: m ∧ w.cell? ⟨g, o, none⟩ = some (byteV a) ∧ w.cell? ⟨g, o + 1, none⟩ = some (byteV b) ∧ w.cell? ⟨g, o + 2, none⟩ = some (byteV c) ∧ w.cell? ⟨g, o + 3, none⟩ = some (byteV d) := by
  obtain ⟨⟨g, o, sp⟩, e, _, hc⟩ := h.2 (by omega)
  have hl : l.length = n := by have := h.1; simpa [bytesV] using this
  have hsp : sp = none := by
    have h0 := hc 0 _ (List.getElem?_eq_getElem (by simp [bytesV]; omega))
    simpa [Addr.add] using World.cell?_spot h0
  subst hsp
  simp only [add_none] at hc
  match l, hl with
  | a :: b :: c :: d :: m, _ => exact ⟨g, o, a, b, c, d, m, e, rfl, hc 0 _ rfl, hc 1 _ rfl, hc 2 _ rfl, hc 3 _ rfl⟩
  | [], hl => simp at hl; omega
  | [_], hl => simp at hl; omega
  | [_, _], hl => simp at hl; omega
  | [_, _, _], hl => simp at hl; omega
theorem wrap_byte (c : UInt8) : IntKind.u32.wrap (c.toNat : Int) = (c.toNat : Int) := by
  have := c.toNat_lt
  rw [IntKind.wrap_u32]; omega
set_option maxHeartbeats 1000000 in
theorem frame_open (key : BitVec 32) (l : List UInt8) (w : World) (A : Option Addr) (n c : Nat) (h : Reads w w.heap.size 1 A n (bytesV l)) (hn : n ≤ 9223372036854775807) (hnc : n ≤ c) :
    Calls Tryz.prog 101 #[u32V key, .slice A n c] w (RetOwn w (openF key l).1 (openF key l).2) := by
  have hl : l.length = n := by have := h.1; simpa [bytesV] using this
  by_cases h4 : n < 4
  · have e : openF key l = ([], 4) := by unfold openF; rw [if_pos (by omega)]
    rw [e]
    clear e hl
    go_enter Tryz.func101, Tryz.ntmps101
    go_wp2
    go_ret2
    exact ⟨_, 0, rfl, World.ownsRow_nil _ _ _ _, Below.refl _ _⟩
  by_cases hle : n ≤ 1404
  · obtain ⟨g, o, a, b, cc, d, m, rfl, rfl, h0, h1, h2, h3⟩ := h.at4 (by omega)
    unfold byteV at h0 h1 h2 h3
    have hm : Reads w w.heap.size 1 (cutA (some ⟨g, o, none⟩) c 4 1) (n - 4) (bytesV m) := by
      have := h.tail (k := 4) (c := c) (by omega) hnc
      simpa [bytesV] using this
    have kc := run_cut elt29 (some ⟨g, o, none⟩) n c .i64 4 (by omega) 4 rfl
    have e := un4_mod a b cc d
    have z0 := wrap_byte a
    have z1 := wrap_byte b
    have z2 := wrap_byte cc
    have z3 := wrap_byte d
    have j0 : 0 < n := by omega
    have j1 : 1 < n := by omega
    have j2 : 2 < n := by omega
    have j3 : 3 < n := by omega
    clear h
    by_cases heq : un4 a b cc d = frameSum key m
    · have ht : (((un4 a b cc d).toNat : Int) != ((frameSum key m).toNat : Int)) = false := by rw [heq]; simp
      have eo : openF key (a :: b :: cc :: d :: m) = (m, 0) := by
        unfold openF
        rw [if_neg (by omega), if_neg (by omega), if_pos (by exact (num4_un4 a b cc d _).1 heq)]; rfl
      rw [eo]
      clear eo heq hl
      go_enter Tryz.func101, Tryz.ntmps101
      go_wp2
      go_quiet (fail)
      go_wp2_with fail
      refine (frame_sum key m _ _ (n - 4) (c - 4) (by exact hm) (by omega)).mono ?_
      rintro e1 w1 ⟨rfl, hb1⟩
      have hm1 := (hm.drewN nq).below hb1
      unfold u32V
      go_wp2_with fail
      refine (cloneBytes m _ _ (n - 4) (c - 4) (hm1.more hb1.size) (by omega)).mono ?_
      rintro e2 w2 ⟨v, n2, rfl, ho2, hb2⟩
      go_wp2
      go_ret2
      exact ⟨v, n2, rfl, own_mono ho2 hb1.size, (below_drews (Below.refl _ _) nq).trans (hb1.trans (hb2.mono hb1.size))⟩
    · have ht : (((un4 a b cc d).toNat : Int) != ((frameSum key m).toNat : Int)) = true := by
        rw [bne_iff_ne]; intro e'; exact heq (BitVec.eq_of_toNat_eq (by omega))
      have eo : openF key (a :: b :: cc :: d :: m) = ([], 5) := by
        unfold openF
        rw [if_neg (by omega), if_neg (by omega), if_neg (fun e' => heq ((num4_un4 a b cc d _).2 (by exact e')))]
      rw [eo]
      clear eo heq hl
      go_enter Tryz.func101, Tryz.ntmps101
      go_wp2
      go_quiet (fail)
      go_wp2_with fail
      refine (frame_sum key m _ _ (n - 4) (c - 4) (by exact hm) (by omega)).mono ?_
      rintro e1 w1 ⟨rfl, hb1⟩
      unfold u32V
      go_wp2
      go_ret2
      exact ⟨_, 0, rfl, World.ownsRow_nil _ _ _ _, (below_drews (Below.refl _ _) nq).trans hb1⟩
  · have e : openF key l = ([], 3) := by unfold openF; rw [if_neg (by omega), if_pos (by omega)]
    rw [e]
    clear e hl
    go_enter Tryz.func101, Tryz.ntmps101
    go_wp2
    go_ret2
    exact ⟨_, 0, rfl, World.ownsRow_nil _ _ _ _, Below.refl _ _⟩
end Go.Proofs.YtojbijapdkohlaaGreatDoor
