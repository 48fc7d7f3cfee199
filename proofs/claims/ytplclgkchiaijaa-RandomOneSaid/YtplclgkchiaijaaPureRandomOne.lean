/- The pure part of RandomOne: the mixer of random.Next is one-to-one on numbers of 64 bits (each exclusive-or shift and each product by an odd number can be turned back). -/
import Derived.Test.YtplclgkchiaijaaPRandomOnex1
import Derived.Laws.BitsAllLaws
namespace Go.Proofs.Ytplclgkchiaijaa.Pure
open Go.RowKit Go.Proofs.Ytplclgkchiaijaa.PRandomOne Go.Proofs.YtplclgkchiaijaaW.PrintWords Go.Proofs.YtplclgkchiaijaaW.PrintLast

theorem xs_inj (k : Nat) (hk : 1 ≤ k) (x y : Nat) (h : x ^^^ (x / 2 ^ k) = y ^^^ (y / 2 ^ k)) (hx : x < 18446744073709551616) (hy : y < 18446744073709551616) : x = y := by
  have e64 : 18446744073709551616 = 2 ^ 64 := by decide
  rw [e64] at hx hy
  have key : ∀ d i : Nat, 64 ≤ i + d → x.testBit i = y.testBit i := by
    intro d
    induction d with
    | zero =>
      intro i hi
      rw [Nat.testBit_lt_two_pow (Nat.lt_of_lt_of_le hx (Nat.pow_le_pow_right (by omega) (by omega))),
        Nat.testBit_lt_two_pow (Nat.lt_of_lt_of_le hy (Nat.pow_le_pow_right (by omega) (by omega)))]
    | succ d ih =>
      intro i hi
      have hb : (x ^^^ (x / 2 ^ k)).testBit i = (y ^^^ (y / 2 ^ k)).testBit i := by rw [h]
      rw [Nat.testBit_xor, Nat.testBit_xor, Nat.testBit_div_two_pow, Nat.testBit_div_two_pow, ih (i + k) (by omega)] at hb
      revert hb
      cases x.testBit i <;> cases y.testBit i <;> cases y.testBit (i + k) <;> simp
  exact Nat.eq_of_testBit_eq fun i => key 64 i (by omega)

def st1 (x : Nat) : Nat := (x ^^^ (x / 2 ^ 30)) * 13787848793156543929 % 18446744073709551616
def st2 (x : Nat) : Nat := (x ^^^ (x / 2 ^ 27)) * 10723151780598845931 % 18446744073709551616
def st3 (x : Nat) : Nat := x ^^^ (x / 2 ^ 31)
def mixN (x : Nat) : Nat := st3 (st2 (st1 x))

theorem xs_lt (k x : Nat) (hx : x < 18446744073709551616) : x ^^^ (x / 2 ^ k) < 18446744073709551616 := by
  have e64 : 18446744073709551616 = 2 ^ 64 := by decide
  rw [e64] at hx ⊢
  exact Nat.xor_lt_two_pow (n := 64) hx (Nat.lt_of_le_of_lt (Nat.div_le_self _ _) hx)
theorem m64 (x : Nat) : x % 18446744073709551616 < 18446744073709551616 := Nat.mod_lt x (by decide)

theorem mul_back (c c' M : Nat) (hc : c * c' % M = 1) (x : Nat) (hx : x < M) : (x * c % M) * c' % M = x := by
  rw [Nat.mul_mod, Nat.mod_mod, ← Nat.mul_mod, Nat.mul_assoc, Nat.mul_mod, hc, Nat.mul_one, Nat.mod_mod, Nat.mod_eq_of_lt hx]
theorem mul_inj1 (x y : Nat) (hx : x < 18446744073709551616) (hy : y < 18446744073709551616)
    (h : x * 13787848793156543929 % 18446744073709551616 = y * 13787848793156543929 % 18446744073709551616) : x = y := by
  have a := mul_back 13787848793156543929 10871156337175269513 18446744073709551616 (by decide) x hx
  have b := mul_back 13787848793156543929 10871156337175269513 18446744073709551616 (by decide) y hy
  rw [← a, ← b, h]
theorem mul_inj2 (x y : Nat) (hx : x < 18446744073709551616) (hy : y < 18446744073709551616)
    (h : x * 10723151780598845931 % 18446744073709551616 = y * 10723151780598845931 % 18446744073709551616) : x = y := by
  have a := mul_back 10723151780598845931 3573116690164977347 18446744073709551616 (by decide) x hx
  have b := mul_back 10723151780598845931 3573116690164977347 18446744073709551616 (by decide) y hy
  rw [← a, ← b, h]

theorem st1_lt (x : Nat) : st1 x < 18446744073709551616 := m64 _
theorem st2_lt (x : Nat) : st2 x < 18446744073709551616 := m64 _
theorem st1_inj (x y : Nat) (hx : x < 18446744073709551616) (hy : y < 18446744073709551616) (h : st1 x = st1 y) : x = y :=
  xs_inj 30 (by decide) x y (mul_inj1 _ _ (xs_lt 30 x hx) (xs_lt 30 y hy) h) hx hy
theorem st2_inj (x y : Nat) (hx : x < 18446744073709551616) (hy : y < 18446744073709551616) (h : st2 x = st2 y) : x = y :=
  xs_inj 27 (by decide) x y (mul_inj2 _ _ (xs_lt 27 x hx) (xs_lt 27 y hy) h) hx hy
theorem st3_inj (x y : Nat) (hx : x < 18446744073709551616) (hy : y < 18446744073709551616) (h : st3 x = st3 y) : x = y :=
  xs_inj 31 (by decide) x y h hx hy
theorem mixN_inj (x y : Nat) (hx : x < 18446744073709551616) (hy : y < 18446744073709551616) (h : mixN x = mixN y) : x = y :=
  st1_inj x y hx hy (st2_inj _ _ (st1_lt _) (st1_lt _) (st3_inj _ _ (st2_lt _) (st2_lt _) h))

theorem wrap_u64' (n : Int) : IntKind.u64.wrap n = n % 18446744073709551616 := by simp [IntKind.wrap, IntKind.bits, IntKind.signed]

theorem bits_xs (x : Nat) (k : Nat) (d : Int) (hd : d = ((2 ^ k : Nat) : Int)) (hx : x < 18446744073709551616) :
    Go.bits .xor .u64 (x : Int) ((x : Int) / d) = ((x ^^^ (x / 2 ^ k) : Nat) : Int) := by
  subst hd
  rw [show ((x : Int) / ((2 ^ k : Nat) : Int)) = ((x / 2 ^ k : Nat) : Int) from by rw [Int.natCast_ediv]]
  exact u64_xor_nat _ _ hx (Nat.lt_of_le_of_lt (Nat.div_le_self _ _) hx)

theorem cast1 (n : Nat) : ((n ^^^ n / 2 ^ 30 : Nat) : Int) * 13787848793156543929 % 18446744073709551616 = (st1 n : Int) := by
  unfold st1
  generalize n ^^^ n / 2 ^ 30 = m
  omega
theorem cast2 (n : Nat) : ((n ^^^ n / 2 ^ 27 : Nat) : Int) * 10723151780598845931 % 18446744073709551616 = (st2 n : Int) := by
  unfold st2
  generalize n ^^^ n / 2 ^ 27 = m
  omega
theorem next_nat (n : Nat) (hn : n < 18446744073709551616) :
    Go.bits .xor .u64 (IntKind.u64.wrap ((Go.bits .xor .u64 (IntKind.u64.wrap ((Go.bits .xor .u64 (n : Int) ((n : Int) / 1073741824)) * 13787848793156543929)) ((IntKind.u64.wrap ((Go.bits .xor .u64 (n : Int) ((n : Int) / 1073741824)) * 13787848793156543929)) / 134217728)) * 10723151780598845931)) ((IntKind.u64.wrap ((Go.bits .xor .u64 (IntKind.u64.wrap ((Go.bits .xor .u64 (n : Int) ((n : Int) / 1073741824)) * 13787848793156543929)) ((IntKind.u64.wrap ((Go.bits .xor .u64 (n : Int) ((n : Int) / 1073741824)) * 13787848793156543929)) / 134217728)) * 10723151780598845931)) / 2147483648) = (mixN n : Int) := by
  rw [bits_xs n 30 1073741824 (by decide) hn, wrap_u64' (((n ^^^ n / 2 ^ 30 : Nat) : Int) * 13787848793156543929), cast1]
  rw [bits_xs (st1 n) 27 134217728 (by decide) (st1_lt n), wrap_u64' (((st1 n ^^^ st1 n / 2 ^ 27 : Nat) : Int) * 10723151780598845931), cast2]
  rw [bits_xs (st2 (st1 n)) 31 2147483648 (by decide) (st2_lt _)]
  rfl
theorem next_eq (a0 : Int) : random_Next.f a0 = some ((((a0 + 11400714819323198485) % 18446744073709551616).toNat : Int), (mixN ((a0 + 11400714819323198485) % 18446744073709551616).toNat : Int)) := by
  unfold random_Next.f
  have h0 : 0 ≤ (a0 + 11400714819323198485) % 18446744073709551616 := Int.emod_nonneg _ (by omega)
  have h1 : (a0 + 11400714819323198485) % 18446744073709551616 < 18446744073709551616 := Int.emod_lt_of_pos _ (by omega)
  rw [wrap_u64' (a0 + 11400714819323198485)]
  generalize (a0 + 11400714819323198485) % 18446744073709551616 = z at h0 h1
  obtain ⟨n, rfl⟩ := Int.eq_ofNat_of_zero_le h0
  rw [next_nat n (by omega), Int.toNat_natCast]

theorem awake_true : ricochetlaw08_awake.f = some true := by kernel_rfl

theorem RandomOne : ricochetlaw08_RandomOne.Pure := by
  intro a b ha hb
  have ha' : 0 ≤ a ∧ a ≤ 18446744073709551615 := by simpa [Lit.wf, IntKind.min, IntKind.max, IntKind.signed, IntKind.bits] using ha
  have hb' : 0 ≤ b ∧ b ≤ 18446744073709551615 := by simpa [Lit.wf, IntKind.min, IntKind.max, IntKind.signed, IntKind.bits] using hb
  unfold ricochetlaw08_RandomOne.f
  rw [next_eq, next_eq, awake_true]
  simp only [Option.bind_some, if_true]
  by_cases h : a = b
  · subst h; simp
  · have h1 : ((a + 11400714819323198485) % 18446744073709551616).toNat ≠ ((b + 11400714819323198485) % 18446744073709551616).toNat := by omega
    have h2 : mixN ((a + 11400714819323198485) % 18446744073709551616).toNat ≠ mixN ((b + 11400714819323198485) % 18446744073709551616).toNat := fun e =>
      h1 (mixN_inj _ _ (by omega) (by omega) e)
    have e1 : ((((a + 11400714819323198485) % 18446744073709551616).toNat : Int) == ((b + 11400714819323198485) % 18446744073709551616).toNat) = false := by
      rw [beq_eq_false_iff_ne]; intro e; exact h1 (by omega)
    have e2 : ((mixN ((a + 11400714819323198485) % 18446744073709551616).toNat : Int) == mixN ((b + 11400714819323198485) % 18446744073709551616).toNat) = false := by
      rw [beq_eq_false_iff_ne]; intro e; exact h2 (by omega)
    have e3 : (a == b) = false := by rw [beq_eq_false_iff_ne]; exact h
    rw [e1, e2, e3]; rfl

end Go.Proofs.Ytplclgkchiaijaa.Pure
