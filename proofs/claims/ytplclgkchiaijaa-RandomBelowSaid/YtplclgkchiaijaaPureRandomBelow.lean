/- The pure part of RandomBelow: a rest by n lies from 0 to n - 1. -/
import Derived.Test.YtplclgkchiaijaaPRandomBelowx1
import Derived.Laws.BitsAllLaws
namespace Go.Proofs.Ytplclgkchiaijaa.Pure
open Go.RowKit Go.Proofs.Ytplclgkchiaijaa.PRandomBelow Go.Proofs.YtplclgkchiaijaaW.PrintWords Go.Proofs.YtplclgkchiaijaaW.PrintLast

def st1 (x : Nat) : Nat := (x ^^^ (x / 2 ^ 30)) * 13787848793156543929 % 18446744073709551616
def st2 (x : Nat) : Nat := (x ^^^ (x / 2 ^ 27)) * 10723151780598845931 % 18446744073709551616
def st3 (x : Nat) : Nat := x ^^^ (x / 2 ^ 31)
def mixN (x : Nat) : Nat := st3 (st2 (st1 x))

theorem xs_lt (k x : Nat) (hx : x < 18446744073709551616) : x ^^^ (x / 2 ^ k) < 18446744073709551616 := by
  have e64 : 18446744073709551616 = 2 ^ 64 := by decide
  rw [e64] at hx ⊢
  exact Nat.xor_lt_two_pow (n := 64) hx (Nat.lt_of_le_of_lt (Nat.div_le_self _ _) hx)
theorem m64 (x : Nat) : x % 18446744073709551616 < 18446744073709551616 := Nat.mod_lt x (by decide)

theorem mul_back (c c' M : Nat) (hc : c * c' % M = 1) (x : Nat) (hx : x < M) : (x * c % M) * c' % M = x := by
  rw [Nat.mul_mod, Nat.mod_mod, ← Nat.mul_mod, Nat.mul_assoc, Nat.mul_mod, hc, Nat.mul_one, Nat.mod_mod, Nat.mod_eq_of_lt hx]
theorem st1_lt (x : Nat) : st1 x < 18446744073709551616 := m64 _
theorem st2_lt (x : Nat) : st2 x < 18446744073709551616 := m64 _
theorem wrap_u64' (n : Int) : IntKind.u64.wrap n = n % 18446744073709551616 := by simp [IntKind.wrap, IntKind.bits, IntKind.signed]

theorem bits_xs (x : Nat) (k : Nat) (d : Int) (hd : d = ((2 ^ k : Nat) : Int)) (hx : x < 18446744073709551616) :
    Go.bits .xor .u64 (x : Int) ((x : Int) / d) = ((x ^^^ (x / 2 ^ k) : Nat) : Int) := by
  subst hd
  rw [show ((x : Int) / ((2 ^ k : Nat) : Int)) = ((x / 2 ^ k : Nat) : Int) from by rw [Int.natCast_ediv]]
  exact u64_xor_nat _ _ hx (Nat.lt_of_le_of_lt (Nat.div_le_self _ _) hx)

theorem cast1 (n : Nat) : ((n ^^^ n / 2 ^ 30 : Nat) : Int) * 13787848793156543929 % 18446744073709551616 = (st1 n : Int) := by
  unfold st1
  generalize n ^^^ n / 2 ^ 30 = m
  omega
theorem cast2 (n : Nat) : ((n ^^^ n / 2 ^ 27 : Nat) : Int) * 10723151780598845931 % 18446744073709551616 = (st2 n : Int) := by
  unfold st2
  generalize n ^^^ n / 2 ^ 27 = m
  omega
theorem next_nat (n : Nat) (hn : n < 18446744073709551616) :
    Go.bits .xor .u64 (IntKind.u64.wrap ((Go.bits .xor .u64 (IntKind.u64.wrap ((Go.bits .xor .u64 (n : Int) ((n : Int) / 1073741824)) * 13787848793156543929)) ((IntKind.u64.wrap ((Go.bits .xor .u64 (n : Int) ((n : Int) / 1073741824)) * 13787848793156543929)) / 134217728)) * 10723151780598845931)) ((IntKind.u64.wrap ((Go.bits .xor .u64 (IntKind.u64.wrap ((Go.bits .xor .u64 (n : Int) ((n : Int) / 1073741824)) * 13787848793156543929)) ((IntKind.u64.wrap ((Go.bits .xor .u64 (n : Int) ((n : Int) / 1073741824)) * 13787848793156543929)) / 134217728)) * 10723151780598845931)) / 2147483648) = (mixN n : Int) := by
  rw [bits_xs n 30 1073741824 (by decide) hn, wrap_u64' (((n ^^^ n / 2 ^ 30 : Nat) : Int) * 13787848793156543929), cast1]
  rw [bits_xs (st1 n) 27 134217728 (by decide) (st1_lt n), wrap_u64' (((st1 n ^^^ st1 n / 2 ^ 27 : Nat) : Int) * 10723151780598845931), cast2]
  rw [bits_xs (st2 (st1 n)) 31 2147483648 (by decide) (st2_lt _)]
  rfl
theorem next_eq (a0 : Int) : random_Next.f a0 = some ((((a0 + 11400714819323198485) % 18446744073709551616).toNat : Int), (mixN ((a0 + 11400714819323198485) % 18446744073709551616).toNat : Int)) := by
  unfold random_Next.f
  have h0 : 0 ≤ (a0 + 11400714819323198485) % 18446744073709551616 := Int.emod_nonneg _ (by omega)
  have h1 : (a0 + 11400714819323198485) % 18446744073709551616 < 18446744073709551616 := Int.emod_lt_of_pos _ (by omega)
  rw [wrap_u64' (a0 + 11400714819323198485)]
  generalize (a0 + 11400714819323198485) % 18446744073709551616 = z at h0 h1
  obtain ⟨n, rfl⟩ := Int.eq_ofNat_of_zero_le h0
  rw [next_nat n (by omega), Int.toNat_natCast]

theorem awake_true : ricochetlaw08_awake.f = some true := by kernel_rfl


theorem below_mod (x n : Int) (hx0 : 0 ≤ x) (h : 1 ≤ n) (hn : n ≤ 9223372036854775807) : 0 ≤ wrap64 (Int.tmod x (IntKind.u64.wrap n)) ∧ wrap64 (Int.tmod x (IntKind.u64.wrap n)) < n := by
  rw [wrap_u64', show n % 18446744073709551616 = n from by omega, Int.tmod_eq_emod_of_nonneg hx0]
  have h1 := Int.emod_nonneg x (show n ≠ 0 by omega)
  have h2 := Int.emod_lt_of_pos x (show 0 < n by omega)
  unfold wrap64
  omega
theorem RandomBelow : ricochetlaw08_RandomBelow.Pure := by
  intro a n ha hn
  have ha' : 0 ≤ a ∧ a ≤ 18446744073709551615 := by simpa [Lit.wf, IntKind.min, IntKind.max, IntKind.signed, IntKind.bits] using ha
  have hn' : -9223372036854775808 ≤ n ∧ n ≤ 9223372036854775807 := by simpa [Lit.wf, IntKind.min, IntKind.max, IntKind.signed, IntKind.bits] using hn
  unfold ricochetlaw08_RandomBelow.f random_Below.f
  rw [next_eq, awake_true]
  by_cases h : n < 1
  · simp [h]
  · have hz : IntKind.u64.wrap n ≠ 0 := by rw [wrap_u64']; omega
    obtain ⟨h1, h2⟩ := below_mod (mixN ((a + 11400714819323198485) % 18446744073709551616).toNat : Int) n (by omega) (by omega) hn'.2
    generalize hzz : wrap64 (Int.tmod (mixN ((a + 11400714819323198485) % 18446744073709551616).toNat : Int) (IntKind.u64.wrap n)) = z at h1 h2
    simp [h, hz, hzz, h1, h2]

end Go.Proofs.Ytplclgkchiaijaa.Pure
