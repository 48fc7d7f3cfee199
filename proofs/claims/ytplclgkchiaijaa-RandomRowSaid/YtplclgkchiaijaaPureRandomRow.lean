/- The pure part of RandomRow: after i steps the state is the first one and i times the number on. -/
import Derived.Test.YtplclgkchiaijaaPRandomRowx1
import Derived.Laws.BitsAllLaws
namespace Go.Proofs.Ytplclgkchiaijaa.Pure
open Go.RowKit Go.Proofs.Ytplclgkchiaijaa.PRandomRow Go.Proofs.YtplclgkchiaijaaW.PrintWords Go.Proofs.YtplclgkchiaijaaW.PrintLast

def st1 (x : Nat) : Nat := (x ^^^ (x / 2 ^ 30)) * 13787848793156543929 % 18446744073709551616
def st2 (x : Nat) : Nat := (x ^^^ (x / 2 ^ 27)) * 10723151780598845931 % 18446744073709551616
def st3 (x : Nat) : Nat := x ^^^ (x / 2 ^ 31)
def mixN (x : Nat) : Nat := st3 (st2 (st1 x))

theorem xs_lt (k x : Nat) (hx : x < 18446744073709551616) : x ^^^ (x / 2 ^ k) < 18446744073709551616 := by
  have e64 : 18446744073709551616 = 2 ^ 64 := by decide
  rw [e64] at hx ⊢
  exact Nat.xor_lt_two_pow (n := 64) hx (Nat.lt_of_le_of_lt (Nat.div_le_self _ _) hx)
theorem m64 (x : Nat) : x % 18446744073709551616 < 18446744073709551616 := Nat.mod_lt x (by decide)

theorem mul_back (c c' M : Nat) (hc : c * c' % M = 1) (x : Nat) (hx : x < M) : (x * c % M) * c' % M = x := by
  rw [Nat.mul_mod, Nat.mod_mod, ← Nat.mul_mod, Nat.mul_assoc, Nat.mul_mod, hc, Nat.mul_one, Nat.mod_mod, Nat.mod_eq_of_lt hx]
theorem st1_lt (x : Nat) : st1 x < 18446744073709551616 := m64 _
theorem st2_lt (x : Nat) : st2 x < 18446744073709551616 := m64 _
theorem wrap_u64' (n : Int) : IntKind.u64.wrap n = n % 18446744073709551616 := by simp [IntKind.wrap, IntKind.bits, IntKind.signed]

theorem bits_xs (x : Nat) (k : Nat) (d : Int) (hd : d = ((2 ^ k : Nat) : Int)) (hx : x < 18446744073709551616) :
    Go.bits .xor .u64 (x : Int) ((x : Int) / d) = ((x ^^^ (x / 2 ^ k) : Nat) : Int) := by
  subst hd
  rw [show ((x : Int) / ((2 ^ k : Nat) : Int)) = ((x / 2 ^ k : Nat) : Int) from by rw [Int.natCast_ediv]]
  exact u64_xor_nat _ _ hx (Nat.lt_of_le_of_lt (Nat.div_le_self _ _) hx)

theorem cast1 (n : Nat) : ((n ^^^ n / 2 ^ 30 : Nat) : Int) * 13787848793156543929 % 18446744073709551616 = (st1 n : Int) := by
  unfold st1
  generalize n ^^^ n / 2 ^ 30 = m
  omega
theorem cast2 (n : Nat) : ((n ^^^ n / 2 ^ 27 : Nat) : Int) * 10723151780598845931 % 18446744073709551616 = (st2 n : Int) := by
  unfold st2
  generalize n ^^^ n / 2 ^ 27 = m
  omega
theorem next_nat (n : Nat) (hn : n < 18446744073709551616) :
    Go.bits .xor .u64 (IntKind.u64.wrap ((Go.bits .xor .u64 (IntKind.u64.wrap ((Go.bits .xor .u64 (n : Int) ((n : Int) / 1073741824)) * 13787848793156543929)) ((IntKind.u64.wrap ((Go.bits .xor .u64 (n : Int) ((n : Int) / 1073741824)) * 13787848793156543929)) / 134217728)) * 10723151780598845931)) ((IntKind.u64.wrap ((Go.bits .xor .u64 (IntKind.u64.wrap ((Go.bits .xor .u64 (n : Int) ((n : Int) / 1073741824)) * 13787848793156543929)) ((IntKind.u64.wrap ((Go.bits .xor .u64 (n : Int) ((n : Int) / 1073741824)) * 13787848793156543929)) / 134217728)) * 10723151780598845931)) / 2147483648) = (mixN n : Int) := by
  rw [bits_xs n 30 1073741824 (by decide) hn, wrap_u64' (((n ^^^ n / 2 ^ 30 : Nat) : Int) * 13787848793156543929), cast1]
  rw [bits_xs (st1 n) 27 134217728 (by decide) (st1_lt n), wrap_u64' (((st1 n ^^^ st1 n / 2 ^ 27 : Nat) : Int) * 10723151780598845931), cast2]
  rw [bits_xs (st2 (st1 n)) 31 2147483648 (by decide) (st2_lt _)]
  rfl
theorem next_eq (a0 : Int) : random_Next.f a0 = some ((((a0 + 11400714819323198485) % 18446744073709551616).toNat : Int), (mixN ((a0 + 11400714819323198485) % 18446744073709551616).toNat : Int)) := by
  unfold random_Next.f
  have h0 : 0 ≤ (a0 + 11400714819323198485) % 18446744073709551616 := Int.emod_nonneg _ (by omega)
  have h1 : (a0 + 11400714819323198485) % 18446744073709551616 < 18446744073709551616 := Int.emod_lt_of_pos _ (by omega)
  rw [wrap_u64' (a0 + 11400714819323198485)]
  generalize (a0 + 11400714819323198485) % 18446744073709551616 = z at h0 h1
  obtain ⟨n, rfl⟩ := Int.eq_ofNat_of_zero_le h0
  rw [next_nat n (by omega), Int.toNat_natCast]

theorem awake_true : ricochetlaw08_awake.f = some true := by kernel_rfl


theorem wrap64_in (x : Int) (h0 : -9223372036854775808 ≤ x) (h1 : x ≤ 9223372036854775807) : wrap64 x = x := by unfold wrap64; omega
theorem row_tells (x0 n : Int) (hn : n ≤ 500) (d : Nat) : ∀ (k : Nat) (s i : Int), 0 ≤ i → i ≤ n → n - i = d → d < k →
    s = (x0 + i * 11400714819323198485) % 18446744073709551616 → ricochetlaw08_RandomRow.l0 k x0 s n i = some true := by
  induction d with
  | zero =>
    intro k s i hi0 hi1 hd hk hs
    obtain ⟨k, rfl⟩ : ∃ m, k = m + 1 := ⟨k - 1, by omega⟩
    obtain rfl : i = n := by omega
    simp only [ricochetlaw08_RandomRow.l0]
    rw [if_neg (by omega), awake_true]
    simp only [Option.bind_some, if_true]
    rw [wrap_u64' i, wrap_u64' (i % _ * _), wrap_u64' (x0 + _), hs]
    congr 1
    rw [beq_iff_eq]
    rw [show i % 18446744073709551616 = i from by omega]
    omega
  | succ d ih =>
    intro k s i hi0 hi1 hd hk hs
    obtain ⟨k, rfl⟩ : ∃ m, k = m + 1 := ⟨k - 1, by omega⟩
    simp only [ricochetlaw08_RandomRow.l0]
    rw [if_pos (by omega), next_eq]
    simp only [Option.bind_some, if_true]
    rw [wrap64_in (i + 1) (by omega) (by omega)]
    refine ih k _ (i + 1) (by omega) (by omega) (by omega) (by omega) ?_
    have hm : 0 ≤ (s + 11400714819323198485) % 18446744073709551616 := Int.emod_nonneg _ (by omega)
    rw [Int.toNat_of_nonneg hm, hs]
    omega

theorem RandomRow : ricochetlaw08_RandomRow.Pure := by
  intro a b ha hb
  have ha' : 0 ≤ a ∧ a ≤ 18446744073709551615 := by simpa [Lit.wf, IntKind.min, IntKind.max, IntKind.signed, IntKind.bits] using ha
  have hb' : 0 ≤ b ∧ b ≤ 65535 := by simpa [Lit.wf, IntKind.min, IntKind.max, IntKind.signed, IntKind.bits] using hb
  refine ⟨501, ?_⟩
  unfold ricochetlaw08_RandomRow.f
  have ht : Int.tmod b 500 = b % 500 := Int.tmod_eq_emod_of_nonneg hb'.1
  rw [ht, wrap64_in _ (by omega) (by omega)]
  exact row_tells a (b % 500) (by omega) (b % 500).toNat 501 a 0 (by omega) (by omega) (by omega) (by omega) (by omega)

end Go.Proofs.Ytplclgkchiaijaa.Pure
