/- The little functions under world: numbers by random, places of entities, hits, spawns. -/
import Derived.Test.YtojbijapdkohlaaGreatDoorQ11WMem
import Derived.Test.YtojbijapdkohlaaGreatDoorFind
import Derived.Laws.BitsAllLaws
set_option linter.unusedSimpArgs false
set_option linter.unusedVariables false
namespace Go.Proofs.YtojbijapdkohlaaGreatDoor
open Go.RowKit
def st1 (x : Nat) : Nat := (x ^^^ (x / 2 ^ 30)) * 13787848793156543929 % 18446744073709551616
def st2 (x : Nat) : Nat := (x ^^^ (x / 2 ^ 27)) * 10723151780598845931 % 18446744073709551616
def st3 (x : Nat) : Nat := x ^^^ (x / 2 ^ 31)
def mixN (x : Nat) : Nat := st3 (st2 (st1 x))

theorem xs_lt (k x : Nat) (hx : x < 18446744073709551616) : x ^^^ (x / 2 ^ k) < 18446744073709551616 := by
  have e64 : 18446744073709551616 = 2 ^ 64 := by decide
  rw [e64] at hx ⊢
  exact Nat.xor_lt_two_pow (n := 64) hx (Nat.lt_of_le_of_lt (Nat.div_le_self _ _) hx)
theorem m64 (x : Nat) : x % 18446744073709551616 < 18446744073709551616 := Nat.mod_lt x (by decide)

theorem st1_lt (x : Nat) : st1 x < 18446744073709551616 := m64 _
theorem st2_lt (x : Nat) : st2 x < 18446744073709551616 := m64 _
theorem wrap_u64' (n : Int) : IntKind.u64.wrap n = n % 18446744073709551616 := by simp [IntKind.wrap, IntKind.bits, IntKind.signed]

theorem bits_xs (x : Nat) (k : Nat) (d : Int) (hd : d = ((2 ^ k : Nat) : Int)) (hx : x < 18446744073709551616) :
    Go.bits .xor .u64 (x : Int) ((x : Int) / d) = ((x ^^^ (x / 2 ^ k) : Nat) : Int) := by
  subst hd
  rw [show ((x : Int) / ((2 ^ k : Nat) : Int)) = ((x / 2 ^ k : Nat) : Int) from by rw [Int.natCast_ediv]]
  exact u64_xor_nat _ _ hx (Nat.lt_of_le_of_lt (Nat.div_le_self _ _) hx)

theorem cast1 (n : Nat) : ((n ^^^ n / 2 ^ 30 : Nat) : Int) * 13787848793156543929 % 18446744073709551616 = (st1 n : Int) := by
  unfold st1
  generalize n ^^^ n / 2 ^ 30 = m
  omega
theorem cast2 (n : Nat) : ((n ^^^ n / 2 ^ 27 : Nat) : Int) * 10723151780598845931 % 18446744073709551616 = (st2 n : Int) := by
  unfold st2
  generalize n ^^^ n / 2 ^ 27 = m
  omega
theorem next_nat (n : Nat) (hn : n < 18446744073709551616) :
    Go.bits .xor .u64 (IntKind.u64.wrap ((Go.bits .xor .u64 (IntKind.u64.wrap ((Go.bits .xor .u64 (n : Int) ((n : Int) / 1073741824)) * 13787848793156543929)) ((IntKind.u64.wrap ((Go.bits .xor .u64 (n : Int) ((n : Int) / 1073741824)) * 13787848793156543929)) / 134217728)) * 10723151780598845931)) ((IntKind.u64.wrap ((Go.bits .xor .u64 (IntKind.u64.wrap ((Go.bits .xor .u64 (n : Int) ((n : Int) / 1073741824)) * 13787848793156543929)) ((IntKind.u64.wrap ((Go.bits .xor .u64 (n : Int) ((n : Int) / 1073741824)) * 13787848793156543929)) / 134217728)) * 10723151780598845931)) / 2147483648) = (mixN n : Int) := by
  rw [bits_xs n 30 1073741824 (by decide) hn, wrap_u64' (((n ^^^ n / 2 ^ 30 : Nat) : Int) * 13787848793156543929), cast1]
  rw [bits_xs (st1 n) 27 134217728 (by decide) (st1_lt n), wrap_u64' (((st1 n ^^^ st1 n / 2 ^ 27 : Nat) : Int) * 10723151780598845931), cast2]
  rw [bits_xs (st2 (st1 n)) 31 2147483648 (by decide) (st2_lt _)]
  rfl
def nextS (st : Int) : Int := IntKind.u64.wrap (st + 11400714819323198485)
def mixI (z : Int) : Int := Go.bits .xor .u64 (IntKind.u64.wrap ((Go.bits .xor .u64 (IntKind.u64.wrap ((Go.bits .xor .u64 z (z / 1073741824)) * 13787848793156543929)) ((IntKind.u64.wrap ((Go.bits .xor .u64 z (z / 1073741824)) * 13787848793156543929)) / 134217728)) * 10723151780598845931)) ((IntKind.u64.wrap ((Go.bits .xor .u64 (IntKind.u64.wrap ((Go.bits .xor .u64 z (z / 1073741824)) * 13787848793156543929)) ((IntKind.u64.wrap ((Go.bits .xor .u64 z (z / 1073741824)) * 13787848793156543929)) / 134217728)) * 10723151780598845931)) / 2147483648)
theorem nextS_range (st : Int) : 0 ≤ nextS st ∧ nextS st < 18446744073709551616 := by
  unfold nextS
  rw [wrap_u64' (st + 11400714819323198485)]
  exact ⟨Int.emod_nonneg _ (by omega), Int.emod_lt_of_pos _ (by omega)⟩
theorem mixI_nonneg (st : Int) : 0 ≤ mixI (nextS st) := by
  obtain ⟨h0, h1⟩ := nextS_range st
  obtain ⟨n, hn⟩ := Int.eq_ofNat_of_zero_le h0
  rw [hn] at h1 ⊢
  unfold mixI
  rw [next_nat n (by omega)]
  exact Int.natCast_nonneg _
set_option maxRecDepth 100000 in
set_option maxHeartbeats 4000000 in
theorem rndNext (st : Int) (w : World) : Calls Tryz.prog 214 #[.int .u64 st] w fun e w' => e = .returned (.tuple #[.int .u64 (nextS st), .int .u64 (mixI (nextS st))]) ∧ w = w' := by
  go_enter Tryz.func214, Tryz.ntmps214
  go_wp2
  go_ret2
  exact ⟨rfl, rfl⟩
def belowK (st n : Int) : Int := wrap64 (Int.tmod (mixI (nextS st)) (IntKind.u64.wrap n))
theorem belowK_range (st n : Int) (h : 1 ≤ n) (hn : n ≤ 9223372036854775807) : 0 ≤ belowK st n ∧ belowK st n < n := by
  have hx0 := mixI_nonneg st
  unfold belowK
  generalize mixI (nextS st) = x at hx0 ⊢
  rw [wrap_u64', show n % 18446744073709551616 = n from by omega, Int.tmod_eq_emod_of_nonneg hx0]
  have h1 := Int.emod_nonneg x (show n ≠ 0 by omega)
  have h2 := Int.emod_lt_of_pos x (show 0 < n by omega)
  unfold wrap64
  omega
set_option maxRecDepth 100000 in
set_option maxHeartbeats 4000000 in
theorem rndBelow (st n : Int) (h : 1 ≤ n) (hn : n ≤ 9223372036854775807) (w : World) : Calls Tryz.prog 155 #[.int .u64 st, .int .i64 n] w fun e w' => e = .returned (.tuple #[.int .u64 (nextS st), .int .i64 (belowK st n)]) ∧ Dr w w' := by
  have hb := mixI_nonneg st
  have hN := fun W => rndNext st W
  obtain ⟨x, hx⟩ : ∃ x, mixI (nextS st) = x := ⟨_, rfl⟩
  have hk : belowK st n = wrap64 (Int.tmod x (IntKind.u64.wrap n)) := by unfold belowK; rw [hx]
  rw [hk]
  simp only [hx] at hN
  clear hx hk hb
  go_enter Tryz.func155, Tryz.ntmps155
  have hz : ¬ IntKind.u64.wrap n = 0 := by rw [wrap_u64']; omega
  obtain ⟨m, hm⟩ : ∃ m, IntKind.u64.wrap n = m := ⟨_, rfl⟩
  rw [hm] at hz ⊢
  go_wp2_with (go_at_call 214; refine (hN _).mono ?_; rintro r w1 ⟨rfl, rfl⟩)
  go_region
  go_wp2
  go_ret2
  exact ⟨rfl, (Dr.refl w).drew⟩

theorem closJoin (e : EntV) (id : Int) (b : Nat) (w : World) (h : w.cell? ⟨b, 0, none⟩ = some (.int .i64 id)) :
    Calls Tryz.prog 160 #[(.agg #[.int .i64 e.id, .int .i64 e.kind, .int .i64 e.at_.x, .int .i64 e.at_.y, .int .i64 e.vel.x, .int .i64 e.vel.y, .int .i64 e.health, .int .i64 e.wait]), .pointer (some ⟨b, 0, none⟩)] w fun r w' => r = .returned (.bool (decide (id < e.id))) ∧ Below w.heap.size w w' := by
  have l1 := World.block_lt_of_cell? w _ h
  go_enter Tryz.func160, Tryz.ntmps160
  go_wp2
  go_ret
  exact ⟨rfl, (by repeat (first | with_reducible exact Below.refl _ _ | with_reducible assumption | with_reducible refine Below.drew ?_ | with_reducible refine below_drews ?_ _ | with_reducible refine Below.alloc ?_ (by first | omega | (simp; done) | (simp; omega)) _ | with_reducible refine Below.setCell ?_ (by first | omega | (simp; done) | (simp; omega)) _))⟩
set_option maxRecDepth 100000 in
set_option maxHeartbeats 4000000 in
theorem idxJoin (l : List EntV) (id : Int) (b : Nat) (w : World) (A : Option Addr) (n c : Nat) (h : Reads w w.heap.size 8 A n (entsV l)) (hn : n ≤ 9223372036854775807) (hb : w.cell? ⟨b, 0, none⟩ = some (.int .i64 id)) :
    Calls Tryz.prog 148 #[.slice A n c, .func (.func 160) #[] #[.pointer (some ⟨b, 0, none⟩)]] w fun e w' => e = .returned (.int .i64 (idxFrom (fun e => decide (id < e.id)) l 0)) ∧ Below w.heap.size w w' := by
  have hl : l.length = n := by have := h.1; rw [entsV_length] at this; omega
  have HL := Lib.hid hl
  have HR := Lib.hid h
  have HB := Lib.hid hb
  have l1 := World.block_lt_of_cell? w _ hb
  have HL1 := Lib.hid l1
  clear hl h hb
  go_enter Tryz.func148, Tryz.ntmps148
  go_wp2
  go_loopw [8] (fun i wr => ∃ k : Nat, k ≤ n ∧ i = .int .i64 k ∧ idxFrom (fun e => decide (id < e.id)) l 0 = idxFrom (fun e => decide (id < e.id)) (l.drop k) k ∧ Below w.heap.size w wr) (fun i _ => n - (intOf i).toNat)
  case atStart => exact ⟨0, Nat.zero_le _, rfl, rfl, Below.refl _ _⟩
  case round =>
    obtain ⟨k, hk, rfl, he, hbw⟩ := hrel
    by_cases hlt : k < n
    · obtain ⟨g, off, rfl, hg, hc⟩ := HR.out.flat (by omega) (by omega)
      obtain ⟨x, hx⟩ : ∃ x, l[k]? = some x := ⟨_, List.getElem?_eq_getElem (by rw [HL.out]; exact hlt)⟩
      have hh := fun j (hj : j < 8) u (hu : (entCells x)[j]? = some u) => (hbw.cell (p := ⟨g, off + (k * 8 + j), none⟩) hg).trans (hc _ _ ((entsV_at hx j hj).trans hu))
      have c0 : wr.cell? ⟨g, off + k * 8, none⟩ = some (.int .i64 x.id) := hh 0 (by decide) _ rfl
      have c1 : wr.cell? ⟨g, off + k * 8 + 1, none⟩ = some (.int .i64 x.kind) := by have := hh 1 (by decide) _ rfl; rwa [← Nat.add_assoc] at this
      have c2 : wr.cell? ⟨g, off + k * 8 + 2, none⟩ = some (.int .i64 x.at_.x) := by have := hh 2 (by decide) _ rfl; rwa [← Nat.add_assoc] at this
      have c3 : wr.cell? ⟨g, off + k * 8 + 3, none⟩ = some (.int .i64 x.at_.y) := by have := hh 3 (by decide) _ rfl; rwa [← Nat.add_assoc] at this
      have c4 : wr.cell? ⟨g, off + k * 8 + 4, none⟩ = some (.int .i64 x.vel.x) := by have := hh 4 (by decide) _ rfl; rwa [← Nat.add_assoc] at this
      have c5 : wr.cell? ⟨g, off + k * 8 + 5, none⟩ = some (.int .i64 x.vel.y) := by have := hh 5 (by decide) _ rfl; rwa [← Nat.add_assoc] at this
      have c6 : wr.cell? ⟨g, off + k * 8 + 6, none⟩ = some (.int .i64 x.health) := by have := hh 6 (by decide) _ rfl; rwa [← Nat.add_assoc] at this
      have c7 : wr.cell? ⟨g, off + k * 8 + 7, none⟩ = some (.int .i64 x.wait) := by have := hh 7 (by decide) _ rfl; rwa [← Nat.add_assoc] at this
      have hs := hbw.size
      rw [drop_cons_of hx, idxFrom] at he
      have HC := Lib.hid (fun W (hW : Below w.heap.size w W) => closJoin x id b W ((hW.cell (p := ⟨b, 0, none⟩) HL1.out).trans HB.out))
      obtain ⟨t, ht⟩ : ∃ t, (decide (id < x.id)) = t := ⟨_, rfl⟩
      have HT := Lib.hid ht
      simp only [ht] at he
      have HE := Lib.hid he
      have HBW := Lib.hid hbw
      clear hc hx he hh ht hbw
      cases t with
      | true =>
        go_wp2_with (go_at_call 160; refine (HC.out _ HBW.out).mono ?_; simp only [HT.out]; rintro r w5 ⟨rfl, hb5⟩)
        go_ret
        exact ⟨ret_int HE.out.symm, HBW.out.trans (hb5.mono hs)⟩
      | false =>
        go_wp2_with (go_at_call 160; refine (HC.out _ HBW.out).mono ?_; simp only [HT.out]; rintro r w5 ⟨rfl, hb5⟩)
        exact ⟨⟨k + 1, hlt, by go_num, HE.out, HBW.out.trans (hb5.mono hs)⟩, by simp [intOf]; omega⟩
    · obtain rfl : k = n := by omega
      rw [List.drop_of_length_le (by rw [HL.out]; exact Nat.le_refl _)] at he
      have HE := Lib.hid he
      clear he
      go_wp2
      go_ret
      exact ⟨ret_int HE.out.symm, hbw⟩
end Go.Proofs.YtojbijapdkohlaaGreatDoor
