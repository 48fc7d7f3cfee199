/- Words for worlds: what a world is, how it lies in memory; clones of rows. Where an entity of a number stands in a row (layer 10). The little functions under world: numbers by random, places of entities, hits, spawns. Rows of entities: what is stored in one, and what a hit makes of one. -/
import Derived.Test.YtojbijapdkohlaaGreatDoorRoll
import Derived.Test.YtojbijapdkohlaaGreatDoorQ03SrvPut
import Derived.Lib.SliceRun
import Derived.Laws.BitsAllLaws
set_option linter.unusedSimpArgs false
set_option linter.unusedVariables false
namespace Go.Proofs.YtojbijapdkohlaaGreatDoor
open Go.RowKit
structure WorldV where
  map : MapV
  st : Int
  tick : Int
  l : List EntV
structure WorldS where
  ms : MapS
  A : Option Addr
  n : Nat
  c : Nat
/-- A world's slices, told. -/
structure WorldAt (w : World) (B : Nat) (v : WorldV) (s : WorldS) : Prop where
  map : MapAt w B v.map s.ms
  l : Reads w B 8 s.A s.n (entsV v.l)
  nc : s.n ≤ s.c
theorem WorldAt.below {w w' : World} {B : Nat} {v : WorldV} {s : WorldS} (h : WorldAt w B v s) (hb : Below B w w') : WorldAt w' B v s := ⟨h.map.below hb, h.l.below hb, h.nc⟩
theorem WorldAt.upto {w : World} {B B' : Nat} {v : WorldV} {s : WorldS} (h : WorldAt w B v s) (hB : B ≤ B') : WorldAt w B' v s := ⟨h.map.upto hB, h.l.upto hB, h.nc⟩
theorem WorldAt.len {w : World} {B : Nat} {v : WorldV} {s : WorldS} (h : WorldAt w B v s) : v.l.length = s.n := by
  have := h.l.1
  rw [entsV_length] at this
  omega
end Go.Proofs.YtojbijapdkohlaaGreatDoor
set_option linter.unusedSimpArgs false
set_option linter.unusedVariables false
namespace Go.Proofs.YtojbijapdkohlaaGreatDoor
open Go.RowKit
theorem closFind (e : EntV) (id : Int) (b : Nat) (w : World) (h : w.cell? ⟨b, 0, none⟩ = some (.int .i64 id)) :
    Calls Tryz.prog 149 #[(.agg #[.int .i64 e.id, .int .i64 e.kind, .int .i64 e.at_.x, .int .i64 e.at_.y, .int .i64 e.vel.x, .int .i64 e.vel.y, .int .i64 e.health, .int .i64 e.wait]), .pointer (some ⟨b, 0, none⟩)] w fun r w' => r = .returned (.bool (e.id == id)) ∧ Below w.heap.size w w' := by
  have l1 := World.block_lt_of_cell? w _ h
  go_enter Tryz.func149, Tryz.ntmps149
  go_wp2
  go_ret
  exact ⟨rfl, (by repeat (first | with_reducible exact Below.refl _ _ | with_reducible assumption | with_reducible refine Below.drew ?_ | with_reducible refine below_drews ?_ _ | with_reducible refine Below.alloc ?_ (by first | omega | (simp; done) | (simp; omega)) _ | with_reducible refine Below.setCell ?_ (by first | omega | (simp; done) | (simp; omega)) _))⟩
set_option maxRecDepth 100000 in
set_option maxHeartbeats 4000000 in
theorem idxFind (l : List EntV) (id : Int) (b : Nat) (w : World) (A : Option Addr) (n c : Nat) (h : Reads w w.heap.size 8 A n (entsV l)) (hn : n ≤ 9223372036854775807) (hb : w.cell? ⟨b, 0, none⟩ = some (.int .i64 id)) :
    Calls Tryz.prog 148 #[.slice A n c, .func (.func 149) #[] #[.pointer (some ⟨b, 0, none⟩)]] w fun e w' => e = .returned (.int .i64 (idxFrom (fun e => e.id == id) l 0)) ∧ Below w.heap.size w w' := by
  have hl : l.length = n := by have := h.1; rw [entsV_length] at this; omega
  have HL := Lib.hid hl
  have HR := Lib.hid h
  have HB := Lib.hid hb
  have l1 := World.block_lt_of_cell? w _ hb
  have HL1 := Lib.hid l1
  clear hl h hb
  go_enter Tryz.func148, Tryz.ntmps148
  go_wp2
  go_loopw [8] (fun i wr => ∃ k : Nat, k ≤ n ∧ i = .int .i64 k ∧ idxFrom (fun e => e.id == id) l 0 = idxFrom (fun e => e.id == id) (l.drop k) k ∧ Below w.heap.size w wr) (fun i _ => n - (intOf i).toNat)
  case atStart => exact ⟨0, Nat.zero_le _, rfl, rfl, Below.refl _ _⟩
  case round =>
    obtain ⟨k, hk, rfl, he, hbw⟩ := hrel
    by_cases hlt : k < n
    · obtain ⟨g, off, rfl, hg, hc⟩ := HR.out.flat (by omega) (by omega)
      obtain ⟨x, hx⟩ : ∃ x, l[k]? = some x := ⟨_, List.getElem?_eq_getElem (by rw [HL.out]; exact hlt)⟩
      have hh := fun j (hj : j < 8) u (hu : (entCells x)[j]? = some u) => (hbw.cell (p := ⟨g, off + (k * 8 + j), none⟩) hg).trans (hc _ _ ((entsV_at hx j hj).trans hu))
      have c0 : wr.cell? ⟨g, off + k * 8, none⟩ = some (.int .i64 x.id) := hh 0 (by decide) _ rfl
      have c1 : wr.cell? ⟨g, off + k * 8 + 1, none⟩ = some (.int .i64 x.kind) := by have := hh 1 (by decide) _ rfl; rwa [← Nat.add_assoc] at this
      have c2 : wr.cell? ⟨g, off + k * 8 + 2, none⟩ = some (.int .i64 x.at_.x) := by have := hh 2 (by decide) _ rfl; rwa [← Nat.add_assoc] at this
      have c3 : wr.cell? ⟨g, off + k * 8 + 3, none⟩ = some (.int .i64 x.at_.y) := by have := hh 3 (by decide) _ rfl; rwa [← Nat.add_assoc] at this
      have c4 : wr.cell? ⟨g, off + k * 8 + 4, none⟩ = some (.int .i64 x.vel.x) := by have := hh 4 (by decide) _ rfl; rwa [← Nat.add_assoc] at this
      have c5 : wr.cell? ⟨g, off + k * 8 + 5, none⟩ = some (.int .i64 x.vel.y) := by have := hh 5 (by decide) _ rfl; rwa [← Nat.add_assoc] at this
      have c6 : wr.cell? ⟨g, off + k * 8 + 6, none⟩ = some (.int .i64 x.health) := by have := hh 6 (by decide) _ rfl; rwa [← Nat.add_assoc] at this
      have c7 : wr.cell? ⟨g, off + k * 8 + 7, none⟩ = some (.int .i64 x.wait) := by have := hh 7 (by decide) _ rfl; rwa [← Nat.add_assoc] at this
      have hs := hbw.size
      rw [drop_cons_of hx, idxFrom] at he
      have HC := Lib.hid (fun W (hW : Below w.heap.size w W) => closFind x id b W ((hW.cell (p := ⟨b, 0, none⟩) HL1.out).trans HB.out))
      obtain ⟨t, ht⟩ : ∃ t, (x.id == id) = t := ⟨_, rfl⟩
      have HT := Lib.hid ht
      simp only [ht] at he
      have HE := Lib.hid he
      have HBW := Lib.hid hbw
      clear hc hx he hh ht hbw
      cases t with
      | true =>
        go_wp2_with (go_at_call 149; refine (HC.out _ HBW.out).mono ?_; simp only [HT.out]; rintro r w5 ⟨rfl, hb5⟩)
        go_ret
        exact ⟨ret_int HE.out.symm, HBW.out.trans (hb5.mono hs)⟩
      | false =>
        go_wp2_with (go_at_call 149; refine (HC.out _ HBW.out).mono ?_; simp only [HT.out]; rintro r w5 ⟨rfl, hb5⟩)
        exact ⟨⟨k + 1, hlt, by go_num, HE.out, HBW.out.trans (hb5.mono hs)⟩, by simp [intOf]; omega⟩
    · obtain rfl : k = n := by omega
      rw [List.drop_of_length_le (by rw [HL.out]; exact Nat.le_refl _)] at he
      have HE := Lib.hid he
      clear he
      go_wp2
      go_ret
      exact ⟨ret_int HE.out.symm, hbw⟩
theorem idxFrom_spec {α : Type} (p : α → Bool) (l : List α) (m : Nat) : (idxFrom p l m = -1 ∧ ∀ e ∈ l, p e = false) ∨ ∃ (k : Nat) (e : α), idxFrom p l m = (m : Int) + (k : Int) ∧ l[k]? = some e ∧ p e = true ∧ ∀ j e', j < k → l[j]? = some e' → p e' = false := by
  induction l generalizing m with
  | nil => exact .inl ⟨rfl, fun e h => by simp at h⟩
  | cons a l ih =>
    unfold idxFrom
    cases ha : p a with
    | true => exact .inr ⟨0, a, by simp, rfl, ha, fun j e' hj => by omega⟩
    | false =>
      simp only [Bool.false_eq_true, if_false]
      rcases ih (m + 1) with ⟨h1, h2⟩ | ⟨k, e, h1, h2, h3, h4⟩
      · refine .inl ⟨h1, fun e he => ?_⟩
        rcases List.mem_cons.1 he with rfl | he
        · exact ha
        · exact h2 e he
      · refine .inr ⟨k + 1, e, by rw [h1]; push_cast; omega, by simpa using h2, h3, fun j e' hj hje => ?_⟩
        cases j with
        | zero => simp at hje; subst hje; exact ha
        | succ j => exact h4 j e' (by omega) (by simpa using hje)
def findF (l : List EntV) (id : Int) : Int := idxFrom (fun e => e.id == id) l 0
theorem findF_spec (l : List EntV) (id : Int) : (findF l id = -1 ∧ ∀ e ∈ l, e.id ≠ id) ∨ ∃ (k : Nat) (e : EntV), findF l id = (k : Int) ∧ l[k]? = some e ∧ e.id = id := by
  rcases idxFrom_spec (fun e : EntV => e.id == id) l 0 with ⟨h1, h2⟩ | ⟨k, e, h1, h2, h3, h4⟩
  · exact .inl ⟨h1, fun e he hh => by have := h2 e he; simp [hh] at this⟩
  · exact .inr ⟨k, e, by unfold findF; rw [h1]; omega, h2, by simpa using h3⟩
theorem wFind (l : List EntV) (id : Int) (w : World) (A : Option Addr) (n c : Nat) (h : Reads w w.heap.size 8 A n (entsV l)) (hn : n ≤ 100000) :
    Calls Tryz.prog 83 #[.slice A n c, .int .i64 id] w fun e w' => e = .returned (.int .i64 (findF l id)) ∧ Below w.heap.size w w' := by
  have hI := idxFind l id w.heap.size (w.alloc (.cells #[.int .i64 id] 3)) A n c ((h.alloc (Nat.le_refl _) _).upto (by simp)) (by omega) (by have := Blk.new w 3 #[.int .i64 id]; exact this.cell 0)
  clear h
  go_enter Tryz.func83, Tryz.ntmps83
  go_wp2_with (go_at_call 148; refine hI.mono ?_; rintro r w1 ⟨rfl, hb1⟩)
  go_ret
  exact ⟨rfl, Below.trans (by repeat (first | with_reducible exact Below.refl _ _ | with_reducible assumption | with_reducible refine Below.drew ?_ | with_reducible refine below_drews ?_ _ | with_reducible refine Below.alloc ?_ (by first | omega | (simp; done) | (simp; omega)) _ | with_reducible refine Below.setCell ?_ (by first | omega | (simp; done) | (simp; omega)) _)) (hb1.mono (by simp))⟩
end Go.Proofs.YtojbijapdkohlaaGreatDoor
set_option linter.unusedSimpArgs false
set_option linter.unusedVariables false
namespace Go.Proofs.YtojbijapdkohlaaGreatDoor
open Go.RowKit
def st1 (x : Nat) : Nat := (x ^^^ (x / 2 ^ 30)) * 13787848793156543929 % 18446744073709551616
def st2 (x : Nat) : Nat := (x ^^^ (x / 2 ^ 27)) * 10723151780598845931 % 18446744073709551616
def st3 (x : Nat) : Nat := x ^^^ (x / 2 ^ 31)
def mixN (x : Nat) : Nat := st3 (st2 (st1 x))

theorem xs_lt (k x : Nat) (hx : x < 18446744073709551616) : x ^^^ (x / 2 ^ k) < 18446744073709551616 := by
  have e64 : 18446744073709551616 = 2 ^ 64 := by decide
  rw [e64] at hx ⊢
  exact Nat.xor_lt_two_pow (n := 64) hx (Nat.lt_of_le_of_lt (Nat.div_le_self _ _) hx)
theorem m64 (x : Nat) : x % 18446744073709551616 < 18446744073709551616 := Nat.mod_lt x (by decide)

theorem st1_lt (x : Nat) : st1 x < 18446744073709551616 := m64 _
theorem st2_lt (x : Nat) : st2 x < 18446744073709551616 := m64 _
theorem wrap_u64' (n : Int) : IntKind.u64.wrap n = n % 18446744073709551616 := by simp [IntKind.wrap, IntKind.bits, IntKind.signed]

theorem bits_xs (x : Nat) (k : Nat) (d : Int) (hd : d = ((2 ^ k : Nat) : Int)) (hx : x < 18446744073709551616) :
    Go.bits .xor .u64 (x : Int) ((x : Int) / d) = ((x ^^^ (x / 2 ^ k) : Nat) : Int) := by
  subst hd
  rw [show ((x : Int) / ((2 ^ k : Nat) : Int)) = ((x / 2 ^ k : Nat) : Int) from by rw [Int.natCast_ediv]]
  exact u64_xor_nat _ _ hx (Nat.lt_of_le_of_lt (Nat.div_le_self _ _) hx)

theorem cast1 (n : Nat) : ((n ^^^ n / 2 ^ 30 : Nat) : Int) * 13787848793156543929 % 18446744073709551616 = (st1 n : Int) := by
  unfold st1
  generalize n ^^^ n / 2 ^ 30 = m
  omega
theorem cast2 (n : Nat) : ((n ^^^ n / 2 ^ 27 : Nat) : Int) * 10723151780598845931 % 18446744073709551616 = (st2 n : Int) := by
  unfold st2
  generalize n ^^^ n / 2 ^ 27 = m
  omega
theorem next_nat (n : Nat) (hn : n < 18446744073709551616) :
    Go.bits .xor .u64 (IntKind.u64.wrap ((Go.bits .xor .u64 (IntKind.u64.wrap ((Go.bits .xor .u64 (n : Int) ((n : Int) / 1073741824)) * 13787848793156543929)) ((IntKind.u64.wrap ((Go.bits .xor .u64 (n : Int) ((n : Int) / 1073741824)) * 13787848793156543929)) / 134217728)) * 10723151780598845931)) ((IntKind.u64.wrap ((Go.bits .xor .u64 (IntKind.u64.wrap ((Go.bits .xor .u64 (n : Int) ((n : Int) / 1073741824)) * 13787848793156543929)) ((IntKind.u64.wrap ((Go.bits .xor .u64 (n : Int) ((n : Int) / 1073741824)) * 13787848793156543929)) / 134217728)) * 10723151780598845931)) / 2147483648) = (mixN n : Int) := by
  rw [bits_xs n 30 1073741824 (by decide) hn, wrap_u64' (((n ^^^ n / 2 ^ 30 : Nat) : Int) * 13787848793156543929), cast1]
  rw [bits_xs (st1 n) 27 134217728 (by decide) (st1_lt n), wrap_u64' (((st1 n ^^^ st1 n / 2 ^ 27 : Nat) : Int) * 10723151780598845931), cast2]
  rw [bits_xs (st2 (st1 n)) 31 2147483648 (by decide) (st2_lt _)]
  rfl
def nextS (st : Int) : Int := IntKind.u64.wrap (st + 11400714819323198485)
def mixI (z : Int) : Int := Go.bits .xor .u64 (IntKind.u64.wrap ((Go.bits .xor .u64 (IntKind.u64.wrap ((Go.bits .xor .u64 z (z / 1073741824)) * 13787848793156543929)) ((IntKind.u64.wrap ((Go.bits .xor .u64 z (z / 1073741824)) * 13787848793156543929)) / 134217728)) * 10723151780598845931)) ((IntKind.u64.wrap ((Go.bits .xor .u64 (IntKind.u64.wrap ((Go.bits .xor .u64 z (z / 1073741824)) * 13787848793156543929)) ((IntKind.u64.wrap ((Go.bits .xor .u64 z (z / 1073741824)) * 13787848793156543929)) / 134217728)) * 10723151780598845931)) / 2147483648)
theorem nextS_range (st : Int) : 0 ≤ nextS st ∧ nextS st < 18446744073709551616 := by
  unfold nextS
  rw [wrap_u64' (st + 11400714819323198485)]
  exact ⟨Int.emod_nonneg _ (by omega), Int.emod_lt_of_pos _ (by omega)⟩
theorem mixI_nonneg (st : Int) : 0 ≤ mixI (nextS st) := by
  obtain ⟨h0, h1⟩ := nextS_range st
  obtain ⟨n, hn⟩ := Int.eq_ofNat_of_zero_le h0
  rw [hn] at h1 ⊢
  unfold mixI
  rw [next_nat n (by omega)]
  exact Int.natCast_nonneg _
set_option maxRecDepth 100000 in
set_option maxHeartbeats 4000000 in
theorem rndNext (st : Int) (w : World) : Calls Tryz.prog 214 #[.int .u64 st] w fun e w' => e = .returned (.tuple #[.int .u64 (nextS st), .int .u64 (mixI (nextS st))]) ∧ w = w' := by
  go_enter Tryz.func214, Tryz.ntmps214
  go_wp2
  go_ret2
  exact ⟨rfl, rfl⟩
def belowK (st n : Int) : Int := wrap64 (Int.tmod (mixI (nextS st)) (IntKind.u64.wrap n))
theorem belowK_range (st n : Int) (h : 1 ≤ n) (hn : n ≤ 9223372036854775807) : 0 ≤ belowK st n ∧ belowK st n < n := by
  have hx0 := mixI_nonneg st
  unfold belowK
  generalize mixI (nextS st) = x at hx0 ⊢
  rw [wrap_u64', show n % 18446744073709551616 = n from by omega, Int.tmod_eq_emod_of_nonneg hx0]
  have h1 := Int.emod_nonneg x (show n ≠ 0 by omega)
  have h2 := Int.emod_lt_of_pos x (show 0 < n by omega)
  unfold wrap64
  omega
set_option maxRecDepth 100000 in
set_option maxHeartbeats 4000000 in
theorem rndBelow (st n : Int) (h : 1 ≤ n) (hn : n ≤ 9223372036854775807) (w : World) : Calls Tryz.prog 155 #[.int .u64 st, .int .i64 n] w fun e w' => e = .returned (.tuple #[.int .u64 (nextS st), .int .i64 (belowK st n)]) ∧ Dr w w' := by
  have hb := mixI_nonneg st
  have hN := fun W => rndNext st W
  obtain ⟨x, hx⟩ : ∃ x, mixI (nextS st) = x := ⟨_, rfl⟩
  have hk : belowK st n = wrap64 (Int.tmod x (IntKind.u64.wrap n)) := by unfold belowK; rw [hx]
  rw [hk]
  simp only [hx] at hN
  clear hx hk hb
  go_enter Tryz.func155, Tryz.ntmps155
  have hz : ¬ IntKind.u64.wrap n = 0 := by rw [wrap_u64']; omega
  obtain ⟨m, hm⟩ : ∃ m, IntKind.u64.wrap n = m := ⟨_, rfl⟩
  rw [hm] at hz ⊢
  go_wp2_with (go_at_call 214; refine (hN _).mono ?_; rintro r w1 ⟨rfl, rfl⟩)
  go_region
  go_wp2
  go_ret2
  exact ⟨rfl, (Dr.refl w).drew⟩

theorem closJoin (e : EntV) (id : Int) (b : Nat) (w : World) (h : w.cell? ⟨b, 0, none⟩ = some (.int .i64 id)) :
    Calls Tryz.prog 160 #[(.agg #[.int .i64 e.id, .int .i64 e.kind, .int .i64 e.at_.x, .int .i64 e.at_.y, .int .i64 e.vel.x, .int .i64 e.vel.y, .int .i64 e.health, .int .i64 e.wait]), .pointer (some ⟨b, 0, none⟩)] w fun r w' => r = .returned (.bool (decide (id < e.id))) ∧ Below w.heap.size w w' := by
  have l1 := World.block_lt_of_cell? w _ h
  go_enter Tryz.func160, Tryz.ntmps160
  go_wp2
  go_ret
  exact ⟨rfl, (by repeat (first | with_reducible exact Below.refl _ _ | with_reducible assumption | with_reducible refine Below.drew ?_ | with_reducible refine below_drews ?_ _ | with_reducible refine Below.alloc ?_ (by first | omega | (simp; done) | (simp; omega)) _ | with_reducible refine Below.setCell ?_ (by first | omega | (simp; done) | (simp; omega)) _))⟩
set_option maxRecDepth 100000 in
set_option maxHeartbeats 4000000 in
theorem idxJoin (l : List EntV) (id : Int) (b : Nat) (w : World) (A : Option Addr) (n c : Nat) (h : Reads w w.heap.size 8 A n (entsV l)) (hn : n ≤ 9223372036854775807) (hb : w.cell? ⟨b, 0, none⟩ = some (.int .i64 id)) :
    Calls Tryz.prog 148 #[.slice A n c, .func (.func 160) #[] #[.pointer (some ⟨b, 0, none⟩)]] w fun e w' => e = .returned (.int .i64 (idxFrom (fun e => decide (id < e.id)) l 0)) ∧ Below w.heap.size w w' := by
  have hl : l.length = n := by have := h.1; rw [entsV_length] at this; omega
  have HL := Lib.hid hl
  have HR := Lib.hid h
  have HB := Lib.hid hb
  have l1 := World.block_lt_of_cell? w _ hb
  have HL1 := Lib.hid l1
  clear hl h hb
  go_enter Tryz.func148, Tryz.ntmps148
  go_wp2
  go_loopw [8] (fun i wr => ∃ k : Nat, k ≤ n ∧ i = .int .i64 k ∧ idxFrom (fun e => decide (id < e.id)) l 0 = idxFrom (fun e => decide (id < e.id)) (l.drop k) k ∧ Below w.heap.size w wr) (fun i _ => n - (intOf i).toNat)
  case atStart => exact ⟨0, Nat.zero_le _, rfl, rfl, Below.refl _ _⟩
  case round =>
    obtain ⟨k, hk, rfl, he, hbw⟩ := hrel
    by_cases hlt : k < n
    · obtain ⟨g, off, rfl, hg, hc⟩ := HR.out.flat (by omega) (by omega)
      obtain ⟨x, hx⟩ : ∃ x, l[k]? = some x := ⟨_, List.getElem?_eq_getElem (by rw [HL.out]; exact hlt)⟩
      have hh := fun j (hj : j < 8) u (hu : (entCells x)[j]? = some u) => (hbw.cell (p := ⟨g, off + (k * 8 + j), none⟩) hg).trans (hc _ _ ((entsV_at hx j hj).trans hu))
      have c0 : wr.cell? ⟨g, off + k * 8, none⟩ = some (.int .i64 x.id) := hh 0 (by decide) _ rfl
      have c1 : wr.cell? ⟨g, off + k * 8 + 1, none⟩ = some (.int .i64 x.kind) := by have := hh 1 (by decide) _ rfl; rwa [← Nat.add_assoc] at this
      have c2 : wr.cell? ⟨g, off + k * 8 + 2, none⟩ = some (.int .i64 x.at_.x) := by have := hh 2 (by decide) _ rfl; rwa [← Nat.add_assoc] at this
      have c3 : wr.cell? ⟨g, off + k * 8 + 3, none⟩ = some (.int .i64 x.at_.y) := by have := hh 3 (by decide) _ rfl; rwa [← Nat.add_assoc] at this
      have c4 : wr.cell? ⟨g, off + k * 8 + 4, none⟩ = some (.int .i64 x.vel.x) := by have := hh 4 (by decide) _ rfl; rwa [← Nat.add_assoc] at this
      have c5 : wr.cell? ⟨g, off + k * 8 + 5, none⟩ = some (.int .i64 x.vel.y) := by have := hh 5 (by decide) _ rfl; rwa [← Nat.add_assoc] at this
      have c6 : wr.cell? ⟨g, off + k * 8 + 6, none⟩ = some (.int .i64 x.health) := by have := hh 6 (by decide) _ rfl; rwa [← Nat.add_assoc] at this
      have c7 : wr.cell? ⟨g, off + k * 8 + 7, none⟩ = some (.int .i64 x.wait) := by have := hh 7 (by decide) _ rfl; rwa [← Nat.add_assoc] at this
      have hs := hbw.size
      rw [drop_cons_of hx, idxFrom] at he
      have HC := Lib.hid (fun W (hW : Below w.heap.size w W) => closJoin x id b W ((hW.cell (p := ⟨b, 0, none⟩) HL1.out).trans HB.out))
      obtain ⟨t, ht⟩ : ∃ t, (decide (id < x.id)) = t := ⟨_, rfl⟩
      have HT := Lib.hid ht
      simp only [ht] at he
      have HE := Lib.hid he
      have HBW := Lib.hid hbw
      clear hc hx he hh ht hbw
      cases t with
      | true =>
        go_wp2_with (go_at_call 160; refine (HC.out _ HBW.out).mono ?_; simp only [HT.out]; rintro r w5 ⟨rfl, hb5⟩)
        go_ret
        exact ⟨ret_int HE.out.symm, HBW.out.trans (hb5.mono hs)⟩
      | false =>
        go_wp2_with (go_at_call 160; refine (HC.out _ HBW.out).mono ?_; simp only [HT.out]; rintro r w5 ⟨rfl, hb5⟩)
        exact ⟨⟨k + 1, hlt, by go_num, HE.out, HBW.out.trans (hb5.mono hs)⟩, by simp [intOf]; omega⟩
    · obtain rfl : k = n := by omega
      rw [List.drop_of_length_le (by rw [HL.out]; exact Nat.le_refl _)] at he
      have HE := Lib.hid he
      clear he
      go_wp2
      go_ret
      exact ⟨ret_int HE.out.symm, hbw⟩
end Go.Proofs.YtojbijapdkohlaaGreatDoor
set_option linter.unusedSimpArgs false
set_option linter.unusedVariables false
namespace Go.Proofs.YtojbijapdkohlaaGreatDoor
open Go.RowKit

theorem entsV_set1 (l : List EntV) (k j : Nat) (e e' : EntV) (u : Value) (h : l[k]? = some e) (hj : j < 8) (he : entCells e' = (entCells e).set j u) : (entsV l).set (k * 8 + j) u = entsV (l.set k e') := by
  induction l generalizing k with
  | nil => simp at h
  | cons a l ih =>
    have hl : (entCells a).length = 8 := rfl
    cases k with
    | zero =>
      simp at h; subst h
      show (entCells a ++ entsV l).set (0 * 8 + j) u = entCells e' ++ entsV l
      rw [Nat.zero_mul, Nat.zero_add, List.set_append_left _ _ (by rw [hl]; exact hj), he]
    | succ k =>
      show (entCells a ++ entsV l).set ((k + 1) * 8 + j) u = entCells a ++ entsV (l.set k e')
      rw [List.set_append_right _ _ (by rw [hl]; omega), hl, show (k + 1) * 8 + j - 8 = k * 8 + j by omega, ih k (by simpa using h)]
theorem Row.ent1 {w : World} {A : Option Addr} {n c : Nat} {l : List EntV} (hr : Row w 55 8 A n c (entsV l)) {g off : Nat} (hA : A = some ⟨g, off, none⟩) {k : Nat} {e : EntV} (h : l[k]? = some e) (j : Nat) (hj : j < 8) (u : Value) (e' : EntV)
    (he : entCells e' = (entCells e).set j u) : Row (w.setCell ⟨g, off + k * 8 + j, none⟩ u) 55 8 A n c (entsV (l.set k e')) := by
  have := hr.set hA (k * 8 + j) u
  rw [entsV_set1 l k j e e' u h hj he, ← Nat.add_assoc] at this
  exact this
set_option maxHeartbeats 2000000 in
theorem Row.ent8 {w : World} {A : Option Addr} {n c : Nat} {l : List EntV} (hr : Row w 55 8 A n c (entsV l)) {g off : Nat} (hA : A = some ⟨g, off, none⟩) {k : Nat} {e : EntV} (h : l[k]? = some e) (X : EntV) :
    Row ((((((((w.setCell ⟨g, off + k * 8, none⟩ (.int .i64 X.id)).setCell ⟨g, off + k * 8 + 1, none⟩ (.int .i64 X.kind)).setCell ⟨g, off + k * 8 + 2, none⟩ (.int .i64 X.at_.x)).setCell ⟨g, off + k * 8 + 3, none⟩ (.int .i64 X.at_.y)).setCell ⟨g, off + k * 8 + 4, none⟩ (.int .i64 X.vel.x)).setCell ⟨g, off + k * 8 + 5, none⟩ (.int .i64 X.vel.y)).setCell ⟨g, off + k * 8 + 6, none⟩ (.int .i64 X.health)).setCell ⟨g, off + k * 8 + 7, none⟩ (.int .i64 X.wait)) 55 8 A n c (entsV (l.set k X)) := by
  have hk : k < l.length := (List.getElem?_eq_some_iff.1 h).1
  have q : ∀ y : EntV, (l.set k y)[k]? = some y := fun y => by rw [List.getElem?_set_self hk]
  have r0 := hr.ent1 (e := e) hA h 0 (by decide) (.int .i64 X.id) ⟨X.id, e.kind, ⟨e.at_.x, e.at_.y⟩, ⟨e.vel.x, e.vel.y⟩, e.health, e.wait⟩ rfl
  rw [Nat.add_zero] at r0
  have r1 := r0.ent1 (e := ⟨X.id, e.kind, ⟨e.at_.x, e.at_.y⟩, ⟨e.vel.x, e.vel.y⟩, e.health, e.wait⟩) hA (q ⟨X.id, e.kind, ⟨e.at_.x, e.at_.y⟩, ⟨e.vel.x, e.vel.y⟩, e.health, e.wait⟩) 1 (by decide) (.int .i64 X.kind) ⟨X.id, X.kind, ⟨e.at_.x, e.at_.y⟩, ⟨e.vel.x, e.vel.y⟩, e.health, e.wait⟩ rfl
  rw [List.set_set] at r1
  have r2 := r1.ent1 (e := ⟨X.id, X.kind, ⟨e.at_.x, e.at_.y⟩, ⟨e.vel.x, e.vel.y⟩, e.health, e.wait⟩) hA (q ⟨X.id, X.kind, ⟨e.at_.x, e.at_.y⟩, ⟨e.vel.x, e.vel.y⟩, e.health, e.wait⟩) 2 (by decide) (.int .i64 X.at_.x) ⟨X.id, X.kind, ⟨X.at_.x, e.at_.y⟩, ⟨e.vel.x, e.vel.y⟩, e.health, e.wait⟩ rfl
  rw [List.set_set] at r2
  have r3 := r2.ent1 (e := ⟨X.id, X.kind, ⟨X.at_.x, e.at_.y⟩, ⟨e.vel.x, e.vel.y⟩, e.health, e.wait⟩) hA (q ⟨X.id, X.kind, ⟨X.at_.x, e.at_.y⟩, ⟨e.vel.x, e.vel.y⟩, e.health, e.wait⟩) 3 (by decide) (.int .i64 X.at_.y) ⟨X.id, X.kind, ⟨X.at_.x, X.at_.y⟩, ⟨e.vel.x, e.vel.y⟩, e.health, e.wait⟩ rfl
  rw [List.set_set] at r3
  have r4 := r3.ent1 (e := ⟨X.id, X.kind, ⟨X.at_.x, X.at_.y⟩, ⟨e.vel.x, e.vel.y⟩, e.health, e.wait⟩) hA (q ⟨X.id, X.kind, ⟨X.at_.x, X.at_.y⟩, ⟨e.vel.x, e.vel.y⟩, e.health, e.wait⟩) 4 (by decide) (.int .i64 X.vel.x) ⟨X.id, X.kind, ⟨X.at_.x, X.at_.y⟩, ⟨X.vel.x, e.vel.y⟩, e.health, e.wait⟩ rfl
  rw [List.set_set] at r4
  have r5 := r4.ent1 (e := ⟨X.id, X.kind, ⟨X.at_.x, X.at_.y⟩, ⟨X.vel.x, e.vel.y⟩, e.health, e.wait⟩) hA (q ⟨X.id, X.kind, ⟨X.at_.x, X.at_.y⟩, ⟨X.vel.x, e.vel.y⟩, e.health, e.wait⟩) 5 (by decide) (.int .i64 X.vel.y) ⟨X.id, X.kind, ⟨X.at_.x, X.at_.y⟩, ⟨X.vel.x, X.vel.y⟩, e.health, e.wait⟩ rfl
  rw [List.set_set] at r5
  have r6 := r5.ent1 (e := ⟨X.id, X.kind, ⟨X.at_.x, X.at_.y⟩, ⟨X.vel.x, X.vel.y⟩, e.health, e.wait⟩) hA (q ⟨X.id, X.kind, ⟨X.at_.x, X.at_.y⟩, ⟨X.vel.x, X.vel.y⟩, e.health, e.wait⟩) 6 (by decide) (.int .i64 X.health) ⟨X.id, X.kind, ⟨X.at_.x, X.at_.y⟩, ⟨X.vel.x, X.vel.y⟩, X.health, e.wait⟩ rfl
  rw [List.set_set] at r6
  have r7 := r6.ent1 (e := ⟨X.id, X.kind, ⟨X.at_.x, X.at_.y⟩, ⟨X.vel.x, X.vel.y⟩, X.health, e.wait⟩) hA (q ⟨X.id, X.kind, ⟨X.at_.x, X.at_.y⟩, ⟨X.vel.x, X.vel.y⟩, X.health, e.wait⟩) 7 (by decide) (.int .i64 X.wait) ⟨X.id, X.kind, ⟨X.at_.x, X.at_.y⟩, ⟨X.vel.x, X.vel.y⟩, X.health, X.wait⟩ rfl
  rw [List.set_set] at r7
  exact r7
/-- The cells of one entity of a row. -/
theorem Row.ent {w : World} {A : Option Addr} {n c : Nat} {l : List EntV} (hr : Row w 55 8 A n c (entsV l)) {k : Nat} {e : EntV} (h : l[k]? = some e) :
    ∃ g off, A = some ⟨g, off, none⟩ ∧ g < w.heap.size ∧ ∀ j, j < 8 → w.cell? ⟨g, off + k * 8 + j, none⟩ = (entCells e)[j]? ∧ w.frozen? ⟨g, off + k * 8 + j, none⟩ = false := by
  have hk : k < l.length := (List.getElem?_eq_some_iff.1 h).1
  have hn : l.length = n := by have := hr.1; rw [entsV_length] at this; omega
  obtain ⟨g, off, hA, hg, hc⟩ := hr.cells (by omega)
  refine ⟨g, off, hA, hg, fun j hj => ?_⟩
  obtain ⟨h1, h2⟩ := hc (k * 8 + j) (by omega)
  rw [Nat.add_assoc]
  exact ⟨h1.trans (entsV_at h j hj), h2⟩
def hitE (e : EntV) (by_ : Int) : EntV := if by_ < e.health then { e with health := e.health - by_ } else { e with health := 0, vel := ⟨0, 0⟩, wait := 20 }
set_option maxHeartbeats 4000000 in
theorem wHit (l : List EntV) (A : Option Addr) (n c k g off : Nat) (e : EntV) (by_ : Int) (w : World) (hr : Row w 55 8 A n c (entsV l)) (hA : A = some ⟨g, off, none⟩) (h : l[k]? = some e) (h1 : 0 ≤ by_) (h2 : 0 ≤ e.health) (h3 : e.health ≤ 9223372036854775807) (h4 : by_ ≤ 9223372036854775807) :
    Calls Tryz.prog 171 #[.pointer (some ⟨g, off + k * 8, none⟩), .int .i64 by_] w fun r w' => r = .returned (.tuple #[]) ∧ Row w' 55 8 A n c (entsV (l.set k (hitE e by_))) ∧ Chg (fun q => q = g) w w' := by
  subst hA
  obtain ⟨g', off', hA, hg, hc⟩ := hr.ent h
  simp only [Option.some.injEq, Addr.mk.injEq, and_true] at hA
  obtain ⟨rfl, rfl⟩ := hA
  have c0 : w.cell? ⟨g, off + k * 8 + 0, none⟩ = some (.int .i64 e.id) := (hc 0 (by decide)).1
  have c1 : w.cell? ⟨g, off + k * 8 + 1, none⟩ = some (.int .i64 e.kind) := (hc 1 (by decide)).1
  have c2 : w.cell? ⟨g, off + k * 8 + 2, none⟩ = some (.int .i64 e.at_.x) := (hc 2 (by decide)).1
  have c3 : w.cell? ⟨g, off + k * 8 + 3, none⟩ = some (.int .i64 e.at_.y) := (hc 3 (by decide)).1
  have c4 : w.cell? ⟨g, off + k * 8 + 4, none⟩ = some (.int .i64 e.vel.x) := (hc 4 (by decide)).1
  have c5 : w.cell? ⟨g, off + k * 8 + 5, none⟩ = some (.int .i64 e.vel.y) := (hc 5 (by decide)).1
  have c6 : w.cell? ⟨g, off + k * 8 + 6, none⟩ = some (.int .i64 e.health) := (hc 6 (by decide)).1
  have c7 : w.cell? ⟨g, off + k * 8 + 7, none⟩ = some (.int .i64 e.wait) := (hc 7 (by decide)).1
  have f0 : w.frozen? ⟨g, off + k * 8 + 0, none⟩ = false := (hc 0 (by decide)).2
  have f1 : w.frozen? ⟨g, off + k * 8 + 1, none⟩ = false := (hc 1 (by decide)).2
  have f2 : w.frozen? ⟨g, off + k * 8 + 2, none⟩ = false := (hc 2 (by decide)).2
  have f3 : w.frozen? ⟨g, off + k * 8 + 3, none⟩ = false := (hc 3 (by decide)).2
  have f4 : w.frozen? ⟨g, off + k * 8 + 4, none⟩ = false := (hc 4 (by decide)).2
  have f5 : w.frozen? ⟨g, off + k * 8 + 5, none⟩ = false := (hc 5 (by decide)).2
  have f6 : w.frozen? ⟨g, off + k * 8 + 6, none⟩ = false := (hc 6 (by decide)).2
  have f7 : w.frozen? ⟨g, off + k * 8 + 7, none⟩ = false := (hc 7 (by decide)).2
  have HR := Lib.hid hr
  have HK := Lib.hid h
  clear hr h hc
  have hk : k < l.length := (List.getElem?_eq_some_iff.1 HK.out).1
  by_cases hb : by_ < e.health
  · go_enter Tryz.func171, Tryz.ntmps171
    go_wp2
    first | go_end0 | refine bodyPost_ret (results_none rfl _ _ _) rfl ?_
    refine ⟨rfl, ?_, by repeat (first | with_reducible exact Chg.refl | refine Chg.setCell (F := fun q => q = g) ?_ (Or.inl (show g = g from rfl)) _)⟩
    unfold hitE
    rw [if_pos (by omega)]
    exact HR.out.ent1 rfl HK.out 6 (by decide) _ _ rfl
  · go_enter Tryz.func171, Tryz.ntmps171
    go_wp2
    first | go_end0 | refine bodyPost_ret (results_none rfl _ _ _) rfl ?_
    refine ⟨rfl, ?_, by repeat (first | with_reducible exact Chg.refl | refine Chg.setCell (F := fun q => q = g) ?_ (Or.inl (show g = g from rfl)) _)⟩
    unfold hitE
    rw [if_neg (by omega)]
    have q : ∀ y : EntV, (l.set k y)[k]? = some y := fun y => by rw [List.getElem?_set_self hk]
    have r1 := HR.out.ent1 rfl HK.out 6 (by decide) (.int .i64 0) ⟨e.id, e.kind, e.at_, e.vel, 0, e.wait⟩ rfl
    have r2 := r1.ent1 (e := ⟨e.id, e.kind, e.at_, e.vel, 0, e.wait⟩) rfl (q _) 4 (by decide) (.int .i64 0) ⟨e.id, e.kind, e.at_, ⟨0, e.vel.y⟩, 0, e.wait⟩ rfl
    rw [List.set_set] at r2
    have r3 := r2.ent1 (e := ⟨e.id, e.kind, e.at_, ⟨0, e.vel.y⟩, 0, e.wait⟩) rfl (q _) 5 (by decide) (.int .i64 0) ⟨e.id, e.kind, e.at_, ⟨0, 0⟩, 0, e.wait⟩ rfl
    rw [List.set_set] at r3
    have r4 := r3.ent1 (e := ⟨e.id, e.kind, e.at_, ⟨0, 0⟩, 0, e.wait⟩) rfl (q _) 7 (by decide) (.int .i64 20) ⟨e.id, e.kind, e.at_, ⟨0, 0⟩, 0, 20⟩ rfl
    rw [List.set_set] at r4
    rw [show off + k * 8 + 4 + 1 = off + k * 8 + 5 from rfl]
    exact r4
end Go.Proofs.YtojbijapdkohlaaGreatDoor
