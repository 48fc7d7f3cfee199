/- The walk of the law CrcTurns. -/
import Derived.Test.YtplclgkchiaijaaCrcLaw2
import Derived.BigQuiet
import Derived.Deep.QuietTactic
import Derived.Deep.RegionLaw
import Derived.StillTailTactics
namespace Go.Proofs.Ytplclgkchiaijaa
open Go.RowKit
theorem xor_u8v (x y : UInt8) : bits .xor .u8 (x.toNat : Int) (y.toNat : Int) = ((x ^^^ y).toNat : Int) := by
  rw [u8_xor_nat _ _ x.toNat_lt y.toNat_lt, UInt8.toNat_xor]
theorem lay_snoc (l m r : List UInt8) (k : Nat) (x y u : UInt8) (hx : l[k]? = some x) (hy : m[k]? = some y) (hu : r[k]? = some u) :
    Crc.lay (l.take (k + 1)) (m.take (k + 1)) (r.take (k + 1)) = Crc.lay (l.take k) (m.take k) (r.take k) ++ [x ^^^ y ^^^ u] := by
  induction k generalizing l m r with
  | zero =>
    match l, m, r, hx, hy, hu with
    | a :: l, b :: m, c :: r, hx, hy, hu =>
      simp at hx hy hu
      subst hx hy hu
      simp [Crc.lay]
  | succ k ih =>
    match l, m, r, hx, hy, hu with
    | a :: l, b :: m, c :: r, hx, hy, hu =>
      have := ih l m r (by simpa using hx) (by simpa using hy) (by simpa using hu)
      simp only [List.take_succ_cons, Crc.lay, List.cons_append]
      rw [this]
theorem reads_take {w : World} {B n' : Nat} {A : Option Addr} {m : List UInt8} (h : Reads w B 1 A n' (bytesV m)) {n : Nat} (hn : n ≤ n') : Reads w B 1 A n (bytesV (m.take n)) := by
  have hl : m.length = n' := by have := h.1; simpa [bytesV] using this
  refine ⟨by simp [bytesV]; omega, fun h0 => ?_⟩
  obtain ⟨ad, e, hb, hc⟩ := h.2 (by omega)
  refine ⟨ad, e, hb, fun j u hu => hc j u ?_⟩
  simp only [bytesV, List.getElem?_map, List.getElem?_take] at hu ⊢
  split at hu
  · exact hu
  · simp at hu
theorem xor4_zero (a b c d : BitVec 32) (h : a ^^^ b ^^^ c ^^^ d = 0#32) :
    (bits .xor .u32 (bits .xor .u32 (bits .xor .u32 (a.toNat : Int) (b.toNat : Int)) (c.toNat : Int)) (d.toNat : Int) == 0) = true := by
  rw [bits_u32, bits_u32, bits_u32, h]; rfl
set_option linter.unusedVariables false
set_option linter.unusedSimpArgs false
set_option maxHeartbeats 4000000 in
theorem lawCrcTurnsYes (l m r : List UInt8) (w : World) (A A' A'' : Option Addr) (n n' n'' c c' c'' : Nat) (h : Reads w w.heap.size 1 A n (bytesV l)) (hn : n ≤ 9223372036854775807)
    (h' : Reads w w.heap.size 1 A' n' (bytesV m)) (hn' : n' ≤ 9223372036854775807) (h'' : Reads w w.heap.size 1 A'' n'' (bytesV r)) (hn'' : n'' ≤ 9223372036854775807) (hc' : n' ≤ c') (hc'' : n'' ≤ c'')
    (H1 : n ≤ 2000) (H2 : n ≤ n') (H3 : n ≤ n'') :
    Calls Try.prog 6 #[.slice A n c, .slice A' n' c', .slice A'' n'' c''] w fun e w' => e = .returned (.bool true) ∧ Below w.heap.size w w' := by
  have d0 : decide ((2000 : Int) < (n : Int)) = false := decide_eq_false (by omega)
  have d1 : decide (n' < n) = false := decide_eq_false (by omega)
  have d2 : decide (n'' < n) = false := decide_eq_false (by omega)
  go_enter Try.func6, Try.ntmps6
  go_wp2_with fail
  refine (crcAwake _).mono ?_
  rintro e w1 ⟨rfl, hb1⟩
  have h := h.below hb1
  have h' := h'.below hb1
  have h'' := h''.below hb1
  go_wp2
  go_loopw [8, 9] (fun v i wr => ∃ k : Nat, k ≤ n ∧ i = .int .i64 k ∧ wr.ownsRow w1.heap.size 5 1 v k (bytesV (Crc.lay (l.take k) (m.take k) (r.take k))) ∧ Below w1.heap.size w1 wr) (fun _ i _ => n - (intOf i).toNat)
  case atStart => exact ⟨0, by omega, rfl, World.ownsRow_nil _ _ _ _, Below.refl _ _⟩
  case round =>
    obtain ⟨k, hk, rfl, hown, hbel⟩ := hrel
    have hz := hbel.size
    by_cases hlt : k < n
    · have g := (h.below (hbel.mono hb1.size))
      have g' := (h'.below (hbel.mono hb1.size))
      have g'' := (h''.below (hbel.mono hb1.size))
      obtain ⟨ad, v, rfl, _, hx0, hc⟩ := g.at_ hlt
      obtain ⟨x, hx, rfl⟩ := at_bytes hx0
      obtain ⟨ad', v, rfl, _, hy0, hc'⟩ := g'.at_ (show k < n' by omega)
      obtain ⟨y, hy, rfl⟩ := at_bytes hy0
      obtain ⟨ad'', v, rfl, _, hu0, hc''⟩ := g''.at_ (show k < n'' by omega)
      obtain ⟨u, hu, rfl⟩ := at_bytes hu0
      unfold byteV at hc hc' hc''
      have HX := Lib.hid hx
      have HY := Lib.hid hy
      have HU := Lib.hid hu
      clear hx hy hu hx0 hy0 hu0 h h' h'' g g' g''
      have hk1 : k < n' := by omega
      have hk2 : k < n'' := by omega
      have e1 : bits .xor .u8 (x.toNat : Int) (y.toNat : Int) = ((x.toNat ^^^ y.toNat : Nat) : Int) := u8_xor_nat _ _ x.toNat_lt y.toNat_lt
      have e2 : bits .xor .u8 ((x.toNat ^^^ y.toNat : Nat) : Int) (u.toNat : Int) = ((x.toNat ^^^ y.toNat ^^^ u.toNat : Nat) : Int) := u8_xor_nat _ _ (by rw [← UInt8.toNat_xor]; exact (x ^^^ y).toNat_lt) u.toNat_lt
      have e3 : Hid (Value.int .u8 ((x.toNat ^^^ y.toNat ^^^ u.toNat : Nat) : Int) = byteV (x ^^^ y ^^^ u)) := by show _ = _; unfold byteV; rw [UInt8.toNat_xor, UInt8.toNat_xor]
      have hr : Reads (wr.alloc (.cells #[.int .u8 ((x.toNat ^^^ y.toNat ^^^ u.toNat : Nat) : Int)] 5)) (wr.heap.size + 1) 1 (some ⟨wr.heap.size, 0, none⟩) 1 [byteV (x ^^^ y ^^^ u)] := by
        rw [← e3.out]; exact Reads.new (size := 1) (n := 1) (Nat.lt_succ_self _) rfl
      go_wp2
      go_region_law (refine step_app _ rfl (.tmp 39) (.tmp 54) 29 rfl elt29 w1.heap.size u8 k (bytesV (Crc.lay (l.take k) (m.take k) (r.take k))) (by simp [Act.eval, Act.put]) (by exact hown.alloc _) (wr.heap.size + 1) (some ⟨wr.heap.size, 0, none⟩) 1 1 [byteV (x ^^^ y ^^^ u)] (by simp [Act.eval, Act.put]) (by exact hr) (oneCell_bytes [x ^^^ y ^^^ u]) (by omega) (by simp; omega) ?_; intro v' w' ho hg hb')
      all_goals
        have hbel' := below_own ((hbel.alloc hz (.cells #[.int .u8 ((x.toNat ^^^ y.toNat ^^^ u.toNat : Nat) : Int)] 5)).drew) (by exact hown.alloc _) hg (by simp; omega) (Nat.le_refl _)
        go_wp2
        go_roundw
        case rel => exact ⟨k + 1, by omega, by go_num, by rw [lay_snoc l m r k x y u HX.out HY.out HU.out, bytesV_append]; exact ho, hbel'⟩
        case measure => simp [intOf]; omega
    · obtain ⟨A9, c9, rfl, hr⟩ := Reads.owned hown
      have hl : l.length = n := by have := h.1; simpa [bytesV] using this
      have hm : m.length = n' := by have := h'.1; simpa [bytesV] using this
      have hrr : r.length = n'' := by have := h''.1; simpa [bytesV] using this
      have hkn : k = n := by omega
      have hfin : Crc.sum l ^^^ Crc.sum (m.take n) ^^^ Crc.sum (r.take n) ^^^ Crc.sum (Crc.lay (l.take k) (m.take k) (r.take k)) = 0#32 := by
        rw [hkn, show l.take n = l from List.take_of_length_le (by omega)]
        exact Crc.sum_lay l (m.take n) (r.take n) (by simp; omega) (by simp; omega)
      have HF := Lib.hid hfin
      clear hfin hl hm hrr hkn
      have g := (h.below (hbel.mono hb1.size))
      have g' := reads_take (h'.below (hbel.mono hb1.size)) H2
      have g'' := reads_take (h''.below (hbel.mono hb1.size)) H3
      have q1 := fun q => crcSum l (wr.drewN q) _ A n c (g.drewN q) hn
      have q2 := fun q => crcSum (m.take n) (wr.drewN q) _ A' n c' (g'.drewN q) hn
      have q3 := fun q => crcSum (r.take n) (wr.drewN q) _ A'' n c'' (g''.drewN q) hn
      have q4 := fun q => crcSum (Crc.lay (l.take k) (m.take k) (r.take k)) (wr.drewN q) _ A9 k c9 (hr.drewN q) (by omega)
      go_wp2
      go_quiet ((go_at_call 24; first | (with_reducible exact quiet_left (q1 _)) | (with_reducible exact quiet_left (q2 _)) | (with_reducible exact quiet_left (q3 _)) | (with_reducible exact quiet_left (q4 _))))
      have e1 := xor4_zero _ _ _ _ HF.out
      go_wp2
      go_ret
      exact ⟨ret_bool e1, below_drews (hb1.trans (hbel.mono hb1.size)) nq⟩
set_option maxHeartbeats 1000000 in
theorem lawCrcTurnsNo (w : World) (A A' A'' : Option Addr) (n n' n'' c c' c'' : Nat) (hn : n ≤ 9223372036854775807) (hn' : n' ≤ 9223372036854775807) (hn'' : n'' ≤ 9223372036854775807)
    (H : ¬ (n ≤ 2000 ∧ n ≤ n' ∧ n ≤ n'')) :
    Calls Try.prog 6 #[.slice A n c, .slice A' n' c', .slice A'' n'' c''] w fun e w' => e = .returned (.bool true) ∧ Below w.heap.size w w' := by
  by_cases h1 : n ≤ 2000
  · have d0 : decide ((2000 : Int) < (n : Int)) = false := decide_eq_false (by omega)
    by_cases h2 : n ≤ n'
    · have d1 : decide (n' < n) = false := decide_eq_false (by omega)
      have d2 : decide (n'' < n) = true := decide_eq_true (by omega)
      go_enter Try.func6, Try.ntmps6
      go_wp2_with fail
      refine (crcAwake _).mono ?_
      rintro e w1 ⟨rfl, hb1⟩
      go_wp2_with fail
      refine (crcAwake _).mono ?_
      rintro e w2 ⟨rfl, hb2⟩
      go_wp2
      go_ret
      exact ⟨rfl, hb1.trans (hb2.mono hb1.size)⟩
    · have d1 : decide (n' < n) = true := decide_eq_true (by omega)
      go_enter Try.func6, Try.ntmps6
      go_wp2_with fail
      refine (crcAwake _).mono ?_
      rintro e w1 ⟨rfl, hb1⟩
      go_wp2_with fail
      refine (crcAwake _).mono ?_
      rintro e w2 ⟨rfl, hb2⟩
      go_wp2
      go_ret
      exact ⟨rfl, hb1.trans (hb2.mono hb1.size)⟩
  · have d0 : decide ((2000 : Int) < (n : Int)) = true := decide_eq_true (by omega)
    go_enter Try.func6, Try.ntmps6
    go_wp2_with fail
    refine (crcAwake _).mono ?_
    rintro e w1 ⟨rfl, hb1⟩
    go_wp2_with fail
    refine (crcAwake _).mono ?_
    rintro e w2 ⟨rfl, hb2⟩
    go_wp2
    go_ret
    exact ⟨rfl, hb1.trans (hb2.mono hb1.size)⟩
theorem lawCrcTurns (l m r : List UInt8) (w : World) (A A' A'' : Option Addr) (n n' n'' c c' c'' : Nat) (h : Reads w w.heap.size 1 A n (bytesV l)) (hn : n ≤ 9223372036854775807)
    (h' : Reads w w.heap.size 1 A' n' (bytesV m)) (hn' : n' ≤ 9223372036854775807) (h'' : Reads w w.heap.size 1 A'' n'' (bytesV r)) (hn'' : n'' ≤ 9223372036854775807) (hc' : n' ≤ c') (hc'' : n'' ≤ c'') :
    Calls Try.prog 6 #[.slice A n c, .slice A' n' c', .slice A'' n'' c''] w fun e w' => e = .returned (.bool true) ∧ Below w.heap.size w w' := by
  by_cases H : n ≤ 2000 ∧ n ≤ n' ∧ n ≤ n''
  · exact lawCrcTurnsYes l m r w A A' A'' n n' n'' c c' c'' h hn h' hn' h'' hn'' hc' hc'' H.1 H.2.1 H.2.2
  · exact lawCrcTurnsNo w A A' A'' n n' n'' c c' c'' hn hn' hn'' H
end Go.Proofs.Ytplclgkchiaijaa
