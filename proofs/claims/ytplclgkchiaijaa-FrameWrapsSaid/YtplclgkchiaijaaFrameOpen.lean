/- The walks of layer 7: a copy, and what is opened. -/
import Derived.Test.YtplclgkchiaijaaFrameWalks
import Derived.BigQuiet
import Derived.Deep.QuietTactic
namespace Go.Proofs.Ytplclgkchiaijaa
open Go.RowKit
/-- A call that gives out a list of bytes of its own. -/
def GivesOwn (w : World) (out : List UInt8) (e : Ending) (w' : World) : Prop :=
  ∃ v n, e = .returned v ∧ w'.ownsRow w.heap.size 5 1 v n (bytesV out) ∧ Below w.heap.size w w'
set_option maxHeartbeats 400000 in
theorem cloneBytes (l : List UInt8) (w : World) (A : Option Addr) (n c : Nat) (h : Reads w w.heap.size 1 A n (bytesV l)) (hn : n ≤ 140737488355328) :
    Calls Try.prog 54 #[.slice A n c] w (GivesOwn w l) := by
  have hl : l.length = n := by have := h.1; simpa [bytesV] using this
  have keq := fun w => Lib.run_eql_slice_nil (P := Try.prog) w 29 5 A n c 0 0 Try.underlying29
  rcases A with _ | ad
  · have hnil : l = [] := by
      have := h.2
      rcases Nat.eq_zero_or_pos n with h0 | h0
      · exact List.eq_nil_of_length_eq_zero (by omega)
      · obtain ⟨_, h1, _⟩ := this h0; cases h1
    subst hnil
    go_enter Try.func54, Try.ntmps54
    go_wp2
    go_ret
    exact ⟨_, 0, rfl, World.ownsRow_nil _ _ _ _, Below.refl _ _⟩
  · clear hl
    have ho : (w.alloc (.cells #[] 5)).ownsRow w.heap.size 5 1 (.slice (some ⟨w.heap.size, 0, none⟩) 0 0) 0 [] := World.ownsRow_lit (e := 5) (size := 1) w #[] 0 (Nat.le_refl _) (by unfold maxLen; omega) rfl
    have hr := h.alloc (Nat.le_refl _) (.cells #[] 5)
    go_enter Try.func54, Try.ntmps54
    go_wp2_with (at_builtin; refine wpList_app _ rfl _ _ 29 rfl elt29 _ _ _ _ rfl ho w.heap.size (some ad) n c (bytesV l) rfl hr (oneCell_bytes l) (by omega) (by simp) ?_; intro v' w2 ho2 hg hb')
    have hbel := below_own ((Below.refl _ _).alloc (Nat.le_refl _) (.cells #[] 5)) ho hg (by simp) (Nat.le_refl _)
    go_ret
    exact ⟨v', 0 + n, rfl, by simpa using ho2, hbel⟩
def openF (key : BitVec 32) (b : List UInt8) : List UInt8 × Int :=
  if b.length < 4 then ([], 4) else if 1404 < b.length then ([], 3) else if b.take 4 = num4 (frameSum key (b.drop 4)) then (b.drop 4, 0) else ([], 5)
/-- Four bytes as a number. -/
def un4 (a b c d : UInt8) : BitVec 32 := BitVec.ofNat 32 (a.toNat + 256 * b.toNat + 65536 * c.toNat + 16777216 * d.toNat)
theorem un4_nat (a b c d : UInt8) : (un4 a b c d).toNat = a.toNat + 256 * b.toNat + 65536 * c.toNat + 16777216 * d.toNat := by
  have := a.toNat_lt
  have := b.toNat_lt
  have := c.toNat_lt
  have := d.toNat_lt
  unfold un4
  rw [BitVec.toNat_ofNat]; omega
theorem num4_un4 (a b c d : UInt8) (s : BitVec 32) : un4 a b c d = s ↔ [a, b, c, d] = num4 s := by
  have ha := a.toNat_lt
  have hb := b.toNat_lt
  have hc := c.toNat_lt
  have hd := d.toNat_lt
  have hs := s.isLt
  have e := un4_nat a b c d
  simp only [num4, List.cons.injEq, and_true]
  constructor
  · rintro rfl
    refine ⟨?_, ?_, ?_, ?_⟩ <;> (apply UInt8.toNat_inj.1; rw [byteAt_nat, e]; omega)
  · rintro ⟨h0, h1, h2, h3⟩
    have g0 := byteAt_nat s 0
    have g1 := byteAt_nat s 1
    have g2 := byteAt_nat s 2
    have g3 := byteAt_nat s 3
    rw [← h0] at g0
    rw [← h1] at g1
    rw [← h2] at g2
    rw [← h3] at g3
    apply BitVec.eq_of_toNat_eq
    rw [e]; omega
theorem or_num (x y : Nat) (k : Nat) (hx : x < 2 ^ k) (hy : x + 2 ^ k * y < 4294967296) : bits .or .u32 (x : Int) ((2 ^ k * y : Nat) : Int) = ((x + 2 ^ k * y : Nat) : Int) := by
  rw [u32_or_nat _ _ (by omega) (by omega), Nat.or_comm, ← Nat.two_pow_add_eq_or_of_lt hx, Nat.add_comm]
theorem un4_walk (a b c d : UInt8) : bits .or .u32 (bits .or .u32 (bits .or .u32 (a.toNat : Int) ((b.toNat : Int) * 256)) ((c.toNat : Int) * 65536)) ((d.toNat : Int) * 16777216) = ((un4 a b c d).toNat : Int) := by
  have ha := a.toNat_lt
  have hb := b.toNat_lt
  have hc := c.toNat_lt
  have hd := d.toNat_lt
  rw [un4_nat]
  have e1 := or_num a.toNat b.toNat 8 (by omega) (by omega)
  have e2 := or_num (a.toNat + 2 ^ 8 * b.toNat) c.toNat 16 (by omega) (by omega)
  have e3 := or_num (a.toNat + 2 ^ 8 * b.toNat + 2 ^ 16 * c.toNat) d.toNat 24 (by omega) (by omega)
  rw [show ((b.toNat : Int) * 256) = ((2 ^ 8 * b.toNat : Nat) : Int) from by omega, e1, show ((c.toNat : Int) * 65536) = ((2 ^ 16 * c.toNat : Nat) : Int) from by omega, e2,
    show ((d.toNat : Int) * 16777216) = ((2 ^ 24 * d.toNat : Nat) : Int) from by omega, e3]
theorem un4_mod (a b c d : UInt8) : bits .or .u32 (bits .or .u32 (bits .or .u32 (a.toNat : Int) ((b.toNat : Int) * 256 % 4294967296)) ((c.toNat : Int) * 65536 % 4294967296)) ((d.toNat : Int) * 16777216 % 4294967296) = ((un4 a b c d).toNat : Int) := by
  have hb := b.toNat_lt
  have hc := c.toNat_lt
  have hd := d.toNat_lt
  rw [show (b.toNat : Int) * 256 % 4294967296 = (b.toNat : Int) * 256 from by omega, show (c.toNat : Int) * 65536 % 4294967296 = (c.toNat : Int) * 65536 from by omega,
    show (d.toNat : Int) * 16777216 % 4294967296 = (d.toNat : Int) * 16777216 from by omega]
  exact un4_walk a b c d
theorem Reads.at4 {w : World} {B n : Nat} {A : Option Addr} {l : List UInt8} (h : Reads w B 1 A n (bytesV l)) (hn : 4 ≤ n) :
    ∃ g o a b c d m, A = some ⟨g, o, none⟩ ∧ l = a :: b :: c :: d :: m ∧ w.cell? ⟨g, o, none⟩ = some (byteV a) ∧ w.cell? ⟨g, o + 1, none⟩ = some (byteV b) ∧ w.cell? ⟨g, o + 2, none⟩ = some (byteV c) ∧ w.cell? ⟨g, o + 3, none⟩ = some (byteV d) := by
  obtain ⟨⟨g, o, sp⟩, e, _, hc⟩ := h.2 (by omega)
  have hl : l.length = n := by have := h.1; simpa [bytesV] using this
  have hsp : sp = none := by
    have h0 := hc 0 _ (List.getElem?_eq_getElem (by simp [bytesV]; omega))
    simpa [Addr.add] using World.cell?_spot h0
  subst hsp
  simp only [add_none] at hc
  match l, hl with
  | a :: b :: c :: d :: m, _ => exact ⟨g, o, a, b, c, d, m, e, rfl, hc 0 _ rfl, hc 1 _ rfl, hc 2 _ rfl, hc 3 _ rfl⟩
  | [], hl => simp at hl; omega
  | [_], hl => simp at hl; omega
  | [_, _], hl => simp at hl; omega
  | [_, _, _], hl => simp at hl; omega
theorem wrap_byte (c : UInt8) : IntKind.u32.wrap (c.toNat : Int) = (c.toNat : Int) := by
  have := c.toNat_lt
  rw [IntKind.wrap_u32]; omega
set_option maxHeartbeats 1000000 in
theorem frame_open (key : BitVec 32) (l : List UInt8) (w : World) (A : Option Addr) (n c : Nat) (h : Reads w w.heap.size 1 A n (bytesV l)) (hn : n ≤ 9223372036854775807) (hnc : n ≤ c) :
    Calls Try.prog 34 #[u32V key, .slice A n c] w (RetOwn w (openF key l).1 (openF key l).2) := by
  have hl : l.length = n := by have := h.1; simpa [bytesV] using this
  by_cases h4 : n < 4
  · have e : openF key l = ([], 4) := by unfold openF; rw [if_pos (by omega)]
    rw [e]
    clear e hl
    go_enter Try.func34, Try.ntmps34
    go_wp2
    go_ret2
    exact ⟨_, 0, rfl, World.ownsRow_nil _ _ _ _, Below.refl _ _⟩
  by_cases hle : n ≤ 1404
  · obtain ⟨g, o, a, b, cc, d, m, rfl, rfl, h0, h1, h2, h3⟩ := h.at4 (by omega)
    unfold byteV at h0 h1 h2 h3
    have hm : Reads w w.heap.size 1 (cutA (some ⟨g, o, none⟩) c 4 1) (n - 4) (bytesV m) := by
      have := h.tail (k := 4) (c := c) (by omega) hnc
      simpa [bytesV] using this
    have kc := run_cut elt29 (some ⟨g, o, none⟩) n c .i64 4 (by omega) 4 rfl
    have e := un4_mod a b cc d
    have z0 := wrap_byte a
    have z1 := wrap_byte b
    have z2 := wrap_byte cc
    have z3 := wrap_byte d
    have j0 : 0 < n := by omega
    have j1 : 1 < n := by omega
    have j2 : 2 < n := by omega
    have j3 : 3 < n := by omega
    clear h
    by_cases heq : un4 a b cc d = frameSum key m
    · have ht : (((un4 a b cc d).toNat : Int) != ((frameSum key m).toNat : Int)) = false := by rw [heq]; simp
      have eo : openF key (a :: b :: cc :: d :: m) = (m, 0) := by
        unfold openF
        rw [if_neg (by omega), if_neg (by omega), if_pos (by exact (num4_un4 a b cc d _).1 heq)]; rfl
      rw [eo]
      clear eo heq hl
      go_enter Try.func34, Try.ntmps34
      go_wp2
      go_quiet (fail)
      go_wp2_with fail
      refine (frame_sum key m _ _ (n - 4) (c - 4) (by exact hm) (by omega)).mono ?_
      rintro e1 w1 ⟨rfl, hb1⟩
      have hm1 := (hm.drewN nq).below hb1
      unfold u32V
      go_wp2_with fail
      refine (cloneBytes m _ _ (n - 4) (c - 4) (hm1.more hb1.size) (by omega)).mono ?_
      rintro e2 w2 ⟨v, n2, rfl, ho2, hb2⟩
      go_wp2
      go_ret2
      exact ⟨v, n2, rfl, own_mono ho2 hb1.size, (below_drews (Below.refl _ _) nq).trans (hb1.trans (hb2.mono hb1.size))⟩
    · have ht : (((un4 a b cc d).toNat : Int) != ((frameSum key m).toNat : Int)) = true := by
        rw [bne_iff_ne]; intro e'; exact heq (BitVec.eq_of_toNat_eq (by omega))
      have eo : openF key (a :: b :: cc :: d :: m) = ([], 5) := by
        unfold openF
        rw [if_neg (by omega), if_neg (by omega), if_neg (fun e' => heq ((num4_un4 a b cc d _).2 (by exact e')))]
      rw [eo]
      clear eo heq hl
      go_enter Try.func34, Try.ntmps34
      go_wp2
      go_quiet (fail)
      go_wp2_with fail
      refine (frame_sum key m _ _ (n - 4) (c - 4) (by exact hm) (by omega)).mono ?_
      rintro e1 w1 ⟨rfl, hb1⟩
      unfold u32V
      go_wp2
      go_ret2
      exact ⟨_, 0, rfl, World.ownsRow_nil _ _ _ _, (below_drews (Below.refl _ _) nq).trans hb1⟩
  · have e : openF key l = ([], 3) := by unfold openF; rw [if_neg (by omega), if_pos (by omega)]
    rw [e]
    clear e hl
    go_enter Try.func34, Try.ntmps34
    go_wp2
    go_ret2
    exact ⟨_, 0, rfl, World.ownsRow_nil _ _ _ _, Below.refl _ _⟩
end Go.Proofs.Ytplclgkchiaijaa
