/- The references of layers 5 and 7: a sum, a sum of two numbers, a frame. The references of layers 6 and 14: bits put, a header put. -/
import Derived.Test.YtojbijapdkohlaaGreatDoorQ37FrameOpen
import Derived.BigQuiet
import Derived.Deep.QuietTactic
import Derived.Test.YtojbijapdkohlaaGreatDoorQ03SrvPut
import Derived.Test.YtojbijapdkohlaaGreatDoorQ20RingX
import Derived.Test.YtojbijapdkohlaaGreatDoorQ39SrvTickP
set_option linter.unusedSimpArgs false
set_option linter.unusedVariables false
namespace Go.Proofs.YtojbijapdkohlaaGreatDoor
open Go.RowKit
theorem half_u32 (s : BitVec 32) : ((s.toNat : Int) / (2 : Int)) = ((s >>> 1).toNat : Int) := by
  rw [BitVec.toNat_ushiftRight, Nat.shiftRight_eq_div_pow]; omega
theorem stp_odd (s : BitVec 32) (h : (s.toNat : Int) % 2 = 1) : bits .xor .u32 ((s.toNat : Int) / (2 : Int)) 3988292384 = ((Crc.stp s).toNat : Int) := by
  have e : (3988292384 : Int) = ((3988292384#32 : BitVec 32).toNat : Int) := rfl
  rw [half_u32, e, bits_u32]
  unfold Crc.stp
  rw [BitVec.getLsbD, Nat.testBit_zero, decide_eq_true (show s.toNat % 2 = 1 by omega)]; rfl
theorem stp_even (s : BitVec 32) (h : ¬ (s.toNat : Int) % 2 = 1) : ((s.toNat : Int) / (2 : Int)) = ((Crc.stp s).toNat : Int) := by
  rw [half_u32]
  unfold Crc.stp
  rw [BitVec.getLsbD, Nat.testBit_zero, decide_eq_false (show ¬ s.toNat % 2 = 1 by omega)]
  simp
theorem not_sub (s : BitVec 32) : (4294967295 : Int) - (s.toNat : Int) = ((~~~ s).toNat : Int) := by
  have := s.isLt
  rw [BitVec.toNat_not]; omega

set_option maxHeartbeats 400000 in
theorem refSum (l : List UInt8) (w : World) (B : Nat) (A : Option Addr) (n c : Nat) (h : Reads w B 1 A n (bytesV l)) (hn : n ≤ 9223372036854775807) :
    Calls Tryz.prog 183 #[.slice A n c] w fun e w' => e = .returned (u32V (Crc.sum l)) ∧ w = w' := by
  have hl : l.length = n := by have := h.1; simpa [bytesV] using this
  have HL := Lib.hid hl
  clear hl
  go_enter Tryz.func183, Tryz.ntmps183
  go_wp2
  go_loop [3, 4] (fun s i => ∃ k : Nat, k ≤ n ∧ i = .int .i64 k ∧ s = .int .u32 ((Crc.run 4294967295#32 (l.take k)).toNat : Int)) (fun _ i => n - (intOf i).toNat)
  case atStart => exact ⟨0, Nat.zero_le _, rfl, rfl⟩
  case round =>
    obtain ⟨k, hk, rfl, rfl⟩ := hrel
    by_cases hlt : k < n
    · obtain ⟨ad, v, rfl, _, hx, hc⟩ := h.at_ hlt
      obtain ⟨b, hb, rfl⟩ := at_bytes hx
      have HB := Lib.hid hb
      clear hb hx h
      unfold byteV at hc
      go_wp2
      rw [wide_nat, bits_u32]
      go_loop [3, 5] (fun s j => ∃ m : Nat, m ≤ 8 ∧ j = .int .i64 m ∧ s = .int .u32 ((Crc.stpN m (Crc.run 4294967295#32 (l.take k) ^^^ Crc.wide b)).toNat : Int)) (fun _ j => 8 - (intOf j).toNat)
      case atStart => exact ⟨0, by omega, rfl, rfl⟩
      case round =>
        obtain ⟨m, hm, rfl, rfl⟩ := hrel
        by_cases hlm : m < 8
        · obtain ⟨z, hz⟩ : ∃ z, z = Crc.stpN m (Crc.run 4294967295#32 (l.take k) ^^^ Crc.wide b) := ⟨_, rfl⟩
          rw [← hz]
          have HZ := Lib.hid hz
          clear hz
          have := z.isLt
          by_cases hodd : (z.toNat : Int) % 2 = 1
          · have ho : ((z.toNat : Int) % 2 == 1) = true := beq_iff_eq.2 hodd
            have HO := Lib.hid hodd
            clear hodd
            go_wp2
            rw [stp_odd z HO.out]
            go_round
            case rel => exact ⟨m + 1, by omega, by go_num, by rw [stpN_succ, HZ.out]⟩
            case measure => simp [intOf]; omega
          · have ho : ((z.toNat : Int) % 2 == 1) = false := beq_eq_false_iff_ne.2 hodd
            have HO := Lib.hid hodd
            clear hodd
            go_wp2
            rw [stp_even z HO.out]
            go_round
            case rel => exact ⟨m + 1, by omega, by go_num, by rw [stpN_succ, HZ.out]⟩
            case measure => simp [intOf]; omega
        · go_wp2
          go_round
          case rel => exact ⟨k + 1, by omega, by go_num, by rw [run_snoc l k b HB.out, show m = 8 from by omega]⟩
          case measure => simp [intOf]; omega
    · have := (Crc.run 4294967295#32 (l.take k)).isLt
      go_wp2
      rw [not_sub]
      go_ret
      exact ⟨ret_u32 (by rw [List.take_of_length_le (by rw [HL.out]; omega)]; rfl), rfl⟩
theorem take4 (a : BitVec 32) (k : Nat) (h : k < 4) : (num4 a).take (k + 1) = (num4 a).take k ++ [byteOf a k] := by
  match k, h with
  | 0, _ => rfl
  | 1, _ => rfl
  | 2, _ => rfl
  | 3, _ => rfl
set_option maxHeartbeats 1000000 in
theorem refMix (a b : BitVec 32) (w : World) : Calls Tryz.prog 182 #[u32V a, u32V b] w fun e w' => e = .returned (u32V (mixB a b)) ∧ Below w.heap.size w w' := by
  unfold u32V
  have ha := a.isLt
  have hb := b.isLt
  go_enter Tryz.func182, Tryz.ntmps182
  go_wp2
  go_loopw [0, 5, 6] (fun x v i wr => ∃ k : Nat, k ≤ 4 ∧ i = .int .i64 k ∧ x = .int .u32 ((a.toNat / 256 ^ k : Nat) : Int) ∧ wr.ownsRow w.heap.size 5 1 v k (bytesV ((num4 a).take k)) ∧ Below w.heap.size w wr) (fun _ _ i _ => 4 - (intOf i).toNat)
  case atStart => exact ⟨0, by omega, rfl, by simp, World.ownsRow_nil _ _ _ _, Below.refl _ _⟩
  case round =>
    obtain ⟨k, hk, rfl, rfl, hown, hbel⟩ := hrel
    have hz := hbel.size
    by_cases hlt : k < 4
    · have hq : (a.toNat / 256 ^ k : Nat) < 4294967296 := Nat.lt_of_le_of_lt (Nat.div_le_self _ _) ha
      obtain ⟨q, hqq⟩ : ∃ q, q = a.toNat / 256 ^ k := ⟨_, rfl⟩
      rw [← hqq] at hq ⊢
      have HQ := Lib.hid hqq
      clear hqq
      have hr : Reads (wr.alloc (.cells #[.int .u8 ((q : Int) % 256)] 5)) (wr.heap.size + 1) 1 (some ⟨wr.heap.size, 0, none⟩) 1 [byteV (byteOf a k)] := by
        rw [← byteV_at a k ((q : Int) % 256) (by rw [HQ.out]; omega)]
        exact Reads.new (size := 1) (n := 1) (Nat.lt_succ_self _) rfl
      go_wp2_with (at_builtin; refine wpList_app _ rfl _ _ 100 rfl elt29 _ _ _ _ rfl (hown.alloc _) (wr.heap.size + 1) (some ⟨wr.heap.size, 0, none⟩) 1 1 [byteV (byteOf a k)] rfl hr (oneCell_bytes [byteOf a k]) (by omega) (by simp; omega) ?_; intro v' w' ho hg hb')
      have hbel' := below_own (hbel.alloc hz _) (hown.alloc _) hg (by simp; omega) (Nat.le_refl _)
      go_roundw
      case rel => exact ⟨k + 1, by omega, by go_num, by rw [HQ.out, Nat.pow_succ, ← Nat.div_div_eq_div_mul]; go_num, by rw [take4 a k hlt, bytesV_append]; exact ho, hbel'⟩
      case measure => simp [intOf]; omega
    · have hown4 : wr.ownsRow w.heap.size 5 1 u5 4 (bytesV (num4 a)) := by
        obtain rfl : k = 4 := by omega
        exact hown
      clear hown
      have hown := hown4
      clear hown4
      generalize ((a.toNat / 256 ^ k : Nat) : Int) = x0
      go_wp2
      go_loopw [1, 5, 7] (fun x v i wr => ∃ k : Nat, k ≤ 4 ∧ i = .int .i64 k ∧ x = .int .u32 ((b.toNat / 256 ^ k : Nat) : Int) ∧ wr.ownsRow w.heap.size 5 1 v (4 + k) (bytesV (num4 a ++ (num4 b).take k)) ∧ Below w.heap.size w wr) (fun _ _ i _ => 4 - (intOf i).toNat)
      case atStart => exact ⟨0, by omega, rfl, by simp, by simpa using hown, hbel⟩
      case round =>
        clear hown hbel hz
        obtain ⟨k, hk, rfl, rfl, hown, hbel⟩ := hrel
        have hz := hbel.size
        by_cases hlt : k < 4
        · have hq : (b.toNat / 256 ^ k : Nat) < 4294967296 := Nat.lt_of_le_of_lt (Nat.div_le_self _ _) hb
          obtain ⟨q, hqq⟩ : ∃ q, q = b.toNat / 256 ^ k := ⟨_, rfl⟩
          rw [← hqq] at hq ⊢
          have HQ := Lib.hid hqq
          clear hqq
          have hr : Reads (wr.alloc (.cells #[.int .u8 ((q : Int) % 256)] 5)) (wr.heap.size + 1) 1 (some ⟨wr.heap.size, 0, none⟩) 1 [byteV (byteOf b k)] := by
            rw [← byteV_at b k ((q : Int) % 256) (by rw [HQ.out]; omega)]
            exact Reads.new (size := 1) (n := 1) (Nat.lt_succ_self _) rfl
          go_wp2_with (at_builtin; refine wpList_app _ rfl _ _ 100 rfl elt29 _ _ _ _ rfl (hown.alloc _) (wr.heap.size + 1) (some ⟨wr.heap.size, 0, none⟩) 1 1 [byteV (byteOf b k)] rfl hr (oneCell_bytes [byteOf b k]) (by omega) (by simp; omega) ?_; intro v' w' ho hg hb')
          have hbel' := below_own (hbel.alloc hz _) (hown.alloc _) hg (by simp; omega) (Nat.le_refl _)
          go_roundw
          case rel => exact ⟨k + 1, by omega, by go_num, by rw [HQ.out, Nat.pow_succ, ← Nat.div_div_eq_div_mul]; go_num, by rw [take4 b k hlt, ← List.append_assoc, bytesV_append _ [byteOf b k]]; exact ho, hbel'⟩
          case measure => simp [intOf]; omega
        · have hown4 : wr.ownsRow w.heap.size 5 1 u5 8 (bytesV (mixL a b)) := by
            obtain rfl : k = 4 := by omega
            exact hown
          clear hown
          have hown := hown4
          clear hown4
          obtain ⟨A, c, rfl, hr⟩ := Reads.owned hown
          go_wp2_with fail
          refine (refSum (mixL a b) _ _ A 8 c hr (by omega)).mono ?_
          rintro e w' ⟨rfl, rfl⟩
          go_wp2
          go_ret
          exact ⟨rfl, hbel⟩
theorem refMixLen (key : BitVec 32) (n : Nat) (hn : n ≤ 4294967295) (w : World) : Calls Tryz.prog 182 #[.int .u32 (key.toNat : Int), .int .u32 (n : Int)] w fun e w' => e = .returned (u32V (mixB key (BitVec.ofNat 32 n))) ∧ Below w.heap.size w w' := by
  have h := refMix key (BitVec.ofNat 32 n) w
  unfold u32V at h
  rw [BitVec.toNat_ofNat, Nat.mod_eq_of_lt (show n < 2 ^ 32 by omega)] at h
  exact h
set_option maxHeartbeats 1000000 in
theorem ref_wrap (key : BitVec 32) (l : List UInt8) (w : World) (A : Option Addr) (n c : Nat) (h : Reads w w.heap.size 1 A n (bytesV l)) (hn : n ≤ 9223372036854775807) :
    Calls Tryz.prog 114 #[u32V key, .slice A n c] w (RetOwn w (wrapF key l).1 (wrapF key l).2) := by
  have hl : l.length = n := by have := h.1; simpa [bytesV] using this
  by_cases hle : n ≤ 1400
  · have e : wrapF key l = (num4 (frameSum key l) ++ l, 0) := by unfold wrapF; rw [if_pos (by omega)]
    have d0 : decide ((1400 : Int) < (n : Int)) = false := decide_eq_false (by omega)
    have HL := Lib.hid hl
    rw [e]
    clear hl e
    unfold u32V
    go_enter Tryz.func114, Tryz.ntmps114
    go_wp2_with fail
    refine (refSum l _ _ A n c h hn).mono ?_
    rintro e w1 ⟨rfl, rfl⟩
    go_wp2_with fail
    refine (refMixLen key n (by omega) _).mono ?_
    rintro e w1 ⟨rfl, hb1⟩
    unfold u32V
    go_wp2_with fail
    refine (refMix (Crc.sum l) (mixB key (BitVec.ofNat 32 n)) _).mono ?_
    rintro e w2 ⟨rfl, hb2⟩
    have hs : mixB (Crc.sum l) (mixB key (BitVec.ofNat 32 n)) = frameSum key l := by unfold frameSum; rw [HL.out]
    rw [hs]
    clear hs
    have hb := hb1.trans (hb2.mono hb1.size)
    clear hb1 hb2
    have hs := (frameSum key l).isLt
    unfold u32V
    go_wp2
    have h2 := h.below hb
    go_loopw [6, 7, 8] (fun x v i wr => ∃ k : Nat, k ≤ 4 ∧ i = .int .i64 k ∧ x = .int .u32 (((frameSum key l).toNat / 256 ^ k : Nat) : Int) ∧ wr.ownsRow w2.heap.size 5 1 v k (bytesV ((num4 (frameSum key l)).take k)) ∧ Below w2.heap.size w2 wr) (fun _ _ i _ => 4 - (intOf i).toNat)
    case atStart => exact ⟨0, by omega, rfl, by simp, World.ownsRow_nil _ _ _ _, Below.refl _ _⟩
    case round =>
      obtain ⟨k, hk, rfl, rfl, hown, hbel⟩ := hrel
      have hz := hbel.size
      by_cases hlt : k < 4
      · have hq : ((frameSum key l).toNat / 256 ^ k : Nat) < 4294967296 := Nat.lt_of_le_of_lt (Nat.div_le_self _ _) hs
        obtain ⟨q, hqq⟩ : ∃ q, q = (frameSum key l).toNat / 256 ^ k := ⟨_, rfl⟩
        rw [← hqq] at hq ⊢
        have HQ := Lib.hid hqq
        clear hqq h2 h
        have hr : Reads (wr.alloc (.cells #[.int .u8 ((q : Int) % 256)] 5)) (wr.heap.size + 1) 1 (some ⟨wr.heap.size, 0, none⟩) 1 [byteV (byteOf (frameSum key l) k)] := by
          rw [← byteV_at (frameSum key l) k ((q : Int) % 256) (by rw [HQ.out]; omega)]
          exact Reads.new (size := 1) (n := 1) (Nat.lt_succ_self _) rfl
        go_wp2_with (at_builtin; refine wpList_app _ rfl _ _ 100 rfl elt29 _ _ _ _ rfl (hown.alloc _) (wr.heap.size + 1) (some ⟨wr.heap.size, 0, none⟩) 1 1 [byteV (byteOf (frameSum key l) k)] rfl hr (oneCell_bytes [byteOf (frameSum key l) k]) (by omega) (by simp; omega) ?_; intro v' w' ho hg hb')
        have hbel' := below_own (hbel.alloc hz _) (hown.alloc _) hg (by simp; omega) (Nat.le_refl _)
        go_roundw
        case rel => exact ⟨k + 1, by omega, by go_num, by rw [HQ.out, Nat.pow_succ, ← Nat.div_div_eq_div_mul]; go_num, by rw [take4 (frameSum key l) k hlt, bytesV_append]; exact ho, hbel'⟩
        case measure => simp [intOf]; omega
      · have hown4 : wr.ownsRow w2.heap.size 5 1 u7 4 (bytesV (num4 (frameSum key l))) := by
          obtain rfl : k = 4 := by omega
          exact hown
        clear hown
        generalize (((frameSum key l).toNat / 256 ^ k : Nat) : Int) = x0
        have h3 := h2.below (hbel.mono hb.size)
        have s2 := hb.size
        go_wp2_with (at_builtin; refine wpList_app _ rfl _ _ 100 rfl elt29 _ _ _ _ rfl hown4 w.heap.size A n c (bytesV l) rfl h3 (oneCell_bytes l) (by omega) (by omega) ?_; intro v' w3 ho hg hb')
        have hbel' := below_own hbel hown4 hg hz (Nat.le_refl _)
        go_ret2
        exact ⟨v', 4 + n, rfl, by rw [bytesV_append]; exact own_mono ho hb.size, hb.trans (hbel'.mono hb.size)⟩
  · have e : wrapF key l = ([], 3) := by unfold wrapF; rw [if_neg (by omega)]
    rw [e]
    clear e hl
    go_enter Tryz.func114, Tryz.ntmps114
    go_wp2
    go_ret2
    exact ⟨_, 0, rfl, World.ownsRow_nil _ _ _ _, Below.refl _ _⟩
end Go.Proofs.YtojbijapdkohlaaGreatDoor
set_option linter.unusedSimpArgs false
set_option linter.unusedVariables false
namespace Go.Proofs.YtojbijapdkohlaaGreatDoor
open Go.RowKit
/-- A reference's writer that lies at g and holds the bits L; all that is older than base is as it was. -/
structure BrAt (w0 w : World) (g : Nat) (L : List Bool) : Prop where
  n : ∃ v : Value, Blk w g 226 #[v] ∧ w.ownsRow w0.heap.size 4 1 v L.length (boolsV L)
  bel : Below w0.heap.size w0 w
  hg : w0.heap.size ≤ g
/-- What a reference's writer leaves alone: blocks of other kinds. -/
structure OthR (w w' : World) : Prop where
  size : w.heap.size ≤ w'.heap.size
  keep : ∀ q t, clsOf w q = some t → t ≠ 226 → t ≠ 4 → w'.heap[q]? = w.heap[q]?
theorem OthR.refl (w : World) : OthR w w := ⟨Nat.le_refl _, fun _ _ _ _ _ => rfl⟩
theorem OthR.trans {a b c : World} (h : OthR a b) (h2 : OthR b c) : OthR a c :=
  ⟨Nat.le_trans h.size h2.size, fun q t hq n1 n2 => (h2.keep q t (by unfold clsOf; rw [h.keep q t hq n1 n2]; exact hq) n1 n2).trans (h.keep q t hq n1 n2)⟩
theorem OthR.below {w w' : World} (h : Below w.heap.size w w') : OthR w w' := ⟨h.size, fun q t hq _ _ => h.block q (clsOf_lt hq)⟩
theorem OthR.blk {w w' : World} (h : OthR w w') {q : Nat} {t : TypeId} {cs : Array Value} (hb : Blk w q t cs) (h1 : t ≠ 226) (h2 : t ≠ 4) : Blk w' q t cs := (h.keep q t hb.cls h1 h2).trans hb
theorem OthR.row {w w' : World} (h : OthR w w') {e : TypeId} {size n c : Nat} {A : Option Addr} {xs : List Value} (hr : Row w e size A n c xs) (h1 : e ≠ 226) (h2 : e ≠ 4) : Row w' e size A n c xs := hr.keep fun q hq => h.keep q e (hr.cls hq) h1 h2
theorem own_block {w : World} {base : Nat} {e : TypeId} {size n q : Nat} {v : Value} {xs : List Value} (h : w.ownsRow base e size v n xs) (hq : v.ownBlock = some q) : clsOf w q = some e := by
  rcases h.2 with ⟨rfl, rfl⟩ | ⟨g, cap, cur, rfl, hb, hg, -⟩
  · cases hq
  · cases hq
    unfold clsOf
    rw [hg]
theorem own_keepB {w w' : World} {base : Nat} {e : TypeId} {size n : Nat} {v : Value} {xs : List Value} (h : w.ownsRow base e size v n xs) (hk : ∀ q, v.ownBlock = some q → w'.heap[q]? = w.heap[q]?) : w'.ownsRow base e size v n xs := by
  refine ⟨h.1, ?_⟩
  rcases h.2 with h1 | ⟨g, cap, cur, rfl, hb, hg, h3⟩
  · exact .inl h1
  · exact .inr ⟨g, cap, cur, rfl, hb, (hk g rfl).trans hg, h3⟩
theorem bool_half (x : Nat) : ((((x : Nat) : Int) % 2 == 1) : Bool) = (x % 2 == 1) := by
  rcases Nat.mod_two_eq_zero_or_one x with h | h
  · have : (x : Int) % 2 = 0 := by omega
    rw [this, h]; rfl
  · have : (x : Int) % 2 = 1 := by omega
    rw [this, h]; rfl
set_option maxRecDepth 100000 in
set_option maxHeartbeats 4000000 in
theorem refPutB (w0 w : World) (g x n : Nat) (L : List Bool) (h : BrAt w0 w g L) (hx : x < 18446744073709551616) (hn : n ≤ 64) (hL : L.length ≤ 100000) :
    Calls Tryz.prog 112 #[.pointer (some ⟨g, 0, none⟩), .int .u64 (x : Nat), .int .i64 (n : Nat)] w fun e w' => e = .returned (.tuple #[]) ∧ BrAt w0 w' g (L ++ bitsN x n) ∧ OthR w w' := by
  have d64 : decide ((n : Int) ≤ 64) = true := decide_eq_true (by omega)
  have d64n : decide (n ≤ 64) = true := decide_eq_true hn
  have H := Lib.hid h
  clear h
  go_enter Tryz.func112, Tryz.ntmps112
  go_wp2
  go_loopw [1, 6] (fun y i wr => ∃ k : Nat, k ≤ n ∧ i = .int .i64 (k : Nat) ∧ y = .int .u64 ((x / 2 ^ k : Nat) : Int) ∧ BrAt w0 wr g (L ++ bitsN x k) ∧ OthR w wr) (fun _ i _ => n - (intOf i).toNat)
  case atStart => exact ⟨0, Nat.zero_le _, rfl, by simp, by simpa [bitsN] using H.out, OthR.refl w⟩
  case round =>
    obtain ⟨k, hk, rfl, rfl, hbr, hoth⟩ := hrel
    have HOT := Lib.hid hoth
    clear hoth
    by_cases hlt : k < n
    · have t1 : decide ((k : Int) < (n : Int)) = true := decide_eq_true (by omega)
      have t1n : decide (k < n) = true := decide_eq_true hlt
      have hq : x / 2 ^ k < 18446744073709551616 := Nat.lt_of_le_of_lt (Nat.div_le_self _ _) hx
      obtain ⟨q, hqq⟩ : ∃ q, q = x / 2 ^ k := ⟨_, rfl⟩
      rw [← hqq] at hq ⊢
      obtain ⟨v, hv1, hv2⟩ := hbr.n
      have hbel := hbr.bel
      have hg := hbr.hg
      have z0 : wr.cell? ⟨g, 0, none⟩ = some v := hv1.cell 0
      have lg := hv1.lt
      obtain ⟨d, hd⟩ : ∃ d : Bool, (q % 2 == 1) = d := ⟨_, rfl⟩
      have hdi : (((q : Int) % 2 == 1) : Bool) = d := by rw [bool_half, hd]
      have hdd : decide ((q : Int) % 2 = 1) = d := by rw [← hdi]; rfl
      have hlen : (L ++ bitsN x k).length ≤ 100064 := by simp [bitsN_length]; omega
      have HQ := Lib.hid (show _ ∧ _ ∧ _ from ⟨hqq, hd, hlen⟩)
      have BR := Lib.hid (show _ ∧ _ ∧ _ from ⟨hv1, hv2, hbel⟩)
      obtain ⟨m, hm⟩ : ∃ m, (L ++ bitsN x k).length = m := ⟨_, rfl⟩
      have HM := Lib.hid hm
      have hown := hv2
      rw [hm] at hown hlen
      have hr : Reads (wr.alloc (.cells #[.bool d] 4)) (wr.heap.size + 1) 1 (some ⟨wr.heap.size, 0, none⟩) 1 (boolsV [d]) := Reads.new (size := 1) (n := 1) (Nat.lt_succ_self _) rfl
      have hz := hbel.size
      clear hqq hd hm hv1 hv2 hbr
      go_wp2_with (at_builtin; refine wpList_app _ rfl _ _ 22 rfl elt22 _ _ _ _ rfl (hown.alloc _) (wr.heap.size + 1) (some ⟨wr.heap.size, 0, none⟩) 1 1 (boolsV [d]) rfl hr (boolsV_one [d]) (by omega) (by simp; omega) ?_; intro v' w' ho hg' hb'; obtain ⟨A', c', rfl, hrw, hbA⟩ := Row.of_own ho; have ob : Blk w' g 226 #[v] := (BR.out.1.alloc (.cells #[.bool d] 4)).grown hg' (fun e => cls_ne BR.out.1.cls (own_block BR.out.2.1 e.symm) (by decide)); have u0 : w'.cell? ⟨g, 0, none⟩ = some v := ob.cell 0; have fu : w'.frozen? ⟨g, 0, none⟩ = false := ob.frozen 0; have lu := ob.lt)
      have hbel' := below_own (BR.out.2.2.alloc hz _) (BR.out.2.1.alloc _) hg' (by simp; omega) (Nat.le_refl _)
      have hn' : BrAt w0 (w'.setCell ⟨g, 0, none⟩ (.slice A' (m + 1) c')) g (L ++ bitsN x (k + 1)) := by
        have e1 : L ++ bitsN x (k + 1) = (L ++ bitsN x k) ++ [d] := by
          show L ++ (bitsN x k ++ [x / 2 ^ k % 2 == 1]) = _
          rw [← HQ.out.1, HQ.out.2.1, List.append_assoc]
        have e2 : (L ++ bitsN x (k + 1)).length = m + 1 := by rw [e1, List.length_append, HM.out]; rfl
        refine ⟨⟨.slice A' (m + 1) c', ob.set_ 0 _, ?_⟩, hbel'.setCell (p := ⟨g, 0, none⟩) hg _, hg⟩
        rw [e2, e1, show boolsV (L ++ bitsN x k ++ [d]) = boolsV (L ++ bitsN x k) ++ boolsV [d] by simp [boolsV]]
        exact own_keepB ho (fun q hq => Below.heap_setCell _ _ _ q (fun e => by have e2 : q = g := e; subst e2; exact cls_ne ob.cls (own_block ho hq) (by decide)))
      have ho3 : OthR wr (w'.setCell ⟨g, 0, none⟩ (.slice A' (m + 1) c')) := by
        refine ⟨?_, fun q t hq n1 n2 => ?_⟩
        · have e3 := hg'.size
          simp at e3
          simp [World.setCell]
          omega
        · have l1 := clsOf_lt hq
          refine (Below.heap_setCell _ _ _ q (fun e => by have e2 : q = g := e; subst e2; exact cls_ne hq BR.out.1.cls n1)).trans ?_
          exact (hg'.block q (by simp; omega) (fun e => cls_ne hq (own_block BR.out.2.1 e.symm) n2)).trans (Below.heap_alloc _ _ q l1)
      have HN := Lib.hid (show _ ∧ _ from ⟨hn', HOT.out.trans ho3⟩)
      clear ho hg' hb' hrw hbA hbel' hn' ob ho3
      go_wp2
      exact ⟨⟨k + 1, by omega, by go_num, by rw [HQ.out.1, Nat.pow_succ, ← Nat.div_div_eq_div_mul]; go_num, HN.out.1, HN.out.2⟩, by simp [intOf]; omega⟩
    · have hkn : k = n := by omega
      subst hkn
      have t1 : decide ((k : Int) < (k : Int)) = false := decide_eq_false (by omega)
      have HB := Lib.hid hbr
      clear hbr
      generalize ((x / 2 ^ k : Nat) : Int) = x0
      go_wp2
      first | go_end0 | refine bodyPost_ret (results_none rfl _ _ _) rfl ?_
      exact ⟨rfl, HB.out, HOT.out⟩
set_option maxRecDepth 100000 in
set_option maxHeartbeats 4000000 in
theorem refPutH (w0 w : World) (g : Nat) (h : HdrV) (hh : h.Ok) (L : List Bool) (hb : BrAt w0 w g L) (hL : L.length ≤ 90000) :
    Calls Tryz.prog 111 #[.pointer (some ⟨g, 0, none⟩), .agg #[.int .u16 (h.num : Nat), .bool h.any, .int .u16 (h.ack : Nat), .int .u32 (h.mask : Nat)]] w fun e w' => e = .returned (.tuple #[]) ∧ BrAt w0 w' g (L ++ hdrBits h) ∧ OthR w w' := by
  have H := Lib.hid hb
  obtain ⟨h1, h2, h3⟩ := hh
  obtain ⟨num, any, ack, mask⟩ := h
  simp only at h1 h2 h3 ⊢
  have HL := Lib.hid hL
  clear hb hL
  go_enter Tryz.func111, Tryz.ntmps111
  go_wp2_with fail
  have mb : Below w.heap.size w (w.alloc (.cells #[.int .u16 (num : Nat), .bool any, .int .u16 (ack : Nat), .int .u32 (mask : Nat)] 98)) := (Below.refl _ _).alloc (Nat.le_refl _) _
  have mx : Blk (w.alloc (.cells #[.int .u16 (num : Nat), .bool any, .int .u16 (ack : Nat), .int .u32 (mask : Nat)] 98)) w.heap.size 98 #[.int .u16 (num : Nat), .bool any, .int .u16 (ack : Nat), .int .u32 (mask : Nat)] := Blk.new _ _ _
  have hb4 : BrAt w0 (w.alloc (.cells #[.int .u16 (num : Nat), .bool any, .int .u16 (ack : Nat), .int .u32 (mask : Nat)] 98)) g L := by
    obtain ⟨v, e1, e2⟩ := H.out.n
    exact ⟨⟨v, e1.alloc _, e2.alloc _⟩, H.out.bel.alloc H.out.bel.size _, H.out.hg⟩
  generalize (w.alloc (.cells #[.int .u16 (num : Nat), .bool any, .int .u16 (ack : Nat), .int .u32 (mask : Nat)] 98)) = wa at mb mx hb4 ⊢
  have MB := Lib.hid (show _ ∧ _ ∧ _ from ⟨OthR.below mb, mx, hb4⟩)
  clear mb mx hb4
  obtain ⟨hx, hhx⟩ : ∃ hx, w.heap.size = hx := ⟨_, rfl⟩
  rw [hhx] at MB ⊢
  clear hhx
  refine (refPutB w0 wa g num 16 L MB.out.2.2 (by omega) (by decide) (by have := HL.out; omega)).mono ?_
  rintro e w1 ⟨rfl, hb1, ho1⟩
  have m1 := ho1.blk MB.out.2.1 (by decide) (by decide)
  have z1 : w1.cell? ⟨hx, 1, none⟩ = some (.bool any) := m1.cell 1
  have M1 := Lib.hid (show _ ∧ _ ∧ _ from ⟨hb1, m1, MB.out.1.trans ho1⟩)
  clear hb1 m1 ho1
  have P2 := Lib.hid (fun W (hW : BrAt w0 W g (L ++ bitsN num 16)) => refPutB w0 W g any.toNat 1 _ hW (by cases any <;> decide) (by decide) (by have := HL.out; simp [bitsN_length]; omega))
  cases any
  all_goals
    go_wp2_with fail
    refine (P2.out _ M1.out.1).mono ?_
    rintro e w2 ⟨rfl, hb2, ho2⟩
    have m2 := ho2.blk M1.out.2.1 (by decide) (by decide)
    have z2 : w2.cell? ⟨hx, 2, none⟩ = some (.int .u16 (ack : Nat)) := m2.cell 2
    have M2 := Lib.hid (show _ ∧ _ ∧ _ from ⟨hb2, m2, M1.out.2.2.trans ho2⟩)
    clear hb2 m2 ho2
    go_wp2_with fail
    refine (refPutB w0 w2 g ack 16 _ M2.out.1 (by omega) (by decide) (by have := HL.out; simp [bitsN_length]; omega)).mono ?_
    rintro e w3 ⟨rfl, hb3, ho3⟩
    have m3 := ho3.blk M2.out.2.1 (by decide) (by decide)
    have z3 : w3.cell? ⟨hx, 3, none⟩ = some (.int .u32 (mask : Nat)) := m3.cell 3
    have M3 := Lib.hid (show _ ∧ _ ∧ _ from ⟨hb3, m3, M2.out.2.2.trans ho3⟩)
    clear hb3 m3 ho3
    go_wp2_with fail
    refine (refPutB w0 w3 g mask 32 _ M3.out.1 (by omega) (by decide) (by have := HL.out; simp [bitsN_length]; omega)).mono ?_
    rintro e w4 ⟨rfl, hb4, ho4⟩
    have M4 := Lib.hid (show _ ∧ _ from ⟨hb4, M3.out.2.2.trans ho4⟩)
    clear hb4 ho4
    go_wp2
    first | go_end0 | refine bodyPost_ret (results_none rfl _ _ _) rfl ?_
    refine ⟨rfl, ?_, M4.out.2⟩
    have := M4.out.1
    unfold hdrBits
    simpa only [List.append_assoc] using this
end Go.Proofs.YtojbijapdkohlaaGreatDoor
