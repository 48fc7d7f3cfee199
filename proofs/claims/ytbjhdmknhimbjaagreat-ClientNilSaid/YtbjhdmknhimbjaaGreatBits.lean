/- Layer 6: the writer of bits. -/
import Derived.Test.YtbjhdmknhimbjaaGreatClone
import Derived.Test.YtbjhdmknhimbjaaGreatBitsP
import Derived.Test.YtbjhdmknhimbjaaGreatKinTail
import Derived.Deep.DeepCutAuto
import Derived.WalkSpells
import Derived.IntWalk
import Derived.Laws.Bits64b
set_option linter.unusedSimpArgs false
set_option linter.unusedVariables false
namespace Go.Proofs.YtbjhdmknhimbjaaGreat
open Go.RowKit
def natsV (l : List Nat) : List Value := l.map fun x => Value.int .u8 ((x : Nat) : Int)
theorem natsV_length (l : List Nat) : (natsV l).length = l.length := by simp [natsV]
theorem natsV_at {l : List Nat} {k x : Nat} (h : l[k]? = some x) : (natsV l)[k]? = some (.int .u8 (x : Nat)) := by unfold natsV; rw [List.getElem?_map, h]; rfl
theorem natsV_one (l : List Nat) : ∀ u ∈ natsV l, u.oneCell' = true := by
  intro u hu
  unfold natsV at hu
  simp only [List.mem_map] at hu
  obtain ⟨e, _, rfl⟩ := hu
  rfl
theorem eltY : Elt Tryz.prog 40 5 1 1 := Elt.mk' Tryz.underlying40 (.int .u8 0) (by kernel_rfl) rfl (by decide) (by decide)
theorem Blk.turn {w w' : World} {g : Nat} {t : TypeId} {cs : Array Value} {F : Nat → Prop} (h : Blk w g t cs) (hc : Chg F w w') (hF : ¬ F g) : Blk w' g t cs := (hc.block g h.lt hF).trans h
/-- A writer that holds bits; its bytes lie where A says. -/
structure WrAt (w : World) (g : Nat) (A : Option Addr) (l : List Bool) : Prop where
  n : ∃ c, Blk w g 130 #[.slice A (packB l).length c, .int .i64 (l.length : Nat)] ∧ Row w 5 1 A (packB l).length c (natsV (packB l))
theorem bits_or_u8_nat (a b : Nat) (ha : a < 256) (hb : b < 256) : bits .or .u8 (a : Int) (b : Int) = ((a ||| b : Nat) : Int) := by
  have hx : a ||| b < 2 ^ 8 := Nat.or_lt_two_pow (by omega) (by omega)
  have h1 : (BitVec.ofInt 8 (a : Int)).toNat = a := by
    rw [BitVec.ofInt_natCast, BitVec.toNat_ofNat]; exact Nat.mod_eq_of_lt (by omega)
  have h2 : (BitVec.ofInt 8 (b : Int)).toNat = b := by
    rw [BitVec.ofInt_natCast, BitVec.toNat_ofNat]; exact Nat.mod_eq_of_lt (by omega)
  show IntKind.u8.wrap ((BitVec.ofInt 8 (a : Int) ||| BitVec.ofInt 8 (b : Int)).toNat : Int) = _
  rw [BitVec.toNat_or, h1, h2, IntKind.wrap_u8]
  omega
theorem put_byte (x k K bt r : Nat) (hx : x < 18446744073709551616) (hk : k < 64) (hr : r < 8) (hbt : bt < 2 ^ r) (hK : K % 8 = r) :
    bits .or .u8 (bt : Int) (bits .and .u64 ((x : Int) / 2 ^ min k 64) 1 % 256 * 2 ^ min (K % 8) 8 % 256) = ((bt + (x / 2 ^ k % 2 == 1).toNat * 2 ^ r : Nat) : Int) := by
  have e1 : min k 64 = k := by omega
  have e2 : min (K % 8) 8 = r := by omega
  have e3 : (x : Int) / 2 ^ k = ((x / 2 ^ k : Nat) : Int) := by simp
  have hd : x / 2 ^ k < 18446744073709551616 := Nat.lt_of_le_of_lt (Nat.div_le_self _ _) hx
  have e4 : bits .and .u64 ((x / 2 ^ k : Nat) : Int) 1 = ((x / 2 ^ k % 2 : Nat) : Int) := by
    have := bits_and_u64_nat (x / 2 ^ k) 1 hd (by omega)
    rw [Nat.and_one_is_mod] at this
    exact this
  rw [e1, e2, e3, e4]
  have hp : 2 ^ r ≤ 128 := by
    have : 2 ^ r ≤ 2 ^ 7 := Nat.pow_le_pow_right (by omega) (by omega)
    omega
  have hy : x / 2 ^ k % 2 < 2 := Nat.mod_lt _ (by omega)
  have hyb : (x / 2 ^ k % 2 == 1).toNat = x / 2 ^ k % 2 := by
    rcases (by omega : x / 2 ^ k % 2 = 0 ∨ x / 2 ^ k % 2 = 1) with h | h <;> rw [h] <;> rfl
  rw [hyb]
  generalize x / 2 ^ k % 2 = y at hy ⊢
  have e5 : ((y : Nat) : Int) % 256 * 2 ^ r % 256 = ((y * 2 ^ r : Nat) : Int) := by
    have : y * 2 ^ r ≤ 1 * 128 := Nat.mul_le_mul (by omega) hp
    rw [show ((y : Nat) : Int) % 256 = (y : Int) by omega]
    rw [show ((y : Nat) : Int) * 2 ^ r = ((y * 2 ^ r : Nat) : Int) by simp]
    omega
  have hl : y * 2 ^ r ≤ 1 * 128 := Nat.mul_le_mul (by omega) hp
  rw [e5, bits_or_u8_nat bt (y * 2 ^ r) (by omega) (by omega)]
  have := Nat.two_pow_add_eq_or_of_lt hbt y
  congr 1
  rw [Nat.or_comm, Nat.mul_comm y, ← this]
  omega
theorem Row.ne_blk {w : World} {e t : TypeId} {size n c g : Nat} {A : Option Addr} {xs : List Value} {cs : Array Value} (h : Row w e size A n c xs) (hb : Blk w g t cs) (hne : e ≠ t) : ∀ q, blkOf A = some q → q ≠ g := by
  intro q hq
  rcases h.2.2.2 with ⟨h3, -⟩ | ⟨g', off, cur, h3, h4, -, -⟩
  · rw [h3] at hq; cases hq
  · rw [h3] at hq
    have : g' = q := by simpa [blkOf] using hq
    subst this
    exact Blk.ne_ (t := e) h4 hb hne
set_option maxRecDepth 100000 in
set_option maxHeartbeats 4000000 in
theorem bitsPut (l : List Bool) (A : Option Addr) (g x n : Nat) (w : World) (h : WrAt w g A l) (hx : x < 18446744073709551616) (hn : n ≤ 64) (hl : l.length ≤ 100000) :
    Calls Tryz.prog 43 #[.pointer (some ⟨g, 0, none⟩), .int .u64 (x : Nat), .int .i64 (n : Nat)] w fun e w' => e = .returned (.tuple #[]) ∧ ∃ A', WrAt w' g A' (l ++ bitsN x n) ∧ (∀ q, blkOf A' = some q → blkOf A = some q ∨ w.heap.size ≤ q) ∧ Chg (fun q => q = g ∨ blkOf A = some q) w w' := by
  have d1 : decide ((n : Int) < 0) = false := decide_eq_false (by omega)
  have d2 : decide ((64 : Int) < (n : Int)) = false := decide_eq_false (by omega)
  have HH := Lib.hid h
  clear h
  go_enter Tryz.func43, Tryz.ntmps43
  go_wp2
  go_loopw [18] (fun i wr => ∃ (k : Nat) (A' : Option Addr), k ≤ n ∧ i = .int .i64 (k : Nat) ∧ WrAt wr g A' (l ++ bitsN x k) ∧ (∀ q, blkOf A' = some q → blkOf A = some q ∨ w.heap.size ≤ q) ∧ Chg (fun q => q = g ∨ blkOf A = some q) w wr) (fun i _ => n - (intOf i).toNat)
  case atStart => exact ⟨0, A, Nat.zero_le _, rfl, by rw [show l ++ bitsN x 0 = l by simp [bitsN]]; exact HH.out, fun q hq => .inl hq, Chg.refl⟩
  case round =>
    obtain ⟨k, A', hk, rfl, hw, hA', hc⟩ := hrel
    by_cases hlt : k < n
    · have hL : (l ++ bitsN x k).length = l.length + k := by simp [bitsN_length]
      have hstep : l ++ bitsN x (k + 1) = (l ++ bitsN x k) ++ [x / 2 ^ k % 2 == 1] := by simp [bitsN]
      obtain ⟨c, hb, hr⟩ := hw.n
      have HSTEP := Lib.hid hstep
      generalize l ++ bitsN x k = L at hL hb hr hstep HSTEP
      have hK : L.length ≤ 100064 := by omega
      generalize hLn : L.length = K at hL hb hK
      have hpl := packB_length L
      rw [hLn] at hpl
      have z0 : wr.cell? ⟨g, 0, none⟩ = some (.slice A' (packB L).length c) := hb.cell 0
      have z1 : wr.cell? ⟨g, 1, none⟩ = some (.int .i64 (K : Nat)) := hb.cell 1
      have f0 : wr.frozen? ⟨g, 0, none⟩ = false := hb.frozen 0
      have f1 : wr.frozen? ⟨g, 1, none⟩ = false := hb.frozen 1
      have lg := hb.lt
      have HB := Lib.hid hb
      have HR := Lib.hid hr
      have HC := Lib.hid hc
      have HA' := Lib.hid hA'
      have HL := Lib.hid hL
      have HLN := Lib.hid hLn
      have HPL := Lib.hid hpl
      clear hstep hb hr hc hA' hL hLn hpl hw
      generalize hN : (packB L).length = N at z0
      have HN := Lib.hid hN
      clear hN
      go_upto_if 26 with (fail)
      go_cut [] (fun wx => ∃ (A2 : Option Addr) (M c2 : Nat), Blk wx g 130 #[.slice A2 M c2, .int .i64 (K : Nat)] ∧ M = K / 8 + 1 ∧ Row wx 5 1 A2 M c2 (natsV (roomB L)) ∧ (∀ q, blkOf A2 = some q → blkOf A = some q ∨ w.heap.size ≤ q) ∧ Chg (fun q => q = g ∨ blkOf A = some q) w wx)
      case first =>
        by_cases h8 : K % 8 = 0
        · have e8 : ((K : Int) % 8 == 0) = true := by rw [beq_iff_eq]; omega
          have H8 := Lib.hid h8
          clear h8
          go_wp2_with (at_builtin; refine wpList_row rfl (.tmp 31) (.tmp 32) rfl eltY A' N c (natsV (packB L)) rfl (by have := HR.out; rw [HN.out] at this; exact this.keep (fun q hq => Below.heap_alloc _ _ _ (HR.out.lt hq))) (wr.heap.size + 1) (some ⟨wr.heap.size, 0, none⟩) 1 1 [.int .u8 0] rfl (Reads.blk (size := 1) (n := 1) (g := wr.heap.size) (heap_alloc_new wr (.cells #[.int .u8 0] 5)) (by omega) rfl) (by simp [Value.oneCell']) (by have := HPL.out; have := HN.out; omega) ?_; intro A2 c2 w2 hr2 hg2 hb2; have mb2 := (HB.out.alloc (.cells #[.int .u8 0] 5)).grown hg2 (fun e => HR.out.ne_blk HB.out (by decide) g e.symm rfl); have y0 := mb2.cell 0; have y1 := mb2.cell 1; have yz := mb2.frozen 0; have HR2 := Lib.hid hr2; have HG2 := Lib.hid hg2; have HB2 := Lib.hid hb2; have HMB := Lib.hid mb2; clear hr2 hg2 hb2 mb2)
          go_meet
          have hne2 := HR2.out.ne_blk HMB.out (by decide)
          have e0 : Blk (w2.setCell ⟨g, 0, none⟩ (.slice A2 (N + 1) c2)) g 130 #[.slice A2 (N + 1) c2, .int .i64 (K : Nat)] := HMB.out.set_ 0 _
          have e1 : Row (w2.setCell ⟨g, 0, none⟩ (.slice A2 (N + 1) c2)) 5 1 A2 (N + 1) c2 (natsV (roomB L)) := by
            have hr3 : roomB L = packB L ++ [0] := by unfold roomB; rw [HLN.out, if_pos H8.out]
            rw [hr3, show natsV (packB L ++ [0]) = natsV (packB L) ++ [.int .u8 0] by simp [natsV]]
            exact HR2.out.keep (fun q hq => Below.heap_setCell _ _ _ q (hne2 q hq))
          have hc3 : Chg (fun q => q = g ∨ blkOf A = some q) w (w2.setCell ⟨g, 0, none⟩ (.slice A2 (N + 1) c2)) := (((HC.out.alloc _).grown HG2.out (fun k hk => (HA'.out k hk).elim (fun h => .inl (.inr h)) .inr)).setCell (.inl (.inl rfl)) _)
          exact ⟨A2, N + 1, c2, e0, by have := HPL.out; have := HN.out; have := H8.out; omega, e1, fun q hq => by
            rcases HB2.out with h | h
            · exact HA'.out q (h ▸ hq)
            · rw [h] at hq; injection hq with hq; right; subst hq; have := HC.out.size; simp; omega, hc3⟩
        · have e8 : ((K : Int) % 8 == 0) = false := beq_eq_false_iff_ne.2 (by omega)
          have H8 := Lib.hid h8
          clear h8
          go_wp2_with fail
          go_meet
          have hr3 : roomB L = packB L := by unfold roomB; rw [HLN.out, if_neg H8.out]
          have e1 := HR.out
          have e0 := HB.out
          rw [HN.out] at e1 e0
          exact ⟨A', N, c, e0, by have := HPL.out; have := HN.out; have := H8.out; omega, by rw [hr3]; exact e1, HA'.out, HC.out⟩
      case rest =>
        obtain ⟨A2, M, c2, hb, hM, hr, hA2, hc⟩ := hcut
        have hq0 : K / 8 < M := by omega
        obtain ⟨g2, off, rfl, hg2, hcl⟩ := hr.cells (by omega)
        obtain ⟨y0, y1⟩ := hcl (K / 8) (by omega)
        have hbt := last_lt L
        have hgt := roomB_get L (K / 8) (by rw [HLN.out]; omega)
        rw [HLN.out] at hbt
        rw [natsV_at hgt] at y0
        have hps := pack_step L (x / 2 ^ k % 2 == 1)
        rw [HLN.out] at hps
        have HPS := Lib.hid hps
        clear hps hgt hcl
        generalize hbb : byteAt L (K / 8) = bt at hbt y0 HPS
        generalize hqq : K / 8 = q at y0 y1 hq0 HPS
        generalize hrr : K % 8 = r at hbt HPS
        have hrb : r < 8 := by omega
        have i1 : (K : Int) / 8 = (q : Int) := by omega
        have i2 : (K : Int) % 8 = (r : Int) := by omega
        have z0 : wc.cell? ⟨g, 0, none⟩ = some (.slice (some ⟨g2, off, none⟩) M c2) := hb.cell 0
        have z1 : wc.cell? ⟨g, 1, none⟩ = some (.int .i64 (K : Nat)) := hb.cell 1
        have f1 : wc.frozen? ⟨g, 1, none⟩ = false := hb.frozen 1
        have lg := hb.lt
        have gne : g2 ≠ g := hr.ne_blk hb (by decide) g2 rfl
        have j1 : (0 : Int) ≤ (q : Int) := by omega
        have j2 : (q : Int) < (M : Int) := by omega
        have HQQ := Lib.hid hqq
        have HRR := Lib.hid hrr
        have HM := Lib.hid hM
        have HB2 := Lib.hid hb
        have HR2 := Lib.hid hr
        have HA2 := Lib.hid hA2
        have HC2 := Lib.hid hc
        have HBB := Lib.hid hbb
        clear hqq hrr hM hb hr hA2 hc hbb
        have w1 : IntKind.i64.wrap (q : Int) = (q : Int) := IntWalk.i64_in _ (by omega)
        have w2 : IntKind.i64.wrap (r : Int) = (r : Int) := IntWalk.i64_in _ (by omega)
        go_wp2
        go_still_tail 26, (by kernel_rfl)
        change wpList _ _ _ _ _ wc.drew
        go_wp2_with fail
        have hval := put_byte x k K bt r hx (by omega) hrb hbt HRR.out
        have hps := HPS.out
        have hqq := HQQ.out
        have hne := fun q hq => HR2.out.ne_blk HB2.out (by decide) q hq
        have e0 : Blk ((wc.setCell ⟨g2, off + q, none⟩ (.int .u8 (bits .or .u8 (bt : Int) (bits .and .u64 ((x : Int) / 2 ^ min k 64) 1 % 256 * 2 ^ min (K % 8) 8 % 256)))).setCell ⟨g, 1, none⟩ (.int .i64 ((K : Int) + 1))) g 130 #[.slice (some ⟨g2, off, none⟩) M c2, .int .i64 ((K : Int) + 1)] := (HB2.out.far (Ne.symm gne) _).set_ 1 _
        have e1 : Row ((wc.setCell ⟨g2, off + q, none⟩ (.int .u8 (bits .or .u8 (bt : Int) (bits .and .u64 ((x : Int) / 2 ^ min k 64) 1 % 256 * 2 ^ min (K % 8) 8 % 256)))).setCell ⟨g, 1, none⟩ (.int .i64 ((K : Int) + 1))) 5 1 (some ⟨g2, off, none⟩) M c2 ((natsV (roomB L)).set q (.int .u8 (bits .or .u8 (bt : Int) (bits .and .u64 ((x : Int) / 2 ^ min k 64) 1 % 256 * 2 ^ min (K % 8) 8 % 256)))) := (HR2.out.set rfl q _).keep (fun q' hq' => Below.heap_setCell _ _ _ q' (by cases hq'; exact gne))
        have e2 : Chg (fun q => q = g ∨ blkOf A = some q) w ((wc.setCell ⟨g2, off + q, none⟩ (.int .u8 (bits .or .u8 (bt : Int) (bits .and .u64 ((x : Int) / 2 ^ min k 64) 1 % 256 * 2 ^ min (K % 8) 8 % 256)))).setCell ⟨g, 1, none⟩ (.int .i64 ((K : Int) + 1))) := (HC2.out.setCell ((HA2.out g2 rfl).elim (fun h => .inl (.inr h)) .inr) _).setCell (.inl (.inl rfl)) _
        refine ⟨⟨k + 1, some ⟨g2, off, none⟩, by omega, by go_num, ⟨⟨c2, ?_, ?_⟩⟩, HA2.out, ⟨e2.os, e2.tape, e2.output, e2.size, e2.block⟩⟩, by simp [intOf]; omega⟩
        · rw [HSTEP.out]
          have h1 : (packB (L ++ [x / 2 ^ k % 2 == 1])).length = M := by rw [packB_length]; simp only [List.length_append, List.length_singleton]; have := HLN.out; have := HM.out; omega
          have h2 : (((L ++ [x / 2 ^ k % 2 == 1]).length : Nat) : Int) = (K : Int) + 1 := by simp only [List.length_append, List.length_singleton]; have := HLN.out; omega
          rw [h1, h2]
          exact e0
        · rw [HSTEP.out]
          have h1 : (packB (L ++ [x / 2 ^ k % 2 == 1])).length = M := by rw [packB_length]; simp only [List.length_append, List.length_singleton]; have := HLN.out; have := HM.out; omega
          rw [h1, ← hps]
          rw [show natsV ((roomB L).set q (bt + (x / 2 ^ k % 2 == 1).toNat * 2 ^ r)) = (natsV (roomB L)).set q (.int .u8 (bits .or .u8 (bt : Int) (bits .and .u64 ((x : Int) / 2 ^ min k 64) 1 % 256 * 2 ^ min (K % 8) 8 % 256))) by unfold natsV; rw [List.map_set, hval]]
          exact e1
    · have hkn : k = n := by omega
      subst hkn
      go_wp2
      first | go_end0 | refine bodyPost_ret (results_none rfl _ _ _) rfl ?_
      exact ⟨rfl, A', hw, hA', hc⟩
set_option maxRecDepth 100000 in
set_option maxHeartbeats 4000000 in
theorem cloneY (l : List Nat) (w : World) (A : Option Addr) (n c : Nat) (h : Reads w w.heap.size 1 A n (natsV l)) (hn : n ≤ 100000) :
    Calls Tryz.prog 94 #[.slice A n c] w fun e w' => ∃ A' c', e = .returned (.slice A' n c') ∧ Fresh w w' 5 1 A' n c' (natsV l) := by
  have keq := fun w => Lib.run_eql_slice_nil (P := Tryz.prog) w 40 5 A n c 0 0 Tryz.underlying40
  rcases A with _ | ad
  · have hn0 : n = 0 := by
      rcases Nat.eq_zero_or_pos n with h0 | h0
      · exact h0
      · obtain ⟨ad, h1, _⟩ := h.2 h0
        cases h1
    subst hn0
    have hx : natsV l = [] := List.eq_nil_of_length_eq_zero (by simpa using h.1)
    have HX := Lib.hid hx
    clear h hx
    go_enter Tryz.func94, Tryz.ntmps94
    go_wp2
    go_ret
    exact ⟨none, 0, rfl, by rw [HX.out]; exact Row.nil_, (fun g hg => nomatch hg), (by repeat (first | with_reducible exact Below.refl _ _ | with_reducible assumption | with_reducible refine Below.drew ?_ | with_reducible refine below_drews ?_ _ | with_reducible refine Below.alloc ?_ (by first | omega | (simp; done) | (simp; omega)) _ | with_reducible refine Below.setCell ?_ (by first | omega | (simp; done) | (simp; omega)) _))⟩
  · have ho : (w.alloc (.cells #[] 5)).ownsRow w.heap.size 5 1 (.slice (some ⟨w.heap.size, 0, none⟩) 0 0) 0 [] := World.ownsRow_lit (e := 5) (size := 1) w #[] 0 (Nat.le_refl _) (by unfold maxLen; omega) rfl
    have hr := h.alloc (Nat.le_refl _) (.cells #[] 5)
    go_enter Tryz.func94, Tryz.ntmps94
    go_wp2_with (at_builtin; refine wpList_app _ rfl _ _ 40 rfl eltY _ _ _ _ rfl ho w.heap.size (some ad) n c (natsV l) rfl hr (natsV_one l) (by omega) (by simp) ?_; intro v' w2 ho2 hg hb')
    have hbel := below_own ((Below.refl _ _).alloc (Nat.le_refl _) (.cells #[] 5)) ho hg (by simp) (Nat.le_refl _)
    go_ret
    obtain ⟨A', c', rfl, hr', hb⟩ := Row.of_own ho2
    exact ⟨A', c', by simp, by simpa using hr', hb, hbel⟩

theorem Row.readsX {w : World} {e : TypeId} {n c : Nat} {A : Option Addr} {xs : List Value} (h : Row w e 1 A n c xs) : Reads w w.heap.size 1 A n xs := h.reads (by decide)
set_option maxRecDepth 100000 in
set_option maxHeartbeats 4000000 in
theorem bitsBytes (l : List Bool) (A : Option Addr) (g : Nat) (w : World) (h : WrAt w g A l) (hl : l.length ≤ 100000) :
    Calls Tryz.prog 49 #[.pointer (some ⟨g, 0, none⟩)] w fun e w' => ∃ A' c', e = .returned (.slice A' (packB l).length c') ∧ Fresh w w' 5 1 A' (packB l).length c' (natsV (packB l)) := by
  obtain ⟨c, hb, hr⟩ := h.n
  have z0 : w.cell? ⟨g, 0, none⟩ = some (.slice A (packB l).length c) := hb.cell 0
  have hC := cloneY (packB l) w A (packB l).length c (hr.reads (by decide)) (by rw [packB_length]; omega)
  clear h hb hr
  go_enter Tryz.func49, Tryz.ntmps49
  go_wp2_with fail
  refine hC.mono ?_
  rintro e w1 ⟨A', c', rfl, hf⟩
  go_wp2
  go_ret
  exact ⟨A', c', rfl, hf⟩
end Go.Proofs.YtbjhdmknhimbjaaGreat
