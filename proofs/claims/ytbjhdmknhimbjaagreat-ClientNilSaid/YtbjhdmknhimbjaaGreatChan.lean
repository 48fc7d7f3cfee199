/- Layer 14: headers, put. -/
import Derived.Test.YtbjhdmknhimbjaaGreatBits
set_option linter.unusedSimpArgs false
set_option linter.unusedVariables false
namespace Go.Proofs.YtbjhdmknhimbjaaGreat
open Go.RowKit
/-- What puts make of a writer. -/
structure Puts (w w' : World) (g : Nat) (A : Option Addr) (l : List Bool) : Prop where
  at_ : ∃ A', WrAt w' g A' l ∧ (∀ q, blkOf A' = some q → blkOf A = some q ∨ w.heap.size ≤ q)
  chg : Chg (fun q => q = g ∨ blkOf A = some q) w w'
/-- Blocks that are neither bytes nor a writer are as they were. -/
def Others (w w' : World) : Prop := ∀ (b : Nat) (t : TypeId) (cs : Array Value), t ≠ 5 → t ≠ 130 → Blk w b t cs → Blk w' b t cs
theorem Others.trans {a b c : World} (h : Others a b) (k : Others b c) : Others a c := fun q t cs h1 h2 h3 => k q t cs h1 h2 (h q t cs h1 h2 h3)
theorem bitsPutI (l : List Bool) (A : Option Addr) (g x n : Nat) (X N : Int) (w0 w : World) (h : Puts w0 w g A l) (hX : X = (x : Nat)) (hN : N = (n : Nat)) (hx : x < 18446744073709551616) (hn : n ≤ 64) (hl : l.length ≤ 100000) :
    Calls Tryz.prog 43 #[.pointer (some ⟨g, 0, none⟩), .int .u64 X, .int .i64 N] w fun e w' => e = .returned (.tuple #[]) ∧ Puts w0 w' g A (l ++ bitsN x n) ∧ w.heap.size ≤ w'.heap.size ∧ Others w w' := by
  subst hX hN
  obtain ⟨⟨A1, h1, h2⟩, hc⟩ := h
  refine (bitsPut l A1 g x n w h1 hx hn hl).mono ?_
  rintro e w' ⟨he, A2, h3, h4, h5⟩
  have hoth : Others w w' := by
    intro b t cs t1 t2 hb
    refine Blk.turn hb h5 ?_
    rintro (h | h)
    · subst h
      obtain ⟨c, hb1, -⟩ := h1.n
      exact Blk.ne_ (t := t) hb hb1 t2 rfl
    · obtain ⟨c, -, hr1⟩ := h1.n
      exact hr1.ne_blk hb (Ne.symm t1) b h rfl
  refine ⟨he, ⟨⟨A2, h3, fun q hq => ?_⟩, hc.trans h5 fun q hq => ?_⟩, h5.size, hoth⟩
  · rcases h4 q hq with h | h
    · exact h2 q h
    · exact .inr (Nat.le_trans hc.size h)
  · rcases hq with rfl | hq
    · exact .inl (.inl rfl)
    · rcases h2 q hq with h | h
      · exact .inl (.inr h)
      · exact .inr h
theorem Puts.start {w : World} {g : Nat} {A : Option Addr} {l : List Bool} (h : WrAt w g A l) : Puts w w g A l := ⟨⟨A, h, fun q hq => .inl hq⟩, Chg.refl⟩
theorem Puts.alloc {w0 w : World} {g : Nat} {A : Option Addr} {l : List Bool} (h : Puts w0 w g A l) (o : Obj) : Puts w0 (w.alloc o) g A l := by
  obtain ⟨⟨A1, ⟨⟨c, h1, h2⟩⟩, h3⟩, hc⟩ := h
  exact ⟨⟨A1, ⟨⟨c, h1.alloc o, h2.keep (fun q hq => Below.heap_alloc w o q (h2.lt hq))⟩⟩, h3⟩, hc.alloc o⟩
theorem Puts.cell {w0 w : World} {g : Nat} {A : Option Addr} {l : List Bool} (h : Puts w0 w g A l) {b o : Nat} (hb : b < w0.heap.size) (hg : b ≠ g) (hA : ∀ q, blkOf A = some q → b ≠ q) : w.cell? ⟨b, o, none⟩ = w0.cell? ⟨b, o, none⟩ := by
  unfold World.cell?
  rw [h.chg.block b hb (fun hh => hh.elim hg (fun h => hA b h rfl))]
structure HdrV where
  num : Nat
  any : Bool
  ack : Nat
  mask : Nat
structure HdrV.Ok (h : HdrV) : Prop where
  num : h.num ≤ 65535
  ack : h.ack ≤ 65535
  mask : h.mask ≤ 4294967295
def hdrBits (h : HdrV) : List Bool := bitsN h.num 16 ++ bitsN h.any.toNat 1 ++ bitsN h.ack 16 ++ bitsN h.mask 32
theorem hdrBits_length (h : HdrV) : (hdrBits h).length = 65 := by simp [hdrBits, bitsN_length]
set_option maxRecDepth 100000 in
set_option maxHeartbeats 4000000 in
theorem chanPut (h : HdrV) (hk : h.Ok) (l : List Bool) (A : Option Addr) (g : Nat) (w0 w : World) (hp : Puts w0 w g A l) (hl : l.length ≤ 90000) (hA : ∀ q, blkOf A = some q → q < w0.heap.size) (hg : g < w0.heap.size) :
    Calls Tryz.prog 41 #[.pointer (some ⟨g, 0, none⟩), .agg #[.int .u16 (h.num : Nat), .bool h.any, .int .u16 (h.ack : Nat), .int .u32 (h.mask : Nat)]] w fun e w' => e = .returned (.tuple #[]) ∧ Puts w0 w' g A (l ++ hdrBits h) ∧ w.heap.size ≤ w'.heap.size ∧ Others w w' := by
  obtain ⟨num, any, ack, mask⟩ := h
  obtain ⟨k1, k2, k3⟩ := hk
  simp only at k1 k2 k3
  have hw := hp.chg.size
  have b1 : (num : Int) ≤ 65535 := by omega
  have b2 : (ack : Int) ≤ 65535 := by omega
  have b3 : (mask : Int) ≤ 4294967295 := by omega
  have HP := Lib.hid hp
  clear hp hA
  have hbx : Blk (w.alloc (.cells #[.int .u16 (num : Nat), .bool any, .int .u16 (ack : Nat), .int .u32 (mask : Nat)] 133)) w.heap.size 133 #[.int .u16 (num : Nat), .bool any, .int .u16 (ack : Nat), .int .u32 (mask : Nat)] := Blk.new _ _ _
  have ho0 : Others w (w.alloc (.cells #[.int .u16 (num : Nat), .bool any, .int .u16 (ack : Nat), .int .u32 (mask : Nat)] 133)) := fun b t cs _ _ hb => hb.alloc _
  have HBX := Lib.hid hbx
  have HO0 := Lib.hid ho0
  clear hbx ho0
  cases any
  all_goals
    go_enter Tryz.func41, Tryz.ntmps41
    go_wp2_with fail
    refine (bitsPutI l A g num 16 _ _ w0 _ (HP.out.alloc _) rfl rfl (by omega) (by omega) (by omega)).mono ?_
    rintro e w1 ⟨rfl, p1, s1, o1⟩
    have x1 := o1 _ _ _ (by decide) (by decide) HBX.out
    have c11 := x1.cell 1
    have c12 := x1.cell 2
    have c13 := x1.cell 3
    have P1 := Lib.hid p1
    have O1 := Lib.hid (HO0.out.trans o1)
    have X1 := Lib.hid x1
    simp only [List.getElem?_toArray, List.getElem?_cons_zero, List.getElem?_cons_succ] at c11 c12 c13
    simp at s1
    clear p1 o1 x1
    go_wp2_with fail
    first
      | (refine (bitsPutI (l ++ bitsN num 16) A g 0 1 _ _ w0 _ P1.out (by rfl) (by rfl) (by omega) (by omega) (by simp [bitsN_length]; omega)).mono ?_)
      | (refine (bitsPutI (l ++ bitsN num 16) A g 1 1 _ _ w0 _ P1.out (by rfl) (by rfl) (by omega) (by omega) (by simp [bitsN_length]; omega)).mono ?_)
    rintro e w2 ⟨rfl, p2, s2, o2⟩
    have x2 := o2 _ _ _ (by decide) (by decide) X1.out
    have c21 := x2.cell 1
    have c22 := x2.cell 2
    have c23 := x2.cell 3
    have P2 := Lib.hid p2
    have O2 := Lib.hid (O1.out.trans o2)
    have X2 := Lib.hid x2
    simp only [List.getElem?_toArray, List.getElem?_cons_zero, List.getElem?_cons_succ] at c21 c22 c23
    clear p2 o2 x2 c11 c12 c13
    go_wp2_with fail
    refine (bitsPutI _ A g ack 16 _ _ w0 _ P2.out (by rfl) (by rfl) (by omega) (by omega) (by simp [bitsN_length]; omega)).mono ?_
    rintro e w3 ⟨rfl, p3, s3, o3⟩
    have x3 := o3 _ _ _ (by decide) (by decide) X2.out
    have c31 := x3.cell 1
    have c32 := x3.cell 2
    have c33 := x3.cell 3
    have P3 := Lib.hid p3
    have O3 := Lib.hid (O2.out.trans o3)
    have X3 := Lib.hid x3
    simp only [List.getElem?_toArray, List.getElem?_cons_zero, List.getElem?_cons_succ] at c31 c32 c33
    clear p3 o3 x3 c21 c22 c23
    go_wp2_with fail
    refine (bitsPutI _ A g mask 32 _ _ w0 _ P3.out (by rfl) (by rfl) (by omega) (by omega) (by simp [bitsN_length]; omega)).mono ?_
    rintro e w4 ⟨rfl, p4, s4, o4⟩
    have O4 := Lib.hid (O3.out.trans o4)
    have P4 := Lib.hid p4
    clear p4 o4
    go_wp2_with fail
    first | go_end0 | refine bodyPost_ret (results_none rfl _ _ _) rfl ?_
    have p4 := P4.out
    simp only [List.append_assoc] at p4
    refine ⟨rfl, ?_, by omega, O4.out⟩
    simp only [hdrBits, Bool.toNat_false, Bool.toNat_true, List.append_assoc]
    exact p4
end Go.Proofs.YtbjhdmknhimbjaaGreat
