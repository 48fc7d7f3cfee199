/- Layer 9: a row of commands, put. (Printed by gen_cmdput.py.) -/
import Derived.Test.YtojbijapdkohlaaGreatDoorQ24Chan
import Derived.Test.YtojbijapdkohlaaGreatDoorCmdRow
import Derived.Deep.DeepCutAuto
set_option linter.unusedSimpArgs false
set_option linter.unusedVariables false
namespace Go.Proofs.YtojbijapdkohlaaGreatDoor
open Go.RowKit
theorem Row.others {w w' : World} {e : TypeId} {size n c : Nat} {A : Option Addr} {xs : List Value} (h : Row w e size A n c xs) (ho : Others w w') (h1 : e ≠ 5) (h2 : e ≠ 240) : Row w' e size A n c xs := by
  refine h.keep fun q hq => ?_
  rcases h.2.2.2 with ⟨h3, -⟩ | ⟨g', off, cur, h3, h4, -, -⟩
  · rw [h3] at hq; cases hq
  · rw [h3] at hq
    have : g' = q := by simpa [blkOf] using hq
    subst this
    exact (ho g' e cur h1 h2 h4).trans (Eq.symm h4)
theorem Puts.below {w0 w w' : World} {g : Nat} {A : Option Addr} {l : List Bool} (h : Puts w0 w g A l) (hb : Below w.heap.size w w') : Puts w0 w' g A l := by
  obtain ⟨⟨A1, ⟨⟨c, h1, h2⟩⟩, h3⟩, hc⟩ := h
  exact ⟨⟨A1, ⟨⟨c, h1.below hb h1.lt, h2.keep (fun q hq => hb.block q (h2.lt hq))⟩⟩, h3⟩, hc.below hb hc.size⟩
theorem Others.refl (w : World) : Others w w := fun _ _ _ _ _ h => h
theorem Others.alloc {w w' : World} (h : Others w w') (o : Obj) : Others w (w'.alloc o) := fun b t cs h1 h2 hb => (h b t cs h1 h2 hb).alloc o
/-- A command's numbers in their kinds' bounds. -/
structure CmdRg (c : CmdV) : Prop where
  mx : -128 ≤ c.mx ∧ c.mx ≤ 127
  my : -128 ≤ c.my ∧ c.my ≤ 127
  num : 0 ≤ c.num ∧ c.num < 4294967296
  view : 0 ≤ c.view ∧ c.view < 4294967296
  frac : 0 ≤ c.frac ∧ c.frac < 256
def cmdBits (c : CmdV) : List Bool := bitsN (c.mx + 127).toNat 8 ++ (bitsN (c.my + 127).toNat 8 ++ (if c.fire then bitsN 1 1 ++ (bitsN c.view.toNat 32 ++ bitsN c.frac.toNat 8) else bitsN 0 1))
theorem cmdBits_len (c : CmdV) : (cmdBits c).length ≤ 57 := by
  unfold cmdBits
  split <;> simp [bitsN_length]
def firstNum (l : List CmdV) : Nat := match l with | [] => 0 | c :: _ => c.num.toNat
def rowBits (l : List CmdV) : List Bool := bitsN (l.length - 1) 3 ++ (bitsN (firstNum l) 32 ++ l.flatMap cmdBits)
theorem flatBits_len (l : List CmdV) : (l.flatMap cmdBits).length ≤ 57 * l.length := by
  induction l with
  | nil => simp
  | cons c l ih =>
    have := cmdBits_len c
    simp only [List.flatMap_cons, List.length_append, List.length_cons]
    omega
theorem flat_take_step {l : List CmdV} {k : Nat} {c : CmdV} (h : l[k]? = some c) : (l.take (k + 1)).flatMap cmdBits = (l.take k).flatMap cmdBits ++ cmdBits c := by
  rw [List.take_add_one, h]
  simp
theorem rowB_ok {l : List CmdV} (h : rowB l = true) : 1 ≤ l.length ∧ l.length ≤ 8 ∧ ∀ (k : Nat) (c : CmdV), l[k]? = some c → cmdOk c = true := by
  unfold rowB at h
  simp only [Bool.and_eq_true, decide_eq_true_eq, List.all_eq_true, List.mem_range] at h
  obtain ⟨⟨h1, h2⟩, h3⟩ := h
  refine ⟨h2, h3, fun k c hc => ?_⟩
  have hk : k < l.length := (List.getElem?_eq_some_iff.1 hc).1
  have := h1 k hk
  unfold okAt at this
  rw [hc] at this
  simp only [Bool.and_eq_true] at this
  exact this.1
def PutRet (w0 w : World) (g : Nat) (A : Option Addr) (lb : List Bool) (e : Ending) (w' : World) : Prop := e = .returned (.bool true) ∧ Puts w0 w' g A lb ∧ w.heap.size ≤ w'.heap.size ∧ Others w w'
set_option maxRecDepth 100000 in
set_option maxHeartbeats 16000000 in
theorem cmdPut (l : List CmdV) (hrow : rowB l = true) (hrg : ∀ c ∈ l, CmdRg c) (lb : List Bool) (A : Option Addr) (g : Nat) (A2 : Option Addr) (c2 : Nat) (w0 w : World) (hp : Puts w0 w g A lb) (hl : lb.length ≤ 90000) (hr : Row w 121 6 A2 l.length c2 (cmdsV l)) :
    Calls Tryz.prog 197 #[.pointer (some ⟨g, 0, none⟩), .slice A2 l.length c2] w (PutRet w0 w g A (lb ++ rowBits l)) := by
  obtain ⟨hn1, hn2, hok⟩ := rowB_ok hrow
  have hR := cmdRow l w A2 l.length c2 (hr.reads (by decide)) (by omega)
  rw [hrow] at hR
  obtain ⟨n, hn⟩ : ∃ n, l.length = n := ⟨_, rfl⟩
  have HN := Lib.hid hn
  have HP := Lib.hid hp
  have HR := Lib.hid hr
  have HOK := Lib.hid hok
  have HRG := Lib.hid hrg
  have HRR := Lib.hid hR
  have HROW := Lib.hid hrow
  have hz := hp.chg.size
  obtain ⟨c0, hc0⟩ : ∃ c, l[0]? = some c := ⟨_, List.getElem?_eq_getElem (by omega)⟩
  have hf0 : firstNum l = c0.num.toNat := by
    cases l with
    | nil => simp at hc0
    | cons a l => simp at hc0; subst hc0; rfl
  have hnum := (hrg c0 (List.mem_of_getElem? hc0)).num
  have HF0 := Lib.hid hf0
  have HC0 := Lib.hid hc0
  rw [hn] at HR HRR hn1 hn2 ⊢
  clear hp hr hok hrg hR hrow hf0 hn
  go_enter Tryz.func197, Tryz.ntmps197
  go_wp2_with fail
  refine HRR.out.mono ?_
  rintro e w1 ⟨rfl, hb1⟩
  have p1 : Puts w0 w1 g A lb := HP.out.below hb1
  have r1 := HR.out.keep (w' := w1) (fun q hq => hb1.block q (HR.out.lt hq))
  have o1 : Others w w1 := fun b t cs _ _ hb => hb.below hb1 hb.lt
  have s1 := hb1.size
  have P1 := Lib.hid p1
  have R1 := Lib.hid r1
  have O1 := Lib.hid o1
  clear p1 r1 o1 hb1
  have j1 : (n : Int) - 1 = ((n - 1 : Nat) : Int) := by omega
  go_wp2_with fail
  refine (bitsPutI lb A g (n - 1) 3 _ _ w0 _ P1.out (by first | exact j1 | (rw [j1]; omega) | omega) (by rfl) (by omega) (by omega) (by omega)).mono ?_
  rintro e w2 ⟨rfl, p2, s2, o2⟩
  have r2 := R1.out.others o2 (by decide) (by decide)
  have hA := (r2.reads (by decide)).cmdAt (k := 0) (by omega)
  obtain ⟨g2, off, c0', rfl, hg2, hcc, x0, -⟩ := hA
  have : c0' = c0 := by have := HC0.out; rw [this] at hcc; exact (Option.some.inj hcc).symm
  subst this
  simp only [Nat.zero_mul, Nat.add_zero] at x0
  have P2 := Lib.hid p2
  have R2 := Lib.hid r2
  have O2 := Lib.hid (O1.out.trans o2)
  have ix0 : (0 : Int) < (n : Int) := by omega
  have ix1 : 0 < n := by omega
  clear p2 r2 o2 hcc
  go_wp2_with fail
  refine (bitsPutI (lb ++ bitsN (n - 1) 3) A g c0'.num.toNat 32 _ _ w0 _ P2.out (by omega) (by rfl) (by omega) (by omega) (by simp [bitsN_length]; omega)).mono ?_
  rintro e w3 ⟨rfl, p3, s3, o3⟩
  have r3 := R2.out.others o3 (by decide) (by decide)
  have hsz : w.heap.size ≤ w3.heap.size := by omega
  have P3 := Lib.hid p3
  have R3 := Lib.hid r3
  have O3 := Lib.hid (O2.out.trans o3)
  clear p3 r3 o3 x0
  obtain ⟨LB, hLB⟩ : ∃ LB, lb ++ bitsN (n - 1) 3 ++ bitsN c0'.num.toNat 32 = LB := ⟨_, rfl⟩
  have hLl : LB.length ≤ 90035 := by rw [← hLB]; simp [bitsN_length]; omega
  have HLB := Lib.hid hLB
  rw [hLB] at P3
  clear hLB
  go_wp2_with fail
  go_loopw [25] (fun i wr => ∃ k : Nat, k ≤ n ∧ i = .int .i64 (k : Nat) ∧ Puts w0 wr g A (LB ++ (l.take k).flatMap cmdBits) ∧ Row wr 121 6 (some ⟨g2, off, none⟩) n c2 (cmdsV l) ∧ w3.heap.size ≤ wr.heap.size ∧ Others w wr) (fun i _ => n - (intOf i).toNat)
  case atStart => exact ⟨0, Nat.zero_le _, rfl, by simpa using P3.out, R3.out, Nat.le_refl _, O3.out⟩
  case round =>
    obtain ⟨k, hk, rfl, hp, hr, hs, ho⟩ := hrel
    by_cases hlt : k < n
    · obtain ⟨g3, off3, c, hA, hg3, hc, x0, x1, x2, x3, x4, x5⟩ := (hr.reads (by decide)).cmdAt hlt
      obtain ⟨rfl, rfl⟩ : g3 = g2 ∧ off3 = off := by simpa [eq_comm] using hA
      have hcm := HOK.out k c hc
      obtain ⟨⟨a1, a2⟩, ⟨a3, a4⟩, ⟨a5, a6⟩, ⟨a7, a8⟩, ⟨a9, a10⟩⟩ := HRG.out c (List.mem_of_getElem? hc)
      unfold cmdOk at hcm
      simp only [decide_eq_true_eq] at hcm
      obtain ⟨b1, b2, b3, b4, -⟩ := hcm
      have hstep := flat_take_step hc
      have hbl := flatBits_len (l.take k)
      have hcl := cmdBits_len c
      have hbl2 : ((l.take k).flatMap cmdBits).length ≤ 57 * 8 := by rw [List.length_take] at hbl; have := HN.out; omega
      obtain ⟨LC, hLC⟩ : ∃ LC, LB ++ (l.take k).flatMap cmdBits = LC := ⟨_, rfl⟩
      have hLCl : LC.length ≤ 90600 := by rw [← hLC]; simp only [List.length_append]; omega
      rw [hLC] at hp
      have hfin : LB ++ (l.take (k + 1)).flatMap cmdBits = LC ++ cmdBits c := by rw [hstep, ← hLC, List.append_assoc]
      have HFIN := Lib.hid hfin
      have lw := hr.lt (g := g3) (by simp [blkOf])
      have B0 := Lib.hid (Blk.new wr 121 (cmdCells c).toArray)
      have p0 := hp.alloc (.cells (cmdCells c).toArray 121)
      have r0 := hr.keep (w' := wr.alloc (.cells (cmdCells c).toArray 121)) (fun q hq => Below.heap_alloc wr _ q (hr.lt hq))
      have o0 := ho.alloc (.cells (cmdCells c).toArray 121)
      have HP0 := Lib.hid p0
      have HR0 := Lib.hid r0
      have HO0 := Lib.hid o0
      clear hp hr ho hc hstep hbl hLC hfin hA p0 r0 o0 hcl hbl2
      simp only [cmdCells] at B0 HP0 HR0 HO0
      obtain ⟨num, mx, my, fire, view, frac⟩ := c
      simp only at *
      have m1 : (mx + 127) = (((mx + 127).toNat : Nat) : Int) := by omega
      have m2 : (my + 127) = (((my + 127).toNat : Nat) : Int) := by omega
      have m3 : view = ((view.toNat : Nat) : Int) := by omega
      have m4 : frac = ((frac.toNat : Nat) : Int) := by omega
      have M1 := Lib.hid m1
      have M2 := Lib.hid m2
      have M3 := Lib.hid m3
      have M4 := Lib.hid m4
      clear m1 m2 m3 m4
      have ix2 : (k : Int) < (n : Int) := by omega
      cases fire with
      | false =>
        have Q0 := HP0
        have BX0 := B0
        have RX0 := HR0
        have OX0 := HO0
        go_wp2_with fail
        refine (bitsPutI (LC) A g (mx + 127).toNat 8 _ _ w0 _ Q0.out (by first | exact M1.out | (have := M1.out; omega)) (by rfl) (by omega) (by omega) (by first | omega | (simp only [List.length_append, bitsN_length]; omega))).mono ?_
        rintro e u1 ⟨rfl, p, s, o⟩
        have bx := o _ _ _ (by decide) (by decide) BX0.out
        have rx := RX0.out.others o (by decide) (by decide)
        have Q1 := Lib.hid p
        have BX1 := Lib.hid bx
        have RX1 := Lib.hid rx
        have OX1 := Lib.hid (OX0.out.trans o)
        have SX1 : w3.heap.size ≤ u1.heap.size := by (try simp at s); omega
        have y0 := bx.cell 0
        have y1 := bx.cell 1
        have y2 := bx.cell 2
        have y3 := bx.cell 3
        have y4 := bx.cell 4
        have y5 := bx.cell 5
        simp only [List.getElem?_toArray, List.getElem?_cons_zero, List.getElem?_cons_succ] at y0 y1 y2 y3 y4 y5
        clear p s o bx rx
        go_wp2_with fail
        refine (bitsPutI (LC ++ bitsN (mx + 127).toNat 8) A g (my + 127).toNat 8 _ _ w0 _ Q1.out (by first | exact M2.out | (have := M2.out; omega)) (by rfl) (by omega) (by omega) (by first | omega | (simp only [List.length_append, bitsN_length]; omega))).mono ?_
        rintro e u2 ⟨rfl, p, s, o⟩
        have bx := o _ _ _ (by decide) (by decide) BX1.out
        have rx := RX1.out.others o (by decide) (by decide)
        have Q2 := Lib.hid p
        have BX2 := Lib.hid bx
        have RX2 := Lib.hid rx
        have OX2 := Lib.hid (OX1.out.trans o)
        have SX2 : w3.heap.size ≤ u2.heap.size := by (try simp at s); omega
        have y0 := bx.cell 0
        have y1 := bx.cell 1
        have y2 := bx.cell 2
        have y3 := bx.cell 3
        have y4 := bx.cell 4
        have y5 := bx.cell 5
        simp only [List.getElem?_toArray, List.getElem?_cons_zero, List.getElem?_cons_succ] at y0 y1 y2 y3 y4 y5
        clear p s o bx rx
        go_wp2_with fail
        refine (bitsPutI (LC ++ bitsN (mx + 127).toNat 8 ++ bitsN (my + 127).toNat 8) A g 0 1 _ _ w0 _ Q2.out (by rfl) (by rfl) (by omega) (by omega) (by first | omega | (simp only [List.length_append, bitsN_length]; omega))).mono ?_
        rintro e u3 ⟨rfl, p, s, o⟩
        have bx := o _ _ _ (by decide) (by decide) BX2.out
        have rx := RX2.out.others o (by decide) (by decide)
        have Q3 := Lib.hid p
        have BX3 := Lib.hid bx
        have RX3 := Lib.hid rx
        have OX3 := Lib.hid (OX2.out.trans o)
        have SX3 : w3.heap.size ≤ u3.heap.size := by (try simp at s); omega
        have y0 := bx.cell 0
        have y1 := bx.cell 1
        have y2 := bx.cell 2
        have y3 := bx.cell 3
        have y4 := bx.cell 4
        have y5 := bx.cell 5
        simp only [List.getElem?_toArray, List.getElem?_cons_zero, List.getElem?_cons_succ] at y0 y1 y2 y3 y4 y5
        clear p s o bx rx
        go_wp2_with fail
        refine ⟨⟨k + 1, hlt, by go_num, ?_, RX3.out, SX3, OX3.out⟩, by simp [intOf]; omega⟩
        rw [HFIN.out]
        have := Q3.out
        unfold cmdBits
        simpa only [Bool.false_eq_true, if_false, List.append_assoc] using this
      | true =>
        have Q0 := HP0
        have BX0 := B0
        have RX0 := HR0
        have OX0 := HO0
        go_wp2_with fail
        refine (bitsPutI (LC) A g (mx + 127).toNat 8 _ _ w0 _ Q0.out (by first | exact M1.out | (have := M1.out; omega)) (by rfl) (by omega) (by omega) (by first | omega | (simp only [List.length_append, bitsN_length]; omega))).mono ?_
        rintro e u1 ⟨rfl, p, s, o⟩
        have bx := o _ _ _ (by decide) (by decide) BX0.out
        have rx := RX0.out.others o (by decide) (by decide)
        have Q1 := Lib.hid p
        have BX1 := Lib.hid bx
        have RX1 := Lib.hid rx
        have OX1 := Lib.hid (OX0.out.trans o)
        have SX1 : w3.heap.size ≤ u1.heap.size := by (try simp at s); omega
        have y0 := bx.cell 0
        have y1 := bx.cell 1
        have y2 := bx.cell 2
        have y3 := bx.cell 3
        have y4 := bx.cell 4
        have y5 := bx.cell 5
        simp only [List.getElem?_toArray, List.getElem?_cons_zero, List.getElem?_cons_succ] at y0 y1 y2 y3 y4 y5
        clear p s o bx rx
        go_wp2_with fail
        refine (bitsPutI (LC ++ bitsN (mx + 127).toNat 8) A g (my + 127).toNat 8 _ _ w0 _ Q1.out (by first | exact M2.out | (have := M2.out; omega)) (by rfl) (by omega) (by omega) (by first | omega | (simp only [List.length_append, bitsN_length]; omega))).mono ?_
        rintro e u2 ⟨rfl, p, s, o⟩
        have bx := o _ _ _ (by decide) (by decide) BX1.out
        have rx := RX1.out.others o (by decide) (by decide)
        have Q2 := Lib.hid p
        have BX2 := Lib.hid bx
        have RX2 := Lib.hid rx
        have OX2 := Lib.hid (OX1.out.trans o)
        have SX2 : w3.heap.size ≤ u2.heap.size := by (try simp at s); omega
        have y0 := bx.cell 0
        have y1 := bx.cell 1
        have y2 := bx.cell 2
        have y3 := bx.cell 3
        have y4 := bx.cell 4
        have y5 := bx.cell 5
        simp only [List.getElem?_toArray, List.getElem?_cons_zero, List.getElem?_cons_succ] at y0 y1 y2 y3 y4 y5
        clear p s o bx rx
        go_wp2_with fail
        refine (bitsPutI (LC ++ bitsN (mx + 127).toNat 8 ++ bitsN (my + 127).toNat 8) A g 1 1 _ _ w0 _ Q2.out (by rfl) (by rfl) (by omega) (by omega) (by first | omega | (simp only [List.length_append, bitsN_length]; omega))).mono ?_
        rintro e u3 ⟨rfl, p, s, o⟩
        have bx := o _ _ _ (by decide) (by decide) BX2.out
        have rx := RX2.out.others o (by decide) (by decide)
        have Q3 := Lib.hid p
        have BX3 := Lib.hid bx
        have RX3 := Lib.hid rx
        have OX3 := Lib.hid (OX2.out.trans o)
        have SX3 : w3.heap.size ≤ u3.heap.size := by (try simp at s); omega
        have y0 := bx.cell 0
        have y1 := bx.cell 1
        have y2 := bx.cell 2
        have y3 := bx.cell 3
        have y4 := bx.cell 4
        have y5 := bx.cell 5
        simp only [List.getElem?_toArray, List.getElem?_cons_zero, List.getElem?_cons_succ] at y0 y1 y2 y3 y4 y5
        clear p s o bx rx
        go_wp2_with fail
        refine (bitsPutI (LC ++ bitsN (mx + 127).toNat 8 ++ bitsN (my + 127).toNat 8 ++ bitsN 1 1) A g view.toNat 32 _ _ w0 _ Q3.out (by first | exact M3.out | (have := M3.out; omega)) (by rfl) (by omega) (by omega) (by first | omega | (simp only [List.length_append, bitsN_length]; omega))).mono ?_
        rintro e u4 ⟨rfl, p, s, o⟩
        have bx := o _ _ _ (by decide) (by decide) BX3.out
        have rx := RX3.out.others o (by decide) (by decide)
        have Q4 := Lib.hid p
        have BX4 := Lib.hid bx
        have RX4 := Lib.hid rx
        have OX4 := Lib.hid (OX3.out.trans o)
        have SX4 : w3.heap.size ≤ u4.heap.size := by (try simp at s); omega
        have y0 := bx.cell 0
        have y1 := bx.cell 1
        have y2 := bx.cell 2
        have y3 := bx.cell 3
        have y4 := bx.cell 4
        have y5 := bx.cell 5
        simp only [List.getElem?_toArray, List.getElem?_cons_zero, List.getElem?_cons_succ] at y0 y1 y2 y3 y4 y5
        clear p s o bx rx
        go_wp2_with fail
        refine (bitsPutI (LC ++ bitsN (mx + 127).toNat 8 ++ bitsN (my + 127).toNat 8 ++ bitsN 1 1 ++ bitsN view.toNat 32) A g frac.toNat 8 _ _ w0 _ Q4.out (by first | exact M4.out | (have := M4.out; omega)) (by rfl) (by omega) (by omega) (by first | omega | (simp only [List.length_append, bitsN_length]; omega))).mono ?_
        rintro e u5 ⟨rfl, p, s, o⟩
        have bx := o _ _ _ (by decide) (by decide) BX4.out
        have rx := RX4.out.others o (by decide) (by decide)
        have Q5 := Lib.hid p
        have BX5 := Lib.hid bx
        have RX5 := Lib.hid rx
        have OX5 := Lib.hid (OX4.out.trans o)
        have SX5 : w3.heap.size ≤ u5.heap.size := by (try simp at s); omega
        have y0 := bx.cell 0
        have y1 := bx.cell 1
        have y2 := bx.cell 2
        have y3 := bx.cell 3
        have y4 := bx.cell 4
        have y5 := bx.cell 5
        simp only [List.getElem?_toArray, List.getElem?_cons_zero, List.getElem?_cons_succ] at y0 y1 y2 y3 y4 y5
        clear p s o bx rx
        go_wp2_with fail
        refine ⟨⟨k + 1, hlt, by go_num, ?_, RX5.out, SX5, OX5.out⟩, by simp [intOf]; omega⟩
        rw [HFIN.out]
        have := Q5.out
        unfold cmdBits
        simpa only [if_true, List.append_assoc] using this
    · have hkn : k = n := by omega
      subst hkn
      have hfin : LB ++ (l.take k).flatMap cmdBits = lb ++ rowBits l := by
        rw [List.take_of_length_le (by have := HN.out; omega), ← HLB.out]
        unfold rowBits
        rw [HF0.out, HN.out]
        simp only [List.append_assoc]
      rw [hfin] at hp
      have HPX := Lib.hid hp
      have HOX := Lib.hid ho
      clear hp ho hr hfin
      go_wp2
      go_ret
      exact ⟨rfl, HPX.out, by omega, HOX.out⟩
end Go.Proofs.YtojbijapdkohlaaGreatDoor
