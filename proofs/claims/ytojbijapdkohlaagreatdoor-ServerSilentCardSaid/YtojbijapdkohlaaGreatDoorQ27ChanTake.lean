/- What clear makes of a slice's tail. Layer 14: a header is taken. -/
import Derived.Test.YtojbijapdkohlaaGreatDoorQ12WInsG
import Derived.Test.YtojbijapdkohlaaGreatDoorChanSend
import Derived.Test.YtojbijapdkohlaaGreatDoorSerial
import Derived.Test.YtojbijapdkohlaaGreatDoorQ09WHit
set_option linter.unusedSimpArgs false
set_option linter.unusedVariables false
namespace Go.Proofs.YtojbijapdkohlaaGreatDoor
open Go.RowKit
section
variable {P : Program} {w : World} {t e : TypeId} {size bytes : Nat}
theorem zeroCells_one {zs : Array Value} (hz : ∀ v ∈ zs.toList, v.oneCell' = true) (m : Nat) : ∀ v ∈ (Builtin.zeroCells zs m).toList, v.oneCell' = true := by
  intro v hv
  unfold Builtin.zeroCells at hv
  simp only [Array.toList_map, List.mem_map] at hv
  obtain ⟨i, hi, rfl⟩ := hv
  have hi' : i < m * zs.size := by simpa using hi
  have h0 : 0 < zs.size := by
    rcases Nat.eq_zero_or_pos zs.size with h | h
    · rw [h] at hi'; omega
    · exact h
  have hlt : i % zs.size < zs.size := Nat.mod_lt _ h0
  rw [getElem!_pos zs (i % zs.size) hlt]
  exact hz _ (by simp)
theorem zeroCells_length (zs : Array Value) (m : Nat) : (Builtin.zeroCells zs m).toList.length = m * zs.size := by
  unfold Builtin.zeroCells
  simp
theorem run_clear_tail (E : Elt P t e size bytes) (ty : TypeId) {zv : Value} (hv : ∀ w, (zeroValue e).run P w = .ok zv w) (hz : ∀ v ∈ zv.cells.toList, v.oneCell' = true) (hzl : zv.cells.size = size) {A : Option Addr} {n c i : Nat} {xs : List Value} (hr : Row w e size A n c xs) (hi : i ≤ n) :
    ∃ w', (Builtin.clear_ #[t] ty #[.slice (cutA A c i size) (n - i) (c - i)]).run P w = .ok (.tuple #[]) w' ∧ Row w' e size A i c (xs.take (i * size)) ∧ Chg (fun q => blkOf A = some q) w w' := by
  rcases Nat.eq_zero_or_pos (n - i) with h0 | h0
  · refine ⟨w, ?_, hr.take hi, Chg.refl⟩
    rw [h0]
    cases cutA A c i size <;> simp [Builtin.clear_, run_underlying E.ht]
  · rcases hr.2.2.2 with ⟨rfl, rfl⟩ | ⟨g, off, cur, rfl, hg, hc, ht⟩
    · have := hr.2.1; omega
    · have hnc := hr.2.1
      have hcut : cutA (some (⟨g, off, none⟩ : Addr)) c i size = some ⟨g, off + i * size, none⟩ := by
        unfold cutA
        rw [if_neg (by omega)]
        simp [add_none]
      rw [hcut]
      have hlen : (Builtin.zeroCells zv.cells (n - i)).toList.length = (n - i) * size := by rw [zeroCells_length, hzl]
      have hcs : n * size ≤ c * size := Nat.mul_le_mul_right _ hnc
      have hns : (n - i) * size + i * size = n * size := by rw [← Nat.add_mul]; congr 1; omega
      have hsp := fun j (hj : j < (Builtin.zeroCells zv.cells (n - i)).toList.length) => hr.spare (i * size + j) (by rw [hlen] at hj; omega)
      have hst := run_storeCells_cells (P := P) g (off + i * size) (Builtin.zeroCells zv.cells (n - i)).toList 0 w (by simpa [Nat.add_assoc] using fun j hj => (hsp j (by simpa using hj)).1) (by simpa [Nat.add_assoc] using fun j hj => (hsp j (by simpa using hj)).2) (zeroCells_one hz _)
      simp only [Nat.add_zero] at hst
      refine ⟨w.setCells g (off + i * size) (Builtin.zeroCells zv.cells (n - i)).toList, ?_, ?_, Chg.setCells (F := fun q => blkOf (some (⟨g, off, none⟩ : Addr)) = some q) rfl _ _ _ Chg.refl⟩
      · obtain ⟨m, hm⟩ : ∃ m, n - i = m + 1 := ⟨n - i - 1, by omega⟩
        rw [hm] at hst ⊢
        simp [Builtin.clear_, run_underlying E.ht, hv, hst]
      · have h1 := (hr.take hi).more (m := n - i) (news := (Builtin.zeroCells zv.cells (n - i)).toList) hlen (by omega)
        have h2 := h1.take (k := i) (by omega)
        rw [List.take_append_of_le_length (by rw [(hr.take hi).1]; exact Nat.le_refl _), List.take_of_length_le (by rw [(hr.take hi).1]; exact Nat.le_refl _)] at h2
        exact h2
end
end Go.Proofs.YtojbijapdkohlaaGreatDoor
set_option linter.unusedSimpArgs false
set_option linter.unusedVariables false
namespace Go.Proofs.YtojbijapdkohlaaGreatDoor
open Go.RowKit
/-- The boxes that the closure of Take catches: a window, and a slice of numbers. -/
structure AckAt (w : World) (wb ab base : Nat) (v : WinV) (K : Nat) : Prop where
  win : Blk w wb 172 #[.bool v.any, .int .u16 (v.last : Nat), .int .u32 (v.mask : Nat)]
  var : ∃ (A : Option Addr) (k c : Nat) (l : List Nat), Blk w ab 173 #[.slice A k c] ∧ Row w 95 1 A k c (u16V l) ∧ (∀ q, blkOf A = some q → base ≤ q) ∧ k ≤ K
  lw : base ≤ wb
  la : base ≤ ab
theorem AckAt.below {w w' : World} {wb ab base K : Nat} {v : WinV} (h : AckAt w wb ab base v K) (hb : Below w.heap.size w w') : AckAt w' wb ab base v K := by
  obtain ⟨A, k, c, l, h1, h2, h3, h4⟩ := h.var
  exact ⟨h.win.below hb h.win.lt, ⟨A, k, c, l, h1.below hb h1.lt, h2.keep (fun q hq => hb.block q (h2.lt hq)), h3, h4⟩, h.lw, h.la⟩
theorem AckAt.mono {w : World} {wb ab base K K' : Nat} {v : WinV} (h : AckAt w wb ab base v K) (hK : K ≤ K') : AckAt w wb ab base v K' := by
  obtain ⟨A, k, c, l, h1, h2, h3, h4⟩ := h.var
  exact ⟨h.win, ⟨A, k, c, l, h1, h2, h3, Nat.le_trans h4 hK⟩, h.lw, h.la⟩
set_option maxRecDepth 100000 in
set_option maxHeartbeats 4000000 in
theorem closAck (v : WinV) (hv : v.Ok) (n wb ab base K : Nat) (w : World) (h : AckAt w wb ab base v K) (hK : K ≤ 100000) :
    Calls Tryz.prog 180 #[.int .u16 (n : Nat), .pointer (some ⟨wb, 0, none⟩), .pointer (some ⟨ab, 0, none⟩)] w fun e w' => e = .returned (.bool (hasW v n)) ∧ AckAt w' wb ab base v (K + 1) ∧ Below base w w' := by
  have hH := fun W => serHas v hv n W
  obtain ⟨hh, hhv⟩ : ∃ hh, hasW v n = hh := ⟨_, rfl⟩
  simp only [hhv] at hH ⊢
  have z0 : w.cell? ⟨wb, 0, none⟩ = some (.bool v.any) := h.win.cell 0
  have z1 : w.cell? ⟨wb, 1, none⟩ = some (.int .u16 (v.last : Nat)) := h.win.cell 1
  have z2 : w.cell? ⟨wb, 2, none⟩ = some (.int .u32 (v.mask : Nat)) := h.win.cell 2
  have hbs : base ≤ w.heap.size := by have := h.win.lt; have := h.lw; omega
  have HH := Lib.hid hH
  have H := Lib.hid h
  clear h hH hhv hv
  cases hh with
  | false =>
    go_enter Tryz.func180, Tryz.ntmps180
    go_wp2_with fail
    refine (HH.out _).mono ?_
    rintro e w1 ⟨rfl, hb1⟩
    go_wp2
    go_ret
    exact ⟨rfl, (H.out.below hb1).mono (Nat.le_succ _), hb1.mono hbs⟩
  | true =>
    go_enter Tryz.func180, Tryz.ntmps180
    go_wp2_with fail
    refine (HH.out _).mono ?_
    rintro e w1 ⟨rfl, hb1⟩
    have h1 := H.out.below hb1
    obtain ⟨A, k, c, l, hv, hr, hA, hk⟩ := h1.var
    have y0 : w1.cell? ⟨ab, 0, none⟩ = some (.slice A k c) := hv.cell 0
    have f0 : w1.frozen? ⟨ab, 0, none⟩ = false := hv.frozen 0
    have la := hv.lt
    have HRW := Lib.hid (hr.keep (w' := w1.alloc (.cells #[.int .u16 (n : Nat)] 95)) (fun q hq => Below.heap_alloc _ _ q (hr.lt hq)))
    have HV := Lib.hid hv
    have HR := Lib.hid hr
    have H1 := Lib.hid (show _ ∧ _ from ⟨h1, hA⟩)
    have HB1 := Lib.hid hb1
    clear hv hr h1 hA hb1
    go_wp2_with (at_builtin; refine wpList_row rfl (.tmp 9) (.tmp 11) rfl elt16 A k c (u16V l) rfl HRW.out (w1.heap.size + 1) (some ⟨w1.heap.size, 0, none⟩) 1 1 [.int .u16 (n : Nat)] rfl (Reads.blk (size := 1) (n := 1) (g := w1.heap.size) (heap_alloc_new w1 (.cells #[.int .u16 (n : Nat)] 95)) (by omega) rfl) (by simp [Value.oneCell']) (by omega) ?_; intro A3 c3 w3 hr3 hg3 hb3; have mb3 := (HV.out.alloc (.cells #[.int .u16 (n : Nat)] 95)).grown hg3 (fun e => HR.out.ne_blkS HV.out (by decide) ab e.symm rfl); have s3 := mb3.cell 0; have t3 := mb3.frozen 0)
    go_ret
    have hne := hr3.ne_blkS mb3 (by decide)
    have hs1 := HB1.out.size
    have hB3 : Below base w w3 := (HB1.out.mono hbs).trans (((Below.refl base w1).alloc (by omega) _).grown hg3 (by simp; omega) (fun q hq => H1.out.2 q hq))
    refine ⟨rfl, ⟨?_, ⟨A3, k + 1, c3, l ++ [n], mb3.set_ 0 _, ?_, ?_, by omega⟩, H1.out.1.lw, H1.out.1.la⟩, hB3.setCell (p := ⟨ab, 0, none⟩) H1.out.1.la _⟩
    · have hw3 : Blk w3 wb 172 #[.bool v.any, .int .u16 (v.last : Nat), .int .u32 (v.mask : Nat)] := (H1.out.1.win.alloc (.cells #[.int .u16 (n : Nat)] 95)).grown hg3 (fun e => HR.out.ne_blkS H1.out.1.win (by decide) wb e.symm rfl)
      exact hw3.far (p := ⟨ab, 0, none⟩) (fun e => Blk.ne_ H1.out.1.win HV.out (by decide) e) _
    · have := hr3.keep (w' := w3.setCell ⟨ab, 0, none⟩ (.slice A3 (k + 1) c3)) (fun q hq => Below.heap_setCell _ _ _ q (hne q hq))
      simpa [u16V] using this
    · intro q hq
      rcases hb3 with e | e
      · exact H1.out.2 q (e.symm.trans hq)
      · rw [e] at hq
        simp at hq
        omega
theorem u16V_at {l : List Nat} {k x : Nat} (h : l[k]? = some x) : (u16V l)[k]? = some (.int .u16 (x : Nat)) := by unfold u16V; rw [List.getElem?_map, h]; rfl
set_option maxRecDepth 100000 in
set_option maxHeartbeats 4000000 in
theorem idxAck (v : WinV) (hv : v.Ok) (l : List Nat) (A : Option Addr) (n c wb ab base K : Nat) (w : World) (hr : Reads w base 1 A n (u16V l)) (h : AckAt w wb ab base v K) (hK : K + n ≤ 90000) :
    Calls Tryz.prog 222 #[.slice A n c, .func (.func 180) #[] #[.pointer (some ⟨wb, 0, none⟩), .pointer (some ⟨ab, 0, none⟩)]] w fun e w' => e = .returned (.int .i64 (idxFrom (hasW v) l 0)) ∧ AckAt w' wb ab base v (K + n) ∧ Below base w w' := by
  have hl : l.length = n := by have := hr.1; rw [u16V_length] at this; omega
  have HL := Lib.hid hl
  have HR := Lib.hid hr
  have H := Lib.hid h
  have hC := fun x W k (hW : AckAt W wb ab base v k) (hk : k ≤ 100000) => closAck v hv x wb ab base k W hW hk
  have HC := Lib.hid hC
  clear hl hr h hC
  go_enter Tryz.func222, Tryz.ntmps222
  go_wp2
  go_loopw [8] (fun i wr => ∃ k : Nat, k ≤ n ∧ i = .int .i64 k ∧ idxFrom (hasW v) l 0 = idxFrom (hasW v) (l.drop k) k ∧ AckAt wr wb ab base v (K + k) ∧ Below base w wr) (fun i _ => n - (intOf i).toNat)
  case atStart => exact ⟨0, Nat.zero_le _, rfl, rfl, H.out, Below.refl _ _⟩
  case round =>
    obtain ⟨k, hk, rfl, he, ha, hbw⟩ := hrel
    by_cases hlt : k < n
    · obtain ⟨g, off, rfl, hg, hc⟩ := HR.out.flat (by omega) (by omega)
      obtain ⟨x, hx⟩ : ∃ x, l[k]? = some x := ⟨_, List.getElem?_eq_getElem (by rw [HL.out]; exact hlt)⟩
      have c0 : wr.cell? ⟨g, off + k, none⟩ = some (.int .u16 (x : Nat)) := (hbw.cell (p := ⟨g, off + k, none⟩) hg).trans (hc _ _ (u16V_at hx))
      rw [drop_cons_of hx, idxFrom] at he
      have HCx := Lib.hid (HC.out x wr (K + k) ha (by omega))
      obtain ⟨t, ht⟩ : ∃ t, hasW v x = t := ⟨_, rfl⟩
      simp only [ht] at he HCx
      have HE := Lib.hid he
      have HBW := Lib.hid hbw
      clear hc hx he ht hbw ha
      cases t with
      | true =>
        go_wp2_with (go_at_call 180; refine HCx.out.mono ?_; rintro r w5 ⟨rfl, ha5, hb5⟩)
        go_ret
        exact ⟨ret_int HE.out.symm, ha5.mono (by omega), HBW.out.trans hb5⟩
      | false =>
        go_wp2_with (go_at_call 180; refine HCx.out.mono ?_; rintro r w5 ⟨rfl, ha5, hb5⟩)
        exact ⟨⟨k + 1, hlt, by go_num, HE.out, by rw [← Nat.add_assoc]; exact ha5, HBW.out.trans hb5⟩, by simp [intOf]; omega⟩
    · obtain rfl : k = n := by omega
      rw [List.drop_of_length_le (by rw [HL.out]; exact Nat.le_refl _)] at he
      have HE := Lib.hid he
      clear he
      go_wp2
      go_ret
      exact ⟨ret_int HE.out.symm, ha, hbw⟩
theorem filter_step {α : Type} (p : α → Bool) (l : List α) (k : Nat) (x : α) (h : l[k]? = some x) : (l.take (k + 1)).filter p = (l.take k).filter p ++ (if p x = true then [x] else []) := by
  have hk : k < l.length := (List.getElem?_eq_some_iff.1 h).1
  rw [List.take_succ_eq_append_getElem hk, (List.getElem?_eq_some_iff.1 h).2, List.filter_append]
  congr 1
  cases hp : p x <;> simp [hp]
theorem filter_before {α : Type} (p : α → Bool) (l : List α) (k : Nat) (x : α) (h : l[k]? = some x) (hx : p x = true) (hb : ∀ j y, j < k → l[j]? = some y → p y = false) : (l.take (k + 1)).filter (fun y => !p y) = l.take k := by
  rw [filter_step _ l k x h, if_neg (by rw [hx]; decide), List.append_nil]
  apply List.filter_eq_self.2
  intro y hy
  obtain ⟨j, hj⟩ := List.mem_iff_getElem?.1 hy
  have hjk : j < k := by
    have := (List.getElem?_eq_some_iff.1 hj).1
    rw [List.length_take] at this
    omega
  rw [List.getElem?_take, if_pos hjk] at hj
  rw [hb j y hjk hj]
  rfl
/-- The state of the loop of DeleteFunc: what is kept stands ahead, what is still to be asked stands behind. -/
structure DelRel {α : Type} (p : α → Bool) (l xs : List α) (i j : Nat) : Prop where
  ij : i < j
  jn : j ≤ l.length
  len : xs.length = l.length
  kept : xs.take i = (l.take j).filter (fun y => !p y)
  rest : xs.drop j = l.drop j
theorem DelRel.start {α : Type} {p : α → Bool} {l : List α} {k : Nat} {x : α} (h : l[k]? = some x) (hx : p x = true) (hb : ∀ j y, j < k → l[j]? = some y → p y = false) : DelRel p l l k (k + 1) :=
  ⟨Nat.lt_succ_self k, (List.getElem?_eq_some_iff.1 h).1, rfl, (filter_before p l k x h hx hb).symm, rfl⟩
theorem DelRel.at_ {α : Type} {p : α → Bool} {l xs : List α} {i j : Nat} (h : DelRel p l xs i j) : xs[j]? = l[j]? := by
  have := congrArg (·[0]?) h.rest
  simpa [List.getElem?_drop] using this
theorem DelRel.skip {α : Type} {p : α → Bool} {l xs : List α} {i j : Nat} (h : DelRel p l xs i j) {x : α} (hx : l[j]? = some x) (hp : p x = true) : DelRel p l xs i (j + 1) := by
  refine ⟨by have := h.ij; omega, (List.getElem?_eq_some_iff.1 hx).1, h.len, ?_, ?_⟩
  · rw [filter_step _ l j x hx, if_neg (by rw [hp]; decide), List.append_nil]
    exact h.kept
  · have := congrArg (List.drop 1) h.rest
    rw [List.drop_drop, List.drop_drop] at this
    exact this
theorem DelRel.keep {α : Type} {p : α → Bool} {l xs : List α} {i j : Nat} (h : DelRel p l xs i j) {x : α} (hx : l[j]? = some x) (hp : p x = false) : DelRel p l (xs.set i x) (i + 1) (j + 1) := by
  have hj := (List.getElem?_eq_some_iff.1 hx).1
  refine ⟨by have := h.ij; omega, hj, by rw [List.length_set]; exact h.len, ?_, ?_⟩
  · rw [filter_step _ l j x hx, if_pos (by rw [hp]; rfl), ← h.kept]
    have hi : i < (xs.set i x).length := by rw [List.length_set, h.len]; have := h.ij; omega
    rw [List.take_succ_eq_append_getElem hi, List.take_set_of_le (Nat.le_refl _), List.getElem_set_self]
  · rw [List.drop_set_of_lt (by have := h.ij; omega)]
    have := congrArg (List.drop 1) h.rest
    rw [List.drop_drop, List.drop_drop] at this
    exact this
theorem DelRel.done {α : Type} {p : α → Bool} {l xs : List α} {i : Nat} (h : DelRel p l xs i l.length) : xs.take i = l.filter (fun y => !p y) := by
  have := h.kept
  rwa [List.take_length] at this
set_option maxRecDepth 100000 in
theorem zeroU16 (w : World) : (zeroValue 95).run Tryz.prog w = .ok (.int .u16 0) w := by kernel_rfl
set_option maxRecDepth 100000 in
set_option maxHeartbeats 8000000 in
theorem delAck (v : WinV) (hv : v.Ok) (l : List Nat) (A : Option Addr) (n c wb ab base K : Nat) (w : World) (hr : Row w 95 1 A n c (u16V l)) (hA : ∀ q, blkOf A = some q → q < base) (h : AckAt w wb ab base v K) (hK : K + n ≤ 40000) :
    Calls Tryz.prog 179 #[.slice A n c, .func (.func 180) #[] #[.pointer (some ⟨wb, 0, none⟩), .pointer (some ⟨ab, 0, none⟩)]] w fun e w' => ∃ m, e = .returned (.slice A m c) ∧ Row w' 95 1 A m c (u16V (l.filter fun x => !hasW v x)) ∧ AckAt w' wb ab base v (K + n + n) ∧ Chg (fun q => blkOf A = some q ∨ base ≤ q) w w' := by
  have hl : l.length = n := by have := hr.1; rw [u16V_length] at this; omega
  have hnc := hr.2.1
  have hcm := hr.2.2.1
  unfold maxLen at hcm
  have hbs : base ≤ w.heap.size := by have := h.win.lt; have := h.lw; omega
  have hrd : Reads w base 1 A n (u16V l) := by
    have h1 := hr.reads (by decide)
    refine ⟨h1.1, fun hn => ?_⟩
    obtain ⟨ad, ha, hb, hc⟩ := h1.2 hn
    exact ⟨ad, ha, hA _ (by rw [ha]; rfl), hc⟩
  have hI := idxAck v hv l A n c wb ab base K w hrd h (by omega)
  have HC := Lib.hid (fun x W k (hW : AckAt W wb ab base v k) (hk : k ≤ 100000) => closAck v hv x wb ab base k W hW hk)
  have HI := Lib.hid hI
  have HL := Lib.hid hl
  have HR := Lib.hid hr
  have HA := Lib.hid hA
  have hsp := idxFrom_spec (hasW v) l 0
  clear hI hl hr hA h hrd
  rcases hsp with ⟨h1, h2⟩ | ⟨k, x, h1, h2, h3, h4⟩
  · rw [h1] at HI
    clear h1
    go_enter Tryz.func179, Tryz.ntmps179
    go_wp2_with fail
    refine HI.out.mono ?_
    rintro e w1 ⟨rfl, ha, hb⟩
    go_wp2
    go_ret
    have hf : l.filter (fun x => !hasW v x) = l := List.filter_eq_self.2 (fun y hy => by rw [h2 y hy]; rfl)
    rw [hf]
    exact ⟨n, rfl, HR.out.keep (fun q hq => hb.block q (HA.out q hq)), ha.mono (by omega), ⟨hb.os, hb.tape, hb.output, by have := hb.size; exact this, fun q hq hn => hb.block q (by rcases Nat.lt_or_ge q base with h | h; exact h; exact absurd (.inr h) hn)⟩⟩
  · have h1 : idxFrom (hasW v) l 0 = (k : Int) := by rw [h1]; omega
    rw [h1] at HI
    have hkn : k < n := by rw [← HL.out]; exact (List.getElem?_eq_some_iff.1 h2).1
    have t0 : ((k : Int) == -1) = false := beq_eq_false_iff_ne.2 (by omega)
    have HST := Lib.hid (DelRel.start h2 h3 (fun j y hj hy => h4 j y hj hy))
    clear h1 h2 h3 h4
    go_enter Tryz.func179, Tryz.ntmps179
    go_wp2_with fail
    refine HI.out.mono ?_
    rintro e w1 ⟨rfl, ha, hb⟩
    have hc1 : Chg (fun q => blkOf A = some q ∨ base ≤ q) w w1 := ⟨hb.os, hb.tape, hb.output, by have := hb.size; exact this, fun q hq hn => hb.block q (by rcases Nat.lt_or_ge q base with h | h; exact h; exact absurd (.inr h) hn)⟩
    have hr1 := HR.out.keep (w' := w1) (fun q hq => hb.block q (HA.out q hq))
    have H1 := Lib.hid (show _ ∧ _ ∧ _ from ⟨ha, hc1, hr1⟩)
    clear ha hb hc1 hr1
    go_wp2
    go_loopw [5, 6] (fun si sj wr => ∃ (i j : Nat) (xs : List Nat), j ≤ n ∧ i < j ∧ si = .int .i64 (i : Nat) ∧ sj = .int .i64 (j : Nat) ∧ DelRel (hasW v) l xs i j ∧ Row wr 95 1 A n c (u16V xs) ∧ AckAt wr wb ab base v (K + n + j) ∧ Chg (fun q => blkOf A = some q ∨ base ≤ q) w wr) (fun _ sj _ => n - (intOf sj).toNat)
    case atStart => exact ⟨k, k + 1, l, by omega, by omega, rfl, by go_num, HST.out, H1.out.2.2, H1.out.1.mono (by omega), H1.out.2.1⟩
    case round =>
      obtain ⟨i, j, xs, hjn, hij, rfl, rfl, hd, hrw, ha, hcw⟩ := hrel
      clear H1 HI HST
      by_cases hlt : j < n
      · obtain ⟨y, hy⟩ : ∃ y, l[j]? = some y := ⟨_, List.getElem?_eq_getElem (by rw [HL.out]; exact hlt)⟩
        obtain ⟨g, off, rfl, hg, hcl⟩ := hrw.cells (by omega)
        have c0 : wr.cell? ⟨g, off + j, none⟩ = some (.int .u16 (y : Nat)) := by rw [(hcl j (by omega)).1]; exact u16V_at (by rw [hd.at_]; exact hy)
        have hgb : g < base := HA.out g rfl
        have HCy := Lib.hid (HC.out y wr (K + n + j) ha (by omega))
        obtain ⟨t, ht⟩ : ∃ t, hasW v y = t := ⟨_, rfl⟩
        simp only [ht] at HCy
        have HX := Lib.hid (show _ ∧ _ ∧ _ ∧ _ ∧ _ from ⟨hd, hrw, hcw, hy, ht⟩)
        clear hd hrw hcw hy ht hcl ha
        cases t with
        | true =>
          go_wp2_with (go_at_call 180; refine HCy.out.mono ?_; rintro r w5 ⟨rfl, ha5, hb5⟩)
          obtain ⟨hd, hrw, hcw, hy, ht⟩ := HX.out
          have hr5 := hrw.keep (w' := w5) (fun q hq => hb5.block q (HA.out q hq))
          have hc5 : Chg (fun q => blkOf (some (⟨g, off, none⟩ : Addr)) = some q ∨ base ≤ q) w w5 := hcw.trans (G := fun q => base ≤ q) ⟨hb5.os, hb5.tape, hb5.output, by have := hb5.size; exact this, fun q hq hn => hb5.block q (by omega)⟩ (fun q hq => .inl (.inr hq))
          exact ⟨⟨i, j + 1, xs, by omega, by omega, rfl, by go_num, hd.skip hy ht, hr5, ha5.mono (by omega), hc5⟩, by simp [intOf]; omega⟩
        | false =>
          go_wp2_with (go_at_call 180; refine HCy.out.mono ?_; rintro r w5 ⟨rfl, ha5, hb5⟩; have hr5 := HX.out.2.1.keep (w' := w5) (fun q hq => hb5.block q (HA.out q hq)); obtain ⟨g', off', hA', hg5, hcl5⟩ := hr5.cells (by omega); cases hA'; have u0 := (hcl5 i (by omega)).1; have u1 := (hcl5 i (by omega)).2; obtain ⟨old, hold⟩ : ∃ old, (u16V xs)[i]? = some old := ⟨_, List.getElem?_eq_getElem (by have := hr5.1; omega)⟩; rw [hold] at u0; have HX5 := Lib.hid (show _ ∧ _ ∧ _ from ⟨hr5, ha5, hb5⟩); clear hr5 ha5 hb5 hcl5 hold)
          obtain ⟨hd, hrw, hcw, hy, ht⟩ := HX.out
          obtain ⟨hr5, ha5, hb5⟩ := HX5.out
          have hc5 : Chg (fun q => blkOf (some (⟨g, off, none⟩ : Addr)) = some q ∨ base ≤ q) w w5 := hcw.trans (G := fun q => base ≤ q) ⟨hb5.os, hb5.tape, hb5.output, by have := hb5.size; exact this, fun q hq hn => hb5.block q (by omega)⟩ (fun q hq => .inl (.inr hq))
          have hr6 := hr5.set rfl i (.int .u16 (y : Nat))
          have hxs : (u16V xs).set i (.int .u16 (y : Nat)) = u16V (xs.set i y) := by unfold u16V; rw [List.map_set]
          rw [hxs] at hr6
          have ha6 : AckAt (w5.setCell ⟨g, off + i, none⟩ (.int .u16 (y : Nat))) wb ab base v (K + n + j + 1) := by
            have hz : ∀ q, base ≤ q → (w5.setCell ⟨g, off + i, none⟩ (.int .u16 (y : Nat))).heap[q]? = w5.heap[q]? := fun q hq => Below.heap_setCell _ _ _ q (show q ≠ g by omega)
            obtain ⟨A2, k2, c2, l2, e1, e2, e3, e4⟩ := ha5.var
            exact ⟨(hz _ ha5.lw).trans ha5.win, ⟨A2, k2, c2, l2, (hz _ ha5.la).trans e1, e2.keep (fun q hq => hz q (e3 q hq)), e3, e4⟩, ha5.lw, ha5.la⟩
          exact ⟨⟨i + 1, j + 1, xs.set i y, by omega, by omega, by go_num, by go_num, hd.keep hy ht, hr6, ha6.mono (by omega), hc5.setCell (p := ⟨g, off + i, none⟩) (.inl (.inl rfl)) _⟩, by simp [intOf]; omega⟩
      · have hjn' : j = n := by omega
        subst hjn'
        have hct := fun w => run_cut (P := Tryz.prog) elt16 A j c .i64 i (by omega) (i : Int) rfl w
        obtain ⟨wm, hrun, hrm, hcm2⟩ := run_clear_tail (P := Tryz.prog) elt16 0 (zv := .int .u16 0) zeroU16 (by simp [Value.cells, Value.oneCell']) rfl hrw (i := i) (by omega)
        have ham : AckAt wm wb ab base v (K + j + j) := by
          have hz : ∀ q, q < wr.heap.size → base ≤ q → wm.heap[q]? = wr.heap[q]? := fun q hq hb => hcm2.block q hq (fun hh => by have := HA.out q hh; omega)
          obtain ⟨A2, k2, c2, l2, e1, e2, e3, e4⟩ := ha.var
          exact ⟨(hz _ ha.win.lt ha.lw).trans ha.win, ⟨A2, k2, c2, l2, (hz _ e1.lt ha.la).trans e1, e2.keep (fun q hq => hz q (e2.lt hq) (e3 q hq)), e3, e4⟩, ha.lw, ha.la⟩
        have hcz : Chg (fun q => blkOf A = some q ∨ base ≤ q) w wm := hcw.trans hcm2 (fun q hq => .inl (.inl hq))
        have hfin : (u16V xs).take (i * 1) = u16V (l.filter fun x => !hasW v x) := by
          have := hd
          rw [← HL.out] at this
          rw [← this.done, Nat.mul_one]
          unfold u16V
          rw [List.map_take]
        rw [hfin] at hrm
        have Z := Lib.hid (show _ ∧ _ ∧ _ from ⟨hrm, ham, hcz⟩)
        have i1 : i ≤ c := by omega
        have i2 : i ≤ j := by omega
        clear hd hrw ha hcw hrm ham hcz hcm2 hfin
        go_wp2
        go_ret
        exact ⟨i, rfl, Z.out.1, Z.out.2.1, Z.out.2.2⟩
end Go.Proofs.YtojbijapdkohlaaGreatDoor
