/- A script of layer 19: how it is read, and whether it is short. -/
import Derived.Test.YtplclgkchiaijaaCmdOpen
set_option linter.unusedSimpArgs false
set_option linter.unusedVariables false
namespace Go.Proofs.Ytplclgkchiaijaa
open Go.RowKit Go.ChangeShapes Go.WideShapes Go.Deep
/-- An act. -/
structure OpV where
  kind : Int
  n : Int
  A : Option Addr
  len : Nat
  cap : Nat
  l : List Cmd
def opV (o : OpV) : List Value := [.int .i64 o.kind, .int .i64 o.n, .slice o.A o.len o.cap]
def opsV (l : List OpV) : List Value := l.flatMap opV
theorem opsV_length (l : List OpV) : (opsV l).length = l.length * 3 := by
  induction l with
  | nil => rfl
  | cons c l ih => simp only [opsV, List.flatMap_cons, List.length_append, List.length_cons] at ih ⊢; rw [ih]; simp [opV]; omega
theorem opsV_at (l : List OpV) (k j : Nat) (c : OpV) (h : l[k]? = some c) (hj : j < 3) : (opsV l)[k * 3 + j]? = (opV c)[j]? := by
  induction l generalizing k with
  | nil => simp at h
  | cons d l ih =>
    simp only [opsV, List.flatMap_cons]
    match k with
    | 0 =>
      simp at h; subst h
      rw [Nat.zero_mul, Nat.zero_add, List.getElem?_append_left (by simpa [opV] using hj)]
    | k + 1 =>
      rw [List.getElem?_append_right (by simp [opV]; omega)]
      have := ih k (by simpa using h)
      rw [← this]
      congr 1
      simp [opV]; omega
/-- What is known of an act. -/
structure OpOk (w : World) (B : Nat) (o : OpV) : Prop where
  reads : Reads w B 6 o.A o.len (cmdsV o.l)
  len : o.len ≤ 9223372036854775807
  kind : -9223372036854775808 ≤ o.kind ∧ o.kind ≤ 9223372036854775807
  n : -9223372036854775808 ≤ o.n ∧ o.n ≤ 9223372036854775807
structure OpsAt (w : World) (B : Nat) (A : Option Addr) (n : Nat) (ops : List OpV) : Prop where
  cells : Reads w B 3 A n (opsV ops)
  inner : ∀ o ∈ ops, OpOk w B o
theorem OpsAt.length {w : World} {B n : Nat} {A : Option Addr} {ops : List OpV} (h : OpsAt w B A n ops) : ops.length = n := by
  have := h.cells.1; rw [opsV_length] at this; omega
theorem OpsAt.below {w w' : World} {B n : Nat} {A : Option Addr} {ops : List OpV} (h : OpsAt w B A n ops) (hb : Below B w w') : OpsAt w' B A n ops :=
  ⟨h.cells.below hb, fun o ho => ⟨(h.inner o ho).reads.below hb, (h.inner o ho).len, (h.inner o ho).kind, (h.inner o ho).n⟩⟩
theorem Reads.upTo {w : World} {B B' size n : Nat} {A : Option Addr} {xs : List Value} (h : Reads w B size A n xs) (hB : B ≤ B') : Reads w B' size A n xs :=
  ⟨h.1, fun hn => by obtain ⟨a, h1, h2, h3⟩ := h.2 hn; exact ⟨a, h1, Nat.lt_of_lt_of_le h2 hB, h3⟩⟩
theorem OpsAt.upTo {w : World} {B B' n : Nat} {A : Option Addr} {ops : List OpV} (h : OpsAt w B A n ops) (hB : B ≤ B') : OpsAt w B' A n ops :=
  ⟨Reads.upTo h.cells hB, fun o ho => ⟨Reads.upTo (h.inner o ho).reads hB, (h.inner o ho).len, (h.inner o ho).kind, (h.inner o ho).n⟩⟩
theorem OpsAt.opAt {w : World} {B n : Nat} {A : Option Addr} {ops : List OpV} (h : OpsAt w B A n ops) {k : Nat} (hk : k < n) :
    ∃ g off o, A = some ⟨g, off, none⟩ ∧ g < B ∧ ops[k]? = some o ∧ OpOk w B o ∧ w.cell? ⟨g, off + k * 3, none⟩ = some (.int .i64 o.kind) ∧ w.cell? ⟨g, off + k * 3 + 1, none⟩ = some (.int .i64 o.n) ∧
      w.cell? ⟨g, off + k * 3 + 2, none⟩ = some (.slice o.A o.len o.cap) := by
  have hl := h.length
  obtain ⟨o, ho⟩ : ∃ o, ops[k]? = some o := ⟨_, List.getElem?_eq_getElem (by omega)⟩
  obtain ⟨⟨g, off, sp⟩, rfl, hb, hcell⟩ := h.cells.2 (by omega)
  have hsp : sp = none := by
    have h0 := hcell 0 _ (List.getElem?_eq_getElem (by rw [opsV_length]; omega))
    simpa [Addr.add] using World.cell?_spot h0
  subst hsp
  simp only [add_none] at hcell
  have g0 : ∀ j v, (opV o)[j]? = some v → w.cell? ⟨g, off + k * 3 + j, none⟩ = some v := fun j v hv => by
    have hj : j < 3 := by have := (List.getElem?_eq_some_iff.1 hv).1; simpa [opV] using this
    have := hcell (k * 3 + j) v (by rw [opsV_at ops k j o ho hj, hv])
    rwa [← Nat.add_assoc] at this
  exact ⟨g, off, o, rfl, hb, ho, h.inner o (List.mem_of_getElem? ho), g0 0 _ rfl, g0 1 _ rfl, g0 2 _ rfl⟩
def fewB (ops : List OpV) : Bool := ops.all (fun o => decide (o.len ≤ 30)) && decide (ops.length ≤ 200)
set_option maxRecDepth 4000 in
set_option maxHeartbeats 2000000 in
theorem fewWalk (ops : List OpV) (w : World) (A : Option Addr) (n c : Nat) (h : OpsAt w w.heap.size A n ops) (hn : n ≤ 9223372036854775807) :
    Calls Try.prog 42 #[.slice A n c] w fun e w' => e = .returned (.bool (fewB ops)) ∧ w = w' := by
  have hl := h.length
  have HL := Lib.hid hl
  clear hl
  go_enter Try.func42, Try.ntmps42
  go_wp2
  go_loopw [3] (fun i wr => ∃ k : Nat, k ≤ n ∧ k ≤ 200 ∧ i = .int .i64 k ∧ (∀ j o, j < k → ops[j]? = some o → o.len ≤ 30) ∧ w = wr) (fun i _ => n - (intOf i).toNat)
  case atStart => exact ⟨0, Nat.zero_le _, by omega, rfl, fun j o hj => absurd hj (Nat.not_lt_zero _), rfl⟩
  case round =>
    obtain ⟨k, hk, hk2, rfl, hall, rfl⟩ := hrel
    have HA := Lib.hid hall
    clear hall
    by_cases hlt : k < n
    · by_cases hlt2 : k < 200
      · obtain ⟨g, off, o, rfl, hg, ho, hok, c0, c1, c2⟩ := h.opAt hlt
        have HO := Lib.hid ho
        clear ho
        clear hok
        cases hb : decide (30 < (o.len : Int)) with
        | true =>
          go_wp2
          go_ret
          refine ⟨ret_bool ?_, rfl⟩
          symm
          unfold fewB
          rw [Bool.and_eq_false_iff]
          left
          rw [List.all_eq_false]
          exact ⟨o, List.mem_of_getElem? HO.out, by have := of_decide_eq_true hb; simp; omega⟩
        | false =>
          have hb' := of_decide_eq_false hb
          go_wp2
          refine ⟨⟨k + 1, hlt, hlt2, by go_num, fun j p hj hp => ?_, by first | rfl | trivial⟩, ?_⟩
          · rcases Nat.lt_or_ge j k with h1 | h1
            · exact HA.out j p h1 hp
            · obtain rfl : j = k := by omega
              rw [HO.out] at hp; cases hp; omega
          · simp [intOf]; omega
      · have hk200 : k = 200 := by omega
        subst hk200
        go_wp2
        go_ret
        refine ⟨ret_bool ?_, rfl⟩
        unfold fewB
        rw [HL.out, decide_eq_false (p := n ≤ 200) (by omega)]
        simp; omega
    · have hkn : k = n := by omega
      subst hkn
      go_wp2
      go_ret
      refine ⟨ret_bool ?_, rfl⟩
      have : ops.all (fun o => decide (o.len ≤ 30)) = true := by
        rw [List.all_eq_true]
        intro o ho
        obtain ⟨j, hj, hjo⟩ := List.getElem_of_mem ho
        exact decide_eq_true (HA.out j o (by have := HL.out; omega) (by rw [List.getElem?_eq_getElem hj, hjo]))
      unfold fewB
      rw [this, HL.out]
      simp; omega
section
variable {H : Type} {enc : TypeId × Value → H} {W : World} {base : Nat} {sp : Nat → Bool} {held : Bool}
theorem open_op {fuel : Nat} {cs : List Value} {x : DataW H × List MemPlace} (h : DataW.trod enc Try.prog W base sp held fuel 65 cs = some x) : ∃ o : OpV, cs = opV o ∧ OpOk W W.heap.size o := by
  obtain ⟨xs, m, _, _, hlen, hxs, hf⟩ := DataW.trod_struct Try.underlying65 h
  have hc : cs.length = 3 := hlen.trans (by kernel_rfl)
  match cs, hc with
  | [a, b, c], _ =>
    match xs, hxs.trans (by rfl : _ = 3) with
    | [x0, x1, x2], _ =>
      have e3 : Try.prog.cellsOf 3 = 1 := by kernel_rfl
      have e50 : Try.prog.cellsOf 50 = 1 := by kernel_rfl
      have f0 : DataW.trod enc Try.prog W base sp held m 3 [a] = some x0 := by have := hf 0 _ rfl; simpa [e3] using this
      have f1 : DataW.trod enc Try.prog W base sp held m 3 [b] = some x1 := by have := hf 1 _ rfl; simpa [e3] using this
      have f2 : DataW.trod enc Try.prog W base sp held m 50 [c] = some x2 := by have := hf 2 _ rfl; simpa [e50] using this
      obtain ⟨n0, h0, _, w0⟩ := DataW.trod_int Try.underlying3 f0
      obtain ⟨n1, h1, _, w1⟩ := DataW.trod_int Try.underlying3 f1
      obtain ⟨A, n, c', l, h2, hr, hn, _⟩ := open_cmds_trod f2
      simp only [List.cons.injEq, and_true] at h0 h1 h2
      exact ⟨⟨n0, n1, A, n, c', l⟩, by simp only [opV, h0, h1, h2], ⟨hr, hn, wf_i64 w0, wf_i64 w1⟩⟩
theorem open_ops {v : Value} {d : DataW H} {p : List MemPlace} {base' b : Nat} (hok : Value.okWide Try.prog W .any base' 60 v) (h : DataW.Trod enc Try.prog W b (fun _ => true) true 60 v d p) :
    ∃ A n c ops, v = .slice A n c ∧ OpsAt W W.heap.size A n ops ∧ n ≤ 9223372036854775807 ∧ n ≤ c := by
  obtain ⟨a, len, cap, rfl⟩ := okWide_slice Try.underlying60 hok
  obtain ⟨fuel, hf⟩ := h
  have e65 : Try.prog.cellsOf 65 = 3 := by kernel_rfl
  rcases open_slice Try.underlying60 hf with ⟨hcs, _⟩ | ⟨a', len', cap', m, k, D, Pl, hcs, _, hlc, hcm, hm, _, hel⟩
  · simp [Value.cells] at hcs
    obtain ⟨rfl, rfl, rfl⟩ := hcs
    exact ⟨_, _, _, [], rfl, ⟨Reads.none_, fun o ho => by cases ho⟩, by omega, by omega⟩
  · simp [Value.cells] at hcs
    obtain ⟨rfl, rfl, rfl⟩ := hcs
    rw [e65] at hel
    have hlm : len ≤ m := by rw [hm]; split <;> omega
    obtain ⟨l, hl, hp⟩ := list_of (p := fun i (o : OpV) => (∀ j u, (opV o)[j]? = some u → W.cell? (a'.add (i * 3 + j)) = some u) ∧ OpOk W W.heap.size o) len (fun i hi => by
      obtain ⟨cs', hc, ht⟩ := hel i (by omega)
      obtain ⟨o, rfl, ho⟩ := open_op ht
      obtain ⟨_, _, hat⟩ := World.cells?_some hc
      refine ⟨o, fun j u hu => ?_, ho⟩
      have hj : j < 3 := (List.getElem?_eq_some_iff.1 hu).1
      rw [← Go.Deep.add_add, hat j hj, hu])
    unfold maxLen at hcm
    refine ⟨_, _, _, l, rfl, ⟨?_, fun o ho => ?_⟩, by omega, hlc⟩
    · have hcell : ∀ j u, (opsV l)[j]? = some u → W.cell? (a'.add j) = some u := fun j u hu => by
        have hj : j < len * 3 := by have := (List.getElem?_eq_some_iff.1 hu).1; rw [opsV_length, hl] at this; exact this
        obtain ⟨c, hc⟩ : ∃ c, l[j / 3]? = some c := ⟨_, List.getElem?_eq_getElem (by omega)⟩
        have h1 := opsV_at l (j / 3) (j % 3) c hc (Nat.mod_lt _ (by decide))
        have e : j / 3 * 3 + j % 3 = j := by omega
        rw [e] at h1
        have := (hp _ _ hc).1 (j % 3) u (by rw [← h1, hu])
        rwa [e] at this
      refine ⟨by rw [opsV_length, hl], fun hn => ⟨a', rfl, ?_, hcell⟩⟩
      have h0 := hcell 0 _ (List.getElem?_eq_getElem (by rw [opsV_length, hl]; omega))
      have := cell_lt h0
      rwa [block_of_add] at this
    · obtain ⟨j, hj, hjo⟩ := List.getElem_of_mem ho
      exact (hp j o (by rw [List.getElem?_eq_getElem hj, hjo])).2
end
end Go.Proofs.Ytplclgkchiaijaa
