/- How an argument is read: a slice of bytes as a list of bytes; numbers as bit vectors. -/
import Derived.Test.YtplclgkchiaijaaCrcWalks
import Derived.ProofKit
import Derived.OpenShut
namespace Go.Proofs.Ytplclgkchiaijaa
open Go.RowKit Go.ChangeShapes Go.WideShapes
theorem cell_lt {w : World} {a : Addr} {v : Value} (h : w.cell? a = some v) : a.block < w.heap.size := by
  unfold World.cell? at h
  rcases Nat.lt_or_ge a.block w.heap.size with hlt | hge
  · exact hlt
  · rw [Array.getElem?_eq_none hge] at h; simp at h
theorem wf_u8 {x : Int} (h : (Lit.int .u8 x).wf = true) : ∃ c : UInt8, x = (c.toNat : Int) := by
  have h' : 0 ≤ x ∧ x ≤ 255 := by simpa [Lit.wf, IntKind.min, IntKind.max, IntKind.signed, IntKind.bits] using h
  exact ⟨UInt8.ofNat x.toNat, by rw [UInt8.toNat_ofNat']; omega⟩
theorem wf_u32 {x : Int} (h : (Lit.int .u32 x).wf = true) : ∃ c : BitVec 32, x = (c.toNat : Int) := by
  have h' : 0 ≤ x ∧ x ≤ 4294967295 := by simpa [Lit.wf, IntKind.min, IntKind.max, IntKind.signed, IntKind.bits] using h
  exact ⟨BitVec.ofNat 32 x.toNat, by rw [BitVec.toNat_ofNat]; omega⟩
theorem wf_of_u32 (c : BitVec 32) : (Lit.int .u32 (c.toNat : Int)).wf = true := by
  have := c.isLt
  simp [Lit.wf, IntKind.min, IntKind.max, IntKind.signed, IntKind.bits]; omega
theorem wf_u16 {x : Int} (h : (Lit.int .u16 x).wf = true) : 0 ≤ x ∧ x ≤ 65535 := by simpa [Lit.wf, IntKind.min, IntKind.max, IntKind.signed, IntKind.bits] using h
theorem wf_i64 {x : Int} (h : (Lit.int .i64 x).wf = true) : -9223372036854775808 ≤ x ∧ x ≤ 9223372036854775807 := by simpa [Lit.wf, IntKind.min, IntKind.max, IntKind.signed, IntKind.bits] using h
theorem len4 {α : Type} {l : List α} (h : l.length = 4) : ∃ a b c d, l = [a, b, c, d] := by
  match l, h with
  | [a, b, c, d], _ => exact ⟨a, b, c, d, rfl⟩
theorem len6 {α : Type} {l : List α} (h : l.length = 6) : ∃ a b c d e f, l = [a, b, c, d, e, f] := by
  match l, h with
  | [a, b, c, d, e, f], _ => exact ⟨a, b, c, d, e, f, rfl⟩
theorem ints_bytes : ∀ zs : List Int, (∀ n ∈ zs, (Lit.int .u8 n).wf = true) → ∃ l : List UInt8, zs.map (Value.int .u8) = bytesV l
  | [], _ => ⟨[], rfl⟩
  | z :: zs, h => by
    obtain ⟨c, rfl⟩ := wf_u8 (h z (by simp))
    obtain ⟨l, hl⟩ := ints_bytes zs (fun n hn => h n (by simp [hn]))
    exact ⟨c :: l, by simp [bytesV, byteV, hl]⟩
section
variable {H : Type} {enc : TypeId × Value → H} {P : Program} {W : World}
theorem open_bytes {t e : TypeId} (ht : P.underlying t = some (.slice e)) (he : P.underlying e = some (.int .u8)) (hc : P.cellsOf e = 1) {v : Value} {d : DataW H} {p : List MemPlace} {base b : Nat}
    (hok : Value.okWide P W .any base t v) (h : DataW.Trod enc P W b (fun _ => true) true t v d p) :
    ∃ A n c l, v = .slice A n c ∧ Reads W W.heap.size 1 A n (bytesV l) ∧ n ≤ 9223372036854775807 ∧ n ≤ c := by
  obtain ⟨a, len, cap, rfl⟩ := okWide_slice ht hok
  obtain ⟨fuel, hf⟩ := h
  rcases open_ints ht he hc hf with ⟨hcs, _⟩ | ⟨x, l, c, zs, hcs, _, hl, hm, hz, _, hcell, hwz⟩
  · simp [Value.cells] at hcs
    obtain ⟨rfl, rfl, rfl⟩ := hcs
    exact ⟨_, _, _, [], rfl, Reads.none_, by omega, by omega⟩
  · simp [Value.cells] at hcs
    obtain ⟨rfl, rfl, rfl⟩ := hcs
    simp only [if_true] at hz
    obtain ⟨bs, hbs⟩ := ints_bytes (zs.take len) (fun n hn => hwz n (List.mem_of_mem_take hn))
    unfold maxLen at hm
    refine ⟨_, _, _, bs, rfl, ?_, by omega, by omega⟩
    rw [← hbs]
    refine ⟨by simp; omega, fun hn => ⟨x, rfl, ?_, fun j u hu => ?_⟩⟩
    · have := cell_lt (hcell 0 (by omega))
      rwa [block_of_add] at this
    · have hj : j < len := by
        have := (List.getElem?_eq_some_iff.1 hu).1
        simp at this; omega
      rw [hcell j (by omega)]
      rw [List.getElem?_map, List.getElem?_take, if_pos hj] at hu
      rw [← hu, List.getD_eq_getElem?_getD, List.getElem?_eq_getElem (by omega : j < zs.length)]
      rfl
theorem list_bytes : ∀ cs : List Value, (∀ i, i < cs.length → ∃ c : UInt8, cs[i]? = some (byteV c)) → ∃ l : List UInt8, cs = bytesV l
  | [], _ => ⟨[], rfl⟩
  | v :: cs, h => by
    obtain ⟨c, hc⟩ := h 0 (by simp)
    obtain ⟨l, rfl⟩ := list_bytes cs fun i hi => by simpa using h (i + 1) (by simpa using hi)
    exact ⟨c :: l, by simp at hc; simp [bytesV, hc]⟩
theorem open_byte_array {t e : TypeId} {n : Nat} (ht : P.underlying t = some (.array n e)) (he : P.underlying e = some (.int .u8)) (hce : P.cellsOf e = 1) (hct : P.cellsOf t = n) {v : Value} {d : DataW H} {p : List MemPlace} {base b : Nat}
    (hok : Value.okWide P W .any base t v) (h : DataW.Trod enc P W b (fun _ => true) true t v d p) : ∃ l : List UInt8, l.length = n ∧ v = .agg (bytesV l).toArray := by
  obtain ⟨cs, rfl, hsz, _⟩ : ∃ cs, v = .agg cs ∧ cs.size = P.cellsOf t ∧ Row.okWide P W .any base t cs := by
    simpa [Value.okWide, ht] using hok
  obtain ⟨fuel, hf⟩ := h
  obtain ⟨xs, m, _, _, _, hl, hel⟩ := DataW.trod_array ht hf
  rw [hct] at hsz
  have hn : cs.toList.length = n := by simpa using hsz
  obtain ⟨l, hl⟩ := list_bytes cs.toList fun i hi => by
    have hi' : i < n := by omega
    have h1 := hel i hi'
    rw [hce] at h1
    obtain ⟨y, hy⟩ : ∃ y, xs[i]? = some y := ⟨_, List.getElem?_eq_getElem (by omega)⟩
    rw [hy] at h1
    obtain ⟨x, e0, rfl, w0⟩ := DataW.trod_int he h1
    obtain ⟨c, rfl⟩ := wf_u8 w0
    refine ⟨c, ?_⟩
    have h2 : ((List.drop (i * 1) (Value.agg cs).cells.toList).take 1)[0]? = some (Value.int .u8 (c.toNat : Int)) := by rw [e0]; rfl
    simpa [byteV, Value.cells, List.getElem?_take, List.getElem?_drop] using h2
  exact ⟨l, by rw [← hn, hl]; simp [bytesV], by rw [← hl]⟩
end
end Go.Proofs.Ytplclgkchiaijaa
