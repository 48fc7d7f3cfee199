/- How bytes are read as an argument. -/
import Derived.Test.YtbjhdmknhimbjaaGreatDoorOpenM
import Derived.Test.YtbjhdmknhimbjaaGreatDoorCrcWalks
set_option linter.unusedSimpArgs false
set_option linter.unusedVariables false
namespace Go.Proofs.YtbjhdmknhimbjaaGreatDoor
open Go.RowKit Go.ChangeShapes Go.WideShapes
theorem wf_u8 {x : Int} (h : (Lit.int .u8 x).wf = true) : ∃ c : UInt8, x = (c.toNat : Int) := by
  have h' : 0 ≤ x ∧ x ≤ 255 := by simpa [Lit.wf, IntKind.min, IntKind.max, IntKind.signed, IntKind.bits] using h
  exact ⟨UInt8.ofNat x.toNat, by rw [UInt8.toNat_ofNat']; omega⟩
theorem ints_bytes : ∀ zs : List Int, (∀ n ∈ zs, (Lit.int .u8 n).wf = true) → ∃ l : List UInt8, zs.map (Value.int .u8) = bytesV l
  | [], _ => ⟨[], rfl⟩
  | z :: zs, h => by
    obtain ⟨c, rfl⟩ := wf_u8 (h z (by simp))
    obtain ⟨l, hl⟩ := ints_bytes zs (fun n hn => h n (by simp [hn]))
    exact ⟨c :: l, by simp [bytesV, byteV, hl]⟩
section
variable {H : Type} {enc : TypeId × Value → H} {P : Program} {W : World}
theorem open_bytes {t e : TypeId} (ht : P.underlying t = some (.slice e)) (he : P.underlying e = some (.int .u8)) (hc : P.cellsOf e = 1) {v : Value} {d : DataW H} {p : List MemPlace} {base b : Nat}
    (hok : Value.okWide P W .any base t v) (h : DataW.Trod enc P W b (fun _ => true) true t v d p) :
    ∃ A n c l, v = .slice A n c ∧ Reads W W.heap.size 1 A n (bytesV l) ∧ n ≤ 9223372036854775807 ∧ n ≤ c := by
  obtain ⟨a, len, cap, rfl⟩ := okWide_slice ht hok
  obtain ⟨fuel, hf⟩ := h
  rcases open_ints ht he hc hf with ⟨hcs, _⟩ | ⟨x, l, c, zs, hcs, _, hl, hm, hz, _, hcell, hwz⟩
  · simp [Value.cells] at hcs
    obtain ⟨rfl, rfl, rfl⟩ := hcs
    exact ⟨_, _, _, [], rfl, Reads.none_, by omega, by omega⟩
  · simp [Value.cells] at hcs
    obtain ⟨rfl, rfl, rfl⟩ := hcs
    simp only [if_true] at hz
    obtain ⟨bs, hbs⟩ := ints_bytes (zs.take len) (fun n hn => hwz n (List.mem_of_mem_take hn))
    unfold maxLen at hm
    refine ⟨_, _, _, bs, rfl, ?_, by omega, by omega⟩
    rw [← hbs]
    refine ⟨by simp; omega, fun hn => ⟨x, rfl, ?_, fun j u hu => ?_⟩⟩
    · have := cell_lt (hcell 0 (by omega))
      rwa [block_of_add] at this
    · have hj : j < len := by
        have := (List.getElem?_eq_some_iff.1 hu).1
        simp at this; omega
      rw [hcell j (by omega)]
      rw [List.getElem?_map, List.getElem?_take, if_pos hj] at hu
      rw [← hu, List.getD_eq_getElem?_getD, List.getElem?_eq_getElem (by omega : j < zs.length)]
      rfl
end
end Go.Proofs.YtbjhdmknhimbjaaGreatDoor
