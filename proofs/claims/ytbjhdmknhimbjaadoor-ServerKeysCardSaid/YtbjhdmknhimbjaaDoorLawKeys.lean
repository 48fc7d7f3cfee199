/- The walk of the law ServerKeys. -/
import Derived.Test.YtbjhdmknhimbjaaDoorAwake21
import Derived.Test.YtbjhdmknhimbjaaDoorKey
set_option linter.unusedSimpArgs false
set_option linter.unusedVariables false
namespace Go.Proofs.YtbjhdmknhimbjaaDoor
open Go.RowKit
def kc (a : Nat) : BitVec 32 := BitVec.ofNat 32 (a * 2654435761)
theorem xor_u32 (X Y : Int) : bits .xor .u32 X Y = ((BitVec.ofInt 32 X ^^^ BitVec.ofInt 32 Y).toNat : Int) := by
  show IntKind.u32.wrap ((BitVec.ofInt 32 X ^^^ BitVec.ofInt 32 Y).toNat : Int) = _
  rw [IntKind.wrap_u32]
  have := (BitVec.ofInt 32 X ^^^ BitVec.ofInt 32 Y).isLt
  omega
theorem kc_eq : ∀ a, a < 9 → BitVec.ofInt 32 (((a : Nat) : Int) % 4294967296 * 2654435761 % 4294967296) = kc a := by decide +kernel
theorem keyI_kc (seed : Int) (a : Nat) (ha : a ≤ 8) : keyI seed (a : Int) = ((BitVec.ofInt 32 seed ^^^ kc a).toNat : Int) := by
  have e1 : BitVec.ofInt 32 (seed % 4294967296) = BitVec.ofInt 32 seed := by
    apply BitVec.eq_of_toNat_eq
    rw [BitVec.toNat_ofInt, BitVec.toNat_ofInt]
    omega
  unfold keyI
  rw [xor_u32, e1, kc_eq a (by omega)]
theorem kc_ne : ∀ a, a < 9 → ∀ b, b < 9 → (a ≠ b → kc a ≠ kc b) ∧ kc a ^^^ kc b ≠ BitVec.allOnes 32 := by decide +kernel
theorem keys_ne (seed : Int) (a b : Nat) (ha : a ≤ 8) (hb : b ≤ 8) : (a ≠ b → keyI seed a ≠ keyI seed b) ∧ keyI seed a ≠ 4294967295 - keyI seed b := by
  obtain ⟨h1, h2⟩ := kc_ne a (by omega) b (by omega)
  rw [keyI_kc seed a ha, keyI_kc seed b hb]
  generalize BitVec.ofInt 32 seed = s
  constructor
  · intro hne he
    refine h1 hne ?_
    have he2 : (s ^^^ kc a).toNat = (s ^^^ kc b).toNat := by omega
    have he3 := BitVec.eq_of_toNat_eq he2
    have : s ^^^ (s ^^^ kc a) = s ^^^ (s ^^^ kc b) := by rw [he3]
    simpa [← BitVec.xor_assoc] using this
  · intro he
    apply h2
    have hlt := (s ^^^ kc b).isLt
    have he2 : (s ^^^ kc a).toNat = (~~~(s ^^^ kc b)).toNat := by rw [BitVec.toNat_not]; omega
    have he3 := BitVec.eq_of_toNat_eq he2
    have e4 : kc a = s ^^^ ~~~(s ^^^ kc b) := by rw [← he3, ← BitVec.xor_assoc]; simp
    rw [e4]
    apply BitVec.eq_of_getElem_eq
    intro i hi
    simp only [BitVec.getElem_xor, BitVec.getElem_not, BitVec.getElem_allOnes]
    cases s[i] <;> cases (kc b)[i] <;> rfl
set_option maxRecDepth 100000 in
set_option maxHeartbeats 4000000 in
theorem lawKeys (seed : Int) (w : World) : Calls Tryd.prog 3 #[.int .u64 seed] w fun r w' => r = .returned (.bool true) ∧ Below w.heap.size w w' := by
  have hK := fun (a : Nat) W => srvKey seed (a : Int) W
  have HK := Lib.hid hK
  clear hK
  go_enter Tryd.func3, Tryd.ntmps3
  go_wp2
  go_loop [3] (fun i => ∃ a : Nat, 1 ≤ a ∧ a ≤ 9 ∧ i = .int .i64 (a : Nat)) (fun i => 10 - (intOf i).toNat)
  case atStart => exact ⟨1, by decide, by decide, rfl⟩
  case round =>
    obtain ⟨a, ha1, ha9, rfl⟩ := hrel
    by_cases ha : a ≤ 8
    · have ta : decide ((a : Int) ≤ 8) = true := decide_eq_true (by omega)
      have tan : decide (a ≤ 8) = true := decide_eq_true ha
      go_wp2
      go_loop [4] (fun i => ∃ b : Nat, 1 ≤ b ∧ b ≤ 9 ∧ i = .int .i64 (b : Nat)) (fun i => 10 - (intOf i).toNat)
      case atStart => exact ⟨1, by decide, by decide, rfl⟩
      case round =>
        obtain ⟨b, hb1, hb9, rfl⟩ := hrel
        by_cases hb : b ≤ 8
        · have tb : decide ((b : Int) ≤ 8) = true := decide_eq_true (by omega)
          have tbn : decide (b ≤ 8) = true := decide_eq_true hb
          have hx := HK.out a
          have hy := HK.out b
          obtain ⟨q1, q2⟩ := keys_ne seed a b ha hb
          obtain ⟨rx1, rx2⟩ := keyI_range seed a
          obtain ⟨ry1, ry2⟩ := keyI_range seed b
          obtain ⟨x, hxx⟩ : ∃ x, keyI seed (a : Int) = x := ⟨_, rfl⟩
          obtain ⟨y, hyy⟩ : ∃ y, keyI seed (b : Int) = y := ⟨_, rfl⟩
          simp only [hxx] at hx q1 q2 rx1 rx2
          simp only [hyy] at hy q1 q2 ry1 ry2
          have t2 : (x == 4294967295 - y) = false := beq_eq_false_iff_ne.2 q2
          have HX := Lib.hid hx
          have HY := Lib.hid hy
          clear hx hy hxx hyy q2
          by_cases hab : a = b
          · have t1 : ((a : Int) != (b : Int)) = false := by rw [hab]; simp
            have t1n : (a != b) = false := by rw [hab]; simp
            clear q1 hab
            go_wp2_with fail
            refine (HX.out _).mono ?_
            rintro e w1 ⟨rfl, rfl⟩
            go_wp2_with fail
            refine (HY.out _).mono ?_
            rintro e w1 ⟨rfl, rfl⟩
            go_wp2
            exact ⟨⟨b + 1, by omega, by omega, by go_num⟩, by simp [intOf]; omega⟩
          · have t1 : ((a : Int) != (b : Int)) = true := bne_iff_ne.2 (by omega)
            have t1n : (a != b) = true := bne_iff_ne.2 hab
            have t3 : (x == y) = false := beq_eq_false_iff_ne.2 (q1 hab)
            clear q1 hab
            go_wp2_with fail
            refine (HX.out _).mono ?_
            rintro e w1 ⟨rfl, rfl⟩
            go_wp2_with fail
            refine (HY.out _).mono ?_
            rintro e w1 ⟨rfl, rfl⟩
            go_wp2
            exact ⟨⟨b + 1, by omega, by omega, by go_num⟩, by simp [intOf]; omega⟩
        · have tb : decide ((b : Int) ≤ 8) = false := decide_eq_false (by omega)
          have tbn : decide (b ≤ 8) = false := decide_eq_false hb
          go_wp2
          exact ⟨⟨a + 1, by omega, by omega, by go_num⟩, by simp [intOf]; omega⟩
    · have ta : decide ((a : Int) ≤ 8) = false := decide_eq_false (by omega)
      have tan : decide (a ≤ 8) = false := decide_eq_false ha
      go_wp2_with fail
      refine (awake21 w).mono ?_
      rintro e w1 ⟨rfl, hb1⟩
      go_wp2
      go_ret
      exact ⟨rfl, hb1⟩
end Go.Proofs.YtbjhdmknhimbjaaDoor
