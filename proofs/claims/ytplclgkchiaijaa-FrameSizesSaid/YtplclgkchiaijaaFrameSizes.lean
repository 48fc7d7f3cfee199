/- The walk of the law FrameSizes. -/
import Derived.Test.YtplclgkchiaijaaFrameLaw2
import Derived.Laws.MakeOwn
namespace Go.Proofs.Ytplclgkchiaijaa
open Go.RowKit
/-- So many cells of the byte 0. -/
def zerosA (n : Nat) : Array Value := madeCells #[Value.int .u8 0] n
theorem zerosA_list (n : Nat) : (zerosA n).toList = bytesV (List.replicate n 0) := by
  unfold zerosA
  rw [toList_madeCells_one]
  simp [bytesV, byteV]
theorem run_mkB (n : Nat) (hn : n ≤ 1500) (w : World) :
    (Instr.makeSlice 29 (.int .i64 (n : Int)) (.int .i64 (n : Int))).run Try.prog w = .ok (.slice (some ⟨w.heap.size, 0, none⟩) n n) (w.alloc (.cells (zerosA n) 5)) := by
  obtain ⟨i, z, hi, hz, hsz, hby, hzs⟩ := elt29.hi
  have hz' : z = .int .u8 0 := by
    have h : (Try.prog.info? 5).map (fun i => i.zero) = some (some (.int .u8 0)) := by kernel_rfl
    rw [hi] at h
    simp only [Option.map_some, Option.some.injEq] at h
    rw [hz] at h
    injection h
  subst hz'
  have hr := run_make (P := Try.prog) w 29 5 i (.int .u8 0) Try.underlying29 hi hz .i64 .i64 n n (by omega) (Int.le_refl _) (by rw [hby]; omega) (by omega)
  simp only [Int.toNat_natCast] at hr
  rw [hr, hsz, Nat.mul_one]; rfl
theorem zeros_reads (w : World) (n : Nat) : Reads (w.alloc (.cells (zerosA n) 5)) (w.heap.size + 1) 1 (some ⟨w.heap.size, 0, none⟩) n (bytesV (List.replicate n 0)) := by
  rw [← zerosA_list]
  exact Reads.new (Nat.lt_succ_self _) (by have := congrArg List.length (zerosA_list n); simp [bytesV] at this; omega)
theorem wrapF_zeros (key : BitVec 32) (k : Nat) : (wrapF key (List.replicate k 0)).2 = if k ≤ 1400 then 0 else 3 := by
  unfold wrapF
  rw [List.length_replicate]
  split <;> rfl
theorem wrapF_zlen (key : BitVec 32) (k : Nat) (h : k ≤ 1400) : (wrapF key (List.replicate k 0)).1.length = k + 4 := by
  unfold wrapF
  rw [List.length_replicate, if_pos h]
  simp [num4_length']; omega
theorem openF_zeros (key : BitVec 32) (k : Nat) : (((openF key (List.replicate k 0)).2 == 4) == decide ((k : Int) < 4)) = true ∧ (((openF key (List.replicate k 0)).2 == 3) == decide ((1404 : Int) < (k : Int))) = true := by
  unfold openF
  rw [List.length_replicate]
  by_cases h4 : k < 4
  · rw [if_pos h4, decide_eq_true (show (k : Int) < 4 by omega), decide_eq_false (show ¬ (1404 : Int) < (k : Int) by omega)]; exact ⟨rfl, rfl⟩
  rw [if_neg h4, decide_eq_false (show ¬ (k : Int) < 4 by omega)]
  by_cases hle : 1404 < k
  · rw [if_pos hle, decide_eq_true (show (1404 : Int) < (k : Int) by omega)]; exact ⟨rfl, rfl⟩
  rw [if_neg hle, decide_eq_false (show ¬ (1404 : Int) < (k : Int) by omega)]
  split <;> exact ⟨rfl, rfl⟩
set_option maxHeartbeats 1000000 in
theorem lawFrameSizes (key : BitVec 32) (a : Int) (ha : 0 ≤ a ∧ a ≤ 65535) (w : World) :
    Calls Try.prog 15 #[u32V key, .int .u16 a] w fun e w' => e = .returned (.bool true) ∧ Below w.heap.size w w' := by
  obtain ⟨k, hk⟩ : ∃ k : Nat, a % 1500 = (k : Int) := ⟨(a % 1500).toNat, by have := Int.emod_nonneg a (show (1500 : Int) ≠ 0 by omega); omega⟩
  have hk2 : k < 1500 := by have := Int.emod_lt_of_pos a (show (0 : Int) < 1500 by omega); omega
  have ha0 := ha.1
  have ha1 := ha.2
  have hmk := run_mkB k (by omega)
  have hw := wrapF_zeros key k
  have hwl := wrapF_zlen key k
  obtain ⟨t1, t2⟩ := openF_zeros key k
  have HWL := Lib.hid hwl
  have T1 := Lib.hid t1
  have T2 := Lib.hid t2
  clear ha hwl t1 t2
  unfold u32V
  by_cases hle : k ≤ 1400
  · rw [if_pos hle] at hw
    have HW := Lib.hid hw
    have d1 : decide ((1400 : Int) < (k : Int)) = false := decide_eq_false (by omega)
    clear hw
    go_enter Try.func15, Try.ntmps15
    go_wp2_with fail
    refine (frame_wrap key (List.replicate k 0) _ _ k k ((zeros_reads w k).more (by simp)) (by omega)).mono ?_
    rintro e w1 ⟨v1, n1, rfl, ho1, hb1⟩
    have s1 := hb1.size
    simp at s1
    rw [HW.out]
    obtain ⟨A1, c1, rfl, r1⟩ := Reads.owned ho1
    have L1 : Hid (n1 = k + 4) := by have := bytes_len r1; have := HWL.out hle; show _ = _; omega
    have hlen : ((n1 : Int) != (k : Int) + 4) = false := by rw [L1.out]; simp
    go_wp2_with fail
    refine (frame_open key (List.replicate k 0) _ _ k k ((zeros_reads w1 k).more (by simp)) (by omega) (Nat.le_refl _)).mono ?_
    rintro e w2 ⟨v2, n2, rfl, ho2, hb2⟩
    have s2 := hb2.size
    simp at s2
    generalize (openF key (List.replicate k 0)).2 = r at T1 T2
    go_wp2_with fail
    refine (frameAwake _).mono ?_
    rintro e w3 ⟨rfl, hb3⟩
    have t1 := T1.out
    have t2 := T2.out
    go_wp2
    go_ret
    have z1 : w.heap.size ≤ (w.alloc (.cells (zerosA k) 5)).heap.size := by simp
    have z2 : w1.heap.size ≤ (w1.alloc (.cells (zerosA k) 5)).heap.size := by simp
    have B1 : Below w.heap.size w w1 := ((Below.refl _ _).alloc (Nat.le_refl _) _).trans (hb1.mono z1)
    have B2 : Below w.heap.size w w2 := (B1.alloc (by omega) (.cells (zerosA k) 5)).trans (hb2.mono (by simp; omega))
    exact ⟨rfl, B2.trans (hb3.mono (by omega))⟩
  · rw [if_neg hle] at hw
    have HW := Lib.hid hw
    have d1 : decide ((1400 : Int) < (k : Int)) = true := decide_eq_true (by omega)
    clear hw
    go_enter Try.func15, Try.ntmps15
    go_wp2_with fail
    refine (frame_wrap key (List.replicate k 0) _ _ k k ((zeros_reads w k).more (by simp)) (by omega)).mono ?_
    rintro e w1 ⟨v1, n1, rfl, ho1, hb1⟩
    have s1 := hb1.size
    simp at s1
    rw [HW.out]
    go_wp2_with fail
    refine (frame_open key (List.replicate k 0) _ _ k k ((zeros_reads w1 k).more (by simp)) (by omega) (Nat.le_refl _)).mono ?_
    rintro e w2 ⟨v2, n2, rfl, ho2, hb2⟩
    have s2 := hb2.size
    simp at s2
    generalize (openF key (List.replicate k 0)).2 = r at T1 T2
    go_wp2_with fail
    refine (frameAwake _).mono ?_
    rintro e w3 ⟨rfl, hb3⟩
    have t1 := T1.out
    have t2 := T2.out
    go_wp2
    go_ret
    have z1 : w.heap.size ≤ (w.alloc (.cells (zerosA k) 5)).heap.size := by simp
    have z2 : w1.heap.size ≤ (w1.alloc (.cells (zerosA k) 5)).heap.size := by simp
    have B1 : Below w.heap.size w w1 := ((Below.refl _ _).alloc (Nat.le_refl _) _).trans (hb1.mono z1)
    have B2 : Below w.heap.size w w2 := (B1.alloc (by omega) (.cells (zerosA k) 5)).trans (hb2.mono (by simp; omega))
    exact ⟨rfl, B2.trans (hb3.mono (by omega))⟩
end Go.Proofs.Ytplclgkchiaijaa
