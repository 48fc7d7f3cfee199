/- Layer 22's laws: few, awake. -/
import Derived.Test.YtbjhdmknhimbjaaGreatCliSend
import Derived.Test.YtbjhdmknhimbjaaGreatRead
set_option linter.unusedSimpArgs false
set_option linter.unusedVariables false
namespace Go.Proofs.YtbjhdmknhimbjaaGreat
open Go.RowKit
set_option maxRecDepth 100000 in
set_option maxHeartbeats 4000000 in
theorem few22 (m : MapV) (s : MapS) (w : World) : Calls Tryz.prog 8 #[(.agg #[.int .i64 m.W, .int .i64 m.H, .slice s.A s.n s.c, .slice s.A2 s.n2 s.c2]), .slice none 0 0] w fun e w' => e = .returned (.bool (decide (s.n ≤ 200 ∧ s.n2 ≤ 200))) ∧ Below w.heap.size w w' := by
  go_enter Tryz.func8, Tryz.ntmps8
  go_wp2
  go_loop [5] (fun i => i = .int .i64 0) (fun _ => 0)
  case atStart => rfl
  case round =>
    subst hrel
    go_wp2
    all_goals
      go_ret
      refine ⟨ret_bool ?_, (by repeat (first | with_reducible exact Below.refl _ _ | with_reducible assumption | with_reducible refine Below.drew ?_ | with_reducible refine below_drews ?_ _ | with_reducible refine Below.alloc ?_ (by first | omega | (simp; done) | (simp; omega)) _ | with_reducible refine Below.setCell ?_ (by first | omega | (simp; done) | (simp; omega)) _))⟩
      rw [Bool.eq_iff_iff]
      simp
      try omega
def map22 : MapV := ⟨2, 1, [false, false], [⟨32768, 32768⟩, ⟨98304, 32768⟩]⟩
theorem read22 : readF [.spawn, .spawn, .nl] = some map22 := by rfl
theorem ok22 : cliOk map22 1 = true := by decide +kernel
theorem wrapF_len (k : BitVec 32) (l : List UInt8) (h : l.length ≤ 1400) : (wrapF k l).1.length = 4 + l.length := by
  unfold wrapF
  rw [if_pos h]
  simp [num4]
  omega
theorem sendBits_len (h : HdrV) (rx : Int) (ts : List Int) (pl : List CmdV) : 130 ≤ (sendBits h rx ts pl).length ∧ (sendBits h rx ts pl).length ≤ 700 := by
  unfold sendBits
  simp only [List.length_append, bitsN_length, hdrBits_length]
  split
  · simp [bitsN_length]
  · unfold rowBits
    have := flatBits_len (last8 pl)
    have : (last8 pl).length ≤ 8 := by unfold last8; rw [List.length_drop]; omega
    simp only [List.length_append, bitsN_length]
    omega
/-- How long a datagram is that a client makes. -/
theorem sent_len {w : World} {base m : Nat} {v : Value} {k : BitVec 32} {h : HdrV} {rx : Int} {ts : List Int} {pl : List CmdV} (ho : w.ownsRow base 5 1 v m (bytesV (wrapF k (bytes8 (packB (sendBits h rx ts pl)))).1)) : ∃ A c, v = .slice A m c ∧ 4 < m ∧ m ≤ 100 := by
  obtain ⟨A, c, rfl, hr⟩ := Reads.owned ho
  refine ⟨A, c, rfl, ?_⟩
  obtain ⟨h1, h2⟩ := sendBits_len h rx ts pl
  have hl : (bytes8 (packB (sendBits h rx ts pl))).length = ((sendBits h rx ts pl).length + 7) / 8 := by simp [bytes8, packB_length]
  have := hr.1
  simp only [bytesV, List.length_map] at this
  rw [wrapF_len _ _ (by omega), hl] at this
  omega
end Go.Proofs.YtbjhdmknhimbjaaGreat
