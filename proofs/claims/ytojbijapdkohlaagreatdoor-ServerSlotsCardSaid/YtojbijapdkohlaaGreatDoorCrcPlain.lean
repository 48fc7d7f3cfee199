/- The plain law of the sums of layer 5, over bit vectors, without any program: a step is linear and one-to-one; four bytes side by side that are others give another sum. -/
namespace Go.Proofs.YtojbijapdkohlaaGreatDoor.Crc

def stp (s : BitVec 32) : BitVec 32 := (s >>> 1) ^^^ (if s.getLsbD 0 then 3988292384#32 else 0#32)
def stpN : Nat → BitVec 32 → BitVec 32
  | 0, s => s
  | n + 1, s => stpN n (stp s)
def wide (c : UInt8) : BitVec 32 := c.toBitVec.setWidth 32
def eat (s : BitVec 32) (c : UInt8) : BitVec 32 := stpN 8 (s ^^^ wide c)
def run (s : BitVec 32) (l : List UInt8) : BitVec 32 := l.foldl eat s
def sum (l : List UInt8) : BitVec 32 := ~~~ (run 4294967295#32 l)

theorem xlc (a b c : BitVec 32) : a ^^^ (b ^^^ c) = b ^^^ (a ^^^ c) := by rw [← BitVec.xor_assoc, BitVec.xor_comm a b, BitVec.xor_assoc]
theorem xsc (a b : BitVec 32) : a ^^^ (b ^^^ a) = b := by rw [xlc]; simp
theorem xsc2 (a b : BitVec 32) : a ^^^ (a ^^^ b) = b := by rw [← BitVec.xor_assoc]; simp
theorem stp_xor (a b : BitVec 32) : stp (a ^^^ b) = stp a ^^^ stp b := by
  unfold stp
  rw [BitVec.getLsbD_xor, BitVec.ushiftRight_xor_distrib]
  cases a.getLsbD 0 <;> cases b.getLsbD 0 <;> simp [BitVec.xor_assoc]
  all_goals first | exact BitVec.xor_comm _ _ | exact xlc _ _ _ | exact (xsc _ _).symm
theorem stp_zero {d : BitVec 32} (h : stp d = 0#32) : d = 0#32 := by
  unfold stp at h
  cases hb : d.getLsbD 0 with
  | true =>
    rw [hb, if_pos rfl] at h
    have h31 : ((d >>> 1) ^^^ 3988292384#32).getLsbD 31 = (0#32).getLsbD 31 := by rw [h]
    rw [BitVec.getLsbD_xor, BitVec.getLsbD_ushiftRight, BitVec.getLsbD_of_ge d (1 + 31) (by omega)] at h31
    exact absurd h31 (by decide)
  | false =>
    rw [hb] at h
    simp only [Bool.false_eq_true, if_false, BitVec.xor_zero] at h
    refine BitVec.eq_of_getLsbD_eq fun i hi => ?_
    rw [BitVec.getLsbD_zero]
    rcases i with _ | i
    · exact hb
    · have : (d >>> 1).getLsbD i = (0#32).getLsbD i := by rw [h]
      rw [BitVec.getLsbD_ushiftRight, BitVec.getLsbD_zero, Nat.add_comm] at this
      exact this
theorem stpN_xor (n : Nat) : ∀ a b, stpN n (a ^^^ b) = stpN n a ^^^ stpN n b := by
  induction n with
  | zero => intro a b; rfl
  | succ n ih => intro a b; simp only [stpN]; rw [stp_xor, ih]
theorem stpN_zero (n : Nat) : ∀ {d}, stpN n d = 0#32 → d = 0#32 := by
  induction n with
  | zero => intro d h; exact h
  | succ n ih => intro d h; exact stp_zero (ih h)
theorem stpN_add (n : Nat) : ∀ m s, stpN (n + m) s = stpN m (stpN n s) := by
  induction n with
  | zero => intro m s; rw [Nat.zero_add]; rfl
  | succ n ih => intro m s; rw [Nat.add_right_comm]; simp only [stpN]; exact ih m _
theorem stpN_low (n : Nat) : ∀ x : BitVec 32, (∀ i, i < n → x.getLsbD i = false) → stpN n x = x >>> n := by
  induction n with
  | zero => intro x _; simp [stpN]
  | succ n ih =>
    intro x h
    have e : stp x = x >>> 1 := by unfold stp; rw [h 0 (by omega)]; simp
    simp only [stpN]
    rw [e, ih (x >>> 1) (fun i hi => by rw [BitVec.getLsbD_ushiftRight]; exact h _ (by omega)), ← BitVec.shiftRight_add, Nat.add_comm 1 n]

theorem xor_self_iff {a b : BitVec 32} : a ^^^ b = 0#32 ↔ a = b := by
  constructor
  · intro h
    have : a ^^^ b ^^^ b = 0#32 ^^^ b := by rw [h]
    simpa [BitVec.xor_assoc] using this
  · rintro rfl; simp
theorem stpN_inj (n : Nat) {a b : BitVec 32} (h : stpN n a = stpN n b) : a = b :=
  xor_self_iff.1 (stpN_zero n (by rw [stpN_xor, h]; simp))
theorem eat_inj {a b : BitVec 32} {c : UInt8} (h : eat a c = eat b c) : a = b := by
  have h1 := stpN_inj 8 h
  have h2 : a ^^^ wide c ^^^ wide c = b ^^^ wide c ^^^ wide c := by rw [h1]
  simpa [BitVec.xor_assoc] using h2
theorem run_inj (l : List UInt8) : ∀ {a b : BitVec 32}, run a l = run b l → a = b := by
  induction l with
  | nil => intro a b h; exact h
  | cons c l ih => intro a b h; exact eat_inj (ih h)
theorem run_append (s : BitVec 32) (l m : List UInt8) : run s (l ++ m) = run (run s l) m := by simp [run]

/-- Four bytes as one number. -/
def four (a b c d : UInt8) : BitVec 32 := wide a ^^^ (wide b <<< 8) ^^^ (wide c <<< 16) ^^^ (wide d <<< 24)
theorem wide_bit (c : UInt8) (i : Nat) : (wide c).getLsbD i = c.toBitVec.getLsbD i := by
  unfold wide
  rw [BitVec.getLsbD_setWidth]
  rcases Nat.lt_or_ge i 32 with h | h
  · simp [h]
  · rw [BitVec.getLsbD_of_ge c.toBitVec i (by omega)]; simp
theorem wide_high (c : UInt8) (i : Nat) (h : 8 ≤ i) : (wide c).getLsbD i = false := by
  rw [wide_bit]; exact BitVec.getLsbD_of_ge _ _ h
theorem shl_back (c : UInt8) (k : Nat) (hk : k + 16 ≤ 32) : (wide c <<< (k + 8)) >>> 8 = wide c <<< k := by
  refine BitVec.eq_of_getLsbD_eq fun i hi => ?_
  rw [BitVec.getLsbD_ushiftRight, BitVec.getLsbD_shiftLeft, BitVec.getLsbD_shiftLeft]
  rcases Nat.lt_or_ge i k with h | h
  · rw [decide_eq_true (show 8 + i < k + 8 by omega), decide_eq_true h]; simp
  · have e : 8 + i - (k + 8) = i - k := by omega
    rw [e, decide_eq_false (show ¬ 8 + i < k + 8 by omega), decide_eq_false (show ¬ i < k by omega), decide_eq_true hi]
    rcases Nat.lt_or_ge (8 + i) 32 with h2 | h2
    · rw [decide_eq_true h2]
    · rw [wide_high c (i - k) (by omega)]; simp
theorem stp8_shl (c : UInt8) (k : Nat) (hk : k + 16 ≤ 32) : stpN 8 (wide c <<< (k + 8)) = wide c <<< k := by
  rw [stpN_low, shl_back c k hk]
  intro i hi
  rw [BitVec.getLsbD_shiftLeft, decide_eq_true (show i < k + 8 by omega)]
  simp
/-- To eat four bytes is to lay their number over the state, and to make 32 steps. -/
theorem eat_four (s : BitVec 32) (a b c d : UInt8) : eat (eat (eat (eat s a) b) c) d = stpN 32 (s ^^^ four a b c d) := by
  have e : ∀ x, stpN 32 x = stpN 8 (stpN 8 (stpN 8 (stpN 8 x))) := fun x => by rw [← stpN_add, ← stpN_add, ← stpN_add]
  have h8 : ∀ x : BitVec 32, x <<< 0 = x := fun x => by simp
  have s1 := fun c => stp8_shl c 0 (by omega)
  have s2 := fun c => stp8_shl c 8 (by omega)
  have s3 := fun c => stp8_shl c 16 (by omega)
  simp only [Nat.zero_add, h8, Nat.reduceAdd] at s1 s2 s3
  rw [e]
  unfold eat four
  simp only [stpN_xor, s1, s2, s3, BitVec.xor_assoc]
theorem four_inj {a b c d a' b' c' d' : UInt8} (h : four a b c d = four a' b' c' d') : a = a' ∧ b = b' ∧ c = c' ∧ d = d' := by
  have bit : ∀ i, (four a b c d).getLsbD i = (four a' b' c' d').getLsbD i := fun i => by rw [h]
  simp only [four, BitVec.getLsbD_xor, BitVec.getLsbD_shiftLeft] at bit
  have low : ∀ x y : UInt8, (∀ i, i < 8 → (wide x).getLsbD i = (wide y).getLsbD i) → x = y := fun x y hxy =>
    UInt8.eq_of_toBitVec_eq (BitVec.eq_of_getLsbD_eq fun i hi => by rw [← wide_bit, ← wide_bit]; exact hxy i hi)
  refine ⟨low _ _ fun i hi => ?_, low _ _ fun i hi => ?_, low _ _ fun i hi => ?_, low _ _ fun i hi => ?_⟩
  · have := bit i
    simpa [show i < 8 by omega, show i < 16 by omega, show i < 24 by omega, show i < 32 by omega] using this
  · have := bit (i + 8)
    rw [wide_high a (i + 8) (by omega), wide_high a' (i + 8) (by omega)] at this
    simpa [show i + 8 < 16 by omega, show i + 8 < 24 by omega, show i + 8 < 32 by omega, show ¬ (i + 8 < 8) by omega, wide_high] using this
  · have := bit (i + 16)
    rw [wide_high a (i + 16) (by omega), wide_high a' (i + 16) (by omega)] at this
    simpa [show i + 16 < 24 by omega, show i + 16 < 32 by omega, show ¬ (i + 16 < 16) by omega, wide_high, show 8 ≤ i + 16 by omega, show i + 16 - 8 = i + 8 by omega] using this
  · have := bit (i + 24)
    rw [wide_high a (i + 24) (by omega), wide_high a' (i + 24) (by omega)] at this
    simpa [show i + 24 < 32 by omega, show ¬ (i + 24 < 24) by omega, wide_high, show 8 ≤ i + 24 by omega, show i + 24 - 8 = i + 16 by omega, show 8 ≤ i + 16 by omega, show i + 24 - 16 = i + 8 by omega] using this
theorem run_four {s : BitVec 32} {l m : List UInt8} (hl : l.length = 4) (hm : m.length = 4) (h : run s l = run s m) : l = m := by
  match l, hl, m, hm with
  | [a, b, c, d], _, [a', b', c', d'], _ =>
    have h' : eat (eat (eat (eat s a) b) c) d = eat (eat (eat (eat s a') b') c') d' := h
    rw [eat_four, eat_four] at h'
    have h2 := stpN_inj 32 h'
    have h3 : four a b c d = four a' b' c' d' := by
      have : s ^^^ (s ^^^ four a b c d) = s ^^^ (s ^^^ four a' b' c' d') := by rw [h2]
      simpa [← BitVec.xor_assoc] using this
    obtain ⟨rfl, rfl, rfl, rfl⟩ := four_inj h3
    rfl
/-- Of two lists that part in four bytes side by side alone the sums are the same just if the lists are. -/
theorem sum_four {p q l m : List UInt8} (hl : l.length = 4) (hm : m.length = 4) : sum (p ++ l ++ q) = sum (p ++ m ++ q) ↔ l = m := by
  constructor
  · intro h
    have h1 : run 4294967295#32 (p ++ l ++ q) = run 4294967295#32 (p ++ m ++ q) := by
      have : ~~~ sum (p ++ l ++ q) = ~~~ sum (p ++ m ++ q) := by rw [h]
      simpa [sum] using this
    rw [run_append, run_append, run_append 4294967295#32 (p ++ m), run_append _ p m] at h1
    exact run_four hl hm (run_inj q h1)
  · rintro rfl; rfl

/-- The sums hang on the bytes by exclusive or. -/
def lay : List UInt8 → List UInt8 → List UInt8 → List UInt8
  | a :: l, b :: m, c :: n => (a ^^^ b ^^^ c) :: lay l m n
  | _, _, _ => []
theorem wide_xor (a b : UInt8) : wide (a ^^^ b) = wide a ^^^ wide b := by
  refine BitVec.eq_of_getLsbD_eq fun i hi => ?_
  rw [BitVec.getLsbD_xor, wide_bit, wide_bit, wide_bit, UInt8.toBitVec_xor, BitVec.getLsbD_xor]
theorem run_lay (l : List UInt8) : ∀ (m n : List UInt8) (s t u : BitVec 32), m.length = l.length → n.length = l.length →
    run (s ^^^ t ^^^ u) (lay l m n) = run s l ^^^ run t m ^^^ run u n := by
  induction l with
  | nil =>
    intro m n s t u hm hn
    obtain rfl : m = [] := List.eq_nil_of_length_eq_zero hm
    obtain rfl : n = [] := List.eq_nil_of_length_eq_zero hn
    rfl
  | cons a l ih =>
    intro m n s t u hm hn
    match m, n, hm, hn with
    | b :: m, c :: n, hm, hn =>
      have e : eat (s ^^^ t ^^^ u) (a ^^^ b ^^^ c) = eat s a ^^^ eat t b ^^^ eat u c := by
        unfold eat
        rw [← stpN_xor, ← stpN_xor, wide_xor, wide_xor]
        congr 1
        simp only [BitVec.xor_assoc]
        rw [xlc (wide a) t, xlc (wide b) u, xlc (wide a) u]
      show run (eat (s ^^^ t ^^^ u) (a ^^^ b ^^^ c)) (lay l m n) = _
      rw [e, ih m n _ _ _ (by simpa using hm) (by simpa using hn)]
      rfl
theorem sum_lay (l m n : List UInt8) (hm : m.length = l.length) (hn : n.length = l.length) : sum l ^^^ sum m ^^^ sum n ^^^ sum (lay l m n) = 0#32 := by
  have h := run_lay l m n 4294967295#32 4294967295#32 4294967295#32 hm hn
  have e : (4294967295#32 ^^^ 4294967295#32 ^^^ 4294967295#32 : BitVec 32) = 4294967295#32 := by decide
  rw [e] at h
  unfold sum
  rw [h]
  generalize run 4294967295#32 l = a
  generalize run 4294967295#32 m = b
  generalize run 4294967295#32 n = c
  refine BitVec.eq_of_getLsbD_eq fun i hi => ?_
  simp only [BitVec.getLsbD_xor, BitVec.getLsbD_not, BitVec.getLsbD_zero, hi, decide_true, Bool.true_and]
  cases a.getLsbD i <;> cases b.getLsbD i <;> cases c.getLsbD i <;> rfl
end Go.Proofs.YtojbijapdkohlaaGreatDoor.Crc
