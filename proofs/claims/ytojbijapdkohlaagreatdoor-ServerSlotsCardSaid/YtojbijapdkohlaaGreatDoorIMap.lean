/- Maps of whole-number keys: what lies in them, told by a list; look-up, store, delete, len. -/
import Derived.Test.YtojbijapdkohlaaGreatDoorMem
import Derived.MapKept
import Derived.Maps.OwnOps
set_option linter.unusedSimpArgs false
set_option linter.unusedVariables false
namespace Go.Proofs.YtojbijapdkohlaaGreatDoor
open Go.RowKit Go.MapKept
def kvs (l : List (Int × Value)) : List (Value × Value) := l.map fun p => (.int .i64 p.1, p.2)
def IMap (w : World) (b : Nat) (l : List (Int × Value)) : Prop := ∃ es clock, w.heap[b]? = some (.map es clock) ∧ es.toList.map (fun e => (e.key, e.val)) = kvs l
def lkI (k : Int) : List (Int × Value) → Nat → Option (Nat × Value)
  | [], _ => none
  | p :: ps, i => if p.1 = k then some (i, p.2) else lkI k ps (i + 1)
section
variable {P : Program} {w w' : World} {b : Nat} {l : List (Int × Value)} {T K E : TypeId}
theorem findNow_i64 (k : Int) : ∀ (es : List MapEntry) (l : List (Int × Value)) (i : Nat), es.map (fun e => (e.key, e.val)) = kvs l → Instr.findNow (.int .i64) (.int .i64 k) es i = some (lkI k l i)
  | [], l, i, h => by
    cases l with
    | nil => rfl
    | cons p ps => simp [kvs] at h
  | e :: es, l, i, h => by
    cases l with
    | nil => simp [kvs] at h
    | cons p ps =>
      simp only [kvs, List.map_cons, List.cons.injEq, Prod.mk.injEq] at h
      obtain ⟨⟨h1, h2⟩, h3⟩ := h
      unfold Instr.findNow lkI
      rw [h1]
      by_cases hk : p.1 = k
      · simp [Instr.sameNow, hk, h2]
      · have : (k == p.1) = false := beq_eq_false_iff_ne.2 (Ne.symm hk)
        simp [Instr.sameNow, hk, this]
        exact findNow_i64 k es ps (i + 1) h3
theorem IMap.lt (h : IMap w b l) : b < w.heap.size := by
  obtain ⟨es, clock, h1, -⟩ := h
  rcases Nat.lt_or_ge b w.heap.size with hlt | hge
  · exact hlt
  · rw [Array.getElem?_eq_none hge] at h1; cases h1
theorem IMap.keep (h : IMap w b l) (hk : w'.heap[b]? = w.heap[b]?) : IMap w' b l := by
  obtain ⟨es, clock, h1, h2⟩ := h
  exact ⟨es, clock, hk.trans h1, h2⟩
theorem IMap.new (w : World) : IMap (w.alloc (.map #[] 0)) w.heap.size [] := ⟨#[], 0, heap_alloc_new w _, rfl⟩
def lkV (k : Int) (l : List (Int × Value)) (z : Value) : Value := ((lkI k l 0).map (·.2)).getD z
def lkB (k : Int) (l : List (Int × Value)) : Bool := (lkI k l 0).isSome
theorem run_getObj_at {es : Array MapEntry} {clock : Nat} (hb : w.heap[b]? = some (.map es clock)) : (getObj b).run P w = .ok (.map es clock) w := by simp [getObj, Sem.run, hb]
theorem run_lookup_imap (ht : P.underlying T = some (.map K E)) (hk : P.underlying K = some (.int .i64)) (h : IMap w b l) {z : Value} (hz : (zeroValue E).run P w = .ok z w) (k : Int) :
    (Instr.lookup T (.map (some b)) (.int .i64 k) false).run P w = .ok (lkV k l z) w := by
  obtain ⟨es, clock, h1, h2⟩ := h
  have hf := run_findKey (P := P) (w := w) (kt := K) hk (findNow_i64 k es.toList l 0 h2)
  unfold lkV
  cases hl : lkI k l 0 with
  | none =>
    rw [hl] at hf
    simp [Instr.lookup, run_underlying ht, Result.andThen, run_getObj_at h1, run_checkKey hk (k := .int .i64 k) rfl, hf, hz]
  | some r =>
    rw [hl] at hf
    obtain ⟨i, v⟩ := r
    simp [Instr.lookup, run_underlying ht, Result.andThen, run_getObj_at h1, run_checkKey hk (k := .int .i64 k) rfl, hf, hz]
theorem run_lookup_nil_ok (ht : P.underlying T = some (.map K E)) (hk : P.underlying K = some (.int .i64)) {z : Value} (hz : (zeroValue E).run P w = .ok z w) (k : Int) :
    (Instr.lookup T (.map none) (.int .i64 k) true).run P w = .ok (.tuple #[z, .bool false]) w := by
  have hf := run_findKey (P := P) (w := w) (kt := K) hk (findNow_i64 k [] [] 0 rfl)
  simp only [lkI] at hf
  simp [Instr.lookup, run_underlying ht, Result.andThen, run_checkKey hk (k := .int .i64 k) rfl, hf, hz]
theorem run_lookup_imap_ok (ht : P.underlying T = some (.map K E)) (hk : P.underlying K = some (.int .i64)) (h : IMap w b l) {z : Value} (hz : (zeroValue E).run P w = .ok z w) (k : Int) :
    (Instr.lookup T (.map (some b)) (.int .i64 k) true).run P w = .ok (.tuple #[lkV k l z, .bool (lkB k l)]) w := by
  obtain ⟨es, clock, h1, h2⟩ := h
  have hf := run_findKey (P := P) (w := w) (kt := K) hk (findNow_i64 k es.toList l 0 h2)
  unfold lkV lkB
  cases hl : lkI k l 0 with
  | none =>
    rw [hl] at hf
    simp [Instr.lookup, run_underlying ht, Result.andThen, run_getObj_at h1, run_checkKey hk (k := .int .i64 k) rfl, hf, hz]
  | some r =>
    rw [hl] at hf
    obtain ⟨i, v⟩ := r
    simp [Instr.lookup, run_underlying ht, Result.andThen, run_getObj_at h1, run_checkKey hk (k := .int .i64 k) rfl, hf, hz]
def putI (k : Int) (v : Value) (l : List (Int × Value)) : List (Int × Value) := match lkI k l 0 with
  | some (i, _) => l.set i (k, v)
  | none => l ++ [(k, v)]
def delI (k : Int) (l : List (Int × Value)) : List (Int × Value) := match lkI k l 0 with
  | some (i, _) => l.eraseIdx i
  | none => l
theorem lkI_spec (k : Int) : ∀ (l : List (Int × Value)) (i : Nat), (lkI k l i = none ∧ ∀ p ∈ l, p.1 ≠ k) ∨ ∃ (j : Nat) (v : Value), lkI k l i = some (i + j, v) ∧ l[j]? = some (k, v) ∧ ∀ (j' : Nat) (p : Int × Value), j' < j → l[j']? = some p → p.1 ≠ k
  | [], i => .inl ⟨rfl, by simp⟩
  | p :: ps, i => by
    unfold lkI
    by_cases h : p.1 = k
    · rw [if_pos h]
      exact .inr ⟨0, p.2, rfl, by rw [← h]; rfl, fun j' _ hj => absurd hj (by omega)⟩
    · rw [if_neg h]
      rcases lkI_spec k ps (i + 1) with ⟨h1, h2⟩ | ⟨j, v, h1, h2, h3⟩
      · exact .inl ⟨h1, fun q hq => by rcases List.mem_cons.1 hq with rfl | hq; exact h; exact h2 q hq⟩
      · refine .inr ⟨j + 1, v, by rw [h1]; congr 2; omega, by simpa using h2, fun j' q hj hq => ?_⟩
        rcases j' with _ | j'
        · simp at hq; subst hq; exact h
        · exact h3 j' q (by omega) (by simpa using hq)
theorem kvs_length (l : List (Int × Value)) : (kvs l).length = l.length := by simp [kvs]
theorem run_mapUpdate_imap (ht : P.underlying T = some (.map K E)) (hk : P.underlying K = some (.int .i64)) (h : IMap w b l) (k : Int) (v : Value) :
    ∃ w', (Instr.mapUpdate T (.map (some b)) (.int .i64 k) v).run P w = .ok () w' ∧ IMap w' b (putI k v l) ∧ w.grownBy w' (some b) := by
  obtain ⟨es, clock, h1, h2⟩ := h
  have hf := run_findKey (P := P) (w := w) (kt := K) hk (findNow_i64 k es.toList l 0 h2)
  have hgrow : ∀ o : Obj, w.grownBy { w with heap := w.heap.setIfInBounds b o } (some b) := fun o => ⟨rfl, rfl, rfl, by simp, fun i _ hi => (heap_set (o' := o) h1).2 i (fun e => hi (by rw [e]))⟩
  have hlen : es.size = l.length := by have := congrArg List.length h2; simpa [kvs] using this
  unfold putI
  rcases lkI_spec k l 0 with ⟨h3, _⟩ | ⟨j, u, h3, h4, _⟩
  · rw [h3] at hf ⊢
    refine ⟨_, ?_, ⟨es.push { key := .int .i64 k, val := v, born := clock }, clock + 1, (heap_set h1).1, ?_⟩, hgrow _⟩
    · simp [Instr.mapUpdate, run_underlying ht, Result.andThen, run_getObj_at h1, run_checkKey hk (k := .int .i64 k) rfl, hf, run_setObj_map _ h1]
    · simp [kvs] at h2 ⊢
      exact h2
  · rw [Nat.zero_add] at h3
    rw [h3] at hf ⊢
    have hj : j < es.size := by have := (List.getElem?_eq_some_iff.1 h4).1; omega
    have hkey : es[j].key = .int .i64 k := by
      have e1 : (es.toList.map (fun e => (e.key, e.val)))[j]? = some (es[j].key, es[j].val) := by simp [hj]
      rw [h2] at e1
      simp only [kvs, List.getElem?_map, h4, Option.map_some, Option.some.injEq, Prod.mk.injEq] at e1
      exact e1.1.symm
    refine ⟨_, ?_, ⟨es.modify j fun e => { e with key := .int .i64 k, val := v }, clock, (heap_set h1).1, ?_⟩, hgrow _⟩
    · simp [Instr.mapUpdate, run_underlying ht, Result.andThen, run_getObj_at h1, run_checkKey hk (k := .int .i64 k) rfl, hf, run_setObj_map _ h1, hj, hkey, Instr.keyThatStays, Instr.sameBits]
    · apply List.ext_getElem?
      intro i
      have e0 := congrArg (·[i]?) h2
      simp only [kvs, List.getElem?_map, Array.getElem?_toList] at e0 ⊢
      rw [Array.getElem?_modify, List.getElem?_set]
      by_cases hij : j = i
      · subst hij
        simp [hj, (List.getElem?_eq_some_iff.1 h4).1]
      · simp only [if_neg hij]
        exact e0
theorem run_delete_imap (ht : P.underlying T = some (.map K E)) (hk : P.underlying K = some (.int .i64)) (h : IMap w b l) (k : Int) (T2 T3 : TypeId) :
    ∃ w', (Builtin.delete_ #[T, T2] T3 #[.map (some b), .int .i64 k]).run P w = .ok (.tuple #[]) w' ∧ IMap w' b (delI k l) ∧ w.grownBy w' (some b) := by
  obtain ⟨es, clock, h1, h2⟩ := h
  have hf := run_findKey (P := P) (w := w) (kt := K) hk (findNow_i64 k es.toList l 0 h2)
  have hgrow : ∀ o : Obj, w.grownBy { w with heap := w.heap.setIfInBounds b o } (some b) := fun o => ⟨rfl, rfl, rfl, by simp, fun i _ hi => (heap_set (o' := o) h1).2 i (fun e => hi (by rw [e]))⟩
  have hlen : es.size = l.length := by have := congrArg List.length h2; simpa [kvs] using this
  unfold delI
  rcases lkI_spec k l 0 with ⟨h3, _⟩ | ⟨j, u, h3, h4, _⟩
  · rw [h3] at hf ⊢
    refine ⟨_, ?_, ⟨es, clock, (heap_set h1).1, h2⟩, hgrow _⟩
    simp [Builtin.delete_, run_underlying ht, Result.andThen, run_getObj_at h1, run_checkKey hk (k := .int .i64 k) rfl, hf, run_setObj_map _ h1]
  · rw [Nat.zero_add] at h3
    rw [h3] at hf ⊢
    refine ⟨_, ?_, ⟨es.eraseIdxIfInBounds j, clock, (heap_set h1).1, ?_⟩, hgrow _⟩
    · simp [Builtin.delete_, run_underlying ht, Result.andThen, run_getObj_at h1, run_checkKey hk (k := .int .i64 k) rfl, hf, run_setObj_map _ h1]
    · have hj : j < es.size := by have := (List.getElem?_eq_some_iff.1 h4).1; omega
      have e1 : (es.eraseIdxIfInBounds j).toList = es.toList.eraseIdx j := by
        unfold Array.eraseIdxIfInBounds
        simp [hj]
      rw [e1]
      simp only [kvs] at h2 ⊢
      apply List.ext_getElem?
      intro i
      have e0 := congrArg (·[i]?) h2
      have e2 := congrArg (·[i + 1]?) h2
      simp only [List.getElem?_map] at e0 e2
      simp only [List.getElem?_map, List.getElem?_eraseIdx]
      split
      · exact e0
      · exact e2
end
end Go.Proofs.YtojbijapdkohlaaGreatDoor
