/- Where an entity of a number stands in a row (layer 10). -/
import Derived.Test.YtojbijapdkohlaaGreatDoorQ11WMem
set_option linter.unusedSimpArgs false
set_option linter.unusedVariables false
namespace Go.Proofs.YtojbijapdkohlaaGreatDoor
open Go.RowKit
theorem closFind (e : EntV) (id : Int) (b : Nat) (w : World) (h : w.cell? ⟨b, 0, none⟩ = some (.int .i64 id)) :
    Calls Tryz.prog 149 #[(.agg #[.int .i64 e.id, .int .i64 e.kind, .int .i64 e.at_.x, .int .i64 e.at_.y, .int .i64 e.vel.x, .int .i64 e.vel.y, .int .i64 e.health, .int .i64 e.wait]), .pointer (some ⟨b, 0, none⟩)] w fun r w' => r = .returned (.bool (e.id == id)) ∧ Below w.heap.size w w' := by
  have l1 := World.block_lt_of_cell? w _ h
  go_enter Tryz.func149, Tryz.ntmps149
  go_wp2
  go_ret
  exact ⟨rfl, (by repeat (first | with_reducible exact Below.refl _ _ | with_reducible assumption | with_reducible refine Below.drew ?_ | with_reducible refine below_drews ?_ _ | with_reducible refine Below.alloc ?_ (by first | omega | (simp; done) | (simp; omega)) _ | with_reducible refine Below.setCell ?_ (by first | omega | (simp; done) | (simp; omega)) _))⟩
set_option maxRecDepth 100000 in
set_option maxHeartbeats 4000000 in
theorem idxFind (l : List EntV) (id : Int) (b : Nat) (w : World) (A : Option Addr) (n c : Nat) (h : Reads w w.heap.size 8 A n (entsV l)) (hn : n ≤ 9223372036854775807) (hb : w.cell? ⟨b, 0, none⟩ = some (.int .i64 id)) :
    Calls Tryz.prog 148 #[.slice A n c, .func (.func 149) #[] #[.pointer (some ⟨b, 0, none⟩)]] w fun e w' => e = .returned (.int .i64 (idxFrom (fun e => e.id == id) l 0)) ∧ Below w.heap.size w w' := by
  have hl : l.length = n := by have := h.1; rw [entsV_length] at this; omega
  have HL := Lib.hid hl
  have HR := Lib.hid h
  have HB := Lib.hid hb
  have l1 := World.block_lt_of_cell? w _ hb
  have HL1 := Lib.hid l1
  clear hl h hb
  go_enter Tryz.func148, Tryz.ntmps148
  go_wp2
  go_loopw [8] (fun i wr => ∃ k : Nat, k ≤ n ∧ i = .int .i64 k ∧ idxFrom (fun e => e.id == id) l 0 = idxFrom (fun e => e.id == id) (l.drop k) k ∧ Below w.heap.size w wr) (fun i _ => n - (intOf i).toNat)
  case atStart => exact ⟨0, Nat.zero_le _, rfl, rfl, Below.refl _ _⟩
  case round =>
    obtain ⟨k, hk, rfl, he, hbw⟩ := hrel
    by_cases hlt : k < n
    · obtain ⟨g, off, rfl, hg, hc⟩ := HR.out.flat (by omega) (by omega)
      obtain ⟨x, hx⟩ : ∃ x, l[k]? = some x := ⟨_, List.getElem?_eq_getElem (by rw [HL.out]; exact hlt)⟩
      have hh := fun j (hj : j < 8) u (hu : (entCells x)[j]? = some u) => (hbw.cell (p := ⟨g, off + (k * 8 + j), none⟩) hg).trans (hc _ _ ((entsV_at hx j hj).trans hu))
      have c0 : wr.cell? ⟨g, off + k * 8, none⟩ = some (.int .i64 x.id) := hh 0 (by decide) _ rfl
      have c1 : wr.cell? ⟨g, off + k * 8 + 1, none⟩ = some (.int .i64 x.kind) := by have := hh 1 (by decide) _ rfl; rwa [← Nat.add_assoc] at this
      have c2 : wr.cell? ⟨g, off + k * 8 + 2, none⟩ = some (.int .i64 x.at_.x) := by have := hh 2 (by decide) _ rfl; rwa [← Nat.add_assoc] at this
      have c3 : wr.cell? ⟨g, off + k * 8 + 3, none⟩ = some (.int .i64 x.at_.y) := by have := hh 3 (by decide) _ rfl; rwa [← Nat.add_assoc] at this
      have c4 : wr.cell? ⟨g, off + k * 8 + 4, none⟩ = some (.int .i64 x.vel.x) := by have := hh 4 (by decide) _ rfl; rwa [← Nat.add_assoc] at this
      have c5 : wr.cell? ⟨g, off + k * 8 + 5, none⟩ = some (.int .i64 x.vel.y) := by have := hh 5 (by decide) _ rfl; rwa [← Nat.add_assoc] at this
      have c6 : wr.cell? ⟨g, off + k * 8 + 6, none⟩ = some (.int .i64 x.health) := by have := hh 6 (by decide) _ rfl; rwa [← Nat.add_assoc] at this
      have c7 : wr.cell? ⟨g, off + k * 8 + 7, none⟩ = some (.int .i64 x.wait) := by have := hh 7 (by decide) _ rfl; rwa [← Nat.add_assoc] at this
      have hs := hbw.size
      rw [drop_cons_of hx, idxFrom] at he
      have HC := Lib.hid (fun W (hW : Below w.heap.size w W) => closFind x id b W ((hW.cell (p := ⟨b, 0, none⟩) HL1.out).trans HB.out))
      obtain ⟨t, ht⟩ : ∃ t, (x.id == id) = t := ⟨_, rfl⟩
      have HT := Lib.hid ht
      simp only [ht] at he
      have HE := Lib.hid he
      have HBW := Lib.hid hbw
      clear hc hx he hh ht hbw
      cases t with
      | true =>
        go_wp2_with (go_at_call 149; refine (HC.out _ HBW.out).mono ?_; simp only [HT.out]; rintro r w5 ⟨rfl, hb5⟩)
        go_ret
        exact ⟨ret_int HE.out.symm, HBW.out.trans (hb5.mono hs)⟩
      | false =>
        go_wp2_with (go_at_call 149; refine (HC.out _ HBW.out).mono ?_; simp only [HT.out]; rintro r w5 ⟨rfl, hb5⟩)
        exact ⟨⟨k + 1, hlt, by go_num, HE.out, HBW.out.trans (hb5.mono hs)⟩, by simp [intOf]; omega⟩
    · obtain rfl : k = n := by omega
      rw [List.drop_of_length_le (by rw [HL.out]; exact Nat.le_refl _)] at he
      have HE := Lib.hid he
      clear he
      go_wp2
      go_ret
      exact ⟨ret_int HE.out.symm, hbw⟩
theorem idxFrom_spec {α : Type} (p : α → Bool) (l : List α) (m : Nat) : (idxFrom p l m = -1 ∧ ∀ e ∈ l, p e = false) ∨ ∃ (k : Nat) (e : α), idxFrom p l m = (m : Int) + (k : Int) ∧ l[k]? = some e ∧ p e = true ∧ ∀ j e', j < k → l[j]? = some e' → p e' = false := by
  induction l generalizing m with
  | nil => exact .inl ⟨rfl, fun e h => by simp at h⟩
  | cons a l ih =>
    unfold idxFrom
    cases ha : p a with
    | true => exact .inr ⟨0, a, by simp, rfl, ha, fun j e' hj => by omega⟩
    | false =>
      simp only [Bool.false_eq_true, if_false]
      rcases ih (m + 1) with ⟨h1, h2⟩ | ⟨k, e, h1, h2, h3, h4⟩
      · refine .inl ⟨h1, fun e he => ?_⟩
        rcases List.mem_cons.1 he with rfl | he
        · exact ha
        · exact h2 e he
      · refine .inr ⟨k + 1, e, by rw [h1]; push_cast; omega, by simpa using h2, h3, fun j e' hj hje => ?_⟩
        cases j with
        | zero => simp at hje; subst hje; exact ha
        | succ j => exact h4 j e' (by omega) (by simpa using hje)
def findF (l : List EntV) (id : Int) : Int := idxFrom (fun e => e.id == id) l 0
theorem findF_spec (l : List EntV) (id : Int) : (findF l id = -1 ∧ ∀ e ∈ l, e.id ≠ id) ∨ ∃ (k : Nat) (e : EntV), findF l id = (k : Int) ∧ l[k]? = some e ∧ e.id = id := by
  rcases idxFrom_spec (fun e : EntV => e.id == id) l 0 with ⟨h1, h2⟩ | ⟨k, e, h1, h2, h3, h4⟩
  · exact .inl ⟨h1, fun e he hh => by have := h2 e he; simp [hh] at this⟩
  · exact .inr ⟨k, e, by unfold findF; rw [h1]; omega, h2, by simpa using h3⟩
theorem wFind (l : List EntV) (id : Int) (w : World) (A : Option Addr) (n c : Nat) (h : Reads w w.heap.size 8 A n (entsV l)) (hn : n ≤ 100000) :
    Calls Tryz.prog 83 #[.slice A n c, .int .i64 id] w fun e w' => e = .returned (.int .i64 (findF l id)) ∧ Below w.heap.size w w' := by
  have hI := idxFind l id w.heap.size (w.alloc (.cells #[.int .i64 id] 3)) A n c ((h.alloc (Nat.le_refl _) _).upto (by simp)) (by omega) (by have := Blk.new w 3 #[.int .i64 id]; exact this.cell 0)
  clear h
  go_enter Tryz.func83, Tryz.ntmps83
  go_wp2_with (go_at_call 148; refine hI.mono ?_; rintro r w1 ⟨rfl, hb1⟩)
  go_ret
  exact ⟨rfl, Below.trans (by repeat (first | with_reducible exact Below.refl _ _ | with_reducible assumption | with_reducible refine Below.drew ?_ | with_reducible refine below_drews ?_ _ | with_reducible refine Below.alloc ?_ (by first | omega | (simp; done) | (simp; omega)) _ | with_reducible refine Below.setCell ?_ (by first | omega | (simp; done) | (simp; omega)) _)) (hb1.mono (by simp))⟩
end Go.Proofs.YtojbijapdkohlaaGreatDoor
