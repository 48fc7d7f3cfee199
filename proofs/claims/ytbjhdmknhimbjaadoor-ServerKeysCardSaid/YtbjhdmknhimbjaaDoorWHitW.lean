/- The walk of world.Hit. -/
import Derived.Test.YtbjhdmknhimbjaaDoorWFind
set_option linter.unusedSimpArgs false
set_option linter.unusedVariables false
namespace Go.Proofs.YtbjhdmknhimbjaaDoor
open Go.RowKit
def ent0 : EntV := ⟨0, 0, ⟨0, 0⟩, ⟨0, 0⟩, 0, 0⟩
def atPlayer (l : List EntV) (id : Int) (f : EntV → EntV) : List EntV := if playerF l id = -1 then l else l.set (playerF l id).toNat (f (l.getD (playerF l id).toNat ent0))
def hitP (by_ : Int) (e : EntV) : EntV := if e.health = 0 ∨ by_ < 1 then e else hitE e by_
theorem set_same {α : Type} {l : List α} {k : Nat} {e : α} (h : l[k]? = some e) : l.set k e = l := by
  apply List.ext_getElem?
  intro i
  rw [List.getElem?_set]
  split
  · next hi => subst hi; rw [h]; simp [(List.getElem?_eq_some_iff.1 h).1]
  · rfl
theorem atPlayer_spec (l : List EntV) (id : Int) (f : EntV → EntV) : (playerF l id = -1 ∧ atPlayer l id f = l) ∨ ∃ (k : Nat) (e : EntV), playerF l id = (k : Int) ∧ l[k]? = some e ∧ e.id = id ∧ e.kind = 1 ∧ atPlayer l id f = l.set k (f e) := by
  rcases playerF_spec l id with h | ⟨k, e, h1, h2, h3, h4⟩
  · exact .inl ⟨h, by unfold atPlayer; rw [if_pos h]⟩
  · refine .inr ⟨k, e, h1, h2, h3, h4, ?_⟩
    unfold atPlayer
    rw [if_neg (by omega), h1, Int.toNat_natCast, List.getD_eq_getElem?_getD, h2, Option.getD_some]
/-- The row of entities is the old one, or a new one. -/
def Held (w w' : World) (s s' : WorldS) (l' : List EntV) : Prop := (s'.A = s.A ∧ s'.n = s.n) ∨ (Row w' 76 8 s'.A s'.n s'.c (entsV l') ∧ ∀ q, blkOf s'.A = some q → w.heap.size ≤ q)
/-- What a world's function hands back. -/
def Gives (w w' : World) (v : WorldV) (s : WorldS) (r : Ending) (v' : WorldV) : Prop :=
  ∃ s' : WorldS, r = .returned (.agg #[.int .i64 v'.map.W, .int .i64 v'.map.H, .slice s'.ms.A s'.ms.n s'.ms.c, .slice s'.ms.A2 s'.ms.n2 s'.ms.c2, .int .u64 v'.st, .int .i64 v'.tick, .slice s'.A s'.n s'.c]) ∧ WorldAt w' w'.heap.size v' s' ∧ s'.ms = s.ms ∧ Held w w' s s' v'.l ∧ Below w.heap.size w w'
theorem Row.worldAt {w w0 : World} {B : Nat} {v : WorldV} {s : WorldS} (h : WorldAt w0 B v s) (hb : Below B w0 w) (hB : B ≤ w.heap.size) {A : Option Addr} {n c : Nat} {l : List EntV} (hr : Row w 76 8 A n c (entsV l)) (st tick : Int) :
    WorldAt w w.heap.size ⟨v.map, st, tick, l⟩ ⟨s.ms, A, n, c⟩ := ⟨(h.map.below hb).upto hB, hr.reads (by decide), hr.2.1⟩
end Go.Proofs.YtbjhdmknhimbjaaDoor
