/- Layer 21: a new server, told whole; none where the map or the number of balls won't do. -/
import Derived.Test.YtojbijapdkohlaaGreatDoorQ40SrvBkt
set_option linter.unusedSimpArgs false
set_option linter.unusedVariables false
namespace Go.Proofs.YtojbijapdkohlaaGreatDoor
open Go.RowKit
set_option maxRecDepth 100000 in
set_option maxHeartbeats 4000000 in
theorem srvNewNo (m : MapV) (s : MapS) (seed balls : Int) (w : World) (h : MapAt w w.heap.size m s) (hno : newOk m balls = false) :
    Calls Tryz.prog 44 #[(.agg #[.int .i64 m.W, .int .i64 m.H, .slice s.A s.n s.c, .slice s.A2 s.n2 s.c2]), .int .u64 seed, .int .i64 balls] w fun e w' => e = .returned (.tuple #[.pointer none, .int .i64 1]) ∧ Below w.heap.size w w' := by
  have HW := Lib.hid (fun W (hW : Below w.heap.size w W) => wNewNo m s seed balls W ((h.below hW).upto hW.size) hno)
  clear h hno
  go_enter Tryz.func44, Tryz.ntmps44
  go_wp2_with fail
  refine (HW.out _ (by repeat (first | with_reducible exact Below.refl _ _ | with_reducible assumption | with_reducible refine Below.drew ?_ | with_reducible refine below_drews ?_ _ | with_reducible refine Below.alloc ?_ (by first | omega | (simp; done) | (simp; omega)) _ | with_reducible refine Below.setCell ?_ (by first | omega | (simp; done) | (simp; omega)) _))).mono ?_
  rintro e w1 ⟨⟨v, S, rfl⟩, hb1⟩
  have HB := Lib.hid ((Below.alloc (Below.refl _ _) (Nat.le_refl _) _).trans (hb1.mono (by simp)) : Below w.heap.size w w1)
  have hs1 := HB.out.size
  clear hb1
  go_wp2
  go_ret2
  have hB := HB.out
  exact ⟨rfl, (by repeat (first | with_reducible exact Below.refl _ _ | with_reducible assumption | with_reducible refine Below.drew ?_ | with_reducible refine below_drews ?_ _ | with_reducible refine Below.alloc ?_ (by first | omega | (simp; done) | (simp; omega)) _ | with_reducible refine Below.setCell ?_ (by first | omega | (simp; done) | (simp; omega)) _))⟩
/-- What New makes. -/
def NewG (V : WorldV) (seed : Int) (w : World) (e : Ending) (w' : World) : Prop :=
  ∃ (b : Nat) (x : SrvX), e = .returned (.tuple #[.pointer (some ⟨b, 0, none⟩), .int .i64 0]) ∧ SrvAt w' b seed V x ∧ x.hs = [(0, V.l)] ∧ (∀ i, x.ps i = none) ∧ w.heap.size ≤ b ∧ Below w.heap.size w w'
set_option maxRecDepth 100000 in
set_option maxHeartbeats 8000000 in
theorem srvNewG (m : MapV) (s : MapS) (seed : Int) (balls : Nat) (V : WorldV) (hV : newF m seed balls = V) (w : World) (h : MapAt w w.heap.size m s) (hf : formedB m = true) (hb : balls ≤ 8) (hn1 : s.n ≤ 100000) (hn2 : s.n2 ≤ 100000) (hn3 : V.l.length ≤ 100) :
    Calls Tryz.prog 44 #[(.agg #[.int .i64 m.W, .int .i64 m.H, .slice s.A s.n s.c, .slice s.A2 s.n2 s.c2]), .int .u64 seed, .int .i64 balls] w (NewG V seed w) := by
  have HW := Lib.hid (fun W (hW : Below w.heap.size w W) => wNewYes m s seed balls W ((h.below hW).upto hW.size) hf hb hn1 hn2)
  rw [hV] at HW
  clear h hf hV
  go_enter Tryz.func44, Tryz.ntmps44
  go_wp2_with fail
  refine (HW.out _ (by repeat (first | with_reducible exact Below.refl _ _ | with_reducible assumption | with_reducible refine Below.drew ?_ | with_reducible refine below_drews ?_ _ | with_reducible refine Below.alloc ?_ (by first | omega | (simp; done) | (simp; omega)) _ | with_reducible refine Below.setCell ?_ (by first | omega | (simp; done) | (simp; omega)) _))).mono ?_
  rintro e w1 ⟨S, rfl, hat, hb1⟩
  have HB := Lib.hid ((Below.alloc (Below.refl _ _) (Nat.le_refl _) _).trans (hb1.mono (by simp)) : Below w.heap.size w w1)
  have HAT := Lib.hid hat
  have hs1 := HB.out.size
  clear hb1 hat
  go_upto_region 5 with (fail)
  obtain ⟨B2, b1, b2⟩ := twoBoxesS w1 #[.int .i64 V.map.W, .int .i64 V.map.H, .slice S.ms.A S.ms.n S.ms.c, .slice S.ms.A2 S.ms.n2 S.ms.c2, .int .u64 V.st, .int .i64 V.tick, .slice S.A S.n S.c] #[.int .u64 seed, .int .i64 V.map.W, .int .i64 V.map.H, .slice S.ms.A S.ms.n S.ms.c, .slice S.ms.A2 S.ms.n2 S.ms.c2, .int .u64 V.st, .int .i64 V.tick, .slice S.A S.n S.c, .slice none 0 0, .map none, .pointer none, .pointer none, .pointer none, .pointer none, .pointer none, .pointer none, .pointer none, .pointer none, .pointer none] 46 165
  generalize ((w1.alloc (.cells #[.int .i64 V.map.W, .int .i64 V.map.H, .slice S.ms.A S.ms.n S.ms.c, .slice S.ms.A2 S.ms.n2 S.ms.c2, .int .u64 V.st, .int .i64 V.tick, .slice S.A S.n S.c] 46)).alloc (.cells #[.int .u64 seed, .int .i64 V.map.W, .int .i64 V.map.H, .slice S.ms.A S.ms.n S.ms.c, .slice S.ms.A2 S.ms.n2 S.ms.c2, .int .u64 V.st, .int .i64 V.tick, .slice S.A S.n S.c, .slice none 0 0, .map none, .pointer none, .pointer none, .pointer none, .pointer none, .pointer none, .pointer none, .pointer none, .pointer none, .pointer none] 165)) = w2 at B2 b1 b2 ⊢
  have hl2 := b2.lt
  have z6 : w2.cell? ⟨w1.heap.size, 6, none⟩ = some (.slice S.A S.n S.c) := b1.cell 6
  have HB2 := Lib.hid B2
  have HS2 := Lib.hid b2
  have hlen := HAT.out.len
  have hA : 0 < S.n → ∀ q, blkOf S.A = some q → q < w1.heap.size := fun h0 q hq => by
    obtain ⟨g, off, hA, hg, -⟩ := HAT.out.l.flat h0 (by decide)
    rw [hA] at hq
    have : g = q := by simpa [blkOf] using hq
    omega
  have HL2 := Lib.hid ((HAT.out.l.below B2).upto B2.size)
  have HA := Lib.hid (show 0 < S.n → ∀ q, blkOf S.A = some q → q ≠ w1.heap.size + 1 ∧ blkOf none ≠ some q ∧ (none : Option Nat) ≠ some q from fun h0 q hq => ⟨by have := hA h0 q hq; omega, by simp [blkOf], by simp⟩)
  clear B2 b1 b2 hA
  go_cut [] (fun wx => ∃ (A3 : Option Addr) (n3 c3 mb : Nat) (ml : List (Int × Value)), Blk wx (w1.heap.size + 1) 165 #[.int .u64 seed, .int .i64 V.map.W, .int .i64 V.map.H, .slice S.ms.A S.ms.n S.ms.c, .slice S.ms.A2 S.ms.n2 S.ms.c2, .int .u64 V.st, .int .i64 V.tick, .slice S.A S.n S.c, .slice A3 n3 c3, .map (some mb), .pointer none, .pointer none, .pointer none, .pointer none, .pointer none, .pointer none, .pointer none, .pointer none, .pointer none] ∧ Chg (fun q => q = w1.heap.size + 1) w2 wx ∧ Row wx 3 1 A3 n3 c3 (intsV [0]) ∧ IMap wx mb ml ∧ PastAt wx ml [(0, V.l)] ∧ (∀ q, blkOf A3 = some q → w2.heap.size ≤ q) ∧ w2.heap.size ≤ mb)
  case first =>
    go_region_held3 (fun w' => w'.cell? ⟨w1.heap.size, 6, none⟩ = some (.slice S.A S.n S.c)) (with_reducible (first | exact z6 | exact z7 | go_keep)) (first | (go_at_call 90; refine (ringPutX (w1.heap.size + 1) 8 165 _ 0 none 0 0 none [] [] V.l S.A S.n S.c _ (by first | exact HS2.out | exact HS2.out.drew) (by decide) rfl rfl Row.nil_ (fun mb h => by cases h) (fun _ => rfl) (PastAt.nil _) (by first | exact HL2.out | exact HL2.out.drew) HA.out (by omega) (by decide) (by decide) (by decide) (by decide)).mono ?_; rintro e w3 ⟨rfl, A3, n3, c3, mb, ml, hb3, hr3, hm3, hp3, hA3, hmb, hch⟩; simp only [List.setIfInBounds_toArray, List.set_cons_succ, List.set_cons_zero] at hb3; have hch : Chg (fun q => q = w1.heap.size + 1) w2 w3 := (⟨hch.os, hch.tape, hch.output, hch.size, fun q hq hn => hch.block q hq (fun h => by rcases h with h | h | h; exact hn h; cases h; cases h)⟩); have z7 : w3.cell? ⟨w1.heap.size, 6, none⟩ = some (.slice S.A S.n S.c) := (hch.cellF (p := ⟨w1.heap.size, 6, none⟩) (by show w1.heap.size < _; first | omega | (simp; omega)) (by show ¬ (w1.heap.size = w1.heap.size + 1); omega)).trans z6; have HX3 := Lib.hid (show _ ∧ _ ∧ _ ∧ _ ∧ _ ∧ _ ∧ _ from ⟨hb3, hch, hr3, hm3, hp3, hA3, hmb⟩); clear hb3 hr3 hm3 hp3 hA3 hmb hch))
    all_goals go_wp2_with fail
    all_goals go_meet
    all_goals
      obtain ⟨y1, y2, y3, y4, y5, y6, y7⟩ := HX3.out
      exact ⟨A3, n3, c3, mb, ml, y1, ⟨y2.os, y2.tape, y2.output, y2.size, y2.block⟩, y3, y4, y5, (fun q hq => (y6 q hq).elim (fun h => by cases h) id), y7.elim (fun h => by cases h) id⟩
  case rest =>
    obtain ⟨A3, n3, c3, mb, ml, hb3, hch, hr3, hm3, hp3, hA3, hmb⟩ := hcut
    have X := Lib.hid (show _ ∧ _ from ⟨hb3, hch⟩)
    have Y := Lib.hid (show _ ∧ _ ∧ _ ∧ _ ∧ _ from ⟨hr3, hm3, hp3, hA3, hmb⟩)
    clear hb3 hch z6 hr3 hm3 hp3 hA3 hmb
    go_wp2
    go_ret2
    have h2 : Below w1.heap.size w2 wc := X.out.2.to_below (by have := HB2.out.size; omega) (fun k hk => by omega)
    have h3 : WorldAt wc (w1.heap.size + 1) V S := (((HAT.out.below HB2.out)).below h2).upto (by omega)
    refine ⟨w1.heap.size + 1, ⟨S, A3, n3, c3, mb, [(0, V.l)], ml, fun _ => none⟩, rfl, ⟨X.out.1, Clear.new h3, Y.out.1, Y.out.2.1, Y.out.2.2.1, ⟨fun i P s h => (nomatch h), rfl, fun _ _ => rfl, fun i j P s P' s' _ h => (nomatch h)⟩, fun q hq => Nat.lt_of_lt_of_le hl2 (Y.out.2.2.2.1 q hq), Nat.lt_of_lt_of_le hl2 Y.out.2.2.2.2, fun i P s h => (nomatch h)⟩, rfl, fun _ => rfl, by omega, ?_⟩
    exact HB.out.trans ((HB2.out.mono hs1).trans (h2.mono hs1))
end Go.Proofs.YtojbijapdkohlaaGreatDoor
