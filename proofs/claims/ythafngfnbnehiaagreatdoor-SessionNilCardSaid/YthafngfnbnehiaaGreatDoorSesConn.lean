/- Layer 23: slot 2 of a session is connected. (Printed by gen_sesconn.py.) -/
import Derived.Test.YthafngfnbnehiaaGreatDoorSesNew
import Derived.Test.YthafngfnbnehiaaGreatDoorSrvJoin
set_option linter.unusedSimpArgs false
set_option linter.unusedVariables false
namespace Go.Proofs.YthafngfnbnehiaaGreatDoor
open Go.RowKit
def SesConn (m : MapV) (s' : MapS) (seed : Int) (rA : Option Addr) (rn rc : Nat) (rm : Option Nat) (b sb : Nat) (w : World) (e : Ending) (w' : World) : Prop :=
  e = .returned (.int .i64 0) ∧ ∃ (V' : WorldV) (S' : WorldS) (pb cb : Nat), Blk w' b 112 #[.int .u64 seed, .int .i64 V'.map.W, .int .i64 V'.map.H, .slice S'.ms.A S'.ms.n S'.ms.c, .slice S'.ms.A2 S'.ms.n2 S'.ms.c2, .int .u64 V'.st, .int .i64 V'.tick, .slice S'.A S'.n S'.c, .slice rA rn rc, .map rm, .pointer none, .pointer none, .pointer (some ⟨pb, 0, none⟩), .pointer none, .pointer none, .pointer none, .pointer none, .pointer none, .pointer none] ∧ Blk w' sb 85 #[.int .i64 m.W, .int .i64 m.H, .slice s'.A s'.n s'.c, .slice s'.A2 s'.n2 s'.c2, .int .u64 seed, .pointer (some ⟨b, 0, none⟩), .pointer none, .slice none 0 0, .slice none 0 0, .pointer none, .slice none 0 0, .slice none 0 0, .pointer (some ⟨cb, 0, none⟩), .slice none 0 0, .slice none 0 0, .pointer none, .slice none 0 0, .slice none 0 0, .pointer none, .slice none 0 0, .slice none 0 0, .pointer none, .slice none 0 0, .slice none 0 0, .pointer none, .slice none 0 0, .slice none 0 0, .pointer none, .slice none 0 0, .slice none 0 0, .pointer none, .slice none 0 0, .slice none 0 0, .slice none 0 0] ∧ Chg (fun q => q = b ∨ q = sb) w w'
set_option maxRecDepth 100000 in
set_option maxHeartbeats 8000000 in
theorem sesConnect2 (m : MapV) (s' : MapS) (seed : Int) (V : WorldV) (S : WorldS) (rA : Option Addr) (rn rc : Nat) (rm : Option Nat) (b sb : Nat) (w : World) (hb : Blk w b 112 #[.int .u64 seed, .int .i64 V.map.W, .int .i64 V.map.H, .slice S.ms.A S.ms.n S.ms.c, .slice S.ms.A2 S.ms.n2 S.ms.c2, .int .u64 V.st, .int .i64 V.tick, .slice S.A S.n S.c, .slice rA rn rc, .map rm, .pointer none, .pointer none, .pointer none, .pointer none, .pointer none, .pointer none, .pointer none, .pointer none, .pointer none]) (hat : WorldAt w b V S) (hn : S.n ≤ 99) (h3 : findF V.l 2 = -1) (hp1 : 1 ≤ S.ms.n2) (hp2 : S.ms.n2 ≤ 100000) (hs : Blk w sb 85 #[.int .i64 m.W, .int .i64 m.H, .slice s'.A s'.n s'.c, .slice s'.A2 s'.n2 s'.c2, .int .u64 seed, .pointer (some ⟨b, 0, none⟩), .pointer none, .slice none 0 0, .slice none 0 0, .pointer none, .slice none 0 0, .slice none 0 0, .pointer none, .slice none 0 0, .slice none 0 0, .pointer none, .slice none 0 0, .slice none 0 0, .pointer none, .slice none 0 0, .slice none 0 0, .pointer none, .slice none 0 0, .slice none 0 0, .pointer none, .slice none 0 0, .slice none 0 0, .pointer none, .slice none 0 0, .slice none 0 0, .pointer none, .slice none 0 0, .slice none 0 0, .slice none 0 0]) (hm : RowsM w m s') (hok : cliOk m 2 = true) :
    Calls Tryz.prog 31 #[.pointer (some ⟨sb, 0, none⟩), .pointer (some ⟨sb, 12, none⟩), .int .i64 2] w (SesConn m s' seed rA rn rc rm b sb w) := by
  have HC := Lib.hid (srvConnect2 seed V S rA rn rc rm b w hb hat hn h3 hp1 hp2)
  have hne : sb ≠ b := Blk.ne_ hs hb (by decide)
  have lsb := hs.lt
  have z5 : w.cell? ⟨sb, 5, none⟩ = some (.pointer (some ⟨b, 0, none⟩)) := hs.cell 5
  have HS := Lib.hid hs
  have HB := Lib.hid hb
  have HM := Lib.hid hm
  clear hs hb hat hm
  go_enter Tryz.func31, Tryz.ntmps31
  go_wp2_with fail
  refine HC.out.mono ?_
  rintro e w1 ⟨rfl, V', S', pb, hlen, hb1, hl, hch⟩
  have hs1 : Blk w1 sb 85 #[.int .i64 m.W, .int .i64 m.H, .slice s'.A s'.n s'.c, .slice s'.A2 s'.n2 s'.c2, .int .u64 seed, .pointer (some ⟨b, 0, none⟩), .pointer none, .slice none 0 0, .slice none 0 0, .pointer none, .slice none 0 0, .slice none 0 0, .pointer none, .slice none 0 0, .slice none 0 0, .pointer none, .slice none 0 0, .slice none 0 0, .pointer none, .slice none 0 0, .slice none 0 0, .pointer none, .slice none 0 0, .slice none 0 0, .pointer none, .slice none 0 0, .slice none 0 0, .pointer none, .slice none 0 0, .slice none 0 0, .pointer none, .slice none 0 0, .slice none 0 0, .slice none 0 0] := (hch.block sb lsb hne).trans HS.out
  have lsb1 := hs1.lt
  have lb1 := hb1.lt
  have HN := Lib.hid (fun W (hW : Below w1.heap.size w1 W) => cliNewYes m s' seed 2 W (((HM.out.chg hch HB.out (by decide) (by decide)).below hW (Nat.le_refl _)).at_) hok HM.out.n HM.out.n2)
  have y0 : w1.cell? ⟨sb, 0, none⟩ = some (.int .i64 m.W) := hs1.cell 0
  have y1 : w1.cell? ⟨sb, 1, none⟩ = some (.int .i64 m.H) := hs1.cell 1
  have y2 : w1.cell? ⟨sb, 2, none⟩ = some (.slice s'.A s'.n s'.c) := hs1.cell 2
  have y3 : w1.cell? ⟨sb, 3, none⟩ = some (.slice s'.A2 s'.n2 s'.c2) := hs1.cell 3
  have y4 : w1.cell? ⟨sb, 4, none⟩ = some (.int .u64 seed) := hs1.cell 4
  have HS1 := Lib.hid hs1
  have HB1 := Lib.hid hb1
  have HCH := Lib.hid hch
  clear hs1 hb1 hch hl hlen z5 HC HM HB HS hok
  go_upto_region 4 with (fail)
  go_region_held3 (fun w' => w'.cell? ⟨sb, 0, none⟩ = some (.int .i64 m.W) ∧ w'.cell? ⟨sb, 1, none⟩ = some (.int .i64 m.H) ∧ w'.cell? ⟨sb, 2, none⟩ = some (.slice s'.A s'.n s'.c) ∧ w'.cell? ⟨sb, 3, none⟩ = some (.slice s'.A2 s'.n2 s'.c2) ∧ w'.cell? ⟨sb, 4, none⟩ = some (.int .u64 seed)) (with_reducible (first | exact ⟨y0, y1, y2, y3, y4⟩ | exact ⟨k0, k1, k2, k3, k4⟩ | go_keep)) (first | (go_at_call 62; refine (HN.out _ (by repeat (first | with_reducible exact Below.refl _ _ | with_reducible assumption | with_reducible refine Below.drew ?_ | with_reducible refine below_drews ?_ _ | with_reducible refine Below.alloc ?_ (by first | omega | (simp; done) | (simp; omega)) _ | with_reducible refine Below.setCell ?_ (by first | omega | (simp; done) | (simp; omega)) _))).mono ?_; rintro r w3 ⟨cb, s3, rfl, hcb, hm3, hge, hb3⟩; have B3 : Below w1.heap.size w1 w3 := Below.trans (by repeat (first | with_reducible exact Below.refl _ _ | with_reducible assumption | with_reducible refine Below.drew ?_ | with_reducible refine below_drews ?_ _ | with_reducible refine Below.alloc ?_ (by first | omega | (simp; done) | (simp; omega)) _ | with_reducible refine Below.setCell ?_ (by first | omega | (simp; done) | (simp; omega)) _)) (hb3.mono (by simp)); have hs3 := HS1.out.below B3 lsb1; have hv3 := HB1.out.below B3 lb1; have k0 : w3.cell? ⟨sb, 0, none⟩ = some (.int .i64 m.W) := hs3.cell 0; have k1 : w3.cell? ⟨sb, 1, none⟩ = some (.int .i64 m.H) := hs3.cell 1; have k2 : w3.cell? ⟨sb, 2, none⟩ = some (.slice s'.A s'.n s'.c) := hs3.cell 2; have k3 : w3.cell? ⟨sb, 3, none⟩ = some (.slice s'.A2 s'.n2 s'.c2) := hs3.cell 3; have k4 : w3.cell? ⟨sb, 4, none⟩ = some (.int .u64 seed) := hs3.cell 4; have HS3 := Lib.hid hs3; have HV3 := Lib.hid hv3; have HCH3 := Lib.hid (HCH.out.below B3 HCH.out.size); have x12 : w3.cell? ⟨sb, 12, none⟩ = some (.pointer none) := hs3.cell 12; have x13 : w3.cell? ⟨sb, 13, none⟩ = some (.slice none 0 0) := hs3.cell 13; have x14 : w3.cell? ⟨sb, 14, none⟩ = some (.slice none 0 0) := hs3.cell 14; have fz : ∀ j, w3.frozen? ⟨sb, j, none⟩ = false := hs3.frozen; clear hs3 hv3 B3 hb3 hcb hm3 hge))
  all_goals go_wp2
  all_goals go_ret
  all_goals
    have e1 : Blk (((w3.setCell ⟨sb, 12, none⟩ (.pointer (some ⟨cb, 0, none⟩))).setCell ⟨sb, 13, none⟩ (.slice none 0 0)).setCell ⟨sb, 14, none⟩ (.slice none 0 0)) sb 85 #[.int .i64 m.W, .int .i64 m.H, .slice s'.A s'.n s'.c, .slice s'.A2 s'.n2 s'.c2, .int .u64 seed, .pointer (some ⟨b, 0, none⟩), .pointer none, .slice none 0 0, .slice none 0 0, .pointer none, .slice none 0 0, .slice none 0 0, .pointer (some ⟨cb, 0, none⟩), .slice none 0 0, .slice none 0 0, .pointer none, .slice none 0 0, .slice none 0 0, .pointer none, .slice none 0 0, .slice none 0 0, .pointer none, .slice none 0 0, .slice none 0 0, .pointer none, .slice none 0 0, .slice none 0 0, .pointer none, .slice none 0 0, .slice none 0 0, .pointer none, .slice none 0 0, .slice none 0 0, .slice none 0 0] := by
      have := ((HS3.out.set_ 12 (.pointer (some ⟨cb, 0, none⟩))).set_ 13 (.slice none 0 0)).set_ 14 (.slice none 0 0)
      simpa using this
    have e2 : Blk (((w3.setCell ⟨sb, 12, none⟩ (.pointer (some ⟨cb, 0, none⟩))).setCell ⟨sb, 13, none⟩ (.slice none 0 0)).setCell ⟨sb, 14, none⟩ (.slice none 0 0)) b 112 #[.int .u64 seed, .int .i64 V'.map.W, .int .i64 V'.map.H, .slice S'.ms.A S'.ms.n S'.ms.c, .slice S'.ms.A2 S'.ms.n2 S'.ms.c2, .int .u64 V'.st, .int .i64 V'.tick, .slice S'.A S'.n S'.c, .slice rA rn rc, .map rm, .pointer none, .pointer none, .pointer (some ⟨pb, 0, none⟩), .pointer none, .pointer none, .pointer none, .pointer none, .pointer none, .pointer none] := ((HV3.out.far (Ne.symm hne) _).far (Ne.symm hne) _).far (Ne.symm hne) _
    have e3 : Chg (fun q => q = b ∨ q = sb) w (((w3.setCell ⟨sb, 12, none⟩ (.pointer (some ⟨cb, 0, none⟩))).setCell ⟨sb, 13, none⟩ (.slice none 0 0)).setCell ⟨sb, 14, none⟩ (.slice none 0 0)) :=
      (((HCH3.out.mono (fun k hk => .inl hk)).setCell (p := ⟨sb, 12, none⟩) (.inl (.inr rfl)) _).setCell (p := ⟨sb, 13, none⟩) (.inl (.inr rfl)) _).setCell (p := ⟨sb, 14, none⟩) (.inl (.inr rfl)) _
    exact ⟨rfl, V', S', pb, cb, e2, e1, e3⟩
set_option maxRecDepth 100000 in
set_option maxHeartbeats 8000000 in
theorem sesDo1 (m : MapV) (s' : MapS) (seed : Int) (V : WorldV) (S : WorldS) (rA : Option Addr) (rn rc : Nat) (rm : Option Nat) (b sb : Nat) (w : World) (hb : Blk w b 112 #[.int .u64 seed, .int .i64 V.map.W, .int .i64 V.map.H, .slice S.ms.A S.ms.n S.ms.c, .slice S.ms.A2 S.ms.n2 S.ms.c2, .int .u64 V.st, .int .i64 V.tick, .slice S.A S.n S.c, .slice rA rn rc, .map rm, .pointer none, .pointer none, .pointer none, .pointer none, .pointer none, .pointer none, .pointer none, .pointer none, .pointer none]) (hat : WorldAt w b V S) (hn : S.n ≤ 99) (h3 : findF V.l 2 = -1) (hp1 : 1 ≤ S.ms.n2) (hp2 : S.ms.n2 ≤ 100000) (hs : Blk w sb 85 #[.int .i64 m.W, .int .i64 m.H, .slice s'.A s'.n s'.c, .slice s'.A2 s'.n2 s'.c2, .int .u64 seed, .pointer (some ⟨b, 0, none⟩), .pointer none, .slice none 0 0, .slice none 0 0, .pointer none, .slice none 0 0, .slice none 0 0, .pointer none, .slice none 0 0, .slice none 0 0, .pointer none, .slice none 0 0, .slice none 0 0, .pointer none, .slice none 0 0, .slice none 0 0, .pointer none, .slice none 0 0, .slice none 0 0, .pointer none, .slice none 0 0, .slice none 0 0, .pointer none, .slice none 0 0, .slice none 0 0, .pointer none, .slice none 0 0, .slice none 0 0, .slice none 0 0]) (hm : RowsM w m s') (hok : cliOk m 2 = true) :
    Calls Tryz.prog 11 #[.pointer (some ⟨sb, 0, none⟩), (.agg #[.int .i64 1, .int .i64 2, .int .i64 0, .int .i8 0, .int .i8 0, .bool false, .bool false, .int .u8 0, .int .u8 0])] w (SesConn m s' seed rA rn rc rm b sb w) := by
  have HC := Lib.hid (fun W (hW : Below w.heap.size w W) => sesConnect2 m s' seed V S rA rn rc rm b sb W (hb.below hW hb.lt) (hat.below (hW.mono (Nat.le_of_lt hb.lt))) hn h3 hp1 hp2 (hs.below hW hs.lt) (hm.below hW (Nat.le_refl _)) hok)
  clear hb hat hs hm hok
  go_enter Tryz.func11, Tryz.ntmps11
  go_upto_region 11 with (fail)
  go_region_law (fail)
  all_goals go_wp2_with fail
  refine (HC.out _ (by repeat (first | with_reducible exact Below.refl _ _ | with_reducible assumption | with_reducible refine Below.drew ?_ | with_reducible refine below_drews ?_ _ | with_reducible refine Below.alloc ?_ (by first | omega | (simp; done) | (simp; omega)) _ | with_reducible refine Below.setCell ?_ (by first | omega | (simp; done) | (simp; omega)) _))).mono ?_
  rintro e w1 ⟨rfl, V', S', pb, cb, h1, h2, h3⟩
  have H := Lib.hid (show _ ∧ _ ∧ _ from ⟨h1, h2, h3⟩)
  clear h1 h2 h3
  go_wp2
  go_ret
  exact ⟨rfl, V', S', pb, cb, H.out.1, H.out.2.1, (Chg.below (Chg.refl (F := fun q => q = b ∨ q = sb)) (B := w.heap.size) (by repeat (first | with_reducible exact Below.refl _ _ | with_reducible assumption | with_reducible refine Below.drew ?_ | with_reducible refine below_drews ?_ _ | with_reducible refine Below.alloc ?_ (by first | omega | (simp; done) | (simp; omega)) _ | with_reducible refine Below.setCell ?_ (by first | omega | (simp; done) | (simp; omega)) _)) (Nat.le_refl _)).trans H.out.2.2 (fun g hg => .inl hg)⟩
set_option maxRecDepth 100000 in
theorem sesClient2 (m : MapV) (s' : MapS) (seed : Int) (b sb cb : Nat) (w : World) (hs : Blk w sb 85 #[.int .i64 m.W, .int .i64 m.H, .slice s'.A s'.n s'.c, .slice s'.A2 s'.n2 s'.c2, .int .u64 seed, .pointer (some ⟨b, 0, none⟩), .pointer none, .slice none 0 0, .slice none 0 0, .pointer none, .slice none 0 0, .slice none 0 0, .pointer (some ⟨cb, 0, none⟩), .slice none 0 0, .slice none 0 0, .pointer none, .slice none 0 0, .slice none 0 0, .pointer none, .slice none 0 0, .slice none 0 0, .pointer none, .slice none 0 0, .slice none 0 0, .pointer none, .slice none 0 0, .slice none 0 0, .pointer none, .slice none 0 0, .slice none 0 0, .pointer none, .slice none 0 0, .slice none 0 0, .slice none 0 0]) :
    Calls Tryz.prog 13 #[.pointer (some ⟨sb, 0, none⟩), .int .i64 2] w fun e w' => e = .returned (.pointer (some ⟨cb, 0, none⟩)) ∧ w = w' := by
  have x12 : w.cell? ⟨sb, 12, none⟩ = some (.pointer (some ⟨cb, 0, none⟩)) := hs.cell 12
  clear hs
  go_enter Tryz.func13, Tryz.ntmps13
  go_wp2
  go_ret
  exact ⟨rfl, rfl⟩
set_option maxRecDepth 100000 in
theorem sesServer (m : MapV) (s' : MapS) (seed : Int) (b sb cb : Nat) (w : World) (hs : Blk w sb 85 #[.int .i64 m.W, .int .i64 m.H, .slice s'.A s'.n s'.c, .slice s'.A2 s'.n2 s'.c2, .int .u64 seed, .pointer (some ⟨b, 0, none⟩), .pointer none, .slice none 0 0, .slice none 0 0, .pointer none, .slice none 0 0, .slice none 0 0, .pointer (some ⟨cb, 0, none⟩), .slice none 0 0, .slice none 0 0, .pointer none, .slice none 0 0, .slice none 0 0, .pointer none, .slice none 0 0, .slice none 0 0, .pointer none, .slice none 0 0, .slice none 0 0, .pointer none, .slice none 0 0, .slice none 0 0, .pointer none, .slice none 0 0, .slice none 0 0, .pointer none, .slice none 0 0, .slice none 0 0, .slice none 0 0]) :
    Calls Tryz.prog 12 #[.pointer (some ⟨sb, 0, none⟩)] w fun e w' => e = .returned (.pointer (some ⟨b, 0, none⟩)) ∧ w = w' := by
  have x5 : w.cell? ⟨sb, 5, none⟩ = some (.pointer (some ⟨b, 0, none⟩)) := hs.cell 5
  clear hs
  go_enter Tryz.func12, Tryz.ntmps12
  go_wp2
  go_ret
  exact ⟨rfl, rfl⟩
end Go.Proofs.YthafngfnbnehiaaGreatDoor
