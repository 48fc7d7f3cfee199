/- The walk of the law MoveStays. -/
import Derived.Test.YthkgeeonhppliaaMoveFree
import Derived.StillTailTactics
set_option linter.unusedSimpArgs false
set_option linter.unusedVariables false
namespace Go.Proofs.Ythkgeeonhppliaa
open Go.RowKit
def mapS : MapV := ⟨3, 3, [true, true, true, true, false, true, true, true, true], [⟨98304, 98304⟩]⟩
theorem readS : readF [.wall, .wall, .wall, .nl, .wall, .spawn, .wall, .nl, .wall, .wall, .wall, .nl] = some mapS := by rfl
theorem bytesS : (⟨(sgBytes [.wall, .wall, .wall, .nl, .wall, .spawn, .wall, .nl, .wall, .wall, .wall, .nl]).toArray⟩ : ByteArray) = ⟨#[226, 150, 136, 226, 150, 136, 226, 150, 136, 10, 226, 150, 136, 226, 151, 142, 226, 150, 136, 10, 226, 150, 136, 226, 150, 136, 226, 150, 136, 10]⟩ := by rfl
theorem standsS0 : standsB mapS ⟨98304, 98304⟩ = true := by decide +kernel
theorem standsS (p : VecV) (h : standsB mapS p = true) : 90112 ≤ p.x ∧ p.x ≤ 106496 ∧ 90112 ≤ p.y ∧ p.y ≤ 106496 := by
  obtain ⟨-, h1, h2, h3, h4, h5⟩ := (standsB_iff mapS p).1 h
  have h2 : p.x + 24576 ≤ 3 * 65536 := h2
  have h4 : p.y + 24576 ≤ 3 * 65536 := h4
  have hw : ∀ y, y < 3 → ∀ x, x < 3 → wallAt mapS x y = true → ¬ ((x : Int) * 65536 < p.x + 24576 ∧ p.x - 24576 < (x + 1) * 65536 ∧ (y : Int) * 65536 < p.y + 24576 ∧ p.y - 24576 < (y + 1) * 65536) := h5
  have a0 := hw 0 (by decide) 0 (by decide) (by rfl)
  have a1 := hw 0 (by decide) 1 (by decide) (by rfl)
  have a2 := hw 0 (by decide) 2 (by decide) (by rfl)
  have a3 := hw 1 (by decide) 0 (by decide) (by rfl)
  have a5 := hw 1 (by decide) 2 (by decide) (by rfl)
  have a6 := hw 2 (by decide) 0 (by decide) (by rfl)
  have a7 := hw 2 (by decide) 1 (by decide) (by rfl)
  have a8 := hw 2 (by decide) 2 (by decide) (by rfl)
  clear hw h5
  simp only [Int.natCast_zero, Int.natCast_one, Int.ofNat_zero, Int.ofNat_one] at a0 a1 a2 a3 a5 a6 a7 a8
  omega
theorem spawnS {w1 : World} {s : MapS} (h : MapAt w1 w1.heap.size mapS s) : ∃ (g2 off2 : Nat) (A : Option Addr) (n c c2 : Nat), s = ⟨A, n, c, some ⟨g2, off2, none⟩, 1, c2⟩ ∧ g2 < w1.heap.size ∧ w1.cell? ⟨g2, off2, none⟩ = some (.int .i64 98304) ∧ w1.cell? ⟨g2, off2 + 1, none⟩ = some (.int .i64 98304) := by
  have hl := h.len.2
  obtain ⟨A, n, c, A2, n2, c2⟩ := s
  have hsp : Reads w1 w1.heap.size 2 A2 n2 (vecsV mapS.spawns) := h.spawns
  have hl : (1 : Nat) = n2 := hl
  obtain ⟨g2, off2, rfl, hg, hc⟩ := hsp.flat (by omega) (by decide)
  exact ⟨g2, off2, A, n, c, c2, by subst hl; rfl, hg, hc 0 _ rfl, hc 1 _ rfl⟩
theorem walk_dead (m : MapV) (e : EntV) (mx my : Int) (h : e.health = 0) : walkF m e mx my = e := by
  unfold walkF
  rw [if_pos (.inr (.inr (.inl h)))]
set_option maxRecDepth 100000 in
set_option maxHeartbeats 4000000 in
theorem lawMoveStaysNo (A : Option Addr) (n c : Nat) (a : Nat) (w : World) (hn : 50 < n) :
    Calls Try.prog 4 #[.slice A n c, .int .u8 a] w fun r w' => r = .returned (.bool true) ∧ Below w.heap.size w w' := by
  have hR := fun W => tRead _ _ readS (by decide) W
  rw [bytesS] at hR
  simp only [mapS] at hR
  have hd : decide ((50 : Int) < (n : Int)) = true := decide_eq_true (by omega)
  clear hn
  go_enter Try.func4, Try.ntmps4
  go_wp2_with fail
  refine (hR _).mono ?_
  rintro e w1 ⟨s, rfl, hmat, hb1⟩
  have HMT := Lib.hid hmat
  clear hmat
  have hs1 := hb1.size
  go_wp2_with fail
  refine (awake12 _).mono ?_
  rintro r wa ⟨rfl, hba⟩
  have Ba : Below w.heap.size w wa := (Below.alloc hb1 hs1 _).trans (hba.mono (by first | omega | (simp; done) | (simp; omega)))
  go_wp2_with fail
  refine (awake12 _).mono ?_
  rintro r wb ⟨rfl, hbb⟩
  have Bb : Below w.heap.size w wb := Ba.trans (hbb.mono Ba.size)
  go_wp2
  go_ret
  exact ⟨rfl, by assumption⟩
set_option maxRecDepth 100000 in
set_option maxHeartbeats 16000000 in
theorem lawMoveStaysYes (l : List (Int × Int)) (A : Option Addr) (n c : Nat) (a : Nat) (w : World) (hl : Reads w w.heap.size 2 A n (stepsV l)) (hb8 : ∀ p ∈ l, (-128 ≤ p.1 ∧ p.1 ≤ 127) ∧ (-128 ≤ p.2 ∧ p.2 ≤ 127)) (hn : n ≤ 50) (ha : a < 256) :
    Calls Try.prog 4 #[.slice A n c, .int .u8 a] w fun r w' => r = .returned (.bool true) ∧ Below w.heap.size w w' := by
  have hR := fun W => tRead _ _ readS (by decide) W
  rw [bytesS] at hR
  have HD0 : mapS = ⟨3, 3, [true, true, true, true, false, true, true, true, true], [⟨98304, 98304⟩]⟩ := rfl
  have hd : decide ((50 : Int) < (n : Int)) = false := decide_eq_false (by omega)
  have hll : l.length = n := by have := hl.1; rw [stepsV_length] at this; omega
  have HLL := Lib.hid hll
  have HL := Lib.hid hl
  have HB8 := Lib.hid hb8
  have HMS := Lib.hid HD0
  simp only [HD0] at hR
  clear hll hl hb8 HD0
  go_enter Try.func4, Try.ntmps4
  go_wp2_with fail
  refine (hR _).mono ?_
  rintro e w1 ⟨s, rfl, hmat, hb1⟩
  rw [← HMS.out] at hmat
  obtain ⟨g2, off2, A1, n1, c1, c2, rfl, hg2, cx, cy⟩ := spawnS hmat
  have HMT := Lib.hid hmat
  clear hmat hR
  have hs1 := hb1.size
  go_wp2_with fail
  refine (awake12 _).mono ?_
  rintro r wa ⟨rfl, hba⟩
  have Ba : Below w1.heap.size w1 wa := (Below.alloc (Below.refl _ _) (Nat.le_refl _) _).trans (hba.mono (by simp))
  obtain ⟨hca, hfa⟩ := bcell hba
  have zma : Blk wa w1.heap.size 25 #[.int .i64 3, .int .i64 3, .slice A1 n1 c1, .slice (some ⟨g2, off2, none⟩) 1 c2] := Blk.below (Blk.new _ _ _) hba (by simp)
  have hsa := hba.size
  simp at hsa
  have l1 : w1.heap.size < wa.heap.size := by omega
  have l2 : g2 < w1.heap.size + 1 := by omega
  have l3 : g2 < wa.heap.size := by omega
  have HBA := Lib.hid Ba
  have HZA := Lib.hid zma
  clear hba Ba zma
  go_wp2_with fail
  have zm0 : Blk ((wa.alloc (.cells #[.int .i64 2, .int .i64 1, .int .i64 98304, .int .i64 98304, .int .i64 0, .int .i64 0, .int .i64 9, .int .i64 0] 30)).alloc (.cells #[.int .i64 2, .int .i64 1, .int .i64 98304, .int .i64 98304, .int .i64 0, .int .i64 0, .int .i64 0, .int .i64 (1 + (a : Int) % 20)] 30)) w1.heap.size 25 #[.int .i64 3, .int .i64 3, .slice A1 n1 c1, .slice (some ⟨g2, off2, none⟩) 1 c2] := (HZA.out.alloc _).alloc _
  have ze0 : Blk ((wa.alloc (.cells #[.int .i64 2, .int .i64 1, .int .i64 98304, .int .i64 98304, .int .i64 0, .int .i64 0, .int .i64 9, .int .i64 0] 30)).alloc (.cells #[.int .i64 2, .int .i64 1, .int .i64 98304, .int .i64 98304, .int .i64 0, .int .i64 0, .int .i64 0, .int .i64 (1 + (a : Int) % 20)] 30)) wa.heap.size 30 #[.int .i64 2, .int .i64 1, .int .i64 98304, .int .i64 98304, .int .i64 0, .int .i64 0, .int .i64 9, .int .i64 0] := (Blk.new _ _ _).alloc _
  have zd0 : Blk ((wa.alloc (.cells #[.int .i64 2, .int .i64 1, .int .i64 98304, .int .i64 98304, .int .i64 0, .int .i64 0, .int .i64 9, .int .i64 0] 30)).alloc (.cells #[.int .i64 2, .int .i64 1, .int .i64 98304, .int .i64 98304, .int .i64 0, .int .i64 0, .int .i64 0, .int .i64 (1 + (a : Int) % 20)] 30)) (wa.heap.size + 1) 30 #[.int .i64 2, .int .i64 1, .int .i64 98304, .int .i64 98304, .int .i64 0, .int .i64 0, .int .i64 0, .int .i64 (1 + (a : Int) % 20)] := by
    have := Blk.new (wa.alloc (.cells #[.int .i64 2, .int .i64 1, .int .i64 98304, .int .i64 98304, .int .i64 0, .int .i64 0, .int .i64 9, .int .i64 0] 30)) 30 #[.int .i64 2, .int .i64 1, .int .i64 98304, .int .i64 98304, .int .i64 0, .int .i64 0, .int .i64 0, .int .i64 (1 + (a : Int) % 20)]
    simpa using this
  have zb0 : Below w1.heap.size w1 ((wa.alloc (.cells #[.int .i64 2, .int .i64 1, .int .i64 98304, .int .i64 98304, .int .i64 0, .int .i64 0, .int .i64 9, .int .i64 0] 30)).alloc (.cells #[.int .i64 2, .int .i64 1, .int .i64 98304, .int .i64 98304, .int .i64 0, .int .i64 0, .int .i64 0, .int .i64 (1 + (a : Int) % 20)] 30)) := Below.alloc (Below.alloc HBA.out (by omega) _) (by simp; omega) _
  generalize ((wa.alloc (.cells #[.int .i64 2, .int .i64 1, .int .i64 98304, .int .i64 98304, .int .i64 0, .int .i64 0, .int .i64 9, .int .i64 0] 30)).alloc (.cells #[.int .i64 2, .int .i64 1, .int .i64 98304, .int .i64 98304, .int .i64 0, .int .i64 0, .int .i64 0, .int .i64 (1 + (a : Int) % 20)] 30)) = w3 at zm0 ze0 zd0 zb0 ⊢
  obtain ⟨d, hdd⟩ : ∃ d : EntV, d = ⟨2, 1, ⟨98304, 98304⟩, ⟨0, 0⟩, 0, 1 + (a : Int) % 20⟩ := ⟨_, rfl⟩
  have zd1 : Blk w3 (wa.heap.size + 1) 30 #[.int .i64 d.id, .int .i64 d.kind, .int .i64 d.at_.x, .int .i64 d.at_.y, .int .i64 d.vel.x, .int .i64 d.vel.y, .int .i64 d.health, .int .i64 d.wait] := by rw [hdd]; exact zd0
  have hd0 : d.health = 0 := by rw [hdd]
  have HD0 := Lib.hid hd0
  have HZM := Lib.hid zm0
  have HZE := Lib.hid ze0
  have HZD := Lib.hid zd1
  have HZB := Lib.hid zb0
  clear zm0 ze0 zd0 zd1 zb0 hdd hd0 hca hfa
  go_loopw [10] (fun i wr => ∃ (k : Nat) (E : EntV), k ≤ n ∧ i = .int .i64 (k : Nat) ∧ Blk wr w1.heap.size 25 #[.int .i64 3, .int .i64 3, .slice A1 n1 c1, .slice (some ⟨g2, off2, none⟩) 1 c2] ∧ Blk wr wa.heap.size 30 #[.int .i64 E.id, .int .i64 E.kind, .int .i64 E.at_.x, .int .i64 E.at_.y, .int .i64 E.vel.x, .int .i64 E.vel.y, .int .i64 E.health, .int .i64 E.wait] ∧ Blk wr (wa.heap.size + 1) 30 #[.int .i64 d.id, .int .i64 d.kind, .int .i64 d.at_.x, .int .i64 d.at_.y, .int .i64 d.vel.x, .int .i64 d.vel.y, .int .i64 d.health, .int .i64 d.wait] ∧ standsB mapS E.at_ = true ∧ Below w1.heap.size w1 wr) (fun i _ => n - (intOf i).toNat)
  case atStart => exact ⟨0, ⟨2, 1, ⟨98304, 98304⟩, ⟨0, 0⟩, 9, 0⟩, Nat.zero_le _, rfl, HZM.out, HZE.out, HZD.out, standsS0, HZB.out⟩
  case round =>
    obtain ⟨k, E, hk, rfl, hmb, heb, hdb, hE, hbw⟩ := hrel
    have hs := hbw.size
    have hl1 := hmb.lt
    have hl2 := heb.lt
    have hl3 := hdb.lt
    by_cases hlt : k < n
    · obtain ⟨g, off, rfl, hg, hc⟩ := HL.out.flat (by omega) (by omega)
      obtain ⟨p, hp⟩ : ∃ p, l[k]? = some p := ⟨_, List.getElem?_eq_getElem (by rw [HLL.out]; exact hlt)⟩
      obtain ⟨⟨pa, pb⟩, pc, pd⟩ := HB8.out p (List.mem_of_getElem? hp)
      have q0 : w1.cell? ⟨g, off + k * 2, none⟩ = some (.int .i8 p.1) := (hb1.cell (p := ⟨g, off + k * 2, none⟩) hg).trans (hc _ _ (stepsV_at _ _ _ hp).1)
      have q1 : w1.cell? ⟨g, off + k * 2 + 1, none⟩ = some (.int .i8 p.2) := (hb1.cell (p := ⟨g, off + k * 2 + 1, none⟩) hg).trans (hc _ _ (stepsV_at _ _ _ hp).2)
      have hg1 : g < w1.heap.size := by omega
      obtain ⟨f1, -⟩ := walk_free mapS E p.1 p.2 hE pa pb pc pd
      have hW := fun W (hW : Below w1.heap.size w1 W) => mWalk mapS ⟨A1, n1, c1, some ⟨g2, off2, none⟩, 1, c2⟩ E p.1 p.2 W ((HMT.out.below hW).upto hW.size) pa pb pc pd
      have hWD := fun W (hW : Below w1.heap.size w1 W) => mWalk mapS ⟨A1, n1, c1, some ⟨g2, off2, none⟩, 1, c2⟩ d p.1 p.2 W ((HMT.out.below hW).upto hW.size) pa pb pc pd
      obtain ⟨X, hX⟩ : ∃ X, walkF mapS E p.1 p.2 = X := ⟨_, rfl⟩
      simp only [hX] at hW
      simp only [walk_dead mapS d p.1 p.2 HD0.out] at hWD
      simp only [show mapS.W = 3 from rfl, show mapS.H = 3 from rfl] at hW hWD
      rw [hX] at f1
      obtain ⟨t1, t2, t3, t4⟩ := standsS X.at_ f1
      have HW := Lib.hid hW
      have HWD := Lib.hid hWD
      have HF1 := Lib.hid f1
      clear hW hWD hX hp hc f1 hE
      have rm0 : wr.cell? ⟨w1.heap.size, 0, none⟩ = some (.int .i64 3) := hmb.cell 0
      have rm1 : wr.cell? ⟨w1.heap.size, 1, none⟩ = some (.int .i64 3) := hmb.cell 1
      have rm2 : wr.cell? ⟨w1.heap.size, 2, none⟩ = some (.slice A1 n1 c1) := hmb.cell 2
      have rm3 : wr.cell? ⟨w1.heap.size, 3, none⟩ = some (.slice (some ⟨g2, off2, none⟩) 1 c2) := hmb.cell 3
      have re0 : wr.cell? ⟨wa.heap.size, 0, none⟩ = some (.int .i64 E.id) := heb.cell 0
      have re1 : wr.cell? ⟨wa.heap.size, 1, none⟩ = some (.int .i64 E.kind) := heb.cell 1
      have re2 : wr.cell? ⟨wa.heap.size, 2, none⟩ = some (.int .i64 E.at_.x) := heb.cell 2
      have re3 : wr.cell? ⟨wa.heap.size, 3, none⟩ = some (.int .i64 E.at_.y) := heb.cell 3
      have re4 : wr.cell? ⟨wa.heap.size, 4, none⟩ = some (.int .i64 E.vel.x) := heb.cell 4
      have re5 : wr.cell? ⟨wa.heap.size, 5, none⟩ = some (.int .i64 E.vel.y) := heb.cell 5
      have re6 : wr.cell? ⟨wa.heap.size, 6, none⟩ = some (.int .i64 E.health) := heb.cell 6
      have re7 : wr.cell? ⟨wa.heap.size, 7, none⟩ = some (.int .i64 E.wait) := heb.cell 7
      have rs0 : wr.cell? ⟨g, off + k * 2, none⟩ = some (.int .i8 p.1) := (hbw.cell (p := ⟨g, off + k * 2, none⟩) hg1).trans q0
      have rs1 : wr.cell? ⟨g, off + k * 2 + 1, none⟩ = some (.int .i8 p.2) := (hbw.cell (p := ⟨g, off + k * 2 + 1, none⟩) hg1).trans q1
      have HQB := Lib.hid hbw.drew
      have HQM := Lib.hid hmb.drew
      have HQE := Lib.hid heb.drew
      have HQD := Lib.hid hdb.drew
      clear hmb heb hdb hbw
      go_wp2
      go_still_tail 12, (by kernel_rfl)
      have zb := HQB.out
      have zm := HQM.out
      have ze := HQE.out
      have zd := HQD.out
      change wpList _ _ _ _ _ wr.drew
      generalize wr.drew = wq at zb zm ze zd ⊢
      have hqs := zb.size
      have hq1 := zm.lt
      have hq2 := ze.lt
      have hq3 := zd.lt
      have HQB := Lib.hid zb
      have HQM := Lib.hid zm
      have HQE := Lib.hid ze
      have HQD := Lib.hid zd
      clear zb zm ze zd hs hl1 hl2 hl3
      go_wp2_with (go_at_call 15; refine (HW.out _ HQB.out).mono ?_; rintro r w5 ⟨rfl, hb5⟩; have hs5 := hb5.size; have ye := Blk.below HQE.out hb5 hq2; have x0 : w5.cell? ⟨wa.heap.size, 0, none⟩ = some (.int .i64 E.id) := ye.cell 0; have y0 := ye.frozen 0; have x1 : w5.cell? ⟨wa.heap.size, 1, none⟩ = some (.int .i64 E.kind) := ye.cell 1; have y1 := ye.frozen 1; have x2 : w5.cell? ⟨wa.heap.size, 2, none⟩ = some (.int .i64 E.at_.x) := ye.cell 2; have y2 := ye.frozen 2; have x3 : w5.cell? ⟨wa.heap.size, 3, none⟩ = some (.int .i64 E.at_.y) := ye.cell 3; have y3 := ye.frozen 3; have x4 : w5.cell? ⟨wa.heap.size, 4, none⟩ = some (.int .i64 E.vel.x) := ye.cell 4; have y4 := ye.frozen 4; have x5 : w5.cell? ⟨wa.heap.size, 5, none⟩ = some (.int .i64 E.vel.y) := ye.cell 5; have y5 := ye.frozen 5; have x6 : w5.cell? ⟨wa.heap.size, 6, none⟩ = some (.int .i64 E.health) := ye.cell 6; have y6 := ye.frozen 6; have x7 : w5.cell? ⟨wa.heap.size, 7, none⟩ = some (.int .i64 E.wait) := ye.cell 7; have y7 := ye.frozen 7; have l5 : wa.heap.size < w5.heap.size := (by omega))
      have zb5 : Below w1.heap.size w1 w5 := HQB.out.trans (hb5.mono hqs)
      have zm5 := Blk.below HQM.out hb5 hq1
      have zd5 := Blk.below HQD.out hb5 hq3
      have hz : ∀ j : Nat, j ≠ wa.heap.size → ((((((((w5.setCell ⟨wa.heap.size, 0, none⟩ (.int .i64 X.id)).setCell ⟨wa.heap.size, 1, none⟩ (.int .i64 X.kind)).setCell ⟨wa.heap.size, 2, none⟩ (.int .i64 X.at_.x)).setCell ⟨wa.heap.size, 3, none⟩ (.int .i64 X.at_.y)).setCell ⟨wa.heap.size, 4, none⟩ (.int .i64 X.vel.x)).setCell ⟨wa.heap.size, 5, none⟩ (.int .i64 X.vel.y)).setCell ⟨wa.heap.size, 6, none⟩ (.int .i64 X.health)).setCell ⟨wa.heap.size, 7, none⟩ (.int .i64 X.wait)).heap[j]? = w5.heap[j]? := fun j hj => (Below.heap_setCell _ _ _ j hj).trans ((Below.heap_setCell _ _ _ j hj).trans ((Below.heap_setCell _ _ _ j hj).trans ((Below.heap_setCell _ _ _ j hj).trans ((Below.heap_setCell _ _ _ j hj).trans ((Below.heap_setCell _ _ _ j hj).trans ((Below.heap_setCell _ _ _ j hj).trans (Below.heap_setCell _ _ _ j hj)))))))
      have zM : Blk ((((((((w5.setCell ⟨wa.heap.size, 0, none⟩ (.int .i64 X.id)).setCell ⟨wa.heap.size, 1, none⟩ (.int .i64 X.kind)).setCell ⟨wa.heap.size, 2, none⟩ (.int .i64 X.at_.x)).setCell ⟨wa.heap.size, 3, none⟩ (.int .i64 X.at_.y)).setCell ⟨wa.heap.size, 4, none⟩ (.int .i64 X.vel.x)).setCell ⟨wa.heap.size, 5, none⟩ (.int .i64 X.vel.y)).setCell ⟨wa.heap.size, 6, none⟩ (.int .i64 X.health)).setCell ⟨wa.heap.size, 7, none⟩ (.int .i64 X.wait)) w1.heap.size 25 #[.int .i64 3, .int .i64 3, .slice A1 n1 c1, .slice (some ⟨g2, off2, none⟩) 1 c2] := (hz _ (by omega)).trans zm5
      have zD : Blk ((((((((w5.setCell ⟨wa.heap.size, 0, none⟩ (.int .i64 X.id)).setCell ⟨wa.heap.size, 1, none⟩ (.int .i64 X.kind)).setCell ⟨wa.heap.size, 2, none⟩ (.int .i64 X.at_.x)).setCell ⟨wa.heap.size, 3, none⟩ (.int .i64 X.at_.y)).setCell ⟨wa.heap.size, 4, none⟩ (.int .i64 X.vel.x)).setCell ⟨wa.heap.size, 5, none⟩ (.int .i64 X.vel.y)).setCell ⟨wa.heap.size, 6, none⟩ (.int .i64 X.health)).setCell ⟨wa.heap.size, 7, none⟩ (.int .i64 X.wait)) (wa.heap.size + 1) 30 #[.int .i64 d.id, .int .i64 d.kind, .int .i64 d.at_.x, .int .i64 d.at_.y, .int .i64 d.vel.x, .int .i64 d.vel.y, .int .i64 d.health, .int .i64 d.wait] := (hz _ (by omega)).trans zd5
      have zE : Blk ((((((((w5.setCell ⟨wa.heap.size, 0, none⟩ (.int .i64 X.id)).setCell ⟨wa.heap.size, 1, none⟩ (.int .i64 X.kind)).setCell ⟨wa.heap.size, 2, none⟩ (.int .i64 X.at_.x)).setCell ⟨wa.heap.size, 3, none⟩ (.int .i64 X.at_.y)).setCell ⟨wa.heap.size, 4, none⟩ (.int .i64 X.vel.x)).setCell ⟨wa.heap.size, 5, none⟩ (.int .i64 X.vel.y)).setCell ⟨wa.heap.size, 6, none⟩ (.int .i64 X.health)).setCell ⟨wa.heap.size, 7, none⟩ (.int .i64 X.wait)) wa.heap.size 30 #[.int .i64 X.id, .int .i64 X.kind, .int .i64 X.at_.x, .int .i64 X.at_.y, .int .i64 X.vel.x, .int .i64 X.vel.y, .int .i64 X.health, .int .i64 X.wait] := by
        have ye6 := ye
        have := ((((((((ye6.set_ 0 (.int .i64 X.id)).set_ 1 (.int .i64 X.kind)).set_ 2 (.int .i64 X.at_.x)).set_ 3 (.int .i64 X.at_.y)).set_ 4 (.int .i64 X.vel.x)).set_ 5 (.int .i64 X.vel.y)).set_ 6 (.int .i64 X.health)).set_ 7 (.int .i64 X.wait))
        simpa using this
      have zB : Below w1.heap.size w1 ((((((((w5.setCell ⟨wa.heap.size, 0, none⟩ (.int .i64 X.id)).setCell ⟨wa.heap.size, 1, none⟩ (.int .i64 X.kind)).setCell ⟨wa.heap.size, 2, none⟩ (.int .i64 X.at_.x)).setCell ⟨wa.heap.size, 3, none⟩ (.int .i64 X.at_.y)).setCell ⟨wa.heap.size, 4, none⟩ (.int .i64 X.vel.x)).setCell ⟨wa.heap.size, 5, none⟩ (.int .i64 X.vel.y)).setCell ⟨wa.heap.size, 6, none⟩ (.int .i64 X.health)).setCell ⟨wa.heap.size, 7, none⟩ (.int .i64 X.wait)) := (by repeat (first | with_reducible exact Below.refl _ _ | with_reducible assumption | with_reducible refine Below.drew ?_ | with_reducible refine below_drews ?_ _ | with_reducible refine Below.alloc ?_ (by first | omega | (simp; done) | (simp; omega)) _ | with_reducible refine Below.setCell ?_ (by first | omega | (simp; done) | (simp; omega)) _))
      generalize ((((((((w5.setCell ⟨wa.heap.size, 0, none⟩ (.int .i64 X.id)).setCell ⟨wa.heap.size, 1, none⟩ (.int .i64 X.kind)).setCell ⟨wa.heap.size, 2, none⟩ (.int .i64 X.at_.x)).setCell ⟨wa.heap.size, 3, none⟩ (.int .i64 X.at_.y)).setCell ⟨wa.heap.size, 4, none⟩ (.int .i64 X.vel.x)).setCell ⟨wa.heap.size, 5, none⟩ (.int .i64 X.vel.y)).setCell ⟨wa.heap.size, 6, none⟩ (.int .i64 X.health)).setCell ⟨wa.heap.size, 7, none⟩ (.int .i64 X.wait)) = wz at zM zD zE zB ⊢
      clear x0 y0 x1 y1 x2 y2 x3 y3 x4 y4 x5 y5 x6 y6 x7 y7 hz zb5 zm5 zd5 ye hb5 hs5 l5
      have m0 : wz.cell? ⟨w1.heap.size, 0, none⟩ = some (.int .i64 3) := zM.cell 0
      have m1 : wz.cell? ⟨w1.heap.size, 1, none⟩ = some (.int .i64 3) := zM.cell 1
      have m2 : wz.cell? ⟨w1.heap.size, 2, none⟩ = some (.slice A1 n1 c1) := zM.cell 2
      have m3 : wz.cell? ⟨w1.heap.size, 3, none⟩ = some (.slice (some ⟨g2, off2, none⟩) 1 c2) := zM.cell 3
      have e0 : wz.cell? ⟨wa.heap.size, 0, none⟩ = some (.int .i64 X.id) := zE.cell 0
      have d0 : wz.cell? ⟨wa.heap.size + 1, 0, none⟩ = some (.int .i64 d.id) := zD.cell 0
      have e1 : wz.cell? ⟨wa.heap.size, 1, none⟩ = some (.int .i64 X.kind) := zE.cell 1
      have d1 : wz.cell? ⟨wa.heap.size + 1, 1, none⟩ = some (.int .i64 d.kind) := zD.cell 1
      have e2 : wz.cell? ⟨wa.heap.size, 2, none⟩ = some (.int .i64 X.at_.x) := zE.cell 2
      have d2 : wz.cell? ⟨wa.heap.size + 1, 2, none⟩ = some (.int .i64 d.at_.x) := zD.cell 2
      have e3 : wz.cell? ⟨wa.heap.size, 3, none⟩ = some (.int .i64 X.at_.y) := zE.cell 3
      have d3 : wz.cell? ⟨wa.heap.size + 1, 3, none⟩ = some (.int .i64 d.at_.y) := zD.cell 3
      have e4 : wz.cell? ⟨wa.heap.size, 4, none⟩ = some (.int .i64 X.vel.x) := zE.cell 4
      have d4 : wz.cell? ⟨wa.heap.size + 1, 4, none⟩ = some (.int .i64 d.vel.x) := zD.cell 4
      have e5 : wz.cell? ⟨wa.heap.size, 5, none⟩ = some (.int .i64 X.vel.y) := zE.cell 5
      have d5 : wz.cell? ⟨wa.heap.size + 1, 5, none⟩ = some (.int .i64 d.vel.y) := zD.cell 5
      have e6 : wz.cell? ⟨wa.heap.size, 6, none⟩ = some (.int .i64 X.health) := zE.cell 6
      have d6 : wz.cell? ⟨wa.heap.size + 1, 6, none⟩ = some (.int .i64 d.health) := zD.cell 6
      have e7 : wz.cell? ⟨wa.heap.size, 7, none⟩ = some (.int .i64 X.wait) := zE.cell 7
      have d7 : wz.cell? ⟨wa.heap.size + 1, 7, none⟩ = some (.int .i64 d.wait) := zD.cell 7
      have zs := zB.size
      have zl1 := zM.lt
      have zl2 := zE.lt
      have zl3 := zD.lt
      have ss0 : wz.cell? ⟨g, off + k * 2, none⟩ = some (.int .i8 p.1) := (zB.cell (p := ⟨g, off + k * 2, none⟩) hg1).trans q0
      have ss1 : wz.cell? ⟨g, off + k * 2 + 1, none⟩ = some (.int .i8 p.2) := (zB.cell (p := ⟨g, off + k * 2 + 1, none⟩) hg1).trans q1
      have hgz : g < wz.heap.size := by omega
      have HZM2 := Lib.hid zM
      have HZE2 := Lib.hid zE
      have HZD2 := Lib.hid zD
      have HZB := Lib.hid zB
      clear zM zE zD zB HQB HQM HQE HQD HZM HZE HZD
      have v1 : decide (X.at_.x < 90112) = false := decide_eq_false (by omega)
      have v2 : decide (106496 < X.at_.x) = false := decide_eq_false (by omega)
      have v3 : decide (X.at_.y < 90112) = false := decide_eq_false (by omega)
      have v4 : decide (106496 < X.at_.y) = false := decide_eq_false (by omega)
      have hne : ∀ w, (binOp .neq 30 (.agg #[.int .i64 d.id, .int .i64 d.kind, .int .i64 d.at_.x, .int .i64 d.at_.y, .int .i64 d.vel.x, .int .i64 d.vel.y, .int .i64 d.health, .int .i64 d.wait]) (.agg #[.int .i64 d.id, .int .i64 d.kind, .int .i64 d.at_.x, .int .i64 d.at_.y, .int .i64 d.vel.x, .int .i64 d.vel.y, .int .i64 d.health, .int .i64 d.wait])).run Try.prog w = .ok (.bool false) w := fun w => by rw [neqEnt, decide_eq_true rfl]; rfl
      refine wp_region_kin' (wz.heap.size) (by kernel_rfl) (by kernel_rfl) (fun kk => ?_)
      repeat (first | go_big_quiet_step ((go_at_call 15; exact kin_of (by simp) (HWD.out _ (HZB.out.trans ((Kin.below _).mono (by omega)))))) | quiet_step ((go_at_call 15; exact kin_of (by simp) (HWD.out _ (HZB.out.trans ((Kin.below _).mono (by omega)))))))
      refine wpQuiet_nil ?_
      rintro _ ⟨x, rfl⟩
      have ym := Blk.below HZM2.out x.below zl1
      have ye := Blk.below HZE2.out x.below zl2
      have yd := Blk.below HZD2.out x.below zl3
      have yb := HZB.out.trans (x.below.mono (by omega))
      obtain ⟨wk, hwk⟩ : ∃ wk, x.w = wk := ⟨_, rfl⟩
      simp only [hwk] at ym ye yd yb ⊢
      clear hwk kk x
      have HYM := Lib.hid ym
      have HYE := Lib.hid ye
      have HYD := Lib.hid yd
      have HYB := Lib.hid yb
      clear ym ye yd yb
      go_wp2
      exact ⟨⟨k + 1, X, hlt, by go_num, HYM.out, HYE.out, HYD.out, HF1.out, HYB.out⟩, by simp [intOf]; omega⟩
    · go_wp2
      go_ret
      exact ⟨rfl, hb1.trans (hbw.mono hs1)⟩
theorem lawMoveStays (l : List (Int × Int)) (A : Option Addr) (n c : Nat) (a : Int) (h0 : 0 ≤ a) (h1 : a ≤ 255) (w : World) (hl : Reads w w.heap.size 2 A n (stepsV l)) (hb8 : ∀ p ∈ l, (-128 ≤ p.1 ∧ p.1 ≤ 127) ∧ (-128 ≤ p.2 ∧ p.2 ≤ 127)) :
    Calls Try.prog 4 #[.slice A n c, .int .u8 a] w fun r w' => r = .returned (.bool true) ∧ Below w.heap.size w w' := by
  obtain ⟨a, rfl⟩ : ∃ n : Nat, a = (n : Int) := ⟨a.toNat, by omega⟩
  by_cases hn : n ≤ 50
  · exact lawMoveStaysYes l A n c a w hl hb8 hn (by omega)
  · exact lawMoveStaysNo A n c a w (by omega)
theorem wf_u8s {x : Int} (h : (Lit.int .u8 x).wf = true) : 0 ≤ x ∧ x ≤ 255 := by simpa [Lit.wf, IntKind.min, IntKind.max, IntKind.signed, IntKind.bits] using h
end Go.Proofs.Ythkgeeonhppliaa
