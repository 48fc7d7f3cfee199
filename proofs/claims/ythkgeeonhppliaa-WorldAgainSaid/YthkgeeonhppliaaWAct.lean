/- The walk of the law's act: an Op on a world. -/
import Derived.Test.YthkgeeonhppliaaWJoin
import Derived.Test.YthkgeeonhppliaaWGo
import Derived.Test.YthkgeeonhppliaaWTick
set_option linter.unusedSimpArgs false
set_option linter.unusedVariables false
namespace Go.Proofs.Ythkgeeonhppliaa
open Go.RowKit
structure OpV where
  kind : Int
  id : Int
  by_ : Int
  c : CmdV
def goP (m : MapV) (c : CmdV) (e : EntV) : EntV := if cmdOk c then walkF m e c.mx c.my else e
def actV (v : WorldV) (o : OpV) : WorldV × Int :=
  if o.kind = 1 then joinV v o.id else if o.kind = 2 then (⟨v.map, v.st, v.tick, leaveL v.l o.id⟩, leaveE v.l o.id)
  else if o.kind = 3 then (⟨v.map, v.st, v.tick, atPlayer v.l o.id (hitP o.by_)⟩, 0) else if o.kind = 4 then (⟨v.map, v.st, v.tick, atPlayer v.l o.id (goP v.map o.c)⟩, 0)
  else if o.kind = 5 then (tickF v, 0) else (v, 0)
/-- What a world must be for its functions to be walked. -/
structure Good (v : WorldV) (s : WorldS) : Prop where
  n : s.n ≤ 999
  p1 : 1 ≤ s.ms.n2
  p2 : s.ms.n2 ≤ 100000
  ok : ∀ e ∈ v.l, okE e
def OpOk (o : OpV) : Prop := o.by_ ≤ 9223372036854775807 ∧ o.c.mx ≤ 127 ∧ o.c.my ≤ 127
theorem gives_same {w w' : World} {v : WorldV} {s : WorldS} {r : Ending} (h : WorldAt w w.heap.size v s) (hr : r = .returned (.agg #[.int .i64 v.map.W, .int .i64 v.map.H, .slice s.ms.A s.ms.n s.ms.c, .slice s.ms.A2 s.ms.n2 s.ms.c2, .int .u64 v.st, .int .i64 v.tick, .slice s.A s.n s.c]) ∧ Below w.heap.size w w') : Gives w w' v s r v := ⟨s, hr.1, (h.below hr.2).upto hr.2.size, rfl, .inl ⟨rfl, rfl⟩, hr.2⟩
theorem wHit' (v : WorldV) (s : WorldS) (id by_ : Int) (w : World) (h : WorldAt w w.heap.size v s) (hg : Good v s) (hby : by_ ≤ 9223372036854775807) :
    Calls Try.prog 46 #[(.agg #[.int .i64 v.map.W, .int .i64 v.map.H, .slice s.ms.A s.ms.n s.ms.c, .slice s.ms.A2 s.ms.n2 s.ms.c2, .int .u64 v.st, .int .i64 v.tick, .slice s.A s.n s.c]), .int .i64 id, .int .i64 by_] w fun r w' => Gives w w' v s r ⟨v.map, v.st, v.tick, atPlayer v.l id (hitP by_)⟩ := by
  have hn := hg.n
  rcases atPlayer_spec v.l id (hitP by_) with ⟨h1, h2⟩ | ⟨k, e, h1, h2, h3, h4, h5⟩
  · rw [h2]
    exact (wHitNo v s id by_ w h (by omega) (.inl h1)).mono fun r w' hr => gives_same h hr
  · rw [h5]
    obtain ⟨o1, o2, o3, o4⟩ := hg.ok e (List.mem_of_getElem? h2)
    by_cases hq : e.health = 0 ∨ by_ < 1
    · have : hitP by_ e = e := by unfold hitP; rw [if_pos hq]
      rw [this, set_same h2]
      exact (wHitNo v s id by_ w h (by omega) (.inr ⟨k, e, h1, h2, hq⟩)).mono fun r w' hr => gives_same h hr
    · have : hitP by_ e = hitE e by_ := by unfold hitP; rw [if_neg hq]
      rw [this]
      exact wHitYes v s id by_ k e w h (by omega) h1 h2 (fun hh => hq (.inl hh)) (by omega) hby o1 (by omega)
theorem wGo' (v : WorldV) (s : WorldS) (c : CmdV) (id : Int) (w : World) (h : WorldAt w w.heap.size v s) (hg : Good v s) (x1 : c.mx ≤ 127) (y1 : c.my ≤ 127) :
    Calls Try.prog 47 #[(.agg #[.int .i64 v.map.W, .int .i64 v.map.H, .slice s.ms.A s.ms.n s.ms.c, .slice s.ms.A2 s.ms.n2 s.ms.c2, .int .u64 v.st, .int .i64 v.tick, .slice s.A s.n s.c]), .agg #[.int .u32 c.num, .int .i8 c.mx, .int .i8 c.my, .bool c.fire, .int .u32 c.view, .int .u8 c.frac], .int .i64 id] w fun r w' => Gives w w' v s r ⟨v.map, v.st, v.tick, atPlayer v.l id (goP v.map c)⟩ := by
  have hn := hg.n
  rcases atPlayer_spec v.l id (goP v.map c) with ⟨h1, h2⟩ | ⟨k, e, h1, h2, h3, h4, h5⟩
  · rw [h2]
    exact (wGoNo v s c id w h (by omega) (.inl h1)).mono fun r w' hr => gives_same h hr
  · rw [h5]
    cases hq : cmdOk c with
    | false =>
      have : goP v.map c e = e := by unfold goP; rw [hq]; rfl
      rw [this, set_same h2]
      exact (wGoNo v s c id w h (by omega) (.inr ⟨k, h1, hq⟩)).mono fun r w' hr => gives_same h hr
    | true =>
      have : goP v.map c e = walkF v.map e c.mx c.my := by unfold goP; rw [hq]; rfl
      rw [this]
      exact wGoYes v s c id k e w h (by omega) h1 h2 hq x1 y1
theorem wJoin' (v : WorldV) (s : WorldS) (id : Int) (w : World) (h : WorldAt w w.heap.size v s) (hg : Good v s) :
    Calls Try.prog 44 #[(.agg #[.int .i64 v.map.W, .int .i64 v.map.H, .slice s.ms.A s.ms.n s.ms.c, .slice s.ms.A2 s.ms.n2 s.ms.c2, .int .u64 v.st, .int .i64 v.tick, .slice s.A s.n s.c]), .int .i64 id] w fun r w' => GivesE w w' v s r (joinV v id).1 (joinV v id).2 := by
  have hn := hg.n
  by_cases hno : id < 1 ∨ 8 < id ∨ findF v.l id ≠ -1
  · exact wJoinNo v s id w h (by omega) hno
  · have h1 : ¬ (id < 1 ∨ 8 < id) := fun hh => hno (hh.elim .inl fun h => .inr (.inl h))
    have h2 : findF v.l id = -1 := Decidable.byContradiction fun hh => hno (.inr (.inr hh))
    have hj : joinV v id = (⟨v.map, nextS v.st, v.tick, v.l.take (joinK v.l id) ++ newP id (spawnP v.map v.st) :: v.l.drop (joinK v.l id)⟩, 0) := by unfold joinV; rw [if_neg h1, if_neg (fun hh => hh h2)]
    rw [hj]
    exact wJoinYes v s id w h hn (by omega) (by omega) h2 hg.p1 hg.p2
theorem atPlayer_all {P : EntV → Prop} {l : List EntV} (id : Int) (f : EntV → EntV) (h : ∀ e ∈ l, P e) (hf : ∀ e ∈ l, P (f e)) : ∀ e ∈ atPlayer l id f, P e := by
  rcases atPlayer_spec l id f with ⟨_, h2⟩ | ⟨k, e, _, h2, _, _, h5⟩
  · rw [h2]; exact h
  · rw [h5]; exact set_all h (hf e (List.mem_of_getElem? h2))
theorem waitE_ok (m : MapV) (st : Int) (e : EntV) (h : okE e) : okE (waitE m st e).2 := by
  obtain ⟨h1, h2, h3, h4⟩ := h
  unfold waitE
  split
  · exact ⟨h1, h2, h3, h4⟩
  · rename_i hn
    have : e.wait ≠ 0 := fun hh => hn (.inr (.inr hh))
    split
    · exact ⟨by show (0 : Int) ≤ 100; omega, by show (100 : Int) ≤ 100; omega, by show (0 : Int) ≤ 0; omega, by show (0 : Int) ≤ 20; omega⟩
    · exact ⟨h1, h2, by show 0 ≤ e.wait - 1; omega, by show e.wait - 1 ≤ 20; omega⟩
theorem waitN_ok (m : MapV) (k : Nat) (x : Int × List EntV) (h : ∀ e ∈ x.2, okE e) : ∀ e ∈ (waitN m k x).2, okE e := by
  induction k with
  | zero => exact h
  | succ k ih =>
    unfold waitN
    split
    · exact ih
    · rename_i e he
      exact set_all ih (waitE_ok m _ e (ih e (List.mem_of_getElem? he)))
theorem tickF_ok (v : WorldV) (h : ∀ e ∈ v.l, okE e) : ∀ e ∈ (tickF v).l, okE e := by
  show ∀ e ∈ (waitF v.map v.st _).2, okE e
  exact waitN_ok _ _ _ (hitI_ok _ _ _ (rollN_ok _ _ _ h))
theorem hitP_ok (by_ : Int) (e : EntV) (h : okE e) : okE (hitP by_ e) := by
  obtain ⟨h1, h2, h3, h4⟩ := h
  unfold hitP
  split
  · exact ⟨h1, h2, h3, h4⟩
  · rename_i hn
    have : ¬ by_ < 1 := fun hh => hn (.inr hh)
    unfold hitE
    split
    · exact ⟨by show 0 ≤ e.health - by_; omega, by show e.health - by_ ≤ 100; omega, h3, h4⟩
    · exact ⟨by show (0 : Int) ≤ 0; omega, by show (0 : Int) ≤ 100; omega, by show (0 : Int) ≤ 20; omega, by show (20 : Int) ≤ 20; omega⟩
theorem goP_ok (m : MapV) (c : CmdV) (e : EntV) (h : okE e) : okE (goP m c e) := by
  unfold goP
  split
  · unfold walkF
    split
    · exact h
    · exact h
  · exact h
theorem actV_map (v : WorldV) (o : OpV) : (actV v o).1.map = v.map := by
  unfold actV joinV tickF
  split
  · split
    · rfl
    · split <;> rfl
  · split
    · rfl
    · split
      · rfl
      · split
        · rfl
        · split <;> rfl
theorem actV_ok (v : WorldV) (o : OpV) (h : ∀ e ∈ v.l, okE e) : ∀ e ∈ (actV v o).1.l, okE e := by
  unfold actV
  split
  · unfold joinV
    split
    · exact h
    · split
      · exact h
      · intro e he
        simp only [List.mem_append, List.mem_cons] at he
        rcases he with he | rfl | he
        · exact h e (List.mem_of_mem_take he)
        · exact ⟨by show (0 : Int) ≤ 100; omega, by show (100 : Int) ≤ 100; omega, by show (0 : Int) ≤ 0; omega, by show (0 : Int) ≤ 20; omega⟩
        · exact h e (List.mem_of_mem_drop he)
  · split
    · intro e he
      unfold leaveL at he
      simp only at he
      split at he
      · exact h e he
      · simp only [List.mem_append] at he
        rcases he with he | he
        · exact h e (List.mem_of_mem_take he)
        · exact h e (List.mem_of_mem_drop he)
    · split
      · exact atPlayer_all _ _ h fun e he => hitP_ok _ e (h e he)
      · split
        · exact atPlayer_all _ _ h fun e he => goP_ok _ _ e (h e he)
        · split
          · exact tickF_ok v h
          · exact h
theorem atPlayer_len (l : List EntV) (id : Int) (f : EntV → EntV) : (atPlayer l id f).length = l.length := by
  unfold atPlayer
  split
  · rfl
  · simp
theorem actV_len (v : WorldV) (o : OpV) : (actV v o).1.l.length ≤ v.l.length + 1 := by
  have htl : (tickF v).l.length = v.l.length := by
    show (waitF v.map v.st _).2.length = _
    unfold waitF
    rw [waitN_len]
    show (hitI _ _ _).length = _
    rw [hitI_len, rollN_len]
  unfold actV
  split
  · unfold joinV
    split
    · simp
    · split
      · simp
      · simp only [List.length_append, List.length_cons, List.length_take, List.length_drop]; omega
  · split
    · unfold leaveL
      simp only
      split
      · omega
      · simp only [List.length_append, List.length_take, List.length_drop]; omega
    · split
      · simp only [atPlayer_len]; omega
      · split
        · simp only [atPlayer_len]; omega
        · split
          · simp only [htl]; omega
          · simp
/-- A row that lies below, or is new, where the last stores do not hit. -/
theorem held_far {w w1 wf W0 : World} {v V1 : WorldV} {s s1 : WorldS} {b : Nat} (h : WorldAt w w.heap.size v s) (hat : WorldAt w1 w1.heap.size V1 s1) (hms : s1.ms = s.ms) (hk : Held W0 w1 s s1 V1.l) (hB : Below w.heap.size w wf) (hz : ∀ j : Nat, j ≠ b → wf.heap[j]? = w1.heap[j]?) (hb : w.heap.size ≤ b) (hW : W0.heap.size = b + 1) (hm : V1.map = v.map) :
    WorldAt wf wf.heap.size V1 s1 ∧ Held w wf s s1 V1.l := by
  have hmap : MapAt wf wf.heap.size V1.map s1.ms := by rw [hms, hm]; exact (h.map.below hB).upto hB.size
  rcases hk with ⟨h1, h2⟩ | ⟨h1, h2⟩
  · have hl : Reads wf w.heap.size 8 s1.A s1.n (entsV V1.l) := by
      refine ⟨hat.l.1, fun hn => ?_⟩
      obtain ⟨ad, ha, hc, hcc⟩ := hat.l.2 hn
      obtain ⟨ad', ha', hc', _⟩ := h.l.2 (by omega)
      have : ad = ad' := by rw [h1, ha'] at ha; injection ha with ha; exact ha.symm
      subst this
      refine ⟨ad, ha, hc', fun j u hu => ?_⟩
      have h3 := hcc j u hu
      have hbk : (ad.add j).block = ad.block := block_of_add ad j
      have h4 : wf.heap[(ad.add j).block]? = w1.heap[(ad.add j).block]? := hz _ (by rw [hbk]; omega)
      unfold World.cell? at h3 ⊢
      rw [h4]
      exact h3
    exact ⟨⟨hmap, hl.more hB.size, hat.nc⟩, .inl ⟨h1, h2⟩⟩
  · have hr : Row wf 30 8 s1.A s1.n s1.c (entsV V1.l) := h1.keep (fun g hg => hz g (by have := h2 g hg; omega))
    exact ⟨⟨hmap, hr.reads (by decide), hat.nc⟩, .inr ⟨hr, fun q hq => by have := h2 q hq; omega⟩⟩
set_option maxRecDepth 100000 in
set_option maxHeartbeats 16000000 in
theorem wAct (v : WorldV) (s : WorldS) (o : OpV) (w : World) (h : WorldAt w w.heap.size v s) (hg : Good v s) (ho : OpOk o) :
    Calls Try.prog 25 #[(.agg #[.int .i64 v.map.W, .int .i64 v.map.H, .slice s.ms.A s.ms.n s.ms.c, .slice s.ms.A2 s.ms.n2 s.ms.c2, .int .u64 v.st, .int .i64 v.tick, .slice s.A s.n s.c]), .agg #[.int .i64 o.kind, .int .i64 o.id, .int .i64 o.by_, .int .u32 o.c.num, .int .i8 o.c.mx, .int .i8 o.c.my, .bool o.c.fire, .int .u32 o.c.view, .int .u8 o.c.frac]] w fun r w' => GivesE w w' v s r (actV v o).1 (actV v o).2 := by
  have hm0 := actV_map v o
  obtain ⟨⟨V1, E1⟩, hact⟩ : ∃ X, actV v o = X := ⟨_, rfl⟩
  rw [hact] at hm0 ⊢
  have hm : V1.map = v.map := hm0
  have HW := Lib.hid h
  have HMV := Lib.hid hm
  have hz0 : Blk (((w.alloc (.cells #[.int .i64 v.map.W, .int .i64 v.map.H, .slice s.ms.A s.ms.n s.ms.c, .slice s.ms.A2 s.ms.n2 s.ms.c2, .int .u64 v.st, .int .i64 v.tick, .slice s.A s.n s.c] 58)).alloc (.cells #[.int .i64 o.kind, .int .i64 o.id, .int .i64 o.by_, .int .u32 o.c.num, .int .i8 o.c.mx, .int .i8 o.c.my, .bool o.c.fire, .int .u32 o.c.view, .int .u8 o.c.frac] 66)).alloc (.cells #[.int .i64 0, .int .i64 0, .slice none 0 0, .slice none 0 0, .int .u64 0, .int .i64 0, .slice none 0 0] 58)) (w.heap.size + 1 + 1) 58 #[.int .i64 0, .int .i64 0, .slice none 0 0, .slice none 0 0, .int .u64 0, .int .i64 0, .slice none 0 0] := by
    have := Blk.new ((w.alloc (.cells #[.int .i64 v.map.W, .int .i64 v.map.H, .slice s.ms.A s.ms.n s.ms.c, .slice s.ms.A2 s.ms.n2 s.ms.c2, .int .u64 v.st, .int .i64 v.tick, .slice s.A s.n s.c] 58)).alloc (.cells #[.int .i64 o.kind, .int .i64 o.id, .int .i64 o.by_, .int .u32 o.c.num, .int .i8 o.c.mx, .int .i8 o.c.my, .bool o.c.fire, .int .u32 o.c.view, .int .u8 o.c.frac] 66)) 58 #[.int .i64 0, .int .i64 0, .slice none 0 0, .slice none 0 0, .int .u64 0, .int .i64 0, .slice none 0 0]
    simpa using this
  have HZ0 := Lib.hid hz0
  clear hm hm0 hz0
  unfold actV at hact
  by_cases k1 : o.kind = 1
  · have k1' : (o.kind == 1) = true := by rw [k1]; rfl
    rw [if_pos k1] at hact
    clear k1
    have HF := Lib.hid (fun W (hW : Below w.heap.size w W) => (by have := wJoin' v s o.id W ((h.below hW).upto hW.size) hg; rw [hact] at this; exact this : Calls Try.prog _ _ W fun r w' => GivesE W w' v s r V1 E1))
    clear hact
    go_enter Try.func25, Try.ntmps25
    go_wp2_with (go_at_call 44; refine (HF.out _ (by repeat (first | with_reducible exact Below.refl _ _ | with_reducible assumption | with_reducible refine Below.drew ?_ | with_reducible refine below_drews ?_ _ | with_reducible refine Below.alloc ?_ (by first | omega | (simp; done) | (simp; omega)) _ | with_reducible refine Below.setCell ?_ (by first | omega | (simp; done) | (simp; omega)) _))).mono ?_; rintro r w1 ⟨s1, rfl, hat, hms, hkp, hb1⟩; have mz1 : Blk w1 (w.heap.size + 1 + 1) 58 #[.int .i64 0, .int .i64 0, .slice none 0 0, .slice none 0 0, .int .u64 0, .int .i64 0, .slice none 0 0] := Blk.below HZ0.out hb1 (by simp); have B1 : Below w.heap.size w w1 := Below.trans (by repeat (first | with_reducible exact Below.refl _ _ | with_reducible assumption | with_reducible refine Below.drew ?_ | with_reducible refine below_drews ?_ _ | with_reducible refine Below.alloc ?_ (by first | omega | (simp; done) | (simp; omega)) _ | with_reducible refine Below.setCell ?_ (by first | omega | (simp; done) | (simp; omega)) _)) (hb1.mono (by simp; omega)); have l1 : w.heap.size + 1 + 1 < w1.heap.size := mz1.lt; have x0 : w1.cell? ⟨w.heap.size + 1 + 1, 0, none⟩ = some (.int .i64 0) := mz1.cell 0; have x1 : w1.cell? ⟨w.heap.size + 1 + 1, 1, none⟩ = some (.int .i64 0) := mz1.cell 1; have x2 : w1.cell? ⟨w.heap.size + 1 + 1, 2, none⟩ = some (.slice none 0 0) := mz1.cell 2; have x3 : w1.cell? ⟨w.heap.size + 1 + 1, 3, none⟩ = some (.slice none 0 0) := mz1.cell 3; have x4 : w1.cell? ⟨w.heap.size + 1 + 1, 4, none⟩ = some (.int .u64 0) := mz1.cell 4; have x5 : w1.cell? ⟨w.heap.size + 1 + 1, 5, none⟩ = some (.int .i64 0) := mz1.cell 5; have x6 : w1.cell? ⟨w.heap.size + 1 + 1, 6, none⟩ = some (.slice none 0 0) := mz1.cell 6; have z0 := mz1.frozen 0; have z1 := mz1.frozen 1; have z2 := mz1.frozen 2; have z3 := mz1.frozen 3; have z4 := mz1.frozen 4; have z5 := mz1.frozen 5; have z6 := mz1.frozen 6; have HZ1 := Lib.hid mz1; have HB1 := Lib.hid B1; have HAT := Lib.hid hat; have HKP := Lib.hid hkp; have HMS := Lib.hid hms; clear mz1 B1 hat hkp hb1 hms)
    have b1 := HB1.out
    have hB2 : Below w.heap.size w (((((((w1.setCell ⟨w.heap.size + 1 + 1, 0, none⟩ (.int .i64 V1.map.W)).setCell ⟨w.heap.size + 1 + 1, 1, none⟩ (.int .i64 V1.map.H)).setCell ⟨w.heap.size + 1 + 1, 2, none⟩ (.slice s1.ms.A s1.ms.n s1.ms.c)).setCell ⟨w.heap.size + 1 + 1, 3, none⟩ (.slice s1.ms.A2 s1.ms.n2 s1.ms.c2)).setCell ⟨w.heap.size + 1 + 1, 4, none⟩ (.int .u64 V1.st)).setCell ⟨w.heap.size + 1 + 1, 5, none⟩ (.int .i64 V1.tick)).setCell ⟨w.heap.size + 1 + 1, 6, none⟩ (.slice s1.A s1.n s1.c)) := (by repeat (first | with_reducible exact Below.refl _ _ | with_reducible assumption | with_reducible refine Below.drew ?_ | with_reducible refine below_drews ?_ _ | with_reducible refine Below.alloc ?_ (by first | omega | (simp; done) | (simp; omega)) _ | with_reducible refine Below.setCell ?_ (by first | omega | (simp; done) | (simp; omega)) _))
    have hz2 : Blk (((((((w1.setCell ⟨w.heap.size + 1 + 1, 0, none⟩ (.int .i64 V1.map.W)).setCell ⟨w.heap.size + 1 + 1, 1, none⟩ (.int .i64 V1.map.H)).setCell ⟨w.heap.size + 1 + 1, 2, none⟩ (.slice s1.ms.A s1.ms.n s1.ms.c)).setCell ⟨w.heap.size + 1 + 1, 3, none⟩ (.slice s1.ms.A2 s1.ms.n2 s1.ms.c2)).setCell ⟨w.heap.size + 1 + 1, 4, none⟩ (.int .u64 V1.st)).setCell ⟨w.heap.size + 1 + 1, 5, none⟩ (.int .i64 V1.tick)).setCell ⟨w.heap.size + 1 + 1, 6, none⟩ (.slice s1.A s1.n s1.c)) (w.heap.size + 1 + 1) 58 #[.int .i64 V1.map.W, .int .i64 V1.map.H, .slice s1.ms.A s1.ms.n s1.ms.c, .slice s1.ms.A2 s1.ms.n2 s1.ms.c2, .int .u64 V1.st, .int .i64 V1.tick, .slice s1.A s1.n s1.c] := (((((((HZ1.out.set_ 0 (.int .i64 V1.map.W)).set_ 1 (.int .i64 V1.map.H)).set_ 2 (.slice s1.ms.A s1.ms.n s1.ms.c)).set_ 3 (.slice s1.ms.A2 s1.ms.n2 s1.ms.c2)).set_ 4 (.int .u64 V1.st)).set_ 5 (.int .i64 V1.tick)).set_ 6 (.slice s1.A s1.n s1.c))
    have hzz : ∀ j : Nat, j ≠ w.heap.size + 1 + 1 → (((((((w1.setCell ⟨w.heap.size + 1 + 1, 0, none⟩ (.int .i64 V1.map.W)).setCell ⟨w.heap.size + 1 + 1, 1, none⟩ (.int .i64 V1.map.H)).setCell ⟨w.heap.size + 1 + 1, 2, none⟩ (.slice s1.ms.A s1.ms.n s1.ms.c)).setCell ⟨w.heap.size + 1 + 1, 3, none⟩ (.slice s1.ms.A2 s1.ms.n2 s1.ms.c2)).setCell ⟨w.heap.size + 1 + 1, 4, none⟩ (.int .u64 V1.st)).setCell ⟨w.heap.size + 1 + 1, 5, none⟩ (.int .i64 V1.tick)).setCell ⟨w.heap.size + 1 + 1, 6, none⟩ (.slice s1.A s1.n s1.c)).heap[j]? = w1.heap[j]? := fun j hj => (Below.heap_setCell _ _ _ j hj).trans ((Below.heap_setCell _ _ _ j hj).trans ((Below.heap_setCell _ _ _ j hj).trans ((Below.heap_setCell _ _ _ j hj).trans ((Below.heap_setCell _ _ _ j hj).trans ((Below.heap_setCell _ _ _ j hj).trans (Below.heap_setCell _ _ _ j hj))))))
    have hW2 : WorldAt (((((((w1.setCell ⟨w.heap.size + 1 + 1, 0, none⟩ (.int .i64 V1.map.W)).setCell ⟨w.heap.size + 1 + 1, 1, none⟩ (.int .i64 V1.map.H)).setCell ⟨w.heap.size + 1 + 1, 2, none⟩ (.slice s1.ms.A s1.ms.n s1.ms.c)).setCell ⟨w.heap.size + 1 + 1, 3, none⟩ (.slice s1.ms.A2 s1.ms.n2 s1.ms.c2)).setCell ⟨w.heap.size + 1 + 1, 4, none⟩ (.int .u64 V1.st)).setCell ⟨w.heap.size + 1 + 1, 5, none⟩ (.int .i64 V1.tick)).setCell ⟨w.heap.size + 1 + 1, 6, none⟩ (.slice s1.A s1.n s1.c)) ((((((((w1.setCell ⟨w.heap.size + 1 + 1, 0, none⟩ (.int .i64 V1.map.W)).setCell ⟨w.heap.size + 1 + 1, 1, none⟩ (.int .i64 V1.map.H)).setCell ⟨w.heap.size + 1 + 1, 2, none⟩ (.slice s1.ms.A s1.ms.n s1.ms.c)).setCell ⟨w.heap.size + 1 + 1, 3, none⟩ (.slice s1.ms.A2 s1.ms.n2 s1.ms.c2)).setCell ⟨w.heap.size + 1 + 1, 4, none⟩ (.int .u64 V1.st)).setCell ⟨w.heap.size + 1 + 1, 5, none⟩ (.int .i64 V1.tick)).setCell ⟨w.heap.size + 1 + 1, 6, none⟩ (.slice s1.A s1.n s1.c))).heap.size V1 s1 ∧ Held w (((((((w1.setCell ⟨w.heap.size + 1 + 1, 0, none⟩ (.int .i64 V1.map.W)).setCell ⟨w.heap.size + 1 + 1, 1, none⟩ (.int .i64 V1.map.H)).setCell ⟨w.heap.size + 1 + 1, 2, none⟩ (.slice s1.ms.A s1.ms.n s1.ms.c)).setCell ⟨w.heap.size + 1 + 1, 3, none⟩ (.slice s1.ms.A2 s1.ms.n2 s1.ms.c2)).setCell ⟨w.heap.size + 1 + 1, 4, none⟩ (.int .u64 V1.st)).setCell ⟨w.heap.size + 1 + 1, 5, none⟩ (.int .i64 V1.tick)).setCell ⟨w.heap.size + 1 + 1, 6, none⟩ (.slice s1.A s1.n s1.c)) s s1 V1.l := held_far HW.out HAT.out HMS.out HKP.out hB2 hzz (by omega) (by simp) HMV.out
    clear hzz
    generalize (((((((w1.setCell ⟨w.heap.size + 1 + 1, 0, none⟩ (.int .i64 V1.map.W)).setCell ⟨w.heap.size + 1 + 1, 1, none⟩ (.int .i64 V1.map.H)).setCell ⟨w.heap.size + 1 + 1, 2, none⟩ (.slice s1.ms.A s1.ms.n s1.ms.c)).setCell ⟨w.heap.size + 1 + 1, 3, none⟩ (.slice s1.ms.A2 s1.ms.n2 s1.ms.c2)).setCell ⟨w.heap.size + 1 + 1, 4, none⟩ (.int .u64 V1.st)).setCell ⟨w.heap.size + 1 + 1, 5, none⟩ (.int .i64 V1.tick)).setCell ⟨w.heap.size + 1 + 1, 6, none⟩ (.slice s1.A s1.n s1.c)) = wf at hB2 hz2 hW2 ⊢
    have q0 : wf.cell? ⟨w.heap.size + 1 + 1, 0, none⟩ = some (.int .i64 V1.map.W) := hz2.cell 0
    have q1 : wf.cell? ⟨w.heap.size + 1 + 1, 1, none⟩ = some (.int .i64 V1.map.H) := hz2.cell 1
    have q2 : wf.cell? ⟨w.heap.size + 1 + 1, 2, none⟩ = some (.slice s1.ms.A s1.ms.n s1.ms.c) := hz2.cell 2
    have q3 : wf.cell? ⟨w.heap.size + 1 + 1, 3, none⟩ = some (.slice s1.ms.A2 s1.ms.n2 s1.ms.c2) := hz2.cell 3
    have q4 : wf.cell? ⟨w.heap.size + 1 + 1, 4, none⟩ = some (.int .u64 V1.st) := hz2.cell 4
    have q5 : wf.cell? ⟨w.heap.size + 1 + 1, 5, none⟩ = some (.int .i64 V1.tick) := hz2.cell 5
    have q6 : wf.cell? ⟨w.heap.size + 1 + 1, 6, none⟩ = some (.slice s1.A s1.n s1.c) := hz2.cell 6
    refine bodyPost_ret (v := .tuple #[.agg #[.int .i64 V1.map.W, .int .i64 V1.map.H, .slice s1.ms.A s1.ms.n s1.ms.c, .slice s1.ms.A2 s1.ms.n2 s1.ms.c2, .int .u64 V1.st, .int .i64 V1.tick, .slice s1.A s1.n s1.c], .int .i64 E1]) (by simp [results, Try.results25, go_sem, q0, q1, q2, q3, q4, q5, q6]) rfl ?_
    exact ⟨s1, rfl, hW2.1, HMS.out, hW2.2, hB2⟩

  have k1' : (o.kind == 1) = false := beq_eq_false_iff_ne.2 k1
  rw [if_neg k1] at hact
  by_cases k2 : o.kind = 2
  · have k2' : (o.kind == 2) = true := by rw [k2]; rfl
    rw [if_pos k2] at hact
    clear k1 k2
    injection hact with hact he
    have HF := Lib.hid (fun W (hW : Below w.heap.size w W) => (by have := wLeave v s o.id W ((h.below hW).upto hW.size) (by have := hg.n; omega); rw [hact, he] at this; exact this : Calls Try.prog _ _ W fun r w' => GivesE W w' v s r V1 E1))
    clear he
    clear hact
    go_enter Try.func25, Try.ntmps25
    go_wp2_with (go_at_call 45; refine (HF.out _ (by repeat (first | with_reducible exact Below.refl _ _ | with_reducible assumption | with_reducible refine Below.drew ?_ | with_reducible refine below_drews ?_ _ | with_reducible refine Below.alloc ?_ (by first | omega | (simp; done) | (simp; omega)) _ | with_reducible refine Below.setCell ?_ (by first | omega | (simp; done) | (simp; omega)) _))).mono ?_; rintro r w1 ⟨s1, rfl, hat, hms, hkp, hb1⟩; have mz1 : Blk w1 (w.heap.size + 1 + 1) 58 #[.int .i64 0, .int .i64 0, .slice none 0 0, .slice none 0 0, .int .u64 0, .int .i64 0, .slice none 0 0] := Blk.below HZ0.out hb1 (by simp); have B1 : Below w.heap.size w w1 := Below.trans (by repeat (first | with_reducible exact Below.refl _ _ | with_reducible assumption | with_reducible refine Below.drew ?_ | with_reducible refine below_drews ?_ _ | with_reducible refine Below.alloc ?_ (by first | omega | (simp; done) | (simp; omega)) _ | with_reducible refine Below.setCell ?_ (by first | omega | (simp; done) | (simp; omega)) _)) (hb1.mono (by simp; omega)); have l1 : w.heap.size + 1 + 1 < w1.heap.size := mz1.lt; have x0 : w1.cell? ⟨w.heap.size + 1 + 1, 0, none⟩ = some (.int .i64 0) := mz1.cell 0; have x1 : w1.cell? ⟨w.heap.size + 1 + 1, 1, none⟩ = some (.int .i64 0) := mz1.cell 1; have x2 : w1.cell? ⟨w.heap.size + 1 + 1, 2, none⟩ = some (.slice none 0 0) := mz1.cell 2; have x3 : w1.cell? ⟨w.heap.size + 1 + 1, 3, none⟩ = some (.slice none 0 0) := mz1.cell 3; have x4 : w1.cell? ⟨w.heap.size + 1 + 1, 4, none⟩ = some (.int .u64 0) := mz1.cell 4; have x5 : w1.cell? ⟨w.heap.size + 1 + 1, 5, none⟩ = some (.int .i64 0) := mz1.cell 5; have x6 : w1.cell? ⟨w.heap.size + 1 + 1, 6, none⟩ = some (.slice none 0 0) := mz1.cell 6; have z0 := mz1.frozen 0; have z1 := mz1.frozen 1; have z2 := mz1.frozen 2; have z3 := mz1.frozen 3; have z4 := mz1.frozen 4; have z5 := mz1.frozen 5; have z6 := mz1.frozen 6; have HZ1 := Lib.hid mz1; have HB1 := Lib.hid B1; have HAT := Lib.hid hat; have HKP := Lib.hid hkp; have HMS := Lib.hid hms; clear mz1 B1 hat hkp hb1 hms)
    have b1 := HB1.out
    have hB2 : Below w.heap.size w (((((((w1.setCell ⟨w.heap.size + 1 + 1, 0, none⟩ (.int .i64 V1.map.W)).setCell ⟨w.heap.size + 1 + 1, 1, none⟩ (.int .i64 V1.map.H)).setCell ⟨w.heap.size + 1 + 1, 2, none⟩ (.slice s1.ms.A s1.ms.n s1.ms.c)).setCell ⟨w.heap.size + 1 + 1, 3, none⟩ (.slice s1.ms.A2 s1.ms.n2 s1.ms.c2)).setCell ⟨w.heap.size + 1 + 1, 4, none⟩ (.int .u64 V1.st)).setCell ⟨w.heap.size + 1 + 1, 5, none⟩ (.int .i64 V1.tick)).setCell ⟨w.heap.size + 1 + 1, 6, none⟩ (.slice s1.A s1.n s1.c)) := (by repeat (first | with_reducible exact Below.refl _ _ | with_reducible assumption | with_reducible refine Below.drew ?_ | with_reducible refine below_drews ?_ _ | with_reducible refine Below.alloc ?_ (by first | omega | (simp; done) | (simp; omega)) _ | with_reducible refine Below.setCell ?_ (by first | omega | (simp; done) | (simp; omega)) _))
    have hz2 : Blk (((((((w1.setCell ⟨w.heap.size + 1 + 1, 0, none⟩ (.int .i64 V1.map.W)).setCell ⟨w.heap.size + 1 + 1, 1, none⟩ (.int .i64 V1.map.H)).setCell ⟨w.heap.size + 1 + 1, 2, none⟩ (.slice s1.ms.A s1.ms.n s1.ms.c)).setCell ⟨w.heap.size + 1 + 1, 3, none⟩ (.slice s1.ms.A2 s1.ms.n2 s1.ms.c2)).setCell ⟨w.heap.size + 1 + 1, 4, none⟩ (.int .u64 V1.st)).setCell ⟨w.heap.size + 1 + 1, 5, none⟩ (.int .i64 V1.tick)).setCell ⟨w.heap.size + 1 + 1, 6, none⟩ (.slice s1.A s1.n s1.c)) (w.heap.size + 1 + 1) 58 #[.int .i64 V1.map.W, .int .i64 V1.map.H, .slice s1.ms.A s1.ms.n s1.ms.c, .slice s1.ms.A2 s1.ms.n2 s1.ms.c2, .int .u64 V1.st, .int .i64 V1.tick, .slice s1.A s1.n s1.c] := (((((((HZ1.out.set_ 0 (.int .i64 V1.map.W)).set_ 1 (.int .i64 V1.map.H)).set_ 2 (.slice s1.ms.A s1.ms.n s1.ms.c)).set_ 3 (.slice s1.ms.A2 s1.ms.n2 s1.ms.c2)).set_ 4 (.int .u64 V1.st)).set_ 5 (.int .i64 V1.tick)).set_ 6 (.slice s1.A s1.n s1.c))
    have hzz : ∀ j : Nat, j ≠ w.heap.size + 1 + 1 → (((((((w1.setCell ⟨w.heap.size + 1 + 1, 0, none⟩ (.int .i64 V1.map.W)).setCell ⟨w.heap.size + 1 + 1, 1, none⟩ (.int .i64 V1.map.H)).setCell ⟨w.heap.size + 1 + 1, 2, none⟩ (.slice s1.ms.A s1.ms.n s1.ms.c)).setCell ⟨w.heap.size + 1 + 1, 3, none⟩ (.slice s1.ms.A2 s1.ms.n2 s1.ms.c2)).setCell ⟨w.heap.size + 1 + 1, 4, none⟩ (.int .u64 V1.st)).setCell ⟨w.heap.size + 1 + 1, 5, none⟩ (.int .i64 V1.tick)).setCell ⟨w.heap.size + 1 + 1, 6, none⟩ (.slice s1.A s1.n s1.c)).heap[j]? = w1.heap[j]? := fun j hj => (Below.heap_setCell _ _ _ j hj).trans ((Below.heap_setCell _ _ _ j hj).trans ((Below.heap_setCell _ _ _ j hj).trans ((Below.heap_setCell _ _ _ j hj).trans ((Below.heap_setCell _ _ _ j hj).trans ((Below.heap_setCell _ _ _ j hj).trans (Below.heap_setCell _ _ _ j hj))))))
    have hW2 : WorldAt (((((((w1.setCell ⟨w.heap.size + 1 + 1, 0, none⟩ (.int .i64 V1.map.W)).setCell ⟨w.heap.size + 1 + 1, 1, none⟩ (.int .i64 V1.map.H)).setCell ⟨w.heap.size + 1 + 1, 2, none⟩ (.slice s1.ms.A s1.ms.n s1.ms.c)).setCell ⟨w.heap.size + 1 + 1, 3, none⟩ (.slice s1.ms.A2 s1.ms.n2 s1.ms.c2)).setCell ⟨w.heap.size + 1 + 1, 4, none⟩ (.int .u64 V1.st)).setCell ⟨w.heap.size + 1 + 1, 5, none⟩ (.int .i64 V1.tick)).setCell ⟨w.heap.size + 1 + 1, 6, none⟩ (.slice s1.A s1.n s1.c)) ((((((((w1.setCell ⟨w.heap.size + 1 + 1, 0, none⟩ (.int .i64 V1.map.W)).setCell ⟨w.heap.size + 1 + 1, 1, none⟩ (.int .i64 V1.map.H)).setCell ⟨w.heap.size + 1 + 1, 2, none⟩ (.slice s1.ms.A s1.ms.n s1.ms.c)).setCell ⟨w.heap.size + 1 + 1, 3, none⟩ (.slice s1.ms.A2 s1.ms.n2 s1.ms.c2)).setCell ⟨w.heap.size + 1 + 1, 4, none⟩ (.int .u64 V1.st)).setCell ⟨w.heap.size + 1 + 1, 5, none⟩ (.int .i64 V1.tick)).setCell ⟨w.heap.size + 1 + 1, 6, none⟩ (.slice s1.A s1.n s1.c))).heap.size V1 s1 ∧ Held w (((((((w1.setCell ⟨w.heap.size + 1 + 1, 0, none⟩ (.int .i64 V1.map.W)).setCell ⟨w.heap.size + 1 + 1, 1, none⟩ (.int .i64 V1.map.H)).setCell ⟨w.heap.size + 1 + 1, 2, none⟩ (.slice s1.ms.A s1.ms.n s1.ms.c)).setCell ⟨w.heap.size + 1 + 1, 3, none⟩ (.slice s1.ms.A2 s1.ms.n2 s1.ms.c2)).setCell ⟨w.heap.size + 1 + 1, 4, none⟩ (.int .u64 V1.st)).setCell ⟨w.heap.size + 1 + 1, 5, none⟩ (.int .i64 V1.tick)).setCell ⟨w.heap.size + 1 + 1, 6, none⟩ (.slice s1.A s1.n s1.c)) s s1 V1.l := held_far HW.out HAT.out HMS.out HKP.out hB2 hzz (by omega) (by simp) HMV.out
    clear hzz
    generalize (((((((w1.setCell ⟨w.heap.size + 1 + 1, 0, none⟩ (.int .i64 V1.map.W)).setCell ⟨w.heap.size + 1 + 1, 1, none⟩ (.int .i64 V1.map.H)).setCell ⟨w.heap.size + 1 + 1, 2, none⟩ (.slice s1.ms.A s1.ms.n s1.ms.c)).setCell ⟨w.heap.size + 1 + 1, 3, none⟩ (.slice s1.ms.A2 s1.ms.n2 s1.ms.c2)).setCell ⟨w.heap.size + 1 + 1, 4, none⟩ (.int .u64 V1.st)).setCell ⟨w.heap.size + 1 + 1, 5, none⟩ (.int .i64 V1.tick)).setCell ⟨w.heap.size + 1 + 1, 6, none⟩ (.slice s1.A s1.n s1.c)) = wf at hB2 hz2 hW2 ⊢
    have q0 : wf.cell? ⟨w.heap.size + 1 + 1, 0, none⟩ = some (.int .i64 V1.map.W) := hz2.cell 0
    have q1 : wf.cell? ⟨w.heap.size + 1 + 1, 1, none⟩ = some (.int .i64 V1.map.H) := hz2.cell 1
    have q2 : wf.cell? ⟨w.heap.size + 1 + 1, 2, none⟩ = some (.slice s1.ms.A s1.ms.n s1.ms.c) := hz2.cell 2
    have q3 : wf.cell? ⟨w.heap.size + 1 + 1, 3, none⟩ = some (.slice s1.ms.A2 s1.ms.n2 s1.ms.c2) := hz2.cell 3
    have q4 : wf.cell? ⟨w.heap.size + 1 + 1, 4, none⟩ = some (.int .u64 V1.st) := hz2.cell 4
    have q5 : wf.cell? ⟨w.heap.size + 1 + 1, 5, none⟩ = some (.int .i64 V1.tick) := hz2.cell 5
    have q6 : wf.cell? ⟨w.heap.size + 1 + 1, 6, none⟩ = some (.slice s1.A s1.n s1.c) := hz2.cell 6
    refine bodyPost_ret (v := .tuple #[.agg #[.int .i64 V1.map.W, .int .i64 V1.map.H, .slice s1.ms.A s1.ms.n s1.ms.c, .slice s1.ms.A2 s1.ms.n2 s1.ms.c2, .int .u64 V1.st, .int .i64 V1.tick, .slice s1.A s1.n s1.c], .int .i64 E1]) (by simp [results, Try.results25, go_sem, q0, q1, q2, q3, q4, q5, q6]) rfl ?_
    exact ⟨s1, rfl, hW2.1, HMS.out, hW2.2, hB2⟩

  have k2' : (o.kind == 2) = false := beq_eq_false_iff_ne.2 k2
  rw [if_neg k2] at hact
  by_cases k3 : o.kind = 3
  · have k3' : (o.kind == 3) = true := by rw [k3]; rfl
    rw [if_pos k3] at hact
    clear k1 k2 k3
    injection hact with hact he
    subst he
    have HF := Lib.hid (fun W (hW : Below w.heap.size w W) => (by have := wHit' v s o.id o.by_ W ((h.below hW).upto hW.size) hg ho.1; rw [hact] at this; exact this : Calls Try.prog _ _ W fun r w' => Gives W w' v s r V1))
    clear hact
    go_enter Try.func25, Try.ntmps25
    go_wp2_with (go_at_call 46; refine (HF.out _ (by repeat (first | with_reducible exact Below.refl _ _ | with_reducible assumption | with_reducible refine Below.drew ?_ | with_reducible refine below_drews ?_ _ | with_reducible refine Below.alloc ?_ (by first | omega | (simp; done) | (simp; omega)) _ | with_reducible refine Below.setCell ?_ (by first | omega | (simp; done) | (simp; omega)) _))).mono ?_; rintro r w1 ⟨s1, rfl, hat, hms, hkp, hb1⟩; have mz1 : Blk w1 (w.heap.size + 1 + 1) 58 #[.int .i64 0, .int .i64 0, .slice none 0 0, .slice none 0 0, .int .u64 0, .int .i64 0, .slice none 0 0] := Blk.below HZ0.out hb1 (by simp); have B1 : Below w.heap.size w w1 := Below.trans (by repeat (first | with_reducible exact Below.refl _ _ | with_reducible assumption | with_reducible refine Below.drew ?_ | with_reducible refine below_drews ?_ _ | with_reducible refine Below.alloc ?_ (by first | omega | (simp; done) | (simp; omega)) _ | with_reducible refine Below.setCell ?_ (by first | omega | (simp; done) | (simp; omega)) _)) (hb1.mono (by simp; omega)); have l1 : w.heap.size + 1 + 1 < w1.heap.size := mz1.lt; have x0 : w1.cell? ⟨w.heap.size + 1 + 1, 0, none⟩ = some (.int .i64 0) := mz1.cell 0; have x1 : w1.cell? ⟨w.heap.size + 1 + 1, 1, none⟩ = some (.int .i64 0) := mz1.cell 1; have x2 : w1.cell? ⟨w.heap.size + 1 + 1, 2, none⟩ = some (.slice none 0 0) := mz1.cell 2; have x3 : w1.cell? ⟨w.heap.size + 1 + 1, 3, none⟩ = some (.slice none 0 0) := mz1.cell 3; have x4 : w1.cell? ⟨w.heap.size + 1 + 1, 4, none⟩ = some (.int .u64 0) := mz1.cell 4; have x5 : w1.cell? ⟨w.heap.size + 1 + 1, 5, none⟩ = some (.int .i64 0) := mz1.cell 5; have x6 : w1.cell? ⟨w.heap.size + 1 + 1, 6, none⟩ = some (.slice none 0 0) := mz1.cell 6; have z0 := mz1.frozen 0; have z1 := mz1.frozen 1; have z2 := mz1.frozen 2; have z3 := mz1.frozen 3; have z4 := mz1.frozen 4; have z5 := mz1.frozen 5; have z6 := mz1.frozen 6; have HZ1 := Lib.hid mz1; have HB1 := Lib.hid B1; have HAT := Lib.hid hat; have HKP := Lib.hid hkp; have HMS := Lib.hid hms; clear mz1 B1 hat hkp hb1 hms)
    have b1 := HB1.out
    have hB2 : Below w.heap.size w (((((((w1.setCell ⟨w.heap.size + 1 + 1, 0, none⟩ (.int .i64 V1.map.W)).setCell ⟨w.heap.size + 1 + 1, 1, none⟩ (.int .i64 V1.map.H)).setCell ⟨w.heap.size + 1 + 1, 2, none⟩ (.slice s1.ms.A s1.ms.n s1.ms.c)).setCell ⟨w.heap.size + 1 + 1, 3, none⟩ (.slice s1.ms.A2 s1.ms.n2 s1.ms.c2)).setCell ⟨w.heap.size + 1 + 1, 4, none⟩ (.int .u64 V1.st)).setCell ⟨w.heap.size + 1 + 1, 5, none⟩ (.int .i64 V1.tick)).setCell ⟨w.heap.size + 1 + 1, 6, none⟩ (.slice s1.A s1.n s1.c)) := (by repeat (first | with_reducible exact Below.refl _ _ | with_reducible assumption | with_reducible refine Below.drew ?_ | with_reducible refine below_drews ?_ _ | with_reducible refine Below.alloc ?_ (by first | omega | (simp; done) | (simp; omega)) _ | with_reducible refine Below.setCell ?_ (by first | omega | (simp; done) | (simp; omega)) _))
    have hz2 : Blk (((((((w1.setCell ⟨w.heap.size + 1 + 1, 0, none⟩ (.int .i64 V1.map.W)).setCell ⟨w.heap.size + 1 + 1, 1, none⟩ (.int .i64 V1.map.H)).setCell ⟨w.heap.size + 1 + 1, 2, none⟩ (.slice s1.ms.A s1.ms.n s1.ms.c)).setCell ⟨w.heap.size + 1 + 1, 3, none⟩ (.slice s1.ms.A2 s1.ms.n2 s1.ms.c2)).setCell ⟨w.heap.size + 1 + 1, 4, none⟩ (.int .u64 V1.st)).setCell ⟨w.heap.size + 1 + 1, 5, none⟩ (.int .i64 V1.tick)).setCell ⟨w.heap.size + 1 + 1, 6, none⟩ (.slice s1.A s1.n s1.c)) (w.heap.size + 1 + 1) 58 #[.int .i64 V1.map.W, .int .i64 V1.map.H, .slice s1.ms.A s1.ms.n s1.ms.c, .slice s1.ms.A2 s1.ms.n2 s1.ms.c2, .int .u64 V1.st, .int .i64 V1.tick, .slice s1.A s1.n s1.c] := (((((((HZ1.out.set_ 0 (.int .i64 V1.map.W)).set_ 1 (.int .i64 V1.map.H)).set_ 2 (.slice s1.ms.A s1.ms.n s1.ms.c)).set_ 3 (.slice s1.ms.A2 s1.ms.n2 s1.ms.c2)).set_ 4 (.int .u64 V1.st)).set_ 5 (.int .i64 V1.tick)).set_ 6 (.slice s1.A s1.n s1.c))
    have hzz : ∀ j : Nat, j ≠ w.heap.size + 1 + 1 → (((((((w1.setCell ⟨w.heap.size + 1 + 1, 0, none⟩ (.int .i64 V1.map.W)).setCell ⟨w.heap.size + 1 + 1, 1, none⟩ (.int .i64 V1.map.H)).setCell ⟨w.heap.size + 1 + 1, 2, none⟩ (.slice s1.ms.A s1.ms.n s1.ms.c)).setCell ⟨w.heap.size + 1 + 1, 3, none⟩ (.slice s1.ms.A2 s1.ms.n2 s1.ms.c2)).setCell ⟨w.heap.size + 1 + 1, 4, none⟩ (.int .u64 V1.st)).setCell ⟨w.heap.size + 1 + 1, 5, none⟩ (.int .i64 V1.tick)).setCell ⟨w.heap.size + 1 + 1, 6, none⟩ (.slice s1.A s1.n s1.c)).heap[j]? = w1.heap[j]? := fun j hj => (Below.heap_setCell _ _ _ j hj).trans ((Below.heap_setCell _ _ _ j hj).trans ((Below.heap_setCell _ _ _ j hj).trans ((Below.heap_setCell _ _ _ j hj).trans ((Below.heap_setCell _ _ _ j hj).trans ((Below.heap_setCell _ _ _ j hj).trans (Below.heap_setCell _ _ _ j hj))))))
    have hW2 : WorldAt (((((((w1.setCell ⟨w.heap.size + 1 + 1, 0, none⟩ (.int .i64 V1.map.W)).setCell ⟨w.heap.size + 1 + 1, 1, none⟩ (.int .i64 V1.map.H)).setCell ⟨w.heap.size + 1 + 1, 2, none⟩ (.slice s1.ms.A s1.ms.n s1.ms.c)).setCell ⟨w.heap.size + 1 + 1, 3, none⟩ (.slice s1.ms.A2 s1.ms.n2 s1.ms.c2)).setCell ⟨w.heap.size + 1 + 1, 4, none⟩ (.int .u64 V1.st)).setCell ⟨w.heap.size + 1 + 1, 5, none⟩ (.int .i64 V1.tick)).setCell ⟨w.heap.size + 1 + 1, 6, none⟩ (.slice s1.A s1.n s1.c)) ((((((((w1.setCell ⟨w.heap.size + 1 + 1, 0, none⟩ (.int .i64 V1.map.W)).setCell ⟨w.heap.size + 1 + 1, 1, none⟩ (.int .i64 V1.map.H)).setCell ⟨w.heap.size + 1 + 1, 2, none⟩ (.slice s1.ms.A s1.ms.n s1.ms.c)).setCell ⟨w.heap.size + 1 + 1, 3, none⟩ (.slice s1.ms.A2 s1.ms.n2 s1.ms.c2)).setCell ⟨w.heap.size + 1 + 1, 4, none⟩ (.int .u64 V1.st)).setCell ⟨w.heap.size + 1 + 1, 5, none⟩ (.int .i64 V1.tick)).setCell ⟨w.heap.size + 1 + 1, 6, none⟩ (.slice s1.A s1.n s1.c))).heap.size V1 s1 ∧ Held w (((((((w1.setCell ⟨w.heap.size + 1 + 1, 0, none⟩ (.int .i64 V1.map.W)).setCell ⟨w.heap.size + 1 + 1, 1, none⟩ (.int .i64 V1.map.H)).setCell ⟨w.heap.size + 1 + 1, 2, none⟩ (.slice s1.ms.A s1.ms.n s1.ms.c)).setCell ⟨w.heap.size + 1 + 1, 3, none⟩ (.slice s1.ms.A2 s1.ms.n2 s1.ms.c2)).setCell ⟨w.heap.size + 1 + 1, 4, none⟩ (.int .u64 V1.st)).setCell ⟨w.heap.size + 1 + 1, 5, none⟩ (.int .i64 V1.tick)).setCell ⟨w.heap.size + 1 + 1, 6, none⟩ (.slice s1.A s1.n s1.c)) s s1 V1.l := held_far HW.out HAT.out HMS.out HKP.out hB2 hzz (by omega) (by simp) HMV.out
    clear hzz
    generalize (((((((w1.setCell ⟨w.heap.size + 1 + 1, 0, none⟩ (.int .i64 V1.map.W)).setCell ⟨w.heap.size + 1 + 1, 1, none⟩ (.int .i64 V1.map.H)).setCell ⟨w.heap.size + 1 + 1, 2, none⟩ (.slice s1.ms.A s1.ms.n s1.ms.c)).setCell ⟨w.heap.size + 1 + 1, 3, none⟩ (.slice s1.ms.A2 s1.ms.n2 s1.ms.c2)).setCell ⟨w.heap.size + 1 + 1, 4, none⟩ (.int .u64 V1.st)).setCell ⟨w.heap.size + 1 + 1, 5, none⟩ (.int .i64 V1.tick)).setCell ⟨w.heap.size + 1 + 1, 6, none⟩ (.slice s1.A s1.n s1.c)) = wf at hB2 hz2 hW2 ⊢
    have q0 : wf.cell? ⟨w.heap.size + 1 + 1, 0, none⟩ = some (.int .i64 V1.map.W) := hz2.cell 0
    have q1 : wf.cell? ⟨w.heap.size + 1 + 1, 1, none⟩ = some (.int .i64 V1.map.H) := hz2.cell 1
    have q2 : wf.cell? ⟨w.heap.size + 1 + 1, 2, none⟩ = some (.slice s1.ms.A s1.ms.n s1.ms.c) := hz2.cell 2
    have q3 : wf.cell? ⟨w.heap.size + 1 + 1, 3, none⟩ = some (.slice s1.ms.A2 s1.ms.n2 s1.ms.c2) := hz2.cell 3
    have q4 : wf.cell? ⟨w.heap.size + 1 + 1, 4, none⟩ = some (.int .u64 V1.st) := hz2.cell 4
    have q5 : wf.cell? ⟨w.heap.size + 1 + 1, 5, none⟩ = some (.int .i64 V1.tick) := hz2.cell 5
    have q6 : wf.cell? ⟨w.heap.size + 1 + 1, 6, none⟩ = some (.slice s1.A s1.n s1.c) := hz2.cell 6
    refine bodyPost_ret (v := .tuple #[.agg #[.int .i64 V1.map.W, .int .i64 V1.map.H, .slice s1.ms.A s1.ms.n s1.ms.c, .slice s1.ms.A2 s1.ms.n2 s1.ms.c2, .int .u64 V1.st, .int .i64 V1.tick, .slice s1.A s1.n s1.c], .int .i64 0]) (by simp [results, Try.results25, go_sem, q0, q1, q2, q3, q4, q5, q6]) rfl ?_
    exact ⟨s1, rfl, hW2.1, HMS.out, hW2.2, hB2⟩

  have k3' : (o.kind == 3) = false := beq_eq_false_iff_ne.2 k3
  rw [if_neg k3] at hact
  by_cases k4 : o.kind = 4
  · have k4' : (o.kind == 4) = true := by rw [k4]; rfl
    rw [if_pos k4] at hact
    clear k1 k2 k3 k4
    injection hact with hact he
    subst he
    have HF := Lib.hid (fun W (hW : Below w.heap.size w W) => (by have := wGo' v s o.c o.id W ((h.below hW).upto hW.size) hg ho.2.1 ho.2.2; rw [hact] at this; exact this : Calls Try.prog _ _ W fun r w' => Gives W w' v s r V1))
    clear hact
    go_enter Try.func25, Try.ntmps25
    go_wp2_with (go_at_call 47; refine (HF.out _ (by repeat (first | with_reducible exact Below.refl _ _ | with_reducible assumption | with_reducible refine Below.drew ?_ | with_reducible refine below_drews ?_ _ | with_reducible refine Below.alloc ?_ (by first | omega | (simp; done) | (simp; omega)) _ | with_reducible refine Below.setCell ?_ (by first | omega | (simp; done) | (simp; omega)) _))).mono ?_; rintro r w1 ⟨s1, rfl, hat, hms, hkp, hb1⟩; have mz1 : Blk w1 (w.heap.size + 1 + 1) 58 #[.int .i64 0, .int .i64 0, .slice none 0 0, .slice none 0 0, .int .u64 0, .int .i64 0, .slice none 0 0] := Blk.below HZ0.out hb1 (by simp); have B1 : Below w.heap.size w w1 := Below.trans (by repeat (first | with_reducible exact Below.refl _ _ | with_reducible assumption | with_reducible refine Below.drew ?_ | with_reducible refine below_drews ?_ _ | with_reducible refine Below.alloc ?_ (by first | omega | (simp; done) | (simp; omega)) _ | with_reducible refine Below.setCell ?_ (by first | omega | (simp; done) | (simp; omega)) _)) (hb1.mono (by simp; omega)); have l1 : w.heap.size + 1 + 1 < w1.heap.size := mz1.lt; have x0 : w1.cell? ⟨w.heap.size + 1 + 1, 0, none⟩ = some (.int .i64 0) := mz1.cell 0; have x1 : w1.cell? ⟨w.heap.size + 1 + 1, 1, none⟩ = some (.int .i64 0) := mz1.cell 1; have x2 : w1.cell? ⟨w.heap.size + 1 + 1, 2, none⟩ = some (.slice none 0 0) := mz1.cell 2; have x3 : w1.cell? ⟨w.heap.size + 1 + 1, 3, none⟩ = some (.slice none 0 0) := mz1.cell 3; have x4 : w1.cell? ⟨w.heap.size + 1 + 1, 4, none⟩ = some (.int .u64 0) := mz1.cell 4; have x5 : w1.cell? ⟨w.heap.size + 1 + 1, 5, none⟩ = some (.int .i64 0) := mz1.cell 5; have x6 : w1.cell? ⟨w.heap.size + 1 + 1, 6, none⟩ = some (.slice none 0 0) := mz1.cell 6; have z0 := mz1.frozen 0; have z1 := mz1.frozen 1; have z2 := mz1.frozen 2; have z3 := mz1.frozen 3; have z4 := mz1.frozen 4; have z5 := mz1.frozen 5; have z6 := mz1.frozen 6; have HZ1 := Lib.hid mz1; have HB1 := Lib.hid B1; have HAT := Lib.hid hat; have HKP := Lib.hid hkp; have HMS := Lib.hid hms; clear mz1 B1 hat hkp hb1 hms)
    have b1 := HB1.out
    have hB2 : Below w.heap.size w (((((((w1.setCell ⟨w.heap.size + 1 + 1, 0, none⟩ (.int .i64 V1.map.W)).setCell ⟨w.heap.size + 1 + 1, 1, none⟩ (.int .i64 V1.map.H)).setCell ⟨w.heap.size + 1 + 1, 2, none⟩ (.slice s1.ms.A s1.ms.n s1.ms.c)).setCell ⟨w.heap.size + 1 + 1, 3, none⟩ (.slice s1.ms.A2 s1.ms.n2 s1.ms.c2)).setCell ⟨w.heap.size + 1 + 1, 4, none⟩ (.int .u64 V1.st)).setCell ⟨w.heap.size + 1 + 1, 5, none⟩ (.int .i64 V1.tick)).setCell ⟨w.heap.size + 1 + 1, 6, none⟩ (.slice s1.A s1.n s1.c)) := (by repeat (first | with_reducible exact Below.refl _ _ | with_reducible assumption | with_reducible refine Below.drew ?_ | with_reducible refine below_drews ?_ _ | with_reducible refine Below.alloc ?_ (by first | omega | (simp; done) | (simp; omega)) _ | with_reducible refine Below.setCell ?_ (by first | omega | (simp; done) | (simp; omega)) _))
    have hz2 : Blk (((((((w1.setCell ⟨w.heap.size + 1 + 1, 0, none⟩ (.int .i64 V1.map.W)).setCell ⟨w.heap.size + 1 + 1, 1, none⟩ (.int .i64 V1.map.H)).setCell ⟨w.heap.size + 1 + 1, 2, none⟩ (.slice s1.ms.A s1.ms.n s1.ms.c)).setCell ⟨w.heap.size + 1 + 1, 3, none⟩ (.slice s1.ms.A2 s1.ms.n2 s1.ms.c2)).setCell ⟨w.heap.size + 1 + 1, 4, none⟩ (.int .u64 V1.st)).setCell ⟨w.heap.size + 1 + 1, 5, none⟩ (.int .i64 V1.tick)).setCell ⟨w.heap.size + 1 + 1, 6, none⟩ (.slice s1.A s1.n s1.c)) (w.heap.size + 1 + 1) 58 #[.int .i64 V1.map.W, .int .i64 V1.map.H, .slice s1.ms.A s1.ms.n s1.ms.c, .slice s1.ms.A2 s1.ms.n2 s1.ms.c2, .int .u64 V1.st, .int .i64 V1.tick, .slice s1.A s1.n s1.c] := (((((((HZ1.out.set_ 0 (.int .i64 V1.map.W)).set_ 1 (.int .i64 V1.map.H)).set_ 2 (.slice s1.ms.A s1.ms.n s1.ms.c)).set_ 3 (.slice s1.ms.A2 s1.ms.n2 s1.ms.c2)).set_ 4 (.int .u64 V1.st)).set_ 5 (.int .i64 V1.tick)).set_ 6 (.slice s1.A s1.n s1.c))
    have hzz : ∀ j : Nat, j ≠ w.heap.size + 1 + 1 → (((((((w1.setCell ⟨w.heap.size + 1 + 1, 0, none⟩ (.int .i64 V1.map.W)).setCell ⟨w.heap.size + 1 + 1, 1, none⟩ (.int .i64 V1.map.H)).setCell ⟨w.heap.size + 1 + 1, 2, none⟩ (.slice s1.ms.A s1.ms.n s1.ms.c)).setCell ⟨w.heap.size + 1 + 1, 3, none⟩ (.slice s1.ms.A2 s1.ms.n2 s1.ms.c2)).setCell ⟨w.heap.size + 1 + 1, 4, none⟩ (.int .u64 V1.st)).setCell ⟨w.heap.size + 1 + 1, 5, none⟩ (.int .i64 V1.tick)).setCell ⟨w.heap.size + 1 + 1, 6, none⟩ (.slice s1.A s1.n s1.c)).heap[j]? = w1.heap[j]? := fun j hj => (Below.heap_setCell _ _ _ j hj).trans ((Below.heap_setCell _ _ _ j hj).trans ((Below.heap_setCell _ _ _ j hj).trans ((Below.heap_setCell _ _ _ j hj).trans ((Below.heap_setCell _ _ _ j hj).trans ((Below.heap_setCell _ _ _ j hj).trans (Below.heap_setCell _ _ _ j hj))))))
    have hW2 : WorldAt (((((((w1.setCell ⟨w.heap.size + 1 + 1, 0, none⟩ (.int .i64 V1.map.W)).setCell ⟨w.heap.size + 1 + 1, 1, none⟩ (.int .i64 V1.map.H)).setCell ⟨w.heap.size + 1 + 1, 2, none⟩ (.slice s1.ms.A s1.ms.n s1.ms.c)).setCell ⟨w.heap.size + 1 + 1, 3, none⟩ (.slice s1.ms.A2 s1.ms.n2 s1.ms.c2)).setCell ⟨w.heap.size + 1 + 1, 4, none⟩ (.int .u64 V1.st)).setCell ⟨w.heap.size + 1 + 1, 5, none⟩ (.int .i64 V1.tick)).setCell ⟨w.heap.size + 1 + 1, 6, none⟩ (.slice s1.A s1.n s1.c)) ((((((((w1.setCell ⟨w.heap.size + 1 + 1, 0, none⟩ (.int .i64 V1.map.W)).setCell ⟨w.heap.size + 1 + 1, 1, none⟩ (.int .i64 V1.map.H)).setCell ⟨w.heap.size + 1 + 1, 2, none⟩ (.slice s1.ms.A s1.ms.n s1.ms.c)).setCell ⟨w.heap.size + 1 + 1, 3, none⟩ (.slice s1.ms.A2 s1.ms.n2 s1.ms.c2)).setCell ⟨w.heap.size + 1 + 1, 4, none⟩ (.int .u64 V1.st)).setCell ⟨w.heap.size + 1 + 1, 5, none⟩ (.int .i64 V1.tick)).setCell ⟨w.heap.size + 1 + 1, 6, none⟩ (.slice s1.A s1.n s1.c))).heap.size V1 s1 ∧ Held w (((((((w1.setCell ⟨w.heap.size + 1 + 1, 0, none⟩ (.int .i64 V1.map.W)).setCell ⟨w.heap.size + 1 + 1, 1, none⟩ (.int .i64 V1.map.H)).setCell ⟨w.heap.size + 1 + 1, 2, none⟩ (.slice s1.ms.A s1.ms.n s1.ms.c)).setCell ⟨w.heap.size + 1 + 1, 3, none⟩ (.slice s1.ms.A2 s1.ms.n2 s1.ms.c2)).setCell ⟨w.heap.size + 1 + 1, 4, none⟩ (.int .u64 V1.st)).setCell ⟨w.heap.size + 1 + 1, 5, none⟩ (.int .i64 V1.tick)).setCell ⟨w.heap.size + 1 + 1, 6, none⟩ (.slice s1.A s1.n s1.c)) s s1 V1.l := held_far HW.out HAT.out HMS.out HKP.out hB2 hzz (by omega) (by simp) HMV.out
    clear hzz
    generalize (((((((w1.setCell ⟨w.heap.size + 1 + 1, 0, none⟩ (.int .i64 V1.map.W)).setCell ⟨w.heap.size + 1 + 1, 1, none⟩ (.int .i64 V1.map.H)).setCell ⟨w.heap.size + 1 + 1, 2, none⟩ (.slice s1.ms.A s1.ms.n s1.ms.c)).setCell ⟨w.heap.size + 1 + 1, 3, none⟩ (.slice s1.ms.A2 s1.ms.n2 s1.ms.c2)).setCell ⟨w.heap.size + 1 + 1, 4, none⟩ (.int .u64 V1.st)).setCell ⟨w.heap.size + 1 + 1, 5, none⟩ (.int .i64 V1.tick)).setCell ⟨w.heap.size + 1 + 1, 6, none⟩ (.slice s1.A s1.n s1.c)) = wf at hB2 hz2 hW2 ⊢
    have q0 : wf.cell? ⟨w.heap.size + 1 + 1, 0, none⟩ = some (.int .i64 V1.map.W) := hz2.cell 0
    have q1 : wf.cell? ⟨w.heap.size + 1 + 1, 1, none⟩ = some (.int .i64 V1.map.H) := hz2.cell 1
    have q2 : wf.cell? ⟨w.heap.size + 1 + 1, 2, none⟩ = some (.slice s1.ms.A s1.ms.n s1.ms.c) := hz2.cell 2
    have q3 : wf.cell? ⟨w.heap.size + 1 + 1, 3, none⟩ = some (.slice s1.ms.A2 s1.ms.n2 s1.ms.c2) := hz2.cell 3
    have q4 : wf.cell? ⟨w.heap.size + 1 + 1, 4, none⟩ = some (.int .u64 V1.st) := hz2.cell 4
    have q5 : wf.cell? ⟨w.heap.size + 1 + 1, 5, none⟩ = some (.int .i64 V1.tick) := hz2.cell 5
    have q6 : wf.cell? ⟨w.heap.size + 1 + 1, 6, none⟩ = some (.slice s1.A s1.n s1.c) := hz2.cell 6
    refine bodyPost_ret (v := .tuple #[.agg #[.int .i64 V1.map.W, .int .i64 V1.map.H, .slice s1.ms.A s1.ms.n s1.ms.c, .slice s1.ms.A2 s1.ms.n2 s1.ms.c2, .int .u64 V1.st, .int .i64 V1.tick, .slice s1.A s1.n s1.c], .int .i64 0]) (by simp [results, Try.results25, go_sem, q0, q1, q2, q3, q4, q5, q6]) rfl ?_
    exact ⟨s1, rfl, hW2.1, HMS.out, hW2.2, hB2⟩

  have k4' : (o.kind == 4) = false := beq_eq_false_iff_ne.2 k4
  rw [if_neg k4] at hact
  by_cases k5 : o.kind = 5
  · have k5' : (o.kind == 5) = true := by rw [k5]; rfl
    rw [if_pos k5] at hact
    clear k1 k2 k3 k4 k5
    injection hact with hact he
    subst he
    have HF := Lib.hid (fun W (hW : Below w.heap.size w W) => (by have := wTick v s W ((h.below hW).upto hW.size) (by have := hg.n; omega) hg.p1 hg.p2 hg.ok; rw [hact] at this; exact this : Calls Try.prog _ _ W fun r w' => Gives W w' v s r V1))
    clear hact
    go_enter Try.func25, Try.ntmps25
    go_wp2_with (go_at_call 27; refine (HF.out _ (by repeat (first | with_reducible exact Below.refl _ _ | with_reducible assumption | with_reducible refine Below.drew ?_ | with_reducible refine below_drews ?_ _ | with_reducible refine Below.alloc ?_ (by first | omega | (simp; done) | (simp; omega)) _ | with_reducible refine Below.setCell ?_ (by first | omega | (simp; done) | (simp; omega)) _))).mono ?_; rintro r w1 ⟨s1, rfl, hat, hms, hkp, hb1⟩; have mz1 : Blk w1 (w.heap.size + 1 + 1) 58 #[.int .i64 0, .int .i64 0, .slice none 0 0, .slice none 0 0, .int .u64 0, .int .i64 0, .slice none 0 0] := Blk.below HZ0.out hb1 (by simp); have B1 : Below w.heap.size w w1 := Below.trans (by repeat (first | with_reducible exact Below.refl _ _ | with_reducible assumption | with_reducible refine Below.drew ?_ | with_reducible refine below_drews ?_ _ | with_reducible refine Below.alloc ?_ (by first | omega | (simp; done) | (simp; omega)) _ | with_reducible refine Below.setCell ?_ (by first | omega | (simp; done) | (simp; omega)) _)) (hb1.mono (by simp; omega)); have l1 : w.heap.size + 1 + 1 < w1.heap.size := mz1.lt; have x0 : w1.cell? ⟨w.heap.size + 1 + 1, 0, none⟩ = some (.int .i64 0) := mz1.cell 0; have x1 : w1.cell? ⟨w.heap.size + 1 + 1, 1, none⟩ = some (.int .i64 0) := mz1.cell 1; have x2 : w1.cell? ⟨w.heap.size + 1 + 1, 2, none⟩ = some (.slice none 0 0) := mz1.cell 2; have x3 : w1.cell? ⟨w.heap.size + 1 + 1, 3, none⟩ = some (.slice none 0 0) := mz1.cell 3; have x4 : w1.cell? ⟨w.heap.size + 1 + 1, 4, none⟩ = some (.int .u64 0) := mz1.cell 4; have x5 : w1.cell? ⟨w.heap.size + 1 + 1, 5, none⟩ = some (.int .i64 0) := mz1.cell 5; have x6 : w1.cell? ⟨w.heap.size + 1 + 1, 6, none⟩ = some (.slice none 0 0) := mz1.cell 6; have z0 := mz1.frozen 0; have z1 := mz1.frozen 1; have z2 := mz1.frozen 2; have z3 := mz1.frozen 3; have z4 := mz1.frozen 4; have z5 := mz1.frozen 5; have z6 := mz1.frozen 6; have HZ1 := Lib.hid mz1; have HB1 := Lib.hid B1; have HAT := Lib.hid hat; have HKP := Lib.hid hkp; have HMS := Lib.hid hms; clear mz1 B1 hat hkp hb1 hms)
    have b1 := HB1.out
    have hB2 : Below w.heap.size w (((((((w1.setCell ⟨w.heap.size + 1 + 1, 0, none⟩ (.int .i64 V1.map.W)).setCell ⟨w.heap.size + 1 + 1, 1, none⟩ (.int .i64 V1.map.H)).setCell ⟨w.heap.size + 1 + 1, 2, none⟩ (.slice s1.ms.A s1.ms.n s1.ms.c)).setCell ⟨w.heap.size + 1 + 1, 3, none⟩ (.slice s1.ms.A2 s1.ms.n2 s1.ms.c2)).setCell ⟨w.heap.size + 1 + 1, 4, none⟩ (.int .u64 V1.st)).setCell ⟨w.heap.size + 1 + 1, 5, none⟩ (.int .i64 V1.tick)).setCell ⟨w.heap.size + 1 + 1, 6, none⟩ (.slice s1.A s1.n s1.c)) := (by repeat (first | with_reducible exact Below.refl _ _ | with_reducible assumption | with_reducible refine Below.drew ?_ | with_reducible refine below_drews ?_ _ | with_reducible refine Below.alloc ?_ (by first | omega | (simp; done) | (simp; omega)) _ | with_reducible refine Below.setCell ?_ (by first | omega | (simp; done) | (simp; omega)) _))
    have hz2 : Blk (((((((w1.setCell ⟨w.heap.size + 1 + 1, 0, none⟩ (.int .i64 V1.map.W)).setCell ⟨w.heap.size + 1 + 1, 1, none⟩ (.int .i64 V1.map.H)).setCell ⟨w.heap.size + 1 + 1, 2, none⟩ (.slice s1.ms.A s1.ms.n s1.ms.c)).setCell ⟨w.heap.size + 1 + 1, 3, none⟩ (.slice s1.ms.A2 s1.ms.n2 s1.ms.c2)).setCell ⟨w.heap.size + 1 + 1, 4, none⟩ (.int .u64 V1.st)).setCell ⟨w.heap.size + 1 + 1, 5, none⟩ (.int .i64 V1.tick)).setCell ⟨w.heap.size + 1 + 1, 6, none⟩ (.slice s1.A s1.n s1.c)) (w.heap.size + 1 + 1) 58 #[.int .i64 V1.map.W, .int .i64 V1.map.H, .slice s1.ms.A s1.ms.n s1.ms.c, .slice s1.ms.A2 s1.ms.n2 s1.ms.c2, .int .u64 V1.st, .int .i64 V1.tick, .slice s1.A s1.n s1.c] := (((((((HZ1.out.set_ 0 (.int .i64 V1.map.W)).set_ 1 (.int .i64 V1.map.H)).set_ 2 (.slice s1.ms.A s1.ms.n s1.ms.c)).set_ 3 (.slice s1.ms.A2 s1.ms.n2 s1.ms.c2)).set_ 4 (.int .u64 V1.st)).set_ 5 (.int .i64 V1.tick)).set_ 6 (.slice s1.A s1.n s1.c))
    have hzz : ∀ j : Nat, j ≠ w.heap.size + 1 + 1 → (((((((w1.setCell ⟨w.heap.size + 1 + 1, 0, none⟩ (.int .i64 V1.map.W)).setCell ⟨w.heap.size + 1 + 1, 1, none⟩ (.int .i64 V1.map.H)).setCell ⟨w.heap.size + 1 + 1, 2, none⟩ (.slice s1.ms.A s1.ms.n s1.ms.c)).setCell ⟨w.heap.size + 1 + 1, 3, none⟩ (.slice s1.ms.A2 s1.ms.n2 s1.ms.c2)).setCell ⟨w.heap.size + 1 + 1, 4, none⟩ (.int .u64 V1.st)).setCell ⟨w.heap.size + 1 + 1, 5, none⟩ (.int .i64 V1.tick)).setCell ⟨w.heap.size + 1 + 1, 6, none⟩ (.slice s1.A s1.n s1.c)).heap[j]? = w1.heap[j]? := fun j hj => (Below.heap_setCell _ _ _ j hj).trans ((Below.heap_setCell _ _ _ j hj).trans ((Below.heap_setCell _ _ _ j hj).trans ((Below.heap_setCell _ _ _ j hj).trans ((Below.heap_setCell _ _ _ j hj).trans ((Below.heap_setCell _ _ _ j hj).trans (Below.heap_setCell _ _ _ j hj))))))
    have hW2 : WorldAt (((((((w1.setCell ⟨w.heap.size + 1 + 1, 0, none⟩ (.int .i64 V1.map.W)).setCell ⟨w.heap.size + 1 + 1, 1, none⟩ (.int .i64 V1.map.H)).setCell ⟨w.heap.size + 1 + 1, 2, none⟩ (.slice s1.ms.A s1.ms.n s1.ms.c)).setCell ⟨w.heap.size + 1 + 1, 3, none⟩ (.slice s1.ms.A2 s1.ms.n2 s1.ms.c2)).setCell ⟨w.heap.size + 1 + 1, 4, none⟩ (.int .u64 V1.st)).setCell ⟨w.heap.size + 1 + 1, 5, none⟩ (.int .i64 V1.tick)).setCell ⟨w.heap.size + 1 + 1, 6, none⟩ (.slice s1.A s1.n s1.c)) ((((((((w1.setCell ⟨w.heap.size + 1 + 1, 0, none⟩ (.int .i64 V1.map.W)).setCell ⟨w.heap.size + 1 + 1, 1, none⟩ (.int .i64 V1.map.H)).setCell ⟨w.heap.size + 1 + 1, 2, none⟩ (.slice s1.ms.A s1.ms.n s1.ms.c)).setCell ⟨w.heap.size + 1 + 1, 3, none⟩ (.slice s1.ms.A2 s1.ms.n2 s1.ms.c2)).setCell ⟨w.heap.size + 1 + 1, 4, none⟩ (.int .u64 V1.st)).setCell ⟨w.heap.size + 1 + 1, 5, none⟩ (.int .i64 V1.tick)).setCell ⟨w.heap.size + 1 + 1, 6, none⟩ (.slice s1.A s1.n s1.c))).heap.size V1 s1 ∧ Held w (((((((w1.setCell ⟨w.heap.size + 1 + 1, 0, none⟩ (.int .i64 V1.map.W)).setCell ⟨w.heap.size + 1 + 1, 1, none⟩ (.int .i64 V1.map.H)).setCell ⟨w.heap.size + 1 + 1, 2, none⟩ (.slice s1.ms.A s1.ms.n s1.ms.c)).setCell ⟨w.heap.size + 1 + 1, 3, none⟩ (.slice s1.ms.A2 s1.ms.n2 s1.ms.c2)).setCell ⟨w.heap.size + 1 + 1, 4, none⟩ (.int .u64 V1.st)).setCell ⟨w.heap.size + 1 + 1, 5, none⟩ (.int .i64 V1.tick)).setCell ⟨w.heap.size + 1 + 1, 6, none⟩ (.slice s1.A s1.n s1.c)) s s1 V1.l := held_far HW.out HAT.out HMS.out HKP.out hB2 hzz (by omega) (by simp) HMV.out
    clear hzz
    generalize (((((((w1.setCell ⟨w.heap.size + 1 + 1, 0, none⟩ (.int .i64 V1.map.W)).setCell ⟨w.heap.size + 1 + 1, 1, none⟩ (.int .i64 V1.map.H)).setCell ⟨w.heap.size + 1 + 1, 2, none⟩ (.slice s1.ms.A s1.ms.n s1.ms.c)).setCell ⟨w.heap.size + 1 + 1, 3, none⟩ (.slice s1.ms.A2 s1.ms.n2 s1.ms.c2)).setCell ⟨w.heap.size + 1 + 1, 4, none⟩ (.int .u64 V1.st)).setCell ⟨w.heap.size + 1 + 1, 5, none⟩ (.int .i64 V1.tick)).setCell ⟨w.heap.size + 1 + 1, 6, none⟩ (.slice s1.A s1.n s1.c)) = wf at hB2 hz2 hW2 ⊢
    have q0 : wf.cell? ⟨w.heap.size + 1 + 1, 0, none⟩ = some (.int .i64 V1.map.W) := hz2.cell 0
    have q1 : wf.cell? ⟨w.heap.size + 1 + 1, 1, none⟩ = some (.int .i64 V1.map.H) := hz2.cell 1
    have q2 : wf.cell? ⟨w.heap.size + 1 + 1, 2, none⟩ = some (.slice s1.ms.A s1.ms.n s1.ms.c) := hz2.cell 2
    have q3 : wf.cell? ⟨w.heap.size + 1 + 1, 3, none⟩ = some (.slice s1.ms.A2 s1.ms.n2 s1.ms.c2) := hz2.cell 3
    have q4 : wf.cell? ⟨w.heap.size + 1 + 1, 4, none⟩ = some (.int .u64 V1.st) := hz2.cell 4
    have q5 : wf.cell? ⟨w.heap.size + 1 + 1, 5, none⟩ = some (.int .i64 V1.tick) := hz2.cell 5
    have q6 : wf.cell? ⟨w.heap.size + 1 + 1, 6, none⟩ = some (.slice s1.A s1.n s1.c) := hz2.cell 6
    refine bodyPost_ret (v := .tuple #[.agg #[.int .i64 V1.map.W, .int .i64 V1.map.H, .slice s1.ms.A s1.ms.n s1.ms.c, .slice s1.ms.A2 s1.ms.n2 s1.ms.c2, .int .u64 V1.st, .int .i64 V1.tick, .slice s1.A s1.n s1.c], .int .i64 0]) (by simp [results, Try.results25, go_sem, q0, q1, q2, q3, q4, q5, q6]) rfl ?_
    exact ⟨s1, rfl, hW2.1, HMS.out, hW2.2, hB2⟩

  have k5' : (o.kind == 5) = false := beq_eq_false_iff_ne.2 k5
  rw [if_neg k5] at hact
  injection hact with hact he
  subst hact
  subst he
  clear k1 k2 k3 k4 k5
  go_enter Try.func25, Try.ntmps25
  go_wp2
  refine bodyPost_ret (v := .tuple #[(.agg #[.int .i64 v.map.W, .int .i64 v.map.H, .slice s.ms.A s.ms.n s.ms.c, .slice s.ms.A2 s.ms.n2 s.ms.c2, .int .u64 v.st, .int .i64 v.tick, .slice s.A s.n s.c]), .int .i64 0]) (by simp [results, Try.results25, go_sem]) rfl ?_
  exact ⟨s, rfl, (HW.out.below (by repeat (first | with_reducible exact Below.refl _ _ | with_reducible assumption | with_reducible refine Below.drew ?_ | with_reducible refine below_drews ?_ _ | with_reducible refine Below.alloc ?_ (by first | omega | (simp; done) | (simp; omega)) _ | with_reducible refine Below.setCell ?_ (by first | omega | (simp; done) | (simp; omega)) _))).upto (by simp; omega), rfl, .inl ⟨rfl, rfl⟩, (by repeat (first | with_reducible exact Below.refl _ _ | with_reducible assumption | with_reducible refine Below.drew ?_ | with_reducible refine below_drews ?_ _ | with_reducible refine Below.alloc ?_ (by first | omega | (simp; done) | (simp; omega)) _ | with_reducible refine Below.setCell ?_ (by first | omega | (simp; done) | (simp; omega)) _))⟩
end Go.Proofs.Ythkgeeonhppliaa
