/- The walk of the law's act: an Op on a world. How the arguments of the laws of layer 13 are read: a start, rows of ops. The plain law of a tick: what becomes of each entity. The plain part of reading a map: signs, and what they make. -/
import Derived.Test.YtojbijapdkohlaaGreatDoorWJoin
import Derived.Test.YtojbijapdkohlaaGreatDoorWGo
import Derived.Test.YtojbijapdkohlaaGreatDoorWTick
import Derived.Test.YtojbijapdkohlaaGreatDoorQ03SrvPut
import Derived.Test.YtojbijapdkohlaaGreatDoorQ01Steps
import GoSem.Core.Utf8
set_option linter.unusedSimpArgs false
set_option linter.unusedVariables false
namespace Go.Proofs.YtojbijapdkohlaaGreatDoor
open Go.RowKit
structure OpV where
  kind : Int
  id : Int
  by_ : Int
  c : CmdV
def goP (m : MapV) (c : CmdV) (e : EntV) : EntV := if cmdOk c then walkF m e c.mx c.my else e
def actV (v : WorldV) (o : OpV) : WorldV × Int :=
  if o.kind = 1 then joinV v o.id else if o.kind = 2 then (⟨v.map, v.st, v.tick, leaveL v.l o.id⟩, leaveE v.l o.id)
  else if o.kind = 3 then (⟨v.map, v.st, v.tick, atPlayer v.l o.id (hitP o.by_)⟩, 0) else if o.kind = 4 then (⟨v.map, v.st, v.tick, atPlayer v.l o.id (goP v.map o.c)⟩, 0)
  else if o.kind = 5 then (tickF v, 0) else (v, 0)
/-- What a world must be for its functions to be walked. -/
structure Good (v : WorldV) (s : WorldS) : Prop where
  n : s.n ≤ 999
  p1 : 1 ≤ s.ms.n2
  p2 : s.ms.n2 ≤ 100000
  ok : ∀ e ∈ v.l, okE e
def OpOk (o : OpV) : Prop := o.by_ ≤ 9223372036854775807 ∧ o.c.mx ≤ 127 ∧ o.c.my ≤ 127
theorem gives_same {w w' : World} {v : WorldV} {s : WorldS} {r : Ending} (h : WorldAt w w.heap.size v s) (hr : r = .returned (.agg #[.int .i64 v.map.W, .int .i64 v.map.H, .slice s.ms.A s.ms.n s.ms.c, .slice s.ms.A2 s.ms.n2 s.ms.c2, .int .u64 v.st, .int .i64 v.tick, .slice s.A s.n s.c]) ∧ Below w.heap.size w w') : Gives w w' v s r v := ⟨s, hr.1, (h.below hr.2).upto hr.2.size, rfl, .inl ⟨rfl, rfl⟩, hr.2⟩
theorem wHit' (v : WorldV) (s : WorldS) (id by_ : Int) (w : World) (h : WorldAt w w.heap.size v s) (hg : Good v s) (hby : by_ ≤ 9223372036854775807) :
    Calls Tryz.prog 168 #[(.agg #[.int .i64 v.map.W, .int .i64 v.map.H, .slice s.ms.A s.ms.n s.ms.c, .slice s.ms.A2 s.ms.n2 s.ms.c2, .int .u64 v.st, .int .i64 v.tick, .slice s.A s.n s.c]), .int .i64 id, .int .i64 by_] w fun r w' => Gives w w' v s r ⟨v.map, v.st, v.tick, atPlayer v.l id (hitP by_)⟩ := by
  have hn := hg.n
  rcases atPlayer_spec v.l id (hitP by_) with ⟨h1, h2⟩ | ⟨k, e, h1, h2, h3, h4, h5⟩
  · rw [h2]
    exact (wHitNo v s id by_ w h (by omega) (.inl h1)).mono fun r w' hr => gives_same h hr
  · rw [h5]
    obtain ⟨o1, o2, o3, o4⟩ := hg.ok e (List.mem_of_getElem? h2)
    by_cases hq : e.health = 0 ∨ by_ < 1
    · have : hitP by_ e = e := by unfold hitP; rw [if_pos hq]
      rw [this, set_same h2]
      exact (wHitNo v s id by_ w h (by omega) (.inr ⟨k, e, h1, h2, hq⟩)).mono fun r w' hr => gives_same h hr
    · have : hitP by_ e = hitE e by_ := by unfold hitP; rw [if_neg hq]
      rw [this]
      exact wHitYes v s id by_ k e w h (by omega) h1 h2 (fun hh => hq (.inl hh)) (by omega) hby o1 (by omega)
theorem wGo' (v : WorldV) (s : WorldS) (c : CmdV) (id : Int) (w : World) (h : WorldAt w w.heap.size v s) (hg : Good v s) (x1 : c.mx ≤ 127) (y1 : c.my ≤ 127) :
    Calls Tryz.prog 98 #[(.agg #[.int .i64 v.map.W, .int .i64 v.map.H, .slice s.ms.A s.ms.n s.ms.c, .slice s.ms.A2 s.ms.n2 s.ms.c2, .int .u64 v.st, .int .i64 v.tick, .slice s.A s.n s.c]), .agg #[.int .u32 c.num, .int .i8 c.mx, .int .i8 c.my, .bool c.fire, .int .u32 c.view, .int .u8 c.frac], .int .i64 id] w fun r w' => Gives w w' v s r ⟨v.map, v.st, v.tick, atPlayer v.l id (goP v.map c)⟩ := by
  have hn := hg.n
  rcases atPlayer_spec v.l id (goP v.map c) with ⟨h1, h2⟩ | ⟨k, e, h1, h2, h3, h4, h5⟩
  · rw [h2]
    exact (wGoNo v s c id w h (by omega) (.inl h1)).mono fun r w' hr => gives_same h hr
  · rw [h5]
    cases hq : cmdOk c with
    | false =>
      have : goP v.map c e = e := by unfold goP; rw [hq]; rfl
      rw [this, set_same h2]
      exact (wGoNo v s c id w h (by omega) (.inr ⟨k, h1, hq⟩)).mono fun r w' hr => gives_same h hr
    | true =>
      have : goP v.map c e = walkF v.map e c.mx c.my := by unfold goP; rw [hq]; rfl
      rw [this]
      exact wGoYes v s c id k e w h (by omega) h1 h2 hq x1 y1
theorem wJoin' (v : WorldV) (s : WorldS) (id : Int) (w : World) (h : WorldAt w w.heap.size v s) (hg : Good v s) :
    Calls Tryz.prog 94 #[(.agg #[.int .i64 v.map.W, .int .i64 v.map.H, .slice s.ms.A s.ms.n s.ms.c, .slice s.ms.A2 s.ms.n2 s.ms.c2, .int .u64 v.st, .int .i64 v.tick, .slice s.A s.n s.c]), .int .i64 id] w fun r w' => GivesE w w' v s r (joinV v id).1 (joinV v id).2 := by
  have hn := hg.n
  by_cases hno : id < 1 ∨ 8 < id ∨ findF v.l id ≠ -1
  · exact wJoinNo v s id w h (by omega) hno
  · have h1 : ¬ (id < 1 ∨ 8 < id) := fun hh => hno (hh.elim .inl fun h => .inr (.inl h))
    have h2 : findF v.l id = -1 := Decidable.byContradiction fun hh => hno (.inr (.inr hh))
    have hj : joinV v id = (⟨v.map, nextS v.st, v.tick, v.l.take (joinK v.l id) ++ newP id (spawnP v.map v.st) :: v.l.drop (joinK v.l id)⟩, 0) := by unfold joinV; rw [if_neg h1, if_neg (fun hh => hh h2)]
    rw [hj]
    exact wJoinYes v s id w h hn (by omega) (by omega) h2 hg.p1 hg.p2
theorem atPlayer_all {P : EntV → Prop} {l : List EntV} (id : Int) (f : EntV → EntV) (h : ∀ e ∈ l, P e) (hf : ∀ e ∈ l, P (f e)) : ∀ e ∈ atPlayer l id f, P e := by
  rcases atPlayer_spec l id f with ⟨_, h2⟩ | ⟨k, e, _, h2, _, _, h5⟩
  · rw [h2]; exact h
  · rw [h5]; exact set_all h (hf e (List.mem_of_getElem? h2))
theorem waitE_ok (m : MapV) (st : Int) (e : EntV) (h : okE e) : okE (waitE m st e).2 := by
  obtain ⟨h1, h2, h3, h4⟩ := h
  unfold waitE
  split
  · exact ⟨h1, h2, h3, h4⟩
  · rename_i hn
    have : e.wait ≠ 0 := fun hh => hn (.inr (.inr hh))
    split
    · exact ⟨by show (0 : Int) ≤ 100; omega, by show (100 : Int) ≤ 100; omega, by show (0 : Int) ≤ 0; omega, by show (0 : Int) ≤ 20; omega⟩
    · exact ⟨h1, h2, by show 0 ≤ e.wait - 1; omega, by show e.wait - 1 ≤ 20; omega⟩
theorem waitN_ok (m : MapV) (k : Nat) (x : Int × List EntV) (h : ∀ e ∈ x.2, okE e) : ∀ e ∈ (waitN m k x).2, okE e := by
  induction k with
  | zero => exact h
  | succ k ih =>
    unfold waitN
    split
    · exact ih
    · rename_i e he
      exact set_all ih (waitE_ok m _ e (ih e (List.mem_of_getElem? he)))
theorem tickF_ok (v : WorldV) (h : ∀ e ∈ v.l, okE e) : ∀ e ∈ (tickF v).l, okE e := by
  show ∀ e ∈ (waitF v.map v.st _).2, okE e
  exact waitN_ok _ _ _ (hitI_ok _ _ _ (rollN_ok _ _ _ h))
theorem hitP_ok (by_ : Int) (e : EntV) (h : okE e) : okE (hitP by_ e) := by
  obtain ⟨h1, h2, h3, h4⟩ := h
  unfold hitP
  split
  · exact ⟨h1, h2, h3, h4⟩
  · rename_i hn
    have : ¬ by_ < 1 := fun hh => hn (.inr hh)
    unfold hitE
    split
    · exact ⟨by show 0 ≤ e.health - by_; omega, by show e.health - by_ ≤ 100; omega, h3, h4⟩
    · exact ⟨by show (0 : Int) ≤ 0; omega, by show (0 : Int) ≤ 100; omega, by show (0 : Int) ≤ 20; omega, by show (20 : Int) ≤ 20; omega⟩
theorem goP_ok (m : MapV) (c : CmdV) (e : EntV) (h : okE e) : okE (goP m c e) := by
  unfold goP
  split
  · unfold walkF
    split
    · exact h
    · exact h
  · exact h
theorem actV_map (v : WorldV) (o : OpV) : (actV v o).1.map = v.map := by
  unfold actV joinV tickF
  split
  · split
    · rfl
    · split <;> rfl
  · split
    · rfl
    · split
      · rfl
      · split
        · rfl
        · split <;> rfl
theorem actV_ok (v : WorldV) (o : OpV) (h : ∀ e ∈ v.l, okE e) : ∀ e ∈ (actV v o).1.l, okE e := by
  unfold actV
  split
  · unfold joinV
    split
    · exact h
    · split
      · exact h
      · intro e he
        simp only [List.mem_append, List.mem_cons] at he
        rcases he with he | rfl | he
        · exact h e (List.mem_of_mem_take he)
        · exact ⟨by show (0 : Int) ≤ 100; omega, by show (100 : Int) ≤ 100; omega, by show (0 : Int) ≤ 0; omega, by show (0 : Int) ≤ 20; omega⟩
        · exact h e (List.mem_of_mem_drop he)
  · split
    · intro e he
      unfold leaveL at he
      simp only at he
      split at he
      · exact h e he
      · simp only [List.mem_append] at he
        rcases he with he | he
        · exact h e (List.mem_of_mem_take he)
        · exact h e (List.mem_of_mem_drop he)
    · split
      · exact atPlayer_all _ _ h fun e he => hitP_ok _ e (h e he)
      · split
        · exact atPlayer_all _ _ h fun e he => goP_ok _ _ e (h e he)
        · split
          · exact tickF_ok v h
          · exact h
theorem atPlayer_len (l : List EntV) (id : Int) (f : EntV → EntV) : (atPlayer l id f).length = l.length := by
  unfold atPlayer
  split
  · rfl
  · simp
theorem actV_len (v : WorldV) (o : OpV) : (actV v o).1.l.length ≤ v.l.length + 1 := by
  have htl : (tickF v).l.length = v.l.length := by
    show (waitF v.map v.st _).2.length = _
    unfold waitF
    rw [waitN_len]
    show (hitI _ _ _).length = _
    rw [hitI_len, rollN_len]
  unfold actV
  split
  · unfold joinV
    split
    · simp
    · split
      · simp
      · simp only [List.length_append, List.length_cons, List.length_take, List.length_drop]; omega
  · split
    · unfold leaveL
      simp only
      split
      · omega
      · simp only [List.length_append, List.length_take, List.length_drop]; omega
    · split
      · simp only [atPlayer_len]; omega
      · split
        · simp only [atPlayer_len]; omega
        · split
          · simp only [htl]; omega
          · simp
/-- A row that lies below, or is new, where the last stores do not hit. -/
theorem held_far {w w1 wf W0 : World} {v V1 : WorldV} {s s1 : WorldS} {b : Nat} (h : WorldAt w w.heap.size v s) (hat : WorldAt w1 w1.heap.size V1 s1) (hms : s1.ms = s.ms) (hk : Held W0 w1 s s1 V1.l) (hB : Below w.heap.size w wf) (hz : ∀ j : Nat, j ≠ b → wf.heap[j]? = w1.heap[j]?) (hb : w.heap.size ≤ b) (hW : W0.heap.size = b + 1) (hm : V1.map = v.map) :
    WorldAt wf wf.heap.size V1 s1 ∧ Held w wf s s1 V1.l := by
  have hmap : MapAt wf wf.heap.size V1.map s1.ms := by rw [hms, hm]; exact (h.map.below hB).upto hB.size
  rcases hk with ⟨h1, h2⟩ | ⟨h1, h2⟩
  · have hl : Reads wf w.heap.size 8 s1.A s1.n (entsV V1.l) := by
      refine ⟨hat.l.1, fun hn => ?_⟩
      obtain ⟨ad, ha, hc, hcc⟩ := hat.l.2 hn
      obtain ⟨ad', ha', hc', _⟩ := h.l.2 (by omega)
      have : ad = ad' := by rw [h1, ha'] at ha; injection ha with ha; exact ha.symm
      subst this
      refine ⟨ad, ha, hc', fun j u hu => ?_⟩
      have h3 := hcc j u hu
      have hbk : (ad.add j).block = ad.block := block_of_add ad j
      have h4 : wf.heap[(ad.add j).block]? = w1.heap[(ad.add j).block]? := hz _ (by rw [hbk]; omega)
      unfold World.cell? at h3 ⊢
      rw [h4]
      exact h3
    exact ⟨⟨hmap, hl.more hB.size, hat.nc⟩, .inl ⟨h1, h2⟩⟩
  · have hr : Row wf 55 8 s1.A s1.n s1.c (entsV V1.l) := h1.keep (fun g hg => hz g (by have := h2 g hg; omega))
    exact ⟨⟨hmap, hr.reads (by decide), hat.nc⟩, .inr ⟨hr, fun q hq => by have := h2 q hq; omega⟩⟩
end Go.Proofs.YtojbijapdkohlaaGreatDoor
set_option linter.unusedSimpArgs false
set_option linter.unusedVariables false
namespace Go.Proofs.YtojbijapdkohlaaGreatDoor
open Go.RowKit Go.ChangeShapes Go.WideShapes Go.Deep
def opCells (o : OpV) : List Value := [.int .i64 o.kind, .int .i64 o.id, .int .i64 o.by_, .int .u32 o.c.num, .int .i8 o.c.mx, .int .i8 o.c.my, .bool o.c.fire, .int .u32 o.c.view, .int .u8 o.c.frac]
def opsV (l : List OpV) : List Value := l.flatMap opCells
theorem opsV_length (l : List OpV) : (opsV l).length = l.length * 9 := flat_length (f := opCells) (size := 9) (fun _ => rfl) l
theorem opsV_at {l : List OpV} {k : Nat} {o : OpV} (h : l[k]? = some o) (j : Nat) (hj : j < 9) : (opsV l)[k * 9 + j]? = (opCells o)[j]? := flat_at (f := opCells) (size := 9) (fun _ => rfl) l k j o h hj
def OpFine (o : OpV) : Prop := OpOk o ∧ -128 ≤ o.c.mx ∧ -128 ≤ o.c.my
section
variable {H : Type} {enc : TypeId × Value → H} {W : World} {base : Nat} {sp : Nat → Bool} {held : Bool}
theorem len9 {α : Type} {l : List α} (h : l.length = 9) : ∃ a b c d e f g i j, l = [a, b, c, d, e, f, g, i, j] := by
  match l, h with
  | [a, b, c, d, e, f, g, i, j], _ => exact ⟨a, b, c, d, e, f, g, i, j, rfl⟩
set_option maxRecDepth 20000 in
theorem open_cmd {fuel : Nat} {cs : List Value} {x : DataW H × List MemPlace} (h : DataW.trod enc Tryz.prog W base sp held fuel 121 cs = some x) :
    ∃ c : CmdV, cs = [.int .u32 c.num, .int .i8 c.mx, .int .i8 c.my, .bool c.fire, .int .u32 c.view, .int .u8 c.frac] ∧ (-128 ≤ c.mx ∧ c.mx ≤ 127) ∧ (-128 ≤ c.my ∧ c.my ≤ 127) := by
  obtain ⟨xs, m, _, _, hlen, hxs, hf⟩ := DataW.trod_struct Tryz.underlying121 h
  obtain ⟨a, b, c, d, e, f, rfl⟩ := len6 (hlen.trans (by kernel_rfl))
  obtain ⟨x0, x1, x2, x3, x4, x5, rfl⟩ := len6 (hxs.trans (by rfl))
  have e0 : Tryz.prog.cellsOf 96 = 1 := by kernel_rfl
  have e1 : Tryz.prog.cellsOf 32 = 1 := by kernel_rfl
  have e2 : Tryz.prog.cellsOf 4 = 1 := by kernel_rfl
  have e3 : Tryz.prog.cellsOf 5 = 1 := by kernel_rfl
  have f0 : DataW.trod enc Tryz.prog W base sp held m 96 [a] = some x0 := by have := hf 0 _ rfl; simpa [e0] using this
  have f1 : DataW.trod enc Tryz.prog W base sp held m 32 [b] = some x1 := by have := hf 1 _ rfl; simpa [e1] using this
  have f2 : DataW.trod enc Tryz.prog W base sp held m 32 [c] = some x2 := by have := hf 2 _ rfl; simpa [e1] using this
  have f3 : DataW.trod enc Tryz.prog W base sp held m 4 [d] = some x3 := by have := hf 3 _ rfl; simpa [e2] using this
  have f4 : DataW.trod enc Tryz.prog W base sp held m 96 [e] = some x4 := by have := hf 4 _ rfl; simpa [e0] using this
  have f5 : DataW.trod enc Tryz.prog W base sp held m 5 [f] = some x5 := by have := hf 5 _ rfl; simpa [e3] using this
  obtain ⟨n0, h0, _, w0⟩ := DataW.trod_int Tryz.underlying96 f0
  obtain ⟨n1, h1, _, w1⟩ := DataW.trod_int Tryz.underlying32 f1
  obtain ⟨n2, h2, _, w2⟩ := DataW.trod_int Tryz.underlying32 f2
  obtain ⟨n3, h3, _⟩ := DataW.trod_bool Tryz.underlying4 f3
  obtain ⟨n4, h4, _, w4⟩ := DataW.trod_int Tryz.underlying96 f4
  obtain ⟨n5, h5, _, w5⟩ := DataW.trod_int Tryz.underlying5 f5
  simp only [List.cons.injEq, and_true] at h0 h1 h2 h3 h4 h5
  exact ⟨⟨n0, n1, n2, n3, n4, n5⟩, by simp only [h0, h1, h2, h3, h4, h5], wf_i8 w1, wf_i8 w2⟩
end
end Go.Proofs.YtojbijapdkohlaaGreatDoor
set_option linter.unusedSimpArgs false
set_option linter.unusedVariables false
namespace Go.Proofs.YtojbijapdkohlaaGreatDoor
open Go.RowKit
/-- What hits make of one. -/
def Hurt (a b : EntV) : Prop :=
  b.id = a.id ∧ b.kind = a.kind ∧ b.at_ = a.at_ ∧ (b = a ∨ 0 < a.health ∧ b.health < a.health ∧ (0 < b.health ∧ b.wait = a.wait ∧ b.vel = a.vel ∨ b.health = 0 ∧ b.wait = 20 ∧ b.vel = ⟨0, 0⟩))
theorem Hurt.refl (a : EntV) : Hurt a a := ⟨rfl, rfl, rfl, .inl rfl⟩
theorem Hurt.hit {a b : EntV} (h : Hurt a b) (hb : 0 < b.health) : Hurt a (hitE b 5) := by
  obtain ⟨h1, h2, h3, h4⟩ := h
  have hba : b.health ≤ a.health ∧ b.wait = a.wait ∧ b.vel = a.vel := by
    rcases h4 with rfl | ⟨q1, q2, ⟨q3, q4, q5⟩ | ⟨q3, q4⟩⟩
    · exact ⟨Int.le_refl _, rfl, rfl⟩
    · exact ⟨by omega, q4, q5⟩
    · omega
  obtain ⟨p1, p2, p3⟩ := hba
  unfold hitE
  split
  · exact ⟨h1, h2, h3, .inr ⟨by omega, by show b.health - 5 < _; omega, .inl ⟨by show 0 < b.health - 5; omega, p2, p3⟩⟩⟩
  · exact ⟨h1, h2, h3, .inr ⟨by omega, by show (0 : Int) < _; omega, .inr ⟨rfl, rfl, rfl⟩⟩⟩
theorem hitAt_at (i j : Nat) (l : List EntV) (a p : EntV) (h : l[i]? = some p) (hp : Hurt a p) : ∃ q, (hitAt i j l)[i]? = some q ∧ Hurt a q := by
  have hi : i < l.length := (List.getElem?_eq_some_iff.1 h).1
  unfold hitAt
  rw [h]
  split
  · rename_i p' b hp' hb
    injection hp' with hp'
    subst hp'
    split
    · rename_i hbump
      unfold bumps at hbump
      simp only [Bool.and_eq_true, decide_eq_true_eq] at hbump
      exact ⟨_, List.getElem?_set_self hi, hp.hit hbump.1.2⟩
    · exact ⟨p, h, hp⟩
  · exact ⟨p, h, hp⟩
theorem hitAt_far (i j k : Nat) (l : List EntV) (h : k ≠ i) : (hitAt i j l)[k]? = l[k]? := by
  unfold hitAt
  split
  · split
    · rw [List.getElem?_set_ne (Ne.symm h)]
    · rfl
  · rfl
theorem hitJ_at (i j : Nat) (l : List EntV) (a : EntV) (h : l[i]? = some a) : ∃ q, (hitJ i j l)[i]? = some q ∧ Hurt a q := by
  induction j with
  | zero => exact ⟨a, h, Hurt.refl a⟩
  | succ j ih =>
    obtain ⟨p, h1, h2⟩ := ih
    exact hitAt_at i j _ a p h1 h2
theorem hitJ_far (i j k : Nat) (l : List EntV) (h : k ≠ i) : (hitJ i j l)[k]? = l[k]? := by
  induction j with
  | zero => rfl
  | succ j ih => exact (hitAt_far i j k _ h).trans ih
theorem hitI_at (n i k : Nat) (l : List EntV) (a : EntV) (h : l[k]? = some a) : ∃ q, (hitI n i l)[k]? = some q ∧ (q = a ∨ a.kind = 1 ∧ Hurt a q) ∧ (i ≤ k → q = a) := by
  induction i with
  | zero => exact ⟨a, h, .inl rfl, fun _ => rfl⟩
  | succ i ih =>
    obtain ⟨q, h1, h2, h3⟩ := ih
    unfold hitI
    split
    · exact ⟨q, h1, h2, fun hh => h3 (by omega)⟩
    · rename_i p hp
      split
      · rename_i hk
        by_cases hki : k = i
        · subst hki
          have hqa := h3 (Nat.le_refl _)
          subst hqa
          rw [h1] at hp
          injection hp with hp
          subst hp
          obtain ⟨r, r1, r2⟩ := hitJ_at k n _ q h1
          exact ⟨r, r1, .inr ⟨hk, r2⟩, fun hh => by omega⟩
        · exact ⟨q, (hitJ_far i n k _ hki).trans h1, h2, fun hh => h3 (by omega)⟩
      · exact ⟨q, h1, h2, fun hh => h3 (by omega)⟩
theorem rollN_get (m : MapV) (k j : Nat) (l : List EntV) (a : EntV) (h : l[j]? = some a) : (rollN m k l)[j]? = some (if j < k then rollF m a else a) := by
  induction k with
  | zero => rw [if_neg (by omega)]; exact h
  | succ k ih =>
    unfold rollN
    split
    · rename_i hn
      have : k ≠ j := fun e => by subst e; rw [ih] at hn; cases hn
      rw [ih]
      by_cases h1 : j < k
      · rw [if_pos h1, if_pos (by omega)]
      · rw [if_neg h1, if_neg (by omega)]
    · rename_i e he
      by_cases hjk : k = j
      · subst hjk
        rw [ih, if_neg (by omega)] at he
        injection he with he
        subst he
        rw [List.getElem?_set_self (by rw [rollN_len]; exact (List.getElem?_eq_some_iff.1 h).1), if_pos (by omega)]
      · rw [List.getElem?_set_ne hjk, ih]
        by_cases h1 : j < k
        · rw [if_pos h1, if_pos (by omega)]
        · rw [if_neg h1, if_neg (by omega)]
theorem waitN_get (m : MapV) (k j : Nat) (x : Int × List EntV) (a : EntV) (h : x.2[j]? = some a) : ∃ st, (waitN m k x).2[j]? = some (if j < k then (waitE m st a).2 else a) := by
  induction k with
  | zero => exact ⟨0, by rw [if_neg (by omega)]; exact h⟩
  | succ k ih =>
    obtain ⟨st, ih⟩ := ih
    unfold waitN
    split
    · rename_i hn
      refine ⟨st, ?_⟩
      have : k ≠ j := fun e => by subst e; rw [ih] at hn; cases hn
      rw [ih]
      by_cases h1 : j < k
      · rw [if_pos h1, if_pos (by omega)]
      · rw [if_neg h1, if_neg (by omega)]
    · rename_i e he
      by_cases hjk : k = j
      · subst hjk
        rw [ih, if_neg (by omega)] at he
        injection he with he
        subst he
        exact ⟨_, by rw [List.getElem?_set_self (by rw [waitN_len]; exact (List.getElem?_eq_some_iff.1 h).1), if_pos (by omega)]⟩
      · refine ⟨st, ?_⟩
        rw [List.getElem?_set_ne hjk, ih]
        by_cases h1 : j < k
        · rw [if_pos h1, if_pos (by omega)]
        · rw [if_neg h1, if_neg (by omega)]
theorem tickF_len (v : WorldV) : (tickF v).l.length = v.l.length := by
  show (waitF v.map v.st _).2.length = _
  unfold waitF
  rw [waitN_len]
  show (hitI _ _ _).length = _
  rw [hitI_len, rollN_len]
/-- What becomes of one in a tick. -/
theorem tickF_get (v : WorldV) (k : Nat) (a : EntV) (h : v.l[k]? = some a) : ∃ (q : EntV) (st : Int), (tickF v).l[k]? = some (waitE v.map st q).2 ∧ (q = rollF v.map a ∨ a.kind = 1 ∧ Hurt a q) := by
  have hk : k < v.l.length := (List.getElem?_eq_some_iff.1 h).1
  have h1 := rollN_get v.map v.l.length k v.l a h
  rw [if_pos hk] at h1
  obtain ⟨q, h2, h3, -⟩ := hitI_at v.l.length v.l.length k _ _ h1
  obtain ⟨st, h4⟩ := waitN_get v.map v.l.length k (v.st, hitI v.l.length v.l.length (rollN v.map v.l.length v.l)) q h2
  rw [if_pos hk] at h4
  have hw : (tickF v).l = (waitN v.map v.l.length (v.st, hitI v.l.length v.l.length (rollN v.map v.l.length v.l))).2 := by
    show (waitF v.map v.st _).2 = _
    unfold waitF
    rw [hitI_len, rollN_len]
  refine ⟨q, st, by rw [hw]; exact h4, ?_⟩
  rcases h3 with rfl | ⟨h5, h6⟩
  · exact .inl rfl
  · have hkind : (rollF v.map a).kind = a.kind := by unfold rollF; split <;> rfl
    rw [hkind] at h5
    have hsame : rollF v.map a = a := by unfold rollF; rw [if_pos (.inr (by omega))]
    rw [hsame] at h6
    exact .inr ⟨h5, h6⟩
/-- The law WorldTicks, of one entity. -/
theorem tick_one (v : WorldV) (k : Nat) (a b : EntV) (hok : okE a) (h : v.l[k]? = some a) (hb : (tickF v).l[k]? = some b) :
    a.id = b.id ∧ a.kind = b.kind ∧ (a.health < b.health → a.health = 0 ∧ a.wait = 1 ∧ b.health = 100) ∧ (a.kind = 1 → 0 < a.health → 0 < b.health → b.at_ = a.at_) := by
  obtain ⟨q, st, h1, h2⟩ := tickF_get v k a h
  rw [hb] at h1
  injection h1 with h1
  obtain ⟨o1, o2, o3, o4⟩ := hok
  have hroll : (rollF v.map a).id = a.id ∧ (rollF v.map a).kind = a.kind ∧ (rollF v.map a).health = a.health ∧ (rollF v.map a).wait = a.wait ∧ (a.kind = 1 → (rollF v.map a).at_ = a.at_) := by
    unfold rollF
    split
    · exact ⟨rfl, rfl, rfl, rfl, fun _ => rfl⟩
    · rename_i hn
      refine ⟨rfl, rfl, rfl, rfl, fun h => absurd (.inr (by omega)) hn⟩
  have hq : q.id = a.id ∧ q.kind = a.kind ∧ q.health ≤ a.health ∧ (a.kind = 1 → q.at_ = a.at_) ∧ (q.health = a.health ∧ q.wait = a.wait ∨ 0 < a.health ∧ (0 < q.health ∨ q.health = 0 ∧ q.wait = 20)) := by
    rcases h2 with rfl | ⟨_, g1, g2, g3, g4⟩
    · exact ⟨hroll.1, hroll.2.1, by rw [hroll.2.2.1]; exact Int.le_refl _, hroll.2.2.2.2, .inl ⟨hroll.2.2.1, hroll.2.2.2.1⟩⟩
    · rcases g4 with rfl | ⟨p1, p2, ⟨p3, -⟩ | ⟨p3, p4, -⟩⟩
      · exact ⟨g1, g2, Int.le_refl _, fun _ => rfl, .inl ⟨rfl, rfl⟩⟩
      · exact ⟨g1, g2, by omega, fun _ => g3, .inr ⟨p1, .inl p3⟩⟩
      · exact ⟨g1, g2, by omega, fun _ => g3, .inr ⟨p1, .inr ⟨p3, p4⟩⟩⟩
  obtain ⟨q1, q2, q3, q4, q5⟩ := hq
  unfold waitE at h1
  split at h1
  · subst h1
    refine ⟨q1.symm, q2.symm, fun hh => by (try simp only at hh); omega, fun hk _ _ => q4 hk⟩
  · rename_i hn
    have n1 : ¬ 0 < q.health := fun hh => hn (.inr (.inl hh))
    split at h1
    · rename_i hw
      subst h1
      refine ⟨q1.symm, q2.symm, fun hh => ?_, fun hk hp _ => ?_⟩
      · rcases q5 with ⟨e1, e2⟩ | ⟨p1, p2 | ⟨p2, p3⟩⟩
        · exact ⟨by omega, by omega, rfl⟩
        · omega
        · omega
      · rcases q5 with ⟨e1, e2⟩ | ⟨p1, p2 | ⟨p2, p3⟩⟩ <;> omega
    · subst h1
      refine ⟨q1.symm, q2.symm, fun hh => ?_, fun hk _ hp => ?_⟩
      · (try simp only at hh); omega
      · (try simp only at hp); omega
end Go.Proofs.YtojbijapdkohlaaGreatDoor
set_option linter.unusedSimpArgs false
set_option linter.unusedVariables false
namespace Go.Proofs.YtojbijapdkohlaaGreatDoor
inductive Sg where
  | wall
  | floor
  | spawn
  | nl
def Sg.bytes : Sg → List UInt8
  | .wall => [0xE2, 0x96, 0x88]
  | .floor => [0xC2, 0xB7]
  | .spawn => [0xE2, 0x97, 0x8E]
  | .nl => [0x0A]
def Sg.rune : Sg → Nat
  | .wall => 9608
  | .floor => 183
  | .spawn => 9678
  | .nl => 10
def sgBytes (l : List Sg) : List UInt8 := l.flatMap Sg.bytes
structure RdS where
  w : Nat
  h : Nat
  x : Nat
  walls : List Bool
  spawns : List VecV
def isWall : Sg → Bool
  | .wall => true
  | _ => false
def isSpawn : Sg → Bool
  | .spawn => true
  | _ => false
def isNl : Sg → Bool
  | .nl => true
  | _ => false
def rdStep (s : RdS) (g : Sg) : Option RdS :=
  if isNl g then (if s.x = 0 ∨ s.x < s.w ∧ 0 < s.h then none else some ⟨s.x, s.h + 1, 0, s.walls, s.spawns⟩)
  else if s.h = 32 ∨ s.x = 32 ∨ 0 < s.h ∧ s.x = s.w then none
  else some ⟨s.w, s.h, s.x + 1, s.walls ++ [isWall g], s.spawns ++ (if isSpawn g then [middle s.x s.h] else [])⟩
def rdAll (s : RdS) : List Sg → Option RdS
  | [] => some s
  | g :: l => match rdStep s g with | none => none | some s' => rdAll s' l
def rdStart : RdS := ⟨0, 0, 0, [], []⟩
def readF (l : List Sg) : Option MapV :=
  match rdAll rdStart l with
  | none => none
  | some s => if s.x = 0 ∧ 0 < s.spawns.length then some ⟨s.w, s.h, s.walls, s.spawns⟩ else none
theorem get_at (pre post mid : List UInt8) (k : Nat) (b : UInt8) (h : mid[k]? = some b) : ((⟨(pre ++ (mid ++ post)).toArray⟩ : ByteArray).get! (pre.length + k)) = b := by
  obtain ⟨hk, hb⟩ := List.getElem?_eq_some_iff.1 h
  have h1 : (pre ++ (mid ++ post))[pre.length + k]? = some b := by
    rw [List.getElem?_append_right (by omega), Nat.add_sub_cancel_left, List.getElem?_append_left hk, h]
  show (pre ++ (mid ++ post)).toArray[pre.length + k]! = b
  simp [h1]
theorem size_of_bytes (l : List UInt8) : (⟨l.toArray⟩ : ByteArray).size = l.length := by
  show l.toArray.size = _; simp
theorem decode_at (pre post : List UInt8) (g : Sg) : Utf8.decode ⟨(pre ++ (g.bytes ++ post)).toArray⟩ pre.length = (g.rune, g.bytes.length) := by
  have h := fun k b hb => get_at pre post g.bytes k b hb
  have hs : (⟨(pre ++ (g.bytes ++ post)).toArray⟩ : ByteArray).size = pre.length + (g.bytes.length + post.length) := by rw [size_of_bytes]; simp
  cases g
  · have h0 := h 0 0xE2 rfl
    have h1 := h 1 0x96 rfl
    have h2 := h 2 0x88 rfl
    rw [Nat.add_zero] at h0
    simp only [Sg.bytes, List.length_cons, List.length_nil] at hs h0 h1 h2 ⊢
    unfold Utf8.decode
    simp only [Nat.add_zero, h0, h1, h2, hs]
    simp [Sg.rune, Utf8.valid]
    omega
  · have h0 := h 0 0xC2 rfl
    have h1 := h 1 0xB7 rfl
    rw [Nat.add_zero] at h0
    simp only [Sg.bytes, List.length_cons, List.length_nil] at hs h0 h1 ⊢
    unfold Utf8.decode
    simp only [Nat.add_zero, h0, h1, hs]
    simp [Sg.rune]
    omega
  · have h0 := h 0 0xE2 rfl
    have h1 := h 1 0x97 rfl
    have h2 := h 2 0x8E rfl
    rw [Nat.add_zero] at h0
    simp only [Sg.bytes, List.length_cons, List.length_nil] at hs h0 h1 h2 ⊢
    unfold Utf8.decode
    simp only [Nat.add_zero, h0, h1, h2, hs]
    simp [Sg.rune, Utf8.valid]
    omega
  · have h0 := h 0 0x0A rfl
    rw [Nat.add_zero] at h0
    simp only [Sg.bytes] at h0
    unfold Utf8.decode
    simp only [Nat.add_zero, Sg.bytes, h0]
    simp [Sg.rune]
theorem sgBytes_split {l : List Sg} {k : Nat} {g : Sg} (h : l[k]? = some g) : sgBytes l = sgBytes (l.take k) ++ (g.bytes ++ sgBytes (l.drop (k + 1))) := by
  obtain ⟨hk, rfl⟩ := List.getElem?_eq_some_iff.1 h
  have : l = l.take k ++ (l[k] :: l.drop (k + 1)) := by rw [← List.drop_eq_getElem_cons hk, List.take_append_drop]
  have e := congrArg (fun l => l.flatMap Sg.bytes) this
  simp only [List.flatMap_append, List.flatMap_cons] at e
  exact e
theorem sgBytes_take {l : List Sg} {k : Nat} {g : Sg} (h : l[k]? = some g) : (sgBytes (l.take (k + 1))).length = (sgBytes (l.take k)).length + g.bytes.length := by
  rw [List.take_add_one, h]; simp [sgBytes]
theorem rdAll_take {l : List Sg} {s s1 : RdS} {k : Nat} {g : Sg} {e : RdS} (hk : l[k]? = some g) (h1 : rdAll s (l.take k) = some s1) (h : rdAll s l = some e) : ∃ s2, rdStep s1 g = some s2 ∧ rdAll s (l.take (k + 1)) = some s2 := by
  induction l generalizing s k with
  | nil => simp at hk
  | cons a l ih =>
    cases k with
    | zero =>
      simp at hk; subst hk
      simp only [List.take_zero, rdAll, Option.some.injEq] at h1
      subst h1
      rw [rdAll] at h
      cases hs : rdStep s a with
      | none => rw [hs] at h; cases h
      | some s2 => exact ⟨s2, rfl, by simp [rdAll, hs]⟩
    | succ k =>
      rw [rdAll] at h
      rw [List.take_succ_cons, rdAll] at h1
      cases hs : rdStep s a with
      | none => rw [hs] at h; cases h
      | some s' =>
        rw [hs] at h h1
        obtain ⟨s2, h2, h3⟩ := ih (by simpa using hk) h1 h
        exact ⟨s2, h2, by rw [List.take_succ_cons, rdAll, hs]; exact h3⟩
end Go.Proofs.YtojbijapdkohlaaGreatDoor
