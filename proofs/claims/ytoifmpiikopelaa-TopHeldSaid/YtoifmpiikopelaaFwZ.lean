/-
  An abstract walk, part Z: rounds out of their body's walk; the statement 'for .. range f'; a function that holds one.
-/
import Derived.Test.YtoifmpiikopelaaFwY
import Derived.Below
import Derived.TacticsIn
namespace Go.Proofs.YtoifmpiikopelaaFw
open Go
set_option linter.unusedVariables false
set_option linter.unusedSimpArgs false

def owned (A : AF) (m : Ids) : Nat → Prop := fun x => ∃ b k y, A.st b = some k ∧ m b = some (some y) ∧ y.block = x
/-- The world as it stands, taken for the beginning of what follows. -/
def rebase (B : Base) (w : World) (F own : Nat → Prop) (ds : List Deferred) : Base := { w0 := w, F0 := F, m0 := B.m0, bor := own, ds := ds }
/-- How far a world, and what is frozen and owned in it, has come from a base. -/
structure Lnk (B : Base) (w : World) (F own : Nat → Prop) : Prop where
  own : ∀ x, own x → ¬ F x ∧ (B.w0.heap.size ≤ x ∨ B.bor x)
  fz : ∀ x, F x → x < w.heap.size ∧ (B.F0 x ∨ B.w0.heap.size ≤ x ∨ B.bor x)
  sub : ∀ x, B.F0 x → F x
  same : ∀ x, B.F0 x → w.heap[x]? = B.w0.heap[x]?
  size : ∀ (x : Nat) (c : Array Value) (e : TypeId) (fr : Nat × Nat), B.w0.heap[x]? = some (Obj.cells c e fr) → ∃ (c' : Array Value) (fr' : Nat × Nat), w.heap[x]? = some (Obj.cells c' e fr') ∧ c'.size = c.size
  wr : Kept B w

section
variable {P : Program} {B : Base} {A A' : AF} {a a' : Act} {w w' : World} {F F' own : Nat → Prop} {m m' : Ids} {T : Tab}

theorem SimW.lnk (h : SimW B A a w F m) : Lnk B w F (owned A m) where
  own := fun x ⟨b, k, y, h1, h2, h3⟩ => h3 ▸ h.own b k y h1 h2
  fz := h.fz
  sub := h.gr.sub
  same := h.gr.same
  size := h.gr.size
  wr := h.wr
theorem owned_cells (h : SimW B A a w F m) {x : Nat} (hx : owned A m x) : ∃ c e fr, w.heap[x]? = some (Obj.cells c e fr) := by
  obtain ⟨b, k, y, h1, h2, rfl⟩ := hx
  obtain ⟨ao, h3, h4⟩ := h.blk b k h1
  rw [h2] at h3
  cases h3
  cases k with
  | box cs => obtain ⟨b', vs, e, e1, q, _⟩ := h4; cases e1; exact ⟨vs, e, _, q⟩
  | row s es =>
    obtain ⟨_, _, ⟨e1, _⟩ | ⟨b', o, vs, e, fr, e1, q, _⟩⟩ := h4
    · cases e1
    · cases e1; exact ⟨vs, e, fr, q⟩

/-- Another base, a block changed that holds no cells, or one more block. -/
theorem SimW.re (h : SimW B A a w F m) (ds : List Deferred) {w1 : World} (hz : w.heap.size ≤ w1.heap.size) (hs : ∀ x : Nat, (∃ (c : Array Value) (e : TypeId) (fr : Nat × Nat), w.heap[x]? = some (Obj.cells c e fr)) → w1.heap[x]? = w.heap[x]?) (hF : ∀ x : Nat, F x → w1.heap[x]? = w.heap[x]?) :
    SimW (rebase B w1 F (owned A m) ds) A { a with defers := ds } w1 F m := by
  have g : Grow F w m F w1 m := ⟨fun _ h => h, hF, fun _ _ h => h, fun x c e fr hx => ⟨c, fr, by rw [hs x ⟨c, e, fr, hx⟩]; exact hx, rfl⟩⟩
  refine ⟨rfl, h.size, fun t => (h.slot t).mono g, fun b k hb => ?_, fun b k x hb hx => ⟨(h.own b k x hb hx).1, .inr ⟨b, k, x, hb, hx, rfl⟩⟩, h.apart, h.used, fun x hx => ⟨?_, .inl hx⟩, ⟨fun _ h => h, fun _ _ => rfl, h.gr.ids, fun _ c _ fr h => ⟨c, fr, h, rfl⟩⟩, ⟨rfl, rfl, rfl, Nat.le_refl _, fun _ _ _ => rfl⟩⟩
  · obtain ⟨ao, h1, h2⟩ := h.blk b k hb
    refine ⟨ao, h1, h2.mono g fun y hy => ?_⟩
    obtain ⟨c, e, fr, hc⟩ := owned_cells h ⟨b, k, y, hb, by rw [h1, hy], rfl⟩
    exact hs _ ⟨c, e, fr, hc⟩
  · have := (h.fz x hx).1; omega
theorem SimW.un (k : Lnk B w F own) (ds : List Deferred) (h : SimW (rebase B w F own ds) A a' w' F' m') : SimW { B with ds := ds } A a' w' F' m' := by
  have bo : ∀ x, (w.heap.size ≤ x ∨ own x) → B.w0.heap.size ≤ x ∨ B.bor x := fun x hx => by
    rcases hx with hx | hx
    · have := k.wr.size; exact .inl (by omega)
    · exact (k.own x hx).2
  refine ⟨h.defers, h.size, h.slot, h.blk, fun b q x hb hx => ⟨(h.own b q x hb hx).1, bo _ (h.own b q x hb hx).2⟩, h.apart, h.used, fun x hx => ⟨(h.fz x hx).1, ?_⟩, ⟨fun x hx => h.gr.sub x (k.sub x hx), fun x hx => (h.gr.same x (k.sub x hx)).trans (k.same x hx), h.gr.ids, fun x c e fr hx => ?_⟩, ?_⟩
  · rcases (h.fz x hx).2 with h1 | h1
    · exact (k.fz x h1).2
    · exact .inr (bo x h1)
  · obtain ⟨c', fr', q1, q2⟩ := k.size x c e fr hx
    obtain ⟨c'', fr'', q3, q4⟩ := h.gr.size x c' e fr' q1
    exact ⟨c'', fr'', q3, q4.trans q2⟩
  · have hw := h.wr
    refine ⟨hw.os.trans k.wr.os, hw.tape.trans k.wr.tape, hw.output.trans k.wr.output, Nat.le_trans k.wr.size hw.size, fun x hx hb => ?_⟩
    have hx' : x < B.w0.heap.size := hx
    rw [← k.wr.block x hx hb]
    refine hw.block x (Nat.lt_of_lt_of_le hx k.wr.size) fun ho => ?_
    rcases (k.own x ho).2 with h1 | h1
    · omega
    · exact hb h1
/-- A block that holds no cells, beyond the base, is changed. -/
theorem Lnk.poke (k : Lnk B w F own) {l : Nat} {o : Obj} (hl : B.w0.heap.size ≤ l) (hF : ¬ F l) : Lnk B (w.putObj l o) F own := by
  have hs := k.wr.size
  refine ⟨k.own, fun x hx => by rw [World.putObj_size]; exact k.fz x hx, k.sub, fun x hx => ?_, fun x c e fr hx => ?_, ⟨k.wr.os, k.wr.tape, k.wr.output, by rw [World.putObj_size]; exact hs, fun x hx hb => ?_⟩⟩
  · rw [World.putObj_heap_other (fun e => hF (by rw [← e]; exact k.sub x hx))]; exact k.same x hx
  · have : x < B.w0.heap.size := (Array.getElem?_eq_some_iff.1 hx).1
    rw [World.putObj_heap_other (by omega)]; exact k.size x c e fr hx
  · rw [World.putObj_heap_other (by omega)]; exact k.wr.block x hx hb
theorem alloc_other (w : World) (o : Obj) {k : Nat} (h : k < w.heap.size) : (w.alloc o).heap[k]? = w.heap[k]? := by
  have : (w.alloc o).heap = w.heap.push o := rfl
  rw [this, Array.getElem?_push, if_neg (by omega)]
theorem Lnk.alloc (k : Lnk B w F own) (o : Obj) : Lnk B (w.alloc o) F own := by
  have hs := k.wr.size
  refine ⟨k.own, fun x hx => ⟨by have := (k.fz x hx).1; simp; omega, (k.fz x hx).2⟩, k.sub, fun x hx => ?_, fun x c e fr hx => ?_, ⟨k.wr.os, k.wr.tape, k.wr.output, by simp; omega, fun x hx hb => ?_⟩⟩
  · rw [alloc_other _ _ (k.fz x (k.sub x hx)).1]; exact k.same x hx
  · have : x < B.w0.heap.size := (Array.getElem?_eq_some_iff.1 hx).1
    rw [alloc_other _ _ (by omega)]; exact k.size x c e fr hx
  · rw [alloc_other _ _ (by omega)]; exact k.wr.block x hx hb

/-! ### A round -/
def roundS (p0 p1 : Nat) (x0 x1 : PV) (st0 : List (Nat × Blk)) (n : Nat) : AS := { sl := [(p0, x0), (p1, x1)], st := st0, nx := st0.length, n := n }

theorem ys_of {l : Nat} {rec : Loop} {co : CallO} {p0 p1 : Nat} {x0 x1 : PV} {n : Nat} (hst : rec.state = .ready) (hpe : rec.pending = none) (hps : rec.params = #[p0, p1]) (hn : rec.tmps.size = n) (h01 : p0 ≠ p1) (h0 : p0 < n) (h1 : p1 < n) (hco : co.args = [x0, x1]) (hres : co.res = .bool true)
    (h : ∀ B : Base, Lent B co.st0.length → AWpR P B l rec.assign { n := fun s1 => ∀ B1 : Base, Lent B1 co.st0.length → AWpR P B1 l rec.body { n := fun s2 => storeEnd s2 co.st0.length (.bool true) co.st1, r := fun _ => False } s1, r := fun _ => False } (roundS p0 p1 x0 x1 co.st0 n)) : YS P l rec co := by
  intro B vs hB hi
  have hvs : vs.size = 2 := by rw [hi.size, hco]; rfl
  have hlt : l < B.w0.heap.size := (Array.getElem?_eq_some_iff.1 hB.at_).1
  obtain ⟨v0, v1, rfl⟩ : ∃ v0 v1, vs = #[v0, v1] := by
    match vs, hvs with
    | ⟨[v0, v1]⟩, _ => exact ⟨v0, v1, rfl⟩
  refine ⟨_, _, _, _, run_yield hB.at_ (by rw [hps]; rfl), roundIn_of_wpIn trivial ?_⟩
  have hsim : SimW B (roundS p0 p1 x0 x1 co.st0 n).f { tmps := (rec.params.zip #[v0, v1]).foldl (fun tmps (t, a) => tmps.setIfInBounds t a) rec.tmps, defers := [] } B.w0 B.F0 B.m0 := by
    rw [hps]
    refine ⟨hi.ds.symm, by simp [roundS, AS.f, hn], fun t => ?_, hi.blk, fun b k x hb hx => ⟨(hi.own b k x hb hx).1, .inr (hi.own b k x hb hx).2⟩, hi.apart, hi.ids, fun x hx => ⟨(hi.fz x hx).1, .inl hx⟩, Grow.refl _ _ _, ⟨rfl, rfl, rfl, Nat.le_refl _, fun _ _ _ => rfl⟩⟩
    show Rep _ _ _ (getPV (lk (roundS p0 p1 x0 x1 co.st0 n).sl t)) _
    have e : ((#[p0, p1].zip #[v0, v1]).foldl (fun tmps (t, a) => tmps.setIfInBounds t a) rec.tmps) = (rec.tmps.setIfInBounds p0 v0).setIfInBounds p1 v1 := by simp
    simp only [e, roundS, lk, Array.getD_eq_getD_getElem?, Array.getElem?_setIfInBounds]
    have r0 := hi.arg 0 x0 v0 (by rw [hco]; rfl) rfl
    have r1 := hi.arg 1 x1 v1 (by rw [hco]; rfl) rfl
    by_cases e0 : p0 = t
    · subst e0
      rw [if_pos rfl, if_neg (fun h => h01 h.symm), if_pos rfl, if_pos (by omega)]
      exact r0
    · rw [if_neg e0]
      by_cases e1 : p1 = t
      · subst e1
        rw [if_pos rfl, if_pos rfl, if_pos (by simp; omega)]
        exact r1
      · rw [if_neg e1]; exact .any _
  refine wpIn_mono (h B (fun b x hb => hi.ids b (by rw [hb]; simp)) _ _ ⟨_, _, hsim⟩) ?_
  rintro e a1 w1 ⟨s1, he, F1, m1, hs1⟩
  cases e with
  | normal =>
    obtain ⟨q1, q2, q3⟩ := hs1.ready hB
    have lnk1 := hs1.lnk
    refine ⟨_, run_beginRound q1 hst, ?_⟩
    have hl1 : l < w1.heap.size := (Array.getElem?_eq_some_iff.1 q1).1
    have hre := hs1.re [] (w1 := w1.putObj l (.loop { rec with state := .busy })) (by rw [World.putObj_size]; exact Nat.le_refl _) (fun x ⟨c, e, fr, hx⟩ => World.putObj_heap_other (fun e => by subst e; rw [q1] at hx; cases hx)) (fun x hx => World.putObj_heap_other (fun e => by subst e; exact q2 hx))
    have had : a1.defers = [] := by rw [hs1.defers, hi.ds]
    have ha1 : ({ a1 with defers := [] } : Act) = a1 := by cases a1; simp at had; subst had; rfl
    rw [ha1] at hre
    have hno : ¬ owned s1.f m1 l := fun ⟨b, k, y, r1, r2, r3⟩ => q3 b k y r1 r2 r3
    refine wpIn_mono (he _ (fun b x hb => hi.ids b (by rw [show B.m0 b = some x from hb]; simp)) _ _ ⟨_, _, hre⟩) ?_
    rintro e a2 w3 ⟨s2, he2, F2, m2, hs2⟩
    cases e with
    | normal =>
      have hbusy : w3.heap[l]? = some (.loop { rec with state := .busy }) := by
        rw [hs2.wr.block l (by show l < (w1.putObj l _).heap.size; rw [World.putObj_size]; exact hl1) hno]
        exact World.putObj_heap_same hl1
      have hl3 : l < w3.heap.size := (Array.getElem?_eq_some_iff.1 hbusy).1
      refine ⟨_, _, run_endRound none hbusy, .bool true, ?_⟩
      have hrec : ({ rec with state := LoopState.ready, pending := none } : Loop) = rec := by cases rec; simp at hst hpe; subst hst hpe; rfl
      have e4 : w3.putObj l (.loop { ({ rec with state := LoopState.busy } : Loop) with state := if (none : Option Code).isNone then LoopState.ready else LoopState.done, pending := none }) = w3.putObj l (.loop rec) := by
        simp only [Option.isNone_none, if_true, hrec]
      rw [e4]
      have hF2 : ¬ F2 l := fun hx => by
        rcases (hs2.fz l hx).2 with r | r | r
        · exact q2 r
        · have : (w1.putObj l (.loop { rec with state := LoopState.busy })).heap.size ≤ l := r
          rw [World.putObj_size] at this; omega
        · exact hno r
      have hne : ∀ x, x ≠ l → (w3.putObj l (.loop rec)).heap[x]? = w3.heap[x]? := fun x hx => World.putObj_heap_other hx
      have hown2 : ∀ x, owned s2.f m2 x → x ≠ l := fun x hx e => by
        obtain ⟨c, t, _, q⟩ := owned_cells hs2 hx
        rw [e, hbusy] at q; cases q
      let mm : Ids := fun b => if b < co.st0.length then m2 b else none
      have hmm : ∀ b, b < co.st0.length → mm b = m2 b := fun b hb => if_pos hb
      have hids : ∀ b, B.m0 b ≠ none → b < co.st0.length := hi.ids
      have bo : ∀ x, (w1.heap.size ≤ x ∨ owned s1.f m1 x) → B.w0.heap.size ≤ x ∨ B.bor x := fun x hx => by
        rcases hx with hx | hx
        · have := lnk1.wr.size; exact .inl (by omega)
        · exact (lnk1.own x hx).2
      have bo' : ∀ x, ((w1.putObj l (.loop { rec with state := LoopState.busy })).heap.size ≤ x ∨ owned s1.f m1 x) → B.w0.heap.size ≤ x ∨ B.bor x := fun x hx => bo x (by rw [World.putObj_size] at hx; exact hx)
      have gF : Grow F2 w3 m2 F2 (w3.putObj l (.loop rec)) m2 := ⟨fun _ h => h, fun x hx => hne x (fun e => hF2 (e ▸ hx)), fun _ _ h => h, fun x c e fr hx => ⟨c, fr, by rw [hne x (fun e => by subst e; rw [hbusy] at hx; cases hx)]; exact hx, rfl⟩⟩
      refine ⟨F2, mm, by simp, ⟨by rw [hres]; exact .fz (.bool _), fun b k hb => ?_, fun b k x hb hx => ?_, fun b b' k k' x x' hb hb' hneq hx hx' => ?_, fun b hb => ?_, fun x hx => ?_, ⟨fun x hx => ?_, fun x hx => ?_, fun b x hb => ?_, fun x c e fr hx => ?_⟩, ?_⟩⟩
      · obtain ⟨p1, p2, p3, _⟩ := storeEnd_lk he2 b k hb
        obtain ⟨ao, r1, r2⟩ := hs2.blk b k p1
        refine ⟨ao, by rw [hmm b p2]; exact r1, ?_⟩
        have r3 : BlkOk F2 (w3.putObj l (.loop rec)) m2 ao k := r2.mono gF fun y hy => hne _ (hown2 _ ⟨b, k, y, p1, by rw [r1, hy], rfl⟩)
        rw [← Blk.ren_id k] at r3
        exact r3.unren (S := (· < co.st0.length)) hmm p3
      · obtain ⟨p1, p2, p3, _⟩ := storeEnd_lk he2 b k hb
        rw [hmm b p2] at hx
        exact ⟨(hs2.own b k x p1 hx).1, bo' _ (hs2.own b k x p1 hx).2⟩
      · obtain ⟨p1, p2, p3, _⟩ := storeEnd_lk he2 b k hb
        obtain ⟨p1', p2', p3', _⟩ := storeEnd_lk he2 b' k' hb'
        rw [hmm b p2] at hx
        rw [hmm b' p2'] at hx'
        exact hs2.apart b b' k k' x x' p1 p1' hneq hx hx'
      · have : b < co.st0.length := Classical.byContradiction fun e => hb (if_neg e)
        omega
      · refine ⟨by rw [World.putObj_size]; exact (hs2.fz x hx).1, ?_⟩
        rcases (hs2.fz x hx).2 with r | r
        · exact (lnk1.fz x r).2
        · exact .inr (bo' x r)
      · exact hs2.gr.sub x (lnk1.sub x hx)
      · have hxl : x ≠ l := fun e => q2 (e ▸ lnk1.sub x hx)
        rw [hne x hxl, hs2.gr.same x (lnk1.sub x hx)]
        show (w1.putObj l (.loop { rec with state := LoopState.busy })).heap[x]? = _
        rw [World.putObj_heap_other hxl]
        exact lnk1.same x hx
      · have hb0 : b < co.st0.length := hids b (by rw [hb]; simp)
        rw [hmm b hb0]
        exact hs2.gr.ids b x hb
      · have hxl : x ≠ l := fun e => by subst e; rw [hB.at_] at hx; cases hx
        obtain ⟨c', fr', r1, r2⟩ := lnk1.size x c e fr hx
        obtain ⟨c'', fr'', r3, r4⟩ := hs2.gr.size x c' e fr' (by show (w1.putObj l (.loop { rec with state := LoopState.busy })).heap[x]? = _; rw [World.putObj_heap_other hxl]; exact r1)
        exact ⟨c'', fr'', by rw [hne x hxl]; exact r3, r4.trans r2⟩
      · have k1 := lnk1.wr
        have k2 := hs2.wr
        refine ⟨k2.os.trans k1.os, k2.tape.trans k1.tape, k2.output.trans k1.output, ?_, fun x hx hb => ?_⟩
        · rw [World.putObj_size]
          have := k2.size
          have e5 : (w1.putObj l (.loop { rec with state := LoopState.busy })).heap.size = w1.heap.size := World.putObj_size
          have := k1.size
          have e6 : (rebase B (w1.putObj l (.loop { rec with state := LoopState.busy })) F1 (owned s1.f m1) []).w0.heap.size = w1.heap.size := e5
          omega
        · by_cases hxl : x = l
          · subst hxl
            rw [World.putObj_heap_same hl3, hB.at_]
          · rw [hne x hxl, ← k1.block x hx hb]
            rw [k2.block x (by show x < (w1.putObj l _).heap.size; rw [World.putObj_size]; have := k1.size; omega) (fun ho => ?_)]
            · exact World.putObj_heap_other hxl
            · rcases (lnk1.own x ho).2 with r | r
              · omega
              · exact hb r
    | ret => exact he2.elim
    | exit id => exact he2.elim
    | _ => exact he2.elim
  | ret => exact he.elim
  | exit id => exact he.elim
  | _ => exact he.elim

/-! ### The statement, and a function that holds one -/
theorem SimW.poke (h : SimW B A a w F m) {l : Nat} {o : Obj} (hl : B.w0.heap.size ≤ l) (hF : ¬ F l) (hn : ∀ c e fr, w.heap[l]? ≠ some (Obj.cells c e fr)) : SimW B A a (w.putObj l o) F m := by
  have h1 := h.re B.ds (w1 := w.putObj l o) (by rw [World.putObj_size]; exact Nat.le_refl _) (fun x ⟨c, e, fr, hx⟩ => World.putObj_heap_other fun e' => hn c e fr (by rw [← e']; exact hx)) (fun x hx => World.putObj_heap_other fun e => hF (e ▸ hx))
  have h2 := h1.un (h.lnk.poke (o := o) hl hF)
  have e : ({ a with defers := B.ds } : Act) = a := by rw [← h.defers]
  rw [e] at h2
  exact h2

def markD (D : Nat) : Deferred := { target := .collected D, args := #[] }
/-- How a function may end that held a range over a function, or none yet. -/
def RawEnd (B : Base) (E : AS → Prop) : Exit → Act → World → Prop := fun e a w =>
  (e = .normal ∨ e = .ret) ∧ ∃ s F m, E s ∧ (SimW B s.f a w F m ∨ ∃ D, SimW { B with ds := [markD D] } s.f a w F m ∧ w.heap[D]? = some (.deferred (some [])) ∧ B.w0.heap.size ≤ D ∧ ¬ F D)

theorem done_ds {ds : List Deferred} {n : Nat} {res : PV} {st1 : List (Nat × Blk)} {v : Value} (d : Done { B with ds := ds } n res st1 v w F m) : Done B n res st1 v w F m :=
  ⟨d.res, d.blk, d.own, d.apart, d.ids, d.fz, ⟨d.grow.sub, d.grow.same, d.grow.ids, d.grow.size⟩, ⟨d.kept.os, d.kept.tape, d.kept.output, d.kept.size, d.kept.block⟩⟩

theorem fn_raw (hT : TabOk P T) {f : FuncId} {fn : Func} {c : Code} {args : List PV} {res : PV} {n : Nat} {rs : Array ResultVar} (hf : P.funcs[f]? = some fn) (hb : fn.body = some c) (hn : (fn.name == "runtime.NumGoroutine") = false)
    (hnt : fn.ntmps = n) (hr : fn.results = rs) (hl : args.length ≤ n)
    (h : ∀ B : Base, Lent B 0 → B.ds = [] → ∀ a w, Sim B (initS args [] n).f a w → c.wp P (RawEnd B (endOk T rs.toList 0 res [])) a w) : FnS P f args [] res [] := by
  subst hnt hr
  refine ⟨⟨fn, hf, hn, by rw [hb]; rfl⟩, fun B vs hi => (callsIn_wide (n := 0)).1 (callsIn_of_wp_marks hf hb trivial ((wpIn_wide (n := 0)).2 (wp_mono (h B (fun b x hb => hi.ids b (by rw [hb]; simp)) hi.ds _ _ ⟨_, _, init_sim hi hl⟩) ?_)))⟩
  rintro e a' w' ⟨he, s', F, m, hE, hs⟩
  have key : LeavesInM Fence.wide 0 P fn a'.tmps (fun e w' => ∃ v F m, e = .returned v ∧ Done B ([] : List (Nat × Blk)).length res [] v w' F m) a'.defers .returning w' := by
    rcases hs with hs | ⟨D, hs, hD, hsz, hFD⟩
    · rw [hs.defers, hi.ds]
      obtain ⟨v, h1, F', m', h2⟩ := end_done hT hs (fun b hb => hi.ids b hb) hE
      exact ⟨v, h1, v, F', m', rfl, h2⟩
    · rw [hs.defers]
      refine ⟨by simp, .inl ⟨D, _, rfl, run_takeDeferred hD, ?_⟩⟩
      have hs' := hs.poke (l := D) (o := .deferred none) hsz hFD (fun c e fr e' => by rw [hD] at e'; cases e')
      obtain ⟨v, h1, F', m', h2⟩ := end_done hT hs' (fun b hb => hi.ids b hb) hE
      exact ⟨v, h1, v, F', m', rfl, done_ds h2⟩
  rcases he with rfl | rfl
  · exact key
  · exact key

/-- A piece, and then the rest. -/
theorem raw_seq {x y : Code} {s : AS} {E N' : AS → Prop} (hx : AWp P B x { n := N', r := E } s) (hy : ∀ s1, N' s1 → ∀ a w, Sim B s1.f a w → y.wp P (RawEnd B E) a w) : ∀ a w, Sim B s.f a w → (x.seq y).wp P (RawEnd B E) a w := fun a w hs => by
  refine wp_seq (wp_mono (hx a w hs) ?_)
  rintro e a' w' ⟨s', h1, h2⟩
  cases e with
  | normal => exact hy s' h1 a' w' h2
  | ret => obtain ⟨F, m, h2⟩ := h2; exact ⟨.inr rfl, s', F, m, h1, .inl h2⟩
  | exit id => exact h1.elim
  | _ => exact h1.elim

/-- Two pieces, and then the rest. -/
theorem raw_seq2 {x y z : Code} {s : AS} {E N' : AS → Prop} (hx : AWp P B x { n := N', r := E } s) (hy : ∀ s1, N' s1 → ∀ a w, Sim B s1.f a w → y.wp P (Exit.then (z.wp P (RawEnd B E)) (RawEnd B E)) a w) : ∀ a w, Sim B s.f a w → ((x.seq y).seq z).wp P (RawEnd B E) a w := fun a w hs => by
  refine wp_seq (wp_seq (wp_mono (hx a w hs) ?_))
  rintro e a' w' ⟨s', h1, h2⟩
  cases e with
  | normal => exact hy s' h1 a' w' h2
  | ret => obtain ⟨F, m, h2⟩ := h2; exact ⟨.inr rfl, s', F, m, h1, .inl h2⟩
  | exit id => exact h1.elim
  | _ => exact h1.elim

theorem range_wp {s : AS} {n0 : Nat} {E : AS → Prop} {g : Operand} {gf : FuncId} {cap : List PV} {p0 p1 : Nat} {assign body c3 : Code} {id : Nat} {ι : Type} {co : ι → CallO} {x0 x1 : ι → PV} {cg : Nat → CallO} (hB : Lent B n0) (hds : B.ds = [])
    (hg : ev s.get g = .fn (.func gf) [] cap) (h01 : p0 ≠ p1) (hp0 : p0 < s.n) (hp1 : p1 < s.n) (hco : ∀ i, (co i).args = [x0 i, x1 i] ∧ (co i).res = .bool true)
    (hRound : ∀ (l : Nat) (i : ι) (B : Base), Lent B (co i).st0.length → AWpR P B l assign { n := fun s1 => ∀ B1 : Base, Lent B1 (co i).st0.length → AWpR P B1 l body { n := fun s2 => storeEnd s2 (co i).st0.length (.bool true) (co i).st1, r := fun _ => False } s1, r := fun _ => False } (roundS p0 p1 (x0 i) (x1 i) (co i).st0 s.n))
    (hG : ∀ l rec, (∀ i, YS P l rec (co i)) → FnL P l rec gf (cg l).args (cg l).st0 (cg l).res (cg l).st1)
    (hcall : ∀ l, (fCall (lk s.st) s.nx (cg l) (.fn (.yield l) [] [] :: cap)).g)
    (h3 : ∀ (l : Nat) (B' : Base), Lent B' n0 → AWp P B' c3 { n := E, r := E } (s.app none (fCall (lk s.st) s.nx (cg l) (.fn (.yield l) [] [] :: cap)))) :
    ∀ a w, Sim B s.f a w → (Code.block id (.rangeFunc g #[p0, p1] assign body)).wp P (Exit.then (c3.wp P (RawEnd B E)) (RawEnd B E)) a w := by
  rintro a w ⟨F, m, h⟩
  obtain ⟨vs, us, hfv, hn, hk, _, hcap⟩ := (hg ▸ h.ev g).fn_inv
  have hvs : vs = #[] := Array.eq_empty_of_size_eq_zero (by simpa using hn)
  subst hvs
  refine wp_block ((wpIn_wide (n := 0)).1 (wpIn_rangeFunc ?_))
  intro fn _
  generalize hrec : ({ state := .ready, pending := none, fn := fn, tmps := a.tmps, params := #[p0, p1], assign := assign, body := body, defers := w.heap.size } : Loop) = rec
  generalize hl : w.heap.size + 1 = l
  generalize hw1 : (w.alloc (.deferred (some []))).alloc (.loop rec) = w1
  have hsz1 : w1.heap.size = w.heap.size + 2 := by rw [← hw1]; simp
  have hatl : w1.heap[l]? = some (.loop rec) := by
    rw [← hw1, ← hl]
    have e : ((w.alloc (.deferred (some []))).alloc (.loop rec)).heap = (w.heap.push (.deferred (some []))).push (.loop rec) := rfl
    rw [e, Array.getElem?_push, if_pos (by simp)]
  have hatD : w1.heap[w.heap.size]? = some (.deferred (some [])) := by
    rw [← hw1]
    have e : ((w.alloc (.deferred (some []))).alloc (.loop rec)).heap = (w.heap.push (.deferred (some []))).push (.loop rec) := rfl
    rw [e, Array.getElem?_push, if_neg (by simp), Array.getElem?_push, if_pos rfl]
  have hold : ∀ x, x < w.heap.size → w1.heap[x]? = w.heap[x]? := fun x hx => by
    rw [← hw1, alloc_other _ _ (by simp; omega), alloc_other _ _ hx]
  have hlnk1 : Lnk B w1 F (owned s.f m) := by rw [← hw1]; exact (h.lnk.alloc _).alloc _
  have had : a.defers = [] := by rw [h.defers, hds]
  have ha0 : ({ a with defers := [] } : Act) = a := by cases a; simp at had; subst had; rfl
  have hre := h.re [] (w1 := w1) (by omega) (fun x ⟨c, e, fr, hx⟩ => hold x (Array.getElem?_eq_some_iff.1 hx).1) (fun x hx => hold x (h.fz x hx).1)
  rw [ha0] at hre
  have hFl : ¬ F l := fun hx => by have := (h.fz l hx).1; omega
  have hFD : ¬ F w.heap.size := fun hx => by have := (h.fz _ hx).1; omega
  have hol : ¬ owned s.f m l := fun hx => by
    obtain ⟨c, e, _, q⟩ := owned_cells hre hx
    rw [hatl] at q; cases q
  have hoD : ¬ owned s.f m w.heap.size := fun hx => by
    obtain ⟨c, e, _, q⟩ := owned_cells hre hx
    rw [hatD] at q; cases q
  have hready : Ready (rebase B w1 F (owned s.f m) []) l rec := ⟨hatl, hFl, hol⟩
  have hlen := (hre.ready hready)
  have hfn := hG l rec fun i => ys_of (n := s.n) (by rw [← hrec]) (by rw [← hrec]) (by rw [← hrec]) (by rw [← hrec]; exact h.size) h01 hp0 hp1 (hco i).1 (hco i).2 (by rw [← hrec]; exact hRound l i)
  refine ⟨l, [markD w.heap.size], w1, { target := .fn (.func gf) us, args := #[.func (.yield l) #[] #[]] }, w1, gf, #[.func (.yield l) #[] #[]] ++ us, w1, ?_, ?_, fun _ _ => trivial, ?_, fun e => by simp [Fence.wide] at e, callsIn_wide.2 ?_⟩
  · have := run_enterLoop_outer (P := P) (w := w) fn a.tmps #[p0, p1] assign body
    rw [hrec, hw1, hl] at this
    exact this
  · simp only [resolve, Sem.run_bind, hfv, Deferred.ofValue, Sem.run_pure, Result.andThen_ok]
    simp [go_sem]
  · obtain ⟨fn', q1, q2, q3⟩ := hfn.1
    simp only [Sem.run_bind, Sem.run_pure, Result.andThen_ok, invoke, callFunc, run_program, q1, q2, q3, if_false, Bool.false_eq_true]
    try simp
  have hfresh : ∀ b, s.nx ≤ b → b < s.nx + 8 → ¬ s.f.used b ∧ rng s.nx b := fun b h1 h2 => ⟨fun hq => by have : b < s.nx := hq; omega, h1, h2⟩
  have key := call_gen hre (st := lk s.st) (fun b k hb => hb) (o := cg l) (ps := .fn (.yield l) [] [] :: cap) (vs := #[.func (.yield l) #[] #[]] ++ us) (by simp [hk]; omega) (fun i p v hp hv => by
      cases i with
      | zero =>
        have hv' : some (Value.func (.yield l) #[] #[]) = some v := by rw [← hv, Array.getElem?_append_left (by simp)]; rfl
        cases hv'
        rw [List.getElem?_cons_zero] at hp
        cases hp
        exact .fz (.fn _)
      | succ i =>
        rw [List.getElem?_cons_succ] at hp
        rw [Array.getElem?_append_right (by simp)] at hv
        simp at hv
        exact (hcap i p v hp hv).mono ⟨fun _ h => h, fun x hx => hold x (h.fz x hx).1, fun _ _ h => h, fun x c e fr hx => ⟨c, fr, by rw [hold x (Array.getElem?_eq_some_iff.1 hx).1]; exact hx, rfl⟩⟩)
    (d := none) (c := s.nx) (u := rng s.nx) (by intro t ht; cases ht) hfresh (X := Calls P gf (#[.func (.yield l) #[] #[]] ++ us) w1) (fun _ _ hr hc => hc.mono hr)
    (fun B' e hF hb _ init => by
      have := hfn.2 B' _ ⟨by rw [e]; exact hatl, fun hx => ?_, fun hx => ?_⟩ init
      · rw [e] at this; exact this
      · rcases hF l hx with hx | ⟨b, k, y, q1, q2, q3⟩
        · exact hFl hx
        · exact hol ⟨b, k, y, q1, q2, q3⟩
      · obtain ⟨b, k, y, q1, q2, q3⟩ := hb l hx
        exact hol ⟨b, k, y, q1, q2, q3⟩) (hcall l)
  refine key.mono ?_
  rintro e w3 ⟨v, F3, m3, rfl, hs3⟩
  have hs3' : SimW (rebase B w1 F (owned s.f m) []) (s.app none (fCall (lk s.st) s.nx (cg l) (.fn (.yield l) [] [] :: cap))).f a w3 F3 m3 := hs3.toApp
  obtain ⟨q1, q2, q3⟩ := hs3'.ready hready
  have hD3 : w3.heap[w.heap.size]? = some (.deferred (some [])) := by
    rw [hs3'.wr.block w.heap.size (by show w.heap.size < w1.heap.size; omega) hoD]; exact hatD
  have hF3D : ¬ F3 w.heap.size := fun hx => by
    rcases (hs3'.fz _ hx).2 with r | r | r
    · exact hFD r
    · have : w1.heap.size ≤ w.heap.size := r; omega
    · exact hoD r
  have hsr : rec.state ≠ .busy := by rw [← hrec]; simp
  have hpe : rec.pending = none := by rw [← hrec]
  have hend := run_endLoop (P := P) q1 hsr
  generalize hw4 : w3.putObj l (.loop { rec with state := .exhausted }) = w4 at hend
  rw [hpe] at hend
  refine ⟨none, w4, hend, ?_⟩
  show Code.wp P c3 (RawEnd B E) _ _
  have hun := hs3'.un hlnk1
  have hlnk3 : Lnk { B with ds := [] } w3 F3 (owned (s.app none (fCall (lk s.st) s.nx (cg l) (.fn (.yield l) [] [] :: cap))).f m3) := hun.lnk
  have hBl : B.w0.heap.size ≤ l := by have := h.wr.size; omega
  have hBD : B.w0.heap.size ≤ w.heap.size := h.wr.size
  have hlnk4 := hlnk3.poke (l := l) (o := .loop { rec with state := .exhausted }) hBl q2
  have hre4 := hs3'.re [markD w.heap.size] (w1 := w3.putObj l (.loop { rec with state := .exhausted })) (by rw [World.putObj_size]; exact Nat.le_refl _) (fun x ⟨c, e, fr, hx⟩ => World.putObj_heap_other fun e' => by subst e'; rw [q1] at hx; cases hx) (fun x hx => World.putObj_heap_other fun e => q2 (e ▸ hx))
  rw [hw4] at hlnk4 hre4
  rw [had]
  refine wp_mono (h3 l _ (show Lent (rebase { B with ds := [] } w4 F3 (owned (s.app none (fCall (lk s.st) s.nx (cg l) (.fn (.yield l) [] [] :: cap))).f m3) [markD w.heap.size]) n0 from hB) _ _ ⟨F3, m3, hre4⟩) ?_
  rintro e a5 w5 ⟨s5, he5, F5, m5, hs5⟩
  have h5 := hs5.un hlnk4
  have ho3D : ¬ owned (s.app none (fCall (lk s.st) s.nx (cg l) (.fn (.yield l) [] [] :: cap))).f m3 w.heap.size := fun hx => by
    obtain ⟨c, e, _, q⟩ := owned_cells hs3' hx
    rw [hD3] at q; cases q
  have hne : w.heap.size ≠ l := by omega
  have hlt3 : w.heap.size < w3.heap.size := (Array.getElem?_eq_some_iff.1 hD3).1
  have hD5 : w5.heap[w.heap.size]? = some (.deferred (some [])) := by
    rw [hs5.wr.block w.heap.size (by show w.heap.size < w4.heap.size; rw [← hw4, World.putObj_size]; exact hlt3) ho3D]
    show w4.heap[w.heap.size]? = _
    rw [← hw4, World.putObj_heap_other hne]; exact hD3
  have hF5D : ¬ F5 w.heap.size := fun hx => by
    rcases (hs5.fz _ hx).2 with r | r | r
    · exact hF3D r
    · have : w4.heap.size ≤ w.heap.size := r
      rw [← hw4, World.putObj_size] at this; omega
    · exact ho3D r
  cases e with
  | normal => exact ⟨.inl rfl, s5, F5, m5, he5, .inr ⟨_, h5, hD5, hBD, hF5D⟩⟩
  | ret => exact ⟨.inr rfl, s5, F5, m5, he5, .inr ⟨_, h5, hD5, hBD, hF5D⟩⟩
  | exit id => exact he5.elim
  | _ => exact he5.elim

end
end Go.Proofs.YtoifmpiikopelaaFw
