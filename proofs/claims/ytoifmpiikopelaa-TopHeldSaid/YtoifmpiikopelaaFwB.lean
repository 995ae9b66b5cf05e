/-
  An abstract walk, part B: abstract states, the relation between an abstract state and the model's, and how it goes over a new slot, a new block, a store, a draw.
-/
import Derived.Test.YtoifmpiikopelaaFwA
namespace Go.Proofs.YtoifmpiikopelaaFw
open Go
set_option linter.unusedVariables false
set_option linter.unusedSimpArgs false

/-- An abstract state: what each slot holds, what each id's block holds, which ids are used. -/
structure AF where
  get : Nat → PV
  st : Nat → Option Blk
  used : Nat → Prop
  n : Nat

/-- What stays through a walk: the world at its beginning, which blocks were handed in as frozen, which as borrowed. -/
structure Base where
  w0 : World
  F0 : Nat → Prop
  m0 : Ids
  bor : Nat → Prop
  ds : List Deferred

structure Kept (B : Base) (w : World) : Prop where
  os : w.os = B.w0.os
  tape : w.tape = B.w0.tape
  output : w.output = B.w0.output
  size : B.w0.heap.size ≤ w.heap.size
  block : ∀ k, k < B.w0.heap.size → ¬ B.bor k → w.heap[k]? = B.w0.heap[k]?

structure SimW (B : Base) (A : AF) (a : Act) (w : World) (F : Nat → Prop) (m : Ids) : Prop where
  defers : a.defers = B.ds
  size : a.tmps.size = A.n
  slot : ∀ t, Rep F w m (A.get t) (a.tmps.getD t undef)
  blk : ∀ b k, A.st b = some k → ∃ ao, m b = some ao ∧ BlkOk F w m ao k
  own : ∀ b k x, A.st b = some k → m b = some (some x) → ¬ F x.block ∧ (B.w0.heap.size ≤ x.block ∨ B.bor x.block)
  apart : ∀ b b' k k' x x', A.st b = some k → A.st b' = some k' → b ≠ b' → m b = some (some x) → m b' = some (some x') → x.block ≠ x'.block
  used : ∀ b, m b ≠ none → A.used b
  fz : ∀ x, F x → x < w.heap.size ∧ (B.F0 x ∨ B.w0.heap.size ≤ x ∨ B.bor x)
  gr : Grow B.F0 B.w0 B.m0 F w m
  wr : Kept B w

def Sim (B : Base) (A : AF) (a : Act) (w : World) : Prop := ∃ F m, SimW B A a w F m

def AF.put (A : AF) (d : Option Tmp) (v : PV) : AF :=
  match d with
  | some d => { A with get := fun t => if t = d then v else A.get t }
  | none => A

/-- The slot fits the frame. -/
def AF.fits (A : AF) (d : Option Tmp) : Prop := ∀ t, d = some t → t < A.n

/-- The store behind a step: some ids go, some are put. -/
def AF.eff (A : AF) (dels : List Nat) (puts : List (Nat × Blk)) : AF :=
  { A with st := fun b => match puts.lookup b with | some k => some k | none => if b ∈ dels then none else A.st b }

def AF.use (A : AF) (u : Nat → Prop) : AF := { A with used := fun b => A.used b ∨ u b }

theorem blkOk_lt {F : Nat → Prop} {w : World} {m : Ids} {x : Addr} {k : Blk} (h : BlkOk F w m (some x) k) : x.block < w.heap.size ∧ x.spot = none := by
  cases k with
  | box cs =>
    obtain ⟨b, vs, e, hx, h1, _⟩ := h
    cases hx
    exact ⟨(Array.getElem?_eq_some_iff.1 h1).1, rfl⟩
  | row s es =>
    obtain ⟨_, _, ⟨h1, _⟩ | ⟨b, o, vs, e, _, hx, h1, _⟩⟩ := h
    · cases h1
    · cases hx
      exact ⟨(Array.getElem?_eq_some_iff.1 h1).1, rfl⟩

section
variable {B : Base} {A : AF} {a : Act} {w : World} {F : Nat → Prop} {m : Ids}

theorem SimW.lt (h : SimW B A a w F m) {b : Nat} {k : Blk} {x : Addr} (hb : A.st b = some k) (hx : m b = some (some x)) : x.block < w.heap.size := by
  obtain ⟨ao, h1, h2⟩ := h.blk b k hb
  rw [hx] at h1
  cases h1
  exact (blkOk_lt h2).1

theorem getD_put (a : Act) (d : Tmp) (v : Value) (t : Nat) (hd : d < a.tmps.size) : (a.put (some d) v).tmps.getD t undef = if t = d then v else a.tmps.getD t undef := by
  simp only [Act.put, Array.getD_eq_getD_getElem?, Array.getElem?_setIfInBounds]
  by_cases ht : d = t
  · subst ht; simp [hd]
  · rw [if_neg ht, if_neg (fun e => ht e.symm)]

/-- THE GENERAL STEP: the world grows; one slot is put; each block of the new store is either an old one, unchanged, or shown anew. -/
theorem SimW.step (h : SimW B A a w F m) {d : Option Tmp} {pv : PV} {v : Value} {A' : AF} {w' : World} {F' : Nat → Prop} {m' : Ids}
    (hd : A.fits d) (g : Grow F w m F' w' m') (hv : Rep F' w' m' pv v) (hget : A'.get = (A.put d pv).get) (hn : A'.n = A.n)
    (hblk : ∀ b k, A'.st b = some k → (A.st b = some k ∧ ∀ x, m b = some (some x) → w'.heap[x.block]? = w.heap[x.block]? ∧ ¬ F' x.block) ∨
      (∃ ao, m' b = some ao ∧ BlkOk F' w' m' ao k ∧ ∀ x, ao = some x → ¬ F' x.block ∧ (B.w0.heap.size ≤ x.block ∨ B.bor x.block)))
    (hap : ∀ b b' k k' x x', A'.st b = some k → A'.st b' = some k' → b ≠ b' → m' b = some (some x) → m' b' = some (some x') → x.block ≠ x'.block)
    (hu : ∀ b, m' b ≠ none → A'.used b) (hfz : ∀ x, F' x → x < w'.heap.size ∧ (B.F0 x ∨ B.w0.heap.size ≤ x ∨ B.bor x)) (hk : Kept B w') :
    SimW B A' (a.put d v) w' F' m' where
  defers := by cases d <;> exact h.defers
  size := by rw [hn, ← h.size]; cases d <;> simp [Act.put]
  slot := by
    intro t
    rw [hget]
    cases d with
    | none => exact (h.slot t).mono g
    | some d =>
      rw [getD_put a d v t (by rw [h.size]; exact hd d rfl)]
      simp only [AF.put]
      split
      · exact hv
      · exact (h.slot t).mono g
  blk := by
    intro b k hb
    rcases hblk b k hb with ⟨h1, h2⟩ | ⟨ao, h1, h2, _⟩
    · obtain ⟨ao, h3, h4⟩ := h.blk b k h1
      refine ⟨ao, g.ids b _ h3, h4.mono g fun x hx => (h2 x (by rw [h3, hx])).1⟩
    · exact ⟨ao, h1, h2⟩
  own := by
    intro b k x hb hx
    rcases hblk b k hb with ⟨h1, h2⟩ | ⟨ao, h1, _, h2⟩
    · obtain ⟨ao, h3, h4⟩ := h.blk b k h1
      have := g.ids b _ h3
      rw [hx] at this
      cases this
      exact ⟨(h2 x h3).2, (h.own b k x h1 h3).2⟩
    · rw [hx] at h1
      cases h1
      exact h2 x rfl
  apart := hap
  used := hu
  fz := hfz
  gr := h.gr.trans g
  wr := hk

/-- Nothing but a slot changes. -/
theorem SimW.put (h : SimW B A a w F m) {d : Option Tmp} {pv : PV} {v : Value} (hd : A.fits d) (hv : Rep F w m pv v) : SimW B (A.put d pv) (a.put d v) w F m := by
  have e1 : (A.put d pv).st = A.st := by cases d <;> rfl
  have e2 : (A.put d pv).used = A.used := by cases d <;> rfl
  have e3 : (A.put d pv).n = A.n := by cases d <;> rfl
  refine h.step hd (Grow.refl F w m) hv rfl e3 (fun b k hb => ?_) (fun b b' k k' x x' hb hb' => ?_) (fun b hb => ?_) h.fz h.wr
  · rw [e1] at hb
    exact .inl ⟨hb, fun x hx => ⟨rfl, (h.own b k x hb hx).1⟩⟩
  · rw [e1] at hb hb'
    exact h.apart b b' k k' x x' hb hb'
  · rw [e2]
    exact h.used b hb

theorem Kept.alloc (h : Kept B w) (o : Obj) : Kept B { w with heap := w.heap.push o } :=
  ⟨h.os, h.tape, h.output, by simp; have := h.size; omega, fun k hk hb => by
    have := h.size
    rw [← h.block k hk hb]
    show (w.heap.push o)[k]? = _
    rw [Array.getElem?_push, if_neg (by omega)]⟩

theorem Kept.drew (h : Kept B w) : Kept B w.drew := ⟨h.os, h.tape, h.output, h.size, h.block⟩

theorem push_old {w : World} (o : Obj) {k : Nat} (h : k < w.heap.size) : (w.heap.push o)[k]? = w.heap[k]? := by
  rw [Array.getElem?_push, if_neg (by omega)]

def updI (m : Ids) (c : Nat) (x : Option Addr) : Ids := fun b => if b = c then some x else m b

theorem grow_alloc (hF : ∀ x, F x → x < w.heap.size) (o : Obj) {c : Nat} {x : Option Addr} (hc : m c = none) : Grow F w m F { w with heap := w.heap.push o } (updI m c x) where
  sub := fun _ h => h
  same := fun k hk => push_old o (hF k hk)
  ids := fun b y hb => by
    unfold updI
    rw [if_neg]
    · exact hb
    · intro e; subst e; rw [hc] at hb; cases hb
  size := fun k c e fr h => ⟨c, fr, by
    have := (Array.getElem?_eq_some_iff.1 h).1
    show (w.heap.push o)[k]? = _
    rw [push_old o this]; exact h, rfl⟩

theorem grow_drew : Grow F w m F w.drew m := ⟨fun _ h => h, fun _ _ => rfl, fun _ _ h => h, fun _ c _ fr h => ⟨c, fr, h, rfl⟩⟩

/-- A draw changes nothing that is seen. -/
theorem SimW.drew (h : SimW B A a w F m) : SimW B A a w.drew F m :=
  ⟨h.defers, h.size, fun t => (h.slot t).mono grow_drew, fun b k hb => let ⟨ao, h1, h2⟩ := h.blk b k hb; ⟨ao, h1, h2.mono grow_drew fun _ _ => rfl⟩, h.own, h.apart, h.used, h.fz, h.gr.trans grow_drew, h.wr.drew⟩

/-- A new block, known to the store by the id c; old ids may go. -/
theorem SimW.new (h : SimW B A a w F m) {d : Option Tmp} {pv : PV} {v : Value} {o : Obj} {k : Blk} {c : Nat} {dels : List Nat} {u : Nat → Prop} {off : Nat} (hd : A.fits d) (hc : ¬ A.used c) (huc : u c)
    (hv : Rep F { w with heap := w.heap.push o } (updI m c (some ⟨w.heap.size, off, none⟩)) pv v)
    (hk : BlkOk F { w with heap := w.heap.push o } (updI m c (some ⟨w.heap.size, off, none⟩)) (some ⟨w.heap.size, off, none⟩) k) :
    SimW B (((A.eff dels [(c, k)]).use u).put d pv) (a.put d v) { w with heap := w.heap.push o } F (updI m c (some ⟨w.heap.size, off, none⟩)) := by
  have hmc : m c = none := Classical.byContradiction fun e => hc (h.used c e)
  have g := grow_alloc (m := m) (x := some ⟨w.heap.size, off, none⟩) (fun x hx => (h.fz x hx).1) o hmc
  have hst : (((A.eff dels [(c, k)]).use u).put d pv).st = fun b => if b = c then some k else if b ∈ dels then none else A.st b := by
    funext b
    have : (((A.eff dels [(c, k)]).use u).put d pv).st b = (A.eff dels [(c, k)]).st b := by cases d <;> rfl
    rw [this]
    simp only [AF.eff, List.lookup]
    by_cases hb : b = c
    · subst hb; simp
    · have : (b == c) = false := by simpa using hb
      simp [this, hb]
  have hus : (((A.eff dels [(c, k)]).use u).put d pv).used = fun b => A.used b ∨ u b := by cases d <;> rfl
  refine h.step hd g hv (by cases d <;> rfl) (by cases d <;> rfl) (fun b k' hb => ?_) (fun b b' k1 k2 x x' hb hb' hne hx hx' => ?_) (fun b hb => ?_) (fun x hx => ⟨by have := (h.fz x hx).1; simp; omega, (h.fz x hx).2⟩) (h.wr.alloc o)
  · rw [hst] at hb
    dsimp only at hb
    split at hb
    · rename_i e
      subst e
      cases hb
      refine .inr ⟨_, by simp [updI], hk, fun x hx => ?_⟩
      cases hx
      exact ⟨fun hf => by have := (h.fz _ hf).1; dsimp only at this; omega, .inl h.wr.size⟩
    · split at hb
      · cases hb
      · refine .inl ⟨hb, fun x hx => ⟨push_old o (h.lt hb hx), (h.own b k' x hb hx).1⟩⟩
  · rw [hst] at hb hb'
    dsimp only at hb hb'
    unfold updI at hx hx'
    split at hb
    · rename_i e
      subst e
      rw [if_pos rfl] at hx
      rw [if_neg (fun e => hne e.symm)] at hb' hx'
      split at hb'
      · cases hb'
      · have := h.lt hb' hx'
        cases hx
        dsimp only
        omega
    · rename_i e
      rw [if_neg e] at hx
      split at hb
      · cases hb
      · split at hb'
        · rename_i e'
          subst e'
          rw [if_pos rfl] at hx'
          have := h.lt hb hx
          cases hx'
          dsimp only
          omega
        · rename_i e'
          rw [if_neg e'] at hx'
          split at hb'
          · cases hb'
          · exact h.apart b b' k1 k2 x x' hb hb' hne hx hx'
  · rw [hus]
    unfold updI at hb
    split at hb
    · rename_i e; subst e; exact .inr huc
    · exact .inl (h.used b hb)

theorem kept_setRow (h : Kept B w) {g : Nat} (cs : Array Value) (hg : B.w0.heap.size ≤ g ∨ B.bor g) : Kept B (w.setRow g cs) :=
  ⟨h.os, h.tape, h.output, by simp; exact h.size, fun k hk hb => by
    rw [setRow_other w g k cs]
    · exact h.block k hk hb
    · rintro rfl
      rcases hg with hg | hg
      · omega
      · exact hb hg⟩

theorem grow_setRow {g : Nat} {cur cs : Array Value} {e : TypeId} {fr : Nat × Nat} (hg : w.heap[g]? = some (Obj.cells cur e fr)) (hs : cs.size = cur.size) (hF : ¬ F g) : Grow F w m F (w.setRow g cs) m where
  sub := fun _ h => h
  same := fun k hk => setRow_other w g k cs (by rintro rfl; exact hF hk)
  ids := fun _ _ h => h
  size := fun k c e' fr' h => by
    by_cases hk : k = g
    · subst hk
      rw [hg] at h
      cases h
      exact ⟨cs, fr, setRow_heap w k cur cs e fr hg, hs⟩
    · exact ⟨c, fr', by rw [setRow_other w g k cs hk]; exact h, rfl⟩

/-- A store into the block of an id: it is known anew, under the id c (the same, or a fresh one). -/
theorem SimW.write (h : SimW B A a w F m) {d : Option Tmp} {pv : PV} {v : Value} {b : Nat} {k0 k : Blk} {x : Addr} {cur cs : Array Value} {e : TypeId} {fr : Nat × Nat} (hd : A.fits d) (hb : A.st b = some k0) (hx : m b = some (some x))
    (hg : w.heap[x.block]? = some (Obj.cells cur e fr)) (hs : cs.size = cur.size)
    (hv : Rep F (w.setRow x.block cs) m pv v) (hk : BlkOk F (w.setRow x.block cs) m (some x) k) {u : Nat → Prop} :
    SimW B (((A.eff [] [(b, k)]).use u).put d pv) (a.put d v) (w.setRow x.block cs) F m := by
  have ho := h.own b k0 x hb hx
  have g := grow_setRow (m := m) hg hs ho.1
  have hst : (((A.eff [] [(b, k)]).use u).put d pv).st = fun b' => if b' = b then some k else A.st b' := by
    funext b'
    have : (((A.eff [] [(b, k)]).use u).put d pv).st b' = (A.eff [] [(b, k)]).st b' := by cases d <;> rfl
    rw [this]
    simp only [AF.eff, List.lookup]
    by_cases hb : b' = b
    · subst hb; simp
    · have : (b' == b) = false := by simpa using hb
      simp [this, hb]
  have hus : (((A.eff [] [(b, k)]).use u).put d pv).used = fun b => A.used b ∨ u b := by cases d <;> rfl
  have key : ∀ b' k', A.st b' = some k' → b' ≠ b → ∀ x', m b' = some (some x') → x'.block ≠ x.block := fun b' k' h1 h2 x' h3 => h.apart b' b k' k0 x' x h1 hb h2 h3 hx
  refine h.step hd g hv (by cases d <;> rfl) (by cases d <;> rfl) (fun b' k' hb' => ?_) (fun b1 b2 k1 k2 x1 x2 h1 h2 hne hx1 hx2 => ?_) (fun b' hb' => by rw [hus]; exact .inl (h.used b' hb')) (fun y hy => by simp; exact h.fz y hy) (kept_setRow h.wr cs ho.2)
  · rw [hst] at hb'
    dsimp only at hb'
    split at hb'
    · rename_i e'
      subst e'
      cases hb'
      exact .inr ⟨some x, hx, hk, fun y hy => by cases hy; exact ho⟩
    · rename_i e'
      exact .inl ⟨hb', fun y hy => ⟨setRow_other w _ _ cs (key b' k' hb' e' y hy), (h.own b' k' y hb' hy).1⟩⟩
  · rw [hst] at h1 h2
    dsimp only at h1 h2
    have e1 : ∃ k', A.st b1 = some k' := by
      split at h1
      · rename_i e; subst e; exact ⟨_, hb⟩
      · exact ⟨_, h1⟩
    have e2 : ∃ k', A.st b2 = some k' := by
      split at h2
      · rename_i e; subst e; exact ⟨_, hb⟩
      · exact ⟨_, h2⟩
    obtain ⟨k1', e1⟩ := e1
    obtain ⟨k2', e2⟩ := e2
    exact h.apart b1 b2 _ _ x1 x2 e1 e2 hne hx1 hx2

end
end Go.Proofs.YtoifmpiikopelaaFw
