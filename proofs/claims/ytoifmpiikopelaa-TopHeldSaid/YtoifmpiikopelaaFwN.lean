/-
  An abstract walk, part N: contracts of functions, and a call by contract.
-/
import Derived.Test.YtoifmpiikopelaaFwM
namespace Go.Proofs.YtoifmpiikopelaaFw
open Go
set_option linter.unusedVariables false
set_option linter.unusedSimpArgs false

def lk {α : Type} (l : List (Nat × α)) (k : Nat) : Option α :=
  match l with
  | [] => none
  | (j, v) :: r => if j = k then some v else lk r k

/-- The function is there, with a body of its own. -/
def Here (P : Program) (f : FuncId) : Prop := ∃ fn, P.funcs[f]? = some fn ∧ (fn.name == "runtime.NumGoroutine") = false ∧ fn.body.isNone = false

/-- A function begins: its arguments and the store that it borrows, under the ids below k. -/
structure Init (B : Base) (args : List PV) (st0 : List (Nat × Blk)) (vs : Array Value) : Prop where
  ds : B.ds = []
  size : vs.size = args.length
  arg : ∀ (i : Nat) (p : PV) (v : Value), args[i]? = some p → vs[i]? = some v → Rep B.F0 B.w0 B.m0 p v
  blk : ∀ b k, lk st0 b = some k → ∃ ao, B.m0 b = some ao ∧ BlkOk B.F0 B.w0 B.m0 ao k
  own : ∀ b k x, lk st0 b = some k → B.m0 b = some (some x) → ¬ B.F0 x.block ∧ B.bor x.block
  apart : ∀ b b' k k' x x', lk st0 b = some k → lk st0 b' = some k' → b ≠ b' → B.m0 b = some (some x) → B.m0 b' = some (some x') → x.block ≠ x'.block
  ids : ∀ b, B.m0 b ≠ none → b < st0.length
  fz : ∀ x, B.F0 x → x < B.w0.heap.size ∧ ¬ B.bor x

/-- A function ends. -/
structure Done (B : Base) (n : Nat) (res : PV) (st1 : List (Nat × Blk)) (v : Value) (w : World) (F : Nat → Prop) (m : Ids) : Prop where
  res : Rep F w m res v
  blk : ∀ b k, lk st1 b = some k → ∃ ao, m b = some ao ∧ BlkOk F w m ao k
  own : ∀ b k x, lk st1 b = some k → m b = some (some x) → ¬ F x.block ∧ (B.w0.heap.size ≤ x.block ∨ B.bor x.block)
  apart : ∀ b b' k k' x x', lk st1 b = some k → lk st1 b' = some k' → b ≠ b' → m b = some (some x) → m b' = some (some x') → x.block ≠ x'.block
  ids : ∀ b, m b ≠ none → b < n + 8
  fz : ∀ x, F x → x < w.heap.size ∧ (B.F0 x ∨ B.w0.heap.size ≤ x ∨ B.bor x)
  grow : Grow B.F0 B.w0 B.m0 F w m
  kept : Kept B w

/-- THE CONTRACT: called with these arguments, over a store that it borrows, the function returns this, and leaves that store. -/
def FnS (P : Program) (f : FuncId) (args : List PV) (st0 : List (Nat × Blk)) (res : PV) (st1 : List (Nat × Blk)) : Prop :=
  Here P f ∧ ∀ (B : Base) (vs : Array Value), Init B args st0 vs → Calls P f vs B.w0 fun e w' => ∃ v F m, e = .returned v ∧ Done B st0.length res st1 v w' F m

/-- The contract of an entry without a body of its own. -/
def FnE (P : Program) (f : FuncId) (args : List PV) (st0 : List (Nat × Blk)) (res : PV) (st1 : List (Nat × Blk)) : Prop :=
  ∀ (B : Base) (vs : Array Value), Init B args st0 vs → ∃ v w' F m, (callFunc f vs).run P B.w0 = .ok (.value v) w' ∧ Done B st0.length res st1 v w' F m
def FnX (P : Program) (f : FuncId) (args : List PV) (st0 : List (Nat × Blk)) (res : PV) (st1 : List (Nat × Blk)) : Prop := FnS P f args st0 res st1 ∨ FnE P f args st0 res st1

/-- The contract of a function that borrows nothing. -/
abbrev FnR (P : Program) (f : FuncId) (args : List PV) (res : PV) : Prop := FnS P f args [] res []

def VT.fr : VT → Bool
  | .abool => true
  | .ifc _ _ _ => true
  | .nili => true
  | .nils => true
  | .fmap _ => false
/-- No slice, no pointer. -/
def PV.scalarC : PV → Bool
  | .bool _ => true
  | .int _ _ => true
  | .str _ => true
  | .nilp => true
  | .nilf => true
  | .und => true
  | .val x => x.fr
  | _ => false
def PV.scalarA : PV → Bool
  | .agg cs => cs.all PV.scalarC
  | p => p.scalarC
def PV.scalar : PV → Bool
  | .tup cs => cs.all PV.scalarA
  | p => p.scalarA

section
variable {P : Program} {B : Base} {A : AF} {a : Act} {w w' : World} {F F' : Nat → Prop} {m m' : Ids}

theorem Rep.scalarC {p : PV} {v : Value} (h : Rep F w m p v) (hs : p.scalarC = true) : Rep F' w' m' p v := by
  cases p <;> first | (simp [PV.scalarC] at hs; done) | skip
  · rw [h.bool_inv]; exact .fz (.bool _)
  · rw [h.int_inv]; exact .fz (.int _ _)
  · rw [h.str_inv]; exact .fz (.str _)
  · rw [h.nilp_inv]; exact .fz .nilp
  · cases h with | fz h => cases h; exact .fz .nilf
  · rw [h.und_inv]; exact .fz .und
  · rename_i x
    have hx := h.val_inv
    cases x <;> first | (simp [PV.scalarC, VT.fr] at hs; done) | exact .fz (.val _ _ hx)

theorem Rep.scalarA {p : PV} {v : Value} (h : Rep F w m p v) (hs : p.scalarA = true) : Rep F' w' m' p v := by
  by_cases ha : ∃ cs, p = .agg cs
  · obtain ⟨cs, rfl⟩ := ha
    obtain ⟨vs, rfl, h1, h2, h3⟩ := h.agg_inv
    simp only [PV.scalarA, List.all_eq_true] at hs
    exact .agg cs vs h1 h2 fun i c v hc hv => (h3 i c v hc hv).scalarC (hs c (List.mem_of_getElem? hc))
  · have : p.scalarC = true := by cases p <;> first | exact hs | exact (ha ⟨_, rfl⟩).elim
    exact h.scalarC this

theorem Rep.scalar {p : PV} {v : Value} (h : Rep F w m p v) (hs : p.scalar = true) : Rep F' w' m' p v := by
  by_cases ha : ∃ cs, p = .tup cs
  · obtain ⟨cs, rfl⟩ := ha
    obtain ⟨vs, rfl, h1, h3⟩ := h.tup_inv
    simp only [PV.scalar, List.all_eq_true] at hs
    exact .tup cs vs h1 fun i c v hc hv => (h3 i c v hc hv).scalarA (hs c (List.mem_of_getElem? hc))
  · have : p.scalarA = true := by cases p <;> first | exact hs | exact (ha ⟨_, rfl⟩).elim
    exact h.scalarA this

/-- How an argument is handed on: by a view, or under other ids. -/
def argOk (st : St) (k : Nat) (r : Nat → Nat) (x p : PV) : Prop :=
  if x.fz = true then wk (view st p) x ∧ viewOk st p else p = x.ren r ∧ x.ok (· < k)

def argsOk (st : St) (k : Nat) (r : Nat → Nat) : List PV → List PV → Prop
  | [], [] => True
  | x :: xs, p :: ps => argOk st k r x p ∧ argsOk st k r xs ps
  | _, _ => False

/-- The ids of rows that are seen. -/
def seenIds : List PV → List PV → List Nat
  | x :: xs, p :: ps => (if x.fz = true then ids p else []) ++ seenIds xs ps
  | _, _ => []

theorem argsOk_len {st : St} {k : Nat} {r : Nat → Nat} : ∀ {xs ps : List PV}, argsOk st k r xs ps → xs.length = ps.length
  | [], [], _ => rfl
  | _ :: _, _ :: _, h => by simp [argsOk_len h.2]

theorem argsOk_get {st : St} {k : Nat} {r : Nat → Nat} : ∀ {xs ps : List PV}, argsOk st k r xs ps → ∀ (i : Nat) (x p : PV), xs[i]? = some x → ps[i]? = some p → argOk st k r x p ∧ (x.fz = true → ∀ b ∈ ids p, b ∈ seenIds xs ps)
  | x :: xs, p :: ps, h, 0, _, _, hx, hp => by
    simp at hx hp
    subst hx hp
    refine ⟨h.1, fun hz b hb => ?_⟩
    simp only [seenIds, hz, if_true]
    exact List.mem_append.2 (.inl hb)
  | x :: xs, p :: ps, h, i + 1, y, q, hx, hp => by
    obtain ⟨h1, h2⟩ := argsOk_get h.2 i y q hx hp
    exact ⟨h1, fun hz b hb => by simp only [seenIds]; exact List.mem_append.2 (.inr (h2 hz b hb))⟩

/-- A call's data: what the callee is said to take and to give, and which ids of the caller its own ids are. -/
structure CallO where
  args : List PV
  st0 : List (Nat × Blk) := []
  res : PV
  st1 : List (Nat × Blk) := []
  r : List Nat := []

def CallO.ren (o : CallO) (c : Nat) : Nat → Nat := fun b => if b < o.r.length then o.r.getD b 0 else c + (b - o.r.length)

/-- Distinct, by pairs. -/
def distinct : List Nat → Bool
  | [] => true
  | x :: xs => !xs.contains x && distinct xs

def lentOk (st : St) (r : Nat → Nat) : List (Nat × Blk) → Prop
  | [] => True
  | (b, k) :: l => st (r b) = some (k.ren r) ∧ lentOk st r l

def blksOk (S : Nat → Prop) : List (Nat × Blk) → Prop
  | [] => True
  | (b, k) :: l => S b ∧ k.ok S ∧ blksOk S l

def keysBelow (n : Nat) : List (Nat × Blk) → Bool
  | [] => true
  | (b, _) :: l => decide (b < n) && keysBelow n l

def CallO.seen (o : CallO) (ps : List PV) : List Nat := seenIds o.args ps
def CallO.keep (o : CallO) : Bool := o.st0.isEmpty && o.st1.isEmpty && o.res.scalar

/-- A call by contract. -/
def fCall (st : St) (c : Nat) (o : CallO) (ps : List PV) : R :=
  { g := argsOk st o.r.length (o.ren c) o.args ps ∧ lentOk st (o.ren c) o.st0 ∧ o.st0.length = o.r.length ∧ o.st0.map (·.1) = List.range o.r.length ∧ distinct o.r = true ∧
      (∀ b ∈ seenIds o.args ps, b ∉ o.r) ∧ blksOk (· < o.r.length) o.st0 ∧ o.res.ok (· < o.r.length + 8) ∧ blksOk (· < o.r.length + 8) o.st1
    v := o.res.ren (o.ren c)
    dels := o.r ++ (if o.keep then [] else seenIds o.args ps)
    puts := o.st1.map fun x => (o.ren c x.1, x.2.ren (o.ren c)) }

theorem distinct_inj : ∀ {l : List Nat}, distinct l = true → ∀ (i j x : Nat), l[i]? = some x → l[j]? = some x → i = j
  | [], _, i, _, _, h, _ => by simp at h
  | y :: l, h, 0, 0, _, _, _ => rfl
  | y :: l, h, 0, j + 1, x, h1, h2 => by
    simp [distinct] at h h1 h2
    subst h1
    exact (h.1 (List.mem_of_getElem? h2)).elim
  | y :: l, h, i + 1, 0, x, h1, h2 => by
    simp [distinct] at h h1 h2
    subst h2
    exact (h.1 (List.mem_of_getElem? h1)).elim
  | y :: l, h, i + 1, j + 1, x, h1, h2 => by
    simp [distinct] at h
    rw [distinct_inj h.2 i j x h1 h2]

theorem lk_mem {α : Type} : ∀ {l : List (Nat × α)} {b : Nat} {k : α}, lk l b = some k → (b, k) ∈ l
  | (j, v) :: l, b, k, h => by
    simp only [lk] at h
    split at h
    · rename_i e; subst e; cases h; exact List.mem_cons_self
    · exact List.mem_cons_of_mem _ (lk_mem h)

theorem lk_of_mem {α : Type} : ∀ {l : List (Nat × α)} {x : Nat × α}, x ∈ l → ∃ k, lk l x.1 = some k
  | y :: l, x, hx => by
    simp only [lk]
    split
    · exact ⟨_, rfl⟩
    · rename_i hne
      rcases List.mem_cons.1 hx with rfl | hx
      · exact (hne rfl).elim
      · exact lk_of_mem hx

theorem lentOk_mem {st : St} {r : Nat → Nat} : ∀ {l : List (Nat × Blk)}, lentOk st r l → ∀ b k, (b, k) ∈ l → st (r b) = some (k.ren r)
  | (j, v) :: l, h, b, k, hm => by
    rcases List.mem_cons.1 hm with e | hm
    · cases e; exact h.1
    · exact lentOk_mem h.2 b k hm

theorem keysBelow_mem {n : Nat} : ∀ {l : List (Nat × Blk)}, keysBelow n l = true → ∀ b k, (b, k) ∈ l → b < n
  | (j, v) :: l, h, b, k, hm => by
    simp [keysBelow] at h
    rcases List.mem_cons.1 hm with e | hm
    · cases e; exact h.1
    · exact keysBelow_mem h.2 b k hm

theorem blksOk_mem {S : Nat → Prop} : ∀ {l : List (Nat × Blk)}, blksOk S l → ∀ b k, (b, k) ∈ l → S b ∧ k.ok S
  | (j, v) :: l, h, b, k, hm => by
    rcases List.mem_cons.1 hm with e | hm
    · cases e; exact ⟨h.1, h.2.1⟩
    · exact blksOk_mem h.2.2 b k hm

theorem lookup_map_ren {r : Nat → Nat} {g : Nat → Blk → Blk} {S : Nat → Prop} (hr : ∀ b b', S b → S b' → r b = r b' → b = b') : ∀ {l : List (Nat × Blk)}, (∀ b k, (b, k) ∈ l → S b) →
    ∀ x k, (l.map fun y => (r y.1, g y.1 y.2)).lookup x = some k → ∃ b k0, lk l b = some k0 ∧ x = r b ∧ k = g b k0
  | [], _, x, k, h => by simp at h
  | (j, v) :: l, hS, x, k, h => by
    simp only [List.map_cons, List.lookup] at h
    split at h
    · rename_i e
      cases h
      exact ⟨j, v, by simp [lk], by simpa using e, rfl⟩
    · rename_i e
      obtain ⟨b, k0, h1, h2, h3⟩ := lookup_map_ren hr (fun b k hm => hS b k (List.mem_cons_of_mem _ hm)) x k h
      refine ⟨b, k0, ?_, h2, h3⟩
      simp only [lk]
      rw [if_neg]
      · exact h1
      · rintro rfl
        rw [h2] at e
        simp at e

theorem lookup_none_of {r : Nat → Nat} {g : Nat → Blk → Blk} : ∀ {l : List (Nat × Blk)} {x : Nat}, (l.map fun y => (r y.1, g y.1 y.2)).lookup x = none → ∀ b k, lk l b = some k → r b ≠ x
  | (j, v) :: l, x, h, b, k, hb => by
    simp only [List.map_cons, List.lookup] at h
    split at h
    · cases h
    · rename_i e
      simp only [lk] at hb
      split at hb
      · rename_i e'
        subst e'
        rintro rfl
        simp at e
      · exact lookup_none_of h b k hb

/-- A CALL BY CONTRACT IS RIGHT. -/
theorem call_gen (h : SimW B A a w F m) {st : St} (hst : ∀ b k, st b = some k → A.st b = some k) {o : CallO} {ps : List PV} {vs : Array Value} (hsz : vs.size = ps.length)
    (hps : ∀ (i : Nat) (p : PV) (v : Value), ps[i]? = some p → vs[i]? = some v → Rep F w m p v) {d : Option Tmp} {c : Nat} {u : Nat → Prop} (hd : A.fits d) (hc : ∀ b, c ≤ b → b < c + 8 → ¬ A.used b ∧ u b)
    {X : (Ending → World → Prop) → Prop} (hX : ∀ R R' : Ending → World → Prop, (∀ e w', R e w' → R' e w') → X R → X R')
    (hf : ∀ B' : Base, B'.w0 = w → (∀ x, B'.F0 x → F x ∨ ∃ b k y, A.st b = some k ∧ m b = some (some y) ∧ y.block = x) → (∀ x, B'.bor x → ∃ b k y, A.st b = some k ∧ m b = some (some y) ∧ y.block = x) → (∀ b, b < o.r.length → B'.m0 b = m (o.ren c b)) →
      Init B' o.args o.st0 vs → X fun e w' => ∃ v F m, e = .returned v ∧ Done B' o.st0.length o.res o.st1 v w' F m) (hg : (fCall st c o ps).g) :
    X fun e w' => ∃ v F' m', e = .returned v ∧ SimW B (((A.eff (fCall st c o ps).dels (fCall st c o ps).puts).use u).put d (fCall st c o ps).v) (a.put d v) w' F' m' := by
  obtain ⟨g1, g2, g3, g4, g5, g6, g9, g7, g8⟩ := hg
  have hmc : ∀ b, c ≤ b → b < c + 8 → m b = none := fun b h1 h2 => Classical.byContradiction fun e => (hc b h1 h2).1 (h.used b e)
  -- the lent ids
  have rlt : ∀ b, b < o.r.length → o.ren c b = o.r.getD b 0 := fun b hb => by simp only [CallO.ren]; rw [if_pos hb]
  have rge : ∀ b, o.r.length ≤ b → o.ren c b = c + (b - o.r.length) := fun b hb => by simp only [CallO.ren]; rw [if_neg (by omega)]
  have rget : ∀ b, b < o.r.length → o.r[b]? = some (o.ren c b) := fun b hb => by
    rw [rlt b hb]; simp [List.getD, List.getElem?_eq_getElem hb]
  have rmem : ∀ b, b < o.r.length → o.ren c b ∈ o.r := fun b hb => List.mem_of_getElem? (rget b hb)
  have rinjlt : ∀ b b', b < o.r.length → b' < o.r.length → o.ren c b = o.ren c b' → b = b' := fun b b' h1 h2 e => distinct_inj g5 b b' _ (rget b h1) (by rw [e]; exact rget b' h2)
  have keys : ∀ b k, (b, k) ∈ o.st0 → b < o.r.length := fun b k hm => by
    have : b ∈ o.st0.map (·.1) := List.mem_map.2 ⟨_, hm, rfl⟩
    rw [g4] at this
    exact List.mem_range.1 this
  have lent : ∀ b k, lk o.st0 b = some k → b < o.r.length ∧ A.st (o.ren c b) = some (k.ren (o.ren c)) := fun b k hb =>
    ⟨keys b k (lk_mem hb), hst _ _ (lentOk_mem g2 b k (lk_mem hb))⟩
  have lentAll : ∀ b, b < o.r.length → ∃ k, lk o.st0 b = some k := fun b hb => by
    have : b ∈ o.st0.map (·.1) := by rw [g4]; exact List.mem_range.2 hb
    obtain ⟨x, hx, rfl⟩ := List.mem_map.1 this
    exact lk_of_mem hx
  let V : Nat → Prop := fun x => ∃ b y, b ∈ seenIds o.args ps ∧ m b = some (some y) ∧ y.block = x ∧ (∃ k, A.st b = some k)
  let B' : Base := { w0 := w, F0 := fun x => F x ∨ V x, m0 := fun b => if b < o.r.length then m (o.ren c b) else none,
                     bor := fun x => ∃ b k y, lk o.st0 b = some k ∧ m (o.ren c b) = some (some y) ∧ y.block = x, ds := [] }
  have hVlt : ∀ x, V x → x < w.heap.size := fun x ⟨b, y, _, hy, hx, k, hk⟩ => by rw [← hx]; exact h.lt hk hy
  have m0lt : ∀ b, b < o.r.length → B'.m0 b = m (o.ren c b) := fun b hb => if_pos hb
  have m0ge : ∀ b, ¬ b < o.r.length → B'.m0 b = none := fun b hb => if_neg hb
  have gr0 : Grow F w B'.m0 B'.F0 w B'.m0 := ⟨fun x hx => .inl hx, fun _ _ => rfl, fun _ _ hb => hb, fun _ c _ fr hh => ⟨c, fr, hh, rfl⟩⟩
  -- a lent block is not seen
  have lentNotV : ∀ b k x, lk o.st0 b = some k → m (o.ren c b) = some (some x) → ¬ V x.block := by
    rintro b k x hb hx ⟨b2, y, h1, h2, h3, k2, h4⟩
    obtain ⟨h5, h6⟩ := lent b k hb
    have hne : o.ren c b ≠ b2 := fun e => g6 b2 h1 (e ▸ rmem b h5)
    exact h.apart _ _ _ _ _ _ h6 h4 hne hx h2 h3.symm
  have init : Init B' o.args o.st0 vs := by
    refine ⟨rfl, by rw [hsz, argsOk_len g1], fun i p v hp hv => ?_, fun b k hb => ?_, fun b k x hb hx => ?_, fun b b' k k' x x' hb hb' hne hx hx' => ?_, fun b hb => ?_, fun x hx => ?_⟩
    · have hi : i < ps.length := by rw [← argsOk_len g1]; exact (List.getElem?_eq_some_iff.1 hp).1
      obtain ⟨h1, h2⟩ := argsOk_get g1 i p ps[i] hp (List.getElem?_eq_getElem hi)
      have hr := hps i ps[i] v (List.getElem?_eq_getElem hi) hv
      unfold argOk at h1
      split at h1
      · rename_i hz
        obtain ⟨h3, h4⟩ := h1
        have hvf := view_ok (G := B'.F0) h hst hr h4 (fun x hx => .inl hx) fun b hb x hx => .inr ⟨b, x, h2 hz b hb, hx, rfl, by
          obtain ⟨k, hk⟩ := view_rows h4 b hb
          exact ⟨k, hst _ _ hk⟩⟩
        exact wk_rep h3 (.fz hvf)
      · obtain ⟨e, h4⟩ := h1
        rw [e] at hr
        exact (hr.unren (m' := B'.m0) (S := (· < o.r.length)) m0lt p rfl h4).mono gr0
    · obtain ⟨h1, h2⟩ := lent b k hb
      obtain ⟨ao, h3, h4⟩ := h.blk _ _ h2
      refine ⟨ao, by rw [m0lt b h1]; exact h3, ?_⟩
      exact (h4.unren (m' := B'.m0) (S := (· < o.r.length)) m0lt (blksOk_mem g9 b k (lk_mem hb)).2).mono gr0 fun _ _ => rfl
    · obtain ⟨h1, h2⟩ := lent b k hb
      rw [m0lt b h1] at hx
      refine ⟨fun hq => ?_, ⟨b, k, x, hb, hx, rfl⟩⟩
      rcases hq with hq | hq
      · exact (h.own _ _ x h2 hx).1 hq
      · exact lentNotV b k x hb hx hq
    · obtain ⟨h1, h2⟩ := lent b k hb
      obtain ⟨h3, h4⟩ := lent b' k' hb'
      rw [m0lt b h1] at hx
      rw [m0lt b' h3] at hx'
      exact h.apart _ _ _ _ x x' h2 h4 (fun e => hne (rinjlt b b' h1 h3 e)) hx hx'
    · rw [g3]
      exact Classical.byContradiction fun e => hb (m0ge b e)
    · refine ⟨?_, ?_⟩
      · rcases hx with hx | hx
        · exact (h.fz x hx).1
        · exact hVlt x hx
      · rintro ⟨b, k, y, q1, q2, rfl⟩
        rcases hx with hx | hx
        · exact (h.own _ _ y (lent b k q1).2 q2).1 hx
        · exact lentNotV b k y q1 q2 hx
  refine hX _ _ ?_ (hf B' rfl (fun x hx => hx.elim .inl (fun ⟨b, y, _, hy, hxx, k, hk⟩ => .inr ⟨b, k, y, hk, hy, hxx⟩)) (fun x ⟨b, k, y, q1, q2, q3⟩ => ⟨_, _, y, (lent b k q1).2, q2, q3⟩) m0lt init)
  rintro e w' ⟨v, F', mc, rfl, dn⟩
  rw [g3] at dn
  let m'' : Ids := fun b => match m b with | some x => some x | none => if c ≤ b ∧ b < c + 8 then mc (o.r.length + (b - c)) else none
  let Fn : Nat → Prop := fun x => if o.keep = true then F x else F' x
  have m''old : ∀ b x, m b = some x → m'' b = some x := fun b x hb => by show (match m b with | some x => some x | none => _) = _; rw [hb]
  have m''new : ∀ j, j < 8 → m'' (c + j) = mc (o.r.length + j) := fun j hj => by
    show (match m (c + j) with | some x => some x | none => _) = _
    rw [hmc (c + j) (by omega) (by omega)]
    simp only []
    rw [if_pos ⟨by omega, by omega⟩]
    congr 1
    omega
  have hren : ∀ b, b < o.r.length + 8 → m'' (o.ren c b) = mc b := fun b hb => by
    by_cases hlt : b < o.r.length
    · obtain ⟨k, hk⟩ := lentAll b hlt
      obtain ⟨ao, h3, _⟩ := h.blk _ _ (lent b k hk).2
      rw [m''old _ _ h3]
      exact (dn.grow.ids b ao (by rw [m0lt b hlt]; exact h3)).symm
    · rw [rge b (by omega), m''new (b - o.r.length) (by omega)]
      congr 1
      omega
  have rinj : ∀ b b', b < o.r.length + 8 → b' < o.r.length + 8 → (mc b ≠ none ∧ mc b' ≠ none) → o.ren c b = o.ren c b' → b = b' := fun b b' h1 h2 _ e => by
    by_cases hb : b < o.r.length <;> by_cases hb' : b' < o.r.length
    · exact rinjlt b b' hb hb' e
    · obtain ⟨k, hk⟩ := lentAll b hb
      obtain ⟨ao, h3, _⟩ := h.blk _ _ (lent b k hk).2
      rw [e, rge b' (by omega), hmc _ (by omega) (by omega)] at h3
      cases h3
    · obtain ⟨k, hk⟩ := lentAll b' hb'
      obtain ⟨ao, h3, _⟩ := h.blk _ _ (lent b' k hk).2
      rw [← e, rge b (by omega), hmc _ (by omega) (by omega)] at h3
      cases h3
    · rw [rge b (by omega), rge b' (by omega)] at e
      omega
  have gr : Grow F w m Fn w' m'' := by
    refine ⟨fun x hx => ?_, fun x hx => dn.grow.same x (.inl hx), m''old, dn.grow.size⟩
    show if o.keep = true then F x else F' x
    split
    · exact hx
    · exact dn.grow.sub x (.inl hx)
  have keepSt : o.keep = true → o.st1 = [] ∧ o.res.scalar = true := fun hk => by
    simp only [CallO.keep, Bool.and_eq_true, List.isEmpty_iff] at hk
    exact ⟨hk.1.2, hk.2⟩
  have FnKeep : o.keep = true → Fn = F := fun hk => by funext x; show (if o.keep = true then F x else F' x) = F x; rw [if_pos hk]
  have FnNot : ¬ o.keep = true → Fn = F' := fun hk => by funext x; show (if o.keep = true then F x else F' x) = F' x; rw [if_neg hk]
  have hv : Rep Fn w' m'' (o.res.ren (o.ren c)) v := by
    refine Rep.ren (m := mc) (S := (· < o.r.length + 8)) ?_ (fun b hb => hren b hb) g7
    by_cases hk : o.keep = true
    · exact dn.res.scalar (keepSt hk).2
    · rw [FnNot hk]
      exact dn.res
  have lkbelow : ∀ b k, lk o.st1 b = some k → b < o.r.length + 8 ∧ k.ok (· < o.r.length + 8) := fun b k hb => blksOk_mem g8 b k (lk_mem hb)
  have hst' : ∀ b k, (((A.eff (fCall st c o ps).dels (fCall st c o ps).puts).use u).put d (fCall st c o ps).v).st b = some k →
      (∃ b0 k0, lk o.st1 b0 = some k0 ∧ b = o.ren c b0 ∧ k = k0.ren (o.ren c)) ∨ (A.st b = some k ∧ b ∉ o.r ∧ (¬ o.keep = true → b ∉ seenIds o.args ps)) := by
    intro b k hb
    have e1 : (((A.eff (fCall st c o ps).dels (fCall st c o ps).puts).use u).put d (fCall st c o ps).v).st b = (A.eff (fCall st c o ps).dels (fCall st c o ps).puts).st b := by cases d <;> rfl
    rw [e1] at hb
    simp only [AF.eff] at hb
    split at hb
    · rename_i k' hl
      cases hb
      have hl' : (o.st1.map fun y => (o.ren c y.1, (fun _ (z : Blk) => z.ren (o.ren c)) y.1 y.2)).lookup b = some k := hl
      obtain ⟨b0, k0, q1, q2, q3⟩ := lookup_map_ren (g := fun _ (z : Blk) => z.ren (o.ren c)) (S := fun x => x < o.r.length + 8 ∧ ∃ k, lk o.st1 x = some k) (fun b b' hb hb' e => by
        obtain ⟨hb, k1, hk1⟩ := hb
        obtain ⟨hb', k2, hk2⟩ := hb'
        obtain ⟨a1, p1, _⟩ := dn.blk b k1 hk1
        obtain ⟨a2, p2, _⟩ := dn.blk b' k2 hk2
        exact rinj b b' hb hb' ⟨by rw [p1]; simp, by rw [p2]; simp⟩ e) (fun b1 k1 hm => ⟨(blksOk_mem g8 b1 k1 hm).1, lk_of_mem hm⟩) b k hl'
      exact .inl ⟨b0, k0, q1, q2, q3⟩
    · split at hb
      · cases hb
      · rename_i hnd
        simp only [fCall, List.mem_append, not_or] at hnd
        refine .inr ⟨hb, hnd.1, fun hk => ?_⟩
        have := hnd.2
        rw [if_neg hk] at this
        exact this
  -- an old block, not lent
  have oldBlk : ∀ b k x, A.st b = some k → b ∉ o.r → m b = some (some x) → ¬ B'.bor x.block := by
    rintro b k x hb hnr hx ⟨b2, k2, y, q1, q2, q3⟩
    obtain ⟨q4, q5⟩ := lent b2 k2 q1
    have hne : b ≠ o.ren c b2 := fun e => hnr (e ▸ rmem b2 q4)
    exact h.apart _ _ _ _ x y hb q5 hne hx q2 q3.symm
  have newBlk : ∀ b0 k0 x, lk o.st1 b0 = some k0 → mc b0 = some (some x) → w.heap.size ≤ x.block ∨ B'.bor x.block := fun b0 k0 x hb hx => (dn.own b0 k0 x hb hx).2
  have hus : ∀ b, (((A.eff (fCall st c o ps).dels (fCall st c o ps).puts).use u).put d (fCall st c o ps).v).used b = (A.used b ∨ u b) := fun b => by cases d <;> rfl
  have borOwn : ∀ x, B'.bor x → B.w0.heap.size ≤ x ∨ B.bor x := by
    rintro x ⟨b, k, y, q1, q2, q3⟩
    rw [← q3]
    exact (h.own _ _ y (lent b k q1).2 q2).2
  refine ⟨v, Fn, m'', rfl, h.step hd gr hv (by cases d <;> rfl) (by cases d <;> rfl) (fun b k hb => ?_) (fun b b' k k' x x' hb hb' hne hx hx' => ?_) (fun b hb => ?_) (fun x hx => ?_) ?_⟩
  · rcases hst' b k hb with ⟨b0, k0, q1, rfl, rfl⟩ | ⟨q1, q2, q3⟩
    · have hnk : ¬ o.keep = true := fun hk => by rw [(keepSt hk).1] at q1; cases q1
      obtain ⟨ao, q4, q5⟩ := dn.blk b0 k0 q1
      refine .inr ⟨ao, by rw [hren b0 (lkbelow b0 k0 q1).1]; exact q4, ?_, fun x hx => ?_⟩
      · rw [FnNot hnk]
        exact q5.ren (S := (· < o.r.length + 8)) (fun b hb => hren b hb) (lkbelow b0 k0 q1).2
      · subst hx
        rw [FnNot hnk]
        refine ⟨(dn.own b0 k0 x q1 q4).1, ?_⟩
        rcases newBlk b0 k0 x q1 q4 with hx | hx
        · have := h.wr.size
          exact .inl (by omega)
        · exact borOwn _ hx
    · refine .inl ⟨q1, fun x hx => ⟨dn.kept.block x.block (h.lt q1 hx) (oldBlk b k x q1 q2 hx), fun hq => ?_⟩⟩
      by_cases hk : o.keep = true
      · rw [FnKeep hk] at hq
        exact (h.own b k x q1 hx).1 hq
      · rw [FnNot hk] at hq
        rcases (dn.fz _ hq).2 with (hq | ⟨b2, y, p1, p2, p3, k2, p4⟩) | hq | hq
        · exact (h.own b k x q1 hx).1 hq
        · by_cases e : b2 = b
          · subst e; exact q3 hk p1
          · exact h.apart b2 b _ _ y x p4 q1 e p2 hx p3
        · have := h.lt q1 hx
          dsimp only [B'] at hq
          omega
        · exact oldBlk b k x q1 q2 hx hq
  · rcases hst' b k hb with ⟨b0, k0, q1, rfl, rfl⟩ | ⟨q1, q2, q3⟩ <;> rcases hst' b' k' hb' with ⟨b1, k1, p1, rfl, rfl⟩ | ⟨p1, p2, p3⟩
    · rw [hren b0 (lkbelow b0 k0 q1).1] at hx
      rw [hren b1 (lkbelow b1 k1 p1).1] at hx'
      exact dn.apart b0 b1 k0 k1 x x' q1 p1 (fun e => hne (by rw [e])) hx hx'
    · rw [hren b0 (lkbelow b0 k0 q1).1] at hx
      obtain ⟨ao, h3, _⟩ := h.blk _ _ p1
      rw [m''old _ _ h3] at hx'
      rw [hx'] at h3
      have hlt := h.lt p1 h3
      intro e
      rcases newBlk b0 k0 x q1 hx with hq | hq
      · rw [e] at hq; omega
      · rw [e] at hq; exact oldBlk b' k' x' p1 p2 h3 hq
    · rw [hren b1 (lkbelow b1 k1 p1).1] at hx'
      obtain ⟨ao, h3, _⟩ := h.blk _ _ q1
      rw [m''old _ _ h3] at hx
      rw [hx] at h3
      have hlt := h.lt q1 h3
      intro e
      rcases newBlk b1 k1 x' p1 hx' with hq | hq
      · rw [← e] at hq; omega
      · rw [← e] at hq; exact oldBlk b k x q1 q2 h3 hq
    · obtain ⟨ao, h3, _⟩ := h.blk _ _ q1
      obtain ⟨ao', h4, _⟩ := h.blk _ _ p1
      rw [m''old _ _ h3] at hx
      rw [m''old _ _ h4] at hx'
      rw [hx] at h3
      rw [hx'] at h4
      exact h.apart b b' k k' x x' q1 p1 hne h3 h4
  · rw [hus]
    have hb' : m'' b ≠ none := hb
    cases hmb : m b with
    | some x => exact .inl (h.used b (by rw [hmb]; simp))
    | none =>
      have : m'' b = if c ≤ b ∧ b < c + 8 then mc (o.r.length + (b - c)) else none := by
        show (match m b with | some x => some x | none => _) = _
        rw [hmb]
      rw [this] at hb'
      split at hb'
      · rename_i hcb; exact .inr (hc b hcb.1 hcb.2).2
      · exact (hb' rfl).elim
  · have hsz := dn.kept.size
    dsimp only [B'] at hsz
    by_cases hk : o.keep = true
    · rw [FnKeep hk] at hx
      have := h.fz x hx
      exact ⟨by omega, this.2⟩
    · rw [FnNot hk] at hx
      refine ⟨(dn.fz x hx).1, ?_⟩
      rcases (dn.fz x hx).2 with (hq | ⟨b2, y, p1, p2, p3, k2, p4⟩) | hq | hq
      · exact (h.fz x hq).2
      · rw [← p3]
        exact .inr (h.own b2 k2 y p4 p2).2
      · have := h.wr.size
        dsimp only [B'] at hq
        exact .inr (.inl (by omega))
      · exact .inr (borOwn x hq)
  · have hsz := dn.kept.size
    have hw := h.wr
    refine ⟨dn.kept.os.trans hw.os, dn.kept.tape.trans hw.tape, dn.kept.output.trans hw.output, ?_, fun k hk hb => ?_⟩
    · have := hw.size
      dsimp only [B'] at hsz
      omega
    · rw [← hw.block k hk hb]
      refine dn.kept.block k ?_ fun hq => ?_
      · have := hw.size
        dsimp only [B']
        omega
      · rcases borOwn k hq with hq | hq
        · omega
        · exact hb hq


theorem call_ok {f : FuncId} (h : SimW B A a w F m) {st : St} (hst : ∀ b k, st b = some k → A.st b = some k) {o : CallO} {ps : List PV} {vs : Array Value} (hsz : vs.size = ps.length)
    (hps : ∀ (i : Nat) (p : PV) (v : Value), ps[i]? = some p → vs[i]? = some v → Rep F w m p v) {d : Option Tmp} {c : Nat} {u : Nat → Prop} (hd : A.fits d) (hc : ∀ b, c ≤ b → b < c + 8 → ¬ A.used b ∧ u b)
    (hf : FnS P f o.args o.st0 o.res o.st1) (hg : (fCall st c o ps).g) :
    Calls P f vs w fun e w' => ∃ v F' m', e = .returned v ∧ SimW B (((A.eff (fCall st c o ps).dels (fCall st c o ps).puts).use u).put d (fCall st c o ps).v) (a.put d v) w' F' m' :=
  call_gen h hst hsz hps hd hc (X := Calls P f vs w) (fun _ _ hr hc => hc.mono hr) (fun B' e _ _ _ init => by have := hf.2 B' vs init; rw [e] at this; exact this) hg

theorem entry_ok {f : FuncId} (h : SimW B A a w F m) {st : St} (hst : ∀ b k, st b = some k → A.st b = some k) {o : CallO} {ps : List PV} {vs : Array Value} (hsz : vs.size = ps.length)
    (hps : ∀ (i : Nat) (p : PV) (v : Value), ps[i]? = some p → vs[i]? = some v → Rep F w m p v) {d : Option Tmp} {c : Nat} {u : Nat → Prop} (hd : A.fits d) (hc : ∀ b, c ≤ b → b < c + 8 → ¬ A.used b ∧ u b)
    (hf : FnE P f o.args o.st0 o.res o.st1) (hg : (fCall st c o ps).g) :
    ∃ v w' F' m', (callFunc f vs).run P w = .ok (.value v) w' ∧ SimW B (((A.eff (fCall st c o ps).dels (fCall st c o ps).puts).use u).put d (fCall st c o ps).v) (a.put d v) w' F' m' := by
  have := call_gen h hst hsz hps hd hc (X := fun K : Ending → World → Prop => ∃ v w', (callFunc f vs).run P w = .ok (.value v) w' ∧ K (.returned v) w') (fun _ _ hr ⟨v, w', h1, h2⟩ => ⟨v, w', h1, hr _ _ h2⟩)
    (fun B' e _ _ _ init => by
      obtain ⟨v, w', F', m', h1, h2⟩ := hf B' vs init
      rw [e] at h1
      exact ⟨v, w', h1, v, F', m', rfl, h2⟩) hg
  obtain ⟨v, w', h1, v', F', m', e, h2⟩ := this
  cases e
  exact ⟨v, w', F', m', h1, h2⟩

end
end Go.Proofs.YtoifmpiikopelaaFw
