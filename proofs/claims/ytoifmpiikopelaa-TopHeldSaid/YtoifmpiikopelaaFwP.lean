/-
  An abstract walk, part P: written states; a region's operations one behind the other.
-/
import Derived.Test.YtoifmpiikopelaaFwO
namespace Go.Proofs.YtoifmpiikopelaaFw
open Go
set_option linter.unusedVariables false
set_option linter.unusedSimpArgs false

/-- A piece that no rewriting is to enter: what stands ahead of it is fixed by its type. -/
structure Hold.{u} {α : Sort u} (a : α) : Type where

/-- A written state: slots, store, the next id, how many slots there are. -/
structure AS where
  sl : List (Nat × PV)
  st : List (Nat × Blk)
  nx : Nat
  n : Nat

def ins {α : Type} (d : Nat) (v : α) : List (Nat × α) → List (Nat × α)
  | [] => [(d, v)]
  | (k, x) :: l => if k = d then (d, v) :: l else (k, x) :: ins d v l

def del {α : Type} (d : Nat) : List (Nat × α) → List (Nat × α)
  | [] => []
  | (k, x) :: l => if k = d then del d l else (k, x) :: del d l

def insAll : List (Nat × Blk) → List (Nat × Blk) → List (Nat × Blk)
  | [], l => l
  | (b, k) :: ps, l => ins b k (insAll ps l)

def delAll : List Nat → List (Nat × Blk) → List (Nat × Blk)
  | [], l => l
  | b :: bs, l => del b (delAll bs l)

def getPV : Option PV → PV
  | some v => v
  | none => .any

def AS.get (s : AS) (t : Nat) : PV := getPV (lk s.sl t)

def insO (d : Option Tmp) (v : PV) (l : List (Nat × PV)) : List (Nat × PV) :=
  match d with
  | some d => ins d v l
  | none => l

def AS.app (s : AS) (d : Option Tmp) (r : R) : AS := { sl := insO d r.v s.sl, st := insAll r.puts (delAll r.dels s.st), nx := s.nx + 8, n := s.n }

def AS.f (s : AS) : AF := { get := s.get, st := lk s.st, used := fun b => b < s.nx, n := s.n }

def rng (c : Nat) : Nat → Prop := fun b => c ≤ b ∧ b < c + 8

theorem lk_ins {α : Type} (d : Nat) (v : α) : ∀ (l : List (Nat × α)) (k : Nat), lk (ins d v l) k = if k = d then some v else lk l k
  | [], k => by simp only [ins, lk]; by_cases h : d = k <;> simp [h, eq_comm]
  | (j, x) :: l, k => by
    simp only [ins]
    split
    · rename_i e; subst e; simp only [lk]; by_cases h : j = k <;> simp [h, eq_comm]
    · rename_i e
      simp only [lk, lk_ins d v l k]
      by_cases h : j = k
      · subst h; simp [e]
      · simp [h]

theorem lk_del {α : Type} (d : Nat) : ∀ (l : List (Nat × α)) (k : Nat), lk (del d l) k = if k = d then none else lk l k
  | [], k => by simp [del, lk]
  | (j, x) :: l, k => by
    simp only [del]
    split
    · rename_i e
      subst e
      rw [lk_del j l k]
      by_cases h : k = j
      · simp [h]
      · simp only [lk, if_neg h]; rw [if_neg (fun e => h e.symm)]
    · rename_i e
      simp only [lk, lk_del d l k]
      by_cases h : j = k
      · subst h; simp [e]
      · simp [h]

theorem lk_insAll : ∀ (ps : List (Nat × Blk)) (l : List (Nat × Blk)) (b : Nat), lk (insAll ps l) b = match ps.lookup b with | some k => some k | none => lk l b
  | [], l, b => rfl
  | (c, k) :: ps, l, b => by
    simp only [insAll, lk_ins, List.lookup, lk_insAll ps l b]
    by_cases h : b = c
    · subst h; simp
    · have : (b == c) = false := by simpa using h
      simp [h, this]

theorem lk_delAll : ∀ (ds : List Nat) (l : List (Nat × Blk)) (b : Nat), lk (delAll ds l) b = if b ∈ ds then none else lk l b
  | [], l, b => by simp [delAll]
  | d :: ds, l, b => by
    simp only [delAll, lk_del, lk_delAll ds l b]
    by_cases h : b = d
    · simp [h]
    · simp [h]

theorem app_get (s : AS) (d : Option Tmp) (r : R) (t : Nat) : (s.app d r).get t = if d = some t then r.v else s.get t := by
  unfold AS.get AS.app insO
  cases d with
  | none => simp
  | some d =>
    simp only [lk_ins]
    by_cases h : t = d
    · simp [h, getPV]
    · have h' : ¬ d = t := fun e => h e.symm
      simp [h, h']

theorem app_st (s : AS) (d : Option Tmp) (r : R) (b : Nat) : lk (s.app d r).st b = match r.puts.lookup b with | some k => some k | none => if b ∈ r.dels then none else lk s.st b := by
  unfold AS.app
  simp only [lk_insAll, lk_delAll]

theorem SimW.congr {B : Base} {A A' : AF} {a : Act} {w : World} {F : Nat → Prop} {m : Ids} (h : SimW B A a w F m) (h1 : ∀ t, A'.get t = A.get t) (h2 : ∀ b, A'.st b = A.st b) (h3 : ∀ b, A.used b → A'.used b) (h4 : A'.n = A.n) : SimW B A' a w F m where
  defers := h.defers
  size := by rw [h4]; exact h.size
  slot := fun t => by rw [h1]; exact h.slot t
  blk := fun b k hb => by rw [h2] at hb; exact h.blk b k hb
  own := fun b k x hb => by rw [h2] at hb; exact h.own b k x hb
  apart := fun b b' k k' x x' hb hb' => by rw [h2] at hb hb'; exact h.apart b b' k k' x x' hb hb'
  used := fun b hb => h3 b (h.used b hb)
  fz := h.fz
  gr := h.gr
  wr := h.wr

theorem SimW.toApp {B : Base} {s : AS} {d : Option Tmp} {r : R} {a : Act} {w : World} {F : Nat → Prop} {m : Ids} (h : SimW B (((s.f.eff r.dels r.puts).use (rng s.nx)).put d r.v) a w F m) : SimW B (s.app d r).f a w F m := by
  refine h.congr (fun t => ?_) (fun b => ?_) (fun b hb => ?_) (by cases d <;> rfl)
  · show (s.app d r).get t = _
    rw [app_get]
    cases d with
    | none => simp [AF.put]; rfl
    | some d =>
      simp only [AF.put]
      by_cases e : t = d
      · simp [e]
      · rw [if_neg (fun h => e (Option.some.inj h).symm), if_neg e]; rfl
  · show lk (s.app d r).st b = _
    rw [app_st]
    have : (((s.f.eff r.dels r.puts).use (rng s.nx)).put d r.v).st b = (s.f.eff r.dels r.puts).st b := by cases d <;> rfl
    rw [this]
    rfl
  · have e1 : (((s.f.eff r.dels r.puts).use (rng s.nx)).put d r.v).used b = (s.f.used b ∨ rng s.nx b) := by cases d <;> rfl
    rw [e1] at hb
    show b < s.nx + 8
    rcases hb with hb | hb
    · have : b < s.nx := hb; omega
    · exact hb.2

/-- A call: its answer, by a contract that is to be given. -/
def callK (P : Program) (st : St) (c : Nat) (fv : PV) (xs : List PV) (K : R → Prop) (_h : Hold (P, K) := ⟨⟩) : Prop :=
  ∃ f first cap co, fv = .fn (.func f) first cap ∧ FnX P f co.args co.st0 co.res co.st1 ∧ (fCall st c co (first ++ xs ++ cap)).g ∧ K (fCall st c co (first ++ xs ++ cap))

def restr (rd : List Nat) (st : St) : St := fun b => if rd.contains b then st b else none

/-- The ids that a value names. -/
def named : PV → List Nat
  | .ptr b _ => [b]
  | .rp b _ _ _ => [b]
  | .own b _ _ _ => [b]
  | .ownc b _ _ _ _ => [b]
  | .agg cs => namedL cs
  | .tup cs => namedL cs
  | .fn _ x y => namedL x ++ namedL y
  | _ => []
where
  namedL : List PV → List Nat
    | [] => []
    | .ptr b _ :: l => b :: namedL l
    | .rp b _ _ _ :: l => b :: namedL l
    | .own b _ _ _ :: l => b :: namedL l
    | .ownc b _ _ _ _ :: l => b :: namedL l
    | _ :: l => namedL l

def inBlk (l : List (Nat × Blk)) (b : Nat) : List Nat :=
  match lk l b with
  | some (.box cs) => named.namedL cs
  | _ => []

def idOf : PV → List Nat
  | .ptr b _ => [b]
  | .rp b _ _ _ => [b]
  | .own b _ _ _ => [b]
  | .ownc b _ _ _ _ => [b]
  | _ => []

/-- The ids that an operation may look at. -/
def reach (s : AS) (op : Op) : List Nat :=
  match op with
  | .load _ a => idOf (ev s.get a)
  | .store _ a _ => idOf (ev s.get a)
  | .convert _ _ a => idOf (ev s.get a)
  | .call { callee := .builtin b, args := args, argTypes := _ } => (match b with
    | .append => args.toList.flatMap fun x => idOf (ev s.get x)
    | .copy => args.toList.flatMap fun x => idOf (ev s.get x)
    | _ => [])
  | .call { callee := .value f, args := args, argTypes := _ } =>
    let i0 := named (ev s.get f) ++ args.toList.flatMap fun x => named (ev s.get x)
    let i1 := i0.flatMap (inBlk s.st)
    i0 ++ i1 ++ i1.flatMap (inBlk s.st)
  | _ => []

def stOf (dr : Bool) (s : AS) (op : Op) : St := if dr then restr (reach s op) (lk s.st) else lk s.st

def writes (r : R) : List Nat := r.dels ++ r.puts.map (·.1)

def fitsN (n : Nat) : Option Tmp → Prop
  | some d => d < n
  | none => True

/-- The way through a region: the ids that each operation writes, and those that it looks at. -/
abbrev Trace := List (List Nat × List Nat)

def trAdd (dr : Bool) (tr : Trace) (r : R) (rd : List Nat) : Trace := if dr then tr ++ [(writes r, rd)] else tr

/-- An answer that is there, its conditions, and then K. -/
def optK (r : Option R) (K : R → Prop) (_h : Hold K := ⟨⟩) : Prop :=
  match r with
  | some r => r.g ∧ K r
  | none => False

theorem optK_some (g : Prop) (v : PV) (ds : List Nat) (ps : List (Nat × Blk)) (K : R → Prop) : optK (some { g := g, v := v, dels := ds, puts := ps }) K = (g ∧ K { g := g, v := v, dels := ds, puts := ps }) := rfl

/-- One operation, and then K. -/
def opK (P : Program) (T : Tab) (dr : Bool) (s : AS) (d : Option Tmp) (op : Op) (K : R → Prop) (_h : Hold (P, T, op, K) := ⟨⟩) : Prop :=
  match op with
  | .call { callee := .value fo, args := xs, argTypes := _ } => fitsN s.n d ∧ callK P (stOf dr s op) s.nx (ev s.get fo) (xs.toList.map (ev s.get)) K
  | op => fitsN s.n d ∧ optK (fstep T s.get (stOf dr s op) s.nx op) K

/-- What the guard of an operation says: by the value in the slot of the one that it hangs on. -/
def guardK (x : PV) (want : Bool) (yes no : Prop) (_h : Hold (yes ∧ no) := ⟨⟩) : Prop :=
  match x with
  | .bool b => (b = want → yes) ∧ (b = (!want) → no)
  | .und => no
  | _ => False

theorem guardK_tt (yes no : Prop) : guardK (.bool true) true yes no = yes := by simp [guardK]
theorem guardK_ff (yes no : Prop) : guardK (.bool false) false yes no = yes := by simp [guardK]
theorem guardK_tf (yes no : Prop) : guardK (.bool true) false yes no = no := by simp [guardK]
theorem guardK_ft (yes no : Prop) : guardK (.bool false) true yes no = no := by simp [guardK]
theorem guardK_und (want : Bool) (yes no : Prop) : guardK .und want yes no = no := rfl
theorem guardK_t {b : Bool} {yes no : Prop} (h1 : b = true → yes) (h2 : b = false → no) : guardK (.bool b) true yes no := ⟨h1, h2⟩
theorem guardK_f {b : Bool} {yes no : Prop} (h1 : b = false → yes) (h2 : b = true → no) : guardK (.bool b) false yes no := ⟨h1, h2⟩
theorem guardK_split {b want : Bool} {yes no : Prop} (h1 : b = want → yes) (h2 : b = (!want) → no) : guardK (.bool b) want yes no := ⟨h1, h2⟩

/-- The slots of a region's operations, by number. -/
def dstOf (ds : List (Option Tmp)) (j : Nat) : Option Tmp := (ds.getD j none)

def evalOps (P : Program) (T : Tab) (dr : Bool) (ds : List (Option Tmp)) : List Oper → AS → Trace → (AS → Trace → Prop) → Prop
  | [], s, tr, K => K s tr
  | o :: rest, s, tr, K =>
    match o.guard with
    | none => opK P T dr s o.dst o.op fun r => evalOps P T dr ds rest (s.app o.dst r) (trAdd dr tr r (reach s o.op)) K
    | some (j, want) =>
      match dstOf ds j with
      | none => fitsN s.n o.dst ∧ evalOps P T dr ds rest (s.app o.dst { v := .und }) (trAdd dr tr { v := .und } []) K
      | some t => guardK (s.get t) want (opK P T dr s o.dst o.op fun r => evalOps P T dr ds rest (s.app o.dst r) (trAdd dr tr r (reach s o.op)) K)
          (fitsN s.n o.dst ∧ evalOps P T dr ds rest (s.app o.dst { v := .und }) (trAdd dr tr { v := .und } []) K)

/-- A region's operations; only the state and the way are to be rewritten. -/
def evalE (P : Program) (T : Tab) (dr : Bool) (ds : List (Option Tmp)) (l : List Oper) (s : AS) (tr : Trace) (K : AS → Trace → Prop) (_h : Hold (P, T, ds, l, K) := ⟨⟩) : Prop := evalOps P T dr ds l s tr K
theorem evalOps_nil {P : Program} {T : Tab} {dr : Bool} {ds : List (Option Tmp)} {s : AS} {tr : Trace} {K : AS → Trace → Prop} : evalE P T dr ds [] s tr K = K s tr := rfl
theorem evalOps_op {P : Program} {T : Tab} {dr : Bool} {ds : List (Option Tmp)} {d : Option Tmp} {op : Op} {ty : TypeId} {pos : String} {af : Array Edge} {rest : List Oper} {s : AS} {tr : Trace} {K : AS → Trace → Prop} :
    evalE P T dr ds ({ dst := d, op := op, type := ty, pos := pos, after := af, guard := none } :: rest) s tr K = opK P T dr s d op fun r => evalE P T dr ds rest (s.app d r) (trAdd dr tr r (reach s op)) K := rfl
def gv (s : AS) : Option Tmp → PV
  | some t => s.get t
  | none => .und
theorem evalOps_guard {P : Program} {T : Tab} {dr : Bool} {ds : List (Option Tmp)} {d : Option Tmp} {op : Op} {ty : TypeId} {pos : String} {af : Array Edge} {j : Nat} {want : Bool} {rest : List Oper} {s : AS} {tr : Trace} {K : AS → Trace → Prop} :
    evalE P T dr ds ({ dst := d, op := op, type := ty, pos := pos, after := af, guard := some (j, want) } :: rest) s tr K =
      guardK (gv s (dstOf ds j)) want (opK P T dr s d op fun r => evalE P T dr ds rest (s.app d r) (trAdd dr tr r (reach s op)) K) (fitsN s.n d ∧ evalE P T dr ds rest (s.app d { v := .und }) (trAdd dr tr { v := .und } []) K) := by
  unfold evalE
  cases h : dstOf ds j <;> simp only [evalOps, h, gv, guardK]

theorem trAdd_f (tr : Trace) (r : R) (rd : List Nat) : trAdd false tr r rd = tr := rfl
theorem stOf_f (s : AS) (op : Op) : stOf false s op = lk s.st := rfl

/-! ### One behind the other -/
section
variable {P : Program} {B : Base} {T : Tab}

theorem fits_of {s : AS} {d : Option Tmp} (h : fitsN s.n d) : s.f.fits d := by
  intro t ht
  subst ht
  exact h

theorem opK_ok (hT : TabOk P T) {s : AS} {o : Oper} {K : R → Prop} (hk : opK P T false s o.dst o.op K) {a : Act} {w : World} {F : Nat → Prop} {m : Ids} (h : SimW B s.f a w F m) {N : Act → World → Prop} {Q : Exit → Act → World → Prop}
    (hN : ∀ r a' w' F' m', K r → SimW B (s.app o.dst r).f a' w' F' m' → N a' w') : o.wp P a w N Q := by
  have hfresh : ∀ b, s.nx ≤ b → b < s.nx + 8 → ¬ s.f.used b ∧ rng s.nx b := fun b h1 h2 => ⟨fun hq => by have : b < s.nx := hq; omega, h1, h2⟩
  unfold opK at hk
  split at hk
  · rename_i fo xs ts ho _
    obtain ⟨hd, f, first, cap, co, h1, h2, h3, h4⟩ := hk
    exact call_step (u := rng s.nx) h (st := lk s.st) (fun b k hb => hb) ho h1 (fits_of hd) hfresh h2 h3 fun v w' F' m' hs => hN _ _ _ F' m' h4 hs.toApp
  · obtain ⟨hd, hk⟩ := hk
    unfold optK at hk
    split at hk
    · rename_i r hr
      obtain ⟨hg, hk⟩ := hk
      obtain ⟨n, v, w', m', h1, h2, h3⟩ := step_ok (u := rng s.nx) hT h (st := lk s.st) (fun b k hb => hb) hr hg (fits_of hd) (hfresh s.nx (Nat.le_refl _) (by omega)).1 (hfresh s.nx (Nat.le_refl _) (by omega)).2
      unfold Oper.wp
      rw [h1]
      rcases h2 with rfl | ⟨rfl, rfl⟩
      · rw [Oper.upon_value]; exact hN r _ _ F m' hk h3.toApp
      · rw [Oper.upon_skip]; exact hN r _ _ F m' hk h3.toApp
    · exact hk.elim

theorem SimW.bool {A : AF} {a : Act} {w : World} {F : Nat → Prop} {m : Ids} (h : SimW B A a w F m) {t : Tmp} {b : Bool} (hb : A.get t = .bool b) : a.tmps[t]? = some (.bool b) := by
  have := (hb ▸ h.slot t).bool_inv
  rw [Array.getD_eq_getD_getElem?] at this
  cases he : a.tmps[t]? with
  | none => rw [he] at this; simp [undef] at this
  | some v => rw [he] at this; simp at this; rw [this]

theorem SimW.undSlot {A : AF} {a : Act} {w : World} {F : Nat → Prop} {m : Ids} (h : SimW B A a w F m) {t : Tmp} (hb : A.get t = .und) : a.tmps[t]? = none ∨ a.tmps[t]? = some undef := by
  have := (hb ▸ h.slot t).und_inv
  rw [Array.getD_eq_getD_getElem?] at this
  cases he : a.tmps[t]? with
  | none => exact .inl rfl
  | some v => rw [he] at this; simp at this; rw [this]; exact .inr rfl

theorem skip_app {s : AS} {d : Option Tmp} {a : Act} {w : World} {F : Nat → Prop} {m : Ids} (h : SimW B s.f a w F m) (hd : fitsN s.n d) : SimW B (s.app d { v := .und }).f (a.put d undef) w F m :=
  SimW.toApp ((h.use0 (u := rng s.nx)).put (fits_of hd) (.fz .und))

theorem eval_ok (hT : TabOk P T) {ops : Array Oper} {Q : Exit → Act → World → Prop} : ∀ (rest : List Oper) (i : Nat) (s : AS) (K : AS → Trace → Prop),
    (∀ j o, rest[j]? = some o → ops[i + j]? = some o) → evalOps P T false (ops.toList.map (·.dst)) rest s [] K →
    ∀ (a : Act) (w : World), Sim B s.f a w → (∀ s' a' w', K s' [] → Sim B s'.f a' w' → Q .normal a' w') → wpOps P ops Q (List.range' i rest.length) a w
  | [], i, s, K, _, hk, a, w, hs, hQ => hQ s a w hk hs
  | o :: rest, i, s, K, ho, hk, a, w, ⟨F, m, h⟩, hQ => by
    have h0 : ops[i]? = some o := ho 0 o rfl
    have hrest : ∀ j o', rest[j]? = some o' → ops[i + 1 + j]? = some o' := fun j o' hj => by have := ho (j + 1) o' hj; rw [← this]; congr 1; omega
    have next := fun (s' : AS) (hk' : evalOps P T false (ops.toList.map (·.dst)) rest s' [] K) (a' : Act) (w' : World) (hs' : Sim B s'.f a' w') => eval_ok hT rest (i + 1) s' K hrest hk' a' w' hs' hQ
    simp only [List.length_cons, List.range'_succ, wpOps, h0]
    simp only [evalOps, trAdd, if_false, Bool.false_eq_true] at hk
    have go : opK P T false s o.dst o.op (fun r => evalOps P T false (ops.toList.map (·.dst)) rest (s.app o.dst r) [] K) → o.wp P a w (wpOps P ops Q (List.range' (i + 1) rest.length)) Q :=
      fun hk => opK_ok hT hk h fun r a' w' F' m' hk' hs' => next _ hk' a' w' ⟨F', m', hs'⟩
    have sk : fitsN s.n o.dst ∧ evalOps P T false (ops.toList.map (·.dst)) rest (s.app o.dst { v := .und }) [] K → wpOps P ops Q (List.range' (i + 1) rest.length) (a.put o.dst undef) w :=
      fun ⟨hd, hk⟩ => next _ hk _ _ ⟨F, m, skip_app h hd⟩
    cases hg : o.guard with
    | none =>
      rw [hg] at hk
      have : Region.wanted o (yielded ops a.tmps) = true := by simp [Region.wanted, hg]
      rw [if_pos this]
      exact .inl (go hk)
    | some jw =>
      obtain ⟨j, want⟩ := jw
      rw [hg] at hk
      simp only [] at hk
      have hds : dstOf (ops.toList.map (·.dst)) j = (ops[j]?).bind (·.dst) := by
        simp only [dstOf, List.getD, List.getElem?_map, Array.getElem?_toList]
        cases ops[j]? <;> rfl
      cases hd : (ops[j]?).bind (·.dst) with
      | none =>
        rw [hds, hd] at hk
        have : ¬ Region.wanted o (yielded ops a.tmps) = true := by simp [Region.wanted, hg, yielded, hd]
        rw [if_neg this]
        exact sk hk
      | some t =>
        rw [hds, hd] at hk
        simp only [guardK] at hk
        split at hk
        · rename_i b hb
          have hb' := h.bool (t := t) (b := b) hb
          by_cases e : b = want
          · have : Region.wanted o (yielded ops a.tmps) = true := by simp [Region.wanted, hg, yielded, hd, hb', e]
            rw [if_pos this]
            exact .inl (go (hk.1 e))
          · have : ¬ Region.wanted o (yielded ops a.tmps) = true := by simp [Region.wanted, hg, yielded, hd, hb', e]
            rw [if_neg this]
            exact sk (hk.2 (by cases b <;> cases want <;> simp_all))
        · rename_i hb
          have hb' := h.undSlot (t := t) hb
          have : ¬ Region.wanted o (yielded ops a.tmps) = true := by
            rcases hb' with hb' | hb' <;> simp [Region.wanted, hg, yielded, hd, hb', undef]
          rw [if_neg this]
          exact sk hk
        · exact hk.elim

end
end Go.Proofs.YtoifmpiikopelaaFw
