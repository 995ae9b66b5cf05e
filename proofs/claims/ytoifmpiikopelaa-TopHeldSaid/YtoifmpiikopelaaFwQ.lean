/-
  An abstract walk, part Q: a region that draws its order: one walk in the order of the text serves for all, where what is not ordered does not meet.
-/
import Derived.Test.YtoifmpiikopelaaFwP
namespace Go.Proofs.YtoifmpiikopelaaFw
open Go
set_option linter.unusedVariables false
set_option linter.unusedSimpArgs false

/-! ### Who is before whom -/
def pre1 (acc : List Nat) (o : Oper) : Nat := (o.after.toList.filter (Region.binds .any)).foldl (fun s e => s ||| 2 ^ e.on ||| acc.getD e.on 0) 0

def pres : List Oper → List Nat → List Nat
  | [], acc => acc
  | o :: os, acc => pres os (acc ++ [pre1 acc o])

def looksB (ds : List (Option Tmp)) (o : Oper) : List Tmp :=
  (o.op.operands.toList.filterMap fun | .tmp t => some t | _ => none) ++
  (match o.guard with
   | some (g, _) => (dstOf ds g).toList
   | none => [])

/-- Two operations whose slots do not meet. -/
def slotApart (ds : List (Option Tmp)) (x y : Oper) : Bool :=
  (match x.dst with
   | some d => !(looksB ds y).contains d && y.dst != some d
   | none => true) &&
  (match y.dst with
   | some d => !(looksB ds x).contains d
   | none => true)

def pairsB (f : Nat → Nat → Bool) (n : Nat) : Bool := (List.range n).all fun j => (List.range j).all fun i => f i j

/-- Edges lead back; slots that meet are ordered; no select. -/
def slotsB (ops : Array Oper) : Bool :=
  let l := ops.toList
  let ds := l.map (·.dst)
  let p := pres l []
  (l.zipIdx.all fun x => (x.1.after.toList.filter (Region.binds .any)).all fun e => e.on < x.2) &&
  pairsB (fun i j => (p.getD j 0).testBit i || slotApart ds (l.getD i default) (l.getD j default)) l.length

def meets (a b : List Nat) : Bool := a.any b.contains

/-- What is not ordered meets in no id that one of the two writes. -/
def commB (p : List Nat) (tr : Trace) : Bool :=
  pairsB (fun i j => (p.getD j 0).testBit i || (!meets (tr.getD i ([], [])).1 (tr.getD j ([], [])).1 && !meets (tr.getD i ([], [])).1 (tr.getD j ([], [])).2 && !meets (tr.getD i ([], [])).2 (tr.getD j ([], [])).1)) tr.length

theorem pairsB_get {f : Nat → Nat → Bool} {n : Nat} (h : pairsB f n = true) {i j : Nat} (hij : i < j) (hj : j < n) : f i j = true := by
  unfold pairsB at h
  rw [List.all_eq_true] at h
  have := h j (List.mem_range.2 hj)
  rw [List.all_eq_true] at this
  exact this i (List.mem_range.2 hij)

theorem foldl_bits (acc : List Nat) (es : List Edge) : ∀ (s j : Nat), (es.foldl (fun s e => s ||| 2 ^ e.on ||| acc.getD e.on 0) s).testBit j = true → s.testBit j = true ∨ ∃ e ∈ es, j = e.on ∨ (acc.getD e.on 0).testBit j = true := by
  induction es with
  | nil => intro s j h; exact .inl h
  | cons e es ih =>
    intro s j h
    rcases ih _ j h with h | ⟨e', he', h⟩
    · simp only [Nat.testBit_or, Bool.or_eq_true] at h
      rcases h with (h | h) | h
      · exact .inl h
      · refine .inr ⟨e, List.mem_cons_self, .inl ?_⟩
        rw [Nat.testBit_two_pow] at h
        simpa [eq_comm] using h
      · exact .inr ⟨e, List.mem_cons_self, .inr h⟩
    · exact .inr ⟨e', List.mem_cons_of_mem _ he', h⟩

/-- A set that is closed under what its members wait for holds all that is before one whose waits it holds. -/
theorem pres_closed {S : Nat → Prop} : ∀ (l : List Oper) (acc : List Nat) (all : List Oper), all.drop acc.length = l →
    (∀ i o, all[i]? = some o → S i → ∀ e ∈ o.after.toList, Region.binds .any e = true → S e.on) →
    (∀ i o, i < acc.length → all[i]? = some o → (∀ e ∈ o.after.toList, Region.binds .any e = true → S e.on) → ∀ j, (acc.getD i 0).testBit j = true → S j) → acc.length ≤ all.length →
    ∀ i o, all[i]? = some o → (∀ e ∈ o.after.toList, Region.binds .any e = true → S e.on) → ∀ j, ((pres l acc).getD i 0).testBit j = true → S j
  | [], acc, all, hd, hc, ha, hle, i, o, hi, he, j, hj => by
    have : all.length ≤ acc.length := by
      have := congrArg List.length hd
      simp at this
      omega
    exact ha i o (by have := (List.getElem?_eq_some_iff.1 hi).1; omega) hi he j hj
  | x :: l, acc, all, hd, hc, ha, hle, i, o, hi, he, j, hj => by
    have hx : all[acc.length]? = some x := by
      have := congrArg (fun l => l[0]?) hd
      simpa using this
    have hlt : acc.length < all.length := (List.getElem?_eq_some_iff.1 hx).1
    refine pres_closed l (acc ++ [pre1 acc x]) all ?_ hc ?_ (by simp; omega) i o hi he j hj
    · rw [List.length_append, List.length_singleton, ← List.drop_drop, hd]; rfl
    · intro i' o' hi' ho' he' j' hj'
      by_cases h1 : i' < acc.length
      · rw [List.getD_eq_getElem?_getD, List.getElem?_append_left h1, ← List.getD_eq_getElem?_getD] at hj'
        exact ha i' o' h1 ho' he' j' hj'
      · have : i' = acc.length := by simp at hi'; omega
        subst this
        rw [hx] at ho'
        cases ho'
        rw [List.getD_eq_getElem?_getD, List.getElem?_append_right (Nat.le_refl _)] at hj'
        simp only [Nat.sub_self, List.getElem?_cons_zero, Option.getD_some, pre1] at hj'
        rcases foldl_bits acc _ 0 j' hj' with h | ⟨e, hem, h⟩
        · simp at h
        · obtain ⟨hem, hb⟩ := List.mem_filter.1 hem
          have hS := he' e hem hb
          rcases h with rfl | h
          · exact hS
          · have hel : e.on < acc.length := by
              apply Classical.byContradiction
              intro hge
              rw [List.getD_eq_getElem?_getD, List.getElem?_eq_none (by omega)] at h
              simp at h
            have hoo : ∃ o2, all[e.on]? = some o2 := ⟨_, List.getElem?_eq_getElem (by omega)⟩
            obtain ⟨o2, hoo⟩ := hoo
            exact ha e.on o2 hel hoo (fun e2 h2 h3 => hc e.on o2 hoo hS e2 h2 h3) j' h

/-! ### The last writer -/
def lastW {V : Type} (wr : Nat → Option V) (S : Nat → Bool) : Nat → V → V
  | 0, v0 => v0
  | n + 1, v0 => if S n then (wr n).getD (lastW wr S n v0) else lastW wr S n v0

theorem lastW_congr {V : Type} {wr : Nat → Option V} {S S' : Nat → Bool} : ∀ {n : Nat} {v0 : V}, (∀ j, j < n → wr j ≠ none → S j = S' j) → lastW wr S n v0 = lastW wr S' n v0
  | 0, _, _ => rfl
  | n + 1, v0, h => by
    have ih := lastW_congr (wr := wr) (S := S) (S' := S') (n := n) (v0 := v0) fun j hj => h j (by omega)
    simp only [lastW]
    cases hw : wr n with
    | none => simp [ih]
    | some v => rw [h n (by omega) (by rw [hw]; simp), ih]

theorem lastW_top {V : Type} {wr : Nat → Option V} {i : Nat} : ∀ {n : Nat} {v0 : V}, i ≤ n → lastW wr (fun j => decide (j < i)) n v0 = lastW wr (fun _ => true) i v0
  | 0, _, h => by
    have : i = 0 := by omega
    subst this
    rfl
  | n + 1, v0, h => by
    by_cases e : i = n + 1
    · subst e
      refine lastW_congr fun j hj _ => ?_
      simp [hj]
    · simp only [lastW]
      rw [if_neg (by simp; omega)]
      exact lastW_top (by omega)

theorem lastW_add {V : Type} {wr : Nat → Option V} {S S' : Nat → Bool} {i : Nat} (hS : ∀ j, S' j = (S j || j == i)) (hi : S i = false) : ∀ {n : Nat} {v0 : V}, i < n → (wr i ≠ none → ∀ j, i < j → j < n → S j = true → wr j = none) →
    lastW wr S' n v0 = (wr i).getD (lastW wr S n v0)
  | 0, _, h, _ => by omega
  | n + 1, v0, h, hw => by
    by_cases e : i = n
    · subst e
      have h1 : lastW wr S' i v0 = lastW wr S i v0 := lastW_congr fun j hj _ => by rw [hS]; simp; omega
      simp only [lastW, hS, hi, h1, beq_self_eq_true, Bool.or_true, if_true]
      cases wr i <;> rfl
    · have ih := lastW_add (wr := wr) hS hi (n := n) (v0 := v0) (by omega) fun hne j h1 h2 => hw hne j h1 (by omega)
      have hSn : S' n = S n := by rw [hS]; simp; omega
      simp only [lastW, hSn, ih]
      cases hwi : wr i with
      | none => rfl
      | some v =>
        by_cases hs : S n = true
        · rw [if_pos hs, hw (by rw [hwi]; simp) n (by omega) (by omega) hs]; rfl
        · rw [if_neg hs]; rfl

theorem lastW_shift {V : Type} (wr : Nat → Option V) : ∀ (i : Nat) (v0 : V), lastW wr (fun _ => true) (i + 1) v0 = lastW (fun j => wr (j + 1)) (fun _ => true) i ((wr 0).getD v0)
  | 0, v0 => by simp [lastW]
  | i + 1, v0 => by
    have ih := lastW_shift wr i v0
    simp only [lastW, if_true] at ih ⊢
    rw [ih]

/-! ### The way in the order of the text -/
structure Ent where
  r : R
  rd : List Nat
  skip : Bool

def StepF (P : Program) (T : Tab) (get : Nat → PV) (st : St) (c : Nat) (op : Op) (r : R) : Prop :=
  (∃ fo xs ts f first cap co, op = .call { callee := .value fo, args := xs, argTypes := ts } ∧ ev get fo = .fn (.func f) first cap ∧ FnX P f co.args co.st0 co.res co.st1 ∧
    (fCall st c co (first ++ xs.toList.map (ev get) ++ cap)).g ∧ r = fCall st c co (first ++ xs.toList.map (ev get) ++ cap)) ∨
  (fstep T get st c op = some r ∧ r.g)

def gvF (get : Nat → PV) : Option Tmp → PV
  | some t => get t
  | none => .und

def GuardF (ds : List (Option Tmp)) (get : Nat → PV) (g : Option (Nat × Bool)) (skip : Bool) : Prop :=
  match g with
  | none => skip = false
  | some (j, want) => (gvF get (dstOf ds j) = .bool want ∧ skip = false) ∨ ((gvF get (dstOf ds j) = .bool (!want) ∨ gvF get (dstOf ds j) = .und) ∧ skip = true)

def EntOk (P : Program) (T : Tab) (ds : List (Option Tmp)) (get : Nat → PV) (st : St) (c n : Nat) (o : Oper) (e : Ent) : Prop :=
  fitsN n o.dst ∧ GuardF ds get o.guard e.skip ∧ ((e.skip = true ∧ e.r = { v := .und }) ∨ (e.skip = false ∧ StepF P T get (restr e.rd st) c o.op e.r))

inductive Run (P : Program) (T : Tab) (ds : List (Option Tmp)) : List Oper → AS → List Ent → AS → Prop
  | nil (s : AS) : Run P T ds [] s [] s
  | cons (o : Oper) (rest : List Oper) (s : AS) (e : Ent) (es : List Ent) (s' : AS) (h : EntOk P T ds s.get (lk s.st) s.nx s.n o e) (k : Run P T ds rest (s.app o.dst e.r) es s') : Run P T ds (o :: rest) s (e :: es) s'

theorem opK_step {P : Program} {T : Tab} {s : AS} {d : Option Tmp} {op : Op} {K : R → Prop} (h : opK P T true s d op K) : ∃ r, fitsN s.n d ∧ StepF P T s.get (restr (reach s op) (lk s.st)) s.nx op r ∧ K r := by
  unfold opK at h
  split at h
  · rename_i fo xs ts
    obtain ⟨hd, f, first, cap, co, h1, h2, h3, h4⟩ := h
    exact ⟨_, hd, .inl ⟨fo, xs, ts, f, first, cap, co, rfl, h1, h2, h3, rfl⟩, h4⟩
  · obtain ⟨hd, h⟩ := h
    unfold optK at h
    split at h
    · rename_i r hr
      exact ⟨r, hd, .inr ⟨hr, h.1⟩, h.2⟩
    · exact h.elim

theorem eval_run {P : Program} {T : Tab} {ds : List (Option Tmp)} {K : AS → Trace → Prop} : ∀ (rest : List Oper) (s : AS) (tr : Trace), evalOps P T true ds rest s tr K →
    ∃ es s', Run P T ds rest s es s' ∧ K s' (tr ++ es.map fun e => (writes e.r, e.rd))
  | [], s, tr, h => ⟨[], s, .nil s, by rw [List.map_nil, List.append_nil]; exact h⟩
  | o :: rest, s, tr, h => by
    have go : opK P T true s o.dst o.op (fun r => evalOps P T true ds rest (s.app o.dst r) (trAdd true tr r (reach s o.op)) K) → GuardF ds s.get o.guard false →
        ∃ es s', Run P T ds (o :: rest) s es s' ∧ K s' (tr ++ es.map fun e => (writes e.r, e.rd)) := by
      intro h hg
      obtain ⟨r, hd, hs, hk⟩ := opK_step h
      obtain ⟨es, s', h1, h2⟩ := eval_run rest _ _ hk
      refine ⟨⟨r, reach s o.op, false⟩ :: es, s', .cons _ _ _ _ _ _ ⟨hd, hg, .inr ⟨rfl, hs⟩⟩ h1, ?_⟩
      simpa [trAdd] using h2
    have sk : fitsN s.n o.dst ∧ evalOps P T true ds rest (s.app o.dst { v := .und }) (trAdd true tr { v := .und } []) K → GuardF ds s.get o.guard true →
        ∃ es s', Run P T ds (o :: rest) s es s' ∧ K s' (tr ++ es.map fun e => (writes e.r, e.rd)) := by
      intro ⟨hd, hk⟩ hg
      obtain ⟨es, s', h1, h2⟩ := eval_run rest _ _ hk
      refine ⟨⟨{ v := .und }, [], true⟩ :: es, s', .cons _ _ _ _ _ _ ⟨hd, hg, .inl ⟨rfl, rfl⟩⟩ h1, ?_⟩
      simpa [trAdd, writes] using h2
    simp only [evalOps] at h
    cases hg : o.guard with
    | none => rw [hg] at h; exact go h (by simp [GuardF, hg])
    | some jw =>
      obtain ⟨j, want⟩ := jw
      rw [hg] at h
      simp only [] at h
      cases hd : dstOf ds j with
      | none =>
        rw [hd] at h
        exact sk h (by simp [GuardF, hg, hd, gvF])
      | some t =>
        rw [hd] at h
        simp only [guardK] at h
        split at h
        · rename_i b hb
          by_cases e : b = want
          · exact go (h.1 e) (by simp [GuardF, hg, hd, gvF, hb, e])
          · refine sk (h.2 (by cases b <;> cases want <;> simp_all)) ?_
            have : b = !want := by cases b <;> cases want <;> simp_all
            simp [GuardF, hg, hd, gvF, hb, this]
        · rename_i hb
          exact sk h (by simp [GuardF, hg, hd, gvF, hb])
        · exact h.elim

def wS (l : List Oper) (es : List Ent) (t : Nat) (i : Nat) : Option PV :=
  match l[i]?, es[i]? with
  | some o, some e => if o.dst = some t then some e.r.v else none
  | _, _ => none

def wI (es : List Ent) (b : Nat) (i : Nat) : Option (Option Blk) :=
  match es[i]? with
  | some e => (match e.r.puts.lookup b with
    | some k => some (some k)
    | none => if b ∈ e.r.dels then some none else none)
  | none => none

/-- At each operation: the state that the text's order finds, told by the last writers. -/
theorem run_at {P : Program} {T : Tab} {ds : List (Option Tmp)} {l : List Oper} {s s' : AS} {es : List Ent} (h : Run P T ds l s es s') :
    es.length = l.length ∧ (∀ i o e, l[i]? = some o → es[i]? = some e →
      EntOk P T ds (fun t => lastW (wS l es t) (fun _ => true) i (s.get t)) (fun b => lastW (wI es b) (fun _ => true) i (lk s.st b)) (s.nx + 8 * i) s.n o e) ∧
    (∀ t, s'.get t = lastW (wS l es t) (fun _ => true) l.length (s.get t)) ∧ (∀ b, lk s'.st b = lastW (wI es b) (fun _ => true) l.length (lk s.st b)) ∧ s'.nx = s.nx + 8 * l.length ∧ s'.n = s.n := by
  induction h with
  | nil s => exact ⟨rfl, by simp, fun _ => rfl, fun _ => rfl, rfl, rfl⟩
  | cons o rest s e es s' h k ih =>
    obtain ⟨h1, h2, h3, h4, h5, h6⟩ := ih
    have eS : ∀ t, (s.app o.dst e.r).get t = (wS (o :: rest) (e :: es) t 0).getD (s.get t) := fun t => by
      rw [app_get]; simp only [wS, List.getElem?_cons_zero]; split <;> rfl
    have eI : ∀ b, lk (s.app o.dst e.r).st b = (wI (e :: es) b 0).getD (lk s.st b) := fun b => by
      rw [app_st]; simp only [wI, List.getElem?_cons_zero]
      cases e.r.puts.lookup b with
      | some k => rfl
      | none => simp only []; split <;> rfl
    have sS : ∀ t i, lastW (wS (o :: rest) (e :: es) t) (fun _ => true) (i + 1) (s.get t) = lastW (wS rest es t) (fun _ => true) i ((s.app o.dst e.r).get t) := fun t i => by
      have e1 : (fun j => wS (o :: rest) (e :: es) t (j + 1)) = wS rest es t := by funext j; simp only [wS, List.getElem?_cons_succ]
      rw [lastW_shift, eS, e1]
    have sI : ∀ b i, lastW (wI (e :: es) b) (fun _ => true) (i + 1) (lk s.st b) = lastW (wI es b) (fun _ => true) i (lk (s.app o.dst e.r).st b) := fun b i => by
      have e1 : (fun j => wI (e :: es) b (j + 1)) = wI es b := by funext j; simp only [wI, List.getElem?_cons_succ]
      rw [lastW_shift, eI, e1]
    refine ⟨by simp [h1], fun i o' e' ho he => ?_, fun t => ?_, fun b => ?_, ?_, h6⟩
    · cases i with
      | zero =>
        simp at ho he
        subst ho he
        exact h
      | succ i =>
        simp only [List.getElem?_cons_succ] at ho he
        have := h2 i o' e' ho he
        simp only [sS, sI]
        have en : (s.app o.dst e.r).nx + 8 * i = s.nx + 8 * (i + 1) := by show s.nx + 8 + 8 * i = _; omega
        rw [en] at this
        exact this
    · rw [h3, List.length_cons, sS]
    · rw [h4, List.length_cons, sI]
    · rw [h5, List.length_cons]; show s.nx + 8 + _ = _; omega

theorem fstep_congr {T : Tab} {g g' : Nat → PV} {st : St} {c : Nat} {op : Op} (h : ∀ x ∈ op.operands, ev g x = ev g' x) : fstep T g st c op = fstep T g' st c op := by
  have lm : ∀ (xs : Array Operand), (∀ x ∈ xs, ev g x = ev g' x) → xs.toList.map (ev g) = xs.toList.map (ev g') := fun xs hx => List.map_congr_left fun x hm => hx x (by simpa using hm)
  have pm : ∀ (ps : Array (Nat × Operand)), (∀ x ∈ (ps.toList.map (·.2)).toArray, ev g x = ev g' x) → ps.toList.map (fun x => (x.1, ev g x.2)) = ps.toList.map fun x => (x.1, ev g' x.2) := fun ps hx =>
    List.map_congr_left fun x hm => by rw [hx x.2 (by simp; exact ⟨x.1, by simpa using hm⟩)]
  have om : ∀ (x : Option Operand), (∀ y ∈ x.toArray, ev g y = ev g' y) → optI g x = optI g' x := fun x hx => by
    cases x with
    | none => rfl
    | some y => simp only [optI]; rw [hx y (by simp)]
  unfold fstep
  cases op <;> simp only [Op.operands] at h ⊢ <;> try rfl
  case move x => rw [h x (by simp)]
  case assign x => rw [h x (by simp)]
  case pick a x y => rw [h a (by simp), h x (by simp), h y (by simp)]
  case box t x => rw [h x (by simp)]
  case build t ps => rw [pm ps h]
  case buildSlice t n ps => rw [pm ps h]
  case load t x => rw [h x (by simp)]
  case store t x y => rw [h x (by simp), h y (by simp)]
  case nilCheck x => rw [h x (by simp)]
  case binOp op t x y ty => rw [h x (by simp), h y (by simp)]
  case unOp op t x => rw [h x (by simp)]
  case convert s d x => rw [h x (by simp)]
  case makeFunc f first cap =>
    cases f <;> try rfl
    simp only []
    rw [lm first fun x hx => h x (by simp; exact .inl (by simpa using hx)), lm cap fun x hx => h x (by simp; exact .inr (by simpa using hx))]
  case makeSlice t x y => rw [h x (by simp), h y (by simp)]
  case makeInterface t x => rw [h x (by simp)]
  case slice t x lo hi mx =>
    rw [h x (by simp), om lo fun y hy => h y (by simp at hy ⊢; simp [hy]), om hi fun y hy => h y (by simp at hy ⊢; simp [hy]), om mx fun y hy => h y (by simp at hy ⊢; simp [hy])]
  case fieldAddr t x f => rw [h x (by simp)]
  case field t x f => rw [h x (by simp)]
  case indexAddr t x i => rw [h x (by simp), h i (by simp)]
  case index t x i => rw [h x (by simp), h i (by simp)]
  case extract x i => rw [h x (by simp)]
  case call c' =>
    obtain ⟨cl, args, ts⟩ := c'
    cases cl with
    | builtin b =>
      simp only [Call.operands] at h
      have ha : ∀ x ∈ args.toList, ev g x = ev g' x := fun x hx => h x (by simpa using hx)
      simp only []
      have hm : args.toList.map (ev g) = args.toList.map (ev g') := List.map_congr_left ha
      generalize args.toList = l at *
      cases b <;> try rfl
      · -- append
        match l, ts.toList with
        | [s, x], [t, tx] => simp only []; rw [ha s (by simp), ha x (by simp)]
        | [], _ => rfl
        | [_], _ => rfl
        | _ :: _ :: _ :: _, _ => rfl
        | [_, _], [] => rfl
        | [_, _], [_] => rfl
        | [_, _], _ :: _ :: _ :: _ => rfl
      · -- cap
        match l, ts.toList with
        | [x], [t] => simp only []; rw [ha x (by simp)]
        | [], _ => rfl
        | _ :: _ :: _, _ => rfl
        | [_], [] => rfl
        | [_], _ :: _ :: _ => rfl
      · -- copy
        match l, ts.toList with
        | [s, x], [t, tx] => simp only []; rw [ha s (by simp), ha x (by simp)]
        | [], _ => rfl
        | [_], _ => rfl
        | _ :: _ :: _ :: _, _ => rfl
        | [_, _], [] => rfl
        | [_, _], [_] => rfl
        | [_, _], _ :: _ :: _ :: _ => rfl
      · -- len
        match l, ts.toList with
        | [x], [t] => simp only []; rw [ha x (by simp)]
        | [], _ => rfl
        | _ :: _ :: _, _ => rfl
        | [_], [] => rfl
        | [_], _ :: _ :: _ => rfl
      · simp only []; rw [hm]
      · simp only []; rw [hm]
    | _ => rfl

/-! ### Any order -/
section
variable {P : Program} {B : Base} {T : Tab}

theorem guardF_wanted {ds : List (Option Tmp)} {ops : Array Oper} (hds : ds = ops.toList.map (·.dst)) {A : AF} {a : Act} {w : World} {F : Nat → Prop} {m : Ids} (h : SimW B A a w F m) {o : Oper} {skip : Bool} (hg : GuardF ds A.get o.guard skip) :
    Region.wanted o (yielded ops a.tmps) = !skip := by
  unfold GuardF at hg
  cases hgo : o.guard with
  | none => rw [hgo] at hg; simp only [] at hg; simp [Region.wanted, hgo, hg]
  | some jw =>
    obtain ⟨j, want⟩ := jw
    rw [hgo] at hg
    simp only [] at hg
    have hd : dstOf ds j = (ops[j]?).bind (·.dst) := by
      rw [hds]
      simp only [dstOf, List.getD, List.getElem?_map, Array.getElem?_toList]
      cases ops[j]? <;> rfl
    rw [hd] at hg
    cases hb : (ops[j]?).bind (·.dst) with
    | none =>
      rw [hb] at hg
      simp only [gvF] at hg
      rcases hg with ⟨h1, _⟩ | ⟨_, h2⟩
      · cases h1
      · simp [Region.wanted, hgo, yielded, hb, h2]
    | some t =>
      rw [hb] at hg
      simp only [gvF] at hg
      rcases hg with ⟨h1, h2⟩ | ⟨h1 | h1, h2⟩
      · have := h.bool h1
        simp [Region.wanted, hgo, yielded, hb, this, h2]
      · have := h.bool h1
        simp [Region.wanted, hgo, yielded, hb, this, h2]
      · rcases h.undSlot h1 with this | this <;> simp [Region.wanted, hgo, yielded, hb, this, h2, undef]

/-- The state behind a set of operations. -/
def AFS (l : List Oper) (es : List Ent) (s : AS) (S : Nat → Bool) : AF :=
  { get := fun t => lastW (wS l es t) S l.length (s.get t), st := fun b => lastW (wI es b) S l.length (lk s.st b),
    used := fun b => b < s.nx ∨ ∃ j, j < l.length ∧ S j = true ∧ rng (s.nx + 8 * j) b, n := s.n }

theorem ent_step (hT : TabOk P T) {A : AF} {a : Act} {w : World} {F : Nat → Prop} {m : Ids} (h : SimW B A a w F m) {o : Oper} {st : St} (hst : ∀ b k, st b = some k → A.st b = some k) {c : Nat} {r : R} (hd : A.fits o.dst) (hc : ∀ b, c ≤ b → b < c + 8 → ¬ A.used b)
    (hs : StepF P T A.get st c o.op r) {K : Act → World → Prop} {Q : Exit → Act → World → Prop} (hK : ∀ v w' F' m', SimW B (((A.eff r.dels r.puts).use (rng c)).put o.dst r.v) (a.put o.dst v) w' F' m' → K (a.put o.dst v) w') : o.wp P a w K Q := by
  rcases hs with ⟨fo, xs, ts, f, first, cap, co, h1, h2, h3, h4, rfl⟩ | ⟨h1, h2⟩
  · exact call_step (u := rng c) h hst h1 h2 hd (fun b p q => ⟨hc b p q, p, q⟩) h3 h4 hK
  · obtain ⟨n, v, w', m', q1, q2, q3⟩ := step_ok (u := rng c) hT h hst h1 h2 hd (hc c (Nat.le_refl _) (by omega)) ⟨Nat.le_refl _, by omega⟩
    unfold Oper.wp
    rw [q1]
    rcases q2 with rfl | ⟨rfl, rfl⟩
    · rw [Oper.upon_value]; exact hK _ _ F m' q3
    · rw [Oper.upon_skip]; exact hK _ _ F m' q3

theorem getD_set_true (l : Array Bool) (i j : Nat) (hi : i < l.size) : (l.setIfInBounds i true).getD j false = (l.getD j false || j == i) := by
  simp only [Array.getD_eq_getD_getElem?, Array.getElem?_setIfInBounds]
  by_cases h : i = j
  · subst h; simp [hi]
  · have : (j == i) = false := by simpa using fun e : j = i => h e.symm
    simp [h, this]

theorem meets_not {a b : List Nat} (h : (!meets a b) = true) {x : Nat} (ha : x ∈ a) : x ∉ b := by
  intro hb
  unfold meets at h
  rw [Bool.not_eq_true', List.any_eq_false] at h
  exact h x ha (by simpa using hb)

theorem wI_writes {es : List Ent} {b i : Nat} {e : Ent} (he : es[i]? = some e) (h : wI es b i ≠ none) : b ∈ writes e.r := by
  unfold wI at h
  rw [he] at h
  simp only [] at h
  cases hl : e.r.puts.lookup b with
  | some k =>
    have : (b, k) ∈ e.r.puts := by
      clear h
      generalize e.r.puts = ps at *
      induction ps with
      | nil => simp at hl
      | cons x ps ih =>
        obtain ⟨c, k'⟩ := x
        simp only [List.lookup] at hl
        split at hl
        · rename_i q
          have : b = c := by simpa using q
          subst this
          cases hl
          exact List.mem_cons_self
        · exact List.mem_cons_of_mem _ (ih hl)
    exact List.mem_append.2 (.inr (List.mem_map.2 ⟨_, this, rfl⟩))
  | none =>
    rw [hl] at h
    simp only [] at h
    split at h
    · rename_i hm; exact List.mem_append.2 (.inl hm)
    · exact (h rfl).elim

/-- ANY ORDER SERVES. -/
theorem any_order (hT : TabOk P T) {ops : Array Oper} {s s' : AS} {es : List Ent} {Q : Exit → Act → World → Prop} (hr : Run P T (ops.toList.map (·.dst)) ops.toList s es s') (hb : slotsB ops = true) (hcm : commB (pres ops.toList []) (es.map fun e => (writes e.r, e.rd)) = true)
    (hQ : ∀ a w, Sim B s'.f a w → Q .normal a w) : ∀ (fuel : Nat) (listed : Array Bool) (a : Act) (w : World), listed.size = ops.size →
    (∀ i o, ops[i]? = some o → listed.getD i false = true → ∀ e ∈ o.after.toList, Region.binds .any e = true → listed.getD e.on false = true) →
    ((List.range ops.size).filter fun i => !listed.getD i false).length ≤ fuel →
    Sim B (AFS ops.toList es s fun i => listed.getD i false) a w → wpAny P .any ops Q fuel listed a w := by
  obtain ⟨hlen, hent, hget', hst', hnx', hn'⟩ := run_at hr
  have hes : ∀ i, i < ops.size → ∃ e, es[i]? = some e := fun i hi => ⟨_, List.getElem?_eq_getElem (by rw [hlen, Array.length_toList]; exact hi)⟩
  -- the checks
  simp only [slotsB, Bool.and_eq_true] at hb
  obtain ⟨hb1, hb2⟩ := hb
  have hedge : ∀ i o, ops[i]? = some o → ∀ e ∈ o.after.toList, Region.binds .any e = true → e.on < i := by
    intro i o ho e he hbe
    rw [List.all_eq_true] at hb1
    have hm : (o, i) ∈ ops.toList.zipIdx := by
      rw [List.mem_iff_getElem?]
      exact ⟨i, by rw [List.getElem?_zipIdx, Array.getElem?_toList, ho]; simp⟩
    have := hb1 (o, i) hm
    rw [List.all_eq_true] at this
    simpa using this e (List.mem_filter.2 ⟨he, hbe⟩)
  have hslot : ∀ i j oi oj, i < j → ops[i]? = some oi → ops[j]? = some oj → ((pres ops.toList []).getD j 0).testBit i = true ∨ slotApart (ops.toList.map (·.dst)) oi oj = true := by
    intro i j oi oj hij hoi hoj
    have hj : j < ops.toList.length := by rw [Array.length_toList]; exact (Array.getElem?_eq_some_iff.1 hoj).1
    have := pairsB_get hb2 hij hj
    have e1 : ops.toList.getD i default = oi := by rw [List.getD_eq_getElem?_getD, Array.getElem?_toList, hoi]; rfl
    have e2 : ops.toList.getD j default = oj := by rw [List.getD_eq_getElem?_getD, Array.getElem?_toList, hoj]; rfl
    rw [e1, e2] at this
    simpa using this
  have hcomm : ∀ i j ei ej, i < j → es[i]? = some ei → es[j]? = some ej → ((pres ops.toList []).getD j 0).testBit i = true ∨ (!meets (writes ei.r) (writes ej.r)) = true ∧ (!meets (writes ei.r) ej.rd) = true ∧ (!meets ei.rd (writes ej.r)) = true := by
    intro i j ei ej hij hei hej
    unfold commB at hcm
    have hj : j < (es.map fun e => (writes e.r, e.rd)).length := by rw [List.length_map]; exact (List.getElem?_eq_some_iff.1 hej).1
    have := pairsB_get hcm hij hj
    have e1 : (es.map fun e => (writes e.r, e.rd)).getD i ([], []) = (writes ei.r, ei.rd) := by rw [List.getD_eq_getElem?_getD, List.getElem?_map, hei]; rfl
    have e2 : (es.map fun e => (writes e.r, e.rd)).getD j ([], []) = (writes ej.r, ej.rd) := by rw [List.getD_eq_getElem?_getD, List.getElem?_map, hej]; rfl
    rw [e1, e2] at this
    simp only [Bool.or_eq_true, Bool.and_eq_true] at this
    rcases this with h | ⟨⟨h1, h2⟩, h3⟩
    · exact .inl h
    · exact .inr ⟨h1, h2, h3⟩
  intro fuel
  -- one operation
  have step : ∀ (listed : Array Bool) (a : Act) (w : World) (i : Nat), listed.size = ops.size → i ∈ Region.ready .any ops listed →
      (∀ i o, ops[i]? = some o → listed.getD i false = true → ∀ e ∈ o.after.toList, Region.binds .any e = true → listed.getD e.on false = true) →
      Sim B (AFS ops.toList es s fun i => listed.getD i false) a w → ∀ K : Act → World → Prop, (∀ a' w', Sim B (AFS ops.toList es s fun j => (listed.setIfInBounds i true).getD j false) a' w' → K a' w') → wpOp P ops Q i K a w := by
    rintro listed a w i hsz hi hcl ⟨F, m, h⟩ K hK
    have hi' := List.mem_filter.1 hi
    have hin : i < ops.size := List.mem_range.1 hi'.1
    obtain ⟨o, ho⟩ : ∃ o, ops[i]? = some o := ⟨_, Array.getElem?_eq_getElem hin⟩
    obtain ⟨e, he⟩ := hes i hin
    have hrd := hi'.2
    simp only [Bool.and_eq_true, ho, Option.map_some, Option.getD_some] at hrd
    have hSi : listed.getD i false = false := by
      have := hrd.1
      simp only [Bool.not_eq_true'] at this
      have hin' : i < listed.size := by omega
      simpa [Array.getD_eq_getD_getElem?, Array.getElem?_eq_getElem hin'] using this
    have hpre : ∀ e ∈ o.after.toList, Region.binds .any e = true → listed.getD e.on false = true := by
      intro e he hbe
      have := hrd.2
      rw [Array.all_eq_true_iff_forall_mem] at this
      have := this e (by simpa using he)
      simpa [hbe] using this
    have hbit : ∀ j, ((pres ops.toList []).getD i 0).testBit j = true → listed.getD j false = true :=
      pres_closed (S := fun j => listed.getD j false = true) ops.toList [] ops.toList rfl (fun k ok hk hS => hcl k ok (by simpa using hk) hS) (fun k _ hk => by simp at hk) (by simp) i o (by simpa using ho) hpre
    have hbit' : ∀ j, listed.getD j false = true → ∀ oj, ops[j]? = some oj → ((pres ops.toList []).getD j 0).testBit i = true → False := by
      intro j hj oj hoj hb
      have := pres_closed (S := fun j => listed.getD j false = true) ops.toList [] ops.toList rfl (fun k ok hk hS => hcl k ok (by simpa using hk) hS) (fun k _ hk => by simp at hk) (by simp) j oj (by simpa using hoj) (hcl j oj hoj hj) i hb
      rw [hSi] at this
      cases this
    -- the same slots are seen as in the order of the text
    have seeS : ∀ t, t ∈ looksB (ops.toList.map (·.dst)) o → lastW (wS ops.toList es t) (fun j => listed.getD j false) ops.toList.length (s.get t) = lastW (wS ops.toList es t) (fun _ => true) i (s.get t) := by
      intro t ht
      rw [← lastW_top (n := ops.toList.length) (by rw [Array.length_toList]; omega)]
      refine lastW_congr fun j hj hw => ?_
      rw [Array.length_toList] at hj
      obtain ⟨oj, hoj⟩ : ∃ oj, ops[j]? = some oj := ⟨_, Array.getElem?_eq_getElem hj⟩
      obtain ⟨ej, hej⟩ := hes j hj
      have hdj : oj.dst = some t := by
        simp only [wS, Array.getElem?_toList, hoj, hej] at hw
        by_cases q : oj.dst = some t
        · exact q
        · rw [if_neg q] at hw; exact (hw rfl).elim
      rcases Nat.lt_trichotomy j i with hlt | heq | hgt
      · rw [decide_eq_true hlt]
        rcases hslot j i oj o hlt hoj ho with hb | hb
        · exact hbit j hb
        · simp only [slotApart, hdj, Bool.and_eq_true, Bool.not_eq_true'] at hb
          have := hb.1.1
          simp [ht] at this
      · subst heq
        rw [hSi]
        simp
      · rw [decide_eq_false (by omega)]
        rcases hslot i j o oj hgt ho hoj with hb | hb
        · cases hq : listed.getD j false with
          | false => rfl
          | true => exact (hbit' j hq oj hoj hb).elim
        · simp only [slotApart, hdj, Bool.and_eq_true, Bool.not_eq_true'] at hb
          have := hb.2
          simp [ht] at this
    have seeI : ∀ b, b ∈ e.rd → lastW (wI es b) (fun j => listed.getD j false) ops.toList.length (lk s.st b) = lastW (wI es b) (fun _ => true) i (lk s.st b) := by
      intro b hbr
      rw [← lastW_top (n := ops.toList.length) (by rw [Array.length_toList]; omega)]
      refine lastW_congr fun j hj hw => ?_
      rw [Array.length_toList] at hj
      obtain ⟨oj, hoj⟩ : ∃ oj, ops[j]? = some oj := ⟨_, Array.getElem?_eq_getElem hj⟩
      obtain ⟨ej, hej⟩ := hes j hj
      have hwj := wI_writes hej hw
      rcases Nat.lt_trichotomy j i with hlt | heq | hgt
      · rw [decide_eq_true hlt]
        rcases hcomm j i ej e hlt hej he with hb | ⟨_, hb, _⟩
        · exact hbit j hb
        · exact (meets_not hb hwj hbr).elim
      · subst heq
        rw [hSi]
        simp
      · rw [decide_eq_false (by omega)]
        rcases hcomm i j e ej hgt he hej with hb | ⟨_, _, hb⟩
        · cases hq : listed.getD j false with
          | false => rfl
          | true => exact (hbit' j hq oj hoj hb).elim
        · exact (meets_not hb hbr hwj).elim
    obtain ⟨hfit, hguard, hdo⟩ := hent i o e (by simpa using ho) he
    have hguard' : GuardF (ops.toList.map (·.dst)) (AFS ops.toList es s fun i => listed.getD i false).get o.guard e.skip := by
      unfold GuardF at hguard ⊢
      cases hgo : o.guard with
      | none => rw [hgo] at hguard; exact hguard
      | some jw =>
        obtain ⟨j, want⟩ := jw
        rw [hgo] at hguard
        simp only [] at hguard ⊢
        have : gvF (AFS ops.toList es s fun i => listed.getD i false).get (dstOf (ops.toList.map (·.dst)) j) = gvF (fun t => lastW (wS ops.toList es t) (fun _ => true) i (s.get t)) (dstOf (ops.toList.map (·.dst)) j) := by
          cases hd : dstOf (ops.toList.map (·.dst)) j with
          | none => rfl
          | some t => exact seeS t (by simp only [looksB, hgo, hd]; simp)
        rw [this]
        exact hguard
    have hwant := guardF_wanted rfl h hguard'
    have hfits : (AFS ops.toList es s fun i => listed.getD i false).fits o.dst := fun t ht => by rw [ht] at hfit; exact hfit
    have hS' : ∀ j, (listed.setIfInBounds i true).getD j false = (listed.getD j false || j == i) := fun j => getD_set_true listed i j (by omega)
    -- what the next state is
    have next : ∀ {a' : Act} {w' : World} {F' : Nat → Prop} {m' : Ids}, SimW B ((((AFS ops.toList es s fun i => listed.getD i false).eff e.r.dels e.r.puts).use (rng (s.nx + 8 * i))).put o.dst e.r.v) a' w' F' m' →
        Sim B (AFS ops.toList es s fun j => (listed.setIfInBounds i true).getD j false) a' w' := by
      intro a' w' F' m' hsim
      refine ⟨F', m', hsim.congr (fun t => ?_) (fun b => ?_) (fun b hb => ?_) (by cases o.dst <;> rfl)⟩
      · show lastW (wS ops.toList es t) _ ops.toList.length (s.get t) = _
        rw [lastW_add (S := fun i => listed.getD i false) hS' hSi (by rw [Array.length_toList]; exact hin) fun hne j hij hj hSj => ?_]
        · have ew : wS ops.toList es t i = if o.dst = some t then some e.r.v else none := by simp only [wS, Array.getElem?_toList, ho, he]
          rw [ew]
          cases hd : o.dst with
          | none => rfl
          | some d =>
            simp only [AF.put]
            by_cases q : t = d
            · subst q; simp
            · have q' : ¬ d = t := fun e => q e.symm
              rw [if_neg (fun e => q' (Option.some.inj e)), if_neg q]; rfl
        · rw [Array.length_toList] at hj
          obtain ⟨oj, hoj⟩ : ∃ oj, ops[j]? = some oj := ⟨_, Array.getElem?_eq_getElem hj⟩
          obtain ⟨ej, hej⟩ := hes j hj
          simp only [wS, Array.getElem?_toList, ho, he] at hne
          have hdi : o.dst = some t := by
            by_cases q : o.dst = some t
            · exact q
            · rw [if_neg q] at hne; exact (hne rfl).elim
          simp only [wS, Array.getElem?_toList, hoj, hej]
          rcases hslot i j o oj hij ho hoj with hb | hb
          · exact (hbit' j hSj oj hoj hb).elim
          · simp only [slotApart, hdi, Bool.and_eq_true] at hb
            rw [if_neg]
            have := hb.1.2
            simpa using this
      · show lastW (wI es b) _ ops.toList.length (lk s.st b) = _
        rw [lastW_add (S := fun i => listed.getD i false) hS' hSi (by rw [Array.length_toList]; exact hin) fun hne j hij hj hSj => ?_]
        · have e1 : ((((AFS ops.toList es s fun i => listed.getD i false).eff e.r.dels e.r.puts).use (rng (s.nx + 8 * i))).put o.dst e.r.v).st b = ((AFS ops.toList es s fun i => listed.getD i false).eff e.r.dels e.r.puts).st b := by cases o.dst <;> rfl
          rw [e1]
          simp only [wI, he, AF.eff]
          cases e.r.puts.lookup b with
          | some k => rfl
          | none => simp only []; split <;> rfl
        · rw [Array.length_toList] at hj
          obtain ⟨oj, hoj⟩ : ∃ oj, ops[j]? = some oj := ⟨_, Array.getElem?_eq_getElem hj⟩
          obtain ⟨ej, hej⟩ := hes j hj
          apply Classical.byContradiction
          intro hwj
          rcases hcomm i j e ej hij he hej with hb | ⟨hb, _, _⟩
          · exact hbit' j hSj oj hoj hb
          · exact meets_not hb (wI_writes he hne) (wI_writes hej hwj)
      · have e1 : ((((AFS ops.toList es s fun i => listed.getD i false).eff e.r.dels e.r.puts).use (rng (s.nx + 8 * i))).put o.dst e.r.v).used b = ((AFS ops.toList es s fun i => listed.getD i false).used b ∨ rng (s.nx + 8 * i) b) := by cases o.dst <;> rfl
        rw [e1] at hb
        rcases hb with (hb | ⟨j, h1, h2, h3⟩) | hb
        · exact .inl hb
        · exact .inr ⟨j, h1, (hS' j).trans (by rw [show listed.getD j false = true from h2]; rfl), h3⟩
        · exact .inr ⟨i, by rw [Array.length_toList]; exact hin, (hS' i).trans (by simp), hb⟩
    have hfresh : ∀ b, s.nx + 8 * i ≤ b → b < s.nx + 8 * i + 8 → ¬ (AFS ops.toList es s fun i => listed.getD i false).used b := by
      rintro b h1 h2 (h3 | ⟨j, q1, q2, q3, q4⟩)
      · omega
      · have : j = i := by omega
        subst this
        dsimp only at q2
        rw [hSi] at q2
        cases q2
    unfold wpOp
    rw [ho]
    simp only []
    rcases hdo with ⟨hsk, hre⟩ | ⟨hsk, hstep⟩
    · rw [hwant, hsk]
      simp only [Bool.not_true, Bool.false_eq_true, if_false]
      refine hK _ _ (next (F' := F) (m' := m) ?_)
      rw [hre]
      exact (h.use0 (u := rng (s.nx + 8 * i))).put (fun t ht => hfits t ht) (.fz .und)
    · rw [hwant, hsk]
      simp only [Bool.not_false, if_true]
      left
      have hev : ∀ x ∈ o.op.operands, ev (fun t => lastW (wS ops.toList es t) (fun _ => true) i (s.get t)) x = ev (AFS ops.toList es s fun i => listed.getD i false).get x := by
        intro x hx
        cases x with
        | tmp t =>
          refine (seeS t ?_).symm
          simp only [looksB]
          exact List.mem_append.2 (.inl (List.mem_filterMap.2 ⟨.tmp t, by simpa using hx, rfl⟩))
        | _ => rfl
      have hrestr : restr e.rd (fun b => lastW (wI es b) (fun _ => true) i (lk s.st b)) = restr e.rd (AFS ops.toList es s fun i => listed.getD i false).st := by
        funext b
        unfold restr
        split
        · rename_i hc
          exact (seeI b (by simpa using hc)).symm
        · rfl
      have hstep' : StepF P T (AFS ops.toList es s fun i => listed.getD i false).get (restr e.rd (AFS ops.toList es s fun i => listed.getD i false).st) (s.nx + 8 * i) o.op e.r := by
        rw [← hrestr]
        rcases hstep with ⟨fo, xs, ts, f, first, cap, co, h1, h2, h3, h4, h5⟩ | ⟨h1, h2⟩
        · have hx : xs.toList.map (ev (fun t => lastW (wS ops.toList es t) (fun _ => true) i (s.get t))) = xs.toList.map (ev (AFS ops.toList es s fun i => listed.getD i false).get) :=
            List.map_congr_left fun x hx => hev x (by rw [h1]; simp [Op.operands, Call.operands]; exact .inr (by simpa using hx))
          have hfo := hev fo (by rw [h1]; simp [Op.operands, Call.operands])
          refine .inl ⟨fo, xs, ts, f, first, cap, co, h1, by rw [← hfo]; exact h2, h3, ?_, ?_⟩
          · rw [← hx]; exact h4
          · rw [← hx]; exact h5
        · refine .inr ⟨?_, h2⟩
          rw [← h1]
          exact (fstep_congr hev).symm
      exact ent_step hT h (fun b k hb => by unfold restr at hb; split at hb <;> first | exact hb | cases hb) hfits hfresh hstep' fun v w' F' m' hs => hK _ _ (next hs)
  -- all of them
  have cnt : ∀ (listed : Array Bool) (i : Nat), i < ops.size → listed.size = ops.size → listed.getD i false = false → ((List.range ops.size).filter fun j => !(listed.setIfInBounds i true).getD j false).length < ((List.range ops.size).filter fun j => !listed.getD j false).length := by
    intro listed i hi hsz hf
    have e : (fun j => !(listed.setIfInBounds i true).getD j false) = fun j => (!listed.getD j false) && (j != i) := by
      funext j
      rw [getD_set_true listed i j (by omega)]
      cases listed.getD j false <;> simp [bne]
    rw [e, ← List.filter_filter]
    have hm : i ∈ (List.range ops.size).filter fun j => !listed.getD j false := List.mem_filter.2 ⟨List.mem_range.2 hi, by simp [hf]⟩
    have : ((List.range ops.size).filter fun j => j != i).filter (fun j => !listed.getD j false) = ((List.range ops.size).filter fun j => !listed.getD j false).filter (fun j => j != i) := by
      rw [List.filter_filter, List.filter_filter]
      congr 1
      funext j
      exact Bool.and_comm _ _
    rw [this]
    exact List.length_filter_lt_length_iff_exists.2 ⟨i, hm, by simp⟩
  have fin : ∀ (listed : Array Bool) (a : Act) (w : World), (∀ i, i < ops.size → listed.getD i false = true) → Sim B (AFS ops.toList es s fun i => listed.getD i false) a w → Q .normal a w := by
    rintro listed a w hall ⟨F, m, h⟩
    refine hQ a w ⟨F, m, h.congr (fun t => ?_) (fun b => ?_) (fun b hb => ?_) hn'⟩
    · show s'.get t = lastW _ _ _ _
      rw [hget']
      exact lastW_congr fun j hj _ => (hall j (by rwa [Array.length_toList] at hj)).symm
    · show lk s'.st b = lastW _ _ _ _
      rw [hst']
      exact lastW_congr fun j hj _ => (hall j (by rwa [Array.length_toList] at hj)).symm
    · show b < s'.nx
      rw [hnx']
      rcases hb with hb | ⟨j, q1, q2, q3, q4⟩ <;> omega
  have none : ∀ (listed : Array Bool), listed.size = ops.size → Region.ready .any ops listed = [] → ∀ i, i < ops.size → listed.getD i false = true := by
    intro listed hsz hrd i
    induction i using Nat.strongRecOn with
    | _ i ih =>
      intro hi
      cases hf : listed.getD i false with
      | true => rfl
      | false =>
        obtain ⟨o, ho⟩ : ∃ o, ops[i]? = some o := ⟨_, Array.getElem?_eq_getElem hi⟩
        have : i ∈ Region.ready .any ops listed := by
          refine List.mem_filter.2 ⟨List.mem_range.2 hi, ?_⟩
          simp only [Bool.and_eq_true, ho, Option.map_some, Option.getD_some]
          refine ⟨?_, ?_⟩
          · have hin' : i < listed.size := by omega
            simpa [Array.getD_eq_getD_getElem?, Array.getElem?_eq_getElem hin'] using hf
          · rw [Array.all_eq_true_iff_forall_mem]
            intro e he
            cases hb : Region.binds .any e with
            | false => rfl
            | true =>
              have hlt := hedge i o ho e (by simpa using he) hb
              have hon : e.on < ops.size := by omega
              simpa using ih e.on hlt hon
        rw [hrd] at this
        cases this
  induction fuel with
  | zero =>
    intro listed a w hsz hcl hfu hs
    have hall : ∀ i, i < ops.size → listed.getD i false = true := fun i hi => by
      cases hf : listed.getD i false with
      | true => rfl
      | false =>
        have hm : i ∈ (List.range ops.size).filter fun j => !listed.getD j false := List.mem_filter.2 ⟨List.mem_range.2 hi, by simp [hf]⟩
        have := List.length_pos_of_mem hm
        omega
    refine ⟨?_, fin listed a w hall hs⟩
    rw [Region.ready, List.filter_eq_nil_iff]
    intro i hi
    have := hall i (List.mem_range.1 hi)
    have hin' : i < listed.size := by have := List.mem_range.1 hi; omega
    have e : listed.getD i true = true := by simpa [Array.getD_eq_getD_getElem?, Array.getElem?_eq_getElem hin'] using this
    simp [e]
  | succ fuel ih =>
    intro listed a w hsz hcl hfu hs
    refine ⟨fun hrd => fin listed a w (none listed hsz hrd) hs, fun i hi => step listed a w i hsz hi hcl hs _ fun a' w' hs' => ?_⟩
    have hi' := List.mem_filter.1 hi
    have hin : i < ops.size := List.mem_range.1 hi'.1
    obtain ⟨o, ho⟩ : ∃ o, ops[i]? = some o := ⟨_, Array.getElem?_eq_getElem hin⟩
    have hrd := hi'.2
    simp only [Bool.and_eq_true, ho, Option.map_some, Option.getD_some] at hrd
    have hSi : listed.getD i false = false := by
      have := hrd.1
      simp only [Bool.not_eq_true'] at this
      have hin' : i < listed.size := by omega
      simpa [Array.getD_eq_getD_getElem?, Array.getElem?_eq_getElem hin'] using this
    refine ih _ a' w' (by simpa using hsz) (fun k ok hok hk e he hb => ?_) ?_ hs'
    · rw [getD_set_true listed i _ (by omega)] at hk ⊢
      simp only [Bool.or_eq_true, beq_iff_eq] at hk
      rcases hk with hk | rfl
      · rw [hcl k ok hok hk e he hb]; rfl
      · rw [ho] at hok
        cases hok
        have := hrd.2
        rw [Array.all_eq_true_iff_forall_mem] at this
        have := this e (by simpa using he)
        have h2 : listed.getD e.on false = true := by simpa [hb] using this
        rw [h2]; rfl
    · have := cnt listed i hin hsz hSi
      omega

end
end Go.Proofs.YtoifmpiikopelaaFw
