/-
  An abstract walk, part E: operations that read no store: fields, elements, slices, lengths, conversions.
-/
import Derived.Test.YtoifmpiikopelaaFwD
namespace Go.Proofs.YtoifmpiikopelaaFw
open Go
set_option linter.unusedVariables false
set_option linter.unusedSimpArgs false

/-- The size of what a load of type t reads. -/
def TI.n (t : TI) : Nat := if t.isAgg then t.size else 1

def fFieldAddr (T : Tab) (t : TypeId) (x : PV) (f : Nat) : Option R :=
  match (T t).k with
  | .strct fs => match fs[f]? with
    | some (o, ft) => match x with
      | .ptr b off => some { g := (T ft).k ≠ .other ∧ (T ft).size ≠ 0, v := .ptr b (off + o) }
      | .rp b s i off => some { g := (T ft).k ≠ .other ∧ (T ft).size ≠ 0, v := .rp b s i (off + o) }
      | .pf cs => some { g := (T ft).k ≠ .other ∧ (T ft).size ≠ 0, v := .pf (cs.drop o) }
      | _ => none
    | none => none
  | _ => none

def fField (T : Tab) (t : TypeId) (x : PV) (f : Nat) : Option R :=
  match (T t).k, x with
  | .strct fs, .agg cs => match fs[f]? with
    | some (o, ft) => some { g := (T ft).k ≠ .other ∧ o + (T ft).n ≤ cs.length, v := if (T ft).isAgg then .agg ((cs.drop o).take (T ft).size) else cs.getD o .any }
    | none => none
  | _, _ => none

def fIndexAddr (T : Tab) (t : TypeId) (x i : PV) : Option R :=
  match (T t).k, x, i with
  | .arr n e, .ptr b off, .int _ i => some { g := (T e).k ≠ .other ∧ 0 ≤ i ∧ i < n, v := .ptr b (off + i.toNat * (T e).size) }
  | .arr n e, .pf cs, .int _ i => some { g := (T e).k ≠ .other ∧ 0 ≤ i ∧ i < n, v := .pf (cs.drop (i.toNat * (T e).size)) }
  | .slice e, .sl _ s es, .int _ i => some { g := (T e).k ≠ .other ∧ (T e).size = s ∧ 0 < s ∧ 0 ≤ i ∧ i < es.length, v := .pf (es.getD i.toNat []) }
  | .slice e, .own b s off len, .int _ i => some { g := (T e).k ≠ .other ∧ (T e).size = s ∧ 0 ≤ i ∧ i < len, v := .rp b s (off + i.toNat) 0 }
  | .slice e, .ownc b s off len _, .int _ i => some { g := (T e).k ≠ .other ∧ (T e).size = s ∧ 0 ≤ i ∧ i < len, v := .rp b s (off + i.toNat) 0 }
  | _, _, _ => none

def fIndex (T : Tab) (t : TypeId) (x i : PV) : Option R :=
  match (T t).k, x, i with
  | .arr n e, .agg cs, .int _ i => some { g := (T e).k ≠ .other ∧ 0 ≤ i ∧ i < n ∧ i.toNat * (T e).size + (T e).n ≤ cs.length, v := if (T e).isAgg then .agg ((cs.drop (i.toNat * (T e).size)).take (T e).size) else cs.getD (i.toNat * (T e).size) .any }
  | .str, .str s, .int _ i => some { g := 0 ≤ i ∧ i < s.size, v := .int .u8 (s.data.toList.getD i.toNat 0).toNat }
  | _, _, _ => none

def asI : PV → Option Int
  | .int _ n => some n
  | _ => none

def optI (get : Nat → PV) : Option Operand → Option (Option Int)
  | none => some none
  | some x => (asI (ev get x)).map some

/-- x[l:h:m] of slices and strings; h is asked to lie within the length. -/
def fSlice (T : Tab) (t : TypeId) (x : PV) (lo hi mx : Option Int) : Option R :=
  match (T t).k, x with
  | .slice e, .sl _ s es =>
    let l := lo.getD 0
    let h := hi.getD es.length
    let tight := match mx with | some _ => true | none => false
    some { g := (T e).k ≠ .other ∧ (T e).size = s ∧ 0 ≤ l ∧ l ≤ h ∧ h ≤ es.length ∧ (∀ m, mx = some m → m = h ∧ hi.isSome), v := .sl tight s ((es.drop l.toNat).take (h.toNat - l.toNat)) }
  | .slice e, .own b s off len =>
    let l := lo.getD 0
    let h := hi.getD len
    some { g := (T e).k ≠ .other ∧ (T e).size = s ∧ 0 ≤ l ∧ l ≤ h ∧ h ≤ len ∧ (∀ m, mx = some m → m = h ∧ hi.isSome), v := .own b s (off + l.toNat) (h.toNat - l.toNat) }
  | .slice e, .ownc b s off len cap => match lo, hi, mx with
    | none, some h, none => some { g := (T e).k ≠ .other ∧ (T e).size = s ∧ 0 ≤ h ∧ h ≤ cap, v := .ownc b s off h.toNat cap }
    | some l, none, none => some { g := (T e).k ≠ .other ∧ (T e).size = s ∧ 0 ≤ l ∧ l ≤ len, v := .own b s (off + l.toNat) (len - l.toNat) }
    | _, _, _ => none
  | .str, .str s =>
    let l := lo.getD 0
    let h := hi.getD s.size
    some { g := 0 ≤ l ∧ l ≤ h ∧ h ≤ s.size ∧ mx = none, v := .str (s.extract l.toNat h.toNat) }
  | _, _ => none

def fExtract (x : PV) (i : Nat) : Option R :=
  match x with
  | .tup vs => some { g := i < vs.length, v := vs.getD i .any }
  | _ => none

def fNil (x : PV) : Option R :=
  match x with
  | .ptr .. | .rp .. | .pf .. => some { v := x }
  | .fn (.func _) _ _ => some { v := x }
  | _ => none

def fConv (T : Tab) (src dst : TypeId) (x : PV) : Option R :=
  match (T src).k, (T dst).k, x with
  | .int _, .int k, .int _ n => some { v := .int k (k.wrap n) }
  | .str, .str, .str s => some { v := .str s }
  | _, _, _ => none

def fLen (T : Tab) (t : TypeId) (x : PV) : Option R :=
  match (T t).k, x with
  | .slice _, .sl _ _ es => some { v := .int .i64 es.length }
  | .slice _, .own _ _ _ len => some { v := .int .i64 len }
  | .slice _, .ownc _ _ _ len _ => some { v := .int .i64 len }
  | .slice _, .val .nils => some { v := .int .i64 0 }
  | .str, .str s => some { v := .int .i64 s.size }
  | .arr n _, _ => some { v := .int .i64 n }
  | _, _ => none

/-- The capacity, where it is known. -/
def fCap (T : Tab) (t : TypeId) (x : PV) : Option R :=
  match (T t).k, x with
  | .slice _, .ownc _ _ _ _ cap => some { v := .int .i64 cap }
  | .slice _, .sl true _ es => some { v := .int .i64 es.length }
  | .slice _, .val .nils => some { v := .int .i64 0 }
  | _, _ => none

def fMax (big : Bool) (xs : List PV) : Option R :=
  match xs with
  | [.int k a, .int _ b] => some { v := .int k (if big then max a b else min a b) }
  | [.int k a, .int _ b, .int _ c] => some { v := .int k (if big then max (max a b) c else min (min a b) c) }
  | _ => none

section
variable {P : Program} {F : Nat → Prop} {w : World} {m : Ids} {T : Tab}

theorem und_of (hT : TabOk P T) {t : TypeId} {k : TK} (h : (T t).k = k) (hk : k ≠ .other) : ∃ d, P.underlying t = some d ∧ descOf d = k := by
  have := (hT t (by rw [h]; exact hk)).und
  rw [h] at this
  exact this

theorem und_slice (hT : TabOk P T) {t e : TypeId} (h : (T t).k = .slice e) : P.underlying t = some (.slice e) := by
  obtain ⟨d, h1, h2⟩ := und_of hT h (by simp)
  cases d <;> simp [descOf] at h2
  subst h2; exact h1

theorem und_arr (hT : TabOk P T) {t e : TypeId} {n : Nat} (h : (T t).k = .arr n e) : P.underlying t = some (.array n e) := by
  obtain ⟨d, h1, h2⟩ := und_of hT h (by simp)
  cases d <;> simp [descOf] at h2
  obtain ⟨rfl, rfl⟩ := h2; exact h1

theorem und_str (hT : TabOk P T) {t : TypeId} (h : (T t).k = .str) : P.underlying t = some .string := by
  obtain ⟨d, h1, h2⟩ := und_of hT h (by simp)
  cases d <;> simp [descOf] at h2
  exact h1

theorem und_int (hT : TabOk P T) {t : TypeId} {k : IntKind} (h : (T t).k = .int k) : P.underlying t = some (.int k) := by
  obtain ⟨d, h1, h2⟩ := und_of hT h (by simp)
  cases d <;> simp [descOf] at h2
  subst h2; exact h1

theorem und_strct (hT : TabOk P T) {t : TypeId} {fs : List (Nat × TypeId)} (h : (T t).k = .strct fs) : ∃ f : Array Field, P.underlying t = some (.struct f) ∧ f.toList.map (fun x => (x.offset, x.type)) = fs := by
  obtain ⟨d, h1, h2⟩ := und_of hT h (by simp)
  cases d <;> simp [descOf] at h2
  exact ⟨_, h1, h2⟩

theorem run_sizeOf (hT : TabOk P T) {t : TypeId} (h : (T t).k ≠ .other) (w : World) : (sizeOf t).run P w = .ok (T t).size w := by
  obtain ⟨i, z, hi, hs, _⟩ := (hT t h).info
  simp [sizeOf, typeInfo, hi, hs]

theorem run_isAgg (hT : TabOk P T) {t : TypeId} (h : (T t).k ≠ .other) (w : World) : (isAgg t).run P w = .ok (T t).isAgg w := by
  obtain ⟨d, h1, h2⟩ := (hT t h).und
  unfold TI.isAgg
  simp only [isAgg, Sem.run_bind, run_underlying h1, Result.andThen_ok]
  rw [← h2]
  clear h1 h2
  cases d <;> rfl

theorem add_none (b o n : Nat) : (⟨b, o, none⟩ : Addr).add n = ⟨b, o + n, none⟩ := by
  unfold Addr.add; split <;> simp_all

theorem fFieldAddr_ok (hT : TabOk P T) {t : TypeId} {x : PV} {f : Nat} {r : R} (h : fFieldAddr T t x f = some r) (hg : r.g) {vx : Value} (hx : Rep F w m x vx) :
    ∃ v, (Instr.fieldAt t vx f).run P w = .ok v w ∧ Rep F w m r.v v ∧ r.dels = [] ∧ r.puts = [] := by
  unfold fFieldAddr at h
  split at h
  · rename_i fs hk
    obtain ⟨fa, hu, hfs⟩ := und_strct hT hk
    split at h
    · rename_i o ft hf
      have hfa : ∃ fd, fa[f]? = some fd ∧ fd.offset = o ∧ fd.type = ft := by
        rw [← hfs, List.getElem?_map] at hf
        cases hq : fa[f]? with
        | none => simp [hq] at hf
        | some fd => simp [hq] at hf; exact ⟨fd, rfl, hf.1, hf.2⟩
      obtain ⟨fd, hq, rfl, rfl⟩ := hfa
      have place : ∀ b o : Nat, (T fd.type).k ≠ .other → (T fd.type).size ≠ 0 → (Instr.fieldAt t (.pointer (some ⟨b, o, none⟩)) f).run P w = .ok (.pointer (some ⟨b, o + fd.offset, none⟩)) w := by
        intro b o h1 h2
        simp [Instr.fieldAt, run_underlying hu, hq, Instr.sureAddr, fieldPlace, run_sizeOf hT h1, h2, add_none]
      split at h
      · cases h
        obtain ⟨h1, h2⟩ := hg
        rename_i b off
        cases hx with
        | fz hx => cases hx
        | ptr _ _ a hb hp =>
          exact ⟨_, place _ _ h1 h2, by have := Rep.ptr (F := F) (w := w) (m := m) b (off + fd.offset) a hb hp; rwa [← Nat.add_assoc] at this, rfl, rfl⟩
      · cases h
        obtain ⟨h1, h2⟩ := hg
        rename_i b s i off
        cases hx with
        | fz hx => cases hx
        | rp _ _ _ _ a hb hp =>
          exact ⟨_, place _ _ h1 h2, by have := Rep.rp (F := F) (w := w) (m := m) b s i (off + fd.offset) a hb hp; rwa [← Nat.add_assoc] at this, rfl, rfl⟩
      · cases h
        obtain ⟨h1, h2⟩ := hg
        have hx := hx.pf_inv
        cases hx with
        | pf cs b o val hF hm hc =>
          refine ⟨_, place _ _ h1 h2, .fz (.pf _ b (o + fd.offset) (fun j => val (fd.offset + j)) hF (fun j hj => ?_) fun j c hc' => ?_), rfl, rfl⟩
          · rw [Nat.add_assoc]; exact hm _ (by simp at hj; omega)
          · rw [List.getElem?_drop] at hc'; exact hc _ c hc'
      · cases h
    · cases h
  · cases h

theorem run_part (hT : TabOk P T) {t : TypeId} (h : (T t).k ≠ .other) {vs : Array Value} {cs : List PV} (hr : RepL F w m cs vs.toList) {o : Nat} (ho : o + (T t).n ≤ cs.length) :
    ∃ v, (part t vs o).run P w = .ok v w ∧ Rep F w m (if (T t).isAgg then .agg ((cs.drop o).take (T t).size) else cs.getD o .any) v := by
  unfold TI.n at ho
  by_cases ha : (T t).isAgg = true
  · simp only [ha, if_true] at ho ⊢
    refine ⟨.agg (vs.extract o (o + (T t).size)), by simp [part, run_isAgg hT h, ha, run_sizeOf hT h], ?_⟩
    have := (hr.sub o (T t).size).toAgg
    have e : ((vs.toList.drop o).take (T t).size).toArray = vs.extract o (o + (T t).size) := by
      apply Array.ext'
      simp [List.extract_eq_take_drop]
    rwa [e] at this
  · simp only [ha, if_false, Bool.false_eq_true] at ho ⊢
    obtain ⟨v, hv, h1, h2⟩ := hr.get (i := o) (by omega)
    have hv' : vs[o]? = some v := by simpa using hv
    exact ⟨v, by simp [part, run_isAgg hT h, ha, hv'], h2⟩

theorem agg_repL {cs : List PV} {vs : Array Value} (h1 : vs.size = cs.length) (h2 : ∀ (i : Nat) (v : Value), vs[i]? = some v → v.oneCell' = true)
    (h3 : ∀ (i : Nat) (c : PV) (v : Value), cs[i]? = some c → vs[i]? = some v → Rep F w m c v) : RepL F w m cs vs.toList :=
  ⟨by simpa using h1, fun i c v hc hv => ⟨h2 i v (by simpa using hv), h3 i c v hc (by simpa using hv)⟩⟩

theorem fField_ok (hT : TabOk P T) {t : TypeId} {x : PV} {f : Nat} {r : R} (h : fField T t x f = some r) (hg : r.g) {vx : Value} (hx : Rep F w m x vx) :
    ∃ v, (Instr.field t vx f).run P w = .ok v w ∧ Rep F w m r.v v ∧ r.dels = [] ∧ r.puts = [] := by
  unfold fField at h
  split at h
  · rename_i fs cs hk
    obtain ⟨fa, hu, hfs⟩ := und_strct hT hk
    split at h
    · rename_i o ft hf
      have hfa : ∃ fd, fa[f]? = some fd ∧ fd.offset = o ∧ fd.type = ft := by
        rw [← hfs, List.getElem?_map] at hf
        cases hq : fa[f]? with
        | none => simp [hq] at hf
        | some fd => simp [hq] at hf; exact ⟨fd, rfl, hf.1, hf.2⟩
      obtain ⟨fd, hq, rfl, rfl⟩ := hfa
      cases h
      obtain ⟨h1, h2⟩ := hg
      obtain ⟨vs, rfl, h3, h4, h5⟩ := hx.agg_inv
      obtain ⟨v, hv, hr⟩ := run_part hT h1 (agg_repL h3 h4 h5) h2
      exact ⟨v, by simp [Instr.field, run_underlying hu, hq, asAgg, hv], hr, rfl, rfl⟩
    · cases h
  · cases h

theorem fIndexAddr_ok (hT : TabOk P T) {t : TypeId} {x i : PV} {r : R} (h : fIndexAddr T t x i = some r) (hg : r.g) {vx vi : Value} (hx : Rep F w m x vx) (hi : Rep F w m i vi) :
    ∃ v, (Instr.indexAt t vx vi).run P w = .ok v w ∧ Rep F w m r.v v ∧ r.dels = [] ∧ r.puts = [] := by
  unfold fIndexAddr at h
  split at h
  · rename_i n e b off k i hk
    have hu := und_arr hT hk
    cases h
    obtain ⟨h1, h2, h3⟩ := hg
    have := hi.int_inv; subst this
    cases hx with
    | fz hx => cases hx
    | ptr _ _ a hb hp =>
      refine ⟨_, by simp [Instr.indexAt, asIntOf, run_underlying hu, Instr.sureAddr, h2, h3, run_sizeOf hT h1, add_none]; rfl, ?_, rfl, rfl⟩
      have := Rep.ptr (F := F) (w := w) (m := m) b (off + i.toNat * (T e).size) a hb hp
      rwa [← Nat.add_assoc] at this
  · rename_i n e cs k i hk
    have hu := und_arr hT hk
    cases h
    obtain ⟨h1, h2, h3⟩ := hg
    have := hi.int_inv; subst this
    have hx := hx.pf_inv
    cases hx with
    | pf cs b o val hF hm hc =>
      refine ⟨_, by simp [Instr.indexAt, asIntOf, run_underlying hu, Instr.sureAddr, h2, h3, run_sizeOf hT h1, add_none] , .fz (.pf _ b (o + i.toNat * (T e).size) (fun j => val (i.toNat * (T e).size + j)) hF (fun j hj => ?_) fun j c hc' => ?_), rfl, rfl⟩
      · rw [Nat.add_assoc]; exact hm _ (by simp at hj; omega)
      · rw [List.getElem?_drop] at hc'; exact hc _ c hc'
  · rename_i e tt s es k i hk
    have hu := und_slice hT hk
    cases h
    obtain ⟨h1, hs0, hsp, h2, h3⟩ := hg
    have := hi.int_inv; subst this
    have hx := hx.sl_inv
    cases hx with
    | sl _ _ _ a cap val hl ht hs hb hm hc =>
      have hi' : i.toNat < es.length := by omega
      obtain ⟨b, o, rfl, hF, hcell, ho⟩ := hm i.toNat 0 hi' hsp
      have el : (es.getD i.toNat []).length = s := by
        simp only [List.getD, List.getElem?_eq_getElem hi', Option.getD_some]
        exact hs _ (List.getElem_mem hi')
      refine ⟨_, by simp [Instr.indexAt, asIntOf, run_underlying hu, h2, h3, run_sizeOf hT h1, add_none, hs0] , .fz (.pf _ b (o + i.toNat * s) (fun j => val i.toNat j) hF (fun j hj => ?_) fun j c hc' => ?_), rfl, rfl⟩
      · rw [el] at hj
        obtain ⟨b', o', e', _, h5, h6⟩ := hm i.toNat j hi' hj
        cases e'
        exact ⟨h5, h6⟩
      · simp only [List.getD, List.getElem?_eq_getElem hi', Option.getD_some] at hc'
        exact hc i.toNat j _ c (List.getElem?_eq_getElem hi') hc'
  · rename_i e b s off len k i hk
    have hu := und_slice hT hk
    cases h
    obtain ⟨h1, hs0, h2, h3⟩ := hg
    have := hi.int_inv; subst this
    cases hx with
    | fz hx => cases hx
    | own _ _ _ _ cap a' hl hb hc =>
      obtain ⟨a, c, e', fr, h4, h5, rfl, _, _⟩ := hc (by omega)
      refine ⟨_, by simp [Instr.indexAt, asIntOf, run_underlying hu, h2, h3, run_sizeOf hT h1, add_none, hs0]; rfl, ?_, rfl, rfl⟩
      have := Rep.rp (F := F) (w := w) (m := m) b s (off + i.toNat) 0 a h4 h5
      simp only [Nat.add_zero, Nat.add_mul, ← Nat.add_assoc] at this
      exact this
  · rename_i e b s off len cap k i hk
    have hu := und_slice hT hk
    cases h
    obtain ⟨h1, hs0, h2, h3⟩ := hg
    have := hi.int_inv; subst this
    obtain ⟨a', rfl, hl, hb, hc⟩ := hx.ownc_inv
    obtain ⟨a, c, e', fr, h4, h5, rfl, _, _⟩ := hc (by omega)
    refine ⟨_, by simp [Instr.indexAt, asIntOf, run_underlying hu, h2, h3, run_sizeOf hT h1, add_none, hs0]; rfl, ?_, rfl, rfl⟩
    have := Rep.rp (F := F) (w := w) (m := m) b s (off + i.toNat) 0 a h4 h5
    simp only [Nat.add_zero, Nat.add_mul, ← Nat.add_assoc] at this
    exact this
  · cases h

theorem fIndex_ok (hT : TabOk P T) {t : TypeId} {x i : PV} {r : R} (h : fIndex T t x i = some r) (hg : r.g) {vx vi : Value} (hx : Rep F w m x vx) (hi : Rep F w m i vi) :
    ∃ v, (Instr.index t vx vi).run P w = .ok v w ∧ Rep F w m r.v v ∧ r.dels = [] ∧ r.puts = [] := by
  unfold fIndex at h
  split at h
  · rename_i n e cs k i hk
    have hu := und_arr hT hk
    cases h
    obtain ⟨h1, h2, h3, h4⟩ := hg
    have := hi.int_inv; subst this
    obtain ⟨vs, rfl, h5, h6, h7⟩ := hx.agg_inv
    obtain ⟨v, hv, hr⟩ := run_part hT h1 (agg_repL h5 h6 h7) h4
    exact ⟨v, by simp [Instr.index, asIntOf, run_underlying hu, h2, h3, run_sizeOf hT h1, hv], hr, rfl, rfl⟩
  · rename_i s k i hk
    have hu := und_str hT hk
    cases h
    obtain ⟨h2, h3⟩ := hg
    have := hi.int_inv; subst this
    have := hx.str_inv; subst this
    have hlt : i.toNat < s.size := by omega
    have e : s[i.toNat]? = some s[i.toNat] := by simp [hlt]
    have e2 : s.data.toList.getD i.toNat 0 = s[i.toNat] := by
      simp only [List.getD, Array.getElem?_toList]
      have : s.data[i.toNat]? = some s[i.toNat] := by
        rw [Array.getElem?_eq_getElem (show i.toNat < s.data.size from hlt)]; rfl
      rw [this]; rfl
    refine ⟨.int .u8 s[i.toNat].toNat, by simp [Instr.index, asIntOf, run_underlying hu, h2, hlt], ?_, rfl, rfl⟩
    dsimp only
    rw [e2]
    exact .fz (.int _ _)
  · cases h

theorem fExtract_ok {x : PV} {i : Nat} {r : R} (h : fExtract x i = some r) (hg : r.g) {vx : Value} (hx : Rep F w m x vx) :
    ∃ v, (Instr.extract vx i).run P w = .ok v w ∧ Rep F w m r.v v ∧ r.dels = [] ∧ r.puts = [] := by
  unfold fExtract at h
  split at h
  · rename_i vs
    cases h
    obtain ⟨us, rfl, h1, h2⟩ := hx.tup_inv
    dsimp only at hg
    have hi : i < us.size := by omega
    refine ⟨us[i], by simp [Instr.extract, hi], ?_, rfl, rfl⟩
    have := h2 i vs[i] us[i] (List.getElem?_eq_getElem hg) (Array.getElem?_eq_getElem hi)
    simpa [List.getD, List.getElem?_eq_getElem hg] using this
  · cases h

theorem fConv_ok (hT : TabOk P T) {src dst : TypeId} {x : PV} {r : R} (h : fConv T src dst x = some r) {vx : Value} (hx : Rep F w m x vx) :
    ∃ v, (convert src dst vx).run P w = .ok v w ∧ Rep F w m r.v v ∧ r.dels = [] ∧ r.puts = [] := by
  unfold fConv at h
  split at h
  · rename_i k0 k k1 n h1 h2
    cases h
    have := hx.int_inv; subst this
    exact ⟨_, by simp [convert, run_underlying (und_int hT h1), run_underlying (und_int hT h2), Conv.intToInt], .fz (.int _ _), rfl, rfl⟩
  · rename_i s h1 h2
    cases h
    have := hx.str_inv; subst this
    exact ⟨_, by simp [convert, run_underlying (und_str hT h1), run_underlying (und_str hT h2)], .fz (.str _), rfl, rfl⟩
  · cases h

theorem fLen_ok (hT : TabOk P T) {t : TypeId} {x : PV} {r : R} (h : fLen T t x = some r) {vx : Value} (hx : Rep F w m x vx) (ty : TypeId) (ts : Array TypeId) (hts : ts[0]? = some t) :
    ∃ v, (Builtin.len_ ts ty #[vx]).run P w = .ok v w ∧ Rep F w m r.v v ∧ r.dels = [] ∧ r.puts = [] := by
  unfold fLen at h
  split at h
  · rename_i e tt s es hk
    cases h
    have hx := hx.sl_inv
    cases hx with
    | sl _ _ _ a cap val hl ht hs hb hm hc => exact ⟨_, by simp [Builtin.len_, hts, run_underlying (und_slice hT hk), goInt] , .fz (.int _ _), rfl, rfl⟩
  · rename_i e b s off len hk
    cases h
    cases hx with
    | fz hx => cases hx
    | own _ _ _ _ cap a' hl hb hc => exact ⟨_, by simp [Builtin.len_, hts, run_underlying (und_slice hT hk), goInt] , .fz (.int _ _), rfl, rfl⟩
  · rename_i e b s off len cap hk
    cases h
    obtain ⟨a', rfl, hl, hb, hc⟩ := hx.ownc_inv
    exact ⟨_, by simp [Builtin.len_, hts, run_underlying (und_slice hT hk), goInt], .fz (.int _ _), rfl, rfl⟩
  · rename_i e hk
    cases h
    have := hx.val_inv
    cases this
    exact ⟨_, by simp [Builtin.len_, hts, run_underlying (und_slice hT hk), goInt], .fz (.int _ _), rfl, rfl⟩
  · rename_i s hk
    cases h
    have := hx.str_inv; subst this
    exact ⟨_, by simp [Builtin.len_, hts, run_underlying (und_str hT hk), goInt] , .fz (.int _ _), rfl, rfl⟩
  · rename_i n e hk
    cases h
    exact ⟨.int .i64 n, by cases vx <;> simp [Builtin.len_, hts, run_underlying (und_arr hT hk), goInt], .fz (.int _ _), rfl, rfl⟩
  · cases h

theorem fCap_ok (hT : TabOk P T) {t : TypeId} {x : PV} {r : R} (h : fCap T t x = some r) {vx : Value} (hx : Rep F w m x vx) (ty : TypeId) (ts : Array TypeId) (hts : ts[0]? = some t) :
    ∃ v, (Builtin.cap_ ts ty #[vx]).run P w = .ok v w ∧ Rep F w m r.v v ∧ r.dels = [] ∧ r.puts = [] := by
  unfold fCap at h
  split at h
  · rename_i e b s off len cap hk
    cases h
    obtain ⟨a', rfl, hl, hb, hc⟩ := hx.ownc_inv
    exact ⟨_, by simp [Builtin.cap_, hts, run_underlying (und_slice hT hk), goInt], .fz (.int _ _), rfl, rfl⟩
  · rename_i e s es hk
    cases h
    have := hx.sl_inv
    cases this with
    | sl _ _ _ ao cap val hl ht _ _ _ _ =>
      have hc := ht rfl
      subst hc
      exact ⟨_, by simp [Builtin.cap_, hts, run_underlying (und_slice hT hk), goInt], .fz (.int _ _), rfl, rfl⟩
  · rename_i e hk
    cases h
    have := hx.val_inv
    cases this
    exact ⟨_, by simp [Builtin.cap_, hts, run_underlying (und_slice hT hk), goInt], .fz (.int _ _), rfl, rfl⟩
  · cases h

theorem max_if (a b : Int) : (if b > a then b else a) = max a b := by rw [Int.max_def]; split <;> split <;> omega
theorem min_if (a b : Int) : (if b < a then b else a) = min a b := by rw [Int.min_def]; split <;> split <;> omega

theorem fMax_ok {big : Bool} {xs : List PV} {r : R} (h : fMax big xs = some r) {vs : List Value} (hl : vs.length = xs.length) (hx : ∀ (i : Nat) (c : PV) (v : Value), xs[i]? = some c → vs[i]? = some v → Rep F w m c v) (ts : Array TypeId) (ty : TypeId) :
    ∃ v, (if big then Builtin.max_ ts ty vs.toArray else Builtin.min_ ts ty vs.toArray).run P w = .ok v w ∧ Rep F w m r.v v ∧ r.dels = [] ∧ r.puts = [] := by
  unfold fMax at h
  split at h
  · rename_i k a k' b
    cases h
    obtain ⟨v1, v2, rfl⟩ : ∃ v1 v2, vs = [v1, v2] := by
      match vs, hl with
      | [v1, v2], _ => exact ⟨v1, v2, rfl⟩
    have h1 := (hx 0 _ v1 rfl rfl).int_inv
    have h2 := (hx 1 _ v2 rfl rfl).int_inv
    subst h1 h2
    cases big
    · exact ⟨_, by simp [Builtin.min_, Builtin.min2]; rfl, by rw [min_if]; exact .fz (.int _ _), rfl, rfl⟩
    · exact ⟨_, by simp [Builtin.max_, Builtin.max2]; rfl, by rw [← max_if]; exact .fz (.int _ _), rfl, rfl⟩
  · rename_i k a k' b k'' c
    cases h
    obtain ⟨v1, v2, v3, rfl⟩ : ∃ v1 v2 v3, vs = [v1, v2, v3] := by
      match vs, hl with
      | [v1, v2, v3], _ => exact ⟨v1, v2, v3, rfl⟩
    have h1 := (hx 0 _ v1 rfl rfl).int_inv
    have h2 := (hx 1 _ v2 rfl rfl).int_inv
    have h3 := (hx 2 _ v3 rfl rfl).int_inv
    subst h1 h2 h3
    cases big
    · exact ⟨_, by simp [Builtin.min_, Builtin.min2]; rfl, by simp only [min_if]; exact .fz (.int _ _), rfl, rfl⟩
    · exact ⟨_, by simp [Builtin.max_, Builtin.max2]; rfl, by simp only [← max_if]; exact .fz (.int _ _), rfl, rfl⟩
  · cases h

end
end Go.Proofs.YtoifmpiikopelaaFw
