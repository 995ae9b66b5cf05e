/-
  An abstract walk, part G: operations that read or change the store.
-/
import Derived.Test.YtoifmpiikopelaaFwF
namespace Go.Proofs.YtoifmpiikopelaaFw
open Go
set_option linter.unusedVariables false
set_option linter.unusedSimpArgs false

abbrev St := Nat → Option Blk

/-- What a load of type t makes of cells, from a place on. -/
def outP (T : Tab) (t : TypeId) (cs : List PV) (off : Nat) : PV := if (T t).isAgg then .agg ((cs.drop off).take (T t).size) else cs.getD off .any

def fLoad (T : Tab) (st : St) (t : TypeId) (x : PV) : Option R :=
  match x with
  | .ptr b off => match st b with
    | some (.box cs) => some { g := (T t).k ≠ .other ∧ off + (T t).n ≤ cs.length, v := outP T t cs off }
    | _ => none
  | .rp b s i off => match st b with
    | some (.row s' es) => some { g := (T t).k ≠ .other ∧ s' = s ∧ i < es.length ∧ off + (T t).n ≤ s, v := outP T t (es.getD i []) off }
    | _ => none
  | .pf cs => some { g := (T t).k ≠ .other ∧ 0 + (T t).n ≤ cs.length, v := outP T t cs 0 }
  | _ => none

def fStore (T : Tab) (st : St) (t : TypeId) (x v : PV) : Option R :=
  match x with
  | .ptr b off => match st b with
    | some (.box cs) => some { g := (T t).k ≠ .other ∧ v.celled = true ∧ v.cells.length = (T t).size ∧ off + (T t).size ≤ cs.length, v := .und, puts := [(b, .box (splice cs off v.cells))] }
    | _ => none
  | .rp b s i off => match st b with
    | some (.row s' es) => some { g := (T t).k ≠ .other ∧ v.celled = true ∧ v.cells.length = (T t).size ∧ s' = s ∧ i < es.length ∧ off + (T t).size ≤ s, v := .und, puts := [(b, .row s' (es.set i (splice (es.getD i []) off v.cells)))] }
    | _ => none
  | _ => none

def fAlloc (T : Tab) (c : Nat) (t : TypeId) : Option R :=
  some { g := (T t).k ≠ .other, v := .ptr c 0, puts := [(c, .box (T t).zero)] }

def fBox (c : Nat) (v : PV) : Option R :=
  some { g := v.celled = true, v := .ptr c 0, puts := [(c, .box v.cells)] }

/-- Parts put into cells. -/
def fFill (place : Nat → Option (Nat × Nat)) (cells : List PV) : List (Nat × PV) → Option (List PV × Prop)
  | [] => some (cells, True)
  | (i, v) :: rest =>
    match place i with
    | none => none
    | some (off, size) =>
      match fFill place (splice cells off v.cells) rest with
      | none => none
      | some (out, g) => some (out, v.celled = true ∧ v.cells.length = size ∧ off + size ≤ cells.length ∧ g)

def fBuild (T : Tab) (t : TypeId) (parts : List (Nat × PV)) : Option R :=
  match (T t).k with
  | .strct fs => match fFill (fun i => (fs[i]?).map fun (f : Nat × TypeId) => (f.1, (T f.2).size)) (T t).zero parts with
    | some (cs, g) => some { g := g ∧ (∀ f ∈ fs, (T f.2).k ≠ .other), v := .agg cs }
    | none => none
  | .arr _ e => match fFill (fun i => some (i * (T e).size, (T e).size)) (T t).zero parts with
    | some (cs, g) => some { g := g ∧ (T e).k ≠ .other, v := .agg cs }
    | none => none
  | _ => none

/-- A list cut into pieces of length s. -/
def chunks (s : Nat) : Nat → List PV → List (List PV)
  | 0, _ => []
  | n + 1, l => l.take s :: chunks s n (l.drop s)

def zeroRow (z : List PV) : Nat → List PV
  | 0 => []
  | n + 1 => z ++ zeroRow z n

def fBuildSlice (T : Tab) (c : Nat) (t : TypeId) (n : Nat) (parts : List (Nat × PV)) : Option R :=
  match (T t).k with
  | .slice e => match fFill (fun i => some (i * (T e).size, (T e).size)) (zeroRow (T e).zero n) parts with
    | some (cs, g) => some { g := g ∧ (T e).k ≠ .other ∧ 0 < (T e).size ∧ n * (T e).size ≤ 2 ^ 24, v := .own c (T e).size 0 n, puts := [(c, .row (T e).size (chunks (T e).size n cs))] }
    | none => none
  | _ => none

def fMake (T : Tab) (c : Nat) (t : TypeId) (len cap : PV) : Option R :=
  match (T t).k, len, cap with
  | .slice e, .int .i64 n, .int .i64 k => some { g := (T e).k ≠ .other ∧ 0 < (T e).size ∧ 0 ≤ n ∧ n ≤ k ∧ k * (T e).bytes ≤ 2 ^ 47 ∧ k ≤ 2 ^ 47, v := .own c (T e).size 0 n.toNat, puts := [(c, .row (T e).size (List.replicate n.toNat (T e).zero))] }
  | _, _, _ => none

/-- A row of a capacity that stays known. -/
def fMakeC (T : Tab) (c : Nat) (t : TypeId) (len cap : PV) : Option R :=
  match (T t).k, len, cap with
  | .slice e, .int .i64 n, .int .i64 k => some { g := (T e).k ≠ .other ∧ 0 < (T e).size ∧ 0 ≤ n ∧ n ≤ k ∧ k * (T e).bytes ≤ 2 ^ 47 ∧ k ≤ 2 ^ 47, v := .ownc c (T e).size 0 n.toNat k.toNat, puts := [(c, .row (T e).size (List.replicate k.toNat (T e).zero))] }
  | _, _, _ => none
def isC64 : Operand → Operand → Bool
  | .tmp _, .const (.int _ n) => n == 64
  | _, _ => false

section
variable {P : Program} {B : Base} {A : AF} {a : Act} {w : World} {F : Nat → Prop} {m : Ids} {T : Tab}

/-- A box's cells, as a list. -/
theorem box_cells {b : Nat} {x : Addr} {cs : List PV} (h : BlkOk F w m (some x) (.box cs)) : ∃ vs e, x = ⟨x.block, 0, none⟩ ∧ w.heap[x.block]? = some (Obj.cells vs e (0, 0)) ∧ RepL F w m cs vs.toList := by
  obtain ⟨b, vs, e, hx, h1, h2, h3⟩ := h
  cases hx
  exact ⟨vs, e, rfl, h1, by simpa using h2, fun i c v hc hv => h3 i c v hc (by simpa using hv)⟩

theorem cell_of {b o : Nat} {vs : Array Value} {e : TypeId} {fr : Nat × Nat} (h : w.heap[b]? = some (Obj.cells vs e fr)) : w.cell? ⟨b, o, none⟩ = vs[o]? := by
  simp [World.cell?, h]

/-- A load, of cells that are known. -/
theorem run_load_cells (hT : TabOk P T) {t : TypeId} (hk : (T t).k ≠ .other) {b o : Nat} {cs : List PV} {vs : List Value} (hr : RepL F w m cs vs) (hc : ∀ (j : Nat) (v : Value), vs[j]? = some v → w.cell? ⟨b, o + j, none⟩ = some v)
    {off : Nat} (hl : off + (T t).n ≤ cs.length) :
    ∃ v, (Instr.loadAt t (.pointer (some ⟨b, o + off, none⟩))).run P w = .ok v w ∧ Rep F w m (outP T t cs off) v := by
  unfold TI.n at hl
  unfold outP
  by_cases ha : (T t).isAgg = true
  · simp only [ha, if_true] at hl ⊢
    have hlen : ((vs.drop off).take (T t).size).length = (T t).size := by simp [hr.1]; omega
    have := run_loadCells_list (P := P) w ⟨b, o + off, none⟩ ((vs.drop off).take (T t).size) (fun j v hj => by
      rw [List.getElem?_take] at hj
      split at hj
      · rw [List.getElem?_drop] at hj
        rw [add_none, Nat.add_assoc]
        exact hc _ v hj
      · cases hj)
    rw [hlen] at this
    exact ⟨_, by simp [Instr.loadAt, Instr.sureAddr, loadVar, run_isAgg hT hk, ha, run_sizeOf hT hk, this], (hr.sub off (T t).size).toAgg⟩
  · simp only [ha, if_false, Bool.false_eq_true] at hl ⊢
    obtain ⟨v, hv, h1, h2⟩ := hr.get (i := off) (by omega)
    exact ⟨v, by simp [Instr.loadAt, Instr.sureAddr, loadVar, run_isAgg hT hk, ha, hc off v hv], h2⟩

theorem rf_repL {cs : List PV} {val : Nat → Value} (h1 : ∀ j, j < cs.length → (val j).oneCell' = true) (h2 : ∀ (j : Nat) (c : PV), cs[j]? = some c → RF F w c (val j)) : RepL F w m cs ((List.range cs.length).map val) := by
  refine ⟨by simp, fun i c v hc hv => ?_⟩
  have hi : i < cs.length := (List.getElem?_eq_some_iff.1 hc).1
  simp [hi] at hv
  subst hv
  exact ⟨h1 i hi, .fz (h2 i c hc)⟩

/-- A row's element, as cells. -/
theorem row_elem {x : Addr} {s i : Nat} {es : List (List PV)} (h : BlkOk F w m (some x) (.row s es)) (hi : i < es.length) :
    ∃ vs e fr, x.spot = none ∧ w.heap[x.block]? = some (Obj.cells vs e fr) ∧ frOk vs.size fr ∧ (es.getD i []).length = s ∧ x.off + es.length * s ≤ vs.size ∧ RepL F w m (es.getD i []) ((vs.toList.drop (x.off + i * s)).take s) := by
  obtain ⟨h1, hl, ⟨h2, _⟩ | ⟨b, o, vs, e, fr, hx, h3, hfr, h4, h5⟩⟩ := h
  · cases h2
  · cases hx
    have eg : es.getD i [] = es[i] := by simp [List.getD, List.getElem?_eq_getElem hi]
    have el : (es.getD i []).length = s := by rw [eg]; exact h1 _ (List.getElem_mem hi)
    have hle : i * s + s ≤ es.length * s := by rw [← Nat.succ_mul]; exact Nat.mul_le_mul_right _ hi
    refine ⟨vs, e, fr, rfl, h3, hfr, el, h4, ⟨by rw [el, List.length_take, List.length_drop, Array.length_toList]; exact Nat.min_eq_left (by have := h4; dsimp only; omega), fun j c v hc hv => ?_⟩⟩
    rw [eg] at hc
    have hj : j < s := by rw [← el, eg]; exact (List.getElem?_eq_some_iff.1 hc).1
    obtain ⟨u, hu, h6, h7⟩ := h5 i j _ c (List.getElem?_eq_getElem hi) hc
    rw [List.getElem?_take, if_pos hj, List.getElem?_drop] at hv
    have : vs[o + i * s + j]? = some v := by simpa using hv
    rw [hu] at this
    cases this
    exact ⟨h6, h7⟩

theorem fLoad_ok (hT : TabOk P T) (h : SimW B A a w F m) {st : St} (hst : ∀ b k, st b = some k → A.st b = some k) {t : TypeId} {x : PV} {r : R} (hr : fLoad T st t x = some r) (hg : r.g) {vx : Value} (hx : Rep F w m x vx) :
    ∃ v, (Instr.loadAt t vx).run P w = .ok v w ∧ Rep F w m r.v v ∧ r.dels = [] ∧ r.puts = [] := by
  unfold fLoad at hr
  split at hr
  · rename_i b off
    split at hr
    · rename_i cs hb
      cases hr
      obtain ⟨h1, h2⟩ := hg
      obtain ⟨ao, h3, h4⟩ := h.blk b _ (hst b _ hb)
      cases hx with
      | fz hx => cases hx
      | ptr _ _ x hmb hp =>
        rw [hmb] at h3
        cases h3
        obtain ⟨vs, e, hxe, h5, h6⟩ := box_cells (b := b) h4
        have ho : x.off = 0 := by rw [hxe]
        obtain ⟨v, hv, hrv⟩ := run_load_cells hT h1 (b := x.block) (o := x.off) h6 (fun j v hj => by rw [cell_of h5, ho]; simpa using hj) h2
        exact ⟨v, hv, hrv, rfl, rfl⟩
    · cases hr
  · rename_i b s i off
    split at hr
    · rename_i s' es hb
      cases hr
      obtain ⟨h1, rfl, hi, h2⟩ := hg
      obtain ⟨ao, h3, h4⟩ := h.blk b _ (hst b _ hb)
      cases hx with
      | fz hx => cases hx
      | rp _ _ _ _ x hmb hp =>
        rw [hmb] at h3
        cases h3
        obtain ⟨vs, e, _, _, h5, _, h6, _, h7⟩ := row_elem h4 hi
        obtain ⟨v, hv, hrv⟩ := run_load_cells hT h1 (b := x.block) (o := x.off + i * s') h7 (fun j v hj => by
          rw [cell_of h5]
          rw [List.getElem?_take] at hj
          split at hj
          · rw [List.getElem?_drop] at hj; simpa using hj
          · cases hj) (by rw [h6]; exact h2)
        exact ⟨v, hv, hrv, rfl, rfl⟩
    · cases hr
  · rename_i cs
    cases hr
    obtain ⟨h1, h2⟩ := hg
    have hx := hx.pf_inv
    cases hx with
    | pf _ b o val hF hm hc =>
      obtain ⟨v, hv, hrv⟩ := run_load_cells hT h1 (b := b) (o := o) (off := 0) (rf_repL (m := m) (fun j hj => (hm j hj).2) hc) (fun j v hj => by
        rw [List.getElem?_map, Option.map_eq_some_iff] at hj
        obtain ⟨j', hj', rfl⟩ := hj
        obtain ⟨hlt, rfl⟩ := List.getElem?_eq_some_iff.1 hj'
        rw [List.getElem_range]
        exact (hm j (by simpa using hlt)).1) h2
      exact ⟨v, hv, hrv, rfl, rfl⟩
  · cases hr

end
end Go.Proofs.YtoifmpiikopelaaFw
