/-
  An abstract walk, part I: new boxes and rows.
-/
import Derived.Test.YtoifmpiikopelaaFwH
namespace Go.Proofs.YtoifmpiikopelaaFw
open Go
set_option linter.unusedVariables false
set_option linter.unusedSimpArgs false

section
variable {P : Program} {B : Base} {A : AF} {a : Act} {w : World} {F : Nat → Prop} {m : Ids} {T : Tab} {d : Option Tmp} {u : Nat → Prop} {c : Nat}

theorem new_box {F : Nat → Prop} {m : Ids} {w : World} {cs : List PV} {vs : Array Value} {e : TypeId} (g : Grow F w m F { w with heap := w.heap.push (.cells vs e) } (updI m c (some ⟨w.heap.size, 0, none⟩))) (h : RepL F w m cs vs.toList) :
    BlkOk F { w with heap := w.heap.push (.cells vs e) } (updI m c (some ⟨w.heap.size, 0, none⟩)) (some ⟨w.heap.size, 0, none⟩) (.box cs) :=
  ⟨w.heap.size, vs, e, rfl, by simp, by simpa using h.1, fun i c v hc hv => by
    have := h.2 i c v hc (by simpa using hv)
    exact ⟨this.1, this.2.mono g⟩⟩

theorem ptr_new {F : Nat → Prop} {m : Ids} {w : World} (w' : World) : Rep F w' (updI m c (some ⟨w.heap.size, 0, none⟩)) (.ptr c 0) (.pointer (some ⟨w.heap.size, 0, none⟩)) := by
  have := Rep.ptr (F := F) (w := w') (m := updI m c (some ⟨w.heap.size, 0, none⟩)) c 0 ⟨w.heap.size, 0, none⟩ (by simp [updI]) rfl
  exact this

theorem SimW.grow (h : SimW B A a w F m) (hc : ¬ A.used c) (o : Obj) (x : Option Addr) : Grow F w m F { w with heap := w.heap.push o } (updI m c x) :=
  grow_alloc (fun x hx => (h.fz x hx).1) o (Classical.byContradiction fun e => hc (h.used c e))

theorem fAlloc_ok (hT : TabOk P T) (h : SimW B A a w F m) {t : TypeId} {r : R} (hr : fAlloc T c t = some r) (hg : r.g) (hd : A.fits d) (hc : ¬ A.used c) (huc : u c) :
    ∃ v w' m', (Instr.alloc t true (.tuple #[])).run P w = .ok v w' ∧ SimW B (((A.eff r.dels r.puts).use u).put d r.v) (a.put d v) w' F m' := by
  cases hr
  obtain ⟨i, z, hi, hs, hb, hz, hzz, hzs, _⟩ := (hT t hg).info
  have hrl := zeros_repL hzz F w m
  have hrun : (Instr.alloc t true (.tuple #[])).run P w = .ok (.pointer (some ⟨w.heap.size, 0, none⟩)) { w with heap := w.heap.push (.cells z.cells t) } := by
    simp [Instr.alloc, zeroValue, typeInfo, hi, hz, newVar, newRow]
  refine ⟨_, _, _, hrun, h.new hd hc huc (ptr_new _) (new_box (h.grow hc _ _) hrl)⟩

theorem fBox_ok (h : SimW B A a w F m) {t : TypeId} {x : PV} {r : R} (hr : fBox c x = some r) (hg : r.g) {vx : Value} (hx : Rep F w m x vx) (hd : A.fits d) (hc : ¬ A.used c) (huc : u c) :
    ∃ v w' m', (Instr.box t vx).run P w = .ok v w' ∧ SimW B (((A.eff r.dels r.puts).use u).put d r.v) (a.put d v) w' F m' := by
  cases hr
  have hrun : (Instr.box t vx).run P w = .ok (.pointer (some ⟨w.heap.size, 0, none⟩)) { w with heap := w.heap.push (.cells vx.cells t) } := by
    simp [Instr.box, newVar, newRow]
  exact ⟨_, _, _, hrun, h.new hd hc huc (ptr_new _) (new_box (h.grow hc _ _) (hx.cells hg))⟩

theorem splice_length {cs ds : List PV} {o : Nat} (h : o + ds.length ≤ cs.length) : (splice cs o ds).length = cs.length := by
  unfold splice; simp; omega

theorem foldl_set (vs : Array Value) (off : Nat) : ∀ (cells : Array Value), off + vs.size ≤ cells.size →
    vs.zipIdx.foldl (fun cs (x : Value × Nat) => cs.setIfInBounds (off + x.2) x.1) cells = (cells.toList.take off ++ vs.toList ++ cells.toList.drop (off + vs.size)).toArray := by
  have key : ∀ (l : List Value) (k : Nat) (cells : Array Value), off + k + l.length ≤ cells.size →
      (l.zipIdx k).foldl (fun cs (x : Value × Nat) => cs.setIfInBounds (off + x.2) x.1) cells = (cells.toList.take (off + k) ++ l ++ cells.toList.drop (off + k + l.length)).toArray := by
    intro l
    induction l with
    | nil => intro k cells _; simp
    | cons v l ih =>
      intro k cells hl
      simp only [List.zipIdx_cons, List.foldl_cons]
      rw [ih (k + 1) _ (by simp at hl ⊢; omega)]
      have e := list_seg_step cells.toList (off + k) v l (by simp at hl ⊢; omega)
      apply Array.ext'
      simpa [Array.toList_setIfInBounds, Nat.add_assoc] using e
  intro cells hl
  have := key vs.toList 0 cells (by simpa using hl)
  rw [← Array.foldl_toList, Array.toList_zipIdx]
  simpa using this

theorem fFill_ok {place : Nat → Option (Nat × Nat)} : ∀ (parts : List (Nat × PV)) (qs : List (Nat × Value)) (cells : List PV) (vs : Array Value) (out : List PV) (g : Prop),
    fFill place cells parts = some (out, g) → g → RepL F w m cells vs.toList → qs.length = parts.length →
    (∀ (i : Nat) (p : Nat × PV) (q : Nat × Value), parts[i]? = some p → qs[i]? = some q → q.1 = p.1 ∧ Rep F w m p.2 q.2) →
    ∃ us, Instr.fill place vs qs = some us ∧ RepL F w m out us.toList
  | [], [], cells, vs, out, g, h, hg, hr, _, _ => by
    simp [fFill] at h
    obtain ⟨rfl, _⟩ := h
    exact ⟨vs, rfl, hr⟩
  | (i, p) :: parts, (j, q) :: qs, cells, vs, out, g, h, hg, hr, hl, hq => by
    obtain ⟨hij, hpq⟩ := hq 0 (i, p) (j, q) rfl rfl
    dsimp only at hij hpq
    subst hij
    simp only [fFill] at h
    cases hp : place j with
    | none => simp [hp] at h
    | some os =>
      obtain ⟨off, size⟩ := os
      simp only [hp] at h
      cases hf : fFill place (splice cells off p.cells) parts with
      | none => simp [hf] at h
      | some og =>
        obtain ⟨out', g'⟩ := og
        simp only [hf, Option.some.injEq, Prod.mk.injEq] at h
        obtain ⟨rfl, rfl⟩ := h
        obtain ⟨h1, h2, h3, h4⟩ := hg
        have hc := hpq.cells h1
        have hqs : q.cells.size = size := by rw [← h2, ← hc.1]; simp
        have hvs : vs.size = cells.length := by rw [← hr.1]; simp
        have hfit : off + q.cells.size ≤ vs.size := by omega
        have hfold := foldl_set q.cells off vs hfit
        obtain ⟨us, hu, hru⟩ := fFill_ok parts qs (splice cells off p.cells) (vs.toList.take off ++ q.cells.toList ++ vs.toList.drop (off + q.cells.size)).toArray out' g' hf h4
          (by have := hr.splice hc off; rw [Array.length_toList] at this; simpa using this) (by simpa using hl) (fun i p q hp hq' => hq (i + 1) p q hp hq')
        refine ⟨us, ?_, hru⟩
        simp only [Instr.fill, hp]
        rw [if_neg (by simp; omega)]
        rw [hfold]
        exact hu

theorem parts_rep (h : SimW B A a w F m) (parts : Array (Nat × Operand)) : ∀ (i : Nat) (p : Nat × PV) (q : Nat × Value),
    (parts.toList.map fun x => (x.1, ev A.get x.2))[i]? = some p → (parts.map fun (x : Nat × Operand) => (x.1, a.eval x.2)).toList[i]? = some q → q.1 = p.1 ∧ Rep F w m p.2 q.2 := by
  intro i p q hp hq
  rw [List.getElem?_map] at hp
  rw [Array.toList_map, List.getElem?_map] at hq
  cases hx : parts.toList[i]? with
  | none => simp [hx] at hp
  | some x =>
    simp [hx] at hp hq
    subst hp hq
    exact ⟨rfl, h.ev x.2⟩

theorem fBuild_ok (hT : TabOk P T) (h : SimW B A a w F m) {t : TypeId} {parts : Array (Nat × Operand)} {r : R} (hr : fBuild T t (parts.toList.map fun x => (x.1, ev A.get x.2)) = some r) (hg : r.g) :
    ∃ v, (Instr.build t (parts.map fun (x : Nat × Operand) => (x.1, a.eval x.2))).run P w = .ok v w ∧ Rep F w m r.v v ∧ r.dels = [] ∧ r.puts = [] := by
  unfold fBuild at hr
  split at hr
  · rename_i fs hk
    obtain ⟨fa, hu, hfs⟩ := und_strct hT hk
    obtain ⟨i, z, hi, hs, hb, hz, hzz, hzs, _⟩ := (hT t (by rw [hk]; simp)).info
    split at hr
    · rename_i cs g hf
      cases hr
      obtain ⟨hg, hks⟩ := hg
      have hpl : (fa.mapM fun f => do pure (f.offset, ← sizeOf f.type) : Sem (Array (Nat × Nat))).run P w = .ok (fa.map fun f => (f.offset, (T f.type).size)) w := by
        have hall : ∀ f ∈ fa.toList, (T f.type).k ≠ .other := fun f hf => hks (f.offset, f.type) (by rw [← hfs]; exact List.mem_map.2 ⟨f, hf, rfl⟩)
        have key : ∀ (l : List Field), (∀ f ∈ l, (T f.type).k ≠ .other) → (l.mapM fun f => do pure (f.offset, ← sizeOf f.type) : Sem (List (Nat × Nat))).run P w = .ok (l.map fun f => (f.offset, (T f.type).size)) w := by
          intro l
          induction l with
          | nil => intro _; simp
          | cons f l ih =>
            intro hl
            have e := ih fun f hf => hl f (List.mem_cons_of_mem _ hf)
            simp only [List.mapM_cons, Sem.run_bind, run_sizeOf hT (hl f List.mem_cons_self), Result.andThen_ok, Sem.run_pure, e, List.map_cons]
        have := key fa.toList hall
        rw [Array.mapM_eq_mapM_toList]
        simp only [Sem.run_map, this, Result.andThen_ok]
        congr 1
        apply Array.ext'
        simp
      have hplace : (fun i : Nat => (fs[i]?).map fun (f : Nat × TypeId) => (f.1, (T f.2).size)) = fun i : Nat => (fa.map fun f => (f.offset, (T f.type).size))[i]? := by
        funext i
        rw [← hfs]
        simp
        cases fa[i]? <;> rfl
      rw [hplace] at hf
      obtain ⟨us, hfu, hru⟩ := fFill_ok _ (parts.map fun (x : Nat × Operand) => (x.1, a.eval x.2)).toList _ z.cells cs g hf hg (zeros_repL hzz F w m) (by simp) (parts_rep h parts)
      refine ⟨.agg us, ?_, by simpa using hru.toAgg, rfl, rfl⟩
      simp only [Instr.build, Sem.run_bind, zeroValue, typeInfo, run_program, Result.andThen_ok, hi, Sem.run_pure, hz, run_underlying hu, hpl, hfu]
    · cases hr
  · rename_i n e hk
    have hu := und_arr hT hk
    obtain ⟨i, z, hi, hs, hb, hz, hzz, hzs, _⟩ := (hT t (by rw [hk]; simp)).info
    split at hr
    · rename_i cs g hf
      cases hr
      obtain ⟨hg, hks⟩ := hg
      obtain ⟨us, hfu, hru⟩ := fFill_ok _ (parts.map fun (x : Nat × Operand) => (x.1, a.eval x.2)).toList _ z.cells cs g hf hg (zeros_repL hzz F w m) (by simp) (parts_rep h parts)
      refine ⟨.agg us, ?_, by simpa using hru.toAgg, rfl, rfl⟩
      simp only [Instr.build, Sem.run_bind, zeroValue, typeInfo, run_program, Result.andThen_ok, hi, Sem.run_pure, hz, run_underlying hu, run_sizeOf hT hks, hfu]
    · cases hr
  · cases hr

end
end Go.Proofs.YtoifmpiikopelaaFw
