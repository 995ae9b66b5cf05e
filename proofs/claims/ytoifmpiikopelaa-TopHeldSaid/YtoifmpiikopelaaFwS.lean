/-
  An abstract walk, part S: a function's contract, of its body.
-/
import Derived.Test.YtoifmpiikopelaaFwR
namespace Go.Proofs.YtoifmpiikopelaaFw
open Go
set_option linter.unusedVariables false
set_option linter.unusedSimpArgs false

def argSlots : Nat → List PV → List (Nat × PV)
  | _, [] => []
  | i, p :: ps => (i, p) :: argSlots (i + 1) ps

def initS (args : List PV) (st0 : List (Nat × Blk)) (n : Nat) : AS := { sl := argSlots 0 args, st := st0, nx := st0.length, n := n }

/-- What the results are, with their conditions. -/
def resVals (T : Tab) (s : AS) : List ResultVar → Option (List PV × Prop)
  | [] => some ([], True)
  | .tmp t :: rs => match resVals T s rs with
    | some (ps, g) => some (s.get t :: ps, g)
    | none => none
  | .cell a t :: rs => match fLoad T (lk s.st) t (s.get a), resVals T s rs with
    | some r, some (ps, g) => some (r.v :: ps, r.g ∧ g)
    | _, _ => none

def joinRes : List PV → PV
  | [p] => p
  | ps => .tup ps

def storeEnd (s : AS) (n0 : Nat) (p : PV) : List (Nat × Blk) → Prop
  | [] => True
  | (b, k) :: l => (lk s.st b = some k ∧ b < n0 ∧ k.ok (· < n0) ∧ b ∉ ids p) ∧ storeEnd s n0 p l

/-- A function may end so. -/
def endOk (T : Tab) (rs : List ResultVar) (n0 : Nat) (res : PV) (st1 : List (Nat × Blk)) (s : AS) : Prop :=
  match resVals T s rs with
  | some (ps, g) => g ∧ res.fz = true ∧ wk (view (lk s.st) (joinRes ps)) res ∧ viewOk (lk s.st) (joinRes ps) ∧ storeEnd s n0 (joinRes ps) st1
  | none => False

theorem argSlots_lk : ∀ (args : List PV) (i t : Nat), lk (argSlots i args) t = if i ≤ t then args[t - i]? else none
  | [], i, t => by simp [argSlots, lk]
  | p :: ps, i, t => by
    simp only [argSlots, lk, argSlots_lk ps (i + 1) t]
    by_cases h : i = t
    · subst h; simp
    · rw [if_neg h]
      by_cases h1 : i ≤ t
      · rw [if_pos (by omega), if_pos h1, show t - i = (t - (i + 1)) + 1 by omega, List.getElem?_cons_succ]
      · rw [if_neg (by omega), if_neg h1]

theorem storeEnd_lk {s : AS} {n0 : Nat} {p : PV} : ∀ {l : List (Nat × Blk)}, storeEnd s n0 p l → ∀ b k, lk l b = some k → lk s.st b = some k ∧ b < n0 ∧ k.ok (· < n0) ∧ b ∉ ids p
  | (j, q) :: l, h, b, k, hl => by
    simp only [lk] at hl
    split at hl
    · rename_i e; subst e; cases hl; exact h.1
    · exact storeEnd_lk h.2 b k hl

theorem PV.ren_id {S : Nat → Prop} (p : PV) : p.ren (fun b => b) = p := by
  have : ∀ n (p : PV), SizeOf.sizeOf p ≤ n → p.ren (fun b => b) = p := by
    intro n
    induction n with
    | zero => intro p hp; cases p <;> simp at hp
    | succ n ih =>
      intro p hp
      have key : ∀ cs : List PV, SizeOf.sizeOf cs ≤ n → cs.map (PV.ren fun b => b) = cs := by
        intro cs
        induction cs with
        | nil => intro _; rfl
        | cons c cs ih2 =>
          intro h
          simp at h
          rw [List.map_cons, ih c (by omega), ih2 (by omega)]
      cases p <;> simp only [PV.ren, renL_map] <;> simp at hp
      · rw [key _ (by omega)]
      · rw [key _ (by omega)]
      · rw [key _ (by omega), key _ (by omega)]
  exact this _ p (Nat.le_refl _)

theorem Blk.ren_id (k : Blk) : k.ren (fun b => b) = k := by
  cases k with
  | box cs =>
    rw [Blk.ren, renL_map]
    congr 1
    exact (List.map_congr_left (g := id) fun c _ => PV.ren_id (S := fun _ => True) c).trans (List.map_id _)
  | row s es =>
    rw [Blk.ren]
    congr 1
    refine (List.map_congr_left (g := id) fun e _ => ?_).trans (List.map_id _)
    rw [renL_map]
    exact (List.map_congr_left (g := id) fun c _ => PV.ren_id (S := fun _ => True) c).trans (List.map_id _)

section
variable {P : Program} {T : Tab}

theorem results_ok (hT : TabOk P T) {B : Base} {s : AS} {a : Act} {w : World} {F : Nat → Prop} {m : Ids} (h : SimW B s.f a w F m) (gl : a.tmps.size = a.tmps.size) : ∀ (rs : List ResultVar) (ps : List PV) (g : Prop), resVals T s rs = some (ps, g) → g →
    ∃ vs : List Value, (rs.mapM (fun | .tmp t => pure (a.tmps.getD t undef) | .cell x t => do loadVar t (← asAddr (a.tmps.getD x undef)) : ResultVar → Sem Value)).run P w = .ok vs w ∧ vs.length = ps.length ∧
      ∀ (i : Nat) (p : PV) (v : Value), ps[i]? = some p → vs[i]? = some v → Rep F w m p v
  | [], ps, g, hr, _ => by
    simp only [resVals, Option.some.injEq, Prod.mk.injEq] at hr
    obtain ⟨rfl, rfl⟩ := hr
    exact ⟨[], by simp, rfl, by simp⟩
  | .tmp t :: rs, ps, g, hr, hg => by
    simp only [resVals] at hr
    split at hr
    · rename_i ps' g' h1
      simp only [Option.some.injEq, Prod.mk.injEq] at hr
      obtain ⟨rfl, rfl⟩ := hr
      obtain ⟨vs, h2, h3, h4⟩ := results_ok hT h gl rs ps' g' h1 hg
      refine ⟨a.tmps.getD t undef :: vs, ?_, by simp [h3], fun i p v hp hv => ?_⟩
      · simp only [List.mapM_cons, Sem.run_bind, Sem.run_pure, Result.andThen_ok, h2]
      · cases i with
        | zero => simp at hp; subst hp; rw [List.getElem?_cons_zero] at hv; cases hv; exact h.slot t
        | succ i => simp only [List.getElem?_cons_succ] at hp hv; exact h4 i p v hp hv
    · cases hr
  | .cell x t :: rs, ps, g, hr, hg => by
    simp only [resVals] at hr
    split at hr
    · rename_i r ps' g' h0 h1
      simp only [Option.some.injEq, Prod.mk.injEq] at hr
      obtain ⟨rfl, rfl⟩ := hr
      obtain ⟨vs, h2, h3, h4⟩ := results_ok hT h gl rs ps' g' h1 hg.2
      obtain ⟨v, h5, h6, _⟩ := fLoad_ok (st := lk s.st) hT h (fun _ _ hb => hb) h0 hg.1 (h.slot x)
      have hload : (do loadVar t (← asAddr (a.tmps.getD x undef)) : Sem Value).run P w = .ok v w := by
        have hptr : ∃ ad, a.tmps.getD x undef = .pointer (some ad) := by
          have hs := h.slot x
          unfold fLoad at h0
          have e0 : s.f.get x = s.get x := rfl
          rw [e0] at hs
          clear h5
          generalize a.tmps.getD x undef = v0 at hs ⊢
          split at h0
          · rename_i e; rw [e] at hs; cases hs with
            | fz hs => cases hs
            | ptr _ _ ad => exact ⟨_, rfl⟩
          · rename_i e; rw [e] at hs; cases hs with
            | fz hs => cases hs
            | rp _ _ _ _ ad => exact ⟨_, rfl⟩
          · rename_i e; rw [e] at hs; have := hs.pf_inv; cases this; exact ⟨_, rfl⟩
          · cases h0
        obtain ⟨ad, had⟩ := hptr
        rw [had] at h5 ⊢
        simpa [Instr.loadAt, Instr.sureAddr, asAddr] using h5
      refine ⟨v :: vs, ?_, by simp [h3], fun i p v' hp hv => ?_⟩
      · simp only [List.mapM_cons, Sem.run_bind] at hload ⊢
        rw [hload]
        simp only [Result.andThen_ok, h2, Sem.run_pure]
      · cases i with
        | zero => simp at hp hv; subst hp; subst hv; exact h6
        | succ i => simp only [List.getElem?_cons_succ] at hp hv; exact h4 i p v' hp hv
    · cases hr

/-- A function's end. -/
theorem end_done (hT : TabOk P T) {fn : Func} {B : Base} {n0 : Nat} {st1 : List (Nat × Blk)} {res : PV} {s' : AS} {a' : Act} {w' : World} {F : Nat → Prop} {m : Ids} (hs : SimW B s'.f a' w' F m) (hids : ∀ b, B.m0 b ≠ none → b < n0)
    (he : endOk T fn.results.toList n0 res st1 s') : ∃ v, (results fn a'.tmps).run P w' = .ok v w' ∧ ∃ F m, Done B n0 res st1 v w' F m := by
  unfold endOk at he
  split at he
  · rename_i ps g hr
    obtain ⟨hg, hz, hres, hv, hst⟩ := he
    obtain ⟨vl, h1, h2, h3⟩ := results_ok hT hs rfl _ ps g hr hg
    have hvs : (fn.results.mapM (fun | .tmp t => pure (a'.tmps.getD t undef) | .cell x t => do loadVar t (← asAddr (a'.tmps.getD x undef)) : ResultVar → Sem Value)).run P w' = .ok vl.toArray w' := by
      rw [Array.mapM_eq_mapM_toList]
      simp only [Sem.run_map, h1, Result.andThen_ok]
    have hjoin : ∃ v, (results fn a'.tmps).run P w' = .ok v w' ∧ Rep F w' m (joinRes ps) v := by
      have hres : (results fn a'.tmps).run P w' = ((fn.results.mapM (fun | .tmp t => pure (a'.tmps.getD t undef) | .cell x t => do loadVar t (← asAddr (a'.tmps.getD x undef)) : ResultVar → Sem Value)).run P w').andThen
          fun vs w => .ok (if h : vs.size = 1 then vs[0] else .tuple vs) w := by
        unfold results
        rw [Sem.run_bind]
        rfl
      rw [hres, hvs]
      simp only [Result.andThen_ok]
      refine ⟨_, rfl, ?_⟩
      by_cases h1 : vl.length = 1
      · rw [dif_pos (by simpa using h1)]
        obtain ⟨v, rfl⟩ : ∃ v, vl = [v] := by
          match vl, h1 with
          | [v], _ => exact ⟨v, rfl⟩
        obtain ⟨p, rfl⟩ : ∃ p, ps = [p] := by
          match ps, h2 with
          | [p], _ => exact ⟨p, rfl⟩
        exact h3 0 p v rfl rfl
      · rw [dif_neg (by simpa using h1)]
        have : joinRes ps = .tup ps := by
          match ps, h2 with
          | [], _ => rfl
          | [p], h2 => simp at h2; omega
          | _ :: _ :: _, _ => rfl
        rw [this]
        exact .tup ps _ (by simpa using h2) fun i p v hp hv => h3 i p v hp (by simpa using hv)
    obtain ⟨v, hv1, hv2⟩ := hjoin
    -- the blocks that are seen by the answer are frozen from now on
    let G : Nat → Prop := fun x => F x ∨ ∃ b y, b ∈ ids (joinRes ps) ∧ m b = some (some y) ∧ y.block = x ∧ ∃ k, lk s'.st b = some k
    let m' : Ids := fun b => if b < n0 then m b else none
    have hrow : ∀ b ∈ ids (joinRes ps), ∃ k, lk s'.st b = some k := view_rows hv
    have hvf : RF G w' (view (lk s'.st) (joinRes ps)) v := view_ok hs (st := lk s'.st) (fun _ _ hb => hb) hv2 hv (fun x hx => .inl hx) fun b hb x hx => .inr ⟨b, x, hb, hx, rfl, hrow b hb⟩
    have hm' : ∀ b, b < n0 → m' b = m b := fun b hb => if_pos hb
    refine ⟨v, hv1, G, m', ?_, fun b k hb => ?_, fun b k x hb hx => ?_, fun b b' k k' x x' hb hb' hne hx hx' => ?_, fun b hb => ?_, fun x hx => ?_, ⟨fun x hx => .inl (hs.gr.sub x hx), hs.gr.same, fun b x hb => ?_, hs.gr.size⟩, hs.wr⟩
    · exact wk_rep hres (.fz hvf)
    · obtain ⟨q1, q2, q3, q4⟩ := storeEnd_lk hst b k hb
      obtain ⟨ao, q5, q6⟩ := hs.blk b k q1
      refine ⟨ao, by rw [hm' b q2]; exact q5, ?_⟩
      have : BlkOk G w' m ao k := q6.mono ⟨fun x hx => .inl hx, fun _ _ => rfl, fun _ _ h => h, fun _ c _ fr h => ⟨c, fr, h, rfl⟩⟩ fun _ _ => rfl
      rw [← Blk.ren_id k] at this
      exact this.unren (S := (· < n0)) hm' q3
    · obtain ⟨q1, q2, q3, q4⟩ := storeEnd_lk hst b k hb
      rw [hm' b q2] at hx
      refine ⟨fun hq => ?_, (hs.own b k x q1 hx).2⟩
      rcases hq with hq | ⟨b2, y, p1, p2, p3, k2, p4⟩
      · exact (hs.own b k x q1 hx).1 hq
      · by_cases e : b2 = b
        · subst e; exact q4 p1
        · exact hs.apart b2 b _ _ y x p4 q1 e p2 hx p3
    · obtain ⟨q1, q2, q3, q4⟩ := storeEnd_lk hst b k hb
      obtain ⟨q1', q2', q3', q4'⟩ := storeEnd_lk hst b' k' hb'
      rw [hm' b q2] at hx
      rw [hm' b' q2'] at hx'
      exact hs.apart b b' k k' x x' q1 q1' hne hx hx'
    · have : b < n0 := Classical.byContradiction fun e => hb (if_neg e)
      omega
    · rcases hx with hx | ⟨b2, y, p1, p2, p3, k2, p4⟩
      · exact hs.fz x hx
      · rw [← p3]
        exact ⟨hs.lt p4 p2, .inr (hs.own b2 k2 y p4 p2).2⟩
    · have : b < n0 := hids b (by rw [hb]; simp)
      rw [hm' b this]
      exact hs.gr.ids b x hb
  · exact he.elim

/-- The frame at a function's beginning. -/
theorem init_sim {fn : Func} {B : Base} {args : List PV} {st0 : List (Nat × Blk)} {vs : Array Value} (hi : Init B args st0 vs) (hnt : args.length ≤ fn.ntmps) :
    SimW B (initS args st0 fn.ntmps).f { tmps := vs ++ Array.replicate (fn.ntmps - vs.size) undef, defers := [] } B.w0 B.F0 B.m0 := by
  refine ⟨hi.ds.symm, ?_, fun t => ?_, hi.blk, fun b k x hb hx => ⟨(hi.own b k x hb hx).1, .inr (hi.own b k x hb hx).2⟩, hi.apart, hi.ids, fun x hx => ⟨(hi.fz x hx).1, .inl hx⟩, Grow.refl _ _ _, ⟨rfl, rfl, rfl, Nat.le_refl _, fun _ _ _ => rfl⟩⟩
  · show (vs ++ Array.replicate (fn.ntmps - vs.size) undef).size = fn.ntmps
    rw [Array.size_append, Array.size_replicate]
    have := hi.size
    omega
  · show Rep _ _ _ (getPV (lk (argSlots 0 args) t)) _
    rw [argSlots_lk, if_pos (Nat.zero_le t), Nat.sub_zero]
    cases ht : args[t]? with
    | none => exact .any _
    | some p =>
      have hlt : t < args.length := (List.getElem?_eq_some_iff.1 ht).1
      have hlt' : t < vs.size := by rw [hi.size]; exact hlt
      have : (vs ++ Array.replicate (fn.ntmps - vs.size) undef).getD t undef = vs[t] := by
        rw [Array.getD_eq_getD_getElem?, Array.getElem?_append_left hlt', Array.getElem?_eq_getElem hlt']
        rfl
      show Rep _ _ _ p ((vs ++ Array.replicate (fn.ntmps - vs.size) undef).getD t undef)
      rw [this]
      exact hi.arg t p vs[t] ht (Array.getElem?_eq_getElem hlt')

/-- A function's call, of a walk through its body, for one base. -/
theorem fn_base (hT : TabOk P T) {f : FuncId} {fn : Func} {c : Code} {args : List PV} {st0 st1 : List (Nat × Blk)} {res : PV} (hf : P.funcs[f]? = some fn) (hb : fn.body = some c) (hnt : args.length ≤ fn.ntmps) {B : Base} {vs : Array Value} (hi : Init B args st0 vs)
    (h : AWp P B c { n := endOk T fn.results.toList st0.length res st1, r := endOk T fn.results.toList st0.length res st1 } (initS args st0 fn.ntmps)) :
    Calls P f vs B.w0 fun e w' => ∃ v F m, e = .returned v ∧ Done B st0.length res st1 v w' F m := by
  refine calls_of_wp hf hb (wp_mono (h _ _ ⟨_, _, init_sim hi hnt⟩) ?_)
  rintro e a' w' ⟨s', he, F, m, hs⟩
  have main : endOk T fn.results.toList st0.length res st1 s' → a'.defers = [] ∧ ∃ v, (results fn a'.tmps).run P w' = .ok v w' ∧ ∃ v' F m, Ending.returned v = .returned v' ∧ Done B st0.length res st1 v' w' F m := fun he => by
    obtain ⟨v, h1, F', m', h2⟩ := end_done hT hs (fun b hb => hi.ids b hb) he
    exact ⟨by rw [hs.defers, hi.ds], v, h1, v, F', m', rfl, h2⟩
  cases e with
  | normal => exact main he
  | ret => exact main he
  | exit id => exact he.elim
  | _ => exact he.elim

/-- THE CONTRACT OF A FUNCTION, OF A WALK THROUGH ITS BODY. -/
theorem fn_of (hT : TabOk P T) {f : FuncId} {fn : Func} {c : Code} {args : List PV} {st0 st1 : List (Nat × Blk)} {res : PV} (hf : P.funcs[f]? = some fn) (hb : fn.body = some c) (hn : (fn.name == "runtime.NumGoroutine") = false) (hnt : args.length ≤ fn.ntmps)
    (h : ∀ B : Base, (∀ b x, B.m0 b = some x → b < st0.length) → AWp P B c { n := endOk T fn.results.toList st0.length res st1, r := endOk T fn.results.toList st0.length res st1 } (initS args st0 fn.ntmps)) :
    FnS P f args st0 res st1 :=
  ⟨⟨fn, hf, hn, by rw [hb]; rfl⟩, fun B vs hi => fn_base hT hf hb hnt hi (h B fun b x hb => hi.ids b (by rw [hb]; simp))⟩


/-! ### Answers that point into what was lent -/
def endOkP (T : Tab) (rs : List ResultVar) (n0 : Nat) (res : PV) (st1 : List (Nat × Blk)) (s : AS) : Prop :=
  match resVals T s rs with
  | some (ps, g) => g ∧ joinRes ps = res ∧ res.ok (· < n0) ∧ storeEnd s n0 .nilp st1
  | none => False

theorem end_doneP (hT : TabOk P T) {fn : Func} {B : Base} {n0 k0 : Nat} {st1 : List (Nat × Blk)} {res : PV} {s' : AS} {a' : Act} {w' : World} {F : Nat → Prop} {m : Ids} (hs : SimW B s'.f a' w' F m) (hids : ∀ b, B.m0 b ≠ none → b < n0) (hk0 : n0 ≤ k0) (hk8 : k0 ≤ n0 + 8)
    (he : endOkP T fn.results.toList k0 res st1 s') : ∃ v, (results fn a'.tmps).run P w' = .ok v w' ∧ ∃ F m, Done B n0 res st1 v w' F m := by
  unfold endOkP at he
  split at he
  · rename_i ps g hr
    obtain ⟨hg, hres, hok, hst⟩ := he
    obtain ⟨vl, h1, h2, h3⟩ := results_ok hT hs rfl _ ps g hr hg
    have hvs : (fn.results.mapM (fun | .tmp t => pure (a'.tmps.getD t undef) | .cell x t => do loadVar t (← asAddr (a'.tmps.getD x undef)) : ResultVar → Sem Value)).run P w' = .ok vl.toArray w' := by
      rw [Array.mapM_eq_mapM_toList]
      simp only [Sem.run_map, h1, Result.andThen_ok]
    have hjoin : ∃ v, (results fn a'.tmps).run P w' = .ok v w' ∧ Rep F w' m (joinRes ps) v := by
      have hres : (results fn a'.tmps).run P w' = ((fn.results.mapM (fun | .tmp t => pure (a'.tmps.getD t undef) | .cell x t => do loadVar t (← asAddr (a'.tmps.getD x undef)) : ResultVar → Sem Value)).run P w').andThen
          fun vs w => .ok (if h : vs.size = 1 then vs[0] else .tuple vs) w := by
        unfold results
        rw [Sem.run_bind]
        rfl
      rw [hres, hvs]
      simp only [Result.andThen_ok]
      refine ⟨_, rfl, ?_⟩
      by_cases h1 : vl.length = 1
      · rw [dif_pos (by simpa using h1)]
        obtain ⟨v, rfl⟩ : ∃ v, vl = [v] := by
          match vl, h1 with
          | [v], _ => exact ⟨v, rfl⟩
        obtain ⟨p, rfl⟩ : ∃ p, ps = [p] := by
          match ps, h2 with
          | [p], _ => exact ⟨p, rfl⟩
        exact h3 0 p v rfl rfl
      · rw [dif_neg (by simpa using h1)]
        have : joinRes ps = .tup ps := by
          match ps, h2 with
          | [], _ => rfl
          | [p], h2 => simp at h2; omega
          | _ :: _ :: _, _ => rfl
        rw [this]
        exact .tup ps _ (by simpa using h2) fun i p v hp hv => h3 i p v hp (by simpa using hv)
    obtain ⟨v, hv1, hv2⟩ := hjoin
    rw [hres] at hv2
    let m' : Ids := fun b => if b < k0 then m b else none
    have hm' : ∀ b, b < k0 → m' b = m b := fun b hb => if_pos hb
    refine ⟨v, hv1, F, m', ?_, fun b k hb => ?_, fun b k x hb hx => ?_, fun b b' k k' x x' hb hb' hne hx hx' => ?_, fun b hb => ?_, hs.fz, ⟨hs.gr.sub, hs.gr.same, fun b x hb => ?_, hs.gr.size⟩, hs.wr⟩
    · exact hv2.unren (S := (· < k0)) hm' res (PV.ren_id (S := fun _ => True) res) hok
    · obtain ⟨q1, q2, q3, q4⟩ := storeEnd_lk hst b k hb
      obtain ⟨ao, q5, q6⟩ := hs.blk b k q1
      refine ⟨ao, by rw [hm' b q2]; exact q5, ?_⟩
      rw [← Blk.ren_id k] at q6
      exact q6.unren (S := (· < k0)) hm' q3
    · obtain ⟨q1, q2, q3, q4⟩ := storeEnd_lk hst b k hb
      rw [hm' b q2] at hx
      exact hs.own b k x q1 hx
    · obtain ⟨q1, q2, q3, q4⟩ := storeEnd_lk hst b k hb
      obtain ⟨q1', q2', q3', q4'⟩ := storeEnd_lk hst b' k' hb'
      rw [hm' b q2] at hx
      rw [hm' b' q2'] at hx'
      exact hs.apart b b' k k' x x' q1 q1' hne hx hx'
    · have : b < k0 := Classical.byContradiction fun e => hb (if_neg e)
      omega
    · have : b < k0 := Nat.lt_of_lt_of_le (hids b (by rw [hb]; simp)) hk0
      rw [hm' b this]
      exact hs.gr.ids b x hb
  · exact he.elim

theorem fn_walkP (hT : TabOk P T) {f : FuncId} {fn : Func} {c : Code} {args : List PV} {st0 st1 : List (Nat × Blk)} {res : PV} {n : Nat} {rs : Array ResultVar} (hf : P.funcs[f]? = some fn) (hb : fn.body = some c) (hn : (fn.name == "runtime.NumGoroutine") = false)
    (hnt : fn.ntmps = n) (hr : fn.results = rs) (hl : args.length ≤ n)
    (h : ∀ B : Base, (∀ b x, B.m0 b = some x → b < st0.length) → AWp P B c { n := endOkP T rs.toList st0.length res st1, r := endOkP T rs.toList st0.length res st1 } (initS args st0 n)) : FnS P f args st0 res st1 := by
  subst hnt hr
  refine ⟨⟨fn, hf, hn, by rw [hb]; rfl⟩, fun B vs hi => calls_of_wp hf hb (wp_mono (h B (fun b x hb => hi.ids b (by rw [hb]; simp)) _ _ ⟨_, _, init_sim hi hl⟩) ?_)⟩
  rintro e a' w' ⟨s', he, F, m, hs⟩
  have main : endOkP T fn.results.toList st0.length res st1 s' → a'.defers = [] ∧ ∃ v, (results fn a'.tmps).run P w' = .ok v w' ∧ ∃ v' F m, Ending.returned v = .returned v' ∧ Done B st0.length res st1 v' w' F m := fun he => by
    obtain ⟨v, h1, F', m', h2⟩ := end_doneP hT hs (fun b hb => hi.ids b hb) (Nat.le_refl _) (by omega) he
    exact ⟨by rw [hs.defers, hi.ds], v, h1, v, F', m', rfl, h2⟩
  cases e with
  | normal => exact main he
  | ret => exact main he
  | exit id => exact he.elim
  | _ => exact he.elim

/-- The same, where blocks that the function made are handed over, under the eight ids behind those that were lent. -/
theorem fn_walkN (hT : TabOk P T) {f : FuncId} {fn : Func} {c : Code} {args : List PV} {st0 st1 : List (Nat × Blk)} {res : PV} {n : Nat} {rs : Array ResultVar} (hf : P.funcs[f]? = some fn) (hb : fn.body = some c) (hn : (fn.name == "runtime.NumGoroutine") = false)
    (hnt : fn.ntmps = n) (hr : fn.results = rs) (hl : args.length ≤ n)
    (h : ∀ B : Base, (∀ b x, B.m0 b = some x → b < st0.length) → AWp P B c { n := endOkP T rs.toList (st0.length + 8) res st1, r := endOkP T rs.toList (st0.length + 8) res st1 } (initS args st0 n)) : FnS P f args st0 res st1 := by
  subst hnt hr
  refine ⟨⟨fn, hf, hn, by rw [hb]; rfl⟩, fun B vs hi => calls_of_wp hf hb (wp_mono (h B (fun b x hb => hi.ids b (by rw [hb]; simp)) _ _ ⟨_, _, init_sim hi hl⟩) ?_)⟩
  rintro e a' w' ⟨s', he, F, m, hs⟩
  have main : endOkP T fn.results.toList (st0.length + 8) res st1 s' → a'.defers = [] ∧ ∃ v, (results fn a'.tmps).run P w' = .ok v w' ∧ ∃ v' F m, Ending.returned v = .returned v' ∧ Done B st0.length res st1 v' w' F m := fun he => by
    obtain ⟨v, h1, F', m', h2⟩ := end_doneP hT hs (fun b hb => hi.ids b hb) (by omega) (Nat.le_refl _) he
    exact ⟨by rw [hs.defers, hi.ds], v, h1, v, F', m', rfl, h2⟩
  cases e with
  | normal => exact main he
  | ret => exact main he
  | exit id => exact he.elim
  | _ => exact he.elim

end
end Go.Proofs.YtoifmpiikopelaaFw
