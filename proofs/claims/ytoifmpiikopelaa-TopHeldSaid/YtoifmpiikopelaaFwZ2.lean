/-
  An abstract walk, part Z2: ranges over functions whose rounds may end the loop, and that reach what the activation around them has boxed.
-/
import Derived.Test.YtoifmpiikopelaaFwZ
namespace Go.Proofs.YtoifmpiikopelaaFw
open Go
set_option linter.unusedVariables false
set_option linter.unusedSimpArgs false

/-- The world at the beginning, but for one block. -/
def pokeB (B : Base) (l : Nat) (o : Obj) : Base := { B with w0 := B.w0.putObj l o }
/-- A loop's record behind a round. -/
def recJ (rec : Loop) : Option Code → Loop
  | none => rec
  | some j => { rec with state := .done, pending := some j }
/-- Where lent ids lie. -/
def Known (B : Base) (K : List (Option Addr)) : Prop := ∀ (j : Nat) (a : Addr), K[j]? = some (some a) → B.m0 j = some (some a)

def YJ (P : Program) (l : Nat) (rec : Loop) (K : List (Option Addr)) (jump : Option Code) (o : CallO) : Prop :=
  ∀ (B : Base) (vs : Array Value), Ready B l rec → Known B K → Init B o.args o.st0 vs → ∃ fn tmps assign body, (Instr.yield l vs).run P B.w0 = .ok (.round l fn tmps assign body) B.w0 ∧
    RoundIn Fence.wide 0 P l fn tmps assign body B.w0 fun e w' => ∃ v F m, e = .returned v ∧ Done (pokeB B l (.loop (recJ rec jump))) o.st0.length o.res o.st1 v w' F m

def FnJ (P : Program) (l : Nat) (rec : Loop) (K : List (Option Addr)) (jump : Option Code) (f : FuncId) (args : List PV) (st0 : List (Nat × Blk)) (res : PV) (st1 : List (Nat × Blk)) : Prop :=
  Here P f ∧ ∀ (B : Base) (vs : Array Value), Ready B l rec → Known B K → Init B args st0 vs → Calls P f vs B.w0 fun e w' => ∃ v F m, e = .returned v ∧ Done (pokeB B l (.loop (recJ rec jump))) st0.length res st1 v w' F m

/-- A piece of code behind which the loop goes on, or is done. -/
def AWpF (P : Program) (B B' : Base) (c : Code) (Q Q' : Post) (s : AS) : Prop :=
  ∀ (a : Act) (w : World), Sim B s.f a w → c.wp P (fun e a' w' => (∃ s', Q.at e s' ∧ Sim B s'.f a' w') ∨ ∃ s', Q'.at e s' ∧ Sim B' s'.f a' w') a w

section
variable {P : Program} {B B' : Base} {T : Tab} {Q Q' : Post} {s : AS} {l : Nat} {rec : Loop}

theorem putObj_self {w : World} {o : Obj} (h : w.heap[l]? = some o) : w.putObj l o = w := by
  have hl : l < w.heap.size := (Array.getElem?_eq_some_iff.1 h).1
  have e : w.heap.setIfInBounds l o = w.heap := by
    apply Array.ext
    · simp
    · intro i h1 h2
      rw [Array.getElem_setIfInBounds]
      split
      · rename_i e; subst e
        rw [Array.getElem?_eq_getElem hl] at h
        exact (Option.some.inj h).symm
      · rfl
  unfold World.putObj
  rw [e]
theorem pokeB_self (hr : Ready B l rec) : pokeB B l (.loop (recJ rec none)) = B := by
  unfold pokeB recJ
  rw [putObj_self hr.at_]

theorem awpF_of {c : Code} (h : AWp P B c Q s) : AWpF P B B' c Q Q' s := fun a w hs => wp_mono (h a w hs) fun _ _ _ h => .inl h
theorem awpF_le {c : Code} {s' : AS} (hl : s.le B s') (h : AWpF P B B' c Q Q' s') : AWpF P B B' c Q Q' s := fun a w hs => h a w (hl a w hs)
theorem awpF_seq {x y : Code} (h : AWpF P B B' x { Q with n := fun s' => AWpF P B B' y Q Q' s' } { Q' with n := fun s' => AWp P B' y Q' s' } s) : AWpF P B B' (.seq x y) Q Q' s := fun a w hs => by
  refine wp_seq (wp_mono (h a w hs) ?_)
  rintro e a' w' (⟨s', h1, h2⟩ | ⟨s', h1, h2⟩)
  · cases e with
    | normal => exact h1 a' w' h2
    | _ => exact .inl ⟨s', h1, h2⟩
  · cases e with
    | normal => exact wp_mono (h1 a' w' h2) fun _ _ _ h => .inr h
    | _ => exact .inr ⟨s', h1, h2⟩
theorem awpF_cond {c : Operand} {x y : Code} {b : Bool} (hc : ev s.get c = .bool b) (h1 : b = true → AWpF P B B' x Q Q' s) (h2 : b = false → AWpF P B B' y Q Q' s) : AWpF P B B' (.cond c x y) Q Q' s := fun a w hs => by
  obtain ⟨F, m, h⟩ := hs
  have := h.ev c
  rw [show ev s.f.get c = .bool b from hc] at this
  exact wp_cond_split this.bool_inv (fun e => h1 e a w ⟨F, m, h⟩) (fun e => h2 e a w ⟨F, m, h⟩)
theorem awpF_block {id : Nat} {c : Code} (h : AWpF P B B' c { Q with x := (id, Q.n) :: Q.x } { Q' with x := (id, Q'.n) :: Q'.x } s) : AWpF P B B' (.block id c) Q Q' s := fun a w hs => by
  refine wp_block (wp_mono (h a w hs) ?_)
  intro e a' w' h
  cases e with
  | exit id' =>
    simp only [Exit.inBlock]
    by_cases e : id' = id
    · subst e
      rw [if_pos rfl]
      rcases h with ⟨s', h1, h2⟩ | ⟨s', h1, h2⟩
      · simp only [Post.at, lk, if_true] at h1
        exact .inl ⟨s', h1, h2⟩
      · simp only [Post.at, lk, if_true] at h1
        exact .inr ⟨s', h1, h2⟩
    · rw [if_neg e]
      rcases h with ⟨s', h1, h2⟩ | ⟨s', h1, h2⟩
      · simp only [Post.at, lk, if_neg (fun h => e (Eq.symm h))] at h1
        exact .inl ⟨s', h1, h2⟩
      · simp only [Post.at, lk, if_neg (fun h => e (Eq.symm h))] at h1
        exact .inr ⟨s', h1, h2⟩
  | _ => exact h
theorem awpF_loop {α : Type} {c : Code} (I : α → AS) (Pre : α → Prop) (μ : α → Nat) (x0 : α) (hp : Pre x0) (h0 : s.le B (I x0))
    (round : ∀ x, Pre x → AWpF P B B' c { Q with n := fun s' => ∃ y, s'.le B (I y) ∧ Pre y ∧ μ y < μ x } { Q' with n := fun _ => False } (I x)) : AWpF P B B' (.loop c) Q Q' s := fun a w hs => by
  intro b k cs
  have key : ∀ n x a w, Pre x → μ x = n → Sim B (I x).f a w →
      ∃ e a' w', ((∃ s', Q.at e s' ∧ Sim B s'.f a' w') ∨ ∃ s', Q'.at e s' ∧ Sim B' s'.f a' w') ∧ Arrives P (lone (b.at a (.code c :: .inLoop c :: k)) cs w) b k cs e a' w' := by
    intro n
    induction n using Nat.strongRecOn with
    | _ n ih =>
      intro x a w hx hn hI
      obtain ⟨e, a₁, w₁, hq, harr⟩ := round x hx a w hI b (.inLoop c :: k) cs
      cases e with
      | normal =>
        rcases hq with ⟨s', ⟨y, hle, hy, hlt⟩, hs'⟩ | ⟨s', hq, _⟩
        · obtain ⟨e₂, a₂, w₂, hq₂, harr₂⟩ := ih (μ y) (hn ▸ hlt) y a₁ w₁ hy rfl (hle a₁ w₁ hs')
          exact ⟨e₂, a₂, w₂, hq₂, .of_steps (Steps.trans harr (.one step_inLoop)) harr₂⟩
        · exact hq.elim
      | exit id => exact ⟨.exit id, a₁, w₁, hq, .pass (x := .inLoop c) rfl (fun _ _ => .inl (by simp)) harr⟩
      | goto l => exact ⟨.goto l, a₁, w₁, hq, .pass (x := .inLoop c) rfl (fun _ _ => .inl (by simp)) harr⟩
      | ret => exact ⟨.ret, a₁, w₁, hq, .pass (x := .inLoop c) rfl (fun _ _ => .inl (by simp)) harr⟩
      | panic ch => exact ⟨.panic ch, a₁, w₁, hq, .pass (x := .inLoop c) rfl (fun _ _ => .inl (by simp)) harr⟩
      | outgrown => exact ⟨.outgrown, a₁, w₁, hq, .pass (x := .inLoop c) rfl (fun _ _ => .inl (by simp)) harr⟩
  obtain ⟨e, a', w', hq, harr⟩ := key _ x0 a w hp rfl (h0 a w hs)
  exact ⟨e, a', w', hq, .of_steps (.one step_loop) harr⟩

/-- A function that gets yield, of its body's walk. -/
theorem fnJ_walk (hT : TabOk P T) {K : List (Option Addr)} {jump : Option Code} {f : FuncId} {fn : Func} {c : Code} {args : List PV} {st0 st1 : List (Nat × Blk)} {res : PV} {n : Nat} {rs : Array ResultVar} (hf : P.funcs[f]? = some fn) (hb : fn.body = some c) (hn : (fn.name == "runtime.NumGoroutine") = false)
    (hnt : fn.ntmps = n) (hr : fn.results = rs) (hl : args.length ≤ n)
    (h : ∀ B : Base, Ready B l rec → Known B K → Lent B st0.length → AWpF P B (pokeB B l (.loop (recJ rec jump))) c { n := fun s => jump = none ∧ endOkP T rs.toList (st0.length + 8) res st1 s, r := fun s => jump = none ∧ endOkP T rs.toList (st0.length + 8) res st1 s }
      { n := endOkP T rs.toList (st0.length + 8) res st1, r := endOkP T rs.toList (st0.length + 8) res st1 } (initS args st0 n)) : FnJ P l rec K jump f args st0 res st1 := by
  subst hnt hr
  refine ⟨⟨fn, hf, hn, by rw [hb]; rfl⟩, fun B vs hB hK hi => ?_⟩
  refine calls_of_wp hf hb (wp_mono (h B hB hK (fun b x hb => hi.ids b (by rw [hb]; simp)) _ _ ⟨_, _, init_sim hi hl⟩) ?_)
  have main : ∀ (B0 : Base), B0.ds = [] → (∀ b, B0.m0 b ≠ none → b < st0.length) → ∀ (s' : AS) (a' : Act) (w' : World), Sim B0 s'.f a' w' → endOkP T fn.results.toList (st0.length + 8) res st1 s' → a'.defers = [] ∧ ∃ v, (results fn a'.tmps).run P w' = .ok v w' ∧ ∃ v' F m, Ending.returned v = .returned v' ∧ Done B0 st0.length res st1 v' w' F m := by
    rintro B0 hds hids s' a' w' ⟨F, m, hs⟩ he
    obtain ⟨v, h1, F', m', h2⟩ := end_doneP hT hs hids (Nat.le_add_right _ _) (Nat.le_refl _) he
    exact ⟨by rw [hs.defers, hds], v, h1, v, F', m', rfl, h2⟩
  rintro e a' w' (⟨s', he, hs⟩ | ⟨s', he, hs⟩)
  · have go : (jump = none ∧ endOkP T fn.results.toList (st0.length + 8) res st1 s') → a'.defers = [] ∧ ∃ v, (results fn a'.tmps).run P w' = .ok v w' ∧ ∃ v' F m, Ending.returned v = .returned v' ∧ Done (pokeB B l (.loop (recJ rec jump))) st0.length res st1 v' w' F m := by
      rintro ⟨hj, he2⟩
      rw [hj, pokeB_self hB]
      exact main B hi.ds hi.ids s' a' w' hs he2
    cases e with
    | normal => exact go he
    | ret => exact go he
    | exit id => exact he.elim
    | _ => exact he.elim
  · have go := main (pokeB B l (.loop (recJ rec jump))) hi.ds hi.ids s' a' w' hs
    cases e with
    | normal => exact go he
    | ret => exact go he
    | exit id => exact he.elim
    | _ => exact he.elim

/-! ### A call of yield -/
theorem SimW.pokeB {A : AF} {a : Act} {w : World} {F : Nat → Prop} {m : Ids} (h : SimW B A a w F m) (hr : Ready B l rec) (rec' : Loop) : SimW (pokeB B l (.loop rec')) A a (w.putObj l (.loop rec')) F m := by
  obtain ⟨q1, q2, q3⟩ := h.ready hr
  have hlt : l < B.w0.heap.size := (Array.getElem?_eq_some_iff.1 hr.at_).1
  have hlw : l < w.heap.size := (Array.getElem?_eq_some_iff.1 q1).1
  have ne : ∀ x, x ≠ l → (w.putObj l (.loop rec')).heap[x]? = w.heap[x]? := fun x hx => World.putObj_heap_other hx
  have ne0 : ∀ x, x ≠ l → (B.w0.putObj l (.loop rec')).heap[x]? = B.w0.heap[x]? := fun x hx => World.putObj_heap_other hx
  have g : Grow F w m F (w.putObj l (.loop rec')) m := ⟨fun _ h => h, fun x hx => ne x (fun e => q2 (e ▸ hx)), fun _ _ h => h, fun x c e fr hx => ⟨c, fr, by rw [ne x (fun e => by subst e; rw [q1] at hx; cases hx)]; exact hx, rfl⟩⟩
  refine ⟨h.defers, h.size, fun t => (h.slot t).mono g, fun b k hb => ?_, fun b k x hb hx => ⟨(h.own b k x hb hx).1, ?_⟩, h.apart, h.used, fun x hx => ⟨by rw [World.putObj_size]; exact (h.fz x hx).1, ?_⟩, ⟨h.gr.sub, fun x hx => ?_, h.gr.ids, fun x c e fr hx => ?_⟩, ⟨h.wr.os, h.wr.tape, h.wr.output, ?_, fun x hx hb => ?_⟩⟩
  · obtain ⟨ao, h1, h2⟩ := h.blk b k hb
    exact ⟨ao, h1, h2.mono g fun y hy => ne _ (q3 b k y hb (by rw [h1, hy]))⟩
  · show (B.w0.putObj l (.loop rec')).heap.size ≤ _ ∨ _
    rw [World.putObj_size]; exact (h.own b k x hb hx).2
  · show _ ∨ (B.w0.putObj l (.loop rec')).heap.size ≤ _ ∨ _
    rw [World.putObj_size]; exact (h.fz x hx).2
  · have hxl : x ≠ l := fun e => hr.fz (e ▸ hx)
    show _ = (B.w0.putObj l (.loop rec')).heap[x]?
    rw [ne x hxl, ne0 x hxl]; exact h.gr.same x hx
  · have hxl : x ≠ l := fun e => by
      subst e
      have hx' : (B.w0.putObj x (.loop rec')).heap[x]? = some (Obj.cells c _ fr) := hx
      rw [World.putObj_heap_same hlt] at hx'; cases hx'
    have hx' : (B.w0.putObj l (.loop rec')).heap[x]? = some (Obj.cells c e fr) := hx
    rw [ne0 x hxl] at hx'
    obtain ⟨c', fr', r1, r2⟩ := h.gr.size x c e fr hx'
    exact ⟨c', fr', by rw [ne x hxl]; exact r1, r2⟩
  · show (B.w0.putObj l (.loop rec')).heap.size ≤ _
    rw [World.putObj_size, World.putObj_size]; exact h.wr.size
  · have hx' : x < (B.w0.putObj l (.loop rec')).heap.size := hx
    rw [World.putObj_size] at hx'
    show _ = (B.w0.putObj l (.loop rec')).heap[x]?
    by_cases hxl : x = l
    · subst hxl; rw [World.putObj_heap_same hlw, World.putObj_heap_same hlt]
    · rw [ne x hxl, ne0 x hxl]; exact h.wr.block x hx' hb

theorem Init.unpoke {w : World} {rec' : Loop} {args : List PV} {st0 : List (Nat × Blk)} {vs : Array Value} (hi : Init B' args st0 vs) (hw : B'.w0 = w.putObj l (.loop rec')) (hl : w.heap[l]? = some (.loop rec)) (hF : ¬ B'.F0 l) (hb : ¬ B'.bor l) : Init { B' with w0 := w } args st0 vs := by
  have hlw : l < w.heap.size := (Array.getElem?_eq_some_iff.1 hl).1
  have ne : ∀ x, x ≠ l → B'.w0.heap[x]? = w.heap[x]? := fun x hx => by rw [hw]; exact World.putObj_heap_other hx
  have g : Grow B'.F0 B'.w0 B'.m0 B'.F0 w B'.m0 := ⟨fun _ h => h, fun x hx => (ne x (fun e => hF (e ▸ hx))).symm, fun _ _ h => h, fun x c e fr hx => ⟨c, fr, by rw [← ne x (fun e => by subst e; rw [hw, World.putObj_heap_same hlw] at hx; cases hx)]; exact hx, rfl⟩⟩
  refine ⟨hi.ds, hi.size, fun i p v hp hv => (hi.arg i p v hp hv).mono g, fun b k hk => ?_, hi.own, hi.apart, hi.ids, fun x hx => ⟨?_, (hi.fz x hx).2⟩⟩
  · obtain ⟨ao, h1, h2⟩ := hi.blk b k hk
    refine ⟨ao, h1, h2.mono g fun y hy => (ne _ fun e => ?_).symm⟩
    have := (hi.own b k y hk (by rw [h1, hy])).2
    exact hb (e ▸ this)
  · have := (hi.fz x hx).1
    rw [hw, World.putObj_size] at this
    exact this

theorem yieldJ_step {A : AF} {a : Act} {w : World} {F : Nat → Prop} {m : Ids} (h : SimW B A a w F m) {st : St} (hst : ∀ b k, st b = some k → A.st b = some k) {o : Oper} {fo : Operand} {args : Array Operand} {ts : Array TypeId} (ho : o.op = .call { callee := .value fo, args := args, argTypes := ts })
    (hf : ev A.get fo = .fn (.yield l) [] []) (hr : Ready B l rec) {Kn : List (Option Addr)} (hKn : Known B Kn) {jump : Option Code} {co : CallO} {d : Option Tmp} (hdd : o.dst = d) (hd : A.fits d) {c : Nat} {u : Nat → Prop} (hc : ∀ b, c ≤ b → b < c + 8 → ¬ A.used b ∧ u b)
    (hid : co.r.take Kn.length = List.range Kn.length) (hs : YJ P l rec Kn jump co) (hg : (fCall st c co (args.toList.map (ev A.get))).g) {K : Act → World → Prop} {Q : Exit → Act → World → Prop}
    (hK : ∀ v w' F' m', SimW (Go.Proofs.YtoifmpiikopelaaFw.pokeB B l (.loop (recJ rec jump))) (((A.eff (fCall st c co (args.toList.map (ev A.get))).dels (fCall st c co (args.toList.map (ev A.get))).puts).use u).put d (fCall st c co (args.toList.map (ev A.get))).v) (a.put d v) w' F' m' → K (a.put d v) w') :
    o.wpIn Fence.wide 0 P a w K Q := by
  subst hdd
  obtain ⟨vs, us, hfv, hn, hk, _, _⟩ := (hf ▸ h.ev fo).fn_inv
  have hvs : vs = #[] := Array.eq_empty_of_size_eq_zero (by simpa using hn)
  have hus : us = #[] := Array.eq_empty_of_size_eq_zero (by simpa using hk)
  subst hvs hus
  obtain ⟨r1, r2, r3⟩ := h.ready hr
  have hsem : (execOp a.eval o).run P w = (Instr.yield l (args.map a.eval)).run P w := by
    simp only [execOp, ho, resolve, Sem.run_bind, hfv, Deferred.ofValue, Sem.run_pure, Result.andThen_ok, invoke, callFunc]
    simp
  have hp := h.pokeB hr (recJ rec jump)
  have key := call_gen hp hst (o := co) (ps := args.toList.map (ev A.get)) (vs := args.map a.eval) (by simp) (fun i p v hpp hv => by
      rw [List.getElem?_map, Option.map_eq_some_iff] at hpp
      rw [Array.getElem?_map, Option.map_eq_some_iff] at hv
      obtain ⟨x, hx, rfl⟩ := hpp
      obtain ⟨y, hy, rfl⟩ := hv
      rw [Array.getElem?_toList, hy] at hx
      injection hx with hx
      subst hx
      exact hp.ev _) hd hc (X := fun R => ∃ fn tmps assign body, (Instr.yield l (args.map a.eval)).run P w = .ok (.round l fn tmps assign body) w ∧ RoundIn Fence.wide 0 P l fn tmps assign body w R)
    (fun R R' hr ⟨fn, tmps, assign, body, h1, h2⟩ => ⟨fn, tmps, assign, body, h1, h2.mono hr⟩)
    (fun B' e hF hb hm0 init => by
      have hF' : ¬ B'.F0 l := fun hx => by
        rcases hF l hx with hx | ⟨b, k, y, q1, q2, q3⟩
        · exact r2 hx
        · exact r3 b k y q1 q2 q3
      have hb' : ¬ B'.bor l := fun hx => by
        obtain ⟨b, k, y, q1, q2, q3⟩ := hb l hx
        exact r3 b k y q1 q2 q3
      have hkn : Known { B' with w0 := w } Kn := fun j ad hj => by
        have hjl : j < Kn.length := (List.getElem?_eq_some_iff.1 hj).1
        have e1 : co.r[j]? = some j := by
          have : (co.r.take Kn.length)[j]? = (List.range Kn.length)[j]? := by rw [hid]
          rw [List.getElem?_take, if_pos hjl] at this
          rw [this]; simp [hjl]
        have hjr : j < co.r.length := (List.getElem?_eq_some_iff.1 e1).1
        show B'.m0 j = _
        rw [hm0 j hjr]
        have : co.ren c j = j := by
          simp only [CallO.ren]
          rw [if_pos hjr, List.getD, e1]; rfl
        rw [this]
        exact h.gr.ids j _ (hKn j ad hj)
      have := hs { B' with w0 := w } (args.map a.eval) ⟨r1, hF', hb'⟩ hkn (init.unpoke e r1 hF' hb')
      have e2 : Go.Proofs.YtoifmpiikopelaaFw.pokeB { B' with w0 := w } l (.loop (recJ rec jump)) = B' := by
        unfold Go.Proofs.YtoifmpiikopelaaFw.pokeB
        rw [← e]
      rw [e2] at this
      exact this) hg
  obtain ⟨fn, tmps, assign, body, h1, h2⟩ := key
  refine ⟨fun _ _ => trivial, ?_⟩
  rw [show o.semAt Fence.wide.round a.eval = execOp a.eval o from Oper.semAt_none _ _, hsem, h1, Oper.uponIn_round]
  refine ⟨fun e => by simp [Fence.wide] at e, h2.mono ?_⟩
  rintro e w' ⟨v, F', m', rfl, hsim⟩
  exact hK v w' F' m' hsim

def yieldJK (P : Program) (l : Nat) (rec : Loop) (Kn : List (Option Addr)) (jump : Option Code) (s : AS) (d : Option Tmp) (fv : PV) (xs : List PV) (K : R → Prop) (_h : Hold (P, rec, Kn, jump, K) := ⟨⟩) : Prop :=
  fitsN s.n d ∧ fv = .fn (.yield l) [] [] ∧ ∃ co, YJ P l rec Kn jump co ∧ co.r.take Kn.length = List.range Kn.length ∧ (fCall (lk s.st) s.nx co xs).g ∧ K (fCall (lk s.st) s.nx co xs)

theorem regionJ (hT : TabOk P T) {s : AS} (hr : Ready B l rec) {Kn : List (Option Addr)} (hKn : Known B Kn) {jump : Option Code} {id : Nat} {l1 l2 : List Oper} {d : Option Tmp} {fo : Operand} {args : Array Operand} {ts : Array TypeId} {ty : TypeId} {pos : String} {af : Array Edge} {K : AS → Prop}
    (hk : evalE P T false ((l1 ++ { dst := d, op := .call { callee := .value fo, args := args, argTypes := ts }, type := ty, pos := pos, after := af, guard := none } :: l2).map (·.dst)) l1 s [] fun s1 _ =>
      yieldJK P l rec Kn jump s1 d (ev s1.get fo) (args.toList.map (ev s1.get)) fun r => evalE P T false ((l1 ++ { dst := d, op := .call { callee := .value fo, args := args, argTypes := ts }, type := ty, pos := pos, after := af, guard := none } :: l2).map (·.dst)) l2 (s1.app d r) [] fun s2 _ => K s2) :
    ∀ a w, Sim B s.f a w → (Code.region id (l1 ++ { dst := d, op := .call { callee := .value fo, args := args, argTypes := ts }, type := ty, pos := pos, after := af, guard := none } :: l2).toArray false).wp P (fun e a' w' => e = .normal ∧ ∃ s', K s' ∧ Sim (pokeB B l (.loop (recJ rec jump))) s'.f a' w') a w := fun a w hs => by
  refine (wpIn_wide (n := 0)).1 (wpIn_region ?_)
  generalize ho : ({ dst := d, op := .call { callee := .value fo, args := args, argTypes := ts }, type := ty, pos := pos, after := af, guard := none } : Oper) = o at *
  have hsz : (l1 ++ o :: l2).toArray.size = l1.length + (1 + l2.length) := by simp; omega
  have hrange : List.range (l1 ++ o :: l2).toArray.size = List.range' 0 l1.length ++ (l1.length :: (List.range' (l1.length + 1) l2.length ++ [])) := by
    rw [hsz, List.range_eq_range', List.append_nil]
    have e1 : List.range' 0 (l1.length + (1 + l2.length)) = List.range' 0 l1.length ++ List.range' (0 + l1.length) (1 + l2.length) := (List.range'_append_1).symm
    rw [e1, Nat.zero_add, Nat.add_comm 1, List.range'_succ]
  rw [hrange]
  have hk' : evalOps P T false ((l1 ++ o :: l2).toArray.toList.map (·.dst)) l1 s [] fun s1 _ => yieldJK P l rec Kn jump s1 d (ev s1.get fo) (args.toList.map (ev s1.get)) fun r => evalOps P T false ((l1 ++ o :: l2).toArray.toList.map (·.dst)) l2 (s1.app d r) [] fun s2 _ => K s2 := hk
  refine eval_okIn (B := B) hT l1 0 s _ _ (fun j o' hj => ?_) hk' a w hs fun s1 a1 w1 hk1 hs1 => ?_
  · have hlt : j < l1.length := (List.getElem?_eq_some_iff.1 hj).1
    rw [Nat.zero_add, List.getElem?_toArray, List.getElem?_append_left hlt]; exact hj
  · have hat : (l1 ++ o :: l2).toArray[l1.length]? = some o := by simp
    have hgd : o.guard = none := by rw [← ho]
    obtain ⟨hfit, hfv, co, hys, hid, hg, hk2⟩ := hk1
    obtain ⟨F, m, h1⟩ := hs1
    have hfresh : ∀ b, s1.nx ≤ b → b < s1.nx + 8 → ¬ s1.f.used b ∧ rng s1.nx b := fun b h1 h2 => ⟨fun hq => by have : b < s1.nx := hq; omega, h1, h2⟩
    simp only [wpOpsIn, hat]
    rw [if_pos (by simp [Region.wanted, hgd])]
    refine yieldJ_step (u := rng s1.nx) h1 (st := lk s1.st) (fun b k hb => hb) (o := o) (fo := fo) (args := args) (ts := ts) (by rw [← ho]) hfv hr hKn (d := d) (by rw [← ho]) (fits_of hfit) hfresh hid hys hg fun v w' F' m' hs' => ?_
    refine eval_okIn (B := pokeB B l (.loop (recJ rec jump))) hT l2 (l1.length + 1) _ (fun s2 _ => K s2) [] (fun j o' hj => ?_) hk2 _ _ ⟨F', m', hs'.toApp⟩ fun s2 a2 w2 hk3 hs2 => ⟨rfl, s2, hk3, hs2⟩
    rw [List.getElem?_toArray, List.getElem?_append_right (by omega), show l1.length + 1 + j - l1.length = j + 1 by omega, List.getElem?_cons_succ]
    exact hj

/-- A region in which yield is called, and the loop goes on. -/
theorem awp_region_y1 (hT : TabOk P T) {s : AS} (hr : Ready B l rec) {Kn : List (Option Addr)} (hKn : Known B Kn) {id : Nat} {l1 l2 : List Oper} {d : Option Tmp} {fo : Operand} {args : Array Operand} {ts : Array TypeId} {ty : TypeId} {pos : String} {af : Array Edge}
    (h : ∀ K : AS → Prop, (∀ s', Q.n s' → K s') → evalE P T false ((l1 ++ { dst := d, op := .call { callee := .value fo, args := args, argTypes := ts }, type := ty, pos := pos, after := af, guard := none } :: l2).map (·.dst)) l1 s [] fun s1 _ =>
      yieldJK P l rec Kn none s1 d (ev s1.get fo) (args.toList.map (ev s1.get)) fun r => evalE P T false ((l1 ++ { dst := d, op := .call { callee := .value fo, args := args, argTypes := ts }, type := ty, pos := pos, after := af, guard := none } :: l2).map (·.dst)) l2 (s1.app d r) [] fun s2 _ => K s2) :
    AWp P B (.region id (l1 ++ { dst := d, op := .call { callee := .value fo, args := args, argTypes := ts }, type := ty, pos := pos, after := af, guard := none } :: l2).toArray false) Q s := fun a w hs => by
  refine wp_mono (regionJ hT hr hKn (h Q.n fun _ h => h) a w hs) ?_
  rintro e a' w' ⟨rfl, s', h1, h2⟩
  rw [pokeB_self hr] at h2
  exact ⟨s', h1, h2⟩
/-- A region in which yield is called for the last time. -/
theorem awpF_region_yJ (hT : TabOk P T) {s : AS} (hr : Ready B l rec) {Kn : List (Option Addr)} (hKn : Known B Kn) {jump : Option Code} {id : Nat} {l1 l2 : List Oper} {d : Option Tmp} {fo : Operand} {args : Array Operand} {ts : Array TypeId} {ty : TypeId} {pos : String} {af : Array Edge}
    (h : ∀ K : AS → Prop, (∀ s', Q'.n s' → K s') → evalE P T false ((l1 ++ { dst := d, op := .call { callee := .value fo, args := args, argTypes := ts }, type := ty, pos := pos, after := af, guard := none } :: l2).map (·.dst)) l1 s [] fun s1 _ =>
      yieldJK P l rec Kn jump s1 d (ev s1.get fo) (args.toList.map (ev s1.get)) fun r => evalE P T false ((l1 ++ { dst := d, op := .call { callee := .value fo, args := args, argTypes := ts }, type := ty, pos := pos, after := af, guard := none } :: l2).map (·.dst)) l2 (s1.app d r) [] fun s2 _ => K s2) :
    AWpF P B (pokeB B l (.loop (recJ rec jump))) (.region id (l1 ++ { dst := d, op := .call { callee := .value fo, args := args, argTypes := ts }, type := ty, pos := pos, after := af, guard := none } :: l2).toArray false) Q Q' s := fun a w hs => by
  refine wp_mono (regionJ hT hr hKn (h Q'.n fun _ h => h) a w hs) ?_
  rintro e a' w' ⟨rfl, s', h1, h2⟩
  exact .inr ⟨s', h1, h2⟩

/-! ### A round's body, more of it -/
theorem awpR_le {c : Code} {s' : AS} (hl : s.le B s') (h : AWpR P B l c Q s') : AWpR P B l c Q s := fun a w hs => h a w (hl a w hs)
theorem awpR_skip (h : Q.n s) : AWpR P B l .skip Q s := fun a w hs => wpIn_skip ⟨s, h, hs⟩
theorem awpR_ret (h : Q.r s) : AWpR P B l .ret Q s := fun a w hs => wpIn_ret ⟨s, h, hs⟩
theorem awpR_exit {id : Nat} {p : AS → Prop} (hp : lk Q.x id = some p) (h : p s) : AWpR P B l (.exit id) Q s :=
  fun a w hs => wpIn_exit ⟨s, by show (match lk Q.x id with | some p => p s | none => False); rw [hp]; exact h, hs⟩
theorem awpR_cond {c : Operand} {x y : Code} {b : Bool} (hc : ev s.get c = .bool b) (h1 : b = true → AWpR P B l x Q s) (h2 : b = false → AWpR P B l y Q s) : AWpR P B l (.cond c x y) Q s := fun a w hs => by
  obtain ⟨F, m, h⟩ := hs
  have := h.ev c
  rw [show ev s.f.get c = .bool b from hc] at this
  cases b with
  | true => exact wpIn_cond_true this.bool_inv (h1 rfl a w ⟨F, m, h⟩)
  | false => exact wpIn_cond_false this.bool_inv (h2 rfl a w ⟨F, m, h⟩)
end
end Go.Proofs.YtoifmpiikopelaaFw
