/-
  An abstract walk, part Y: a range over a function: calls of yield, rounds, the statement itself.
-/
import Derived.Test.YtoifmpiikopelaaFwX
import Derived.RangeFuncRecord
import Derived.RangeFuncLeaves
import Derived.RangeFuncCalls
import Derived.OrdersIn
namespace Go.Proofs.YtoifmpiikopelaaFw
open Go
set_option linter.unusedVariables false
set_option linter.unusedSimpArgs false

/-- A loop's record lies ready in the world as it came, neither frozen nor lent. -/
structure Ready (B : Base) (l : Nat) (rec : Loop) : Prop where
  at_ : B.w0.heap[l]? = some (.loop rec)
  fz : ¬ B.F0 l
  bor : ¬ B.bor l

/-- What a call of yield does. -/
def YS (P : Program) (l : Nat) (rec : Loop) (o : CallO) : Prop :=
  ∀ (B : Base) (vs : Array Value), Ready B l rec → Init B o.args o.st0 vs → ∃ fn tmps assign body, (Instr.yield l vs).run P B.w0 = .ok (.round l fn tmps assign body) B.w0 ∧
    RoundIn Fence.wide 0 P l fn tmps assign body B.w0 fun e w' => ∃ v F m, e = .returned v ∧ Done B o.st0.length o.res o.st1 v w' F m

/-- A function's contract where a loop's record lies ready. -/
def FnL (P : Program) (l : Nat) (rec : Loop) (f : FuncId) (args : List PV) (st0 : List (Nat × Blk)) (res : PV) (st1 : List (Nat × Blk)) : Prop :=
  Here P f ∧ ∀ (B : Base) (vs : Array Value), Ready B l rec → Init B args st0 vs → Calls P f vs B.w0 fun e w' => ∃ v F m, e = .returned v ∧ Done B st0.length res st1 v w' F m

section
variable {P : Program} {B : Base} {T : Tab}

theorem fnL_walk (hT : TabOk P T) {l : Nat} {rec : Loop} {f : FuncId} {fn : Func} {c : Code} {args : List PV} {st0 st1 : List (Nat × Blk)} {res : PV} {n : Nat} {rs : Array ResultVar} (hf : P.funcs[f]? = some fn) (hb : fn.body = some c) (hn : (fn.name == "runtime.NumGoroutine") = false)
    (hnt : fn.ntmps = n) (hr : fn.results = rs) (hl : args.length ≤ n)
    (h : ∀ B : Base, Ready B l rec → Lent B st0.length → AWp P B c { n := endOk T rs.toList st0.length res st1, r := endOk T rs.toList st0.length res st1 } (initS args st0 n)) : FnL P l rec f args st0 res st1 := by
  subst hnt hr
  exact ⟨⟨fn, hf, hn, by rw [hb]; rfl⟩, fun B vs hB hi => fn_base hT hf hb hl hi (h B hB fun b x hb => hi.ids b (by rw [hb]; simp))⟩

/-- The record lies ready all the way. -/
theorem SimW.ready {A : AF} {a : Act} {w : World} {F : Nat → Prop} {m : Ids} (h : SimW B A a w F m) {l : Nat} {rec : Loop} (hr : Ready B l rec) :
    w.heap[l]? = some (.loop rec) ∧ ¬ F l ∧ ∀ b k y, A.st b = some k → m b = some (some y) → y.block ≠ l := by
  have hlt : l < B.w0.heap.size := (Array.getElem?_eq_some_iff.1 hr.at_).1
  refine ⟨(h.wr.block l hlt hr.bor).trans hr.at_, fun hF => ?_, fun b k y hb hy e => ?_⟩
  · rcases (h.fz l hF).2 with h1 | h1 | h1
    · exact hr.fz h1
    · omega
    · exact hr.bor h1
  · rcases (h.own b k y hb hy).2 with h1 | h1
    · omega
    · exact hr.bor (e ▸ h1)

theorem oper_in {o : Oper} {a : Act} {w : World} {K : Act → World → Prop} {Q : Exit → Act → World → Prop} (h : o.wp P a w K Q) : o.wpIn Fence.wide 0 P a w K Q := by
  refine ⟨fun _ _ => trivial, ?_⟩
  unfold Oper.wp at h
  rw [show o.semAt Fence.wide.round a.eval = execOp a.eval o from Oper.semAt_none _ _]
  generalize (execOp a.eval o).run P w = r at h
  unfold Oper.upon at h
  unfold Oper.uponIn
  split at h
  · exact h
  · exact h
  · exact h
  · exact ⟨fun e => by simp [Fence.wide] at e, callsIn_wide.2 h⟩
  · refine ⟨fun e => by simp [Fence.wide] at e, fun c cs _ => ?_⟩
    obtain ⟨v, w', h1, h2⟩ := h c cs
    exact ⟨v, w', h1, stepsIn_wide.2 h2⟩
  · exact h
  · exact h.elim

/-- A call of yield in a walk. -/
theorem yield_step {A : AF} {a : Act} {w : World} {F : Nat → Prop} {m : Ids} (h : SimW B A a w F m) {st : St} (hst : ∀ b k, st b = some k → A.st b = some k) {o : Oper} {fo : Operand} {args : Array Operand} {ts : Array TypeId} (ho : o.op = .call { callee := .value fo, args := args, argTypes := ts })
    {l : Nat} (hf : ev A.get fo = .fn (.yield l) [] []) {rec : Loop} (hr : Ready B l rec) {co : CallO} {d : Option Tmp} (hdd : o.dst = d) (hd : A.fits d) {c : Nat} {u : Nat → Prop} (hc : ∀ b, c ≤ b → b < c + 8 → ¬ A.used b ∧ u b)
    (hs : YS P l rec co) (hg : (fCall st c co (args.toList.map (ev A.get))).g) {K : Act → World → Prop} {Q : Exit → Act → World → Prop}
    (hK : ∀ v w' F' m', SimW B (((A.eff (fCall st c co (args.toList.map (ev A.get))).dels (fCall st c co (args.toList.map (ev A.get))).puts).use u).put d (fCall st c co (args.toList.map (ev A.get))).v) (a.put d v) w' F' m' → K (a.put d v) w') :
    o.wpIn Fence.wide 0 P a w K Q := by
  subst hdd
  obtain ⟨vs, us, hfv, hn, hk, _, _⟩ := (hf ▸ h.ev fo).fn_inv
  have hvs : vs = #[] := Array.eq_empty_of_size_eq_zero (by simpa using hn)
  have hus : us = #[] := Array.eq_empty_of_size_eq_zero (by simpa using hk)
  subst hvs hus
  obtain ⟨r1, r2, r3⟩ := h.ready hr
  have hsem : (execOp a.eval o).run P w = (Instr.yield l (args.map a.eval)).run P w := by
    simp only [execOp, ho, resolve, Sem.run_bind, hfv, Deferred.ofValue, Sem.run_pure, Result.andThen_ok, invoke, callFunc]
    simp
  have key := call_gen h hst (o := co) (ps := args.toList.map (ev A.get)) (vs := args.map a.eval) (by simp) (fun i p v hp hv => by
      rw [List.getElem?_map, Option.map_eq_some_iff] at hp
      rw [Array.getElem?_map, Option.map_eq_some_iff] at hv
      obtain ⟨x, hx, rfl⟩ := hp
      obtain ⟨y, hy, rfl⟩ := hv
      rw [Array.getElem?_toList, hy] at hx
      injection hx with hx
      subst hx
      exact h.ev _) hd hc (X := fun R => ∃ fn tmps assign body, (Instr.yield l (args.map a.eval)).run P w = .ok (.round l fn tmps assign body) w ∧ RoundIn Fence.wide 0 P l fn tmps assign body w R)
    (fun R R' hr ⟨fn, tmps, assign, body, h1, h2⟩ => ⟨fn, tmps, assign, body, h1, h2.mono hr⟩)
    (fun B' e hF hb _ init => by
      have := hs B' (args.map a.eval) ⟨by rw [e]; exact r1, fun hx => ?_, fun hx => ?_⟩ init
      · rw [e] at this; exact this
      · rcases hF l hx with hx | ⟨b, k, y, q1, q2, q3⟩
        · exact r2 hx
        · exact r3 b k y q1 q2 q3
      · obtain ⟨b, k, y, q1, q2, q3⟩ := hb l hx
        exact r3 b k y q1 q2 q3) hg
  obtain ⟨fn, tmps, assign, body, h1, h2⟩ := key
  refine ⟨fun _ _ => trivial, ?_⟩
  rw [show o.semAt Fence.wide.round a.eval = execOp a.eval o from Oper.semAt_none _ _, hsem, h1, Oper.uponIn_round]
  refine ⟨fun e => by simp [Fence.wide] at e, h2.mono ?_⟩
  rintro e w' ⟨v, F', m', rfl, hsim⟩
  exact hK v w' F' m' hsim

/-- The operations ahead of a call of yield. -/
theorem eval_okIn (hT : TabOk P T) {ops : Array Oper} {Q : Exit → Act → World → Prop} : ∀ (rest : List Oper) (i : Nat) (s : AS) (K : AS → Trace → Prop) (more : List Nat),
    (∀ j o, rest[j]? = some o → ops[i + j]? = some o) → evalOps P T false (ops.toList.map (·.dst)) rest s [] K →
    ∀ (a : Act) (w : World), Sim B s.f a w → (∀ s' a' w', K s' [] → Sim B s'.f a' w' → wpOpsIn Fence.wide 0 P ops Q more a' w') → wpOpsIn Fence.wide 0 P ops Q (List.range' i rest.length ++ more) a w
  | [], i, s, K, more, _, hk, a, w, hs, hQ => hQ s a w hk hs
  | o :: rest, i, s, K, more, ho, hk, a, w, ⟨F, m, h⟩, hQ => by
    have h0 : ops[i]? = some o := ho 0 o rfl
    have hrest : ∀ j o', rest[j]? = some o' → ops[i + 1 + j]? = some o' := fun j o' hj => by have := ho (j + 1) o' hj; rw [← this]; congr 1; omega
    have next := fun (s' : AS) (hk' : evalOps P T false (ops.toList.map (·.dst)) rest s' [] K) (a' : Act) (w' : World) (hs' : Sim B s'.f a' w') => eval_okIn hT rest (i + 1) s' K more hrest hk' a' w' hs' hQ
    simp only [List.length_cons, List.range'_succ, List.cons_append, wpOpsIn, h0]
    simp only [evalOps, trAdd, if_false, Bool.false_eq_true] at hk
    have go : opK P T false s o.dst o.op (fun r => evalOps P T false (ops.toList.map (·.dst)) rest (s.app o.dst r) [] K) → o.wpIn Fence.wide 0 P a w (wpOpsIn Fence.wide 0 P ops Q (List.range' (i + 1) rest.length ++ more)) Q :=
      fun hk => oper_in (opK_ok hT hk h fun r a' w' F' m' hk' hs' => next _ hk' a' w' ⟨F', m', hs'⟩)
    have sk : fitsN s.n o.dst ∧ evalOps P T false (ops.toList.map (·.dst)) rest (s.app o.dst { v := .und }) [] K → (∀ f, o.about P w a.eval = some f → Fence.wide.fn f) ∧ wpOpsIn Fence.wide 0 P ops Q (List.range' (i + 1) rest.length ++ more) (a.put o.dst undef) w :=
      fun ⟨hd, hk⟩ => ⟨fun _ _ => trivial, next _ hk _ _ ⟨F, m, skip_app h hd⟩⟩
    cases hg : o.guard with
    | none =>
      rw [hg] at hk
      have : Region.wanted o (yielded ops a.tmps) = true := by simp [Region.wanted, hg]
      rw [if_pos this]
      exact go hk
    | some jw =>
      obtain ⟨j, want⟩ := jw
      rw [hg] at hk
      simp only [] at hk
      have hds : dstOf (ops.toList.map (·.dst)) j = (ops[j]?).bind (·.dst) := by
        simp only [dstOf, List.getD, List.getElem?_map, Array.getElem?_toList]
        cases ops[j]? <;> rfl
      cases hd : (ops[j]?).bind (·.dst) with
      | none =>
        rw [hds, hd] at hk
        have : ¬ Region.wanted o (yielded ops a.tmps) = true := by simp [Region.wanted, hg, yielded, hd]
        rw [if_neg this]
        exact sk hk
      | some t =>
        rw [hds, hd] at hk
        simp only [guardK] at hk
        split at hk
        · rename_i b hb
          have hb' := h.bool (t := t) (b := b) hb
          by_cases e : b = want
          · have : Region.wanted o (yielded ops a.tmps) = true := by simp [Region.wanted, hg, yielded, hd, hb', e]
            rw [if_pos this]
            exact go (hk.1 e)
          · have : ¬ Region.wanted o (yielded ops a.tmps) = true := by simp [Region.wanted, hg, yielded, hd, hb', e]
            rw [if_neg this]
            exact sk (hk.2 (by cases b <;> cases want <;> simp_all))
        · rename_i hb
          have hb' := h.undSlot (t := t) hb
          have : ¬ Region.wanted o (yielded ops a.tmps) = true := by
            rcases hb' with hb' | hb' <;> simp [Region.wanted, hg, yielded, hd, hb', undef]
          rw [if_neg this]
          exact sk hk
        · exact hk.elim

def yieldK (P : Program) (l : Nat) (rec : Loop) (s : AS) (d : Option Tmp) (fv : PV) (xs : List PV) (K : R → Prop) (_h : Hold (P, rec, K) := ⟨⟩) : Prop :=
  fitsN s.n d ∧ fv = .fn (.yield l) [] [] ∧ ∃ co, YS P l rec co ∧ (fCall (lk s.st) s.nx co xs).g ∧ K (fCall (lk s.st) s.nx co xs)

/-- A region in which yield is called. -/
theorem awp_region_y (hT : TabOk P T) {Q : Post} {s : AS} {l : Nat} {rec : Loop} (hr : Ready B l rec) {id : Nat} {l1 l2 : List Oper} {d : Option Tmp} {fo : Operand} {args : Array Operand} {ts : Array TypeId} {ty : TypeId} {pos : String} {af : Array Edge}
    (h : ∀ K : AS → Prop, (∀ s', Q.n s' → K s') → evalE P T false ((l1 ++ { dst := d, op := .call { callee := .value fo, args := args, argTypes := ts }, type := ty, pos := pos, after := af, guard := none } :: l2).map (·.dst)) l1 s [] fun s1 _ =>
      yieldK P l rec s1 d (ev s1.get fo) (args.toList.map (ev s1.get)) fun r => evalE P T false ((l1 ++ { dst := d, op := .call { callee := .value fo, args := args, argTypes := ts }, type := ty, pos := pos, after := af, guard := none } :: l2).map (·.dst)) l2 (s1.app d r) [] fun s2 _ => K s2) :
    AWp P B (.region id (l1 ++ { dst := d, op := .call { callee := .value fo, args := args, argTypes := ts }, type := ty, pos := pos, after := af, guard := none } :: l2).toArray false) Q s := fun a w hs => by
  refine (wpIn_wide (n := 0)).1 (wpIn_region ?_)
  generalize ho : ({ dst := d, op := .call { callee := .value fo, args := args, argTypes := ts }, type := ty, pos := pos, after := af, guard := none } : Oper) = o at *
  have hsz : (l1 ++ o :: l2).toArray.size = l1.length + (1 + l2.length) := by simp; omega
  have hrange : List.range (l1 ++ o :: l2).toArray.size = List.range' 0 l1.length ++ (l1.length :: (List.range' (l1.length + 1) l2.length ++ [])) := by
    rw [hsz, List.range_eq_range', List.append_nil]
    have e1 : List.range' 0 (l1.length + (1 + l2.length)) = List.range' 0 l1.length ++ List.range' (0 + l1.length) (1 + l2.length) := (List.range'_append_1).symm
    rw [e1, Nat.zero_add, Nat.add_comm 1, List.range'_succ]
  rw [hrange]
  have hk := h Q.n fun _ h => h
  have hk' : evalOps P T false ((l1 ++ o :: l2).toArray.toList.map (·.dst)) l1 s [] fun s1 _ => yieldK P l rec s1 d (ev s1.get fo) (args.toList.map (ev s1.get)) fun r => evalOps P T false ((l1 ++ o :: l2).toArray.toList.map (·.dst)) l2 (s1.app d r) [] fun s2 _ => Q.n s2 := hk
  refine eval_okIn (B := B) hT l1 0 s _ _ (fun j o' hj => ?_) hk' a w hs fun s1 a1 w1 hk1 hs1 => ?_
  · have hlt : j < l1.length := (List.getElem?_eq_some_iff.1 hj).1
    rw [Nat.zero_add, List.getElem?_toArray, List.getElem?_append_left hlt]; exact hj
  · have hat : (l1 ++ o :: l2).toArray[l1.length]? = some o := by simp
    have hgd : o.guard = none := by rw [← ho]
    obtain ⟨hfit, hfv, co, hys, hg, hk2⟩ := hk1
    obtain ⟨F, m, h1⟩ := hs1
    have hfresh : ∀ b, s1.nx ≤ b → b < s1.nx + 8 → ¬ s1.f.used b ∧ rng s1.nx b := fun b h1 h2 => ⟨fun hq => by have : b < s1.nx := hq; omega, h1, h2⟩
    simp only [wpOpsIn, hat]
    rw [if_pos (by simp [Region.wanted, hgd])]
    refine yield_step (u := rng s1.nx) h1 (st := lk s1.st) (fun b k hb => hb) (o := o) (fo := fo) (args := args) (ts := ts) (by rw [← ho]) hfv hr (d := d) (by rw [← ho]) (fits_of hfit) hfresh hys hg fun v w' F' m' hs' => ?_
    refine eval_okIn (B := B) hT l2 (l1.length + 1) _ (fun s2 _ => Q.n s2) [] (fun j o' hj => ?_) hk2 _ _ ⟨F', m', hs'.toApp⟩ fun s2 a2 w2 hk3 hs2 => ⟨s2, hk3, hs2⟩
    rw [List.getElem?_toArray, List.getElem?_append_right (by omega), show l1.length + 1 + j - l1.length = j + 1 by omega, List.getElem?_cons_succ]
    exact hj

/-! ### A round's body -/
def noDefer : Op → Bool
  | .defer _ => false
  | _ => true
theorem oper_inR {o : Oper} (hnd : noDefer o.op = true) {l n : Nat} {a : Act} {w : World} {K : Act → World → Prop} {Q : Exit → Act → World → Prop} (h : o.wp P a w K Q) : o.wpIn (Fence.wide.inRound l) n P a w K Q := by
  refine ⟨fun _ _ => trivial, ?_⟩
  unfold Oper.wp at h
  rw [Oper.semAt_eq _ _ _ fun c e => by rw [e] at hnd; cases hnd]
  generalize (execOp a.eval o).run P w = r at h
  unfold Oper.upon at h
  unfold Oper.uponIn
  split at h
  · exact h
  · exact h
  · exact h
  · exact ⟨fun e => by simp [Fence.wide] at e, CallsIn.inRound l (callsIn_wide.2 h)⟩
  · refine ⟨fun e => by simp [Fence.wide] at e, fun c cs _ => ?_⟩
    obtain ⟨v, w', h1, h2⟩ := h c cs
    exact ⟨v, w', h1, stepsIn_wide.2 h2⟩
  · exact h
  · exact h.elim
theorem any_in {md : Region.Mode} {ops : Array Oper} {Q : Exit → Act → World → Prop} (hQ : ¬ LetsOut Q) (hnd : ∀ (i : Nat) (o : Oper), ops[i]? = some o → noDefer o.op = true) {l n : Nat} : ∀ (fuel : Nat) (listed : Array Bool) (a : Act) (w : World), wpAny P md ops Q fuel listed a w → wpAnyIn (Fence.wide.inRound l) n P md ops Q fuel listed a w
  | 0, listed, a, w, h => h
  | fuel + 1, listed, a, w, h => by
    refine ⟨h.1, fun i hi => ?_⟩
    have := h.2 i hi
    unfold wpOp at this
    unfold wpOpIn
    cases ho : ops[i]? with
    | none => rw [ho] at this; exact any_in hQ hnd fuel _ _ _ this
    | some o =>
      rw [ho] at this
      simp only [] at this ⊢
      split at this
      · rename_i hw
        rw [if_pos hw]
        rcases this with this | this
        · exact oper_inR (hnd i o ho) (Oper.wp_mono (fun a w => any_in hQ hnd fuel _ a w) this)
        · exact (hQ this.2).elim
      · rename_i hw
        rw [if_neg hw]
        exact ⟨fun _ _ => trivial, any_in hQ hnd fuel _ _ _ this⟩
/-- A piece of code in a round. -/
def AWpR (P : Program) (B : Base) (l : Nat) (c : Code) (Q : Post) (s : AS) : Prop :=
  ∀ (a : Act) (w : World), Sim B s.f a w → c.wpIn (Fence.wide.inRound l) 0 P (fun e a' w' => ∃ s', Q.at e s' ∧ Sim B s'.f a' w') a w
theorem not_lets (Q : Post) : ¬ LetsOut fun e a' w' => ∃ s', Q.at e s' ∧ Sim B s'.f a' w' := by
  rintro ⟨a, w, s', h, _⟩
  exact h
theorem awpR_seq {Q : Post} {s : AS} {l : Nat} {x y : Code} (h : AWpR P B l x { Q with n := fun s' => AWpR P B l y Q s' } s) : AWpR P B l (.seq x y) Q s := fun a w hs => by
  refine wpIn_seq (wpIn_mono (h a w hs) ?_)
  rintro e a' w' ⟨s', h1, h2⟩
  cases e with
  | normal => exact h1 a' w' h2
  | _ => exact ⟨s', h1, h2⟩
theorem awpR_block {Q : Post} {s : AS} {l : Nat} {id : Nat} {c : Code} (h : AWpR P B l c { Q with x := (id, Q.n) :: Q.x } s) : AWpR P B l (.block id c) Q s := fun a w hs => by
  refine wpIn_block (wpIn_mono (h a w hs) ?_)
  rintro e a' w' ⟨s', h1, h2⟩
  cases e with
  | exit id' =>
    simp only [Exit.inBlock]
    by_cases e : id' = id
    · subst e
      rw [if_pos rfl]
      simp only [Post.at, lk, if_true] at h1
      exact ⟨s', h1, h2⟩
    · rw [if_neg e]
      simp only [Post.at, lk, if_neg (fun h => e (Eq.symm h))] at h1
      exact ⟨s', h1, h2⟩
  | _ => exact ⟨s', h1, h2⟩
theorem opsR {ops : Array Oper} {Q : Exit → Act → World → Prop} (hQ : ¬ LetsOut Q) (hnd : ∀ (i : Nat) (o : Oper), ops[i]? = some o → noDefer o.op = true) {l : Nat} : ∀ (is : List Nat) (a : Act) (w : World), wpOps P ops Q is a w → wpOpsIn (Fence.wide.inRound l) 0 P ops Q is a w
  | [], a, w, h => h
  | i :: is, a, w, h => by
    rw [wpOps_cons] at h
    rw [wpOpsIn_cons]
    unfold wpOp at h
    unfold wpOpIn
    cases ho : ops[i]? with
    | none => rw [ho] at h; exact opsR hQ hnd is _ _ h
    | some o =>
      rw [ho] at h
      simp only [] at h ⊢
      split at h
      · rename_i hw
        rw [if_pos hw]
        rcases h with h | h
        · exact oper_inR (hnd i o ho) (Oper.wp_mono (fun a w => opsR hQ hnd is a w) h)
        · exact (hQ h.2).elim
      · rename_i hw
        rw [if_neg hw]
        exact ⟨fun _ _ => trivial, opsR hQ hnd is _ _ h⟩
theorem noDefer_get {ops : List Oper} (h : (ops.all fun o => noDefer o.op) = true) : ∀ (i : Nat) (o : Oper), ops.toArray[i]? = some o → noDefer o.op = true := fun i o ho =>
  List.all_eq_true.1 h o (List.mem_of_getElem? (by simpa using ho))
theorem awpR_region (hT : TabOk P T) {Q : Post} {s : AS} {l : Nat} {id : Nat} {ops : List Oper} (hnd : (ops.all fun o => noDefer o.op) = true) (h : ∀ K : AS → Prop, (∀ s', Q.n s' → K s') → evalE P T false (ops.map (·.dst)) ops s [] fun s' _ => K s') : AWpR P B l (.region id ops.toArray false) Q s := fun a w hs => by
  refine wpIn_region (opsR (not_lets Q) (noDefer_get hnd) _ _ _ ?_)
  have := eval_ok (B := B) hT ops.toArray.toList 0 s (fun s' _ => Q.n s') (fun j o hj => by rw [Array.getElem?_toList] at hj; rw [Nat.zero_add]; exact hj) (h Q.n fun _ h => h) a w hs
    (Q := fun e a' w' => ∃ s', Q.at e s' ∧ Sim B s'.f a' w') (fun s' a' w' hk hs' => ⟨s', hk, hs'⟩)
  rw [Array.length_toList] at this
  rw [List.range_eq_range']
  exact this
theorem awpR_draw (hT : TabOk P T) (hm : P.follows .mixedOrders = true) {Q : Post} {s : AS} {l : Nat} {id : Nat} {ops : List Oper} (hnd : (ops.all fun o => noDefer o.op) = true) (hb : slotsB ops.toArray = true)
    (h : ∀ K : AS → Prop, (∀ s', Q.n s' → K s') → ∀ C : Trace → Prop, (∀ tr, commB (pres ops []) tr = true → C tr) → evalE P T true (ops.map (·.dst)) ops s [] fun s' tr => C tr ∧ K s') : AWpR P B l (.region id ops.toArray true) Q s := fun a w hs =>
  wpIn_region_any hm (any_in (not_lets Q) (noDefer_get hnd) _ _ _ _ (draw_any hT hb h a w hs))
end
end Go.Proofs.YtoifmpiikopelaaFw
