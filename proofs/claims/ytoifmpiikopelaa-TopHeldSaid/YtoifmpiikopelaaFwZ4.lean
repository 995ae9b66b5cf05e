/-
  An abstract walk, part Z4: operations in the middle of a region by a law of their own; a map of functions that is made of constants, and looked up.
-/
import Derived.Test.YtoifmpiikopelaaFwZ3
import Derived.MapKept
namespace Go.Proofs.YtoifmpiikopelaaFw
open Go
set_option linter.unusedVariables false
set_option linter.unusedSimpArgs false

section
variable {P : Program} {B : Base} {T : Tab}

/-- Q, but for the common end. -/
def qn (Q : Exit → Act → World → Prop) (N : Act → World → Prop) : Exit → Act → World → Prop
  | .normal, a, w => N a w
  | e, a, w => Q e a w

theorem upon_mono {o : Oper} {a : Act} {K K' : Act → World → Prop} {Q Q' : Exit → Act → World → Prop} {r : Result Next} (h : ∀ a w, K a w → K' a w) (hp : ∀ c a w, Q (.panic c) a w → Q' (.panic c) a w) (ho : LetsOut Q → LetsOut Q')
    (hh : o.upon P a K Q r) : o.upon P a K' Q' r := by
  cases r with
  | ok n w' =>
    cases n <;> simp only [Oper.upon] at hh ⊢ <;>
      first
        | exact h _ _ hh
        | exact Calls.mono hh (fun e w'' he => by cases e <;> first | exact h _ _ he | exact hp _ _ _ he | exact ho he)
        | exact Rows.mono hh (fun _ _ he => h _ _ he)
  | halt x w' => cases x <;> simp only [Oper.upon] at hh ⊢ <;> first | exact hh | exact hp _ _ _ hh

theorem wpOps_app {ops : Array Oper} {Q : Exit → Act → World → Prop} {rest : List Nat} : ∀ (l : List Nat) (a : Act) (w : World), wpOps P ops (qn Q (wpOps P ops Q rest)) l a w → wpOps P ops Q (l ++ rest) a w
  | [], a, w, h => h
  | i :: l, a, w, h => by
    simp only [List.cons_append, wpOps] at h ⊢
    split
    · rename_i hi
      rw [hi] at h
      exact wpOps_app l a w h
    · rename_i o hi
      rw [hi] at h
      simp only at h
      split
      · rename_i hw
        rw [if_pos hw] at h
        refine h.imp (fun h => upon_mono (fun a w h => wpOps_app l a w h) (fun _ _ _ h => h) (fun ⟨a, w, h⟩ => ⟨a, w, h⟩) h) fun ⟨h1, a, w, h2⟩ => ⟨h1, a, w, h2⟩
      · rename_i hw
        rw [if_neg hw] at h
        exact wpOps_app l _ w h

/-- Operations one behind the other, and then N. -/
def chain (P : Program) : List Oper → (Act → World → Prop) → (Exit → Act → World → Prop) → Act → World → Prop
  | [], N, _, a, w => N a w
  | o :: l, N, Q, a, w => o.wp P a w (chain P l N Q) Q

theorem wpOps_chain {ops : Array Oper} {Q : Exit → Act → World → Prop} {rest : List Nat} : ∀ (l : List Oper) (i : Nat) (a : Act) (w : World), (∀ j o, l[j]? = some o → ops[i + j]? = some o) → (∀ o ∈ l, o.guard = none) →
    chain P l (wpOps P ops Q rest) Q a w → wpOps P ops Q (List.range' i l.length ++ rest) a w
  | [], i, a, w, _, _, h => h
  | o :: l, i, a, w, ho, hg, h => by
    have h0 : ops[i]? = some o := ho 0 o rfl
    simp only [List.length_cons, List.range'_succ, List.cons_append, wpOps, h0]
    have : Region.wanted o (yielded ops a.tmps) = true := by simp [Region.wanted, hg o (.head _)]
    rw [if_pos this]
    exact .inl (Oper.wp_mono (fun a w h => wpOps_chain l (i + 1) a w (fun j o' hj => by have := ho (j + 1) o' hj; rw [← this]; congr 1; omega) (fun o' h' => hg o' (.tail _ h')) h) h)

/-- What operations do, told by states. -/
def Mid (P : Program) (B : Base) (lo : List Oper) (s s' : AS) : Prop :=
  ∀ a w N Q, Sim B s.f a w → (∀ a' w', Sim B s'.f a' w' → N a' w') → chain P lo N Q a w

/-- A region, of which n2 operations behind the first n1 are told by a law of their own. -/
theorem awp_region_mid (hT : TabOk P T) {Q : Post} {s : AS} (n1 n2 : Nat) {id : Nat} {l : List Oper} (hg : ((l.drop n1).take n2).all (fun o => o.guard.isNone) = true) (hn : n1 + n2 ≤ l.length)
    (h : ∀ K : AS → Prop, (∀ s', Q.n s' → K s') → evalE P T false (l.map (·.dst)) (l.take n1) s [] fun s1 _ => ∃ s2, Mid P B ((l.drop n1).take n2) s1 s2 ∧ evalE P T false (l.map (·.dst)) (l.drop (n1 + n2)) s2 [] fun s' _ => K s') :
    AWp P B (.region id l.toArray false) Q s := fun a w hs => by
  refine wp_region ?_
  have hk := h Q.n fun _ h => h
  have e : List.range l.toArray.size = List.range' 0 (l.take n1).length ++ (List.range' n1 ((l.drop n1).take n2).length ++ List.range' (n1 + n2) (l.drop (n1 + n2)).length) := by
    rw [List.range_eq_range', List.length_take_of_le (by omega), List.length_take, List.length_drop, List.length_drop, Nat.min_eq_left (by omega), List.size_toArray]
    have e1 := List.range'_append (s := n1) (m := n2) (n := l.length - (n1 + n2)) (step := 1)
    have e2 := List.range'_append (s := 0) (m := n1) (n := n2 + (l.length - (n1 + n2))) (step := 1)
    simp only [Nat.one_mul, Nat.zero_add] at e1 e2
    rw [e1, e2]
    congr 1
    omega
  rw [e]
  refine wpOps_app _ _ _ ?_
  refine eval_ok (B := B) hT (ops := l.toArray) (l.take n1) 0 s _ (fun j o hj => ?_) hk a w hs fun s1 a1 w1 hk1 hs1 => ?_
  · rw [List.getElem?_take] at hj
    split at hj
    · simpa using hj
    · cases hj
  obtain ⟨s2, hm, hk2⟩ := hk1
  refine wpOps_chain _ n1 a1 w1 (fun j o hj => ?_) (fun o ho => ?_) (hm a1 w1 _ _ hs1 fun a2 w2 hs2 => ?_)
  · rw [List.getElem?_take] at hj
    split at hj
    · rw [List.getElem?_drop] at hj
      simpa using hj
    · cases hj
  · have := List.all_eq_true.1 hg o ho
    simpa using this
  exact eval_ok (B := B) hT (ops := l.toArray) (l.drop (n1 + n2)) (n1 + n2) s2 (fun s' _ => Q.n s') (fun j o hj => by rw [List.getElem?_drop] at hj; simpa using hj) hk2 a2 w2 hs2 fun s' a' w' hk hs' => ⟨s', hk, hs'⟩

/-! ### A map of functions -/
def insOper (t : TypeId) (d : Tmp) (o : Oper) (p : Int × FuncId) : Prop := o.dst = none ∧ o.op = .insert t (.tmp d) (.const (.int .i64 p.1)) (.func p.2)

/-- A map that is being made: its block lies behind all others. -/
structure Making (d : Tmp) (w0 : World) (arr : Array MapEntry) (a : Act) (w : World) : Prop where
  heap : w.heap = w0.heap.push (Obj.map arr arr.size)
  rest : w = { w0 with heap := w.heap }
  slot : a.tmps.getD d undef = .map (some w0.heap.size)

theorem run_insert {t kt et : TypeId} (ht : P.underlying t = some (.map kt et)) (hk : P.underlying kt = some (.int .i64)) {w : World} {b : Nat} {arr : Array MapEntry} {clk : Nat} (hb : w.heap[b]? = some (.map arr clk)) {n : Int} {v : Value}
    (hkeys : ∀ x ∈ arr.toList, ∃ j, x.key = .int .i64 j ∧ j ≠ n) :
    (Instr.mapUpdate t (.map (some b)) (.int .i64 n) v).run P w = .ok () { w with heap := w.heap.setIfInBounds b (.map (arr.push { key := .int .i64 n, val := v, born := clk }) (clk + 1)) } := by
  have hik : MapKept.IsKey (.int .i64) (.int .i64 n) := by simp [MapKept.IsKey]
  have hf : Instr.findNow (.int .i64) (.int .i64 n) arr.toList 0 = some none := by
    rcases MapKept.findNow_spec hik arr.toList 0 (fun x hx => by obtain ⟨j, e, _⟩ := hkeys x hx; rw [e]; simp [MapKept.IsKey]) with ⟨h1, _⟩ | ⟨j, e, _, h2, h3⟩
    · exact h1
    · obtain ⟨j', e1, e2⟩ := hkeys e (List.mem_of_getElem? h2)
      rw [e1] at h3
      injection h3 with _ h3
      exact (e2 h3).elim
  simp [Instr.mapUpdate, run_underlying ht, MapKept.run_getObj_map hb, MapKept.run_checkKey hk hik, MapKept.run_findKey hk hf, MapKept.run_setObj_map _ hb, Result.andThen]

theorem push_set {α : Type} (h : Array α) (x y : α) : (h.push x).setIfInBounds h.size y = h.push y := by
  apply Array.ext'
  simp

theorem chain_insert {t kt et : TypeId} (ht : P.underlying t = some (.map kt et)) (hk : P.underlying kt = some (.int .i64)) {d : Tmp} {w0 : World} {N : Act → World → Prop} {Q : Exit → Act → World → Prop} : ∀ (lo : List Oper) (es : List (Int × FuncId)) (arr : Array MapEntry) (a : Act) (w : World),
    lo.length = es.length → (∀ (j : Nat) (o : Oper) (p : Int × FuncId), lo[(j : Nat)]? = some (o : Oper) → es[j]? = some (p : Int × FuncId) → insOper t d o p) → (es.map (·.1)).Nodup → (∀ x ∈ arr.toList, ∃ j, x.key = .int .i64 j ∧ ∀ p ∈ es, j ≠ p.1) → Making d w0 arr a w →
    (∀ arr' w', (arr'.toList.map fun e => (e.key, e.val)) = (arr.toList.map fun e => (e.key, e.val)) ++ es.map (fun p => (Value.int .i64 p.1, Value.func (.func p.2) #[] #[])) → Making d w0 arr' a w' → N a w') → chain P lo N Q a w
  | [], es, arr, a, w, hl, _, _, _, hm, h => by
    have : es = [] := List.eq_nil_of_length_eq_zero hl.symm
    subst this
    exact h arr w (by simp) hm
  | o :: lo, [], arr, a, w, hl, _, _, _, hm, h => by cases hl
  | o :: lo, p :: es, arr, a, w, hl, hop, hnd, hkeys, hm, h => by
    obtain ⟨hdst, ho⟩ := hop 0 o p rfl rfl
    have hb : w.heap[w0.heap.size]? = some (.map arr arr.size) := by rw [hm.heap]; simp
    have hrun := run_insert ht hk hb (n := p.1) (v := .func (.func p.2) #[] #[]) (fun x hx => by obtain ⟨j, e1, e2⟩ := hkeys x hx; exact ⟨j, e1, e2 p (.head _)⟩)
    have hev : a.eval (.tmp d) = .map (some w0.heap.size) := hm.slot
    show o.wp P a w (chain P lo N Q) Q
    unfold Oper.wp
    have e : (execOp a.eval o).run P w = .ok .skip { w with heap := w.heap.setIfInBounds w0.heap.size (.map (arr.push { key := .int .i64 p.1, val := .func (.func p.2) #[] #[], born := arr.size }) (arr.size + 1)) } := by
      have hev2 : a.eval (.const (.int .i64 p.1)) = .int .i64 p.1 := rfl
      have hev3 : a.eval (.func p.2) = .func (.func p.2) #[] #[] := rfl
      simp [execOp, ho, hev, hev2, hev3, hrun, Result.andThen]
    rw [e, Oper.upon_skip, hdst]
    refine chain_insert ht hk lo es (arr.push { key := .int .i64 p.1, val := .func (.func p.2) #[] #[], born := arr.size }) a _ (by simpa using hl) (fun j o' p' h1 h2 => hop (j + 1) o' p' (by simpa using h1) (by simpa using h2)) (List.nodup_cons.1 (by simpa using hnd)).2 ?_ ⟨?_, ?_, hm.slot⟩ ?_
    · intro x hx
      simp only [Array.toList_push, List.mem_append, List.mem_singleton] at hx
      rcases hx with hx | rfl
      · obtain ⟨j, e1, e2⟩ := hkeys x hx
        exact ⟨j, e1, fun q hq => e2 q (.tail _ hq)⟩
      · refine ⟨p.1, rfl, fun q hq e => ?_⟩
        simp only [List.map_cons, List.nodup_cons] at hnd
        exact hnd.1 (e ▸ List.mem_map_of_mem hq)
    · show w.heap.setIfInBounds _ _ = _
      rw [hm.heap, push_set]
      simp
    · show { w with heap := _ } = _
      rw [hm.rest]
    · intro arr' w' h1 h2
      exact h arr' w' (by rw [h1]; simp) h2

theorem mid_map {t kt et : TypeId} (ht : P.underlying t = some (.map kt et)) (hk : P.underlying kt = some (.int .i64)) {s : AS} {o : Oper} {lo : List Oper} (es : List (Int × FuncId)) {d : Tmp} (hd : d < s.n) (hdst : o.dst = some d) (hop : o.op = .makeMap t none)
    (hl : lo.length = es.length) (hlo : ∀ (j : Nat) (o : Oper) (p : Int × FuncId), lo[j]? = some o → es[j]? = some p → insOper t d o p) (hnd : (es.map (·.1)).Nodup) :
    Mid P B (o :: lo) s (s.app (some d) { v := .val (.fmap es) }) := fun a w N Q ⟨F, m, h⟩ hN => by
  show o.wp P a w (chain P lo N Q) Q
  unfold Oper.wp
  have e : (execOp a.eval o).run P w = .ok (.value (.map (some w.heap.size))) { w with heap := w.heap.push (.map #[] 0) } := by
    simp [execOp, hop, Instr.makeMap, newObj, Sem.run, Result.andThen]
  rw [e, Oper.upon_value, hdst]
  refine chain_insert ht hk lo es #[] _ _ hl hlo hnd (by simp) ⟨by simp, rfl, ?_⟩ fun arr' w' h1 h2 => ?_
  · rw [getD_put a d _ d (by rw [h.size]; exact hd), if_pos rfl]
  refine hN _ _ ⟨fun x => F x ∨ x = w.heap.size, m, ?_⟩
  have h0 := h.use0 (u := rng s.nx)
  have hlt := fun x hx => (h.fz x hx).1
  have hold : ∀ x, x < w.heap.size → w'.heap[x]? = w.heap[x]? := fun x hx => by rw [h2.heap, Array.getElem?_push]; rw [if_neg (by omega)]
  have hnew : w'.heap[w.heap.size]? = some (.map arr' arr'.size) := by rw [h2.heap]; simp
  have g : Grow F w m (fun x => F x ∨ x = w.heap.size) w' m := ⟨fun x hx => .inl hx, fun x hx => hold x (hlt x hx), fun _ _ h => h, fun x c e fr hx => ⟨c, fr, by rw [hold x (Array.getElem?_eq_some_iff.1 hx).1]; exact hx, rfl⟩⟩
  refine SimW.toApp (r := { v := .val (.fmap es) }) (h0.step (d := some d) (pv := .val (.fmap es)) (fits_of (d := some d) hd) g (.fz (.val _ _ ⟨_, arr', _, rfl, .inr rfl, hnew, by simpa using h1⟩)) rfl rfl (fun b k hb => ?_) (fun b b' k k' x x' hb hb' => ?_) (fun b hb => h0.used b hb) (fun x hx => ?_) ?_)
  · refine .inl ⟨hb, fun x hx => ?_⟩
    have hxl := h0.lt hb hx
    refine ⟨hold _ hxl, fun hf => ?_⟩
    rcases hf with hf | hf
    · exact (h0.own b k x hb hx).1 hf
    · omega
  · exact h0.apart b b' k k' x x' hb hb'
  · rcases hx with hx | rfl
    · have := h.fz x hx
      exact ⟨by rw [h2.heap]; simp; omega, this.2⟩
    · exact ⟨by rw [h2.heap]; simp, .inr (.inl h.wr.size)⟩
  · rw [h2.rest, h2.heap]
    exact h.wr.alloc _

theorem mid_lookup {t kt et : TypeId} (ht : P.underlying t = some (.map kt et)) (hk : P.underlying kt = some (.int .i64)) {s : AS} {o : Oper} {es : List (Int × FuncId)} {d : Tmp} {x i : Operand} {k : Int} {f : FuncId} (hd : d < s.n) (hdst : o.dst = some d) (hop : o.op = .lookup t x i true)
    (hx : ev s.get x = .val (.fmap es)) (hi : ev s.get i = .int .i64 k) (hf : es.find? (fun p => p.1 == k) = some (k, f)) :
    Mid P B [o] s (s.app (some d) { v := .tup [.fn (.func f) [] [], .bool true] }) := fun a w N Q ⟨F, m, h⟩ hN => by
  show o.wp P a w (chain P [] N Q) Q
  unfold Oper.wp
  have e1 := (hx ▸ h.ev x).val_inv
  obtain ⟨b, arr, clk, e1, hF, hb, hes⟩ := e1
  have e2 := (hi ▸ h.ev i).int_inv
  have hik : MapKept.IsKey (.int .i64) (.int .i64 k) := by simp [MapKept.IsKey]
  have hfind : ∀ (l : List MapEntry) (es : List (Int × FuncId)) (n : Nat), l.map (fun e => (e.key, e.val)) = es.map (fun p => (Value.int .i64 p.1, Value.func (.func p.2) #[] #[])) → es.find? (fun p => p.1 == k) = some (k, f) → ∃ j, Instr.findNow (.int .i64) (.int .i64 k) l n = some (some (j, .func (.func f) #[] #[])) := by
    intro l
    induction l with
    | nil =>
      intro es n h1 h2
      cases es with
      | nil => cases h2
      | cons p es => cases h1
    | cons y l ih =>
      intro es n h1 h2
      cases es with
      | nil => cases h1
      | cons p es =>
        simp only [List.map_cons, List.cons.injEq, Prod.mk.injEq] at h1
        obtain ⟨⟨hk1, hv1⟩, h1⟩ := h1
        by_cases hp : p.1 = k
        · simp only [List.find?_cons, hp, beq_self_eq_true] at h2
          injection h2 with h2
          refine ⟨n, ?_⟩
          simp [Instr.findNow, hk1, Instr.sameNow, hp, hv1, h2]
        · have hpk : (p.1 == k) = false := by simpa using hp
          simp only [List.find?_cons, hpk] at h2
          obtain ⟨j, hj⟩ := ih es (n + 1) h1 h2
          refine ⟨j, ?_⟩
          have : (k == p.1) = false := by simpa using fun e => hp e.symm
          simp [Instr.findNow, hk1, Instr.sameNow, this, hj]
  obtain ⟨j, hj⟩ := hfind arr.toList es 0 hes hf
  have e : (execOp a.eval o).run P w = .ok (.value (.tuple #[.func (.func f) #[] #[], .bool true])) w := by
    simp [execOp, hop, e1, e2, Instr.lookup, run_underlying ht, MapKept.run_getObj_map hb, MapKept.run_checkKey hk hik, MapKept.run_findKey hk hj, Result.andThen]
  rw [e, Oper.upon_value, hdst]
  refine hN _ _ ⟨F, m, SimW.toApp (r := { v := .tup [.fn (.func f) [] [], .bool true] }) ((h.use0 (u := rng s.nx)).put (fits_of (d := some d) hd) (.tup _ _ (by simp) fun i c v hc hv => ?_))⟩
  match i, hc, hv with
  | 0, hc, hv => simp at hc hv; subst hc hv; exact .fz (.fn _)
  | 1, hc, hv => simp at hc hv; subst hc hv; exact .fz (.bool _)
  | n + 2, hc, hv => simp at hc
end
end Go.Proofs.YtoifmpiikopelaaFw
