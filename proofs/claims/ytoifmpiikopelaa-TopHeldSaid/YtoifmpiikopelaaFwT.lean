/-
  An abstract walk, part T: the rules in the form in which walks use them; numbers that do not wrap; lists.
-/
import Derived.Test.YtoifmpiikopelaaFwS
import Derived.Test.YtoifmpiikopelaaFwQ
namespace Go.Proofs.YtoifmpiikopelaaFw
open Go
set_option linter.unusedVariables false
set_option linter.unusedSimpArgs false

section
variable {P : Program} {B : Base} {T : Tab} {Q : Post} {s : AS}

/-- What the base knows: its ids are those that were lent. -/
def Lent (B : Base) (n : Nat) : Prop := ∀ b x, B.m0 b = some x → b < n

theorem le_intro {s' : AS} {n0 : Nat} (hB : Lent B n0) (l : List (Nat × Nat)) (h0 : n0 ≤ s'.nx) (hl : ∀ b, b < n0 → renG l b = b) (hn : s'.n = s.n) (h1 : slotsLe s (renG l) (· < s'.nx) s'.sl) (h2 : storeLe s (renG l) (· < s'.nx) s'.st)
    (h3 : distinct (s'.st.map fun x => renG l x.1) = true) : s.le B s' :=
  AS.le_ren l hn h1 h2 h3 fun b x hb => ⟨Nat.lt_of_lt_of_le (hB b x hb) h0, hl b (hB b x hb)⟩

/-- A loop, with a condition on the family's index. -/
theorem awp_for {α : Type} {c : Code} (I : α → AS) (Pre : α → Prop) (μ : α → Nat) (x0 : α) (hp : Pre x0) (h0 : s.le B (I x0))
    (round : ∀ x, Pre x → AWp P B c { Q with n := fun s' => ∃ y, Pre y ∧ μ y < μ x ∧ s'.le B (I y) } (I x)) : AWp P B (.loop c) Q s := by
  refine awp_loop (α := { x // Pre x }) (fun x => I x.1) (fun x => μ x.1) ⟨x0, hp⟩ h0 fun x => ?_
  refine (round x.1 x.2).mono fun e s' he => ?_
  cases e with
  | normal =>
    obtain ⟨y, h1, h2, h3⟩ := he
    exact ⟨⟨y, h1⟩, h3, h2⟩
  | _ => exact he

/-- Ways meet: behind the first piece the state is said to be this one. -/
theorem awp_seq_to {x y : Code} (s' : AS) (h1 : AWp P B x { Q with n := fun s1 => s1.le B s' } s) (h2 : AWp P B y Q s') : AWp P B (.seq x y) Q s :=
  awp_seq (h1.mono fun e s1 he => by
    cases e with
    | normal => exact awp_le he h2
    | _ => exact he)

/-- A region that draws its order. -/
theorem draw_any (hT : TabOk P T) {ops : Array Oper} (hb : slotsB ops = true)
    (h : ∀ K : AS → Prop, (∀ s', Q.n s' → K s') → ∀ C : Trace → Prop, (∀ tr, commB (pres ops.toList []) tr = true → C tr) → evalE P T true (ops.toList.map (·.dst)) ops.toList s [] fun s' tr => C tr ∧ K s') : ∀ a w, Sim B s.f a w → wpAny P .any ops (fun e a' w' => ∃ s', Q.at e s' ∧ Sim B s'.f a' w') ops.size (Array.replicate ops.size false) a { w with drawn := w.drawn + 1 } := fun a w hs => by
  obtain ⟨es, s', h1, h2, h3⟩ := eval_run _ _ _ (h Q.n (fun _ h => h) (fun tr => commB (pres ops.toList []) tr = true) fun _ h => h)
  rw [List.nil_append] at h2
  obtain ⟨F, m, hsim⟩ := hs
  have hd := hsim.drew
  refine (any_order (B := B) hT h1 hb h2 (fun a' w' hs' => ⟨s', h3, hs'⟩) _ _ a _ (by simp) (fun i o ho hl => ?_) ?_ ⟨F, m, hd.congr (fun t => ?_) (fun b => ?_) (fun b hb => .inl hb) rfl⟩)
  · simp [Array.getD_eq_getD_getElem?, Array.getElem?_replicate] at hl
    split at hl <;> simp at hl
  · exact Nat.le_trans (List.length_filter_le _ _) (by simp)
  · show lastW _ _ _ _ = s.get t
    have : ∀ n v0, lastW (wS ops.toList es t) (fun i => (Array.replicate ops.size false).getD i false) n v0 = v0 := by
      intro n v0
      induction n with
      | zero => rfl
      | succ n ih =>
        simp only [lastW]
        rw [if_neg, ih]
        simp [Array.getD_eq_getD_getElem?, Array.getElem?_replicate]
        split <;> simp
    exact this _ _
  · show lastW _ _ _ _ = lk s.st b
    have : ∀ n v0, lastW (wI es b) (fun i => (Array.replicate ops.size false).getD i false) n v0 = v0 := by
      intro n v0
      induction n with
      | zero => rfl
      | succ n ih =>
        simp only [lastW]
        rw [if_neg, ih]
        simp [Array.getD_eq_getD_getElem?, Array.getElem?_replicate]
        split <;> simp
    exact this _ _

theorem awp_draw_a (hT : TabOk P T) (hm : P.follows .mixedOrders = true) {id : Nat} {ops : Array Oper} (hb : slotsB ops = true)
    (h : ∀ K : AS → Prop, (∀ s', Q.n s' → K s') → ∀ C : Trace → Prop, (∀ tr, commB (pres ops.toList []) tr = true → C tr) → evalE P T true (ops.toList.map (·.dst)) ops.toList s [] fun s' tr => C tr ∧ K s') : AWp P B (.region id ops true) Q s :=
  fun a w hs => wp_region_any hm (draw_any hT hb h a w hs)

theorem awp_draw (hT : TabOk P T) (hm : P.follows .mixedOrders = true) {id : Nat} {l : List Oper} (hb : slotsB l.toArray = true)
    (h : ∀ K : AS → Prop, (∀ s', Q.n s' → K s') → ∀ C : Trace → Prop, (∀ tr, commB (pres l []) tr = true → C tr) → evalE P T true (l.map (·.dst)) l s [] fun s' tr => C tr ∧ K s') : AWp P B (.region id l.toArray true) Q s :=
  awp_draw_a hT hm hb h

/-- A function, by the walk of its body. -/
theorem fn_walk (hT : TabOk P T) {f : FuncId} {fn : Func} {c : Code} {args : List PV} {st0 st1 : List (Nat × Blk)} {res : PV} {n : Nat} {rs : Array ResultVar} (hf : P.funcs[f]? = some fn) (hb : fn.body = some c) (hn : (fn.name == "runtime.NumGoroutine") = false)
    (hnt : fn.ntmps = n) (hr : fn.results = rs) (hl : args.length ≤ n)
    (h : ∀ B : Base, Lent B st0.length → AWp P B c { n := endOk T rs.toList st0.length res st1, r := endOk T rs.toList st0.length res st1 } (initS args st0 n)) : FnS P f args st0 res st1 := by
  subst hnt hr
  exact fn_of hT hf hb hn hl h

theorem PV.fz_all (p : PV) : p.fz = true → (∀ r, p.ren r = p) ∧ ∀ S, p.ok S := by
  have : ∀ n (p : PV), SizeOf.sizeOf p ≤ n → p.fz = true → (∀ r, p.ren r = p) ∧ ∀ S, p.ok S := by
    intro n
    induction n with
    | zero => intro p hp; cases p <;> simp at hp
    | succ n ih =>
      intro p hp hz
      have key : ∀ cs : List PV, SizeOf.sizeOf cs ≤ n → (∀ c ∈ cs, c.fz = true) → (∀ r, cs.map (PV.ren r) = cs) ∧ ∀ S, ∀ c ∈ cs, c.ok S := by
        intro cs
        induction cs with
        | nil => intro _ _; exact ⟨fun _ => rfl, by simp⟩
        | cons c cs ih2 =>
          intro h hc
          simp at h
          have h1 := ih c (by omega) (hc c (by simp))
          have h2 := ih2 (by omega) fun d hd => hc d (by simp [hd])
          refine ⟨fun r => by rw [List.map_cons, h1.1 r, h2.1 r], fun S d hd => ?_⟩
          rcases List.mem_cons.1 hd with rfl | hd
          · exact h1.2 S
          · exact h2.2 S d hd
      cases p <;> simp only [PV.ren, renL_map, PV.ok, okL_iff] <;> simp at hp <;> try (exact ⟨fun _ => trivial, fun _ => trivial⟩)
      · rw [PV.fz, fzL_iff] at hz
        have := key _ (by omega) hz
        exact ⟨fun r => by rw [this.1 r], this.2⟩
      · rw [PV.fz, fzL_iff] at hz
        have := key _ (by omega) hz
        exact ⟨fun r => by rw [this.1 r], this.2⟩
      · simp [PV.fz] at hz
      · simp [PV.fz] at hz
      · simp [PV.fz] at hz
      · simp [PV.fz] at hz
      · simp [PV.fz] at hz
        obtain ⟨rfl, rfl⟩ := hz
        exact ⟨fun r => rfl, fun S => ⟨by simp, by simp⟩⟩
  exact this _ p (Nat.le_refl _)

/-- Frozen views of what is handed on. -/
def argsV (st : St) : List PV → List PV → Prop
  | [], [] => True
  | x :: xs, p :: ps => (x.fz = true ∧ wk (view st p) x ∧ viewOk st p) ∧ argsV st xs ps
  | _, _ => False

def seenV : List PV → List Nat
  | [] => []
  | p :: ps => ids p ++ seenV ps

theorem argsV_ok {st : St} {r : Nat → Nat} : ∀ {xs ps : List PV}, argsV st xs ps → argsOk st 0 r xs ps ∧ seenIds xs ps = seenV ps
  | [], [], _ => ⟨trivial, rfl⟩
  | x :: xs, p :: ps, h => by
    obtain ⟨h1, h2⟩ := argsV_ok (r := r) h.2
    refine ⟨⟨?_, h1⟩, ?_⟩
    · unfold argOk; rw [if_pos h.1.1]; exact h.1.2
    · simp only [seenIds, seenV, h.1.1, if_true, h2]

/-- A call that borrows nothing, of frozen things. -/
theorem callK_simple {st : St} {c : Nat} {f : FuncId} {first cap xs : List PV} {K : R → Prop} {args : List PV} {res : PV} (h : FnS P f args [] res []) (ha : argsV st args (first ++ xs ++ cap)) (hz : res.fz = true)
    (hK : ∀ g, K { g := g, v := res, dels := if res.scalar = true then [] else seenV (first ++ xs ++ cap), puts := [] }) : callK P st c (.fn (.func f) first cap) xs K := by
  obtain ⟨h1, h2⟩ := argsV_ok (r := ({ args := args, res := res } : CallO).ren c) ha
  refine ⟨f, first, cap, { args := args, res := res }, rfl, .inl h, ⟨h1, trivial, rfl, rfl, rfl, by simp, trivial, (PV.fz_all res hz).2 _, trivial⟩, ?_⟩
  have e : (fCall st c { args := args, res := res } (first ++ xs ++ cap)) = { g := (fCall st c { args := args, res := res } (first ++ xs ++ cap)).g, v := res, dels := if res.scalar = true then [] else seenV (first ++ xs ++ cap), puts := [] } := by
    simp only [fCall, (PV.fz_all res hz).1, h2, List.nil_append, List.map_nil, CallO.keep, List.isEmpty_nil, Bool.true_and]
  rw [e]
  exact hK _

end

theorem wrap_i64 {n : Int} (h1 : -9223372036854775808 ≤ n) (h2 : n ≤ 9223372036854775807) : IntKind.i64.wrap n = n := by
  simp [IntKind.wrap, IntKind.bits, IntKind.signed]; omega
theorem wrap_u8 {n : Int} (h1 : 0 ≤ n) (h2 : n ≤ 255) : IntKind.u8.wrap n = n := by
  simp [IntKind.wrap, IntKind.bits, IntKind.signed]; omega
theorem wrap_u16 {n : Int} (h1 : 0 ≤ n) (h2 : n ≤ 65535) : IntKind.u16.wrap n = n := by
  simp [IntKind.wrap, IntKind.bits, IntKind.signed]; omega
theorem wrap_u32 {n : Int} (h1 : 0 ≤ n) (h2 : n ≤ 4294967295) : IntKind.u32.wrap n = n := by
  simp [IntKind.wrap, IntKind.bits, IntKind.signed]; omega

theorem getD_map {α : Type} (f : α → List PV) (l : List α) (i : Nat) (h : i < l.length) : (l.map f).getD i [] = f l[i] := by
  simp [List.getD, h]
end Go.Proofs.YtoifmpiikopelaaFw
