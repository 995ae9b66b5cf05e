/-
  An abstract walk, part R: code: what stands behind it, loops, and how a function's contract comes of its body.
-/
import Derived.Test.YtoifmpiikopelaaFwP
import Derived.Scope
namespace Go.Proofs.YtoifmpiikopelaaFw
open Go
set_option linter.unusedVariables false
set_option linter.unusedSimpArgs false

/-- What is to hold behind a piece of code: at its end, at a return, at each exit. -/
structure Post where
  n : AS → Prop
  r : AS → Prop
  x : List (Nat × (AS → Prop)) := []

def Post.at (Q : Post) : Exit → AS → Prop
  | .normal, s => Q.n s
  | .ret, s => Q.r s
  | .exit id, s => match lk Q.x id with
    | some p => p s
    | none => False
  | _, _ => False

def AWp (P : Program) (B : Base) (c : Code) (Q : Post) (s : AS) : Prop :=
  ∀ (a : Act) (w : World), Sim B s.f a w → c.wp P (fun e a' w' => ∃ s', Q.at e s' ∧ Sim B s'.f a' w') a w

/-- One state says no more than another. -/
def AS.le (B : Base) (s s' : AS) : Prop := ∀ (a : Act) (w : World), Sim B s.f a w → Sim B s'.f a w

section
variable {P : Program} {B : Base} {T : Tab} {Q : Post} {s : AS}

theorem AWp.mono {c : Code} {Q' : Post} (h : AWp P B c Q s) (hq : ∀ e s', Q.at e s' → Q'.at e s') : AWp P B c Q' s :=
  fun a w hs => wp_mono (h a w hs) fun e a' w' ⟨s', h1, h2⟩ => ⟨s', hq e s' h1, h2⟩

theorem awp_le {c : Code} {s' : AS} (hl : s.le B s') (h : AWp P B c Q s') : AWp P B c Q s := fun a w hs => h a w (hl a w hs)

theorem awp_skip (h : Q.n s) : AWp P B .skip Q s := fun a w hs => wp_skip ⟨s, h, hs⟩
theorem awp_label {l : Nat} (h : Q.n s) : AWp P B (.label l) Q s := fun a w hs => wp_label ⟨s, h, hs⟩
theorem awp_ret (h : Q.r s) : AWp P B .ret Q s := fun a w hs => wp_ret ⟨s, h, hs⟩
theorem awp_exit {id : Nat} {p : AS → Prop} (hp : lk Q.x id = some p) (h : p s) : AWp P B (.exit id) Q s :=
  fun a w hs => wp_exit ⟨s, by show (match lk Q.x id with | some p => p s | none => False); rw [hp]; exact h, hs⟩

theorem awp_seq {x y : Code} (h : AWp P B x { Q with n := fun s' => AWp P B y Q s' } s) : AWp P B (.seq x y) Q s := fun a w hs => by
  refine wp_seq (wp_mono (h a w hs) ?_)
  rintro e a' w' ⟨s', h1, h2⟩
  cases e with
  | normal => exact h1 a' w' h2
  | _ => exact ⟨s', h1, h2⟩

theorem awp_cond {c : Operand} {x y : Code} {b : Bool} (hc : ev s.get c = .bool b) (h1 : b = true → AWp P B x Q s) (h2 : b = false → AWp P B y Q s) : AWp P B (.cond c x y) Q s := fun a w hs => by
  obtain ⟨F, m, h⟩ := hs
  have := h.ev c
  rw [show ev s.f.get c = .bool b from hc] at this
  exact wp_cond_split this.bool_inv (fun e => h1 e a w ⟨F, m, h⟩) (fun e => h2 e a w ⟨F, m, h⟩)

/-- A test that is not known. -/
theorem awp_cond_any {c : Operand} {x y : Code} (hc : ev s.get c = .val .abool) (h1 : AWp P B x Q s) (h2 : AWp P B y Q s) : AWp P B (.cond c x y) Q s := fun a w hs => by
  obtain ⟨F, m, h⟩ := hs
  have := h.ev c
  rw [show ev s.f.get c = .val .abool from hc] at this
  obtain ⟨b, hb⟩ := this.val_inv
  exact wp_cond_split hb (fun e => h1 a w ⟨F, m, h⟩) (fun e => h2 a w ⟨F, m, h⟩)

theorem awp_block {id : Nat} {c : Code} (h : AWp P B c { Q with x := (id, Q.n) :: Q.x } s) : AWp P B (.block id c) Q s := fun a w hs => by
  refine wp_block (wp_mono (h a w hs) ?_)
  rintro e a' w' ⟨s', h1, h2⟩
  cases e with
  | exit id' =>
    simp only [Exit.inBlock]
    by_cases e : id' = id
    · subst e
      rw [if_pos rfl]
      simp only [Post.at, lk, if_true] at h1
      exact ⟨s', h1, h2⟩
    · rw [if_neg e]
      simp only [Post.at, lk, if_neg (fun h => e (Eq.symm h))] at h1
      exact ⟨s', h1, h2⟩
  | _ => exact ⟨s', h1, h2⟩

theorem awp_scope {c : Code} (h : AWp P B c Q s) : AWp P B (.scope c) Q s := fun a w hs => by
  refine wp_scope_straight (wp_mono (h a w hs) ?_)
  rintro e a' w' ⟨s', h1, h2⟩
  cases e with
  | goto l => exact h1.elim
  | _ => exact ⟨s', h1, h2⟩

/-- A loop: at each round's head the state is one of a family; a measure goes down. -/
theorem awp_loop {α : Type} {c : Code} (I : α → AS) (μ : α → Nat) (x0 : α) (h0 : s.le B (I x0))
    (round : ∀ x, AWp P B c { Q with n := fun s' => ∃ y, s'.le B (I y) ∧ μ y < μ x } (I x)) : AWp P B (.loop c) Q s := fun a w hs => by
  intro b k cs
  have key : ∀ n x a w, μ x = n → Sim B (I x).f a w →
      ∃ e a' w', (∃ s', Q.at e s' ∧ Sim B s'.f a' w') ∧ Arrives P (lone (b.at a (.code c :: .inLoop c :: k)) cs w) b k cs e a' w' := by
    intro n
    induction n using Nat.strongRecOn with
    | _ n ih =>
      intro x a w hn hI
      obtain ⟨e, a₁, w₁, ⟨s', hq, hs'⟩, harr⟩ := round x a w hI b (.inLoop c :: k) cs
      cases e with
      | normal =>
        obtain ⟨y, hle, hlt⟩ := hq
        obtain ⟨e₂, a₂, w₂, hq₂, harr₂⟩ := ih (μ y) (hn ▸ hlt) y a₁ w₁ rfl (hle a₁ w₁ hs')
        exact ⟨e₂, a₂, w₂, hq₂, .of_steps (Steps.trans harr (.one step_inLoop)) harr₂⟩
      | exit id => exact ⟨.exit id, a₁, w₁, ⟨s', hq, hs'⟩, .pass (x := .inLoop c) rfl (fun _ _ => .inl (by simp)) harr⟩
      | goto l => exact ⟨.goto l, a₁, w₁, ⟨s', hq, hs'⟩, .pass (x := .inLoop c) rfl (fun _ _ => .inl (by simp)) harr⟩
      | ret => exact ⟨.ret, a₁, w₁, ⟨s', hq, hs'⟩, .pass (x := .inLoop c) rfl (fun _ _ => .inl (by simp)) harr⟩
      | panic ch => exact ⟨.panic ch, a₁, w₁, ⟨s', hq, hs'⟩, .pass (x := .inLoop c) rfl (fun _ _ => .inl (by simp)) harr⟩
      | outgrown => exact ⟨.outgrown, a₁, w₁, ⟨s', hq, hs'⟩, .pass (x := .inLoop c) rfl (fun _ _ => .inl (by simp)) harr⟩
  obtain ⟨e, a', w', hq, harr⟩ := key _ x0 a w rfl (h0 a w hs)
  exact ⟨e, a', w', hq, .of_steps (.one step_loop) harr⟩

/-- A region without a draw. -/
theorem awp_region_a (hT : TabOk P T) {id : Nat} {ops : Array Oper} (h : ∀ K : AS → Prop, (∀ s', Q.n s' → K s') → evalE P T false (ops.toList.map (·.dst)) ops.toList s [] fun s' _ => K s') : AWp P B (.region id ops false) Q s := fun a w hs => by
  refine wp_region ?_
  have := eval_ok (B := B) hT ops.toList 0 s (fun s' _ => Q.n s') (fun j o hj => by rw [Array.getElem?_toList] at hj; rw [Nat.zero_add]; exact hj) (h Q.n fun _ h => h) a w hs
    (Q := fun e a' w' => ∃ s', Q.at e s' ∧ Sim B s'.f a' w') (fun s' a' w' hk hs' => ⟨s', hk, hs'⟩)
  rw [Array.length_toList] at this
  rw [List.range_eq_range']
  exact this

theorem awp_region (hT : TabOk P T) {id : Nat} {l : List Oper} (h : ∀ K : AS → Prop, (∀ s', Q.n s' → K s') → evalE P T false (l.map (·.dst)) l s [] fun s' _ => K s') : AWp P B (.region id l.toArray false) Q s :=
  awp_region_a hT h

/-! ### Less is said -/

def renG (l : List (Nat × Nat)) (b : Nat) : Nat := (lk l b).getD b

/-- Slot by slot: what is said of it is so. -/
def slotsLe (s : AS) (r : Nat → Nat) (S : Nat → Prop) : List (Nat × PV) → Prop
  | [] => True
  | (t, p) :: l => (wk (s.get t) (p.ren r) ∧ p.ok S) ∧ slotsLe s r S l

def blkLe : Option Blk → Blk → Prop
  | some k, k' => wkB k k'
  | none, _ => False

def storeLe (s : AS) (r : Nat → Nat) (S : Nat → Prop) : List (Nat × Blk) → Prop
  | [] => True
  | (b, k) :: l => (blkLe (lk s.st (r b)) (k.ren r) ∧ S b ∧ k.ok S) ∧ storeLe s r S l

theorem slotsLe_get {s : AS} {r : Nat → Nat} {S : Nat → Prop} : ∀ {l : List (Nat × PV)}, slotsLe s r S l → ∀ t p, lk l t = some p → wk (s.get t) (p.ren r) ∧ p.ok S
  | (j, q) :: l, h, t, p, hl => by
    simp only [lk] at hl
    split at hl
    · rename_i e; subst e; cases hl; exact h.1
    · exact slotsLe_get h.2 t p hl

theorem storeLe_get {s : AS} {r : Nat → Nat} {S : Nat → Prop} : ∀ {l : List (Nat × Blk)}, storeLe s r S l → ∀ b k, lk l b = some k → (∃ k0, lk s.st (r b) = some k0 ∧ wkB k0 (k.ren r)) ∧ S b ∧ k.ok S
  | (j, q) :: l, h, b, k, hl => by
    simp only [lk] at hl
    split at hl
    · rename_i e; subst e; cases hl
      refine ⟨?_, h.1.2⟩
      have := h.1.1
      unfold blkLe at this
      split at this
      · rename_i k0 _ _ e; exact ⟨_, e, this⟩
      · exact this.elim
    · exact storeLe_get h.2 b k hl

/-- Weaker, with ids renamed: 'l' tells which id of the old state an id of the new one is (itself, where it is not told). Ids below k0 are kept. -/
theorem AS.le_ren {s s' : AS} (l : List (Nat × Nat)) (hn : s'.n = s.n) (h1 : slotsLe s (renG l) (· < s'.nx) s'.sl) (h2 : storeLe s (renG l) (· < s'.nx) s'.st)
    (h3 : distinct (s'.st.map fun x => renG l x.1) = true) (h4 : ∀ b x, B.m0 b = some x → b < s'.nx ∧ renG l b = b) : s.le B s' := by
  rintro a w ⟨F, m, h⟩
  let m' : Ids := fun b => if b < s'.nx then m (renG l b) else none
  have hm : ∀ b, b < s'.nx → m' b = m (renG l b) := fun b hb => if_pos hb
  have hinj : ∀ b b' k k', lk s'.st b = some k → lk s'.st b' = some k' → renG l b = renG l b' → b = b' := by
    intro b b' k k' hb hb' e
    clear h1 h2 h4 h hm m' hn
    revert h3 hb hb'
    generalize s'.st = st
    intro h3 hb hb'
    induction st with
    | nil => cases hb
    | cons y st ih =>
      obtain ⟨j, q⟩ := y
      simp only [List.map_cons, distinct, Bool.and_eq_true, Bool.not_eq_true'] at h3
      have hnot : ∀ b k, lk st b = some k → renG l j ≠ renG l b := fun b k hb he => by
        have hc := h3.1
        have : renG l j ∈ st.map fun x => renG l x.1 := List.mem_map.2 ⟨(b, k), lk_mem hb, he.symm⟩
        simp [List.contains_iff_mem] at hc
        obtain ⟨y, hy, e1⟩ := List.mem_map.1 this
        exact hc y.1 y.2 hy e1
      simp only [lk] at hb hb'
      split at hb <;> split at hb'
      · rename_i e1 e2; rw [← e1, ← e2]
      · rename_i e1 e2; subst e1; exact (hnot b' k' hb' e).elim
      · rename_i e1 e2; subst e2; exact (hnot b k hb e.symm).elim
      · exact ih h3.2 hb hb'
  refine ⟨F, m', h.defers, by rw [h.size]; exact hn.symm, fun t => ?_, fun b k hb => ?_, fun b k x hb hx => ?_, fun b b' k k' x x' hb hb' hne hx hx' => ?_, fun b hb => ?_, h.fz, ?_, h.wr⟩
  · show Rep F w m' (getPV (lk s'.sl t)) _
    cases ht : lk s'.sl t with
    | none => exact .any _
    | some p =>
      obtain ⟨e1, e2⟩ := slotsLe_get h1 t p ht
      have := wk_rep e1 (h.slot t)
      exact this.unren (S := (· < s'.nx)) hm p rfl e2
  · obtain ⟨e1, e2, e3⟩ := storeLe_get h2 b k hb
    obtain ⟨k0, e0, e1⟩ := e1
    obtain ⟨ao, e4, e5⟩ := h.blk _ _ e0
    exact ⟨ao, by rw [hm b e2]; exact e4, (wkB_ok e1 e5).unren (S := (· < s'.nx)) hm e3⟩
  · obtain ⟨e1, e2, e3⟩ := storeLe_get h2 b k hb
    rw [hm b e2] at hx
    obtain ⟨k0, e0, e1⟩ := e1
    exact h.own _ _ x e0 hx
  · obtain ⟨e1, e2, e3⟩ := storeLe_get h2 b k hb
    obtain ⟨e1', e2', e3'⟩ := storeLe_get h2 b' k' hb'
    rw [hm b e2] at hx
    rw [hm b' e2'] at hx'
    obtain ⟨k0, e0, e1⟩ := e1
    obtain ⟨k0', e0', e1'⟩ := e1'
    exact h.apart _ _ _ _ x x' e0 e0' (fun e => hne (hinj b b' k k' hb hb' e)) hx hx'
  · exact Classical.byContradiction fun e => hb (if_neg e)
  · refine ⟨h.gr.sub, h.gr.same, fun b x hb => ?_, h.gr.size⟩
    obtain ⟨q1, q2⟩ := h4 b x hb
    rw [hm b q1, q2]
    exact h.gr.ids b x hb

theorem AS.le_refl (s : AS) : s.le B s := fun _ _ h => h
theorem AS.le_trans {s1 s2 s3 : AS} (h : s1.le B s2) (k : s2.le B s3) : s1.le B s3 := fun a w hs => k a w (h a w hs)

end
end Go.Proofs.YtoifmpiikopelaaFw
