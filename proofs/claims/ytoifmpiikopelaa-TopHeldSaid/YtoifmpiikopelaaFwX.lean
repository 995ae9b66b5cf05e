/-
  An abstract walk, part X: rows of rows: nil rows that are to be appended to; rows of a row given up.
-/
import Derived.Test.YtoifmpiikopelaaFwW
namespace Go.Proofs.YtoifmpiikopelaaFw
open Go
set_option linter.unusedVariables false
set_option linter.unusedSimpArgs false

def nilRow (c sz n : Nat) : List (List PV) := (List.range n).map fun i => [.own (c + i) sz 0 0]
def nilSt (c sz n : Nat) (l : List (Nat × Blk)) : List (Nat × Blk) := (List.range n).map (fun i => (c + i, Blk.row sz [])) ++ l
theorem lk_append {α : Type} : ∀ (l l' : List (Nat × α)) (k : Nat), lk (l ++ l') k = match lk l k with | some v => some v | none => lk l' k
  | [], l', k => rfl
  | (j, x) :: l, l', k => by
    simp only [List.cons_append, lk]
    split
    · rfl
    · exact lk_append l l' k
theorem lk_range_map (f : Nat → Blk) (c : Nat) : ∀ (l : List Nat) (k : Nat), lk (l.map fun i => (c + i, f i)) k = if c ≤ k ∧ k - c ∈ l then some (f (k - c)) else none
  | [], k => by simp [lk]
  | i :: l, k => by
    simp only [List.map_cons, lk, lk_range_map f c l k]
    by_cases h : c + i = k
    · subst h; simp
    · rw [if_neg h]
      by_cases h1 : c ≤ k ∧ k - c ∈ l
      · rw [if_pos h1, if_pos ⟨h1.1, by simp [h1.2]⟩]
      · rw [if_neg h1, if_neg]
        rintro ⟨h2, h3⟩
        rcases List.mem_cons.1 h3 with h3 | h3
        · omega
        · exact h1 ⟨h2, h3⟩
theorem lk_nilSt (c sz n : Nat) (l : List (Nat × Blk)) (k : Nat) : lk (nilSt c sz n l) k = if c ≤ k ∧ k < c + n then some (.row sz []) else lk l k := by
  unfold nilSt
  rw [lk_append, lk_range_map (fun _ => .row sz [])]
  by_cases h : c ≤ k ∧ k - c ∈ List.range n
  · rw [if_pos h, if_pos ⟨h.1, by have := List.mem_range.1 h.2; omega⟩]
  · rw [if_neg h, if_neg]
    rintro ⟨h1, h2⟩
    exact h ⟨h1, List.mem_range.2 (by omega)⟩

section
variable {B : Base}

/-- Elements of a row that are nil become rows of their own. -/
theorem le_nils (s : AS) (b sz n : Nat) (hst : lk s.st b = some (.row 1 (List.replicate n [.sl true sz []]))) : s.le B { s with st := nilSt s.nx sz n (ins b (.row 1 (nilRow s.nx sz n)) s.st), nx := s.nx + n } := by
  rintro a w ⟨F, m, h⟩
  let m' : Ids := fun x => if s.nx ≤ x ∧ x < s.nx + n then some none else m x
  have hm : ∀ x, x < s.nx → m' x = m x := fun x hx => if_neg (by omega)
  have hlt : ∀ x k, lk s.st x = some k → x < s.nx := fun x k hx => by
    obtain ⟨ao, e, _⟩ := h.blk x k hx
    exact h.used x (by rw [e]; simp)
  have g : Grow F w m F w m' := ⟨fun _ h => h, fun _ _ => rfl, fun x y hx => by
    rw [hm x (h.used x (by rw [hx]; simp))]; exact hx, fun _ c _ fr hh => ⟨c, fr, hh, rfl⟩⟩
  have st' : ∀ c x, lk (nilSt s.nx sz n (ins b (.row 1 (nilRow s.nx sz n)) s.st)) c = some x → (m' c = some none ∧ x = .row sz []) ∨ (c = b ∧ x = .row 1 (nilRow s.nx sz n) ∧ m' c = m c) ∨ (lk s.st c = some x ∧ m' c = m c) := fun c x hc => by
    rw [lk_nilSt] at hc
    split at hc
    · rename_i e; cases hc; exact .inl ⟨if_pos e, rfl⟩
    · rename_i e
      rw [lk_ins] at hc
      split at hc
      · rename_i e2; subst e2; cases hc; exact .inr (.inl ⟨rfl, rfl, if_neg e⟩)
      · exact .inr (.inr ⟨hc, if_neg e⟩)
  have st2 : ∀ c x y, lk (nilSt s.nx sz n (ins b (.row 1 (nilRow s.nx sz n)) s.st)) c = some x → m' c = some (some y) → m c = some (some y) ∧ ∃ x0, lk s.st c = some x0 := fun c x y hc hy => by
    rcases st' c x hc with ⟨e, _⟩ | ⟨rfl, _, e⟩ | ⟨h0, e⟩
    · rw [e] at hy; cases hy
    · rw [e] at hy; exact ⟨hy, _, hst⟩
    · rw [e] at hy; exact ⟨hy, _, h0⟩
  refine ⟨F, m', h.defers, h.size, fun t => (h.slot t).mono g, fun c x hc => ?_, fun c x y hc hy => ?_, fun c c' x x' y y' hc hc' hne hy hy' => ?_, fun c hc => ?_, h.fz, ⟨h.gr.sub, h.gr.same, fun x y hx => ?_, h.gr.size⟩, h.wr⟩
  · rcases st' c x hc with ⟨e, rfl⟩ | ⟨rfl, rfl, e⟩ | ⟨h0, e⟩
    · exact ⟨none, e, by simp, by simp, .inl ⟨rfl, rfl⟩⟩
    · obtain ⟨ao, e1, e2⟩ := h.blk _ _ hst
      refine ⟨ao, by rw [e]; exact e1, ?_⟩
      obtain ⟨h1, h2, h3⟩ := e2
      refine ⟨fun e he => ?_, by simpa [nilRow] using h2, ?_⟩
      · obtain ⟨i, _, rfl⟩ := List.mem_map.1 he
        rfl
      · rcases h3 with ⟨rfl, h3⟩ | ⟨bb, o, vs, e, fr, rfl, h3, hfr, h4, h5⟩
        · refine .inl ⟨rfl, ?_⟩
          have : n = 0 := by simpa using h3
          subst this; rfl
        · refine .inr ⟨bb, o, vs, e, fr, rfl, h3, hfr, by simpa [nilRow] using h4, fun i j el cc hi hj => ?_⟩
          have hin : i < n := by have := (List.getElem?_eq_some_iff.1 hi).1; simpa [nilRow] using this
          have hel : el = [.own (s.nx + i) sz 0 0] := by
            simp [nilRow, hin] at hi
            exact hi.symm
          subst hel
          cases j with
          | succ j => simp at hj
          | zero =>
            simp at hj; subst hj
            obtain ⟨v, hv, h6, h7⟩ := h5 i 0 [.sl true sz []] (.sl true sz []) (by simp [hin]) rfl
            refine ⟨v, hv, h6, ?_⟩
            have := h7.sl_inv
            cases this with
            | sl _ _ _ a cap val hl ht =>
              have : cap = 0 := ht rfl
              subst this
              exact .own _ _ _ _ 0 _ (by simp) (by simp) (by simp)
    · obtain ⟨ao, e1, e2⟩ := h.blk _ _ h0
      exact ⟨ao, by rw [e]; exact e1, e2.mono g fun _ _ => rfl⟩
  · obtain ⟨q, x0, h0⟩ := st2 c x y hc hy
    exact h.own c x0 y h0 q
  · obtain ⟨q, x0, h0⟩ := st2 c x y hc hy
    obtain ⟨q', x0', h0'⟩ := st2 c' x' y' hc' hy'
    exact h.apart c c' _ _ y y' h0 h0' hne q q'
  · show c < s.nx + n
    by_cases e : s.nx ≤ c ∧ c < s.nx + n
    · exact e.2
    · have : c < s.nx := h.used c (by rw [show m' c = m c from if_neg e] at hc; exact hc)
      omega
  · rw [hm x (h.used x (by rw [h.gr.ids x y hx]; simp))]
    exact h.gr.ids x y hx

/-- One more id, that stands for a nil row. -/
theorem le_nil1 (s : AS) (sz : Nat) : s.le B { s with st := ins s.nx (.row sz []) s.st, nx := s.nx + 1 } := by
  rintro a w ⟨F, m, h⟩
  let m' : Ids := fun x => if x = s.nx then some none else m x
  have hm : ∀ x, x < s.nx → m' x = m x := fun x hx => if_neg (by omega)
  have hlt : ∀ x k, lk s.st x = some k → x < s.nx := fun x k hx => by
    obtain ⟨ao, e, _⟩ := h.blk x k hx
    exact h.used x (by rw [e]; simp)
  have g : Grow F w m F w m' := ⟨fun _ h => h, fun _ _ => rfl, fun x y hx => by
    rw [hm x (h.used x (by rw [hx]; simp))]; exact hx, fun _ c _ fr hh => ⟨c, fr, hh, rfl⟩⟩
  have st' : ∀ c x, lk (ins s.nx (.row sz []) s.st) c = some x → (c = s.nx ∧ m' c = some none ∧ x = .row sz []) ∨ (lk s.st c = some x ∧ m' c = m c) := fun c x hc => by
    rw [lk_ins] at hc
    split at hc
    · rename_i e; cases hc; exact .inl ⟨e, if_pos e, rfl⟩
    · rename_i e; exact .inr ⟨hc, if_neg e⟩
  refine ⟨F, m', h.defers, h.size, fun t => (h.slot t).mono g, fun c x hc => ?_, fun c x y hc hy => ?_, fun c c' x x' y y' hc hc' hne hy hy' => ?_, fun c hc => ?_, h.fz, ⟨h.gr.sub, h.gr.same, fun x y hx => ?_, h.gr.size⟩, h.wr⟩
  · rcases st' c x hc with ⟨_, e, rfl⟩ | ⟨h0, e⟩
    · exact ⟨none, e, by simp, by simp, .inl ⟨rfl, rfl⟩⟩
    · obtain ⟨ao, e1, e2⟩ := h.blk _ _ h0
      exact ⟨ao, by rw [e]; exact e1, e2.mono g fun _ _ => rfl⟩
  · rcases st' c x hc with ⟨_, e, _⟩ | ⟨h0, e⟩
    · rw [e] at hy; cases hy
    · rw [e] at hy; exact h.own c x y h0 hy
  · rcases st' c x hc with ⟨_, e, _⟩ | ⟨h0, e⟩
    · rw [e] at hy; cases hy
    · rcases st' c' x' hc' with ⟨_, e', _⟩ | ⟨h0', e'⟩
      · rw [e'] at hy'; cases hy'
      · rw [e] at hy; rw [e'] at hy'
        exact h.apart c c' _ _ y y' h0 h0' hne hy hy'
  · show c < s.nx + 1
    by_cases e : c = s.nx
    · omega
    · have : c < s.nx := h.used c (by rw [show m' c = m c from if_neg e] at hc; exact hc)
      omega
  · rw [hm x (h.used x (by rw [h.gr.ids x y hx]; simp))]
    exact h.gr.ids x y hx

/-- The rows that a row's elements are, given up. -/
theorem le_frzR (s : AS) (ds : List Nat) (b k : Nat) (es : List (List PV)) (hst : lk s.st b = some (.row k es)) (hb : b ∉ ds) (h2 : ∀ e ∈ es, ∀ c ∈ e, frzOkC (lk s.st) ds c) (h3 : ∀ b ∈ ds, (lk s.st b).isSome = true) :
    s.le B { s with st := ins b (.row k (es.map fun e => e.map (frzC (lk s.st) ds))) (delAll ds s.st) } := by
  rintro a w ⟨F, m, h⟩
  let V : Nat → Prop := fun x => ∃ b y, b ∈ ds ∧ m b = some (some y) ∧ y.block = x
  have hV : ∀ b ∈ ds, ∃ k, lk s.st b = some k := fun b hb => Option.isSome_iff_exists.1 (h3 b hb)
  let G : Nat → Prop := fun x => F x ∨ V x
  have g : Grow F w m G w m := ⟨fun x hx => .inl hx, fun _ _ => rfl, fun _ _ hb => hb, fun _ c _ fr hh => ⟨c, fr, hh, rfl⟩⟩
  have hG : ∀ b ∈ ds, ∀ x, m b = some (some x) → G x.block := fun b hb x hx => .inr ⟨b, x, hb, hx, rfl⟩
  have st' : ∀ c x, lk (ins b (.row k (es.map fun e => e.map (frzC (lk s.st) ds))) (delAll ds s.st)) c = some x → c ∉ ds ∧ ∃ x0, lk s.st c = some x0 ∧ ((c = b ∧ x = .row k (es.map fun e => e.map (frzC (lk s.st) ds)) ∧ x0 = .row k es) ∨ x = x0) := fun c x hc => by
    rw [lk_ins] at hc
    split at hc
    · rename_i e; subst e; cases hc; exact ⟨hb, _, hst, .inl ⟨rfl, rfl, rfl⟩⟩
    · rw [lk_delAll] at hc
      split at hc
      · cases hc
      · rename_i e; exact ⟨e, x, hc, .inr rfl⟩
  refine ⟨G, m, h.defers, h.size, fun t => (h.slot t).mono g, fun c x hc => ?_, fun c x y hc hy => ?_, fun c c' x x' y y' hc hc' hne hy hy' => ?_, h.used, fun x hx => ?_, ?_, h.wr⟩
  · obtain ⟨_, x0, h0, ⟨rfl, rfl, rfl⟩ | rfl⟩ := st' c x hc
    · obtain ⟨ao, e1, h1, h5, h4⟩ := h.blk _ _ h0
      refine ⟨ao, e1, fun e he => ?_, by simpa using h5, ?_⟩
      · obtain ⟨e0, he0, rfl⟩ := List.mem_map.1 he
        simpa using h1 e0 he0
      · rcases h4 with ⟨rfl, rfl⟩ | ⟨bb, o, vs, e, fr, rfl, q1, qfr, q2, q3⟩
        · exact .inl ⟨rfl, rfl⟩
        · refine .inr ⟨bb, o, vs, e, fr, rfl, q1, qfr, by simpa using q2, fun i j el cc hi hj => ?_⟩
          rw [List.getElem?_map, Option.map_eq_some_iff] at hi
          obtain ⟨e0, hi, rfl⟩ := hi
          rw [List.getElem?_map, Option.map_eq_some_iff] at hj
          obtain ⟨c0, hj, rfl⟩ := hj
          obtain ⟨v, hv, h6, h7⟩ := q3 i j e0 c0 hi hj
          exact ⟨v, hv, h6, frzC_rep h ds h7 (h2 e0 (List.mem_of_getElem? hi) c0 (List.mem_of_getElem? hj)) g hG⟩
    · obtain ⟨ao, e1, e2⟩ := h.blk _ _ h0
      exact ⟨ao, e1, e2.mono g fun _ _ => rfl⟩
  · obtain ⟨hd, x0, h0, _⟩ := st' c x hc
    refine ⟨?_, (h.own c x0 y h0 hy).2⟩
    rintro (hx' | ⟨b', z, hb', hz, e⟩)
    · exact (h.own c x0 y h0 hy).1 hx'
    · obtain ⟨k', hk'⟩ := hV b' hb'
      exact h.apart c b' _ _ y z h0 hk' (fun e => hd (e ▸ hb')) hy hz e.symm
  · obtain ⟨_, x0, h0, _⟩ := st' c x hc
    obtain ⟨_, x0', h0', _⟩ := st' c' x' hc'
    exact h.apart c c' _ _ y y' h0 h0' hne hy hy'
  · rcases hx with hx | ⟨b, y, hb, hy, rfl⟩
    · exact h.fz x hx
    · obtain ⟨k, hk⟩ := hV b hb
      exact ⟨h.lt hk hy, .inr (h.own b k y hk hy).2⟩
  · exact ⟨fun x hx => .inl (h.gr.sub x hx), h.gr.same, h.gr.ids, h.gr.size⟩
end
end Go.Proofs.YtoifmpiikopelaaFw
