/-
  An abstract walk, part W: a row of one's own is given up: from then on it is only read.
-/
import Derived.Test.YtoifmpiikopelaaFwV
namespace Go.Proofs.YtoifmpiikopelaaFw
open Go
set_option linter.unusedVariables false
set_option linter.unusedSimpArgs false

def frzC (st : St) (ds : List Nat) : PV → PV
  | .own b s off len => if ds.contains b then viewC st (.own b s off len) else .own b s off len
  | c => c
def frzOkC (st : St) (ds : List Nat) : PV → Prop
  | .own b s off len => if ds.contains b then viewOkC st (.own b s off len) else True
  | _ => True
def frzA (st : St) (ds : List Nat) : PV → PV
  | .agg cs => .agg (cs.map (frzC st ds))
  | p => frzC st ds p
def frzOkA (st : St) (ds : List Nat) : PV → Prop
  | .agg cs => ∀ c ∈ cs, frzOkC st ds c
  | p => frzOkC st ds p
def frzB (st : St) (ds : List Nat) : Blk → Blk
  | .box cs => .box (cs.map (frzC st ds))
  | k => k
def frzOkB (st : St) (ds : List Nat) : Blk → Prop
  | .box cs => ∀ c ∈ cs, frzOkC st ds c
  | _ => True
/-- Rows given up. -/
def AS.frz (ds : List Nat) (s : AS) : AS := { sl := s.sl.map fun x => (x.1, frzA (lk s.st) ds x.2), st := (delAll ds s.st).map fun x => (x.1, frzB (lk s.st) ds x.2), nx := s.nx, n := s.n }

theorem lk_map_snd {α : Type} (f : α → α) : ∀ (l : List (Nat × α)) (k : Nat), lk (l.map fun x => (x.1, f x.2)) k = (lk l k).map f
  | [], k => rfl
  | (j, x) :: l, k => by
    simp only [List.map_cons, lk]
    split
    · rfl
    · exact lk_map_snd f l k

section
variable {B : Base}

theorem frzC_rep {A : AF} {a : Act} {w : World} {F G : Nat → Prop} {m : Ids} (h : SimW B A a w F m) (ds : List Nat) {p : PV} {v : Value} (hp : Rep F w m p v) (ho : frzOkC A.st ds p)
    (g : Grow F w m G w m) (hG : ∀ b ∈ ds, ∀ x, m b = some (some x) → G x.block) : Rep G w m (frzC A.st ds p) v := by
  by_cases hown : ∃ b s off len, p = .own b s off len
  · obtain ⟨b, s, off, len, rfl⟩ := hown
    simp only [frzC, frzOkC] at ho ⊢
    by_cases hb : ds.contains b = true
    · rw [if_pos hb] at ho ⊢
      refine .fz (viewC_ok h (fun _ _ e => e) hp ho g.sub fun b' hb' x hx => ?_)
      simp only [idsC, List.mem_singleton] at hb'
      subst hb'
      exact hG _ (by simpa using hb) x hx
    · rw [if_neg hb]; exact hp.mono g
  · have : frzC A.st ds p = p := by cases p <;> first | rfl | exact (hown ⟨_, _, _, _, rfl⟩).elim
    rw [this]; exact hp.mono g

theorem frzA_rep {A : AF} {a : Act} {w : World} {F G : Nat → Prop} {m : Ids} (h : SimW B A a w F m) (ds : List Nat) {p : PV} {v : Value} (hp : Rep F w m p v) (ho : frzOkA A.st ds p)
    (g : Grow F w m G w m) (hG : ∀ b ∈ ds, ∀ x, m b = some (some x) → G x.block) : Rep G w m (frzA A.st ds p) v := by
  by_cases ha : ∃ cs, p = .agg cs
  · obtain ⟨cs, rfl⟩ := ha
    obtain ⟨vs, rfl, h1, h2, h3⟩ := hp.agg_inv
    simp only [frzA]
    refine .agg _ vs (by simpa using h1) h2 fun i c v hc hv => ?_
    rw [List.getElem?_map, Option.map_eq_some_iff] at hc
    obtain ⟨c0, hc0, rfl⟩ := hc
    exact frzC_rep h ds (h3 i c0 v hc0 hv) (ho c0 (List.mem_of_getElem? hc0)) g hG
  · have e1 : frzA A.st ds p = frzC A.st ds p := by cases p <;> first | rfl | exact (ha ⟨_, rfl⟩).elim
    have e2 : frzOkC A.st ds p := by cases p <;> first | exact ho | exact (ha ⟨_, rfl⟩).elim
    rw [e1]; exact frzC_rep h ds hp e2 g hG

theorem le_frz (s : AS) (ds : List Nat) (h1 : ∀ x ∈ s.sl, frzOkA (lk s.st) ds x.2) (h2 : ∀ x ∈ s.st, frzOkB (lk s.st) ds x.2) (h3 : ∀ b ∈ ds, (lk s.st b).isSome = true) : s.le B (s.frz ds) := by
  rintro a w ⟨F, m, h⟩
  let V : Nat → Prop := fun x => ∃ b y, b ∈ ds ∧ m b = some (some y) ∧ y.block = x
  have hV : ∀ b ∈ ds, ∃ k, lk s.st b = some k := fun b hb => Option.isSome_iff_exists.1 (h3 b hb)
  let G : Nat → Prop := fun x => F x ∨ V x
  have g : Grow F w m G w m := ⟨fun x hx => .inl hx, fun _ _ => rfl, fun _ _ hb => hb, fun _ c _ fr hh => ⟨c, fr, hh, rfl⟩⟩
  have hG : ∀ b ∈ ds, ∀ x, m b = some (some x) → G x.block := fun b hb x hx => .inr ⟨b, x, hb, hx, rfl⟩
  have st' : ∀ b k, lk (s.frz ds).st b = some k → b ∉ ds ∧ ∃ k0, lk s.st b = some k0 ∧ k = frzB (lk s.st) ds k0 := fun b k hb => by
    simp only [AS.frz, lk_map_snd, lk_delAll] at hb
    by_cases hd : b ∈ ds
    · simp [hd] at hb
    · rw [if_neg hd, Option.map_eq_some_iff] at hb
      obtain ⟨k0, hk, rfl⟩ := hb
      exact ⟨hd, k0, hk, rfl⟩
  refine ⟨G, m, h.defers, h.size, fun t => ?_, fun b k hb => ?_, fun b k x hb hx => ?_, fun b b' k k' x x' hb hb' hne hx hx' => ?_, h.used, fun x hx => ?_, ?_, h.wr⟩
  · show Rep G w m (getPV (lk (s.frz ds).sl t)) _
    simp only [AS.frz, lk_map_snd]
    cases ht : lk s.sl t with
    | none => exact .any _
    | some p =>
      have hp := h.slot t
      rw [show s.f.get t = p by show getPV (lk s.sl t) = p; rw [ht]; rfl] at hp
      exact frzA_rep h ds hp (h1 (t, p) (lk_mem ht)) g hG
  · obtain ⟨_, k0, hk, rfl⟩ := st' b k hb
    obtain ⟨ao, e1, e2⟩ := h.blk b k0 hk
    refine ⟨ao, e1, ?_⟩
    cases k0 with
    | row s' es => exact e2.mono g fun _ _ => rfl
    | box cs =>
      obtain ⟨b', vs, e, rfl, q1, q2, q3⟩ := e2
      refine ⟨b', vs, e, rfl, q1, by simpa using q2, fun i c v hc hv => ?_⟩
      rw [List.getElem?_map, Option.map_eq_some_iff] at hc
      obtain ⟨c0, hc0, rfl⟩ := hc
      obtain ⟨q4, q5⟩ := q3 i c0 v hc0 hv
      exact ⟨q4, frzC_rep h ds q5 (h2 (b, .box cs) (lk_mem hk) c0 (List.mem_of_getElem? hc0)) g hG⟩
  · obtain ⟨hd, k0, hk, rfl⟩ := st' b k hb
    refine ⟨?_, (h.own b k0 x hk hx).2⟩
    rintro (hx' | ⟨b', y, hb', hy, e⟩)
    · exact (h.own b k0 x hk hx).1 hx'
    · obtain ⟨k', hk'⟩ := hV b' hb'
      exact h.apart b b' _ _ x y hk hk' (fun e => hd (e ▸ hb')) hx hy e.symm
  · obtain ⟨_, k0, hk, _⟩ := st' b k hb
    obtain ⟨_, k0', hk', _⟩ := st' b' k' hb'
    exact h.apart b b' _ _ x x' hk hk' hne hx hx'
  · rcases hx with hx | ⟨b, y, hb, hy, rfl⟩
    · exact h.fz x hx
    · obtain ⟨k, hk⟩ := hV b hb
      exact ⟨h.lt hk hy, .inr (h.own b k y hk hy).2⟩
  · exact ⟨fun x hx => .inl (h.gr.sub x hx), h.gr.same, h.gr.ids, h.gr.size⟩

def wkR : List (List PV) → List (List PV) → Prop
  | [], [] => True
  | x :: xs, y :: ys => wkL x y ∧ wkR xs ys
  | _, _ => False
theorem wkR_get : ∀ {xs ys : List (List PV)}, wkR xs ys → xs.length = ys.length ∧ ∀ (i : Nat) (x y : List PV), xs[i]? = some x → ys[i]? = some y → wkL x y
  | [], [], _ => ⟨rfl, by simp⟩
  | x :: xs, y :: ys, h => by
    obtain ⟨h1, h2⟩ := wkR_get h.2
    refine ⟨by simp [h1], fun i a b ha hb => ?_⟩
    cases i with
    | zero => simp at ha hb; subst ha hb; exact h.1
    | succ i => simp at ha hb; exact h2 i a b ha hb
theorem wkR_rep (n : Nat) (x y : List PV) (h : wkL x y) : wkR (List.replicate n x) (List.replicate n y) := by
  induction n with
  | zero => trivial
  | succ n ih => exact ⟨h, ih⟩

/-- Less is said of a row's elements. -/
theorem le_row (s : AS) (b k : Nat) (es es' : List (List PV)) (hst : lk s.st b = some (.row k es)) (hw : wkR es es') : s.le B { s with st := ins b (.row k es') s.st } := by
  rintro a w ⟨F, m, h⟩
  have st' : ∀ c x, lk (ins b (.row k es') s.st) c = some x → ∃ x0, lk s.st c = some x0 ∧ ((c = b ∧ x = .row k es' ∧ x0 = .row k es) ∨ x = x0) := fun c x hc => by
    rw [lk_ins] at hc
    split at hc
    · rename_i e; subst e; cases hc; exact ⟨_, hst, .inl ⟨rfl, rfl, rfl⟩⟩
    · exact ⟨x, hc, .inr rfl⟩
  refine ⟨F, m, h.defers, h.size, h.slot, fun c x hc => ?_, fun c x y hc hy => ?_, fun c c' x x' y y' hc hc' hne hy hy' => ?_, h.used, h.fz, h.gr, h.wr⟩
  · obtain ⟨x0, h0, ⟨rfl, rfl, rfl⟩ | rfl⟩ := st' c x hc
    · obtain ⟨ao, e1, e2⟩ := h.blk _ _ h0
      refine ⟨ao, e1, ?_⟩
      obtain ⟨q1, q2⟩ := wkR_get hw
      obtain ⟨h1, h2, h3⟩ := e2
      have hel : ∀ (i : Nat) (y : List PV), es'[i]? = some y → ∃ x, es[i]? = some x ∧ wkL x y := fun i y hy => by
        have hi : i < es.length := by rw [q1]; exact (List.getElem?_eq_some_iff.1 hy).1
        exact ⟨es[i], List.getElem?_eq_getElem hi, q2 i _ _ (List.getElem?_eq_getElem hi) hy⟩
      refine ⟨fun e he => ?_, by omega, ?_⟩
      · obtain ⟨i, hi⟩ := List.mem_iff_getElem?.1 he
        obtain ⟨x, hx, hxy⟩ := hel i e hi
        rw [← (wkL_get hxy).1]
        exact h1 x (List.mem_of_getElem? hx)
      · rcases h3 with ⟨rfl, rfl⟩ | ⟨bb, o, vs, e, fr, rfl, h3, hfr, h4, h5⟩
        · exact .inl ⟨rfl, List.eq_nil_of_length_eq_zero (by simpa using q1.symm)⟩
        · refine .inr ⟨bb, o, vs, e, fr, rfl, h3, hfr, by rw [← q1]; exact h4, fun i j el cc hi hj => ?_⟩
          obtain ⟨x, hx, hxy⟩ := hel i el hi
          obtain ⟨w1, w2⟩ := wkL_get hxy
          have hj' : j < x.length := by rw [w1]; exact (List.getElem?_eq_some_iff.1 hj).1
          obtain ⟨v, hv, h6, h7⟩ := h5 i j x x[j] hx (List.getElem?_eq_getElem hj')
          exact ⟨v, hv, h6, wkC_rep (w2 j _ _ (List.getElem?_eq_getElem hj') hj) h7⟩
    · exact h.blk c x h0
  · obtain ⟨x0, h0, _⟩ := st' c x hc
    exact h.own c x0 y h0 hy
  · obtain ⟨x0, h0, _⟩ := st' c x hc
    obtain ⟨x0', h0', _⟩ := st' c' x' hc'
    exact h.apart c c' _ _ y y' h0 h0' hne hy hy'
end
end Go.Proofs.YtoifmpiikopelaaFw
