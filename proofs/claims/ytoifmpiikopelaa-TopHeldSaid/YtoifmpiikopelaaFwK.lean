/-
  An abstract walk, part K: append and copy.
-/
import Derived.Test.YtoifmpiikopelaaFwJ
namespace Go.Proofs.YtoifmpiikopelaaFw
open Go
set_option linter.unusedVariables false
set_option linter.unusedSimpArgs false

/-- What a slice's elements are: those of a frozen one, those of a row. -/
def rowOf (st : St) : PV → Option (Nat × List (List PV) × Prop)
  | .sl _ s es => some (s, es, True)
  | .own b s off len => match st b with
    | some (.row s' es) => some (s, (es.drop off).take len, s' = s ∧ off + len ≤ es.length)
    | _ => none
  | _ => none

def fAppend (T : Tab) (st : St) (c : Nat) (t tx : TypeId) (s x : PV) : Option R :=
  match (T t).k, (T tx).k with
  | .slice e, .slice _ => match rowOf st s, rowOf st x with
    | some (ss, es, gs), some (sx, xs, gx) =>
      let g := (T e).k ≠ .other ∧ 0 < (T e).size ∧ gs ∧ gx ∧ (es = [] ∨ ss = (T e).size) ∧ (xs = [] ∨ sx = (T e).size) ∧ (es.length + xs.length) * (T e).bytes ≤ 2 ^ 47 ∧ es.length + xs.length ≤ 2 ^ 47
      match s with
      | .sl true _ es0 => some { g := g ∧ (es0 = [] ∨ xs ≠ []), v := .own c (T e).size 0 (es.length + xs.length), puts := [(c, .row (T e).size (es ++ xs))] }
      | .own b _ _ _ => some { g := g ∧ ss = (T e).size, v := .own c (T e).size 0 (es.length + xs.length), dels := [b], puts := [(c, .row (T e).size (es ++ xs))] }
      | _ => none
    | _, _ => none
  | _, _ => none

/-- copy: into a row; neither side is empty. -/
def fCopy (T : Tab) (st : St) (t tx : TypeId) (d x : PV) : Option R :=
  match (T t).k, (T tx).k, d with
  | .slice e, .slice _, .own b s off len => match st b, rowOf st x with
    | some (.row s' es), some (sx, xs, gx) =>
      some { g := (T e).k ≠ .other ∧ (T e).size = 1 ∧ s' = 1 ∧ s = 1 ∧ gx ∧ sx = 1 ∧ off ≤ es.length ∧ off + len ≤ 2 ^ 47 ∧ 0 < xs.length ∧ 0 < len, v := .int .i64 (min xs.length len : Nat), puts := [(b, .row s' (es.take off ++ (xs.take len ++ es.drop (off + min xs.length len))))] }
    | _, _ => none
  | _, _, _ => none

section
variable {P : Program} {B : Base} {A : AF} {a : Act} {w : World} {F : Nat → Prop} {m : Ids} {T : Tab} {d : Option Tmp} {u : Nat → Prop} {c : Nat}

/-- Values that lie one element behind the other. -/
def RowRep (F : Nat → Prop) (w : World) (m : Ids) (s : Nat) (es : List (List PV)) (vs : List Value) : Prop :=
  vs.length = es.length * s ∧ (∀ e ∈ es, e.length = s) ∧ (∀ v ∈ vs, v.oneCell' = true) ∧
    ∀ (i j : Nat) (el : List PV) (c : PV), es[i]? = some el → el[j]? = some c → ∃ v, vs[i * s + j]? = some v ∧ Rep F w m c v

theorem RowRep.mono {F F' : Nat → Prop} {w w' : World} {m m' : Ids} (g : Grow F w m F' w' m') {s : Nat} {es : List (List PV)} {vs : List Value} (h : RowRep F w m s es vs) : RowRep F' w' m' s es vs :=
  ⟨h.1, h.2.1, h.2.2.1, fun i j el c hi hj => let ⟨v, h1, h2⟩ := h.2.2.2 i j el c hi hj; ⟨v, h1, h2.mono g⟩⟩

theorem RowRep.append {s : Nat} {es xs : List (List PV)} {vs us : List Value} (h : RowRep F w m s es vs) (k : RowRep F w m s xs us) : RowRep F w m s (es ++ xs) (vs ++ us) := by
  refine ⟨by simp [h.1, k.1, Nat.add_mul], fun e he => ?_, fun v hv => ?_, fun i j el c hi hj => ?_⟩
  · rcases List.mem_append.1 he with he | he
    · exact h.2.1 e he
    · exact k.2.1 e he
  · rcases List.mem_append.1 hv with hv | hv
    · exact h.2.2.1 v hv
    · exact k.2.2.1 v hv
  · by_cases hlt : i < es.length
    · rw [List.getElem?_append_left hlt] at hi
      obtain ⟨v, h1, h2⟩ := h.2.2.2 i j el c hi hj
      exact ⟨v, by rw [List.getElem?_append_left (List.getElem?_eq_some_iff.1 h1).1]; exact h1, h2⟩
    · rw [List.getElem?_append_right (by omega)] at hi
      obtain ⟨v, h1, h2⟩ := k.2.2.2 _ j el c hi hj
      have e1 : i * s + j = es.length * s + ((i - es.length) * s + j) := by
        rw [← Nat.add_assoc, ← Nat.add_mul]
        congr 2
        omega
      exact ⟨v, by rw [List.getElem?_append_right (by rw [h.1]; omega), h.1, e1, Nat.add_sub_cancel_left]; exact h1, h2⟩

/-- A row's elements from one on, as values. -/
theorem row_seg {x : Addr} {s off len : Nat} {es : List (List PV)} (h : BlkOk F w m (some x) (.row s es)) (hl : off + len ≤ es.length) :
    ∃ vs e fr, x.spot = none ∧ w.heap[x.block]? = some (Obj.cells vs e fr) ∧ frOk vs.size fr ∧ x.off + es.length * s ≤ vs.size ∧ RowRep F w m s ((es.drop off).take len) ((vs.toList.drop (x.off + off * s)).take (len * s)) := by
  obtain ⟨h1, hb, ⟨h2, _⟩ | ⟨b, o, vs, e, fr, hx, h3, hfr, h4, h5⟩⟩ := h
  · cases h2
  · cases hx
    have hle : off * s + len * s ≤ es.length * s := by rw [← Nat.add_mul]; exact Nat.mul_le_mul_right _ hl
    have hget : ∀ k, k < len * s → ((vs.toList.drop (o + off * s)).take (len * s))[k]? = vs[o + off * s + k]? := fun k hk => by
      rw [List.getElem?_take, if_pos hk, List.getElem?_drop, Array.getElem?_toList]
    refine ⟨vs, e, fr, rfl, h3, hfr, h4, ?_, fun el hel => h1 el (List.mem_of_mem_drop (List.mem_of_mem_take hel)), fun v hv => ?_, fun i j el c hi hj => ?_⟩
    · rw [List.length_take, List.length_drop, Array.length_toList, List.length_take, List.length_drop, Nat.min_eq_left (show len ≤ es.length - off by omega)]
      exact Nat.min_eq_left (by dsimp only at *; omega)
    · obtain ⟨k, hk, e1⟩ := List.mem_iff_getElem.1 hv
      have hk' : k < len * s := by rw [List.length_take] at hk; omega
      have hs : 0 < s := Nat.pos_of_ne_zero (by rintro rfl; simp at hk')
      have hd : k / s < len := (Nat.div_lt_iff_lt_mul hs).2 hk'
      have hmod : k % s < s := Nat.mod_lt _ hs
      have hlt : off + k / s < es.length := by omega
      obtain ⟨v', hv', h6, h7⟩ := h5 (off + k / s) (k % s) es[off + k / s] (es[off + k / s][k % s]'(by rw [h1 _ (List.getElem_mem hlt)]; exact hmod)) (List.getElem?_eq_getElem hlt) (List.getElem?_eq_getElem _)
      have e2 : o + (off + k / s) * s + k % s = o + off * s + k := by
        have := Nat.div_add_mod k s
        rw [Nat.add_mul, Nat.mul_comm (k / s)]
        omega
      rw [e2] at hv'
      have := hget k hk'
      rw [List.getElem?_eq_getElem hk, e1, hv'] at this
      cases this
      exact h6
    · rw [List.getElem?_take] at hi
      split at hi
      · rename_i hil
        rw [List.getElem?_drop] at hi
        obtain ⟨v, hv, h6, h7⟩ := h5 (off + i) j el c hi hj
        have hjs : j < s := by have := (List.getElem?_eq_some_iff.1 hj).1; rwa [h1 el (List.mem_of_getElem? hi)] at this
        have hle2 : i * s + s ≤ len * s := by rw [← Nat.succ_mul]; exact Nat.mul_le_mul_right _ hil
        refine ⟨v, ?_, h7⟩
        rw [hget _ (by omega), ← hv]
        congr 1
        rw [Nat.add_mul]
        omega
      · cases hi

theorem frozen_row {t : Bool} {s : Nat} {es : List (List PV)} {v : Value} (h : RF F w (.sl t s es) v) :
    ∃ ao cap vs, v = .slice ao es.length cap ∧ es.length ≤ cap ∧ (t = true → cap = es.length) ∧ es.length ≤ 2 ^ 47 ∧ RowRep F w m s es vs ∧ (vs ≠ [] → ∃ b o, ao = some ⟨b, o, none⟩ ∧ F b ∧ ∀ j u, vs[j]? = some u → w.cell? ⟨b, o + j, none⟩ = some u) := by
  cases h with
  | sl _ _ _ a cap val hl ht hs hb hm hc =>
    by_cases h0 : s = 0
    · subst h0
      refine ⟨a, cap, [], rfl, hl, ht, hb, ⟨by simp, hs, by simp, fun i j el c hi hj => ?_⟩, by simp⟩
      have := hs el (List.mem_of_getElem? hi)
      have hj' := (List.getElem?_eq_some_iff.1 hj).1
      omega
    · have hsp : 0 < s := Nat.pos_of_ne_zero h0
      have hdm : ∀ k, k < es.length * s → k / s < es.length ∧ k % s < s ∧ k / s * s + k % s = k := fun k hk =>
        ⟨(Nat.div_lt_iff_lt_mul hsp).2 hk, Nat.mod_lt _ hsp, by have := Nat.div_add_mod k s; rw [Nat.mul_comm] at this; exact this⟩
      have hij : ∀ i j, i < es.length → j < s → i * s + j < es.length * s ∧ (i * s + j) / s = i ∧ (i * s + j) % s = j := fun i j hi hj => by
        have : i * s + s ≤ es.length * s := by rw [← Nat.succ_mul]; exact Nat.mul_le_mul_right _ hi
        refine ⟨by omega, ?_, ?_⟩
        · rw [Nat.mul_comm, Nat.mul_add_div hsp, Nat.div_eq_of_lt hj, Nat.add_zero]
        · rw [Nat.mul_comm, Nat.mul_add_mod, Nat.mod_eq_of_lt hj]
      refine ⟨a, cap, (List.range (es.length * s)).map (fun k => val (k / s) (k % s)), rfl, hl, ht, hb, ⟨by simp, hs, fun v hv => ?_, fun i j el c hi hj => ?_⟩, fun hne => ?_⟩
      · obtain ⟨k, hk, rfl⟩ := List.mem_map.1 hv
        obtain ⟨h1, h2, _⟩ := hdm k (List.mem_range.1 hk)
        obtain ⟨_, _, _, _, _, h3⟩ := hm _ _ h1 h2
        exact h3
      · have hi' := (List.getElem?_eq_some_iff.1 hi).1
        have hj' : j < s := by have := (List.getElem?_eq_some_iff.1 hj).1; rwa [hs el (List.mem_of_getElem? hi)] at this
        obtain ⟨h1, h2, h3⟩ := hij i j hi' hj'
        refine ⟨val i j, ?_, .fz (hc i j el c hi hj)⟩
        rw [List.getElem?_map, List.getElem?_range h1]
        simp [h2, h3]
      · have hpos : 0 < es.length := by
          apply Nat.pos_of_ne_zero
          intro h
          simp [h] at hne
        obtain ⟨b, o, rfl, hF, _, _⟩ := hm 0 0 hpos hsp
        refine ⟨b, o, rfl, hF, fun k v hk => ?_⟩
        rw [List.getElem?_map, Option.map_eq_some_iff] at hk
        obtain ⟨k', hk', rfl⟩ := hk
        obtain ⟨hlt, rfl⟩ := List.getElem?_eq_some_iff.1 hk'
        rw [List.getElem_range]
        have hlt' : k < es.length * s := by simpa using hlt
        obtain ⟨h1, h2, h3⟩ := hdm k hlt'
        obtain ⟨b', o', e', _, h4, _⟩ := hm _ _ h1 h2
        cases e'
        rw [Nat.add_assoc, h3] at h4
        exact h4

/-- What 'rowOf' tells of a slice, as values that can be read. -/
theorem rowOf_ok (h : SimW B A a w F m) {st : St} (hst : ∀ b k, st b = some k → A.st b = some k) {x : PV} {s : Nat} {es : List (List PV)} {g : Prop} (hr : rowOf st x = some (s, es, g)) (hg : g) {vx : Value} (hx : Rep F w m x vx) :
    ∃ ao cap vs, vx = .slice ao es.length cap ∧ es.length ≤ cap ∧ es.length ≤ 2 ^ 47 ∧ RowRep F w m s es vs ∧ (vs ≠ [] → ∃ b o, ao = some ⟨b, o, none⟩ ∧ ∀ j u, vs[j]? = some u → w.cell? ⟨b, o + j, none⟩ = some u) := by
  unfold rowOf at hr
  split at hr
  · cases hr
    obtain ⟨ao, cap, vs, h1, h2, _, h3, h4, h5⟩ := frozen_row (m := m) hx.sl_inv
    exact ⟨ao, cap, vs, h1, h2, h3, h4, fun hne => let ⟨b, o, h6, _, h7⟩ := h5 hne; ⟨b, o, h6, h7⟩⟩
  · rename_i b s' off len
    split at hr
    · rename_i s'' es' hb
      cases hr
      obtain ⟨rfl, hle⟩ := hg
      cases hx with
      | fz hx => cases hx
      | own _ _ _ _ cap a' hl hb47 hc =>
        obtain ⟨ao, h1, h2⟩ := h.blk b _ (hst b _ hb)
        have hlen : ((es'.drop off).take len).length = len := by simp; omega
        by_cases h0 : len = 0
        · subst h0
          refine ⟨a', cap, [], by rw [hlen], by omega, by omega, ⟨by simp, by simp, by simp, by simp⟩, by simp⟩
        · obtain ⟨xa, cc, e, fr, h3, h4, rfl, h5, h6⟩ := hc (by omega)
          rw [h3] at h1
          cases h1
          obtain ⟨vs, e', _, h7, h8, _, h9, h10⟩ := row_seg h2 hle
          refine ⟨_, cap, _, by rw [hlen], by omega, by omega, h10, fun _ => ⟨_, _, rfl, fun j v hj => ?_⟩⟩
          rw [List.getElem?_take] at hj
          split at hj
          · rw [List.getElem?_drop, Array.getElem?_toList] at hj
            rw [cell_of h8]
            exact hj
          · cases hj
    · cases hr
  · cases hr

theorem src_of (hT : TabOk P T) {tx e' : TypeId} (hk : (T tx).k = .slice e') {size : Nat} {s : Nat} {es : List (List PV)} (hs : es = [] ∨ s = size) {ao : Option Addr} {cap : Nat} {vs : List Value}
    (h : RowRep F w m s es vs) (hc : vs ≠ [] → ∃ b o, ao = some ⟨b, o, none⟩ ∧ ∀ j u, vs[j]? = some u → w.cell? ⟨b, o + j, none⟩ = some u) (hsz : 0 < size) :
    Src P size tx (.slice ao es.length cap) es.length vs w := by
  have hu := und_slice hT hk
  have hl : vs.length = es.length * size := by
    rcases hs with rfl | rfl
    · simpa using h.1
    · exact h.1
  cases ao with
  | none =>
    have h0 : es.length = 0 := by
      apply Classical.byContradiction
      intro hne
      have : vs ≠ [] := by
        intro hv
        rw [hv] at hl
        have : 0 < es.length * size := Nat.mul_pos (Nat.pos_of_ne_zero hne) hsz
        simp at hl
        omega
      obtain ⟨b, o, h1, _⟩ := hc this
      cases h1
    have hv0 : vs = [] := List.eq_nil_of_length_eq_zero (by rw [hl, h0]; simp)
    rw [h0, hv0]
    exact Src.ofNil w hu cap
  | some ad =>
    refine Src.ofSlice w hu ad es.length cap vs hl (fun j v hj => ?_) h.2.2.1
    obtain ⟨b, o, h1, h2⟩ := hc (by rintro rfl; simp at hj)
    cases h1
    rw [add_none]
    exact h2 j v hj

end
end Go.Proofs.YtoifmpiikopelaaFw
