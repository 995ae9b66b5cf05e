/-
  An array of two, opened: its cells are its elements', one behind the other. No condition.
-/
import Derived.Test.YtcgkkjimonfhbaaOwn
namespace Go.Proofs.YtcgkkjimonfhbaaOwn
open Go.ChangeShapes Go.WideShapes Go.RowKit Go.Proofs.YtcgkkjimonfhbaaW.PrintWords
set_option linter.unusedVariables false
set_option linter.unusedSimpArgs false

theorem trod_array2 {H : Type} {enc : TypeId × Value → H} {P : Program} {w : World} {base : Nat} {spare : Nat → Bool} {held : Bool} {t e : TypeId} {fuel : Nat} {cs : List Value} {x : DataW H × List MemPlace} (ht : P.underlying t = some (.array 2 e))
    (h : DataW.trod enc P w base spare held fuel t cs = some x) :
    cs.length = P.cellsOf t ∧ ∃ y0 y1 n, x.1 = .agg [y0.1, y1.1] ∧ DataW.trod enc P w base spare held n e (cs.take (P.cellsOf e)) = some y0 ∧ DataW.trod enc P w base spare held n e ((cs.drop (P.cellsOf e)).take (P.cellsOf e)) = some y1 := by
  cases fuel with
  | zero => simp [DataW.trod] at h
  | succ n =>
    unfold DataW.trod at h
    rw [ht] at h
    have r2 : List.range 2 = [0, 1] := rfl
    simp only [r2] at h
    split at h
    · rename_i hl
      refine ⟨hl, ?_⟩
      simp only [List.mapM_cons, List.mapM_nil, Nat.zero_mul, Nat.one_mul, List.drop_zero] at h
      cases h0 : DataW.trod enc P w base spare held n e (cs.take (P.cellsOf e)) with
      | none => rw [h0] at h; cases h
      | some y0 =>
        cases h1 : DataW.trod enc P w base spare held n e ((cs.drop (P.cellsOf e)).take (P.cellsOf e)) with
        | none => rw [h0, h1] at h; cases h
        | some y1 =>
          rw [h0, h1] at h
          refine ⟨y0, y1, n, ?_, h0, h1⟩
          have h2 := Option.some.inj h
          rw [← h2]; rfl
    · cases h
theorem opens_array2 {P : Program} {t e : TypeId} {α β : Type} {d : Kd α} {ok : α → Prop} (ht : P.underlying t = some (.array 2 e)) (hc : P.cellsOf t = d.sz + d.sz) (he : Opens P e d ok) (f : β → α × α) (g : α × α → β) (hfg : ∀ x, f (g x) = x) :
    Opens P t (Kd.iso (Kd.pair d d) f) (fun y => ok (f y).1 ∧ ok (f y).2) := by
  obtain ⟨hce, he⟩ := he
  refine ⟨hc, fun H enc W fuel cs x h hw => ?_⟩
  obtain ⟨hl, y0, y1, n, hx, h0, h1⟩ := trod_array2 ht h
  rw [hx] at hw
  have hw0 : ∀ k ∈ y0.1.weights P e, k ≤ reachBytes := fun k hk => hw k (by simp only [DataW.weights, ht, DataW.weightsAll, List.mem_append]; exact .inl hk)
  have hw1 : ∀ k ∈ y1.1.weights P e, k ≤ reachBytes := fun k hk => hw k (by simp only [DataW.weights, ht, DataW.weightsAll, List.mem_append]; exact .inr (.inl hk))
  obtain ⟨a, hA, oA⟩ := he H enc W n _ y0 h0 hw0
  obtain ⟨b, hB, oB⟩ := he H enc W n _ y1 h1 hw1
  refine ⟨g (a, b), ?_, by show ok (f (g (a, b))).1 ∧ ok (f (g (a, b))).2; rw [hfg]; exact ⟨oA, oB⟩⟩
  show (Kd.pair d d).K W (f (g (a, b))) cs
  rw [hfg]
  rw [hce] at hA hB
  rw [List.take_of_length_le (by rw [List.length_drop]; omega)] at hB
  exact ⟨_, _, (List.take_append_drop d.sz cs).symm, hA, hB⟩
theorem okWide_array {P : Program} {w : World} {base : Nat} {t e : TypeId} {n : Nat} {v : Value} (ht : P.underlying t = some (.array n e)) (h : Value.okWide P w .any base t v) : ∃ cs, v = .agg cs ∧ cs.size = P.cellsOf t := by
  simp only [Value.okWide, ht] at h
  obtain ⟨cs, h1, h2, _⟩ := h
  exact ⟨cs, h1, h2⟩
end Go.Proofs.YtcgkkjimonfhbaaOwn
