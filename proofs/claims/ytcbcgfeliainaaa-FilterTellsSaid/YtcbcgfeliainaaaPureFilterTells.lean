/-
  The pure statement of FilterTells: filters are right, take, cover and meet as the reference says. Conditions: the numbers are ints, the slices read.
-/
import Derived.Test.YtcbcgfeliainaaaPx6
import Derived.Test.YtcbcgfeliainaaaPlain
namespace Go.Proofs.Ytcbcgfeliainaaa.Pure
open Go.RowKit Go.Proofs.YtcbcgfeliainaaaOwn Go.Proofs.Ytcbcgfeliainaaa.P Go.Proofs.YtcbcgfeliainaaaW.PrintWords Go.Proofs.YtcbcgfeliainaaaW.PrintLast
set_option linter.unusedVariables false
set_option linter.unusedSimpArgs false

theorem any_from (l : List S23) (x : Bool) (X : BV) (b : Bool) (n : Int) (dt : List Int) (hn : l.length ≤ 1000000) : ∀ (d k i : Nat), i ≤ l.length → l.length - i = d → d < k →
    phaetonref07_Any.l0 k l i x X.toInt b n dt = some ((l.drop i).any (takesP x X.toInt) || l.isEmpty) := by
  intro d
  induction d with
  | zero =>
    intro k i hi hd hk
    obtain ⟨k, rfl⟩ : ∃ m, k = m + 1 := ⟨k - 1, by omega⟩
    simp only [phaetonref07_Any.l0]
    rw [if_neg (by omega), List.drop_eq_nil_of_le (by omega)]
    cases l <;> simp
    omega
  | succ d ih =>
    intro k i hi hd hk
    obtain ⟨k, rfl⟩ : ∃ m, k = m + 1 := ⟨k - 1, by omega⟩
    have hlt : i < l.length := by omega
    have e : rd_T23 l (i : Int) = l[i] := by simp [rd_T23, List.getD_eq_getElem?_getD, List.getElem?_eq_getElem hlt]
    have ht : phaetonref07_Takes.f l[i].f0 l[i].f1 l[i].f2 x X.toInt b n dt = some (takesP x X.toInt l[i]) := by
      unfold phaetonref07_Takes.f takesP
      cases l[i].f0 <;> cases x <;> simp
    have hw : wrap64 ((i : Int) + 1) = ((i + 1 : Nat) : Int) := by unfold wrap64; omega
    simp only [phaetonref07_Any.l0]
    rw [if_pos (by omega), if_pos (by omega), e, ht, hw, ih k (i + 1) (by omega) (by omega) (by omega), List.drop_eq_getElem_cons hlt]
    simp only [Option.bind_some, List.any_cons]
    cases takesP x X.toInt l[i] <;> simp

theorem FilterTells : ∀ (y0 : S23) (y1 : S23) (y2 : List (S23)) (y3 : S27), (ok23 y0) → (ok23 y1) → ((y2.length * 24 ≤ 140737488351232 ∧ y2.length ≤ maxLen ∧ ∀ z0 ∈ y2, ok23 z0)) → (ok27 y3) → ∃ k, phaetonlaw07_FilterTells.f k y0.f0 y0.f1 y0.f2 y1.f0 y1.f1 y1.f2 y2 y3.f0 y3.f1 y3.f2 y3.f3 y3.f4 = some true := by
  intro y0 y1 y2 y3 h0 h1 h2 h3
  obtain ⟨K0, M0, a1, a2⟩ := flt_of h0
  obtain ⟨K1, M1, b1, b2⟩ := flt_of h1
  obtain ⟨X, hX⟩ := toInt_of_wf h3.2.1
  refine ⟨y2.length + 10, ?_⟩
  unfold phaetonlaw07_FilterTells.f
  rw [head_true, a1, a2, b1, b2, hX]
  simp only [Option.bind_some]
  have J1 : ∀ t, (t = false → rightB y0.f0 K0 M0 = true ∧ rightB y1.f0 K1 M1 = true ∧ y2.length ≤ 100) → phaetonlaw07_FilterTells.j1 (y2.length + 9) y2 true t y0.f0 K0.toInt M0.toInt y1.f0 K1.toInt M1.toInt y3.f0 X.toInt y3.f2 y3.f3 y3.f4 = some true := by
    intro t ht
    simp only [phaetonlaw07_FilterTells.j1]
    cases t with
    | true => simp
    | false =>
      obtain ⟨r0, r1, hl⟩ := ht rfl
      rw [if_neg (by decide), if_pos trivial, fTakes, rTakes, fCovers, rCovers, fMeets, rMeets _ _ _ _ _ _ r0 r1]
      have hA : phaetonref07_Any.f (y2.length + 8) y2 y3.f0 X.toInt y3.f2 y3.f3 y3.f4 = some (y2.isEmpty || y2.any (takesP y3.f0 X.toInt)) := by
        unfold phaetonref07_Any.f
        rw [show (0 : Int) = ((0 : Nat) : Int) from rfl, any_from y2 y3.f0 X y3.f2 y3.f3 y3.f4 (by omega) y2.length (y2.length + 8) 0 (by omega) (by omega) (by omega), List.drop_zero, Bool.or_comm]
      rw [hA]
      unfold filter_Any.f
      simp
  have J0 : ∀ t, (t = false → y2.length ≤ 100) → phaetonlaw07_FilterTells.j0 (y2.length + 10) y2 true t y0.f0 K0.toInt M0.toInt y1.f0 K1.toInt M1.toInt y3.f0 X.toInt y3.f2 y3.f3 y3.f4 = some true := by
    intro t ht
    simp only [phaetonlaw07_FilterTells.j0]
    cases t with
    | true => simp
    | false =>
      have hl := ht rfl
      rw [if_neg (by decide), fRight, rRight, rRight]
      simp only [Option.bind_some, bne_self_eq_false]
      rw [if_neg (by decide)]
      have hT := J1 true (by simp)
      cases hr : rightB y0.f0 K0 M0 with
      | false => rw [if_neg (by decide)]; exact hT
      | true =>
        rw [if_pos rfl]
        cases hr1 : rightB y1.f0 K1 M1 with
        | false => rw [if_neg (by decide)]; exact hT
        | true =>
          rw [if_pos rfl]
          obtain ⟨b, hb, _⟩ := good_tells y2 h2.2.2 (by omega) (y2.length + 9) (by omega)
          rw [hb]
          simp only [Option.bind_some]
          cases b with
          | false => rw [if_neg (by decide)]; exact hT
          | true =>
            rw [if_pos rfl]
            obtain ⟨r, hr2, _⟩ := frame_tells (y2.length + 6) y3.f0 X y3.f2 y3.f3 y3.f4
            rw [hr2]
            exact J1 (!r) (fun _ => ⟨hr, hr1, hl⟩)
  by_cases c : (y2.length : Int) > 100
  · rw [if_pos c]; exact J0 true (by simp)
  · rw [if_neg c]; exact J0 _ (fun _ => by omega)

end Go.Proofs.Ytcbcgfeliainaaa.Pure
