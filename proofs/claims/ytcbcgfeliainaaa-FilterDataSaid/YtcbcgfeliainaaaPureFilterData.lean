/-
  The pure statement of FilterData: what a frame holds counts for nothing; no mask takes all of a kind, a whole mask one identifier. Conditions: the numbers are ints, the slices read.
-/
import Derived.Test.YtcbcgfeliainaaaPx12
import Derived.Test.YtcbcgfeliainaaaPlain
namespace Go.Proofs.Ytcbcgfeliainaaa.Pure
open Go.RowKit Go.Proofs.YtcbcgfeliainaaaOwn Go.Proofs.Ytcbcgfeliainaaa.P Go.Proofs.YtcbcgfeliainaaaW.PrintWords Go.Proofs.YtcbcgfeliainaaaW.PrintLast
set_option linter.unusedVariables false
set_option linter.unusedSimpArgs false

theorem FilterData : ∀ (y0 : S23) (y1 : S27) (y2 : S27), (ok23 y0) → (ok27 y1) → (ok27 y2) → ∃ k, phaetonlaw07_FilterData.f k y0.f0 y0.f1 y0.f2 y1.f0 y1.f1 y1.f2 y1.f3 y1.f4 y2.f0 y2.f1 y2.f2 y2.f3 y2.f4 = some true := by
  intro y0 y1 y2 h0 h1 h2
  obtain ⟨K, M, a1, a2⟩ := flt_of h0
  obtain ⟨X, hX⟩ := toInt_of_wf h1.2.1
  obtain ⟨Y, hY⟩ := toInt_of_wf h2.2.1
  refine ⟨10, ?_⟩
  unfold phaetonlaw07_FilterData.f
  rw [head_true, a1, a2, hX, hY, rRight]
  simp only [Option.bind_some]
  have JT : phaetonlaw07_FilterData.j0 10 true true y0.f0 K.toInt M.toInt y1.f0 X.toInt y1.f2 y1.f3 y1.f4 y2.f0 Y.toInt y2.f2 y2.f3 y2.f4 = some true := by
    rw [phaetonlaw07_FilterData.j0]; rw [if_pos rfl]
  cases hr : rightB y0.f0 K M with
  | false => rw [if_neg (by decide)]; exact JT
  | true =>
    rw [if_pos rfl]
    by_cases c : (y1.f4.length : Int) > 100
    · rw [if_pos c]; exact JT
    rw [if_neg c]
    by_cases c2 : (y2.f4.length : Int) > 100
    · rw [if_pos c2]; exact JT
    rw [if_neg c2]
    obtain ⟨r1, e1, g1⟩ := frame_tells 7 y1.f0 X y1.f2 y1.f3 y1.f4
    obtain ⟨r2, e2, g2⟩ := frame_tells 7 y2.f0 Y y2.f2 y2.f3 y2.f4
    rw [e1, e2]
    simp only [Option.bind_some]
    cases r1 with
    | false => rw [if_neg (by decide)]; exact JT
    | true =>
      rw [if_pos rfl]
      cases r2 with
      | false => exact JT
      | true =>
        have hx := g1 rfl
        have hy := g2 rfl
        show phaetonlaw07_FilterData.j0 10 true false y0.f0 K.toInt M.toInt y1.f0 X.toInt y1.f2 y1.f3 y1.f4 y2.f0 Y.toInt y2.f2 y2.f3 y2.f4 = some true
        rw [phaetonlaw07_FilterData.j0]
        rw [if_neg (by decide)]
        have J1 : ∀ A : BV, A = allOf y1.f0 → phaetonlaw07_FilterData.j1 9 true y0.f0 K.toInt M.toInt y1.f0 X.toInt y1.f2 y1.f3 y1.f4 y2.f0 Y.toInt y2.f2 y2.f3 y2.f4 y1.f0 X.toInt y2.f2 y2.f3 y2.f4 y1.f0 A.toInt X.toInt = some true := by
          rintro A rfl
          rw [phaetonlaw07_FilterData.j1]
          rw [if_pos rfl, fTakes, fTakes, fTakes, zero_toInt, fTakes, fTakes]
          simp only [Option.bind_some, beq_self_eq_true]
          rw [if_pos trivial]
          have t1 : takesB y1.f0 0#64 0#64 y1.f0 X = true := by simp [takesB]
          have t2 : takesB (!y1.f0) 0#64 0#64 y1.f0 X = false := by cases y1.f0 <;> simp [takesB]
          rw [t1, t2, if_pos rfl, if_neg (by decide), toInt_beq]
          unfold takesB
          cases hb : (y2.f0 == y1.f0) with
          | false => rw [if_neg (by decide)]; simp
          | true =>
            rw [if_pos rfl]
            rw [beq_iff_eq] at hb
            rw [hb] at hy
            rw [hy]
            simp
        cases he : y1.f0 with
        | true =>
          rw [if_pos rfl]
          have := J1 536870911#64 (by rw [he]; decide)
          rw [he] at this
          exact this
        | false =>
          rw [if_neg (by decide)]
          have := J1 2047#64 (by rw [he]; decide)
          rw [he] at this
          exact this

end Go.Proofs.Ytcbcgfeliainaaa.Pure
