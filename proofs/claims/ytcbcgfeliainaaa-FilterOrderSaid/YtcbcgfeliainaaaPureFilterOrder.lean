/-
  The pure statement of FilterOrder: covering is an order, and what covers meets. Conditions: the numbers are ints.
-/
import Derived.Test.YtcbcgfeliainaaaPx10
import Derived.Test.YtcbcgfeliainaaaPlain
namespace Go.Proofs.Ytcbcgfeliainaaa.Pure
open Go.RowKit Go.Proofs.YtcbcgfeliainaaaOwn Go.Proofs.Ytcbcgfeliainaaa.P Go.Proofs.YtcbcgfeliainaaaW.PrintWords Go.Proofs.YtcbcgfeliainaaaW.PrintLast
set_option linter.unusedVariables false
set_option linter.unusedSimpArgs false

theorem covers_meets {e e' : Bool} {K M K' M' : BV} (r : rightB e K M = true) (r' : rightB e' K' M' = true) (h : coversB e K M e' K' M' = true) : meetsB e K M e' K' M' = true := by
  simp only [rightB, coversB, meetsB, Bool.and_eq_true, beq_iff_eq] at *
  refine ⟨h.2.1.symm, ?_⟩
  apply bv_ext
  intro i hi
  have a := bv_get r.2 i
  have b := bv_get h.1 i
  have c := bv_get h.2.2 i
  simp [hi] at a b c ⊢
  cases hK : K.getLsbD i <;> cases hM : M.getLsbD i <;> cases hK' : K'.getLsbD i <;> cases hM' : M'.getLsbD i <;> simp_all
theorem covers_self {e : Bool} {K M : BV} (r : rightB e K M = true) : coversB e K M e K M = true := by
  simp only [rightB, coversB, Bool.and_eq_true, beq_iff_eq] at *
  exact ⟨BitVec.and_self, by simp, r.2⟩
theorem covers_trans {e e' e2 : Bool} {K M K' M' K2 M2 : BV} (h : coversB e K M e' K' M' = true) (h' : coversB e' K' M' e2 K2 M2 = true) : coversB e K M e2 K2 M2 = true := by
  simp only [coversB, Bool.and_eq_true, beq_iff_eq] at *
  refine ⟨?_, by rw [h'.2.1, h.2.1], ?_⟩
  · apply bv_ext
    intro i hi
    have a := bv_get h.1 i
    have b := bv_get h'.1 i
    simp [hi] at a b ⊢
    cases hK : K.getLsbD i <;> cases hK' : K'.getLsbD i <;> simp_all
  · apply bv_ext
    intro i hi
    have a := bv_get h.1 i
    have b := bv_get h.2.2 i
    have c := bv_get h'.2.2 i
    simp [hi] at a b c ⊢
    cases hK : K.getLsbD i <;> cases hM : M.getLsbD i <;> cases hK' : K'.getLsbD i <;> cases hM' : M'.getLsbD i <;> simp_all
theorem covers_both {e e' : Bool} {K M K' M' : BV} (r : rightB e K M = true) (r' : rightB e' K' M' = true) (h : coversB e K M e' K' M' = true) : coversB e' K' M' e K M = (e == e' && (K == K' && (M == M'))) := by
  simp only [rightB, Bool.and_eq_true, beq_iff_eq] at r r'
  rw [Bool.eq_iff_iff]
  simp only [coversB, Bool.and_eq_true, beq_iff_eq] at *
  constructor
  · intro h'
    have hk : K = K' := by rw [← h.1, BitVec.and_comm]; exact h'.1
    refine ⟨h'.2.1, hk, ?_⟩
    have h1 := h'.2.2
    rw [← hk, r.2] at h1
    exact h1
  · rintro ⟨rfl, rfl, rfl⟩
    exact ⟨BitVec.and_self, by simp, r.2⟩

theorem FilterOrder : ∀ (y0 : S23) (y1 : S23) (y2 : S23), (ok23 y0) → (ok23 y1) → (ok23 y2) → ∃ k, phaetonlaw07_FilterOrder.f k y0.f0 y0.f1 y0.f2 y1.f0 y1.f1 y1.f2 y2.f0 y2.f1 y2.f2 = some true := by
  intro y0 y1 y2 h0 h1 h2
  obtain ⟨K0, M0, a1, a2⟩ := flt_of h0
  obtain ⟨K1, M1, b1, b2⟩ := flt_of h1
  obtain ⟨K2, M2, c1, c2⟩ := flt_of h2
  refine ⟨10, ?_⟩
  unfold phaetonlaw07_FilterOrder.f
  obtain ⟨b, hb, hg⟩ := good_tells [y0, y1, y2] (by intro f hf; simp at hf; rcases hf with rfl | rfl | rfl <;> assumption) (by simp) 10 (by simp)
  have e : ([(⟨y0.f0, y0.f1, y0.f2⟩ : S23), (⟨y1.f0, y1.f1, y1.f2⟩ : S23), (⟨y2.f0, y2.f1, y2.f2⟩ : S23)] : List (S23)) = [y0, y1, y2] := rfl
  rw [head_true, e, hb]
  simp only [Option.bind_some]
  cases b with
  | false => rw [if_neg (by decide)]
  | true =>
    have r0 := hg rfl y0 (by simp) K0 M0 a1 a2
    have r1 := hg rfl y1 (by simp) K1 M1 b1 b2
    have r2 := hg rfl y2 (by simp) K2 M2 c1 c2
    rw [if_pos rfl, a1, a2, b1, b2, c1, c2, fCovers, fCovers, fMeets]
    simp only [Option.bind_some]
    have J0 : phaetonlaw07_FilterOrder.j0 10 true false y0.f0 K0.toInt M0.toInt y1.f0 K1.toInt M1.toInt y2.f0 K2.toInt M2.toInt = some true := by
      rw [phaetonlaw07_FilterOrder.j0]
      rw [if_neg (by decide), if_pos rfl, fCovers, fCovers, fCovers, fCovers]
      simp only [Option.bind_some]
      rw [covers_self r0, if_pos rfl]
      cases ha : coversB y0.f0 K0 M0 y1.f0 K1 M1 with
      | false => rw [if_neg (by decide)]
      | true =>
        rw [if_pos rfl]
        cases hc : coversB y1.f0 K1 M1 y2.f0 K2 M2 with
        | false => rw [if_neg (by decide)]
        | true => rw [if_pos rfl, covers_trans ha hc]
    cases ha : coversB y0.f0 K0 M0 y1.f0 K1 M1 with
    | false => rw [if_neg (by decide)]; exact J0
    | true =>
      rw [if_pos rfl, covers_both r0 r1 ha, toInt_beq, toInt_beq, if_neg (by simp), covers_meets r0 r1 ha]
      exact J0

end Go.Proofs.Ytcbcgfeliainaaa.Pure
