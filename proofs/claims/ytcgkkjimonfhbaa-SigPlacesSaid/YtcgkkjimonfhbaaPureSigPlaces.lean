/-
  The plain law of SigPlaces: what the printed text answers is true. Conditions: the numbers are ints, the rows read.
-/
import Derived.Test.YtcgkkjimonfhbaaPx21
import Derived.Test.YtcgkkjimonfhbaaPlainF
namespace Go.Proofs.Ytcgkkjimonfhbaa.Pure
open Go.RowKit Go.Proofs.YtcgkkjimonfhbaaOwn Go.Proofs.Ytcgkkjimonfhbaa.P Go.Proofs.YtcgkkjimonfhbaaW.PrintWords Go.Proofs.YtcgkkjimonfhbaaW.PrintLast Go.Proofs.YtcgkkjimonfhbaaW.PrintMore
set_option linter.unusedVariables false
set_option linter.unusedSimpArgs false

theorem places_l0 (bytes : Int) (hby : -9223372036854775808 ≤ bytes ∧ bytes < 9223372036854775808) (st ln : Int) (big sgn : Bool) (mul add : Int) (ps : List Int) (hp : ps.length ≤ 32) (hin : ∀ p ∈ ps, 0 ≤ p ∧ p < 64) (hnd : ps.Nodup) (hl : (ps.length : Int) = ln)
    (hr : ∀ far : Int, (∀ p ∈ ps, p / 8 + 1 ≤ far) → (far = 0 ∨ ∃ p ∈ ps, far = p / 8 + 1) → rightS st ln big sgn mul add bytes = (decide (bytes ≥ far) && decide (bytes ≤ 8))) : ∀ (k i : Nat) (far : Int), 0 ≤ far → far ≤ 8 → (∀ p ∈ ps.take i, p / 8 + 1 ≤ far) → (far = 0 ∨ ∃ p ∈ ps, far = p / 8 + 1) → i ≤ ps.length → ps.length - i + 40 < k → phaetonlaw15_SigPlaces.l0 k bytes true ps far (i : Int) st ln big sgn mul add = some true
  | 0, _, _, _, _, _, _, _, h => by omega
  | k + 1, i, far, hf0, hf8, hfar, hex, hi, h => by
    rw [phaetonlaw15_SigPlaces.l0]
    by_cases e : i < ps.length
    · have h0 := hin _ (List.getElem_mem e)
      have hn : ps[i] ∉ ps.take i := by
        intro hm
        have h2 : (ps.take i ++ ps.drop i).Nodup := by rw [List.take_append_drop]; exact hnd
        rw [List.nodup_append] at h2
        exact h2.2.2 _ hm _ (by rw [List.drop_eq_getElem_cons e]; exact List.mem_cons_self ..) rfl
      rw [if_pos (by omega), if_pos (by omega), rdN ps i e, if_neg (by omega), if_neg (by omega), if_pos (by omega), Int.toNat_natCast, fIn _ _ _ (by rw [List.length_take]; omega) (by rw [List.length_take]; omega), Option.bind_some, decide_eq_false hn, if_neg (by decide), wr1 i (by omega), Int.tdiv_eq_ediv_of_nonneg h0.1, wr (ps[i] / 8) (by omega), wr (ps[i] / 8 + 1) (by omega)]
      refine places_l0 bytes hby st ln big sgn mul add ps hp hin hnd hl hr k (i + 1) _ (by unfold mx; split <;> omega) (by unfold mx; split <;> omega) ?_ ?_ (by omega) (by omega)
      · intro p hpm
        rw [List.take_succ_eq_append_getElem e, List.mem_append] at hpm
        rcases hpm with hpm | hpm
        · have := hfar p hpm
          unfold mx; split <;> omega
        · have : p = ps[i] := by simpa using hpm
          subst this
          unfold mx; split <;> omega
      · unfold mx
        split
        · exact .inr ⟨ps[i], List.getElem_mem e, rfl⟩
        · exact hex
    · have hfull := hr far (by rw [List.take_of_length_le (by omega)] at hfar; exact hfar) hex
      rw [if_neg (by omega), if_pos hl]
      simp only [sig_Right.f, Option.bind_some]
      rw [hfull]
      by_cases c : bytes ≥ far
      · rw [if_pos c, decide_eq_true c]; simp
      · rw [if_neg c, decide_eq_false c]; simp

theorem SigPlaces : ∀ (y0 : S23) (y1 : Int), (ok23 y0) → ((Lit.int .i64 y1).wf = true) → ∃ k, phaetonlaw15_SigPlaces.f k y0.f0 y0.f1 y0.f2 y0.f3 y0.f4 y0.f5 y1 = some true := by
  intro y0 y1 h0 h1
  obtain ⟨st, ln, big, sgn, mul, add⟩ := y0
  have hw := of_wf64 h1
  dsimp only
  refine ⟨200, ?_⟩
  unfold phaetonlaw15_SigPlaces.f
  rw [head_true _ (by omega), Option.bind_some]
  simp only [sig_Right.f, sig_Places.f, Option.bind_some]
  cases h : rightS st ln big sgn mul add 8 with
  | false =>
    have hn : rightS st ln big sgn mul add y1 = false := by
      cases e : rightS st ln big sgn mul add y1 with
      | false => rfl
      | true => have := right_eight e; rw [h] at this; cases this
    rw [if_neg (by decide), placesS_no h, if_pos (by simp), hn, if_neg (by decide)]
  | true =>
    have hR := rightS_iff.1 h
    have hl1 := hR.l1
    have hl32 := hR.l32
    have hpl := plS_len st ln big
    rw [if_pos rfl, placesS_yes h]
    refine places_l0 y1 (by omega) st ln big sgn mul add (plS st ln big) (by omega) (plS_in hR) (plS_nodup st ln big hR.s0) (by omega) (fun far hfar hex => ?_) 200 0 0 (by omega) (by omega) (by simp) (.inl rfl) (by omega) (by omega)
    rw [Bool.eq_iff_iff, rightS_iff, Bool.and_eq_true, decide_eq_true_eq, decide_eq_true_eq]
    have hst : st ∈ plS st ln big := plS_mem.2 (placesK_mem.2 ⟨0, by omega, rfl⟩)
    constructor
    · intro hy
      refine ⟨?_, hy.b8⟩
      rcases hex with rfl | ⟨p, hp, rfl⟩
      · exact hy.b0
      · have := hy.far p (plS_mem.1 hp); omega
    · rintro ⟨hge, h8⟩
      have h2 := hfar st hst
      have hs0 := hR.s0
      refine ⟨by omega, h8, hl1, hl32, hs0, by omega, fun a ha => ?_, hR.m0, hR.m1, hR.a1⟩
      have := hfar a (plS_mem.2 ha)
      omega

end Go.Proofs.Ytcgkkjimonfhbaa.Pure
