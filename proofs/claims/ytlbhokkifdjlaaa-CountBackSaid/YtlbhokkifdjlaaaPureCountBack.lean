/-
  The plain law of CountBack: what goes well makes a live counter fresh.
-/
import Derived.Test.YtlbhokkifdjlaaaPx10
import Derived.Test.YtlbhokkifdjlaaaPlain
namespace Go.Proofs.Ytlbhokkifdjlaaa.Pure
open Go.RowKit Go.Proofs.Ytlbhokkifdjlaaa.P Go.Proofs.YtlbhokkifdjlaaaW.PrintWords Go.Proofs.YtlbhokkifdjlaaaW.PrintLast Go.Proofs.YtlbhokkifdjlaaaW.PrintMore
set_option linter.unusedVariables false
set_option linter.unusedSimpArgs false

theorem CountBack : ∀ (y0 : S23), (ok23 y0) → ∃ k, phaetonlaw08_CountBack.f k y0.f0 y0.f1 y0.f2 y0.f3 = some true := by
  intro y0 h0
  obtain ⟨t, r, s, q⟩ := y0
  dsimp only
  obtain ⟨k, hk⟩ : ∃ k, k = 400 := ⟨_, rfl⟩
  refine ⟨k + 1, ?_⟩
  unfold phaetonlaw08_CountBack.f
  rw [head_true _ (by omega), Option.bind_some]
  have J : phaetonlaw08_CountBack.j0 (k + 1) true true t r s q = some true := by
    rw [phaetonlaw08_CountBack.j0]
    rw [if_pos rfl]
  simp only [count_Right.f, Option.bind_some]
  by_cases hr : rightC t r s q = true
  · rw [if_pos hr]
    by_cases h3 : s = 3
    · have : (s == 3) = true := by simpa using h3
      rw [this, J]
    · have hb : (s == 3) = false := by simpa using h3
      rw [hb]
      obtain ⟨hc, ht0, ht, hr0, hr1, hq⟩ := live_form t r s q hr h3
      have hw : wrap64 (t - 127) = t - 127 := wr _ (by omega)
      have hn : 0 ≤ mx (t - 127) 0 ∧ mx (t - 127) 0 < 129 := by unfold mx; split <;> omega
      have hw1 : wrap64 (mx (t - 127) 0 - 1) = mx (t - 127) 0 - 1 := wr _ (by omega)
      rw [phaetonlaw08_CountBack.j0]
      rw [hw, hw1]
      generalize hr' : mn (mx (r - 1) 0) 127 = r'
      have hb' : 0 ≤ r' ∧ r' < 128 := by rw [← hr']; unfold mn mx; repeat (first | omega | split)
      have hs : stepC t r s q 2 = mkC t r' := by
        have := mk_step t r 2 ⟨ht0, ht⟩ ⟨hr0, hr1⟩
        rw [← hc, if_neg (by omega), if_pos rfl, hr'] at this
        exact this
      rw [fTimesI k (mx (t - 127) 0) 1 hn.1 (by omega) (by omega), fTimesI k 255 1 (by omega) (by omega) (by omega), fTimesI k 255 2 (by omega) (by omega) (by omega)]
      simp only [count_Step.f, Option.bind_some, Bool.false_eq_true, if_false, if_true]
      have e255 : (255 : Int).toNat = 255 := rfl
      have eA := sent_n (mx (t - 127) 0).toNat t r' ⟨ht0, ht⟩ (by omega)
      have eB := sent_n 255 t r ⟨ht0, ht⟩ ⟨hr0, hr1⟩
      have mB : mx (t - (255 : Nat)) 0 = 0 := by unfold mx; split <;> omega
      rw [mB] at eB
      obtain ⟨r2, eC, k1, k2, k3⟩ := heard_n 255 0 r (by omega) ⟨hr0, hr1⟩
      have m2 : r2 = 0 := by unfold mx at k3; split at k3 <;> omega
      subst m2
      have fA := fSteps k (List.replicate (mx (t - 127) 0).toNat 1) (mkC t r').1 (mkC t r').2.1 (mkC t r').2.2.1 (mkC t r').2.2.2 (by rw [List.length_replicate]; omega) (by rw [List.length_replicate]; omega)
      have fB := fSteps k (List.replicate 255 1) t r s q (by rw [List.length_replicate]; omega) (by rw [List.length_replicate]; omega)
      have fC := fSteps k (List.replicate 255 2) (mkC 0 r).1 (mkC 0 r).2.1 (mkC 0 r).2.2.1 (mkC 0 r).2.2.2 (by rw [List.length_replicate]; omega) (by rw [List.length_replicate]; omega)
      rw [show ((mkC t r').1, (mkC t r').2.1, (mkC t r').2.2.1, (mkC t r').2.2.2) = mkC t r' from rfl, eA] at fA
      rw [hc, eB] at fB
      rw [show ((mkC 0 r).1, (mkC 0 r).2.1, (mkC 0 r).2.2.1, (mkC 0 r).2.2.2) = mkC 0 r from rfl, eC] at fC
      rw [e255, hs, fA, Option.bind_some, fB, Option.bind_some, fC, Option.bind_some]
      have z0 : mkC 0 0 = (0, 0, 1, 0) := by decide +kernel
      rw [z0]
      have hmt : mx (t - ((mx (t - 127) 0).toNat : Int)) 0 ≤ 127 ∧ 0 ≤ mx (t - ((mx (t - 127) 0).toNat : Int)) 0 := by unfold mx at hn ⊢; repeat (first | omega | split)
      generalize mx (t - ((mx (t - 127) 0).toNat : Int)) 0 = T at hmt
      have hst : (mkC T r').2.2.1 = 1 := by
        unfold mkC
        rw [if_neg (by omega)]
        exact (st_iff T r' 1).mpr (by omega)
      rw [if_pos hst]
      simp only [count_New.f, Option.bind_some, beq_self_eq_true, Bool.and_true, if_true]
      by_cases hz : mx (t - 127) 0 = 0
      · rw [if_pos hz]
      · rw [if_neg hz]
        have hm : mx (t - 127) 0 = t - 127 := by
          unfold mx at hz ⊢
          by_cases h : t - 127 < 0
          · rw [if_pos h] at hz; exact absurd rfl hz
          · rw [if_neg h]
        rw [hm] at hn hz ⊢
        rw [fTimesI k (t - 127 - 1) 1 (by omega) (by omega) (by omega), Option.bind_some]
        have eD := sent_n (t - 127 - 1).toNat t r' ⟨ht0, ht⟩ (by omega)
        have fD := fSteps k (List.replicate (t - 127 - 1).toNat 1) (mkC t r').1 (mkC t r').2.1 (mkC t r').2.2.1 (mkC t r').2.2.2 (by rw [List.length_replicate]; omega) (by rw [List.length_replicate]; omega)
        rw [show ((mkC t r').1, (mkC t r').2.1, (mkC t r').2.2.1, (mkC t r').2.2.2) = mkC t r' from rfl, eD] at fD
        rw [fD, Option.bind_some]
        have hT : mx (t - ((t - 127 - 1).toNat : Int)) 0 = 128 := by unfold mx; split <;> omega
        rw [hT]
        have hst2 : (mkC 128 r').2.2.1 = 2 := by
          unfold mkC
          rw [if_neg (by omega)]
          exact (st_iff 128 r' 2).mpr (by omega)
        rw [hst2]; rfl
  · rw [if_neg hr, J]

end Go.Proofs.Ytlbhokkifdjlaaa.Pure
