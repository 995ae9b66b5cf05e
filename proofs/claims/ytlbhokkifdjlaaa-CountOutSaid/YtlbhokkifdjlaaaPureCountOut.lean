/-
  The plain law of CountOut: a node is Off behind so many errors of its own, and not ahead.
-/
import Derived.Test.YtlbhokkifdjlaaaPx14
import Derived.Test.YtlbhokkifdjlaaaPlain
namespace Go.Proofs.Ytlbhokkifdjlaaa.Pure
open Go.RowKit Go.Proofs.Ytlbhokkifdjlaaa.P Go.Proofs.YtlbhokkifdjlaaaW.PrintWords Go.Proofs.YtlbhokkifdjlaaaW.PrintLast Go.Proofs.YtlbhokkifdjlaaaW.PrintMore
set_option linter.unusedVariables false
set_option linter.unusedSimpArgs false

theorem CountOut : ∀ (y0 : S23), (ok23 y0) → ∃ k, phaetonlaw08_CountOut.f k y0.f0 y0.f1 y0.f2 y0.f3 = some true := by
  intro y0 h0
  obtain ⟨t, r, s, q⟩ := y0
  dsimp only
  obtain ⟨k, hk⟩ : ∃ k, k = 400 := ⟨_, rfl⟩
  refine ⟨k + 1, ?_⟩
  unfold phaetonlaw08_CountOut.f
  rw [head_true _ (by omega), Option.bind_some]
  have J : phaetonlaw08_CountOut.j0 (k + 1) true true t r s q = some true := by
    rw [phaetonlaw08_CountOut.j0]
    rw [if_pos rfl]
  simp only [count_Right.f, Option.bind_some]
  by_cases hr : rightC t r s q = true
  · rw [if_pos hr]
    by_cases h3 : s = 3
    · have : (s == 3) = true := by simpa using h3
      rw [this, J]
    · have hb : (s == 3) = false := by simpa using h3
      rw [hb]
      obtain ⟨hc, ht0, ht, hr0, hr1, hq⟩ := live_form t r s q hr h3
      rw [phaetonlaw08_CountOut.j0]
      have w1 : wrap64 (256 - t) = 256 - t := wr _ (by omega)
      have w2 : wrap64 (256 - t + 7) = 263 - t := by rw [wr _ (by omega)]; omega
      obtain ⟨n, hn⟩ : ∃ n : Nat, (263 - t) / 8 = ((n + 1 : Nat) : Int) := ⟨((263 - t) / 8 - 1).toNat, by omega⟩
      have w3 : Int.tdiv (263 - t) 8 = ((n + 1 : Nat) : Int) := by rw [Int.tdiv_eq_ediv_of_nonneg (by omega)]; exact hn
      have w4 : wrap64 (((n + 1 : Nat) : Int)) = ((n + 1 : Nat) : Int) := wr _ (by omega)
      have w5 : wrap64 (((n + 1 : Nat) : Int) - 1) = (n : Int) := by rw [wr _ (by omega)]; omega
      have w6 : wrap64 (8 * (n : Int)) = 8 * (n : Int) := wr _ (by omega)
      have w7 : wrap64 (t + 8 * (n : Int)) = t + 8 * (n : Int) := wr _ (by omega)
      have w8 : wrap64 (t + 7) = t + 7 := wr _ (by omega)
      rw [w1, w2, w3, w4, w5, w6, w7, w8]
      have eB := bad_n n t r ⟨ht0, ht⟩ ⟨hr0, hr1⟩ (by omega)
      have eA : stps (mkC t r) (List.replicate (n + 1) 3) = (256, 0, 3, 0) := by
        rw [List.replicate_succ', stps_app, eB]
        show stp (mkC (t + 8 * n) r) 3 = _
        rw [mk_step _ r 3 (by omega) ⟨hr0, hr1⟩, if_neg (by omega), if_neg (by omega), if_pos rfl]
        unfold mkC; rw [if_pos (by omega)]
      have fA := fSteps k (List.replicate (n + 1) 3) t r s q (by simp; omega) (by simp; omega)
      have fB := fSteps k (List.replicate n 3) t r s q (by simp; omega) (by simp; omega)
      rw [hc, eA] at fA
      rw [hc, eB] at fB
      rw [fTimes k (n + 1) 3 (by omega) (by omega), Option.bind_some, fA, Option.bind_some, fTimes k n 3 (by omega) (by omega), Option.bind_some, fB, Option.bind_some]
      have m3 := mk_step t r 3 ⟨ht0, ht⟩ ⟨hr0, hr1⟩
      rw [if_neg (by omega), if_neg (by omega), if_pos rfl, ← hc] at m3
      have m3' : stepC t r s q 3 = mkC (t + 8) r := m3
      have eM : mkC (t + 8 * n) r = (t + 8 * n, r, stOf (t + 8 * n) r, 0) := by unfold mkC; rw [if_neg (by omega)]
      simp only [count_Step.f, Option.bind_some, Bool.false_eq_true, if_false, if_true, beq_self_eq_true, Bool.and_true, m3', eM]
      rw [if_neg (st_ne _ _)]
      by_cases h7 : t > 247
      · have e8 : mkC (t + 8) r = (256, 0, 3, 0) := by unfold mkC; rw [if_pos (by omega)]
        rw [e8]
        have hn0 : ((n + 1 : Nat) : Int) = 1 := by omega
        rw [if_pos hn0]
        have : stepC 256 0 3 0 1 = (256, 0, 3, 0) := by decide +kernel
        simp only [this, if_true]
      · have m1 := mk_step (t + 8) r 1 (by omega) ⟨hr0, hr1⟩
        rw [if_pos rfl] at m1
        have hx : mx (t + 8 - 1) 0 = t + 7 := by unfold mx; split <;> omega
        rw [hx] at m1
        have e7 : mkC (t + 7) r = (t + 7, r, stOf (t + 7) r, 0) := by unfold mkC; rw [if_neg (by omega)]
        rw [e7] at m1
        have m1' : stepC (mkC (t + 8) r).1 (mkC (t + 8) r).2.1 (mkC (t + 8) r).2.2.1 (mkC (t + 8) r).2.2.2 1 = (t + 7, r, stOf (t + 7) r, 0) := m1
        rw [m1']
        have hn0 : ¬ ((n + 1 : Nat) : Int) = 1 := by omega
        rw [if_neg hn0]; simp
  · rw [if_neg hr, J]

end Go.Proofs.Ytlbhokkifdjlaaa.Pure
