/-
  The document's answers of layer 8 are those of the plain steps. Conditions: a right counter, rows of an addressable length.
-/
import Derived.Test.YtlbhokkifdjlaaaPx6
import Derived.Test.YtlbhokkifdjlaaaPx5
import Derived.Test.YtlbhokkifdjlaaaPlain
namespace Go.Proofs.Ytlbhokkifdjlaaa.P
open Go.RowKit Go.Proofs.YtlbhokkifdjlaaaOwn Go.Proofs.YtlbhokkifdjlaaaW.PrintWords Go.Proofs.YtlbhokkifdjlaaaW.PrintLast Go.Proofs.YtlbhokkifdjlaaaW.PrintMore
set_option linter.unusedVariables false
set_option linter.unusedSimpArgs false

theorem fRRight (k : Nat) (t r s q : Int) (hk : 1 ≤ k) : phaetonref08_Right.f k t r s q = some (rightC t r s q) := by
  obtain ⟨k, rfl⟩ : ∃ j, k = j + 1 := ⟨k - 1, by omega⟩
  rcases hb : rightC t r s q with _ | _
  · have hn : ¬ rightC t r s q = true := by rw [hb]; simp
    rw [right_iff] at hn
    unfold phaetonref08_Right.f phaetonref08_Right.j0
    repeat (first | (exfalso; omega) | rfl | (simp only [Option.some.injEq, beq_eq_false_iff_ne, decide_eq_false_iff_not, bne_iff_ne, ne_eq] at *; omega) | split)
  · rw [right_iff] at hb
    unfold phaetonref08_Right.f phaetonref08_Right.j0
    repeat (first | (exfalso; omega) | rfl | (simp only [Option.some.injEq, beq_iff_eq, decide_eq_true_eq, bne_iff_ne, ne_eq] at *; omega) | split)

theorem fRStep (t r s q w : Int) (h : rightC t r s q = true) : phaetonref08_Step.f t r s q w = some (stepC t r s q w) := by
  rw [right_iff] at h
  unfold phaetonref08_Step.f refC stepC stepN
  by_cases h3 : s = 3
  · simp only [if_pos h3]
    subst h3
    rfl
  · simp only [if_neg h3]
    have w1 : wrap64 (t - 1) = t - 1 := wr _ (by omega)
    have w2 : wrap64 (r - 1) = r - 1 := wr _ (by omega)
    have w3 : wrap64 (t + 8) = t + 8 := wr _ (by omega)
    have w4 : wrap64 (r + 1) = r + 1 := wr _ (by omega)
    have w5 : wrap64 (r + 8) = r + 8 := wr _ (by omega)
    rw [w1, w2, w3, w4, w5]
    have J : ∀ t' r' q' : Int, refT t' r' q' = (if t' > 255 then (256, 0, 3, 0) else (t', r', stOf t' r', q')) := by
      intro t' r' q'
      unfold refT
      have hs := (st_iff t' r' _).mp rfl
      by_cases a1 : t' > 255
      · simp only [if_pos a1]
      · by_cases a2 : t' > 127
        · have : stOf t' r' = 2 := by omega
          simp only [if_neg a1, if_pos a2, this]
        · by_cases a3 : r' > 127
          · have : stOf t' r' = 2 := by omega
            simp only [if_neg a1, if_neg a2, if_pos a3, this]
          · have : stOf t' r' = 1 := by omega
            simp only [if_neg a1, if_neg a2, if_neg a3, this]
    by_cases c1 : w = 1
    · simp only [if_pos c1, J]
    · by_cases c2 : w = 2
      · have m : mn (mx (r - 1) 0) 127 = if r > 127 then 127 else mx (r - 1) 0 := by unfold mn mx; repeat (first | omega | split)
        by_cases c6 : r > 127
        · simp only [if_neg c1, if_pos c2, J, m, if_pos c6]
        · simp only [if_neg c1, if_pos c2, J, m, if_neg c6]
      · by_cases c3 : w = 3
        · simp only [if_neg c1, if_neg c2, if_pos c3, J]
        · by_cases c4 : w = 4
          · simp only [if_neg c1, if_neg c2, if_neg c3, if_pos c4, J]
          · by_cases c5 : w = 5
            · simp only [if_neg c1, if_neg c2, if_neg c3, if_neg c4, if_pos c5, J]
            · simp only [if_neg c1, if_neg c2, if_neg c3, if_neg c4, if_neg c5, J]
theorem rsteps_l0 : ∀ (k i : Nat) (l : List Int) (c : C4), okC c → l.length < 17592186044416 → i ≤ l.length → l.length - i + 1 < k → phaetonref08_Steps.l0 k l (i : Int) c.1 c.2.1 c.2.2.1 c.2.2.2 = some (stps c (l.drop i))
  | 0, _, _, _, _, _, _, h => by omega
  | k + 1, i, l, c, hc, hl, hi, h => by
    unfold phaetonref08_Steps.l0
    by_cases e : i < l.length
    · rw [if_pos (by omega), if_pos (by omega)]
      have hw : wrap64 ((i : Int) + 1) = ((i + 1 : Nat) : Int) := by rw [wr _ (by omega)]; omega
      have hr : rd l (i : Int) = l[i] := by unfold rd; simp [e]
      rw [hw, hr, fRStep _ _ _ _ _ hc]
      simp only [Option.bind]
      refine (rsteps_l0 k (i + 1) l (stp c l[i]) (stp_ok _ _ hc) hl (by omega) (by omega)).trans ?_
      rw [List.drop_eq_getElem_cons e]
      rfl
    · rw [if_neg (by omega)]
      have : l.drop i = [] := by apply List.drop_eq_nil_of_le; omega
      rw [this]; rfl
theorem fRSteps (k : Nat) (l : List Int) (t r s q : Int) (h : rightC t r s q = true) (hl : l.length < 17592186044416) (hk : l.length + 1 < k) : phaetonref08_Steps.f k t r s q l = some (stps (t, r, s, q) l) := by
  unfold phaetonref08_Steps.f
  exact rsteps_l0 k 0 l (t, r, s, q) h hl (by omega) (by omega)


end Go.Proofs.Ytlbhokkifdjlaaa.P
