/-
  The plain law of CountWorse: errors never make a state better, and what goes well never worse.
-/
import Derived.Test.YtlbhokkifdjlaaaPx12
import Derived.Test.YtlbhokkifdjlaaaPlain
namespace Go.Proofs.Ytlbhokkifdjlaaa.Pure
open Go.RowKit Go.Proofs.Ytlbhokkifdjlaaa.P Go.Proofs.YtlbhokkifdjlaaaW.PrintWords Go.Proofs.YtlbhokkifdjlaaaW.PrintLast Go.Proofs.YtlbhokkifdjlaaaW.PrintMore
set_option linter.unusedVariables false
set_option linter.unusedSimpArgs false

theorem worse_j1 (k : Nat) (a b : Bool) (what t r s q : Int) (hr : rightC t r s q = true) (hw : what = if a = true then (if b = true then 1 else 2) else (if b = true then 3 else 4)) : phaetonlaw08_CountWorse.j1 (k + 1) a b true what t r s q = some true := by
  rw [phaetonlaw08_CountWorse.j1]
  simp only [count_Step.f, Option.bind_some, if_true]
  by_cases h3 : s = 3
  · have hne : ¬ what = 6 := by rw [hw]; repeat (first | omega | split)
    subst h3
    simp only [stepC, if_true, if_neg hne, beq_self_eq_true, Bool.and_true]
  · rw [if_neg h3]
    obtain ⟨hc, ht0, ht, hr0, hr1, hq⟩ := live_form t r s q hr h3
    have hm := mk_step t r what ⟨ht0, ht⟩ ⟨hr0, hr1⟩
    rw [← hc] at hm
    have hm' : stepC t r s q what = _ := hm
    have hs := (right_iff t r s q).mp hr
    have w1 : wrap64 (t - 1) = t - 1 := wr _ (by omega)
    have w3 : wrap64 (t + 8) = t + 8 := wr _ (by omega)
    have w4 : wrap64 (r + 1) = r + 1 := wr _ (by omega)
    rw [w1, w3, w4]
    clear hm hc w1 w3 w4 hr
    have D : ∀ T R : Int, T ≤ 255 → mkC T R = (T, R, stOf T R, 0) := by intro T R h; unfold mkC; rw [if_neg (by omega)]
    rcases a with _ | _ <;> rcases b with _ | _ <;> simp only [Bool.false_eq_true, if_false, if_true] at hw ⊢ <;> subst hw
    · rw [if_neg (by omega), if_neg (by omega), if_neg (by omega), if_pos rfl] at hm'
      rw [hm']
      have hR : mn (r + 1) 255 = r + 1 ∧ r < 255 ∨ mn (r + 1) 255 = 255 ∧ r = 255 := by unfold mn; split <;> omega
      generalize mn (r + 1) 255 = R at hR
      rw [D t R (by omega)]
      have g := (st_iff t R _).mp rfl
      dsimp only
      rw [if_pos (by omega)]
      by_cases e : R = r + 1
      · simp only [if_pos e, if_true]
      · simp only [if_neg e, if_true]
        rw [if_pos (by omega)]
        have : R = 255 := by omega
        rw [this]; rfl
    · rw [if_neg (by omega), if_neg (by omega), if_pos rfl] at hm'
      rw [hm']
      by_cases hT : t > 247
      · have : mkC (t + 8) r = (256, 0, 3, 0) := by unfold mkC; rw [if_pos (by omega)]
        rw [this]
        dsimp only
        rw [if_pos (by omega), if_pos rfl, if_pos hT]
      · rw [D (t + 8) r (by omega)]
        have g := (st_iff (t + 8) r _).mp rfl
        dsimp only
        rw [if_pos (by omega), if_neg (by omega)]
        simp only [if_true]
    · rw [if_neg (by omega), if_pos rfl] at hm'
      rw [hm']
      have hR : mn (mx (r - 1) 0) 127 ≤ r ∧ 0 ≤ mn (mx (r - 1) 0) 127 := by unfold mn mx; repeat (first | omega | split)
      generalize mn (mx (r - 1) 0) 127 = R at hR
      rw [D t R (by omega)]
      have g := (st_iff t R _).mp rfl
      dsimp only
      rw [if_pos (by omega), if_pos rfl, decide_eq_true hR.1]
    · rw [if_pos rfl] at hm'
      rw [hm']
      have hR : mx (t - 1) 0 ≤ t ∧ t - 1 ≤ mx (t - 1) 0 ∧ 0 ≤ mx (t - 1) 0 := by unfold mx; repeat (first | omega | split)
      generalize mx (t - 1) 0 = T at hR
      rw [D T r (by omega)]
      have g := (st_iff T r _).mp rfl
      dsimp only
      rw [if_pos (by omega), if_pos rfl, if_pos hR.1, if_pos hR.2.1]

theorem CountWorse : ∀ (y0 : S23) (y1 : Bool) (y2 : Bool), (ok23 y0) → (True) → (True) → ∃ k, phaetonlaw08_CountWorse.f k y0.f0 y0.f1 y0.f2 y0.f3 y1 y2 = some true := by
  intro y0 a b h0 _ _
  obtain ⟨t, r, s, q⟩ := y0
  dsimp only
  obtain ⟨k, hk⟩ : ∃ k, k = 300 := ⟨_, rfl⟩
  refine ⟨k + 1 + 1, ?_⟩
  unfold phaetonlaw08_CountWorse.f
  rw [head_true _ (by omega), Option.bind_some]
  simp only [count_Right.f, Option.bind_some]
  by_cases hr : rightC t r s q = true
  · rw [if_pos hr]
    have J : ∀ what, what = (if a = true then (if b = true then 1 else 2) else (if b = true then 3 else 4)) → phaetonlaw08_CountWorse.j1 (k + 1) a b true what t r s q = some true := fun what hw => worse_j1 k a b what t r s q hr hw
    rcases a with _ | _ <;> rcases b with _ | _ <;> simp only [Bool.false_eq_true, if_false, if_true] <;> rw [phaetonlaw08_CountWorse.j0] <;> simp only [Bool.false_eq_true, if_false, if_true] <;> exact J _ rfl
  · rw [if_neg hr]

end Go.Proofs.Ytlbhokkifdjlaaa.Pure
