/-
  The plain law of CountParts: many things are single steps, one behind the other.
-/
import Derived.Test.YtlbhokkifdjlaaaPx13
import Derived.Test.YtlbhokkifdjlaaaPlain
namespace Go.Proofs.Ytlbhokkifdjlaaa.Pure
open Go.RowKit Go.Proofs.Ytlbhokkifdjlaaa.P Go.Proofs.YtlbhokkifdjlaaaW.PrintWords Go.Proofs.YtlbhokkifdjlaaaW.PrintLast Go.Proofs.YtlbhokkifdjlaaaW.PrintMore
set_option linter.unusedVariables false
set_option linter.unusedSimpArgs false

theorem still (t r s q w : Int) (hr : rightC t r s q = true) (hw : ¬ (1 ≤ w ∧ w ≤ 6)) : stepC t r s q w = (t, r, s, q) := by
  by_cases h3 : s = 3
  · unfold stepC; rw [if_pos h3, if_neg (by omega), h3]
  · obtain ⟨hc, ht0, ht, hr0, hr1, hq⟩ := live_form t r s q hr h3
    have hm := mk_step t r w ⟨ht0, ht⟩ ⟨hr0, hr1⟩
    rw [if_neg (by omega), if_neg (by omega), if_neg (by omega), if_neg (by omega), if_neg (by omega), ← hc] at hm
    exact hm
theorem calm (t r s q : Int) (hr : rightC t r s q = true) (h3 : ¬ s = 3) : stepC t r s q 6 = (t, r, s, q) := by
  obtain ⟨hc, ht0, ht, hr0, hr1, hq⟩ := live_form t r s q hr h3
  have hm := mk_step t r 6 ⟨ht0, ht⟩ ⟨hr0, hr1⟩
  rw [if_neg (by omega), if_neg (by omega), if_neg (by omega), if_neg (by omega), if_neg (by omega), ← hc] at hm
  exact hm
theorem parts_j2 (k : Nat) (odd t r s q : Int) (hr : rightC t r s q = true) : phaetonlaw08_CountParts.j2 (k + 1) odd true false t r s q = some true := by
  rw [phaetonlaw08_CountParts.j2]
  simp only [Bool.false_eq_true, if_false, if_true, count_Step.f, Option.bind_some]
  have C : (if s = 3 then (some true : Option Bool) else some ((stepC t r s q 6).1 == t && ((stepC t r s q 6).2.1 == r && ((stepC t r s q 6).2.2.1 == s && ((stepC t r s q 6).2.2.2 == q))))) = some true := by
    by_cases h3 : s = 3
    · rw [if_pos h3]
    · rw [if_neg h3, calm t r s q hr h3]; simp
  by_cases h1 : odd ≥ 1
  · by_cases h6 : odd ≤ 6
    · rw [if_pos h1, if_pos h6, C]
    · rw [if_pos h1, if_neg h6, still t r s q odd hr (by omega), C]; simp
  · rw [if_neg h1, still t r s q odd hr (by omega), C]; simp
theorem parts_l0 : ∀ (k i : Nat) (l m : List Int) (odd t r s q : Int) (d : C4), rightC t r s q = true → l.length ≤ 1000 → m.length ≤ 1000 → i ≤ l.length → l.length - i + 3000 < k → stps d (l.drop i) = stps (t, r, s, q) l → phaetonlaw08_CountParts.l0 k l m odd true (i : Int) t r s q d.1 d.2.1 d.2.2.1 d.2.2.2 = some true
  | 0, _, _, _, _, _, _, _, _, _, _, _, _, _, h, _ => by omega
  | k + 1, i, l, m, odd, t, r, s, q, d, hr, hl, hm, hi, h, hd => by
    unfold phaetonlaw08_CountParts.l0
    by_cases e : i < l.length
    · rw [if_pos (by omega), if_pos (by omega)]
      have hw : wrap64 ((i : Int) + 1) = ((i + 1 : Nat) : Int) := by rw [wr _ (by omega)]; omega
      have hrd : rd l (i : Int) = l[i] := by unfold rd; simp [e]
      rw [hw, hrd]
      simp only [count_Step.f, Option.bind_some]
      refine parts_l0 k (i + 1) l m odd t r s q (stp d l[i]) hr hl hm (by omega) (by omega) ?_
      rw [← hd, List.drop_eq_getElem_cons e]
      rfl
    · rw [if_neg (by omega)]
      have hn : l.drop i = [] := by apply List.drop_eq_nil_of_le; omega
      rw [hn] at hd
      have hd' : d = stps (t, r, s, q) l := hd
      simp only [Option.bind_some, List.nil_append]
      rw [if_pos (by simp; omega), if_pos (by omega), fSteps _ _ _ _ _ _ (by omega) (by omega), ← hd']
      simp only [Option.bind_some, beq_self_eq_true, Bool.not_true, Bool.or_false, Bool.false_eq_true, if_false]
      rw [fSteps _ _ _ _ _ _ (by simp; omega) (by simp; omega), fSteps _ _ _ _ _ _ (by omega) (by omega), fSteps _ _ _ _ _ _ (by simp) (by simp; omega), stps_app, ← hd']
      simp only [Option.bind_some, beq_self_eq_true, Bool.not_true, Bool.or_false, Bool.false_eq_true, if_false]
      obtain ⟨k, rfl⟩ : ∃ j, k = j + 1 := ⟨k - 1, by omega⟩
      have hz : stps (t, r, s, q) [] = (t, r, s, q) := rfl
      rw [hz]
      simp only [beq_self_eq_true, Bool.not_true, Bool.or_false]
      exact parts_j2 k odd t r s q hr

theorem CountParts : ∀ (y0 : S23) (y1 : List Int) (y2 : List Int) (y3 : Int), (ok23 y0) → ((y1.length * 8 ≤ 140737488351232 ∧ y1.length ≤ maxLen ∧ ∀ z0 ∈ y1, (Lit.int .i64 z0).wf = true)) → ((y2.length * 8 ≤ 140737488351232 ∧ y2.length ≤ maxLen ∧ ∀ z0 ∈ y2, (Lit.int .i64 z0).wf = true)) → ((Lit.int .i64 y3).wf = true) → ∃ k, phaetonlaw08_CountParts.f k y0.f0 y0.f1 y0.f2 y0.f3 y1 y2 y3 = some true := by
  intro y0 l m odd h0 h1 h2 h3
  obtain ⟨t, r, s, q⟩ := y0
  dsimp only
  obtain ⟨k, hk⟩ : ∃ k, k = 6000 := ⟨_, rfl⟩
  refine ⟨k + 1, ?_⟩
  unfold phaetonlaw08_CountParts.f
  rw [head_true _ (by omega), Option.bind_some]
  have J : phaetonlaw08_CountParts.j0 (k + 1) l m odd true true t r s q = some true := by
    rw [phaetonlaw08_CountParts.j0]
    rw [if_pos rfl]
  by_cases c1 : (l.length : Int) > 1000
  · rw [if_pos c1, J]
  · by_cases c2 : (m.length : Int) > 1000
    · rw [if_neg c1, if_pos c2, J]
    · rw [if_neg c1, if_neg c2]
      simp only [count_Right.f, Option.bind_some]
      rcases hr : rightC t r s q with _ | _
      · exact J
      · rw [phaetonlaw08_CountParts.j0]
        simp only [Bool.not_true, Bool.false_eq_true, if_false]
        exact parts_l0 k 0 l m odd t r s q (t, r, s, q) hr (by omega) (by omega) (by omega) (by omega) rfl

end Go.Proofs.Ytlbhokkifdjlaaa.Pure
