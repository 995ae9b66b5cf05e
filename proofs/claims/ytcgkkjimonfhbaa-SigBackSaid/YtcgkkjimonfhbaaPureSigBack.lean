/-
  The plain law of SigBack: what the printed text answers is true. Conditions: the numbers are ints, the rows read.
-/
import Derived.Test.YtcgkkjimonfhbaaPx19
import Derived.Test.YtcgkkjimonfhbaaPlainF
namespace Go.Proofs.Ytcgkkjimonfhbaa.Pure
open Go.RowKit Go.Proofs.YtcgkkjimonfhbaaOwn Go.Proofs.Ytcgkkjimonfhbaa.P Go.Proofs.YtcgkkjimonfhbaaW.PrintWords Go.Proofs.YtcgkkjimonfhbaaW.PrintLast Go.Proofs.YtcgkkjimonfhbaaW.PrintMore
set_option linter.unusedVariables false
set_option linter.unusedSimpArgs false

theorem SigBack : ∀ (y0 : S23) (y1 : List Int) (y2 : Int), (ok23 y0) → ((y1.length * 1 ≤ 140737488351232 ∧ y1.length ≤ maxLen ∧ ∀ z0 ∈ y1, (Lit.int .u8 z0).wf = true)) → ((Lit.int .i64 y2).wf = true) → ∃ k, phaetonlaw15_SigBack.f k y0.f0 y0.f1 y0.f2 y0.f3 y0.f4 y0.f5 y1 y2 = some true := by
  intro y0 y1 y2 h0 h1 h2
  obtain ⟨st, ln, big, sgn, mul, add⟩ := y0
  dsimp only
  refine ⟨200, ?_⟩
  unfold phaetonlaw15_SigBack.f
  have hb : wfB (y1.take 8) := wf_take (wf_of h1.2.2) _
  have hl : (y1.take 8).length ≤ 8 := by rw [List.length_take]; omega
  rw [head_true _ (by omega), Option.bind_some, fData, Option.bind_some]
  generalize y1.take 8 = b at *
  have hp := putS_len b st ln big sgn mul add y2
  rw [fPut _ _ _ _ _ _ _ _ _ hb (by omega), Option.bind_some]
  simp only [sig_Right.f, Option.bind_some]
  cases h : rightS st ln big sgn mul add b.length with
  | false =>
    rw [if_neg (by decide), fGet _ _ _ _ _ _ _ hb, Option.bind_some]
    unfold putS gotS
    rw [h]; simp
  | true =>
    have hR := rightS_iff.1 h
    have hln : 1 ≤ ln ∧ ln ≤ 32 := ⟨hR.l1, hR.l32⟩
    have hpl := plS_len st ln big
    have hnd := plS_nodup st ln big hR.s0
    have hin := plS_in hR
    have hgl : ∀ (j : Nat) (hj : j < (plS st ln big).length), (plS st ln big).getD j 0 = (plS st ln big)[j] := fun j hj => by rw [List.getD_eq_getElem?_getD, List.getElem?_eq_getElem hj]; rfl
    have hacc := accN_range b (plS st ln big) ln.toNat
    obtain ⟨hfs, m, hm⟩ := fits_sign hln sgn _ hacc
    have hg : gotS b st ln big sgn mul add = (signS ln sgn (accN b (plS st ln big) ln.toNat), true) := by unfold gotS; rw [if_pos h]
    have hsame : putL (signS ln sgn (accN b (plS st ln big) ln.toNat)) (plS st ln big) 0 b = b := by
      refine putL_same _ _ 0 b hin (fun j hj => ?_)
      rw [Nat.zero_add, hm, nb_add _ _ _ _ (by omega), nb_acc _ _ _ _ (by omega), hgl j hj]
    have hd : putS b st ln big sgn mul add (signS ln sgn (accN b (plS st ln big) ln.toNat)) = (b, true) := by unfold putS; rw [if_pos h, if_pos hfs, hsame]
    rw [if_pos rfl, fGet _ _ _ _ _ _ _ hb, Option.bind_some, hg]
    dsimp only
    rw [fPut _ _ _ _ _ _ _ _ _ hb (by omega), Option.bind_some, hd]
    dsimp only
    rw [if_pos rfl, if_pos rfl, fBytes _ _ _ (by omega) (by omega), Option.bind_some, decide_eq_true rfl, if_pos rfl, fRFits _ _ _ _ _ _ _ _ hln (by omega), Option.bind_some, phaetonlaw15_SigBack.j0]
    cases hf : fitsS ln sgn y2 with
    | false =>
      have hq : putS b st ln big sgn mul add y2 = ([], false) := by unfold putS; rw [if_pos h, if_neg (by rw [hf]; decide)]
      rw [hq]; simp
    | true =>
      have hq : putS b st ln big sgn mul add y2 = (putL y2 (plS st ln big) 0 b, true) := by unfold putS; rw [if_pos h, if_pos hf]
      have hw := putL_wf y2 (plS st ln big) 0 hb
      have hlen := putL_len y2 (plS st ln big) 0 b
      have hgot : gotS (putL y2 (plS st ln big) 0 b) st ln big sgn mul add = (y2, true) := by
        unfold gotS
        rw [hlen, if_pos h, accN_of y2 _ _ ln.toNat (fun j hj => by rw [hgl j (by omega), putL_bit y2 _ 0 hb hin hnd j (by omega), Nat.zero_add]), sign_of hln sgn y2 hf]
      rw [hq]
      dsimp only
      rw [if_neg (by decide), if_pos rfl, fGet _ _ _ _ _ _ _ hw, Option.bind_some, hgot]
      dsimp only
      rw [if_pos rfl, if_pos rfl, if_pos (by omega)]

end Go.Proofs.Ytcgkkjimonfhbaa.Pure
