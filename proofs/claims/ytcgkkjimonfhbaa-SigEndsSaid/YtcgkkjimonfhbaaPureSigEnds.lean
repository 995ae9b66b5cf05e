/-
  The plain law of SigEnds: what the printed text answers is true. Conditions: the numbers are ints, the rows read.
-/
import Derived.Test.YtcgkkjimonfhbaaPx26
import Derived.Test.YtcgkkjimonfhbaaPlainF
namespace Go.Proofs.Ytcgkkjimonfhbaa.Pure
open Go.RowKit Go.Proofs.YtcgkkjimonfhbaaOwn Go.Proofs.Ytcgkkjimonfhbaa.P Go.Proofs.YtcgkkjimonfhbaaW.PrintWords Go.Proofs.YtcgkkjimonfhbaaW.PrintLast Go.Proofs.YtcgkkjimonfhbaaW.PrintMore
set_option linter.unusedVariables false
set_option linter.unusedSimpArgs false

theorem shl_m1 : ∀ (l : Fin 32), Go.bits .and .i64 ((l.val : Int) + 1) 63 = (l.val : Int) + 1 ∧ Go.bits .and .i64 (wrap64 ((l.val : Int) + 1 - 1)) 63 = (l.val : Int) ∧ shl .i64 (-1) (l.val : Int) = -2 ^ l.val ∧ wrap64 (shl .i64 1 (l.val : Int) - 1) = 2 ^ l.val - 1 ∧ wrap64 (shl .i64 1 ((l.val : Int) + 1) - 1) = 2 ^ (l.val + 1) - 1 := by decide +kernel
theorem SigEnds : ∀ (y0 : S23) (y1 : List Int), (ok23 y0) → ((y1.length * 1 ≤ 140737488351232 ∧ y1.length ≤ maxLen ∧ ∀ z0 ∈ y1, (Lit.int .u8 z0).wf = true)) → ∃ k, phaetonlaw15_SigEnds.f k y0.f0 y0.f1 y0.f2 y0.f3 y0.f4 y0.f5 y1 = some true := by
  intro y0 y1 h0 h1
  obtain ⟨st, ln, big, sgn, mul, add⟩ := y0
  dsimp only
  refine ⟨200, ?_⟩
  unfold phaetonlaw15_SigEnds.f
  have hb : wfB (y1.take 8) := wf_take (wf_of h1.2.2) _
  have hl : (y1.take 8).length ≤ 8 := by rw [List.length_take]; omega
  rw [head_true _ (by omega), Option.bind_some, fData, Option.bind_some]
  generalize y1.take 8 = b at *
  simp only [sig_Right.f, Option.bind_some]
  cases h : rightS st ln big sgn mul add b.length with
  | false => rw [if_neg (by decide), fRRight _ _ _ _ _ _ _ _ (by omega), Option.bind_some, h, if_neg (by decide)]
  | true =>
    have hR := rightS_iff.1 h
    have hln : 1 ≤ ln ∧ ln ≤ 32 := ⟨hR.l1, hR.l32⟩
    have hpl := plS_len st ln big
    have hnd := plS_nodup st ln big hR.s0
    have hin := plS_in hR
    have hgl : ∀ (j : Nat) (hj : j < (plS st ln big).length), (plS st ln big).getD j 0 = (plS st ln big)[j] := fun j hj => by rw [List.getD_eq_getElem?_getD, List.getElem?_eq_getElem hj]; rfl
    obtain ⟨q1, q2, q3, q4, q5⟩ := shl_m1 ⟨ln.toNat - 1, by omega⟩
    simp only at q1 q2 q3 q4 q5
    rw [show (((ln.toNat - 1 : Nat) : Int) + 1) = ln by omega] at q1 q2 q5
    rw [show ln.toNat - 1 + 1 = ln.toNat by omega] at q5
    have J : ∀ lo hi : Int, fitsS ln sgn lo = true → fitsS ln sgn hi = true → fitsS ln sgn (lo - 1) = false → fitsS ln sgn (hi + 1) = false → phaetonlaw15_SigEnds.j0 200 b true lo hi st ln big sgn mul add = some true := by
      intro lo hi f1 f2 f3 f4
      have b1 := fits_bd hln f1
      have b2 := fits_bd hln f2
      have hq : ∀ n, fitsS ln sgn n = true → putS b st ln big sgn mul add n = (putL n (plS st ln big) 0 b, true) := fun n hn => by unfold putS; rw [if_pos h, if_pos hn]
      have hno : ∀ n, fitsS ln sgn n = false → putS b st ln big sgn mul add n = ([], false) := fun n hn => by unfold putS; rw [if_pos h, if_neg (by rw [hn]; decide)]
      have hgot : ∀ n, fitsS ln sgn n = true → gotS (putL n (plS st ln big) 0 b) st ln big sgn mul add = (n, true) := fun n hn => by
        unfold gotS
        rw [putL_len, if_pos h, accN_of n _ _ ln.toNat (fun j hj => by rw [hgl j (by omega), putL_bit n _ 0 hb hin hnd j (by omega), Nat.zero_add]), sign_of hln sgn n hn]
      rw [phaetonlaw15_SigEnds.j0, fPut _ _ _ _ _ _ _ _ _ hb (by omega), fPut _ _ _ _ _ _ _ _ _ hb (by omega), fPut _ _ _ _ _ _ _ _ _ hb (by omega), fPut _ _ _ _ _ _ _ _ _ hb (by omega), wr (lo - 1) (by omega), wr (hi + 1) (by omega), hq _ f1, hq _ f2, hno _ f3, hno _ f4]
      simp only [Option.bind_some]
      rw [fGet _ _ _ _ _ _ _ (putL_wf _ _ _ hb), fGet _ _ _ _ _ _ _ (putL_wf _ _ _ hb), hgot _ f1, hgot _ f2]
      simp
    have ph := pow_half hln.1
    have p1 := two_pos (ln.toNat - 1)
    have h32 := pow_le ln.toNat (by omega)
    have q3' : shl .i64 (-1) ((ln.toNat - 1 : Nat) : Int) = -2 ^ (ln.toNat - 1) := q3
    rw [if_pos rfl, q1, if_pos (by omega)]
    cases sgn with
    | true =>
      rw [if_pos rfl, q2, if_pos (by omega), q3, q4]
      refine J _ _ ?_ ?_ ?_ ?_ <;> unfold fitsS <;> simp <;> omega
    | false =>
      rw [if_neg (by decide), q5]
      refine J _ _ ?_ ?_ ?_ ?_ <;> unfold fitsS <;> simp <;> omega

end Go.Proofs.Ytcgkkjimonfhbaa.Pure
