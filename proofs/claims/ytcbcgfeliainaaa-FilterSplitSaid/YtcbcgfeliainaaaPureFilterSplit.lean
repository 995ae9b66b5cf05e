/-
  The pure statement of FilterSplit: a filter takes what one of the two takes that see one bit more. Conditions: the numbers are ints, the slices read.
-/
import Derived.Test.YtcbcgfeliainaaaPx13
import Derived.Test.YtcbcgfeliainaaaPlain
namespace Go.Proofs.Ytcbcgfeliainaaa.Pure
open Go.RowKit Go.Proofs.YtcbcgfeliainaaaOwn Go.Proofs.Ytcbcgfeliainaaa.P Go.Proofs.YtcbcgfeliainaaaW.PrintWords Go.Proofs.YtcbcgfeliainaaaW.PrintLast
set_option linter.unusedVariables false
set_option linter.unusedSimpArgs false

theorem one_bit (j : Nat) (hj : j < 30) : shl .i64 1 (j : Int) = (1#64 <<< j).toInt := by
  have : j = 0 ∨ j = 1 ∨ j = 2 ∨ j = 3 ∨ j = 4 ∨ j = 5 ∨ j = 6 ∨ j = 7 ∨ j = 8 ∨ j = 9 ∨ j = 10 ∨ j = 11 ∨ j = 12 ∨ j = 13 ∨ j = 14 ∨ j = 15 ∨ j = 16 ∨ j = 17 ∨ j = 18 ∨ j = 19 ∨ j = 20 ∨ j = 21 ∨ j = 22 ∨ j = 23 ∨ j = 24 ∨ j = 25 ∨ j = 26 ∨ j = 27 ∨ j = 28 ∨ j = 29 := by omega
  rcases this with rfl | rfl | rfl | rfl | rfl | rfl | rfl | rfl | rfl | rfl | rfl | rfl | rfl | rfl | rfl | rfl | rfl | rfl | rfl | rfl | rfl | rfl | rfl | rfl | rfl | rfl | rfl | rfl | rfl | rfl <;> decide +kernel
theorem get_one (j i : Nat) (hi : i < 64) : (1#64 <<< j).getLsbD i = decide (i = j) := by
  rw [BitVec.getLsbD_shiftLeft]
  by_cases h : i < j
  · have h1 : i ≠ j := by omega
    simp [h, h1]
  · by_cases h1 : i = j
    · subst h1; simp [hi]
    · have h2 : ¬ (i - j = 0) := by omega
      simp [h, h1, hi, BitVec.getLsbD_one, h2]

theorem FilterSplit : ∀ (y0 : S23) (y1 : S27) (y2 : Int), (ok23 y0) → (ok27 y1) → ((Lit.int .u8 y2).wf = true) → ∃ k, phaetonlaw07_FilterSplit.f k y0.f0 y0.f1 y0.f2 y1.f0 y1.f1 y1.f2 y1.f3 y1.f4 y2 = some true := by
  intro y0 y1 y2 h0 h1 h2
  obtain ⟨K, M, a1, a2⟩ := flt_of h0
  obtain ⟨X, hX⟩ := toInt_of_wf h1.2.1
  have hb : 0 ≤ y2 ∧ y2 ≤ 255 := by simpa [Lit.wf, IntKind.min, IntKind.max, IntKind.signed, IntKind.bits] using h2
  refine ⟨10, ?_⟩
  unfold phaetonlaw07_FilterSplit.f
  rw [head_true, a1, a2, hX, rRight]
  simp only [Option.bind_some]
  have JT : phaetonlaw07_FilterSplit.j0 10 y2 true true y0.f0 K.toInt M.toInt y1.f0 X.toInt y1.f2 y1.f3 y1.f4 = some true := by
    rw [phaetonlaw07_FilterSplit.j0]; rw [if_pos rfl]
  cases hr : rightB y0.f0 K M with
  | false => rw [if_neg (by decide)]; exact JT
  | true =>
    rw [if_pos rfl]
    by_cases c : (y1.f4.length : Int) > 100
    · rw [if_pos c]; exact JT
    rw [if_neg c]
    obtain ⟨r1, e1, _⟩ := frame_tells 7 y1.f0 X y1.f2 y1.f3 y1.f4
    rw [e1]
    simp only [Option.bind_some]
    cases r1 with
    | false => exact JT
    | true =>
      show phaetonlaw07_FilterSplit.j0 10 y2 true false y0.f0 K.toInt M.toInt y1.f0 X.toInt y1.f2 y1.f3 y1.f4 = some true
      have J1 : ∀ j : Nat, j < 30 → phaetonlaw07_FilterSplit.j1 9 true (shl .i64 1 (j : Int)) y0.f0 K.toInt M.toInt y1.f0 X.toInt y1.f2 y1.f3 y1.f4 = some true := by
        intro j hj
        rw [one_bit j hj]
        have hg := get_one j
        generalize hB : 1#64 <<< j = B at hg
        rw [phaetonlaw07_FilterSplit.j1]
        rw [and_toInt, or_toInt, or_toInt]
        simp only [fTakes, fCovers, fMeets, Option.bind_some, if_true]
        by_cases hz : (K &&& B).toInt = 0
        · rw [if_pos hz]
          rw [zero_toInt, toInt_eq] at hz
          simp only [rightB, Bool.and_eq_true, beq_iff_eq] at hr
          have hKj : K.getLsbD j = false := by
            have a := bv_get hz j
            have g := hg j (by omega)
            simp only [BitVec.getLsbD_and, BitVec.getLsbD_zero, g, decide_true, Bool.and_true] at a
            exact a
          have hMj : M.getLsbD j = false := by
            have a := bv_get hr.2 j
            simp only [BitVec.getLsbD_and, hKj, Bool.and_false] at a
            exact a.symm
          have hKB : ∀ i, i < 64 → (K ||| B).getLsbD i = (K.getLsbD i || decide (i = j)) := fun i hi => by rw [BitVec.getLsbD_or, hg i hi]
          have hMB : ∀ i, i < 64 → (M ||| B).getLsbD i = (M.getLsbD i || decide (i = j)) := fun i hi => by rw [BitVec.getLsbD_or, hg i hi]
          have c1 : coversB y0.f0 K M y0.f0 (K ||| B) M = true := by
            simp only [coversB, Bool.and_eq_true, beq_iff_eq]
            refine ⟨?_, trivial, hr.2⟩
            apply bv_ext; intro i hi
            simp only [BitVec.getLsbD_and, BitVec.getLsbD_or]
            cases K.getLsbD i <;> simp
          have c2 : coversB y0.f0 K M y0.f0 (K ||| B) (M ||| B) = true := by
            simp only [coversB, Bool.and_eq_true, beq_iff_eq]
            refine ⟨?_, trivial, ?_⟩
            · apply bv_ext; intro i hi
              simp only [BitVec.getLsbD_and, BitVec.getLsbD_or]
              cases K.getLsbD i <;> simp
            · apply bv_ext; intro i hi
              have a := bv_get hr.2 i
              rw [BitVec.getLsbD_and] at a ⊢
              rw [hMB i hi]
              by_cases e : i = j
              · subst e; rw [hKj, hMj]; simp
              · simp [e]; simpa using a
          have m1 : meetsB y0.f0 (K ||| B) M y0.f0 (K ||| B) (M ||| B) = false := by
            have : ¬ (M &&& (K ||| B) = (M ||| B) &&& (K ||| B)) := by
              intro h
              have a := bv_get h j
              rw [BitVec.getLsbD_and, BitVec.getLsbD_and, hKB j (by omega), hMB j (by omega), hMj] at a
              simp at a
            unfold meetsB
            rw [beq_false_of_ne this]; simp
          have c3 : coversB y0.f0 (K ||| B) M y0.f0 K M = false := by
            have : ¬ ((K ||| B) &&& K = (K ||| B)) := by
              intro h
              have a := bv_get h j
              rw [BitVec.getLsbD_and, hKB j (by omega), hKj] at a
              simp at a
            unfold coversB
            rw [beq_false_of_ne this]; simp
          rw [c1, c2, m1, c3]
          have split1 : takesB y0.f0 K M y1.f0 X = (takesB y0.f0 (K ||| B) M y1.f0 X || takesB y0.f0 (K ||| B) (M ||| B) y1.f0 X) := by
            unfold takesB
            cases hee : (y1.f0 == y0.f0) with
            | false => simp
            | true =>
              simp only [Bool.true_and]
              rw [Bool.eq_iff_iff]
              simp only [Bool.or_eq_true, beq_iff_eq]
              constructor
              · intro h
                by_cases hx : X.getLsbD j = true
                · right
                  apply bv_ext; intro i hi
                  have a := bv_get h i
                  rw [BitVec.getLsbD_and] at a ⊢
                  rw [hKB i hi, hMB i hi]
                  by_cases e : i = j
                  · subst e; simp [hx]
                  · simp [e]; simpa using a
                · left
                  rw [Bool.not_eq_true] at hx
                  apply bv_ext; intro i hi
                  have a := bv_get h i
                  rw [BitVec.getLsbD_and] at a ⊢
                  rw [hKB i hi]
                  by_cases e : i = j
                  · subst e; simp [hx, hMj]
                  · simp [e]; simpa using a
              · rintro (h | h) <;> (apply bv_ext; intro i hi; have a := bv_get h i; rw [BitVec.getLsbD_and] at a ⊢; rw [hKB i hi] at a)
                · by_cases e : i = j
                  · subst e; simp [hKj, hMj]
                  · simpa [e] using a
                · rw [hMB i hi] at a
                  by_cases e : i = j
                  · subst e; simp [hKj, hMj]
                  · simpa [e] using a
          rw [split1]
          cases takesB y0.f0 (K ||| B) M y1.f0 X <;> cases takesB y0.f0 (K ||| B) (M ||| B) y1.f0 X <;> simp
        · rw [if_neg hz]
      rw [phaetonlaw07_FilterSplit.j0]
      have t11 : Int.tmod y2 11 = y2 % 11 := Int.tmod_eq_emod_of_nonneg hb.1
      have t29 : Int.tmod y2 29 = y2 % 29 := Int.tmod_eq_emod_of_nonneg hb.1
      rw [if_neg (by decide), t11, t29, if_pos (by omega)]
      obtain ⟨j11, e11⟩ := Int.eq_ofNat_of_zero_le (show 0 ≤ y2 % 11 by omega)
      obtain ⟨j29, e29⟩ := Int.eq_ofNat_of_zero_le (show 0 ≤ y2 % 29 by omega)
      have hj11 := J1 j11 (by omega)
      have hj29 := J1 j29 (by omega)
      rw [e11, e29]
      cases he : y0.f0 with
      | true =>
        rw [if_pos rfl, if_pos (by omega)]
        rw [he] at hj29
        exact hj29
      | false =>
        rw [if_neg (by decide)]
        rw [he] at hj11
        exact hj11

end Go.Proofs.Ytcbcgfeliainaaa.Pure
