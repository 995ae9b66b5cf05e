/-
  Filters as plain rows of bits: what each printed function of layer 7 answers, in BitVec 64. Conditions: each number is an int.
-/
import Derived.Test.YtcbcgfeliainaaaPx3
import Derived.Test.YtcbcgfeliainaaaPx4
import Derived.Test.YtcbcgfeliainaaaPx4
import Derived.Test.YtcbcgfeliainaaaPx5
import Derived.Test.YtcbcgfeliainaaaOpens
import Derived.Test.YtcbcgfeliainaaaBits
namespace Go.Proofs.Ytcbcgfeliainaaa.P
open Go.RowKit Go.Proofs.YtcbcgfeliainaaaOwn Go.Proofs.YtcbcgfeliainaaaW.PrintWords Go.Proofs.YtcbcgfeliainaaaW.PrintLast
set_option linter.unusedVariables false
set_option linter.unusedSimpArgs false

abbrev BV := BitVec 64
theorem bv_ext {A B : BV} (h : ∀ i, i < 64 → A.getLsbD i = B.getLsbD i) : A = B := BitVec.eq_of_getLsbD_eq h
theorem bv_get {A B : BV} (h : A = B) (i : Nat) : A.getLsbD i = B.getLsbD i := by rw [h]
def wide (e : Bool) : Nat := if e then 29 else 11
def allOf (e : Bool) : BV := BitVec.ofNat 64 (2 ^ wide e - 1)

theorem head_true : phaetonlaw07_head.f = some true := by decide +kernel

def rightB (e : Bool) (K M : BV) : Bool := (K &&& allOf e == K) && (M &&& K == M)
theorem sub_iff (M K : BV) : (M &&& ~~~K == 0#64) = (M &&& K == M) := by
  rw [Bool.eq_iff_iff, beq_iff_eq, beq_iff_eq]
  constructor <;> intro h <;> apply bv_ext <;> intro i hi <;> have h1 := bv_get h i <;> simp [hi] at h1 ⊢ <;> cases hM : M.getLsbD i <;> cases hK : K.getLsbD i <;> simp_all
theorem all_iff (e : Bool) (K : BV) : (K &&& allOf e == K) = decide (0 ≤ K.toInt ∧ K.toInt < 2 ^ wide e) := by
  rw [Bool.eq_iff_iff, beq_iff_eq, decide_eq_true_eq]
  have hw : wide e < 63 := by unfold wide; split <;> omega
  exact ⟨fun h => and_range hw h, fun h => range_and hw h.1 h.2⟩
theorem fRight (e : Bool) (K M : BV) : filter_Right.f e K.toInt M.toInt = some (rightB e K M) := by
  unfold filter_Right.f rightB
  rw [andNot_toInt, zero_toInt, toInt_beq, sub_iff, all_iff, ← zero_toInt]
  cases e
  · simp only [Bool.false_eq_true, if_false, wide]
    by_cases h : K.toInt / 2048 = 0
    · have h2 : 0 ≤ K.toInt ∧ K.toInt < 2 ^ 11 := by omega
      rw [if_pos h, decide_eq_true h2]; simp
    · have h2 : ¬ (0 ≤ K.toInt ∧ K.toInt < 2 ^ 11) := by omega
      rw [if_neg h, decide_eq_false h2]; simp
  · simp only [if_true, wide]
    by_cases h : K.toInt / 536870912 = 0
    · have h2 : 0 ≤ K.toInt ∧ K.toInt < 2 ^ 29 := by omega
      rw [if_pos h, decide_eq_true h2]; simp
    · have h2 : ¬ (0 ≤ K.toInt ∧ K.toInt < 2 ^ 29) := by omega
      rw [if_neg h, decide_eq_false h2]; simp
/-- Bits under bits that are few are few. -/
theorem sub_all {e : Bool} {K M : BV} (h1 : (K &&& allOf e == K) = true) (h2 : (M &&& K == M) = true) : (M &&& allOf e == M) = true := by
  rw [beq_iff_eq] at *
  apply bv_ext
  intro i hi
  have a := bv_get h1 i
  have b := bv_get h2 i
  simp at a b ⊢
  cases hM : M.getLsbD i <;> cases hK : K.getLsbD i <;> simp_all
theorem rRight (e : Bool) (K M : BV) : phaetonref07_Right.f e K.toInt M.toInt = some (rightB e K M) := by
  unfold phaetonref07_Right.f rightB
  rw [and_toInt, toInt_beq]
  have key : ∀ w : Int, w = 2 ^ wide e → (if K.toInt ≥ 0 then (if K.toInt < w then (if M.toInt ≥ 0 then (if M.toInt < w then (some (M &&& K == M)) else (some false)) else (some false)) else (some false)) else (some false)) = some ((K &&& allOf e == K) && (M &&& K == M)) := by
    rintro w rfl
    by_cases hm : (M &&& K == M) = true
    · by_cases hk : (K &&& allOf e == K) = true
      · have h1 := sub_all hk hm
        rw [hk, hm]
        rw [all_iff, decide_eq_true_eq] at hk h1
        rw [if_pos hk.1, if_pos hk.2, if_pos h1.1, if_pos h1.2]; rfl
      · rw [Bool.not_eq_true] at hk
        rw [hk]
        rw [all_iff, decide_eq_false_iff_not] at hk
        by_cases h0 : K.toInt ≥ 0
        · rw [if_pos h0, if_neg (fun h => hk ⟨h0, h⟩)]; rfl
        · rw [if_neg h0]; rfl
    · rw [Bool.not_eq_true] at hm
      rw [hm]
      simp
  cases e
  · simp only [Bool.false_eq_true, if_false]; exact key 2048 (by simp [wide])
  · simp only [if_true]; exact key 536870912 (by simp [wide])
def takesB (e : Bool) (K M : BV) (x : Bool) (X : BV) : Bool := x == e && (X &&& K == M)
theorem fTakes (e : Bool) (K M : BV) (x : Bool) (X : BV) (b : Bool) (n : Int) (l : List Int) : filter_Takes.f e K.toInt M.toInt x X.toInt b n l = some (takesB e K M x X) := by
  unfold filter_Takes.f filter_of.f takesB
  simp only [Option.bind_some]
  rw [and_toInt, toInt_beq]
theorem rTakes (e : Bool) (K M : BV) (x : Bool) (X : BV) (b : Bool) (n : Int) (l : List Int) : phaetonref07_Takes.f e K.toInt M.toInt x X.toInt b n l = some (takesB e K M x X) := by
  unfold phaetonref07_Takes.f takesB
  rw [and_toInt, toInt_beq]
  cases e <;> cases x <;> simp
def coversB (e : Bool) (K M : BV) (e' : Bool) (K' M' : BV) : Bool := (K &&& K' == K) && (e' == e && (M' &&& K == M))
theorem fCovers (e : Bool) (K M : BV) (e' : Bool) (K' M' : BV) : filter_Covers.f e K.toInt M.toInt e' K'.toInt M'.toInt = some (coversB e K M e' K' M') := by
  unfold filter_Covers.f filter_of.f coversB
  simp only [Option.bind_some]
  rw [andNot_toInt, and_toInt, toInt_beq, ← sub_iff]
  by_cases h : K &&& ~~~K' = 0#64
  · rw [h, if_pos (by decide)]; simp
  · have h2 : ¬ (K &&& ~~~K').toInt = 0 := fun e => h (by rw [zero_toInt, toInt_eq] at e; exact e)
    rw [if_neg h2, beq_false_of_ne h]; simp
theorem rCovers (e : Bool) (K M : BV) (e' : Bool) (K' M' : BV) : phaetonref07_Covers.f e K.toInt M.toInt e' K'.toInt M'.toInt = some (coversB e K M e' K' M') := by
  unfold phaetonref07_Covers.f coversB
  rw [and_toInt, and_toInt, toInt_beq]
  by_cases h : K &&& K' = K
  · have h2 : (K &&& K').toInt = K.toInt := by rw [h]
    rw [if_pos h2, h]; cases e <;> cases e' <;> simp
  · have h2 : ¬ (K &&& K').toInt = K.toInt := fun e => h (BitVec.eq_of_toInt_eq e)
    rw [if_neg h2, beq_false_of_ne h]; simp
def meetsB (e : Bool) (K M : BV) (e' : Bool) (K' M' : BV) : Bool := e == e' && (M &&& K' == M' &&& K)
theorem fMeets (e : Bool) (K M : BV) (e' : Bool) (K' M' : BV) : filter_Meets.f e K.toInt M.toInt e' K'.toInt M'.toInt = some (meetsB e K M e' K' M') := by
  unfold filter_Meets.f filter_of.f meetsB
  simp only [Option.bind_some]
  rw [and_toInt, and_toInt, toInt_beq]
theorem rMeets (e : Bool) (K M : BV) (e' : Bool) (K' M' : BV) (h : rightB e K M = true) (h' : rightB e' K' M' = true) : phaetonref07_Meets.f e K.toInt M.toInt e' K'.toInt M'.toInt = some (meetsB e K M e' K' M') := by
  unfold phaetonref07_Meets.f meetsB
  rw [xor_toInt, and_toInt, and_toInt, zero_toInt, toInt_beq]
  have key : ((M ^^^ M') &&& K &&& K' == 0#64) = (M &&& K' == M' &&& K) := by
    simp only [rightB, Bool.and_eq_true, beq_iff_eq] at h h'
    rw [Bool.eq_iff_iff, beq_iff_eq, beq_iff_eq]
    constructor <;> intro h1 <;> apply bv_ext <;> intro i hi <;> have a := bv_get h1 i <;> have b := bv_get h.2 i <;> have c := bv_get h'.2 i <;> simp at a b c ⊢ <;>
      cases hM : M.getLsbD i <;> cases hK : K.getLsbD i <;> cases hM' : M'.getLsbD i <;> cases hK' : K'.getLsbD i <;> simp_all
  rw [key]
  cases e <;> cases e' <;> simp

/-- A filter's numbers as bits. -/
def flt (e : Bool) (K M : BV) : S23 := ⟨e, K.toInt, M.toInt⟩
theorem flt_of {f : S23} (h : ok23 f) : ∃ K M : BV, f.f1 = K.toInt ∧ f.f2 = M.toInt := by
  obtain ⟨K, hK⟩ := toInt_of_wf h.2.1
  obtain ⟨M, hM⟩ := toInt_of_wf h.2.2
  exact ⟨K, M, hK, hM⟩

theorem good_from (l : List S23) (hl : ∀ f ∈ l, ok23 f) (hn : l.length ≤ 1000000) : ∀ (d : Nat) (k : Nat) (i : Nat), i ≤ l.length → l.length - i = d → d < k →
    ∃ b, phaetonlaw07_good.l0 k l i = some b ∧ (b = true → ∀ f ∈ l.drop i, ∀ K M : BV, f.f1 = K.toInt → f.f2 = M.toInt → rightB f.f0 K M = true) := by
  intro d
  induction d with
  | zero =>
    intro k i hi hd hk
    obtain ⟨k, rfl⟩ : ∃ m, k = m + 1 := ⟨k - 1, by omega⟩
    refine ⟨true, ?_, fun _ f hf => ?_⟩
    · simp only [phaetonlaw07_good.l0]; rw [if_neg (by omega)]
    · rw [List.drop_eq_nil_of_le (by omega)] at hf; simp at hf
  | succ d ih =>
    intro k i hi hd hk
    obtain ⟨k, rfl⟩ : ∃ m, k = m + 1 := ⟨k - 1, by omega⟩
    have hlt : i < l.length := by omega
    have e : rd_T23 l (i : Int) = l[i] := by simp [rd_T23, List.getD_eq_getElem?_getD, List.getElem?_eq_getElem hlt]
    obtain ⟨K, M, h1, h2⟩ := flt_of (hl l[i] (List.getElem_mem _))
    obtain ⟨b, hb, hbr⟩ := ih k (i + 1) (by omega) (by omega) (by omega)
    simp only [phaetonlaw07_good.l0]
    rw [if_pos (by omega), if_pos (by omega), e, h1, h2, rRight]
    simp only [Option.bind_some]
    have hw : wrap64 ((i : Int) + 1) = ((i + 1 : Nat) : Int) := by unfold wrap64; omega
    cases hr : rightB l[i].f0 K M with
    | true =>
      rw [if_pos rfl, hw]
      refine ⟨b, hb, fun hbt f hf K' M' e1 e2 => ?_⟩
      rw [List.drop_eq_getElem_cons hlt] at hf
      rcases List.mem_cons.1 hf with rfl | hf
      · have : K' = K := BitVec.eq_of_toInt_eq (by rw [← e1, h1])
        subst this
        have : M' = M := BitVec.eq_of_toInt_eq (by rw [← e2, h2])
        subst this
        exact hr
      · exact hbr hbt f hf K' M' e1 e2
    | false =>
      rw [if_neg (by decide)]
      exact ⟨false, rfl, fun h => by cases h⟩
theorem good_tells (l : List S23) (hl : ∀ f ∈ l, ok23 f) (hn : l.length ≤ 1000000) (k : Nat) (hk : l.length < k) :
    ∃ b, phaetonlaw07_good.f k l = some b ∧ (b = true → ∀ f ∈ l, ∀ K M : BV, f.f1 = K.toInt → f.f2 = M.toInt → rightB f.f0 K M = true) := by
  obtain ⟨b, h1, h2⟩ := good_from l hl hn l.length k 0 (by omega) (by omega) hk
  exact ⟨b, h1, by simpa using h2⟩
theorem frame_tells (k : Nat) (e : Bool) (X : BV) (b : Bool) (n : Int) (l : List Int) : ∃ r, phaetonref04_Right.f (k + 3) e X.toInt b n l = some r ∧ (r = true → X &&& allOf e = X) := by
  have hw : wide e < 63 := by unfold wide; split <;> omega
  have key : ∀ w : Int, w = 2 ^ wide e → ∃ r, phaetonref04_Right.j0 (k + 3) w e X.toInt b n l = some r ∧ (r = true → X &&& allOf e = X) := by
    rintro w rfl
    have hj : ∀ t, ∃ r, phaetonref04_Right.j1 (k + 2) t e X.toInt b n l = some r ∧ (t = true → r = false) := by
      intro t
      simp only [phaetonref04_Right.j1]
      cases t
      · cases b <;> simp
      · exact ⟨false, rfl, fun _ => rfl⟩
    simp only [phaetonref04_Right.j0]
    obtain ⟨r, h1, h2⟩ := hj true
    have h3 := h2 rfl
    subst h3
    by_cases c0 : X.toInt < 0
    · rw [if_pos c0]; exact ⟨false, h1, fun h => by cases h⟩
    rw [if_neg c0]
    by_cases c1 : X.toInt ≥ 2 ^ wide e
    · rw [if_pos c1]; exact ⟨false, h1, fun h => by cases h⟩
    rw [if_neg c1]
    have hX : X &&& allOf e = X := range_and hw (by omega) (by omega)
    by_cases c2 : n < 0
    · rw [if_pos c2]; exact ⟨false, h1, fun h => by cases h⟩
    rw [if_neg c2]
    obtain ⟨r, h4, _⟩ := hj (decide (n > 8))
    exact ⟨r, h4, fun _ => hX⟩
  unfold phaetonref04_Right.f
  cases e
  · simp only [Bool.false_eq_true, if_false]; exact key 2048 (by simp [wide])
  · simp only [if_true]; exact key 536870912 (by simp [wide])
end Go.Proofs.Ytcbcgfeliainaaa.P
