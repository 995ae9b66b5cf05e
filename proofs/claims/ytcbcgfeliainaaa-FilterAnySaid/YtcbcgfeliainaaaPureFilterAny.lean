/-
  The pure statement of FilterAny: some filter takes a frame just if one does, in whatever order; what is covered may be left out. Conditions: the numbers are ints, the slices read.
-/
import Derived.Test.YtcbcgfeliainaaaPx11
import Derived.Test.YtcbcgfeliainaaaPlain
namespace Go.Proofs.Ytcbcgfeliainaaa.Pure
open Go.RowKit Go.Proofs.YtcbcgfeliainaaaOwn Go.Proofs.Ytcbcgfeliainaaa.P Go.Proofs.YtcbcgfeliainaaaW.PrintWords Go.Proofs.YtcbcgfeliainaaaW.PrintLast
set_option linter.unusedVariables false
set_option linter.unusedSimpArgs false

theorem any_loop (l : List S23) (hl : ∀ f ∈ l, ok23 f) (hn : l.length ≤ 100) (x : Bool) (X : BV) (b : Bool) (n : Int) (dt : List Int) (e : Bool) (K M : BV) (cov : S23 → Bool) (hcov : ∀ f ∈ l, filter_Covers.f f.f0 f.f1 f.f2 e K.toInt M.toInt = some (cov f))
    (k0 : Nat) (fin : phaetonlaw07_FilterAny.l0 (k0 + 1) l true (l.isEmpty || l.any (takesP x X.toInt)) (l.any cov) l.reverse l.length x X.toInt b n dt e K.toInt M.toInt = some true) :
    ∀ (d i : Nat), i ≤ l.length → l.length - i = d → ∀ k, k = k0 + 1 + d →
    phaetonlaw07_FilterAny.l0 k l true (l.isEmpty || (l.take i).any (takesP x X.toInt)) ((l.take i).any cov) (l.take i).reverse i x X.toInt b n dt e K.toInt M.toInt = some true := by
  intro d
  induction d with
  | zero =>
    intro i hi hd k hk
    have : i = l.length := by omega
    subst this
    subst hk
    rw [List.take_length]
    exact fin
  | succ d ih =>
    intro i hi hd k hk
    obtain ⟨k, rfl⟩ : ∃ m, k = m + 1 := ⟨k - 1, by omega⟩
    have hlt : i < l.length := by omega
    have er : rd_T23 l (i : Int) = l[i] := by simp [rd_T23, List.getD_eq_getElem?_getD, List.getElem?_eq_getElem hlt]
    have hmem : l[i] ∈ l := List.getElem_mem _
    have ht : filter_Takes.f l[i].f0 l[i].f1 l[i].f2 x X.toInt b n dt = some (takesP x X.toInt l[i]) := rfl
    have hc := hcov l[i] hmem
    have hw : wrap64 ((i : Int) + 1) = ((i + 1 : Nat) : Int) := by unfold wrap64; omega
    have hs : l.take (i + 1) = l.take i ++ [l[i]] := List.take_succ_eq_append_getElem hlt
    have h1 := ih (i + 1) (by omega) (by omega) k (by omega)
    rw [hs, List.any_append, List.any_append, List.reverse_append, ← Bool.or_assoc] at h1
    simp only [List.any_cons, List.any_nil, Bool.or_false, List.reverse_cons, List.reverse_nil, List.nil_append, List.singleton_append] at h1
    have hlen : ∀ z : List S23, z.length = 1 → z.length + (l.take i).reverse.length < 5864062014805 := by
      intro z hz
      rw [hz, List.length_reverse, List.length_take]
      omega
    rw [phaetonlaw07_FilterAny.l0]
    rw [if_pos (by omega), er, ht, hc, hw]
    simp only [Option.bind_some]
    cases hA : (l.isEmpty || (l.take i).any (takesP x X.toInt)) with
    | true =>
      rw [hA] at h1
      rw [if_pos rfl]
      cases hB : (l.take i).any cov with
      | true =>
        rw [hB] at h1
        rw [if_pos rfl, if_pos (by omega), if_pos (hlen _ rfl)]
        exact h1
      | false =>
        rw [hB] at h1
        rw [if_neg (by decide), if_pos (by omega), if_pos (hlen _ rfl)]
        exact h1
    | false =>
      rw [hA] at h1
      rw [if_neg (by decide), if_pos (by omega)]
      cases hB : (l.take i).any cov with
      | true =>
        rw [hB] at h1
        rw [if_pos rfl, if_pos (hlen _ rfl)]
        exact h1
      | false =>
        rw [hB] at h1
        rw [if_neg (by decide), if_pos (hlen _ rfl)]
        exact h1

theorem FilterAny : ∀ (y0 : List (S23)) (y1 : S27) (y2 : S23), ((y0.length * 24 ≤ 140737488351232 ∧ y0.length ≤ maxLen ∧ ∀ z0 ∈ y0, ok23 z0)) → (ok27 y1) → (ok23 y2) → ∃ k, phaetonlaw07_FilterAny.f k y0 y1.f0 y1.f1 y1.f2 y1.f3 y1.f4 y2.f0 y2.f1 y2.f2 = some true := by
  intro l y1 y2 h0 h1 h2
  obtain ⟨X, hX⟩ := toInt_of_wf h1.2.1
  obtain ⟨K, M, a1, a2⟩ := flt_of h2
  refine ⟨l.length + 10, ?_⟩
  unfold phaetonlaw07_FilterAny.f
  rw [head_true, a1, a2, hX, rRight]
  simp only [Option.bind_some]
  have JT : phaetonlaw07_FilterAny.j0 (l.length + 10) l true true y1.f0 X.toInt y1.f2 y1.f3 y1.f4 y2.f0 K.toInt M.toInt = some true := by
    rw [phaetonlaw07_FilterAny.j0]; rw [if_pos rfl]
  by_cases c : (l.length : Int) > 100
  · rw [if_pos c]; exact JT
  rw [if_neg c]
  obtain ⟨g, hg, hgr⟩ := good_tells l h0.2.2 (by omega) (l.length + 10) (by omega)
  rw [hg]
  simp only [Option.bind_some]
  cases g with
  | false => rw [if_neg (by decide)]; exact JT
  | true =>
    rw [if_pos rfl]
    cases hr : rightB y2.f0 K M with
    | false => rw [if_neg (by decide)]; exact JT
    | true =>
      rw [if_pos rfl]
      by_cases c2 : (y1.f4.length : Int) > 100
      · rw [if_pos c2]; exact JT
      rw [if_neg c2]
      obtain ⟨r, hr2, _⟩ := frame_tells (l.length + 7) y1.f0 X y1.f2 y1.f3 y1.f4
      rw [hr2]
      simp only [Option.bind_some]
      cases r with
      | false => exact JT
      | true =>
        show phaetonlaw07_FilterAny.j0 (l.length + 10) l true false y1.f0 X.toInt y1.f2 y1.f3 y1.f4 y2.f0 K.toInt M.toInt = some true
        rw [phaetonlaw07_FilterAny.j0]
        rw [if_neg (by decide)]
        have hcv : ∀ f : S23, ∃ c, f ∈ l → filter_Covers.f f.f0 f.f1 f.f2 y2.f0 K.toInt M.toInt = some c ∧ (c = true → takesP y1.f0 X.toInt ⟨y2.f0, K.toInt, M.toInt⟩ = true → takesP y1.f0 X.toInt f = true) := by
          intro f
          by_cases hf : f ∈ l
          · obtain ⟨K', M', e1, e2⟩ := flt_of (h0.2.2 f hf)
            refine ⟨coversB f.f0 K' M' y2.f0 K M, fun _ => ⟨by rw [e1, e2, fCovers], fun hc ht => ?_⟩⟩
            simp only [takesP, e1, e2, and_toInt, toInt_beq, Bool.and_eq_true, beq_iff_eq] at ht ⊢
            simp only [coversB, Bool.and_eq_true, beq_iff_eq] at hc
            refine ⟨by rw [ht.1, hc.2.1], ?_⟩
            apply bv_ext
            intro i hi
            have a := bv_get hc.1 i
            have b := bv_get hc.2.2 i
            have d := bv_get ht.2 i
            simp [hi] at a b d ⊢
            cases hK : K.getLsbD i <;> cases hM : M.getLsbD i <;> cases hK' : K'.getLsbD i <;> cases hM' : M'.getLsbD i <;> simp_all
          · exact ⟨false, fun h => absurd h hf⟩
        have hcov : ∃ cov : S23 → Bool, ∀ f ∈ l, filter_Covers.f f.f0 f.f1 f.f2 y2.f0 K.toInt M.toInt = some (cov f) ∧ (cov f = true → takesP y1.f0 X.toInt ⟨y2.f0, K.toInt, M.toInt⟩ = true → takesP y1.f0 X.toInt f = true) :=
          ⟨fun f => (hcv f).choose, fun f hf => (hcv f).choose_spec hf⟩
        obtain ⟨cov, hcov⟩ := hcov
        have start := any_loop l h0.2.2 (by omega) y1.f0 X y1.f2 y1.f3 y1.f4 y2.f0 K M cov (fun f hf => (hcov f hf).1) 8 ?_ l.length 0 (by omega) (by omega) (l.length + 9) (by omega)
        · simp only [List.take_zero, List.any_nil, Bool.or_false, List.reverse_nil] at start
          have e : ((l.length : Int) == 0) = l.isEmpty := by cases l <;> simp <;> omega
          rw [e]
          exact start
        · rw [phaetonlaw07_FilterAny.l0]
          rw [if_neg (by omega)]
          simp only [Option.bind_some, List.nil_append, List.length_nil, List.length_append, List.length_cons]
          rw [if_pos (by omega), if_pos (by omega)]
          have ha : ∀ q, filter_Any.f q y1.f0 X.toInt y1.f2 y1.f3 y1.f4 = some (q.isEmpty || q.any (takesP y1.f0 X.toInt)) := fun q => rfl
          have ht : filter_Takes.f y2.f0 K.toInt M.toInt y1.f0 X.toInt y1.f2 y1.f3 y1.f4 = some (takesP y1.f0 X.toInt ⟨y2.f0, K.toInt, M.toInt⟩) := rfl
          rw [ha, ha]
          simp only [Option.bind_some, List.any_reverse, List.isEmpty_reverse, bne_self_eq_false]
          rw [if_neg (by decide), phaetonlaw07_FilterAny.j2]
          rw [if_neg (by decide), if_pos rfl, ha, ht]
          simp only [Option.bind_some, List.any_append, List.any_cons, List.any_nil, Bool.or_false]
          generalize hT : takesP y1.f0 X.toInt ⟨y2.f0, K.toInt, M.toInt⟩ = T
          have hkey : l.any cov = true → T = true → l.any (takesP y1.f0 X.toInt) = true := by
            intro h3 h4
            obtain ⟨f, hf, hcf⟩ := List.any_eq_true.1 h3
            exact List.any_eq_true.2 ⟨f, hf, (hcov f hf).2 hcf (by rw [hT]; exact h4)⟩
          cases l with
          | nil => cases T <;> simp
          | cons f0 l1 =>
            have hpos : (((f0 :: l1).length : Nat) : Int) > 0 := by simp
            rw [if_pos hpos]
            simp only [List.isEmpty_cons, Bool.false_or, List.cons_append]
            generalize (f0 :: l1).any (takesP y1.f0 X.toInt) = A at hkey ⊢
            generalize (f0 :: l1).any cov = C at hkey ⊢
            cases A <;> cases C <;> cases T <;> simp_all

end Go.Proofs.Ytcbcgfeliainaaa.Pure
