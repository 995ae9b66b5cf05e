/-
  The plain law of SigAll: what the printed text answers is true. Conditions: the numbers are ints, the rows read.
-/
import Derived.Test.YtcgkkjimonfhbaaPx24
import Derived.Test.YtcgkkjimonfhbaaPx23
import Derived.Test.YtcgkkjimonfhbaaPlainA
namespace Go.Proofs.Ytcgkkjimonfhbaa.Pure
open Go.RowKit Go.Proofs.YtcgkkjimonfhbaaOwn Go.Proofs.Ytcgkkjimonfhbaa.P Go.Proofs.YtcgkkjimonfhbaaW.PrintWords Go.Proofs.YtcgkkjimonfhbaaW.PrintLast Go.Proofs.YtcgkkjimonfhbaaW.PrintMore
set_option linter.unusedVariables false
set_option linter.unusedSimpArgs false

theorem rd23 (l : List S23) (i : Nat) (h : i < l.length) : rd_T23 l (i : Int) = l[i] := by simp [rd_T23, List.getD_eq_getElem?_getD, List.getElem?_eq_getElem h]
/-- The document's places of a signal; does a signal meet none of the others? -/
def plT (s : S23) : List Int := placesS s.f0 s.f1 s.f2 s.f3 s.f4 s.f5
def meets (a b : List Int) : Bool := a.any (fun p => decide (p ∈ b))
def pwB : List S23 → Bool
  | [] => true
  | s :: l => l.all (fun t => !meets (plT s) (plT t)) && pwB l
theorem plT_len (s : S23) : (plT s).length ≤ 32 := by
  unfold plT
  cases h : rightS s.f0 s.f1 s.f2 s.f3 s.f4 s.f5 8 with
  | false => rw [placesS_no h]; simp
  | true => rw [placesS_yes h, plS_len]; have := (rightS_iff.1 h).l32; omega
theorem pwB_cons (s : S23) (l : List S23) : pwB (s :: l) = (l.all (fun t => !meets (plT s) (plT t)) && pwB l) := rfl
theorem meets_cons (a : Int) (xs b : List Int) : meets (a :: xs) b = (decide (a ∈ b) || meets xs b) := rfl
theorem rapart_k (l : List S23) (hl : l.length ≤ 10) : ∀ k : Nat,
    (∀ i : Nat, i ≤ l.length → (l.length - i) * 500 + 100 < k → phaetonref15_Apart.l1 k l (i : Int) = some (pwB (l.drop i))) ∧
    (∀ (i x : Nat) (h : i < l.length), i < x → x ≤ l.length → (l.length - x) * 40 + (l.length - (i + 1)) * 500 + 101 < k → phaetonref15_Apart.l2 k l (i : Int) (plT l[i]) (x : Int) = some ((l.drop x).all (fun t => !meets (plT l[i]) (plT t)) && pwB (l.drop (i + 1)))) ∧
    (∀ (i x j : Nat) (h : i < l.length) (hx : x < l.length), i < x → j ≤ (plT l[i]).length → ((plT l[i]).length - j) + (l.length - (x + 1)) * 40 + (l.length - (i + 1)) * 500 + 102 < k → phaetonref15_Apart.l3 k l (i : Int) (plT l[i]) (x : Int) (plT l[x]) (j : Int) = some (!meets ((plT l[i]).drop j) (plT l[x]) && ((l.drop (x + 1)).all (fun t => !meets (plT l[i]) (plT t)) && pwB (l.drop (i + 1)))))
  | 0 => ⟨fun _ _ h => by omega, fun _ _ _ _ _ h => by omega, fun _ _ _ _ _ _ _ h => by omega⟩
  | k + 1 => by
    obtain ⟨I1, I2, I3⟩ := rapart_k l hl k
    refine ⟨fun i hi h => ?_, fun i x hi hix hx h => ?_, fun i x j hi hx hix hj h => ?_⟩
    · rw [phaetonref15_Apart.l1]
      by_cases e : i < l.length
      · rw [if_pos (by omega), if_pos (by omega), rd23 l i e, fRPlaces _ _ _ _ _ _ _ (by omega), Option.bind_some, wr1 i (by omega)]
        refine (I2 i (i + 1) e (by omega) (by omega) (by omega)).trans ?_
        rw [List.drop_eq_getElem_cons e, pwB_cons]
      · rw [if_neg (by omega), List.drop_of_length_le (by omega)]; rfl
    · rw [phaetonref15_Apart.l2]
      by_cases e : x < l.length
      · rw [if_pos (by omega), if_pos (by omega), rd23 l x e, fRPlaces _ _ _ _ _ _ _ (by omega), Option.bind_some]
        have := plT_len l[i]
        refine (I3 i x 0 hi e hix (by omega) (by omega)).trans ?_
        rw [List.drop_zero, List.drop_eq_getElem_cons e, List.all_cons, Bool.and_assoc]
      · rw [if_neg (by omega), wr1 i (by omega), List.drop_of_length_le (by omega : l.length ≤ x)]
        refine (I1 (i + 1) (by omega) (by omega)).trans ?_
        simp
    · rw [phaetonref15_Apart.l3]
      have h32 := plT_len l[i]
      have h32x := plT_len l[x]
      by_cases e : j < (plT l[i]).length
      · rw [if_pos (by omega), if_pos (by omega), rdN _ j e, fIn _ _ _ (by omega) (by omega), Option.bind_some, wr1 j (by omega), List.drop_eq_getElem_cons e, meets_cons]
        by_cases m : (plT l[i])[j] ∈ plT l[x]
        · rw [decide_eq_true m, if_pos rfl]; simp
        · rw [decide_eq_false m, if_neg (by decide)]
          refine (I3 i x (j + 1) hi hx hix (by omega) (by omega)).trans ?_
          simp
      · rw [if_neg (by omega), wr1 x (by omega), List.drop_of_length_le (by omega : (plT l[i]).length ≤ j)]
        refine (I2 i (x + 1) hi (by omega) (by omega) (by omega)).trans ?_
        simp [meets]
theorem rapart_l0 (l : List S23) (hl : l.length ≤ 10) (bytes : Int) : ∀ (k i : Nat), i ≤ l.length → (l.length - i) + 6000 < k → phaetonref15_Apart.l0 k l bytes (i : Int) = some ((l.drop i).all (rgt bytes) && pwB l)
  | 0, _, _, h => by omega
  | k + 1, i, hi, h => by
    rw [phaetonref15_Apart.l0]
    by_cases e : i < l.length
    · rw [if_pos (by omega), if_pos (by omega), rd23 l i e, fRRight _ _ _ _ _ _ _ _ (by omega), Option.bind_some, wr1 i (by omega), List.drop_eq_getElem_cons e, List.all_cons]
      have IH := rapart_l0 l hl bytes k (i + 1) (by omega) (by omega)
      have hr : rightS l[i].f0 l[i].f1 l[i].f2 l[i].f3 l[i].f4 l[i].f5 bytes = rgt bytes l[i] := rfl
      rw [hr]
      cases rgt bytes l[i] with
      | false => rw [if_neg (by decide)]; rfl
      | true => rw [if_pos rfl, IH]; simp
    · rw [if_neg (by omega), List.drop_of_length_le (by omega)]
      refine ((rapart_k l hl k).1 0 (by omega) (by omega)).trans ?_
      simp
theorem pwB_iff (bytes : Int) : ∀ l : List S23, (∀ s ∈ l, rgt bytes s = true) → (pwB l = true ↔ l.Pairwise disjS)
  | [], _ => by simp [pwB]
  | s :: l, h => by
    have hm : ∀ t, rgt bytes t = true → ∀ a, a ∈ plT t ↔ a ∈ plc t := fun t ht a => by
      unfold plT
      rw [placesS_yes (right_eight ht), plS_mem]; rfl
    rw [pwB_cons, Bool.and_eq_true, pwB_iff bytes l (fun t ht => h t (List.mem_cons_of_mem _ ht)), List.pairwise_cons, List.all_eq_true]
    have hs := h s (List.mem_cons_self ..)
    refine and_congr_left fun _ => ⟨fun g t ht p hp hq => ?_, fun g t ht => ?_⟩
    · have ht2 := h t (List.mem_cons_of_mem _ ht)
      have := g t ht
      rw [Bool.not_eq_true', meets, List.any_eq_false] at this
      exact this p ((hm s hs p).2 hp) (decide_eq_true ((hm t ht2 p).2 hq))
    · have ht2 := h t (List.mem_cons_of_mem _ ht)
      rw [Bool.not_eq_true', meets, List.any_eq_false]
      intro p hp hq
      exact g t ht p ((hm s hs p).1 hp) ((hm t ht2 p).1 (of_decide_eq_true hq))
theorem fRApart (k : Nat) (l : List S23) (hl : l.length ≤ 10) (bytes : Int) (hk : 6020 ≤ k) : phaetonref15_Apart.f k l bytes = some (apartS bytes l (List.replicate 64 false)) := by
  unfold phaetonref15_Apart.f
  refine (rapart_l0 l hl bytes k 0 (by omega) (by omega)).trans ?_
  congr 1
  rw [List.drop_zero, Bool.eq_iff_iff, apart_zero, Bool.and_eq_true, List.all_eq_true]
  refine and_congr_right fun h => pwB_iff bytes l h

/-- How many bits. -/
def bitsL : List S23 → Int
  | [] => 0
  | s :: l => s.f1 + bitsL l
theorem bitsL_len (bytes : Int) : ∀ l : List S23, (∀ s ∈ l, rgt bytes s = true) → bitsL l = (((l.flatMap plc).length : Nat) : Int)
  | [], _ => by simp [bitsL]
  | s :: l, h => by
    have hs := rightS_iff.1 (h s (List.mem_cons_self ..))
    have := hs.l1
    rw [bitsL, List.flatMap_cons, List.length_append, bitsL_len bytes l (fun t ht => h t (List.mem_cons_of_mem _ ht)), plc, placesK_len]
    push_cast; omega
theorem flat_nodup (bytes : Int) : ∀ l : List S23, (∀ s ∈ l, rgt bytes s = true) → l.Pairwise disjS → (l.flatMap plc).Nodup
  | [], _, _ => by simp
  | s :: l, h, hp => by
    have hs := rightS_iff.1 (h s (List.mem_cons_self ..))
    rw [List.pairwise_cons] at hp
    rw [List.flatMap_cons, List.nodup_append]
    refine ⟨placesK_nodup _ _ hs.s0 _, flat_nodup bytes l (fun t ht => h t (List.mem_cons_of_mem _ ht)) hp.2, fun a ha b hb e => ?_⟩
    subst e
    obtain ⟨t, ht, ha2⟩ := List.mem_flatMap.1 hb
    exact hp.1 t ht a ha ha2
theorem bits_le (bytes : Int) (hb : 0 ≤ bytes) (l : List S23) (h : ∀ s ∈ l, rgt bytes s = true) (hp : l.Pairwise disjS) : bitsL l ≤ 8 * bytes := by
  rw [bitsL_len bytes l h]
  have hsub : (l.flatMap plc) ⊆ ((List.range (8 * bytes).toNat).map (fun n : Nat => (n : Int))) := by
    intro a ha
    obtain ⟨t, ht, ha2⟩ := List.mem_flatMap.1 ha
    have hR := rightS_iff.1 (h t ht)
    have h1 := hR.far a ha2
    obtain ⟨k, _, hk⟩ := placesK_mem.1 ha2
    have h2 := (key_atK t.f2 t.f0 hR.s0 k).1
    rw [← hk] at h2
    exact List.mem_map.2 ⟨a.toNat, List.mem_range.2 (by omega), by omega⟩
  have := List.Nodup.length_le_of_subset (flat_nodup bytes l h hp) hsub
  rw [List.length_map, List.length_range] at this
  omega
theorem bitsL_drop (l : List S23) (i : Nat) (h : i < l.length) : bitsL (l.drop i) = l[i].f1 + bitsL (l.drop (i + 1)) := by rw [List.drop_eq_getElem_cons h, bitsL]
theorem bitsL_bd (bytes : Int) : ∀ l : List S23, (∀ s ∈ l, rgt bytes s = true) → 0 ≤ bitsL l ∧ bitsL l ≤ 32 * l.length
  | [], _ => by simp [bitsL]
  | s :: l, h => by
    have hs := rightS_iff.1 (h s (List.mem_cons_self ..))
    have := hs.l1; have := hs.l32
    have := bitsL_bd bytes l (fun t ht => h t (List.mem_cons_of_mem _ ht))
    rw [bitsL, List.length_cons]
    omega
theorem all_l0' (bytes : Int) (hby : -9223372036854775808 ≤ bytes ∧ bytes < 9223372036854775808) (l : List S23) (hl : l.length ≤ 10) (at_ : Int) (ha : 0 ≤ at_ ∧ at_ ≤ l.length) (is : Bool) (his : is = apartS bytes l (List.replicate 64 false)) : ∀ (k i : Nat) (acc : Int), (is = true → 0 ≤ acc ∧ acc + bitsL (l.drop i) ≤ 8 * bytes ∨ l = []) → i ≤ l.length → l.length - i < k → phaetonlaw15_SigAll.l0 k l bytes true is at_ acc (i : Int) = some true
  | 0, _, _, _, _, h => by omega
  | k + 1, i, acc, hacc, hi, h => by
    rw [phaetonlaw15_SigAll.l0]
    cases is with
    | false =>
      by_cases e : i < l.length
      · rw [if_pos (by omega), if_neg (by decide), wr1 i (by omega)]
        exact all_l0' bytes hby l hl at_ ha false his k (i + 1) acc (fun h => by cases h) (by omega) (by omega)
      · rw [if_neg (by omega), if_neg (by decide)]
    | true =>
      have hz := (apart_zero bytes l).1 his.symm
      by_cases e : i < l.length
      · have hR := rightS_iff.1 (hz.1 _ (List.getElem_mem e))
        have hb := bitsL_bd bytes (l.drop (i + 1)) (fun t ht => hz.1 t (List.mem_of_mem_drop ht))
        rcases hacc rfl with hc | hc
        · rw [bitsL_drop l i e] at hc
          have := hR.l1; have := hR.l32; have := hR.b8
          rw [if_pos (by omega), if_pos rfl, if_pos (by omega), rd23 l i e, wr1 i (by omega), wr _ (by omega)]
          exact all_l0' bytes hby l hl at_ ha true his k (i + 1) _ (fun _ => .inl (by omega)) (by omega) (by omega)
        · subst hc; simp at e
      · rw [if_neg (by omega), if_pos rfl, if_pos (by omega), if_pos (by omega)]
        have h1 : apartS bytes (l.take at_.toNat) (List.replicate 64 false) = true := (apart_zero bytes _).2 ⟨fun s hs => hz.1 s (List.mem_of_mem_take hs), List.Pairwise.sublist (List.take_sublist _ _) hz.2⟩
        have h2 : apartS bytes (l.drop at_.toNat) (List.replicate 64 false) = true := (apart_zero bytes _).2 ⟨fun s hs => hz.1 s (List.mem_of_mem_drop hs), List.Pairwise.sublist (List.drop_sublist _ _) hz.2⟩
        unfold sig_Apart.f
        rw [if_pos (by rw [List.length_take]; omega), if_pos (by rw [List.length_drop]; omega), Option.bind_some, Option.bind_some, h1, h2, if_pos rfl, if_pos rfl]
        by_cases hn : (l.length : Int) = 0
        · rw [if_pos hn]
        · rw [if_neg hn]
          have hne : l ≠ [] := fun e => hn (by rw [e]; rfl)
          have hR := rightS_iff.1 (hz.1 _ (List.head_mem hne))
          have := hR.b0; have := hR.b8
          rcases hacc rfl with hc | hc
          · rw [List.drop_of_length_le (by omega)] at hc
            have hb0 : bitsL ([] : List S23) = 0 := rfl
            rw [hb0] at hc
            rw [wr _ (by omega), if_pos (by omega)]
          · exact absurd hc hne

theorem SigAll : ∀ (y0 : List (S23)) (y1 : Int) (y2 : Int), ((y0.length * 40 ≤ 140737488351232 ∧ y0.length ≤ maxLen ∧ ∀ z0 ∈ y0, ok23 z0)) → ((Lit.int .i64 y1).wf = true) → ((Lit.int .u8 y2).wf = true) → ∃ k, phaetonlaw15_SigAll.f k y0 y1 y2 = some true := by
  intro y0 bytes at_ h0 h1 h2
  have hw := of_wf64 h1
  have hat := of_u8 h2
  refine ⟨7000, ?_⟩
  unfold phaetonlaw15_SigAll.f
  have e : (mn (y0.length : Int) 10).toNat = min y0.length 10 := by unfold mn; split <;> omega
  rw [head_true _ (by omega), Option.bind_some, if_pos (by unfold mn; split <;> omega), if_pos (by unfold mn; split <;> omega), e, Option.bind_some]
  have hl : (y0.take (min y0.length 10)).length ≤ 10 := by rw [List.length_take]; omega
  generalize y0.take (min y0.length 10) = l at *
  have hA : sig_Apart.f l bytes = some (apartS bytes l (List.replicate 64 false)) := by unfold sig_Apart.f; rw [if_pos (by omega)]
  rw [hA, Option.bind_some, fRApart _ l hl bytes (by omega), Option.bind_some, bne_self_eq_false, if_neg (by decide), wr ((l.length : Int) + 1) (by omega), if_neg (by omega), wr at_ (by omega), Int.tmod_eq_emod_of_nonneg hat.1]
  have hm : 0 ≤ at_ % ((l.length : Int) + 1) ∧ at_ % ((l.length : Int) + 1) ≤ l.length := by
    have g1 := Int.emod_nonneg at_ (show (l.length : Int) + 1 ≠ 0 by omega)
    have g2 := Int.emod_lt_of_pos at_ (show 0 < (l.length : Int) + 1 by omega)
    omega
  refine all_l0' bytes (by omega) l hl _ hm _ rfl 7000 0 0 (fun his => ?_) (by omega) (by omega)
  have hz := (apart_zero bytes l).1 his
  cases l with
  | nil => exact .inr rfl
  | cons s l =>
    have hR := rightS_iff.1 (hz.1 s (List.mem_cons_self ..))
    have := bits_le bytes hR.b0 _ hz.1 hz.2
    exact .inl ⟨by omega, by rw [List.drop_zero]; omega⟩

end Go.Proofs.Ytcgkkjimonfhbaa.Pure
