/-
  Signals that are apart, in plain words: each is right, and no place is one of two. No condition.
-/
import Derived.Test.YtcgkkjimonfhbaaPlainF
namespace Go.Proofs.Ytcgkkjimonfhbaa.P
open Go.RowKit Go.Proofs.YtcgkkjimonfhbaaOwn Go.Proofs.YtcgkkjimonfhbaaW.PrintWords Go.Proofs.YtcgkkjimonfhbaaW.PrintLast Go.Proofs.YtcgkkjimonfhbaaW.PrintMore
set_option linter.unusedVariables false
set_option linter.unusedSimpArgs false

def plc (s : S23) : List Int := placesK s.f2 s.f0 s.f1.toNat
def rgt (bytes : Int) (s : S23) : Bool := rightS s.f0 s.f1 s.f2 s.f3 s.f4 s.f5 bytes
def disjS (s t : S23) : Prop := ∀ p ∈ plc s, p ∉ plc t
def freeS (tk : List Bool) (s : S23) : Prop := ∀ p ∈ plc s, tk.getD p.toNat false = false
theorem getD_set (tk : List Bool) (i j : Nat) (h : i < tk.length) (b : Bool) : (tk.set i b).getD j false = if j = i then b else tk.getD j false := by
  rw [List.getD_eq_getElem?_getD, List.getD_eq_getElem?_getD, List.getElem?_set]
  by_cases e : i = j
  · subst e; rw [if_pos rfl, if_pos h, if_pos rfl]; rfl
  · rw [if_neg e, if_neg (fun h => e h.symm)]
theorem take_some : ∀ (ps : List Int) (tk : List Bool), ps.Nodup → (∀ p ∈ ps, 0 ≤ p ∧ p < tk.length) → (∀ p ∈ ps, tk.getD p.toNat false = false) →
    ∃ tk', takeS tk ps = some tk' ∧ tk'.length = tk.length ∧ ∀ q : Int, 0 ≤ q → tk'.getD q.toNat false = (tk.getD q.toNat false || decide (q ∈ ps))
  | [], tk, _, _, _ => ⟨tk, rfl, rfl, fun q _ => by simp⟩
  | p :: ps, tk, hn, hr, hf => by
    have hn2 := List.nodup_cons.1 hn
    have hp := hr p (List.mem_cons_self ..)
    obtain ⟨tk', h1, h2, h3⟩ := take_some ps (tk.set p.toNat true) hn2.2 (fun q hq => by rw [List.length_set]; exact hr q (List.mem_cons_of_mem _ hq)) (fun q hq => by
      have hq0 := hr q (List.mem_cons_of_mem _ hq)
      have hne : q ≠ p := fun e => hn2.1 (e ▸ hq)
      rw [getD_set _ _ _ (by omega), if_neg (by omega)]
      exact hf q (List.mem_cons_of_mem _ hq))
    refine ⟨tk', ?_, by rw [h2, List.length_set], fun q hq => ?_⟩
    · rw [takeS, if_neg (by rw [hf p (List.mem_cons_self ..)]; decide)]; exact h1
    · rw [h3 q hq, getD_set _ _ _ (by omega)]
      by_cases e : q = p
      · subst e; rw [if_pos rfl]; simp
      · rw [if_neg (by omega)]; simp [e]
theorem take_none : ∀ (ps : List Int) (tk : List Bool), (∀ p ∈ ps, 0 ≤ p ∧ p < tk.length) → (∃ p ∈ ps, tk.getD p.toNat false = true) → takeS tk ps = none
  | [], _, _, h => by obtain ⟨p, hp, _⟩ := h; simp at hp
  | p :: ps, tk, hr, h => by
    rw [takeS]
    split
    · rfl
    · rename_i hp
      refine take_none ps _ (fun q hq => by rw [List.length_set]; exact hr q (List.mem_cons_of_mem _ hq)) ?_
      obtain ⟨q, hq, hqt⟩ := h
      rcases List.mem_cons.1 hq with rfl | hq
      · exact absurd hqt hp
      · refine ⟨q, hq, ?_⟩
        have h1 := hr p (List.mem_cons_self ..)
        rw [getD_set _ _ _ (by omega)]
        split
        · rfl
        · exact hqt
theorem plc_in {bytes : Int} {s : S23} (h : rgt bytes s = true) : ∀ p ∈ plc s, 0 ≤ p ∧ p < 64 := fun p hp => by
  have hR := rightS_iff.1 h
  have h1 := hR.far p hp
  have h2 := hR.b8
  obtain ⟨k, _, hk⟩ := placesK_mem.1 hp
  have h3 := (key_atK s.f2 s.f0 hR.s0 k).1
  rw [← hk] at h3
  omega
theorem apart_iff (bytes : Int) : ∀ (l : List S23) (tk : List Bool), tk.length = 64 → (apartS bytes l tk = true ↔ (∀ s ∈ l, rgt bytes s = true) ∧ (∀ s ∈ l, freeS tk s) ∧ l.Pairwise disjS)
  | [], tk, _ => by simp [apartS]
  | s :: l, tk, ht => by
    have hc : rightS s.f0 s.f1 s.f2 s.f3 s.f4 s.f5 bytes = rgt bytes s := rfl
    rw [apartS, hc]
    cases hr : rgt bytes s with
    | false =>
      rw [if_neg (by decide)]
      refine ⟨fun h => (by cases h), fun h => ?_⟩
      have := h.1 s (List.mem_cons_self ..)
      rw [hr] at this; cases this
    | true =>
      have hR := rightS_iff.1 hr
      have hin := plc_in hr
      rw [if_pos rfl]
      by_cases hf : freeS tk s
      · obtain ⟨tk', h1, h2, h3⟩ := take_some (plc s) tk (placesK_nodup _ _ hR.s0 _) (fun p hp => by have := hin p hp; omega) hf
        unfold plc at h1
        rw [h1]
        dsimp only
        rw [apart_iff bytes l tk' (by omega)]
        constructor
        · rintro ⟨g1, g2, g3⟩
          have hsep : ∀ t ∈ l, freeS tk t ∧ disjS s t := fun t ht2 => by
            have hint := plc_in (g1 t ht2)
            have key := fun p hp => (h3 p (hint p hp).1).symm.trans (g2 t ht2 p hp)
            refine ⟨fun p hp => ?_, fun p hp hq => ?_⟩
            · have := key p hp; rw [Bool.or_eq_false_iff] at this; exact this.1
            · have := key p hq; rw [Bool.or_eq_false_iff, decide_eq_false_iff_not] at this; exact this.2 hp
          refine ⟨fun t ht2 => ?_, fun t ht2 => ?_, List.pairwise_cons.2 ⟨fun t ht2 => (hsep t ht2).2, g3⟩⟩
          · rcases List.mem_cons.1 ht2 with rfl | h
            · exact hr
            · exact g1 t h
          · rcases List.mem_cons.1 ht2 with rfl | h
            · exact hf
            · exact (hsep t h).1
        · rintro ⟨g1, g2, g3⟩
          rw [List.pairwise_cons] at g3
          refine ⟨fun t ht2 => g1 t (List.mem_cons_of_mem _ ht2), fun t ht2 p hp => ?_, g3.2⟩
          have hint := plc_in (g1 t (List.mem_cons_of_mem _ ht2))
          rw [h3 p (hint p hp).1, Bool.or_eq_false_iff, decide_eq_false_iff_not]
          exact ⟨g2 t (List.mem_cons_of_mem _ ht2) p hp, fun hq => g3.1 t ht2 p hq hp⟩
      · have hn : takeS tk (placesK s.f2 s.f0 s.f1.toNat) = none := by
          refine take_none _ _ (fun p hp => by have := hin p hp; omega) ?_
          refine Classical.byContradiction fun hno => hf fun p hp => ?_
          cases hv : tk.getD p.toNat false with
          | false => rfl
          | true => exact absurd ⟨p, hp, hv⟩ hno
        rw [hn]
        refine ⟨fun h => (by cases h), fun h => ?_⟩
        exact absurd (h.2.1 s (List.mem_cons_self ..)) hf
theorem apart_zero (bytes : Int) (l : List S23) : apartS bytes l (List.replicate 64 false) = true ↔ (∀ s ∈ l, rgt bytes s = true) ∧ l.Pairwise disjS := by
  rw [apart_iff bytes l _ (by simp)]
  refine and_congr_right fun _ => ⟨fun h => h.2, fun h => ⟨fun s _ p _ => ?_, h⟩⟩
  rw [List.getD_eq_getElem?_getD, List.getElem?_replicate]
  split <;> rfl
end Go.Proofs.Ytcgkkjimonfhbaa.P
