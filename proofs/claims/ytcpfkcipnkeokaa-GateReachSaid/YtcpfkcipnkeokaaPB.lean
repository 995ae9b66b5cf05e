/-
  Each hop waits, or is done, or is lost: how the counts go.
-/
import Derived.Test.YtcpfkcipnkeokaaPA
namespace Go.Proofs.YtcpfkcipnkeokaaFw
open Go Go.Proofs
set_option linter.unusedVariables false
set_option linter.unusedSimpArgs false

theorem bump_getD (l : List Int) (b i : Nat) (hb : b < l.length) : (bump l b).getD i 0 = l.getD i 0 + if i = b then 1 else 0 := by
  unfold bump
  by_cases e : i = b
  · subst e; simp [List.getD, hb]
  · have e' : ¬ b = i := fun h => e h.symm
    simp [List.getD, e, e', List.getElem?_set]
/-- What is waiting and lost for a bus. -/
def held (g : Gate) (i : Nat) : Int := ((g.out.getD i []).length : Int) + g.lost.getD i 0
theorem stepIn_held (g : Gate) (h : Hop) (n : Nat) (m : Int) (hg : g.good n m) (h0 : 0 ≤ h.to) (h1 : h.to < n) (i : Nat) (hi : i < n) : held (stepIn g h) i = held g i + if i = h.to.toNat then 1 else 0 := by
  unfold held stepIn
  have ho := hg.outs
  have hl := hg.losts
  split
  · simp only
    rw [chg_getD _ _ _ _ (by omega)]
    by_cases e : (i : Int) = h.to
    · rw [if_pos e, if_pos (by omega)]
      simp only [addF, List.length_append, List.length_singleton]
      omega
    · rw [if_neg e, if_neg (by omega)]; omega
  · simp only
    rw [bump_getD _ _ _ (by omega)]
    omega
def countIn (c : List Int) (l : List Hop) : List Int := l.foldl (fun c h => bump c h.to.toNat) c
theorem countIn_len : ∀ (l : List Hop) (c : List Int), (countIn c l).length = c.length
  | [], c => rfl
  | h :: l, c => by rw [countIn, List.foldl_cons]; exact (countIn_len l _).trans (bump_len _ _)
theorem countIn_held : ∀ (l : List Hop) (g : Gate) (c : List Int) (n : Nat) (m : Int), g.good n m → c.length = n → (∀ h ∈ l, 0 ≤ h.to ∧ h.to < (n : Int)) → ∀ i < n,
    (countIn c l).getD i 0 - held (l.foldl stepIn g) i = c.getD i 0 - held g i ∧ c.getD i 0 ≤ (countIn c l).getD i 0 ∧ (countIn c l).getD i 0 ≤ c.getD i 0 + l.length
  | [], g, c, n, m, _, _, _, i, _ => by simp [countIn]
  | h :: l, g, c, n, m, hg, hc, hh, i, hi => by
    have h1 := stepIn_held g h n m hg (hh h (by simp)).1 (hh h (by simp)).2 i hi
    have h2 := countIn_held l (stepIn g h) (bump c h.to.toNat) n (m + 1) (stepIn_good hg h (hh h (by simp)).1 (hh h (by simp)).2) (by rw [bump_len]; exact hc) (fun x hx => hh x (by simp [hx])) i hi
    have h3 := bump_getD c h.to.toNat i (by have := hh h (by simp); omega)
    rw [countIn, List.foldl_cons, List.foldl_cons, List.length_cons]
    rw [countIn] at h2
    rw [h3, h1] at h2
    obtain ⟨q1, q2, q3⟩ := h2
    split at q1 <;> (refine ⟨by omega, by omega, by omega⟩)
theorem countIn_succ (c : List Int) (l : List Hop) (k : Nat) (hk : k < l.length) : countIn c (l.take (k + 1)) = bump (countIn c (l.take k)) l[k].to.toNat := by
  unfold countIn
  rw [List.take_succ_eq_append_getElem hk, List.foldl_append]; rfl
theorem has_bus {g : Gate} {n : Nat} {m : Int} (hg : g.good n m) {bus : Int} (h : has g bus = true) : ∃ b : Nat, bus = b ∧ b < n ∧ 0 < (g.out.getD b []).length := by
  unfold has at h
  simp only [Bool.and_eq_true, decide_eq_true_eq] at h
  obtain ⟨h0, h1, h2⟩ := h
  obtain ⟨b, rfl⟩ := Int.eq_ofNat_of_zero_le h0
  rw [Int.toNat_natCast] at h2
  exact ⟨b, rfl, by have := hg.outs; omega, by omega⟩
theorem doneG_held {g : Gate} {n : Nat} {m : Int} (hg : g.good n m) {b : Nat} (h : has g b = true) (i : Nat) (hi : i < n) : held (doneG g b) i = held g i - if i = b then 1 else 0 := by
  obtain ⟨b', e, hb, hp⟩ := has_bus hg h
  have e : b = b' := by omega
  subst e
  have ho := hg.outs
  unfold held doneG
  rw [if_pos h]
  simp only
  rw [chg_getD _ _ _ _ (by omega)]
  by_cases e : i = b
  · subst e
    rw [if_pos rfl, if_pos rfl]
    simp only [doneF, List.length_drop]
    omega
  · rw [if_neg (by omega), if_neg e]; omega
theorem doneG_not {g : Gate} {bus : Int} (h : has g bus = false) : doneG g bus = g := by unfold doneG; rw [h]; rfl
theorem next_snd (g : Gate) (bus : Int) : (next g bus).2 = has g bus := by unfold next; split <;> simp_all
end Go.Proofs.YtcpfkcipnkeokaaFw
