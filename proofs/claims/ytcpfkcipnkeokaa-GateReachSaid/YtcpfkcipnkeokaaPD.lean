/-
  Nothing goes round: what is done is what route.Reach tells.
-/
import Derived.Test.YtcpfkcipnkeokaaPC
namespace Go.Proofs.YtcpfkcipnkeokaaFw
open Go Go.Proofs
set_option linter.unusedVariables false
set_option linter.unusedSimpArgs false

def hp (l : List Route) (h : Hop) : List Hop := hops l h.to h.frame
def deep (l : List Route) : Nat → Hop → List Hop
  | 0, _ => []
  | n + 1, h => (hp l h).flatMap fun x => x :: deep l n x
def levAt (l : List Route) : Nat → List Hop → List Hop
  | 0, S => S
  | n + 1, S => levAt l n (S.flatMap (hp l))
def lev (l : List Route) : Nat → List Hop → List Hop
  | 0, S => []
  | n + 1, S => S ++ lev l n (S.flatMap (hp l))
theorem flatMap_cons_perm {α : Type} (f : α → List α) : ∀ S : List α, (S.flatMap fun x => x :: f x).Perm (S ++ S.flatMap f)
  | [] => .refl _
  | a :: S => by
    rw [List.flatMap_cons, List.flatMap_cons, List.cons_append, List.cons_append]
    refine .cons _ ?_
    refine ((flatMap_cons_perm f S).append_left (f a)).trans ?_
    rw [← List.append_assoc, ← List.append_assoc]
    exact List.perm_append_comm.append_right _
theorem lev_perm (l : List Route) : ∀ (n : Nat) (S : List Hop), (S.flatMap fun x => x :: deep l n x).Perm (lev l (n + 1) S)
  | 0, S => by
    have : (S.flatMap fun x => x :: deep l 0 x) = S := by simp [deep]
    rw [this]; simp [lev]
  | n + 1, S => by
    refine (flatMap_cons_perm (deep l (n + 1)) S).trans ?_
    show (S ++ S.flatMap fun x => (hp l x).flatMap fun x => x :: deep l n x).Perm (S ++ lev l (n + 1) (S.flatMap (hp l)))
    rw [← List.flatMap_assoc]
    exact (lev_perm l n _).append_left S
theorem lev_at (l : List Route) : ∀ (n : Nat) (S : List Hop), lev l (n + 1) S = lev l n S ++ levAt l n S
  | 0, S => by simp [lev, levAt]
  | n + 1, S => by
    show S ++ lev l (n + 1) (S.flatMap (hp l)) = (S ++ lev l n (S.flatMap (hp l))) ++ levAt l n (S.flatMap (hp l))
    rw [lev_at l n, List.append_assoc]
theorem levAt_succ (l : List Route) : ∀ (n : Nat) (S : List Hop), levAt l (n + 1) S = (levAt l n S).flatMap (hp l)
  | 0, S => rfl
  | n + 1, S => levAt_succ l n _
theorem levAt_nil (l : List Route) : ∀ (n : Nat), levAt l n [] = []
  | 0 => rfl
  | n + 1 => levAt_nil l n
theorem lev_stop (l : List Route) (n : Nat) (S : List Hop) (h : levAt l n S = []) : ∀ m, lev l (n + m) S = lev l n S
  | 0 => rfl
  | m + 1 => by
    rw [← Nat.add_assoc, lev_at, lev_stop l n S h m]
    have : ∀ m, levAt l (n + m) S = [] := fun m => by
      induction m with
      | zero => exact h
      | succ m ih => rw [← Nat.add_assoc, levAt_succ, ih]; rfl
    rw [this, List.append_nil]
/-- Heights of the buses. -/
def hts (l : List Route) (k : Int → Int) : Prop := (∀ v, 0 ≤ k v ∧ k v ≤ 4) ∧ ∀ r ∈ l, k r.src < k r.to
theorem hop_of {l : List Route} {h x : Hop} (hx : x ∈ hp l h) : ∃ r ∈ l, r.src = h.to ∧ x.to = r.to := by
  obtain ⟨r, hr, rfl⟩ := List.mem_map.1 hx
  obtain ⟨h1, h2⟩ := List.mem_filter.1 hr
  simp at h2
  exact ⟨r, h1, h2.1, rfl⟩
theorem hp_up {l : List Route} {k : Int → Int} (hk : hts l k) {h x : Hop} (hx : x ∈ hp l h) : k h.to < k x.to := by
  obtain ⟨r, hr, e1, e2⟩ := hop_of hx
  rw [← e1, e2]; exact hk.2 r hr
theorem levAt_up {l : List Route} {k : Int → Int} (hk : hts l k) : ∀ (n : Nat) (S : List Hop) (m : Int), (∀ x ∈ S, m ≤ k x.to) → ∀ x ∈ levAt l n S, m + n ≤ k x.to
  | 0, S, m, h => by simpa [levAt] using h
  | n + 1, S, m, h => by
    intro x hx
    have := levAt_up hk n (S.flatMap (hp l)) (m + 1) (fun y hy => by
      obtain ⟨z, hz, hy⟩ := List.mem_flatMap.1 hy
      have := hp_up hk hy
      have := h z hz
      omega) x hx
    push_cast; omega
theorem levAt_five {l : List Route} {k : Int → Int} (hk : hts l k) (S : List Hop) (n : Nat) (hn : 5 ≤ n) : levAt l n S = [] := by
  cases h : levAt l n S with
  | nil => rfl
  | cons x L =>
    have h1 := levAt_up hk n S 0 (fun y _ => (hk.1 y.to).1) x (by rw [h]; simp)
    have h2 := (hk.1 x.to).2
    omega
theorem deep_still {l : List Route} {k : Int → Int} (hk : hts l k) : ∀ (n : Nat) (h : Hop), 4 - k h.to ≤ n → deep l (n + 1) h = deep l n h
  | 0, h, hn => by
    have : hp l h = [] := by
      cases e : hp l h with
      | nil => rfl
      | cons x L =>
        have h1 := hp_up hk (show x ∈ hp l h by rw [e]; simp)
        have h2 := (hk.1 x.to).2
        omega
    simp [deep, this]
  | n + 1, h, hn => by
    show (hp l h).flatMap (fun x => x :: deep l (n + 1) x) = (hp l h).flatMap fun x => x :: deep l n x
    rw [List.flatMap_eq_foldl, List.flatMap_eq_foldl]
    have : ∀ x ∈ hp l h, deep l (n + 1) x = deep l n x := fun x hx => deep_still hk n x (by have := hp_up hk hx; push_cast at hn; omega)
    generalize hp l h = L at this
    have key : ∀ (L : List Hop) (z : List Hop), (∀ x ∈ L, deep l (n + 1) x = deep l n x) → L.foldl (fun acc x => acc ++ (x :: deep l (n + 1) x)) z = L.foldl (fun acc x => acc ++ (x :: deep l n x)) z := by
      intro L
      induction L with
      | nil => intro z _; rfl
      | cons a L ih => intro z hz; rw [List.foldl_cons, List.foldl_cons, hz a (by simp)]; exact ih _ fun x hx => hz x (by simp [hx])
    exact key L [] this
theorem deep_eq {l : List Route} {k : Int → Int} (hk : hts l k) (h : Hop) : deep l 4 h = (hp l h).flatMap fun x => x :: deep l 4 x := by
  have h1 : deep l 5 h = deep l 4 h := deep_still hk 4 h (by have := (hk.1 h.to).1; omega)
  rw [← h1]; rfl
/-! How many there are at the most. -/
def mostF (m : Nat) : Nat := [1, 2, 3, 5, 7, 11, 16, 23, 34].getD m 34
theorem mostF_step : ∀ m, m < 9 → ∀ d, d < 9 → ∀ e, e < 9 → d + e ≤ m → 1 + d * mostF e ≤ mostF m := by decide
theorem mostF_mono : ∀ m, m < 9 → ∀ e, e < 9 → e ≤ m → mostF e ≤ mostF m := by decide
def above (l : List Route) (k : Int → Int) (a : Int) : Nat := (l.filter fun r => decide (a ≤ k r.src)).length
theorem above_le (l : List Route) (k : Int → Int) (a : Int) : above l k a ≤ l.length := List.length_filter_le _ _
theorem above_anti (k : Int → Int) (a b : Int) (h : a ≤ b) : ∀ l : List Route, above l k b ≤ above l k a
  | [] => Nat.le_refl _
  | r :: l => by
    have := above_anti k a b h l
    unfold above at *
    by_cases h1 : b ≤ k r.src
    · have h2 : a ≤ k r.src := by omega
      rw [List.filter_cons_of_pos (by simpa using h1), List.filter_cons_of_pos (by simpa using h2)]
      simp only [List.length_cons]; omega
    · rw [List.filter_cons_of_neg (by simpa using h1)]
      by_cases h2 : a ≤ k r.src
      · rw [List.filter_cons_of_pos (by simpa using h2)]
        simp only [List.length_cons]; omega
      · rw [List.filter_cons_of_neg (by simpa using h2)]; exact this
theorem above_out (k : Int → Int) (v : Int) (f : Frame) : ∀ l : List Route, (hops l v f).length + above l k (k v + 1) ≤ above l k (k v)
  | [] => by simp [hops, above]
  | r :: l => by
    have ih := above_out k v f l
    unfold above hops at *
    simp only [List.length_map] at *
    by_cases h0 : r.src = v
    · have h1 : ¬ k v + 1 ≤ k r.src := by rw [h0]; omega
      have h2 : k v ≤ k r.src := by rw [h0]; omega
      rw [List.filter_cons_of_neg (p := fun r : Route => decide (k v + 1 ≤ k r.src)) (by simpa using h1), List.filter_cons_of_pos (p := fun r : Route => decide (k v ≤ k r.src)) (by simpa using h2)]
      have h3 : ((r :: l).filter fun r => r.src == v && takesF r.take f.ext f.id).length ≤ (l.filter fun r => r.src == v && takesF r.take f.ext f.id).length + 1 := by
        rw [List.filter_cons]; split <;> simp
      simp only [List.length_cons]; omega
    · rw [List.filter_cons_of_neg (p := fun r : Route => r.src == v && takesF r.take f.ext f.id) (by simp [h0])]
      by_cases h1 : k v + 1 ≤ k r.src
      · have h2 : k v ≤ k r.src := by omega
        rw [List.filter_cons_of_pos (p := fun r : Route => decide (k v + 1 ≤ k r.src)) (by simpa using h1), List.filter_cons_of_pos (p := fun r : Route => decide (k v ≤ k r.src)) (by simpa using h2)]
        simp only [List.length_cons]; omega
      · rw [List.filter_cons_of_neg (p := fun r : Route => decide (k v + 1 ≤ k r.src)) (by simpa using h1)]
        by_cases h2 : k v ≤ k r.src
        · rw [List.filter_cons_of_pos (p := fun r : Route => decide (k v ≤ k r.src)) (by simpa using h2)]
          simp only [List.length_cons]; omega
        · rw [List.filter_cons_of_neg (p := fun r : Route => decide (k v ≤ k r.src)) (by simpa using h2)]; exact ih
theorem flat_le {α : Type} (f : α → List α) (N : Nat) : ∀ S : List α, (∀ x ∈ S, (f x).length ≤ N) → (S.flatMap f).length ≤ S.length * N
  | [], _ => by simp
  | a :: S, h => by
    have h1 := flat_le f N S fun x hx => h x (by simp [hx])
    have h2 := h a (by simp)
    rw [List.flatMap_cons, List.length_append, List.length_cons, Nat.add_mul]; omega
theorem deep_most {l : List Route} {k : Int → Int} (hk : hts l k) (hl : l.length ≤ 8) : ∀ (n : Nat) (h : Hop), 1 + (deep l n h).length ≤ mostF (above l k (k h.to))
  | 0, h => by
    have := mostF_mono (above l k (k h.to)) (by have := above_le l k (k h.to); omega) 0 (by decide) (Nat.zero_le _)
    simpa [deep, mostF] using this
  | n + 1, h => by
    have ha := above_le l k (k h.to)
    have hb := above_le l k (k h.to + 1)
    have ho := above_out k h.to h.frame l
    have h1 : (deep l (n + 1) h).length ≤ (hp l h).length * mostF (above l k (k h.to + 1)) := by
      refine flat_le _ _ _ fun x hx => ?_
      have := deep_most hk hl n x
      have hx' := hp_up hk hx
      have h3 := above_anti k (k h.to + 1) (k x.to) (by omega) l
      have h4 := mostF_mono (above l k (k h.to + 1)) (by omega) (above l k (k x.to)) (by omega) h3
      simp only [List.length_cons]; omega
    have h2 := mostF_step (above l k (k h.to)) (by omega) (hp l h).length (by unfold hp; omega) (above l k (k h.to + 1)) (by omega) (by unfold hp; omega)
    omega
theorem reach_most {l : List Route} {k : Int → Int} (hk : hts l k) (hl : l.length ≤ 8) (h : Hop) : (lev l 5 (hp l h)).length ≤ 33 := by
  have h1 : ((hp l h).flatMap fun x => x :: deep l 4 x).length = (lev l 5 (hp l h)).length := (lev_perm l 4 (hp l h)).length_eq
  have h2 : (deep l 5 h).length = ((hp l h).flatMap fun x => x :: deep l 4 x).length := rfl
  have h3 := deep_most hk hl 5 h
  have h4 := mostF_mono 8 (by decide) (above l k (k h.to)) (by have := above_le l k (k h.to); omega) (by have := above_le l k (k h.to); omega)
  have h5 : mostF 8 = 34 := rfl
  omega
end Go.Proofs.YtcpfkcipnkeokaaFw
