/-
  Routes have no loop just if each of them goes up in some potential of the buses. Conditions: routes between at most four buses, at most 16 of them.
-/
import Derived.Test.YtpcabeefahldlaaGLoop
import Derived.Test.YtpcabeefahldlaaPlain
namespace Go.Proofs.Ytpcabeefahldlaa.P
open Go.RowKit Go.Proofs.YtpcabeefahldlaaOwn Go.Proofs.YtpcabeefahldlaaW.PrintWords Go.Proofs.YtpcabeefahldlaaW.PrintLast Go.Proofs.YtpcabeefahldlaaW.PrintMore
set_option linter.unusedVariables false
set_option linter.unusedSimpArgs false

/-- Every route goes up. -/
def pot (l : List S45) (p : Nat → Int) : Prop := ∀ r ∈ l, p r.f0.toNat < p r.f1.toNat
def inR (l : List S45) (n : Nat) : Prop := ∀ r ∈ l, 0 ≤ r.f0 ∧ r.f0 < n ∧ 0 ≤ r.f1 ∧ r.f1 < n
/-- A walk of m routes ends at v. -/
def W (l : List S45) : Nat → Nat → Prop
  | 0, _ => True
  | m + 1, v => ∃ r ∈ l, r.f1.toNat = v ∧ W l m r.f0.toNat
def inv (l : List S45) (h : Nat → Int) (B : Nat) : Prop := ∀ v, 0 ≤ h v ∧ h v ≤ B ∧ W l (h v).toNat v
def stable (l : List S45) (h : Nat → Int) : Prop := ∀ r ∈ l, h r.f0.toNat + 1 ≤ h r.f1.toNat

theorem relax_ge (h : Nat → Int) (r : S45) (v : Nat) : h v ≤ relax h r v := by
  unfold relax mx
  split
  · rename_i e; subst e; split <;> omega
  · exact Int.le_refl _
theorem relax_inv {l : List S45} {h : Nat → Int} {B : Nat} (hi : inv l h B) {r : S45} (hr : r ∈ l) (hB : B < 1000000) : inv l (relax h r) (B + 1) := by
  intro v
  obtain ⟨a1, a2, a3⟩ := hi v
  unfold relax
  by_cases e : v = r.f1.toNat
  · rw [if_pos e]
    obtain ⟨b1, b2, b3⟩ := hi r.f0.toNat
    have hw : wrap64 (h r.f0.toNat + 1) = h r.f0.toNat + 1 := wr _ (by omega)
    rw [hw]
    subst e
    unfold mx
    split
    · refine ⟨by omega, by omega, ?_⟩
      have : (h r.f0.toNat + 1).toNat = (h r.f0.toNat).toNat + 1 := by omega
      rw [this]
      exact ⟨r, hr, rfl, b3⟩
    · exact ⟨a1, by omega, a3⟩
  · rw [if_neg e]; exact ⟨a1, by omega, a3⟩
theorem relax_up {l : List S45} {h : Nat → Int} {B : Nat} (hi : inv l h B) (r : S45) (hB : B < 1000000) : h r.f0.toNat + 1 ≤ relax h r r.f1.toNat := by
  obtain ⟨b1, b2, b3⟩ := hi r.f0.toNat
  have hw : wrap64 (h r.f0.toNat + 1) = h r.f0.toNat + 1 := wr _ (by omega)
  unfold relax mx
  rw [if_pos rfl, hw]
  split <;> omega
theorem sweep_ge : ∀ (l : List S45) (h : Nat → Int) (v : Nat), h v ≤ sweep h l v
  | [], _, _ => Int.le_refl _
  | r :: l, h, v => Int.le_trans (relax_ge h r v) (sweep_ge l (relax h r) v)
theorem sweep_inv {L : List S45} : ∀ (l : List S45) (h : Nat → Int) (B : Nat), (∀ r ∈ l, r ∈ L) → inv L h B → B + l.length < 1000000 → inv L (sweep h l) (B + l.length)
  | [], _, _, _, hi, _ => hi
  | r :: l, h, B, hs, hi, hb => by
    have := sweep_inv l (relax h r) (B + 1) (fun x hx => hs x (List.mem_cons_of_mem _ hx)) (relax_inv hi (hs r List.mem_cons_self) (by simp at hb; omega)) (by simp at hb; omega)
    have e : B + 1 + l.length = B + (r :: l).length := by simp; omega
    rwa [e] at this
theorem sweep_up {L : List S45} : ∀ (l : List S45) (h : Nat → Int) (B : Nat), (∀ r ∈ l, r ∈ L) → inv L h B → B + l.length < 1000000 → ∀ r ∈ l, h r.f0.toNat + 1 ≤ sweep h l r.f1.toNat
  | [], _, _, _, _, _, r, hr => by simp at hr
  | x :: l, h, B, hs, hi, hb, r, hr => by
    rcases List.mem_cons.mp hr with rfl | hr
    · exact Int.le_trans (relax_up hi r (by simp at hb; omega)) (sweep_ge l _ _)
    · have := sweep_up l (relax h x) (B + 1) (fun y hy => hs y (List.mem_cons_of_mem _ hy)) (relax_inv hi (hs x List.mem_cons_self) (by simp at hb; omega)) (by simp at hb; omega) r hr
      exact Int.le_trans (by have := relax_ge h x r.f0.toNat; omega) this
theorem same4_eq {g h : Nat → Int} (e : same4 g h = true) (v : Nat) (hv : v < 4) : g v = h v := by
  simp only [same4, Bool.and_eq_true, beq_iff_eq] at e
  obtain ⟨e0, e1, e2, e3⟩ := e
  rcases (show v = 0 ∨ v = 1 ∨ v = 2 ∨ v = 3 by omega) with rfl | rfl | rfl | rfl <;> assumption
theorem same_stable {l : List S45} {h : Nat → Int} {B : Nat} (hn : inR l 4) (hi : inv l h B) (hb : B + l.length < 1000000) (e : same4 h (sweep h l) = true) : stable l h ∧ stable l (sweep h l) := by
  have up := sweep_up l h B (fun _ hr => hr) hi hb
  refine ⟨fun r hr => ?_, fun r hr => ?_⟩
  · have := hn r hr
    rw [same4_eq e r.f1.toNat (by omega)]
    exact up r hr
  · have := hn r hr
    rw [← same4_eq e r.f0.toNat (by omega)]
    exact up r hr
theorem relax_still {l : List S45} {h : Nat → Int} {B : Nat} (hi : inv l h B) (hB : B < 1000000) (r : S45) (hs : h r.f0.toNat + 1 ≤ h r.f1.toNat) : relax h r = h := by
  funext v
  obtain ⟨b1, b2, b3⟩ := hi r.f0.toNat
  have hw : wrap64 (h r.f0.toNat + 1) = h r.f0.toNat + 1 := wr _ (by omega)
  unfold relax mx
  split
  · rename_i e
    rw [hw, if_neg (by omega), e]
  · rfl
theorem sweep_still {L : List S45} {h : Nat → Int} {B : Nat} (hi : inv L h B) (hB : B < 1000000) : ∀ (l : List S45), (∀ r ∈ l, h r.f0.toNat + 1 ≤ h r.f1.toNat) → sweep h l = h
  | [], _ => rfl
  | r :: l, hs => by
    show sweep (relax h r) l = h
    rw [relax_still hi hB r (hs r List.mem_cons_self)]
    exact sweep_still hi hB l (fun x hx => hs x (List.mem_cons_of_mem _ hx))
theorem same4_rfl (h : Nat → Int) : same4 h h = true := by simp [same4]
theorem sweeps_inv {l : List S45} : ∀ (n : Nat) (h : Nat → Int) (B : Nat), inv l h B → B + n * l.length < 1000000 → ∃ B', B' ≤ B + n * l.length ∧ inv l (sweeps n h l) B'
  | 0, h, B, hi, hb => ⟨B, by omega, hi⟩
  | n + 1, h, B, hi, hb => by
    have hs := sweep_inv l h B (fun _ hr => hr) hi (by rw [Nat.succ_mul] at hb; omega)
    rw [sweeps_succ]
    split
    · exact ⟨B + l.length, by rw [Nat.succ_mul]; omega, hs⟩
    · obtain ⟨B', h1, h2⟩ := sweeps_inv n (sweep h l) (B + l.length) hs (by rw [Nat.succ_mul] at hb; omega)
      exact ⟨B', by rw [Nat.succ_mul]; omega, h2⟩
theorem sweeps_prog {l : List S45} (hn : inR l 4) : ∀ (n k : Nat) (h : Nat → Int) (B : Nat), inv l h B → B + n * l.length < 1000000 → (∀ m v, m ≤ k → W l m v → (m : Int) ≤ h v) → stable l (sweeps n h l) ∨ (∀ m v, m ≤ k + n → W l m v → (m : Int) ≤ sweeps n h l v)
  | 0, k, h, B, hi, hb, hk => .inr hk
  | n + 1, k, h, B, hi, hb, hk => by
    have hbl : B + l.length < 1000000 := by rw [Nat.succ_mul] at hb; omega
    have hs := sweep_inv l h B (fun _ hr => hr) hi hbl
    rw [sweeps_succ]
    split
    · rename_i e; exact .inl (same_stable hn hi hbl e).2
    · have := sweeps_prog hn n (k + 1) (sweep h l) (B + l.length) hs (by rw [Nat.succ_mul] at hb; omega) (by
        intro m v hm hw
        cases m with
        | zero => exact (hs v).1
        | succ m =>
          obtain ⟨r, hr, rfl, hw'⟩ := hw
          have h1 := hk m _ (by omega) hw'
          have h2 := sweep_up l h B (fun _ hr => hr) hi hbl r hr
          omega)
      rcases this with h1 | h1
      · exact .inl h1
      · exact .inr (fun m v hm => h1 m v (by omega))
theorem inv0 (l : List S45) : inv l (fun _ => 0) 0 := fun v => ⟨Int.le_refl _, Int.le_refl _, trivial⟩
theorem loopB_pot {l : List S45} {n : Nat} (hn : inR l 4) (h4 : n ≤ 4) (hl : l.length ≤ 1000) (h : loopB l n = true) : ∃ p : Nat → Int, pot l p ∧ ∀ v, 0 ≤ p v := by
  unfold loopB at h
  have hm : n * l.length ≤ 4 * l.length := Nat.mul_le_mul_right _ h4
  obtain ⟨B, hB, hi⟩ := sweeps_inv (l := l) n (fun _ => 0) 0 (inv0 l) (by omega)
  have ht : ((n : Int)).toNat = n := by simp
  rw [ht] at h
  have := (same_stable hn hi (by omega) h).1
  exact ⟨_, fun r hr => by have := this r hr; omega, fun v => (hi v).1⟩
theorem W_pot {l : List S45} {p : Nat → Int} (hp : pot l p) (h0 : ∀ v, 0 ≤ p v) : ∀ (m v : Nat), W l m v → (m : Int) ≤ p v
  | 0, v, _ => h0 v
  | m + 1, v, ⟨r, hr, e, hw⟩ => by
    have h1 := W_pot hp h0 m _ hw
    have h2 := hp r hr
    rw [e] at h2
    omega
theorem pot_loopB {l : List S45} {n : Nat} (hn : inR l 4) (h4 : n ≤ 4) (hl : l.length ≤ 1000) {p : Nat → Int} (hp : pot l p) (h0 : ∀ v, 0 ≤ p v) (h1 : ∀ v, p v ≤ n) : loopB l n = true := by
  unfold loopB
  have hm : n * l.length ≤ 4 * l.length := Nat.mul_le_mul_right _ h4
  have ht : ((n : Int)).toNat = n := by simp
  rw [ht]
  obtain ⟨B, hB, hi⟩ := sweeps_inv (l := l) n (fun _ => 0) 0 (inv0 l) (by omega)
  have hs : stable l (sweeps n (fun _ => 0) l) := by
    rcases sweeps_prog hn n 0 (fun _ => 0) 0 (inv0 l) (by omega) (fun m v hm _ => by omega) with h | h
    · exact h
    · intro r hr
      obtain ⟨b1, b2, b3⟩ := hi r.f0.toNat
      have hw : W l (((sweeps n (fun _ => 0) l) r.f0.toNat).toNat + 1) r.f1.toNat := ⟨r, hr, rfl, b3⟩
      have h2 := W_pot hp h0 _ _ hw
      have h3 := h1 r.f1.toNat
      have h4 := h _ _ (by omega) hw
      omega
  rw [sweep_still hi (by omega) l hs]
  exact same4_rfl _

def ind (b : Prop) [Decidable b] : Int := if b then 1 else 0
theorem ind_01 (b : Prop) [Decidable b] : 0 ≤ ind b ∧ ind b ≤ 1 := by unfold ind; split <;> omega
/-- How many buses lie below. -/
def rank (p : Nat → Int) (n v : Nat) : Int := ind (0 < n ∧ p 0 < p v) + ind (1 < n ∧ p 1 < p v) + ind (2 < n ∧ p 2 < p v) + ind (3 < n ∧ p 3 < p v)
theorem rank_lt {p : Nat → Int} {n f t : Nat} (hf : f < n) (h4 : n ≤ 4) (h : p f < p t) : rank p n f < rank p n t := by
  have mono : ∀ u, ind (u < n ∧ p u < p f) ≤ ind (u < n ∧ p u < p t) := by
    intro u
    unfold ind
    split
    · rename_i a; rw [if_pos ⟨a.1, by omega⟩]; exact Int.le_refl _
    · split <;> omega
  have s0 : ind (f < n ∧ p f < p f) = 0 := by unfold ind; rw [if_neg (by omega)]
  have s1 : ind (f < n ∧ p f < p t) = 1 := by unfold ind; rw [if_pos ⟨hf, h⟩]
  have m0 := mono 0
  have m1 := mono 1
  have m2 := mono 2
  have m3 := mono 3
  unfold rank
  rcases (show f = 0 ∨ f = 1 ∨ f = 2 ∨ f = 3 by omega) with rfl | rfl | rfl | rfl <;> omega
theorem rank_le (p : Nat → Int) (n v : Nat) (h4 : n ≤ 4) : 0 ≤ rank p n v ∧ rank p n v ≤ n := by
  have z : ∀ u, ¬ u < n → ind (u < n ∧ p u < p v) = 0 := by intro u hu; unfold ind; rw [if_neg (by omega)]
  have b0 := ind_01 (0 < n ∧ p 0 < p v)
  have b1 := ind_01 (1 < n ∧ p 1 < p v)
  have b2 := ind_01 (2 < n ∧ p 2 < p v)
  have b3 := ind_01 (3 < n ∧ p 3 < p v)
  have z0 := z 0
  have z1 := z 1
  have z2 := z 2
  have z3 := z 3
  unfold rank
  rcases (show n = 0 ∨ n = 1 ∨ n = 2 ∨ n = 3 ∨ n = 4 by omega) with rfl | rfl | rfl | rfl | rfl <;> constructor <;> omega
/-- No loop: just if there is a potential. -/
theorem loopB_iff {l : List S45} {n : Nat} (hn : inR l n) (h4 : n ≤ 4) (hl : l.length ≤ 1000) : loopB l n = true ↔ ∃ p : Nat → Int, pot l p := by
  have hn4 : inR l 4 := fun r hr => by have := hn r hr; omega
  constructor
  · intro h
    obtain ⟨p, hp, _⟩ := loopB_pot hn4 h4 hl h
    exact ⟨p, hp⟩
  · rintro ⟨p, hp⟩
    refine pot_loopB hn4 h4 hl (p := rank p n) (fun r hr => ?_) (fun v => (rank_le p n v h4).1) (fun v => (rank_le p n v h4).2)
    have := hn r hr
    exact rank_lt (by omega) h4 (hp r hr)

end Go.Proofs.Ytpcabeefahldlaa.P
