/-
  Routes have no loop just if each of them goes up in some potential of the buses: what both answers of Loopless come to.
-/
import Derived.Test.YtcpfkcipnkeokaaWD
namespace Go.Proofs.YtcpfkcipnkeokaaFw
open Go
set_option linter.unusedVariables false
set_option linter.unusedSimpArgs false

def mx (a b : Int) : Int := if a < b then b else a
def relax (h : Nat → Int) (r : Route) : Nat → Int := fun j => if j = r.to.toNat then mx (h r.to.toNat) (h r.src.toNat + 1) else h j
def sweep (h : Nat → Int) (l : List Route) : Nat → Int := l.foldl relax h
def same4 (g h : Nat → Int) : Bool := g 0 == h 0 && (g 1 == h 1 && (g 2 == h 2 && (g 3 == h 3)))
def sweeps : Nat → (Nat → Int) → List Route → (Nat → Int)
  | 0, h, _ => h
  | n + 1, h, l => if same4 h (sweep h l) = true then sweep h l else sweeps n (sweep h l) l
theorem sweeps_succ (n : Nat) (h : Nat → Int) (l : List Route) : sweeps (n + 1) h l = if same4 h (sweep h l) = true then sweep h l else sweeps n (sweep h l) l := rfl
def loopB (l : List Route) (n : Int) : Bool := same4 (sweeps n.toNat (fun _ => 0) l) (sweep (sweeps n.toNat (fun _ => 0) l) l)
def inB (l : List Int) (x : Int) : Bool := decide (x ∈ l)
theorem inB_iff (l : List Int) (x : Int) : inB l x = true ↔ x ∈ l := by simp [inB]
def leads (l : List Route) (from_ : List Int) (b : Int) : Bool := l.any (fun r => r.to == b && inB from_ r.src)
def onL (l : List Route) (from_ : List Int) : List Int := ((List.range 4).map (fun b : Nat => (b : Int))).filter (leads l from_)
theorem onL_len (l : List Route) (from_ : List Int) : (onL l from_).length ≤ 4 := by
  unfold onL; exact Nat.le_trans (List.length_filter_le _ _) (by simp)

/-- Every route goes up. -/
def pot (l : List Route) (p : Nat → Int) : Prop := ∀ r ∈ l, p r.src.toNat < p r.to.toNat
def inR (l : List Route) (n : Nat) : Prop := ∀ r ∈ l, 0 ≤ r.src ∧ r.src < n ∧ 0 ≤ r.to ∧ r.to < n
/-- A walk of m routes ends at v. -/
def W (l : List Route) : Nat → Nat → Prop
  | 0, _ => True
  | m + 1, v => ∃ r ∈ l, r.to.toNat = v ∧ W l m r.src.toNat
def inv (l : List Route) (h : Nat → Int) (B : Nat) : Prop := ∀ v, 0 ≤ h v ∧ h v ≤ B ∧ W l (h v).toNat v
def stable (l : List Route) (h : Nat → Int) : Prop := ∀ r ∈ l, h r.src.toNat + 1 ≤ h r.to.toNat

theorem relax_ge (h : Nat → Int) (r : Route) (v : Nat) : h v ≤ relax h r v := by
  unfold relax mx
  split
  · rename_i e; subst e; split <;> omega
  · exact Int.le_refl _
theorem relax_inv {l : List Route} {h : Nat → Int} {B : Nat} (hi : inv l h B) {r : Route} (hr : r ∈ l) (hB : B < 1000000) : inv l (relax h r) (B + 1) := by
  intro v
  obtain ⟨a1, a2, a3⟩ := hi v
  unfold relax
  by_cases e : v = r.to.toNat
  · rw [if_pos e]
    obtain ⟨b1, b2, b3⟩ := hi r.src.toNat
    have hw : (h r.src.toNat + 1) = h r.src.toNat + 1 := rfl
    rw [hw]
    subst e
    unfold mx
    split
    · refine ⟨by omega, by omega, ?_⟩
      have : (h r.src.toNat + 1).toNat = (h r.src.toNat).toNat + 1 := by omega
      rw [this]
      exact ⟨r, hr, rfl, b3⟩
    · exact ⟨a1, by omega, a3⟩
  · rw [if_neg e]; exact ⟨a1, by omega, a3⟩
theorem relax_up {l : List Route} {h : Nat → Int} {B : Nat} (hi : inv l h B) (r : Route) (hB : B < 1000000) : h r.src.toNat + 1 ≤ relax h r r.to.toNat := by
  obtain ⟨b1, b2, b3⟩ := hi r.src.toNat
  have hw : (h r.src.toNat + 1) = h r.src.toNat + 1 := rfl
  unfold relax mx
  rw [if_pos rfl, hw]
  split <;> omega
theorem sweep_ge : ∀ (l : List Route) (h : Nat → Int) (v : Nat), h v ≤ sweep h l v
  | [], _, _ => Int.le_refl _
  | r :: l, h, v => Int.le_trans (relax_ge h r v) (sweep_ge l (relax h r) v)
theorem sweep_inv {L : List Route} : ∀ (l : List Route) (h : Nat → Int) (B : Nat), (∀ r ∈ l, r ∈ L) → inv L h B → B + l.length < 1000000 → inv L (sweep h l) (B + l.length)
  | [], _, _, _, hi, _ => hi
  | r :: l, h, B, hs, hi, hb => by
    have := sweep_inv l (relax h r) (B + 1) (fun x hx => hs x (List.mem_cons_of_mem _ hx)) (relax_inv hi (hs r List.mem_cons_self) (by simp at hb; omega)) (by simp at hb; omega)
    have e : B + 1 + l.length = B + (r :: l).length := by simp; omega
    rwa [e] at this
theorem sweep_up {L : List Route} : ∀ (l : List Route) (h : Nat → Int) (B : Nat), (∀ r ∈ l, r ∈ L) → inv L h B → B + l.length < 1000000 → ∀ r ∈ l, h r.src.toNat + 1 ≤ sweep h l r.to.toNat
  | [], _, _, _, _, _, r, hr => by simp at hr
  | x :: l, h, B, hs, hi, hb, r, hr => by
    rcases List.mem_cons.mp hr with rfl | hr
    · exact Int.le_trans (relax_up hi r (by simp at hb; omega)) (sweep_ge l _ _)
    · have := sweep_up l (relax h x) (B + 1) (fun y hy => hs y (List.mem_cons_of_mem _ hy)) (relax_inv hi (hs x List.mem_cons_self) (by simp at hb; omega)) (by simp at hb; omega) r hr
      exact Int.le_trans (by have := relax_ge h x r.src.toNat; omega) this
theorem same4_eq {g h : Nat → Int} (e : same4 g h = true) (v : Nat) (hv : v < 4) : g v = h v := by
  simp only [same4, Bool.and_eq_true, beq_iff_eq] at e
  obtain ⟨e0, e1, e2, e3⟩ := e
  rcases (show v = 0 ∨ v = 1 ∨ v = 2 ∨ v = 3 by omega) with rfl | rfl | rfl | rfl <;> assumption
theorem same_stable {l : List Route} {h : Nat → Int} {B : Nat} (hn : inR l 4) (hi : inv l h B) (hb : B + l.length < 1000000) (e : same4 h (sweep h l) = true) : stable l h ∧ stable l (sweep h l) := by
  have up := sweep_up l h B (fun _ hr => hr) hi hb
  refine ⟨fun r hr => ?_, fun r hr => ?_⟩
  · have := hn r hr
    rw [same4_eq e r.to.toNat (by omega)]
    exact up r hr
  · have := hn r hr
    rw [← same4_eq e r.src.toNat (by omega)]
    exact up r hr
theorem relax_still {l : List Route} {h : Nat → Int} {B : Nat} (hi : inv l h B) (hB : B < 1000000) (r : Route) (hs : h r.src.toNat + 1 ≤ h r.to.toNat) : relax h r = h := by
  funext v
  obtain ⟨b1, b2, b3⟩ := hi r.src.toNat
  have hw : (h r.src.toNat + 1) = h r.src.toNat + 1 := rfl
  unfold relax mx
  split
  · rename_i e
    rw [hw, if_neg (by omega), e]
  · rfl
theorem sweep_still {L : List Route} {h : Nat → Int} {B : Nat} (hi : inv L h B) (hB : B < 1000000) : ∀ (l : List Route), (∀ r ∈ l, h r.src.toNat + 1 ≤ h r.to.toNat) → sweep h l = h
  | [], _ => rfl
  | r :: l, hs => by
    show sweep (relax h r) l = h
    rw [relax_still hi hB r (hs r List.mem_cons_self)]
    exact sweep_still hi hB l (fun x hx => hs x (List.mem_cons_of_mem _ hx))
theorem same4_rfl (h : Nat → Int) : same4 h h = true := by simp [same4]
theorem sweeps_inv {l : List Route} : ∀ (n : Nat) (h : Nat → Int) (B : Nat), inv l h B → B + n * l.length < 1000000 → ∃ B', B' ≤ B + n * l.length ∧ inv l (sweeps n h l) B'
  | 0, h, B, hi, hb => ⟨B, by omega, hi⟩
  | n + 1, h, B, hi, hb => by
    have hs := sweep_inv l h B (fun _ hr => hr) hi (by rw [Nat.succ_mul] at hb; omega)
    rw [sweeps_succ]
    split
    · exact ⟨B + l.length, by rw [Nat.succ_mul]; omega, hs⟩
    · obtain ⟨B', h1, h2⟩ := sweeps_inv n (sweep h l) (B + l.length) hs (by rw [Nat.succ_mul] at hb; omega)
      exact ⟨B', by rw [Nat.succ_mul]; omega, h2⟩
theorem sweeps_prog {l : List Route} (hn : inR l 4) : ∀ (n k : Nat) (h : Nat → Int) (B : Nat), inv l h B → B + n * l.length < 1000000 → (∀ m v, m ≤ k → W l m v → (m : Int) ≤ h v) → stable l (sweeps n h l) ∨ (∀ m v, m ≤ k + n → W l m v → (m : Int) ≤ sweeps n h l v)
  | 0, k, h, B, hi, hb, hk => .inr hk
  | n + 1, k, h, B, hi, hb, hk => by
    have hbl : B + l.length < 1000000 := by rw [Nat.succ_mul] at hb; omega
    have hs := sweep_inv l h B (fun _ hr => hr) hi hbl
    rw [sweeps_succ]
    split
    · rename_i e; exact .inl (same_stable hn hi hbl e).2
    · have := sweeps_prog hn n (k + 1) (sweep h l) (B + l.length) hs (by rw [Nat.succ_mul] at hb; omega) (by
        intro m v hm hw
        cases m with
        | zero => exact (hs v).1
        | succ m =>
          obtain ⟨r, hr, rfl, hw'⟩ := hw
          have h1 := hk m _ (by omega) hw'
          have h2 := sweep_up l h B (fun _ hr => hr) hi hbl r hr
          omega)
      rcases this with h1 | h1
      · exact .inl h1
      · exact .inr (fun m v hm => h1 m v (by omega))
theorem inv0 (l : List Route) : inv l (fun _ => 0) 0 := fun v => ⟨Int.le_refl _, Int.le_refl _, trivial⟩
theorem loopB_pot {l : List Route} {n : Nat} (hn : inR l 4) (h4 : n ≤ 4) (hl : l.length ≤ 1000) (h : loopB l n = true) : ∃ p : Nat → Int, pot l p ∧ ∀ v, 0 ≤ p v := by
  unfold loopB at h
  have hm : n * l.length ≤ 4 * l.length := Nat.mul_le_mul_right _ h4
  obtain ⟨B, hB, hi⟩ := sweeps_inv (l := l) n (fun _ => 0) 0 (inv0 l) (by omega)
  have ht : ((n : Int)).toNat = n := by simp
  rw [ht] at h
  have := (same_stable hn hi (by omega) h).1
  exact ⟨_, fun r hr => by have := this r hr; omega, fun v => (hi v).1⟩
theorem W_pot {l : List Route} {p : Nat → Int} (hp : pot l p) (h0 : ∀ v, 0 ≤ p v) : ∀ (m v : Nat), W l m v → (m : Int) ≤ p v
  | 0, v, _ => h0 v
  | m + 1, v, ⟨r, hr, e, hw⟩ => by
    have h1 := W_pot hp h0 m _ hw
    have h2 := hp r hr
    rw [e] at h2
    omega
theorem pot_loopB {l : List Route} {n : Nat} (hn : inR l 4) (h4 : n ≤ 4) (hl : l.length ≤ 1000) {p : Nat → Int} (hp : pot l p) (h0 : ∀ v, 0 ≤ p v) (h1 : ∀ v, p v ≤ n) : loopB l n = true := by
  unfold loopB
  have hm : n * l.length ≤ 4 * l.length := Nat.mul_le_mul_right _ h4
  have ht : ((n : Int)).toNat = n := by simp
  rw [ht]
  obtain ⟨B, hB, hi⟩ := sweeps_inv (l := l) n (fun _ => 0) 0 (inv0 l) (by omega)
  have hs : stable l (sweeps n (fun _ => 0) l) := by
    rcases sweeps_prog hn n 0 (fun _ => 0) 0 (inv0 l) (by omega) (fun m v hm _ => by omega) with h | h
    · exact h
    · intro r hr
      obtain ⟨b1, b2, b3⟩ := hi r.src.toNat
      have hw : W l (((sweeps n (fun _ => 0) l) r.src.toNat).toNat + 1) r.to.toNat := ⟨r, hr, rfl, b3⟩
      have h2 := W_pot hp h0 _ _ hw
      have h3 := h1 r.to.toNat
      have h4 := h _ _ (by omega) hw
      omega
  rw [sweep_still hi (by omega) l hs]
  exact same4_rfl _

def ind (b : Prop) [Decidable b] : Int := if b then 1 else 0
theorem ind_01 (b : Prop) [Decidable b] : 0 ≤ ind b ∧ ind b ≤ 1 := by unfold ind; split <;> omega
/-- How many buses lie below. -/
def rank (p : Nat → Int) (n v : Nat) : Int := ind (0 < n ∧ p 0 < p v) + ind (1 < n ∧ p 1 < p v) + ind (2 < n ∧ p 2 < p v) + ind (3 < n ∧ p 3 < p v)
theorem rank_lt {p : Nat → Int} {n f t : Nat} (hf : f < n) (h4 : n ≤ 4) (h : p f < p t) : rank p n f < rank p n t := by
  have mono : ∀ u, ind (u < n ∧ p u < p f) ≤ ind (u < n ∧ p u < p t) := by
    intro u
    unfold ind
    split
    · rename_i a; rw [if_pos ⟨a.1, by omega⟩]; exact Int.le_refl _
    · split <;> omega
  have s0 : ind (f < n ∧ p f < p f) = 0 := by unfold ind; rw [if_neg (by omega)]
  have s1 : ind (f < n ∧ p f < p t) = 1 := by unfold ind; rw [if_pos ⟨hf, h⟩]
  have m0 := mono 0
  have m1 := mono 1
  have m2 := mono 2
  have m3 := mono 3
  unfold rank
  rcases (show f = 0 ∨ f = 1 ∨ f = 2 ∨ f = 3 by omega) with rfl | rfl | rfl | rfl <;> omega
theorem rank_le (p : Nat → Int) (n v : Nat) (h4 : n ≤ 4) : 0 ≤ rank p n v ∧ rank p n v ≤ n := by
  have z : ∀ u, ¬ u < n → ind (u < n ∧ p u < p v) = 0 := by intro u hu; unfold ind; rw [if_neg (by omega)]
  have b0 := ind_01 (0 < n ∧ p 0 < p v)
  have b1 := ind_01 (1 < n ∧ p 1 < p v)
  have b2 := ind_01 (2 < n ∧ p 2 < p v)
  have b3 := ind_01 (3 < n ∧ p 3 < p v)
  have z0 := z 0
  have z1 := z 1
  have z2 := z 2
  have z3 := z 3
  unfold rank
  rcases (show n = 0 ∨ n = 1 ∨ n = 2 ∨ n = 3 ∨ n = 4 by omega) with rfl | rfl | rfl | rfl | rfl <;> constructor <;> omega
/-- No loop: just if there is a potential. -/
theorem loopB_iff {l : List Route} {n : Nat} (hn : inR l n) (h4 : n ≤ 4) (hl : l.length ≤ 1000) : loopB l n = true ↔ ∃ p : Nat → Int, pot l p := by
  have hn4 : inR l 4 := fun r hr => by have := hn r hr; omega
  constructor
  · intro h
    obtain ⟨p, hp, _⟩ := loopB_pot hn4 h4 hl h
    exact ⟨p, hp⟩
  · rintro ⟨p, hp⟩
    refine pot_loopB hn4 h4 hl (p := rank p n) (fun r hr => ?_) (fun v => (rank_le p n v h4).1) (fun v => (rank_le p n v h4).2)
    have := hn r hr
    exact rank_lt (by omega) h4 (hp r hr)

theorem onL_iff {l : List Route} (hin : inR l 4) (from_ : List Int) (v : Int) : v ∈ onL l from_ ↔ ∃ r ∈ l, r.to = v ∧ r.src ∈ from_ := by
  unfold onL leads
  rw [List.mem_filter, List.any_eq_true]
  constructor
  · rintro ⟨_, r, hr, h⟩
    rw [Bool.and_eq_true, beq_iff_eq, inB_iff] at h
    exact ⟨r, hr, h.1, h.2⟩
  · rintro ⟨r, hr, rfl, h⟩
    refine ⟨?_, r, hr, by rw [Bool.and_eq_true, beq_iff_eq, inB_iff]; exact ⟨rfl, h⟩⟩
    have := hin r hr
    exact List.mem_map.mpr ⟨r.to.toNat, by rw [List.mem_range]; omega, by omega⟩
/-- A way of m routes from b to v. -/
def Way (l : List Route) (b : Int) : Nat → Int → Prop
  | 0, v => v = b
  | m + 1, v => ∃ r ∈ l, r.to = v ∧ Way l b m r.src
def fromS (l : List Route) (b : Int) : Nat → List Int
  | 0 => [b]
  | m + 1 => onL l (fromS l b m)
theorem fromS_len (l : List Route) (b : Int) : ∀ m, (fromS l b m).length ≤ 4
  | 0 => by simp [fromS]
  | m + 1 => onL_len l _
theorem fromS_iff {l : List Route} (hin : inR l 4) (b : Int) : ∀ (m : Nat) (v : Int), v ∈ fromS l b m ↔ Way l b m v
  | 0, v => by simp [fromS, Way]
  | m + 1, v => by
    rw [fromS, onL_iff hin, Way]
    constructor
    · rintro ⟨r, hr, h1, h2⟩; exact ⟨r, hr, h1, (fromS_iff hin b m _).mp h2⟩
    · rintro ⟨r, hr, h1, h2⟩; exact ⟨r, hr, h1, (fromS_iff hin b m _).mpr h2⟩
/-- No bus among n comes back behind m routes, for m of 1 to n. -/
def backAt (l : List Route) (b : Nat) (n : Nat) : Bool := (List.range n).any (fun m => inB (fromS l (b : Int) (m + 1)) (b : Int))
def noBack (l : List Route) (n : Nat) : Bool := !(List.range n).any (fun b => backAt l b n)
theorem way_cat {l : List Route} {b : Int} {m : Nat} {r : Route} (hr : r ∈ l) (h : Way l b m r.src) : Way l b (m + 1) r.to := ⟨r, hr, rfl, h⟩
theorem way_pot {l : List Route} {p : Nat → Int} (hp : pot l p) (b : Int) : ∀ (m : Nat) (v : Int), Way l b m v → p b.toNat + m ≤ p v.toNat
  | 0, v, h => by obtain rfl : v = b := h; omega
  | m + 1, v, ⟨r, hr, e, h⟩ => by
    have h1 := way_pot hp b m _ h
    have h2 := hp r hr
    rw [e] at h2
    omega
/-- The places of a walk. -/
theorem walk_seq {l : List Route} : ∀ (m : Nat) (v : Int), 0 ≤ v → inR l 4 → W l m v.toNat → ∃ s : Nat → Int, s m = v ∧ ∀ i, i < m → ∃ r ∈ l, r.src = s i ∧ r.to = s (i + 1)
  | 0, v, _, _, _ => ⟨fun _ => v, rfl, fun i hi => by omega⟩
  | m + 1, v, h0, hin, ⟨r, hr, e, h⟩ => by
    have h4 := hin r hr
    obtain ⟨s, h1, h2⟩ := walk_seq m r.src h4.1 hin h
    refine ⟨fun i => if i = m + 1 then v else s i, by simp, fun i hi => ?_⟩
    by_cases hm : i = m
    · subst hm
      refine ⟨r, hr, by simp [h1], by simp; omega⟩
    · obtain ⟨x, hx, h3, h5⟩ := h2 i (by omega)
      refine ⟨x, hx, by dsimp only; rw [if_neg (by omega)]; exact h3, by dsimp only; rw [if_neg (by omega)]; exact h5⟩
theorem seq_way {l : List Route} {s : Nat → Int} {n : Nat} (h : ∀ i, i < n → ∃ r ∈ l, r.src = s i ∧ r.to = s (i + 1)) (i : Nat) : ∀ (d : Nat), i + d ≤ n → Way l (s i) d (s (i + d))
  | 0, _ => rfl
  | d + 1, hd => by
    obtain ⟨r, hr, h0, h1⟩ := h (i + d) (by omega)
    refine ⟨r, hr, h1, ?_⟩
    rw [h0]
    exact seq_way h i d (by omega)
theorem pigeon (n : Nat) (hn : 1 ≤ n ∧ n ≤ 4) (s : Nat → Int) (h : ∀ i, i ≤ n → 0 ≤ s i ∧ s i < n) : ∃ i d, 1 ≤ d ∧ i + d ≤ n ∧ s (i + d) = s i := by
  have h0 := h 0 (by omega)
  have h1 := h 1 (by omega)
  rcases (show n = 1 ∨ n = 2 ∨ n = 3 ∨ n = 4 by omega) with rfl | rfl | rfl | rfl
  · exact ⟨0, 1, by omega, by omega, by show s 1 = s 0; omega⟩
  · have h2 := h 2 (by omega)
    rcases (show s 1 = s 0 ∨ s 2 = s 0 ∨ s 2 = s 1 by omega) with e | e | e
    · exact ⟨0, 1, by omega, by omega, e⟩
    · exact ⟨0, 2, by omega, by omega, e⟩
    · exact ⟨1, 1, by omega, by omega, e⟩
  · have h2 := h 2 (by omega)
    have h3 := h 3 (by omega)
    rcases (show s 1 = s 0 ∨ s 2 = s 0 ∨ s 3 = s 0 ∨ s 2 = s 1 ∨ s 3 = s 1 ∨ s 3 = s 2 by omega) with e | e | e | e | e | e
    · exact ⟨0, 1, by omega, by omega, e⟩
    · exact ⟨0, 2, by omega, by omega, e⟩
    · exact ⟨0, 3, by omega, by omega, e⟩
    · exact ⟨1, 1, by omega, by omega, e⟩
    · exact ⟨1, 2, by omega, by omega, e⟩
    · exact ⟨2, 1, by omega, by omega, e⟩
  · have h2 := h 2 (by omega)
    have h3 := h 3 (by omega)
    have h4 := h 4 (by omega)
    have key : ∀ a b c d e : Fin 4, b = a ∨ c = a ∨ d = a ∨ e = a ∨ c = b ∨ d = b ∨ e = b ∨ d = c ∨ e = c ∨ e = d := by decide +kernel
    have K := key ⟨(s 0).toNat, by omega⟩ ⟨(s 1).toNat, by omega⟩ ⟨(s 2).toNat, by omega⟩ ⟨(s 3).toNat, by omega⟩ ⟨(s 4).toNat, by omega⟩
    simp only [Fin.mk.injEq] at K
    rcases K with e | e | e | e | e | e | e | e | e | e
    · exact ⟨0, 1, by omega, by omega, by show s 1 = s 0; omega⟩
    · exact ⟨0, 2, by omega, by omega, by show s 2 = s 0; omega⟩
    · exact ⟨0, 3, by omega, by omega, by show s 3 = s 0; omega⟩
    · exact ⟨0, 4, by omega, by omega, by show s 4 = s 0; omega⟩
    · exact ⟨1, 1, by omega, by omega, by show s 2 = s 1; omega⟩
    · exact ⟨1, 2, by omega, by omega, by show s 3 = s 1; omega⟩
    · exact ⟨1, 3, by omega, by omega, by show s 4 = s 1; omega⟩
    · exact ⟨2, 1, by omega, by omega, by show s 3 = s 2; omega⟩
    · exact ⟨2, 2, by omega, by omega, by show s 4 = s 2; omega⟩
    · exact ⟨3, 1, by omega, by omega, by show s 4 = s 3; omega⟩
theorem W_less {l : List Route} : ∀ (m d v : Nat), W l (m + d) v → W l m v
  | 0, _, _, _ => trivial
  | m + 1, d, v, h => by
    rw [show m + 1 + d = (m + d) + 1 by omega] at h
    obtain ⟨r, hr, e, h⟩ := h
    exact ⟨r, hr, e, W_less m d _ h⟩
theorem noBack_iff {l : List Route} {n : Nat} (hn : inR l n) (h4 : 1 ≤ n ∧ n ≤ 4) (hl : l.length ≤ 1000) : noBack l n = loopB l n := by
  have hin4 : inR l 4 := fun r hr => by have := hn r hr; omega
  have spec : noBack l n = true ↔ ∀ b m : Nat, b < n → m < n → ¬ Way l (b : Int) (m + 1) (b : Int) := by
    unfold noBack backAt
    simp only [Bool.not_eq_true', List.any_eq_false, List.mem_range]
    constructor
    · intro h b m hb hm hw
      have := h b hb
      rw [List.any_eq_true] at this
      exact this ⟨m, by simpa using hm, (inB_iff _ _).mpr ((fromS_iff hin4 _ _ _).mpr hw)⟩
    · intro h b hb ht
      rw [List.any_eq_true] at ht
      obtain ⟨m, hm, hi⟩ := ht
      exact h b m hb (by simpa using hm) ((fromS_iff hin4 _ _ _).mp ((inB_iff _ _).mp hi))
  rw [Bool.eq_iff_iff, spec]
  constructor
  · intro H
    unfold loopB
    have hm : n * l.length ≤ 4 * l.length := Nat.mul_le_mul_right _ h4.2
    have ht : ((n : Int)).toNat = n := by simp
    rw [ht]
    obtain ⟨B, hB, hi⟩ := sweeps_inv (l := l) n (fun _ => 0) 0 (inv0 l) (by omega)
    have hs : stable l (sweeps n (fun _ => 0) l) := by
      rcases sweeps_prog hin4 n 0 (fun _ => 0) 0 (inv0 l) (by omega) (fun m v hm _ => by omega) with h | h
      · exact h
      · intro r hr
        obtain ⟨b1, b2, b3⟩ := hi r.src.toNat
        have hw : W l (((sweeps n (fun _ => 0) l) r.src.toNat).toNat + 1) r.to.toNat := ⟨r, hr, rfl, b3⟩
        by_cases hc : ((sweeps n (fun _ => 0) l) r.src.toNat).toNat < n
        · have h2 := h _ _ (by omega) hw
          omega
        · exfalso
          have h5 := hn r hr
          have hw2 : W l n r.src.toNat := by
            rw [show ((sweeps n (fun _ => 0) l) r.src.toNat).toNat = n + (((sweeps n (fun _ => 0) l) r.src.toNat).toNat - n) by omega] at b3
            exact W_less n _ _ b3
          obtain ⟨s, hs1, hs2⟩ := walk_seq n r.src h5.1 hin4 hw2
          have hr4 : ∀ i, i ≤ n → 0 ≤ s i ∧ s i < n := by
            intro i hi2
            by_cases hin : i = n
            · rw [hin, hs1]; omega
            · obtain ⟨x, hx, e0, e1⟩ := hs2 i (by omega)
              have := hn x hx
              omega
          obtain ⟨i, d, hd1, hd2, he⟩ := pigeon n h4 s hr4
          have hway := seq_way hs2 i d hd2
          have hri := hr4 i (by omega)
          obtain ⟨d, rfl⟩ : ∃ j, d = j + 1 := ⟨d - 1, by omega⟩
          rw [he] at hway
          refine H (s i).toNat d (by omega) (by omega) ?_
          rw [show (((s i).toNat : Nat) : Int) = s i by omega]
          exact hway
    rw [sweep_still hi (by omega) l hs]
    exact same4_rfl _
  · intro h b m hb hm hw
    obtain ⟨p, hp⟩ := (loopB_iff hn h4.2 hl).mp h
    have := way_pot hp _ _ _ hw
    omega

theorem onL_on (l : List Route) (frm : List Int) : onL l frm = on l frm := rfl
theorem fromS_onN (l : List Route) (b : Int) : ∀ i, fromS l b i = onN l b i
  | 0 => rfl
  | i + 1 => by rw [fromS, onN, onL_on, fromS_onN l b i]
theorem backAt_backB (l : List Route) (b n : Nat) : backAt l b n = backB l b n := by
  unfold backAt backB
  congr 1
  funext i
  rw [fromS_onN]; rfl
theorem noBack_loop (l : List Route) (n : Nat) : noBack l n = (List.range n).all fun b : Nat => !backB l b n := by
  unfold noBack
  rw [← List.not_any_eq_all_not]
  simp only [backAt_backB]
end Go.Proofs.YtcpfkcipnkeokaaFw
