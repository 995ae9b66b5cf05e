/-
  What routes make of a frame, as plain rows: hops, hops of hops, and so on. Conditions: few routes, made right.
-/
import Derived.Test.YtpcabeefahldlaaPx8
import Derived.Test.YtpcabeefahldlaaGMade
import Derived.Test.YtpcabeefahldlaaCut
namespace Go.Proofs.Ytpcabeefahldlaa.P
open Go.RowKit Go.Proofs.YtpcabeefahldlaaOwn Go.Proofs.YtpcabeefahldlaaW.PrintWords Go.Proofs.YtpcabeefahldlaaW.PrintLast Go.Proofs.YtpcabeefahldlaaW.PrintMore
set_option linter.unusedVariables false
set_option linter.unusedSimpArgs false

theorem rd38 (l : List S38) (i : Nat) (h : i < l.length) : rd_T38 l (i : Int) = l[i] := by simp [rd_T38, List.getD_eq_getElem?_getD, List.getElem?_eq_getElem h]
theorem rdI (l : List Int) (i : Nat) (h : i < l.length) : rd l (i : Int) = l[i] := by simp [rd, List.getD_eq_getElem?_getD, List.getElem?_eq_getElem h]

/-- Does a filter take a frame; where does a route lead it? -/
def takesR (t : S43) (f : S25) : Bool := f.f0 == t.f0 && (Go.bits .and .i64 f.f1 t.f1 == t.f2)
def hopF (f : S25) (r : S45) : S38 := ⟨r.f1, ⟨f.f0, if r.f3 = -1 then f.f1 else r.f3, f.f2, f.f3, f.f4⟩⟩
def goes (bus : Int) (f : S25) (r : S45) : Bool := r.f0 == bus && takesR r.f2 f
def hopsL (l : List S45) (bus : Int) (f : S25) : List S38 := (l.filter (goes bus f)).map (hopF f)
theorem hopsL_len (l : List S45) (bus : Int) (f : S25) : (hopsL l bus f).length ≤ l.length := by
  unfold hopsL; rw [List.length_map]; exact List.length_filter_le _ _
theorem hopsL_cons (r : S45) (l : List S45) (bus : Int) (f : S25) : hopsL (r :: l) bus f = if goes bus f r = true then hopF f r :: hopsL l bus f else hopsL l bus f := by
  unfold hopsL; rw [List.filter_cons]; split <;> simp
theorem fTakes (t : S43) (f : S25) : filter_Takes.f t.f0 t.f1 t.f2 f.f0 f.f1 f.f2 f.f3 f.f4 = some (takesR t f) := rfl
theorem hops_l0 (l : List S45) (bus : Int) (f : S25) (hl : l.length < 9223372036854775807) : ∀ (k i : Nat) (out : List S38), i ≤ l.length → out.length + (l.length - i) < 1000000 → 2 * (l.length - i) < k → route_Hops.l0 k bus out l (l.length : Int) (i : Int) f.f0 f.f1 f.f2 f.f3 f.f4 = some (out ++ hopsL (l.drop i) bus f)
  | 0, _, _, _, _, h => by omega
  | k + 1, i, out, hi, ho, h => by
    unfold route_Hops.l0
    by_cases e : i < l.length
    · obtain ⟨k, rfl⟩ : ∃ j, k = j + 1 := ⟨k - 1, by omega⟩
      rw [if_pos (by omega), if_pos (by omega), if_pos (by omega), rd45 l i e, List.drop_eq_getElem_cons e, hopsL_cons]
      have IH := fun o => hops_l0 l bus f hl k (i + 1) o (by omega)
      generalize l[i] = r at *
      have J : ∀ b : Bool, b = goes bus f r → route_Hops.j1 (k + 1) bus out l (l.length : Int) (i : Int) (!b) f.f0 f.f1 f.f2 f.f3 f.f4 r.f0 r.f1 r.f2.f0 r.f2.f1 r.f2.f2 r.f3 = some (out ++ if goes bus f r = true then hopF f r :: hopsL (l.drop (i + 1)) bus f else hopsL (l.drop (i + 1)) bus f) := by
        intro b hb
        rw [← hb]
        unfold route_Hops.j1
        rw [wr1 i (by omega)]
        cases b with
        | false => simp only [Bool.not_false, if_true, Bool.false_eq_true, if_false]; exact IH out (by omega) (by omega)
        | true =>
          simp only [Bool.not_true, Bool.false_eq_true, if_false, if_true]
          have hx : ∀ y : S38, y = hopF f r → route_Hops.l0 k bus (out ++ [y]) l (l.length : Int) ((i + 1 : Nat) : Int) f.f0 f.f1 f.f2 f.f3 f.f4 = some (out ++ hopF f r :: hopsL (l.drop (i + 1)) bus f) := by
            intro y hy
            rw [hy, IH (out ++ [hopF f r]) (by simp; omega) (by omega)]
            simp
          by_cases hn : r.f3 = -1
          · rw [if_pos hn, if_pos (by omega)]; exact hx _ (by simp [hopF, hn])
          · rw [if_neg hn, if_pos (by omega)]; exact hx _ (by simp [hopF, hn])
      by_cases hb : r.f0 = bus
      · rw [if_pos hb, fTakes, Option.bind_some]
        exact J (takesR r.f2 f) (by simp [goes, hb])
      · rw [if_neg hb]
        exact J false (by simp [goes, hb])
    · rw [if_neg (by omega)]
      have : l.drop i = [] := by apply List.drop_eq_nil_of_le; omega
      rw [this]; simp [hopsL]
theorem fHops (k : Nat) (l : List S45) (bus : Int) (f : S25) (hl : l.length < 1000000) (hk : 2 * l.length < k) : route_Hops.f k l bus f.f0 f.f1 f.f2 f.f3 f.f4 = some (hopsL l bus f) := by
  unfold route_Hops.f
  have := hops_l0 l bus f (by omega) k 0 [] (by omega) (by simp; omega) (by omega)
  simpa using this

/-- Hops of hops. -/
def nextL (l : List S45) (lev : List S38) : List S38 := lev.flatMap (fun h => hopsL l h.f0 h.f1)
theorem nextL_len (l : List S45) : ∀ lev : List S38, (nextL l lev).length ≤ l.length * lev.length
  | [] => by simp [nextL]
  | h :: lev => by
    have h1 := nextL_len l lev
    have h2 := hopsL_len l h.f0 h.f1
    have e : nextL l (h :: lev) = hopsL l h.f0 h.f1 ++ nextL l lev := rfl
    rw [e, List.length_append, List.length_cons, Nat.mul_succ]
    omega
theorem nextL_append (l : List S45) (a b : List S38) : nextL l (a ++ b) = nextL l a ++ nextL l b := by simp [nextL]
theorem nextL_cons (l : List S45) (h : S38) (lev : List S38) : nextL l (h :: lev) = hopsL l h.f0 h.f1 ++ nextL l lev := rfl
theorem next_l0 (l : List S45) (lev : List S38) (hl : l.length < 1000) (hv : lev.length < 1000000) : ∀ (k i : Nat) (out : List S38), i ≤ lev.length → out.length + l.length * (lev.length - i) < 1000000000 → (lev.length - i) + 2 * l.length + 1 < k → route_ReachNext.l0 k l out lev (lev.length : Int) (i : Int) = some (out ++ nextL l (lev.drop i))
  | 0, _, _, _, _, h => by omega
  | k + 1, i, out, hi, ho, h => by
    unfold route_ReachNext.l0
    by_cases e : i < lev.length
    · rw [if_pos (by omega), if_pos (by omega), if_pos (by omega), rd38 lev i e, fHops _ _ _ _ (by omega) (by omega), Option.bind_some]
      have h2 := hopsL_len l lev[i].f0 lev[i].f1
      have hm : l.length * (lev.length - i) = l.length * (lev.length - (i + 1)) + l.length := by rw [show lev.length - i = (lev.length - (i + 1)) + 1 by omega, Nat.mul_succ]
      rw [if_pos (by omega), wr1 i (by omega), next_l0 l lev hl hv k (i + 1) _ (by omega) (by rw [List.length_append]; omega) (by omega), List.drop_eq_getElem_cons e, nextL_cons, List.append_assoc]
    · rw [if_neg (by omega)]
      have : lev.drop i = [] := by apply List.drop_eq_nil_of_le; omega
      rw [this]; simp [nextL]
theorem fNext (k : Nat) (l : List S45) (lev : List S38) (hl : l.length < 1000) (hv : lev.length < 1000000) (hk : lev.length + 2 * l.length + 1 < k) : route_ReachNext.f k lev l = some (nextL l lev) := by
  unfold route_ReachNext.f
  have hm : l.length * lev.length < 1000000000 := Nat.lt_of_le_of_lt (Nat.mul_le_mul_right _ (by omega : l.length ≤ 1000)) (by omega)
  have := next_l0 l lev hl hv k 0 [] (by omega) (by simpa using hm) (by omega)
  simpa using this
/-- So many levels, one behind the other. -/
def levels (l : List S45) : Nat → List S38 → List S38
  | 0, _ => []
  | n + 1, lev => lev ++ levels l n (nextL l lev)
/-- The level behind so many. -/
def lev (l : List S45) : Nat → List S38 → List S38
  | 0, v => v
  | n + 1, v => lev l n (nextL l v)
theorem levels_nil (l : List S45) : ∀ n, levels l n [] = []
  | 0 => rfl
  | n + 1 => by rw [levels]; exact levels_nil l n
theorem levels_add (l : List S45) : ∀ (a b : Nat) (v : List S38), levels l (a + b) v = levels l a v ++ levels l b (lev l a v)
  | 0, b, v => by simp [levels, lev]
  | a + 1, b, v => by rw [show a + 1 + b = (a + b) + 1 by omega]; simp [levels, lev, levels_add l a b]
theorem reach_l0 (l : List S45) (hl : l.length ≤ 10) : ∀ (n k : Nat) (out v : List S38), lev l n v = [] → v.length * 10 ^ n ≤ 100000 → out.length + n * 100000 < 100000000 → n + 100100 < k → route_Reach.l0 k out v l = some (out ++ levels l n v)
  | 0, k, out, v, hv, _, _, hk => by
    obtain ⟨k, rfl⟩ : ∃ j, k = j + 1 := ⟨k - 1, by omega⟩
    obtain rfl : v = [] := hv
    unfold route_Reach.l0
    rw [if_neg (by simp)]; simp [levels]
  | n + 1, k, out, v, hv, h1, h2, hk => by
    obtain ⟨k, rfl⟩ : ∃ j, k = j + 1 := ⟨k - 1, by omega⟩
    unfold route_Reach.l0
    have hp : 1 ≤ 10 ^ (n + 1) := Nat.one_le_pow _ _ (by omega)
    have hv1 : v.length ≤ v.length * 10 ^ (n + 1) := Nat.le_mul_of_pos_right _ hp
    by_cases e : v.length = 0
    · obtain rfl : v = [] := List.eq_nil_of_length_eq_zero e
      rw [if_neg (by simp), levels_nil]; simp
    · rw [if_pos (by omega), if_pos (by omega), fNext _ _ _ (by omega) (by omega) (by omega), Option.bind_some]
      have h3 := nextL_len l v
      have h4 : l.length * v.length ≤ 10 * v.length := Nat.mul_le_mul_right _ hl
      have h5 : (nextL l v).length * 10 ^ n ≤ 100000 := by
        refine Nat.le_trans (Nat.mul_le_mul_right _ (Nat.le_trans h3 h4)) ?_
        rw [Nat.pow_succ] at h1
        have : 10 * v.length * 10 ^ n = v.length * (10 ^ n * 10) := by rw [Nat.mul_comm 10, Nat.mul_assoc, Nat.mul_comm 10]
        omega
      rw [reach_l0 l hl n k _ _ hv h5 (by rw [List.length_append]; omega) (by omega), levels]
      simp
/-- Where a potential of the buses ends, the levels end. -/
theorem lev_up {l : List S45} {p : Nat → Int} (hp : pot l p) (hr : inR l 4) {v : List S38} {d : Int} (hv : ∀ h ∈ v, d ≤ p h.f0.toNat) : ∀ h ∈ nextL l v, d + 1 ≤ p h.f0.toNat ∧ 0 ≤ h.f0 ∧ h.f0 < 4 := by
  intro h hh
  unfold nextL at hh
  obtain ⟨x, hx, hh⟩ := List.mem_flatMap.mp hh
  unfold hopsL at hh
  obtain ⟨r, hrm, rfl⟩ := List.mem_map.mp hh
  obtain ⟨hrm, hg⟩ := List.mem_filter.mp hrm
  have h1 := hp r hrm
  have h2 := hv x hx
  have h3 := hr r hrm
  unfold goes at hg
  simp only [Bool.and_eq_true, beq_iff_eq] at hg
  rw [hg.1] at h1
  show d + 1 ≤ p r.f1.toNat ∧ 0 ≤ r.f1 ∧ r.f1 < 4
  omega
theorem hops_up {l : List S45} {p : Nat → Int} (hp : pot l p) (hr : inR l 4) (bus : Int) (f : S25) : ∀ h ∈ hopsL l bus f, p bus.toNat + 1 ≤ p h.f0.toNat ∧ 0 ≤ h.f0 ∧ h.f0 < 4 := by
  intro h hh
  unfold hopsL at hh
  obtain ⟨r, hrm, rfl⟩ := List.mem_map.mp hh
  obtain ⟨hrm, hg⟩ := List.mem_filter.mp hrm
  have h1 := hp r hrm
  have h3 := hr r hrm
  unfold goes at hg
  simp only [Bool.and_eq_true, beq_iff_eq] at hg
  rw [hg.1] at h1
  show p bus.toNat + 1 ≤ p r.f1.toNat ∧ 0 ≤ r.f1 ∧ r.f1 < 4
  omega
theorem lev_end {l : List S45} {p : Nat → Int} (hp : pot l p) (hr : inR l 4) (h3 : ∀ v : Nat, v < 4 → p v ≤ 3) : ∀ (n : Nat) (v : List S38), (∀ h ∈ v, 4 - (n : Int) ≤ p h.f0.toNat ∧ 0 ≤ h.f0 ∧ h.f0 < 4) → lev l n v = []
  | 0, v, hv => by
    cases v with
    | nil => rfl
    | cons h v => have h1 := hv h List.mem_cons_self; have h2 := h3 h.f0.toNat (by omega); omega
  | n + 1, v, hv => lev_end hp hr h3 n _ (fun h hh => by
      have := lev_up hp hr (d := 4 - ((n + 1 : Nat) : Int)) (fun x hx => (hv x hx).1) h hh
      omega)
/-- A rank that is 3 at most. -/
theorem rank3 {l : List S45} {p : Nat → Int} (hp : pot l p) (hr : inR l 4) : ∃ q : Nat → Int, pot l q ∧ (∀ v, 0 ≤ q v) ∧ ∀ v : Nat, v < 4 → q v ≤ 3 := by
  refine ⟨rank p 4, fun r hrm => ?_, fun v => (rank_le p 4 v (by omega)).1, fun v hv => ?_⟩
  · have := hr r hrm
    exact rank_lt (by omega) (by omega) (hp r hrm)
  · have b0 := ind_01 (0 < 4 ∧ p 0 < p v)
    have b1 := ind_01 (1 < 4 ∧ p 1 < p v)
    have b2 := ind_01 (2 < 4 ∧ p 2 < p v)
    have b3 := ind_01 (3 < 4 ∧ p 3 < p v)
    have z : ind (v < 4 ∧ p v < p v) = 0 := by unfold ind; rw [if_neg (by omega)]
    unfold rank
    rcases (show v = 0 ∨ v = 1 ∨ v = 2 ∨ v = 3 by omega) with rfl | rfl | rfl | rfl <;> omega
theorem fReach (k : Nat) (l : List S45) (bus : Int) (f : S25) (hl : l.length ≤ 10) (hr : inR l 4) (hk : 200000 ≤ k) : route_Reach.f k l 4 bus f.f0 f.f1 f.f2 f.f3 f.f4 = some (if (rightL l 4 && loopB l 4) = true then levels l 4 (hopsL l bus f) else []) := by
  unfold route_Reach.f
  rw [fLoop _ _ _ (by omega), Option.bind_some]
  by_cases h : (rightL l 4 && loopB l 4) = true
  · rw [if_pos h, if_pos h, fHops _ _ _ _ (by omega) (by omega), Option.bind_some]
    have hL : loopB l ((4 : Nat) : Int) = true := by simp only [Bool.and_eq_true] at h; exact h.2
    obtain ⟨p, hp⟩ := (loopB_iff (n := 4) hr (by omega) (by omega)).mp hL
    obtain ⟨q, hq, q0, q3⟩ := rank3 hp hr
    have hlen := hopsL_len l bus f
    have hend : lev l 4 (hopsL l bus f) = [] := lev_end hq hr q3 4 _ (fun x hx => by
      have := hops_up hq hr bus f x hx
      have := q0 bus.toNat
      omega)
    have := reach_l0 l hl 4 k [] _ hend (by omega) (by simp) (by omega)
    simpa using this
  · rw [if_neg h, if_neg h]
theorem levels_len (l : List S45) (hl : l.length ≤ 10) : ∀ (n : Nat) (v : List S38), v.length * 10 ^ n ≤ 100000 → (levels l n v).length ≤ n * 100000
  | 0, v, _ => by simp [levels]
  | n + 1, v, h => by
    have hp : 1 ≤ 10 ^ (n + 1) := Nat.one_le_pow _ _ (by omega)
    have hv1 : v.length ≤ v.length * 10 ^ (n + 1) := Nat.le_mul_of_pos_right _ hp
    have h3 := nextL_len l v
    have h4 : l.length * v.length ≤ 10 * v.length := Nat.mul_le_mul_right _ hl
    have h5 : (nextL l v).length * 10 ^ n ≤ 100000 := by
      refine Nat.le_trans (Nat.mul_le_mul_right _ (Nat.le_trans h3 h4)) ?_
      rw [Nat.pow_succ] at h
      have : 10 * v.length * 10 ^ n = v.length * (10 ^ n * 10) := by rw [Nat.mul_comm 10, Nat.mul_assoc, Nat.mul_comm 10]
      omega
    have := levels_len l hl n _ h5
    rw [levels, List.length_append]
    omega
/-- A frame made right. -/
theorem made_some (e : Bool) (i : Int) (r : Bool) (n : Int) (l : List Int) (hl : l.length < 9223372036854775807) : ∃ x : S25, phaetonref06_Made.f e i r n l = some (x.f0, x.f1, x.f2, x.f3, x.f4) := ⟨⟨_, _, _, _, _⟩, rfl⟩
end Go.Proofs.Ytpcabeefahldlaa.P
