/-
  Counters as plain quadruples: what each printed function of layer 8 answers, by a fold of steps. Conditions: rows of an addressable length.
-/
import Derived.Test.YtlbhokkifdjlaaaPx4
import Derived.Test.YtlbhokkifdjlaaaOpens
import Derived.Test.YtlbhokkifdjlaaaOwn
namespace Go.Proofs.Ytlbhokkifdjlaaa.P
open Go.RowKit Go.Proofs.YtlbhokkifdjlaaaOwn Go.Proofs.YtlbhokkifdjlaaaW.PrintWords Go.Proofs.YtlbhokkifdjlaaaW.PrintLast Go.Proofs.YtlbhokkifdjlaaaW.PrintMore
set_option linter.unusedVariables false
set_option linter.unusedSimpArgs false

abbrev C4 := Int × Int × Int × Int
def stp (c : C4) (w : Int) : C4 := stepC c.1 c.2.1 c.2.2.1 c.2.2.2 w
def stps (c : C4) (l : List Int) : C4 := l.foldl stp c
def okC (c : C4) : Prop := rightC c.1 c.2.1 c.2.2.1 c.2.2.2 = true

theorem right_iff (t r s q : Int) : rightC t r s q = true ↔ (s = 3 ∧ t = 256 ∧ r = 0 ∧ 0 ≤ q ∧ q < 128) ∨ (0 ≤ t ∧ t < 256 ∧ 0 ≤ r ∧ r < 256 ∧ q = 0 ∧ ((127 < t ∨ 127 < r) ∧ s = 2 ∨ (t ≤ 127 ∧ r ≤ 127) ∧ s = 1)) := by
  unfold rightC stOf mx
  by_cases h : s = 3
  · rw [if_pos h]
    simp only [Bool.and_true, Bool.and_eq_true, beq_iff_eq, decide_eq_true_eq]
    constructor <;> intro h <;> omega
  · simp only [if_neg h, Bool.and_eq_true, beq_iff_eq, decide_eq_true_eq]
    by_cases h1 : t < r
    · by_cases h2 : r > 127
      · simp only [if_pos h1, if_pos h2]; omega
      · simp only [if_pos h1, if_neg h2]; omega
    · by_cases h2 : t > 127
      · simp only [if_neg h1, if_pos h2]; omega
      · simp only [if_neg h1, if_neg h2]; omega
theorem st_iff (t r s : Int) : stOf t r = s ↔ ((127 < t ∨ 127 < r) ∧ s = 2 ∨ (t ≤ 127 ∧ r ≤ 127) ∧ s = 1) := by
  unfold stOf mx
  repeat (first | omega | split)
theorem wr (x : Int) (h : -9223372036854775808 ≤ x ∧ x < 9223372036854775808) : wrap64 x = x := by unfold wrap64; omega

theorem steps_l0 : ∀ (k i : Nat) (l : List Int) (c : C4), l.length < 17592186044416 → i ≤ l.length → l.length - i < k → count_Steps.l0 k l (l.length : Int) (i : Int) c.1 c.2.1 c.2.2.1 c.2.2.2 = some (stps c (l.drop i))
  | 0, _, _, _, _, _, h => by omega
  | k + 1, i, l, c, hl, hi, h => by
    unfold count_Steps.l0
    by_cases e : i < l.length
    · rw [if_pos (by omega), if_pos (by omega), if_pos (by omega)]
      have hw : wrap64 ((i : Int) + 1) = ((i + 1 : Nat) : Int) := by rw [wr _ (by omega)]; omega
      have hr : rd l (i : Int) = l[i] := by unfold rd; simp [e]
      rw [hw, hr]
      simp only [count_Step.f, Option.bind]
      refine (steps_l0 k (i + 1) l (stp c l[i]) hl (by omega) (by omega)).trans ?_
      rw [List.drop_eq_getElem_cons e]
      rfl
    · rw [if_neg (by omega)]
      have : l.drop i = [] := by apply List.drop_eq_nil_of_le; omega
      rw [this]; rfl
theorem fSteps (k : Nat) (l : List Int) (t r s q : Int) (hl : l.length < 17592186044416) (hk : l.length < k) : count_Steps.f k t r s q l = some (stps (t, r, s, q) l) := by
  unfold count_Steps.f
  exact steps_l0 k 0 l (t, r, s, q) hl (by omega) (by omega)
theorem times_l0 : ∀ (k i n : Nat) (a : Int), n < 17592186044416 → i ≤ n → n - i < k → phaetonlaw08_times.l0 k a (n : Int) (List.replicate i a) (i : Int) = some (List.replicate n a)
  | 0, _, _, _, _, _, h => by omega
  | k + 1, i, n, a, hl, hi, h => by
    unfold phaetonlaw08_times.l0
    by_cases e : i < n
    · rw [if_pos (by omega), if_pos (by simp; omega)]
      have hw : wrap64 ((i : Int) + 1) = ((i + 1 : Nat) : Int) := by rw [wr _ (by omega)]; omega
      have hr : List.replicate i a ++ [a] = List.replicate (i + 1) a := by rw [List.replicate_succ']
      rw [hw, hr]
      exact times_l0 k (i + 1) n a hl (by omega) (by omega)
    · rw [if_neg (by omega)]
      have : i = n := by omega
      rw [this]
theorem fTimes (k n : Nat) (a : Int) (hn : n < 17592186044416) (hk : n < k) : phaetonlaw08_times.f k a (n : Int) = some (List.replicate n a) := by
  unfold phaetonlaw08_times.f
  exact times_l0 k 0 n a hn (by omega) (by omega)
theorem fTimesI (k : Nat) (x a : Int) (h0 : 0 ≤ x) (hn : x < 17592186044416) (hk : x < k) : phaetonlaw08_times.f k a x = some (List.replicate x.toNat a) := by
  have := fTimes k x.toNat a (by omega) (by omega)
  rwa [show ((x.toNat : Nat) : Int) = x by omega] at this

theorem head_true (k : Nat) (hk : 200 ≤ k) : phaetonlaw08_head.f k = some true := by
  have e1 : stps (0, 0, 1, 0) (List.replicate 32 3) = (256, 0, 3, 0) := by decide +kernel
  have e2 : stps (256, 0, 3, 0) (List.replicate 127 6) = (256, 0, 3, 127) := by decide +kernel
  have e3 : stps (0, 0, 1, 0) (List.replicate 16 3) = (128, 0, 2, 0) := by decide +kernel
  have t1 : phaetonlaw08_times.f k 3 32 = some (List.replicate 32 3) := fTimes k 32 3 (by omega) (by omega)
  have t2 : phaetonlaw08_times.f k 6 127 = some (List.replicate 127 6) := fTimes k 127 6 (by omega) (by omega)
  have t3 : phaetonlaw08_times.f k 3 16 = some (List.replicate 16 3) := fTimes k 16 3 (by omega) (by omega)
  have s1 := fSteps k (List.replicate 32 3) 0 0 1 0 (by simp) (by simp; omega)
  have s2 := fSteps k (List.replicate 127 6) 256 0 3 0 (by simp) (by simp; omega)
  have s3 := fSteps k (List.replicate 16 3) 0 0 1 0 (by simp) (by simp; omega)
  rw [e1] at s1
  rw [e2] at s2
  rw [e3] at s3
  have r1 : rightC 0 0 1 0 = true := by decide +kernel
  have r2 : rightC 0 0 0 0 = false := by decide +kernel
  have p1 : stepC 256 0 3 127 6 = (0, 0, 1, 0) := by decide +kernel
  have p2 : stepC 0 0 1 0 5 = (0, 8, 1, 0) := by decide +kernel
  unfold phaetonlaw08_head.f
  simp only [count_New.f, t1, t2, t3, Option.bind]
  simp only [s1, s2, s3, Option.bind, count_Right.f, r1, r2, count_Step.f, p1, p2]
  rfl

theorem step_ok (t r s q w : Int) (h : rightC t r s q = true) : okC (stepC t r s q w) := by
  rw [right_iff] at h
  unfold okC
  rw [right_iff]
  unfold stepC stepN
  by_cases h3 : s = 3
  · simp only [if_pos h3]
    have : wrap64 (q + 1) = q + 1 := wr _ (by omega)
    rw [this]
    repeat (first | omega | (dsimp only; omega) | split)
  · simp only [if_neg h3]
    have w1 : wrap64 (t - 1) = t - 1 := wr _ (by omega)
    have w2 : wrap64 (r - 1) = r - 1 := wr _ (by omega)
    have w3 : wrap64 (t + 8) = t + 8 := wr _ (by omega)
    have w4 : wrap64 (r + 1) = r + 1 := wr _ (by omega)
    have w5 : wrap64 (r + 8) = r + 8 := wr _ (by omega)
    rw [w1, w2, w3, w4, w5]
    generalize hA : (if w = 1 then (mx (t - 1) 0, r) else if w = 2 then (t, mn (mx (r - 1) 0) 127) else if w = 3 then (t + 8, r) else if w = 4 then (t, mn (r + 1) 255) else if w = 5 then (t, mn (r + 8) 255) else (t, r)) = A
    have hA2 : 0 ≤ A.1 ∧ 0 ≤ A.2 ∧ A.2 < 256 := by
      rw [← hA]
      unfold mx mn
      repeat (first | omega | (dsimp only; omega) | split)
    have hs := (st_iff A.1 A.2 _).mp rfl
    by_cases hx : A.1 > 255
    · rw [if_pos hx]; left; simp
    · rw [if_neg hx]; right; dsimp only; omega
theorem stp_ok (c : C4) (w : Int) (h : okC c) : okC (stp c w) := step_ok _ _ _ _ w h
theorem stps_ok : ∀ (l : List Int) (c : C4), okC c → okC (stps c l)
  | [], _, h => h
  | w :: l, c, h => stps_ok l (stp c w) (stp_ok c w h)

/-- What a counter that is not Off is after one step, without wrapping. -/
def mkC (t r : Int) : C4 := if t > 255 then (256, 0, 3, 0) else (t, r, stOf t r, 0)
theorem live_form (t r s q : Int) (h : rightC t r s q = true) (h3 : ¬ s = 3) : (t, r, s, q) = mkC t r ∧ 0 ≤ t ∧ t < 256 ∧ 0 ≤ r ∧ r < 256 ∧ q = 0 := by
  rw [right_iff] at h
  have hs := (st_iff t r _).mp rfl
  unfold mkC
  rw [if_neg (by omega)]
  have : s = stOf t r := by omega
  have : q = 0 := by omega
  subst this
  refine ⟨by rw [‹s = stOf t r›], ?_⟩
  omega
theorem st_ne (t r : Int) : ¬ stOf t r = 3 := by have hs := (st_iff t r _).mp rfl; omega
theorem mk_step (t r w : Int) (ht : 0 ≤ t ∧ t < 256) (hr : 0 ≤ r ∧ r < 256) : stp (mkC t r) w = if w = 1 then mkC (mx (t - 1) 0) r else if w = 2 then mkC t (mn (mx (r - 1) 0) 127) else if w = 3 then mkC (t + 8) r else if w = 4 then mkC t (mn (r + 1) 255) else if w = 5 then mkC t (mn (r + 8) 255) else mkC t r := by
  have w1 : wrap64 (t - 1) = t - 1 := wr _ (by omega)
  have w2 : wrap64 (r - 1) = r - 1 := wr _ (by omega)
  have w3 : wrap64 (t + 8) = t + 8 := wr _ (by omega)
  have w4 : wrap64 (r + 1) = r + 1 := wr _ (by omega)
  have w5 : wrap64 (r + 8) = r + 8 := wr _ (by omega)
  have e : mkC t r = (t, r, stOf t r, 0) := by unfold mkC; rw [if_neg (by omega)]
  rw [e]
  unfold stp stepC stepN
  dsimp only
  rw [if_neg (st_ne t r), w1, w2, w3, w4, w5]
  unfold mkC
  by_cases c1 : w = 1
  · simp only [if_pos c1]
  by_cases c2 : w = 2
  · simp only [if_neg c1, if_pos c2]
  by_cases c3 : w = 3
  · simp only [if_neg c1, if_neg c2, if_pos c3]
  by_cases c4 : w = 4
  · simp only [if_neg c1, if_neg c2, if_neg c3, if_pos c4]
  by_cases c5 : w = 5
  · simp only [if_neg c1, if_neg c2, if_neg c3, if_neg c4, if_pos c5]
  · simp only [if_neg c1, if_neg c2, if_neg c3, if_neg c4, if_neg c5]
    rw [if_neg (by omega)]
theorem sent_n : ∀ (n : Nat) (t r : Int), 0 ≤ t ∧ t < 256 → 0 ≤ r ∧ r < 256 → stps (mkC t r) (List.replicate n 1) = mkC (mx (t - n) 0) r
  | 0, t, r, ht, hr => by
    have : mx (t - (0 : Nat)) 0 = t := by unfold mx; split <;> omega
    rw [this]; rfl
  | n + 1, t, r, ht, hr => by
    rw [List.replicate_succ]
    show stps (stp (mkC t r) 1) _ = _
    rw [mk_step t r 1 ht hr, if_pos rfl]
    have b : 0 ≤ mx (t - 1) 0 ∧ mx (t - 1) 0 < 256 := by unfold mx; split <;> omega
    rw [sent_n n _ r b hr]
    have : mx (mx (t - 1) 0 - n) 0 = mx (t - (n + 1 : Nat)) 0 := by unfold mx; repeat (first | omega | split)
    rw [this]
theorem heard_n : ∀ (n : Nat) (t r : Int), 0 ≤ t ∧ t < 256 → 0 ≤ r ∧ r < 256 → ∃ r', stps (mkC t r) (List.replicate n 2) = mkC t r' ∧ 0 ≤ r' ∧ r' < 256 ∧ r' ≤ mx (r - n) 0
  | 0, t, r, ht, hr => ⟨r, rfl, hr.1, hr.2, by unfold mx; split <;> omega⟩
  | n + 1, t, r, ht, hr => by
    rw [List.replicate_succ]
    show ∃ r', stps (stp (mkC t r) 2) _ = _ ∧ _
    rw [mk_step t r 2 ht hr, if_neg (by omega), if_pos rfl]
    have b : 0 ≤ mn (mx (r - 1) 0) 127 ∧ mn (mx (r - 1) 0) 127 < 256 ∧ mn (mx (r - 1) 0) 127 ≤ mx (r - 1) 0 := by unfold mn mx; repeat (first | omega | split)
    obtain ⟨r', h1, h2, h3, h4⟩ := heard_n n t _ ht ⟨b.1, b.2.1⟩
    refine ⟨r', h1, h2, h3, ?_⟩
    have b3 := b.2.2
    unfold mx at h4 b3 ⊢
    generalize mn _ _ = y at *
    revert h4 b3
    repeat (first | (intros; omega) | split)
theorem bad_n : ∀ (n : Nat) (t r : Int), 0 ≤ t ∧ t < 256 → 0 ≤ r ∧ r < 256 → t + 8 * n < 256 → stps (mkC t r) (List.replicate n 3) = mkC (t + 8 * n) r
  | 0, t, r, ht, hr, _ => by
    have : t + 8 * ((0 : Nat) : Int) = t := by omega
    rw [this]; rfl
  | n + 1, t, r, ht, hr, hh => by
    rw [List.replicate_succ]
    show stps (stp (mkC t r) 3) _ = _
    rw [mk_step t r 3 ht hr, if_neg (by omega), if_neg (by omega), if_pos rfl]
    rw [bad_n n _ r (by omega) hr (by omega)]
    have : t + 8 + 8 * (n : Int) = t + 8 * (n + 1 : Nat) := by omega
    rw [this]
theorem stps_app (c : C4) (l m : List Int) : stps c (l ++ m) = stps (stps c l) m := by unfold stps; exact List.foldl_append ..

end Go.Proofs.Ytlbhokkifdjlaaa.P
