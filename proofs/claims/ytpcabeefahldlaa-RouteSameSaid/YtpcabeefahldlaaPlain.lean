/-
  Routes as plain rows: what each printed function of layer 12 answers: Right, Cut, the head. Conditions: rows of an addressable length, whole numbers of 64 bits.
-/
import Derived.Test.YtpcabeefahldlaaPx9
import Derived.Test.YtpcabeefahldlaaPx11
import Derived.Test.YtpcabeefahldlaaPx3
import Derived.Test.YtpcabeefahldlaaOpens
import Derived.Test.YtpcabeefahldlaaOwn
import Derived.Test.YtpcabeefahldlaaBits
namespace Go.Proofs.Ytpcabeefahldlaa.P
open Go.RowKit Go.Proofs.YtpcabeefahldlaaOwn Go.Proofs.YtpcabeefahldlaaW.PrintWords Go.Proofs.YtpcabeefahldlaaW.PrintLast Go.Proofs.YtpcabeefahldlaaW.PrintMore
set_option linter.unusedVariables false
set_option linter.unusedSimpArgs false

theorem head60 : phaetonlaw12_head.f 60 = some true := by decide +kernel
theorem head_true : ∀ k, 60 ≤ k → phaetonlaw12_head.f k = some true
  | 0, h => by omega
  | k + 1, h => by
    by_cases e : k + 1 = 60
    · rw [e]; exact head60
    · exact phaetonlaw12_head.mono k _ (head_true k (by omega))

theorem wr (x : Int) (h : -9223372036854775808 ≤ x ∧ x < 9223372036854775808) : wrap64 x = x := by unfold wrap64; omega
theorem wr1 (i : Nat) (h : i < 9223372036854775807) : wrap64 ((i : Int) + 1) = ((i + 1 : Nat) : Int) := by rw [wr _ (by omega)]; omega
theorem rd45 (l : List S45) (i : Nat) (h : i < l.length) : rd_T45 l (i : Int) = l[i] := by simp [rd_T45, List.getD_eq_getElem?_getD, List.getElem?_eq_getElem h]

/-- May one filter be so; may one route? -/
def filtR (t : S43) : Bool := (decide (t.f1 / (if t.f0 = true then 536870912 else 2048) = 0)) && (Go.bits .andNot .i64 t.f2 t.f1 == 0)
def idR (e : Bool) (n : Int) : Bool := n == -1 || (decide (0 ≤ n) && decide (n < (if e = true then 536870912 else 2048)))
def rightR (n : Int) (r : S45) : Bool := decide (0 ≤ r.f0) && decide (r.f0 < n) && decide (0 ≤ r.f1) && decide (r.f1 < n) && !(r.f0 == r.f1) && filtR r.f2 && idR r.f2.f0 r.f3
def rightL (l : List S45) (n : Int) : Bool := decide (1 ≤ n) && decide (n ≤ 4) && decide (l.length ≤ 16) && l.all (rightR n)

theorem fFilt (e : Bool) (K M : Int) : filter_Right.f e K M = some (filtR ⟨e, K, M⟩) := by
  unfold filter_Right.f filtR
  cases e
  · simp only [Bool.false_eq_true, if_false]
    by_cases h : K / 2048 = 0
    · rw [if_pos h, decide_eq_true h]; simp
    · rw [if_neg h, decide_eq_false h]; simp
  · simp only [if_true]
    by_cases h : K / 536870912 = 0
    · rw [if_pos h, decide_eq_true h]; simp
    · rw [if_neg h, decide_eq_false h]; simp
theorem fId (a b : Int) (e : Bool) (c d n : Int) : route_identifier.f a b e c d n = some (idR e n) := by
  unfold route_identifier.f idR
  cases e
  · simp only [Bool.false_eq_true, if_false]
    by_cases h : n = -1
    · rw [if_pos h, h]; simp
    · by_cases h2 : n ≥ 0
      · rw [if_neg h, if_pos h2, decide_eq_true (show 0 ≤ n from h2)]; simp [h]
      · rw [if_neg h, if_neg h2, decide_eq_false (show ¬ 0 ≤ n from h2)]; simp [h]
  · simp only [if_true]
    by_cases h : n = -1
    · rw [if_pos h, h]; simp
    · by_cases h2 : n ≥ 0
      · rw [if_neg h, if_pos h2, decide_eq_true (show 0 ≤ n from h2)]; simp [h]
      · rw [if_neg h, if_neg h2, decide_eq_false (show ¬ 0 ≤ n from h2)]; simp [h]
theorem right_l (l : List S45) (n : Int) (hl : l.length < 9223372036854775807) : ∀ (k i : Nat), i ≤ l.length → l.length - i < k → route_Right.l0 k n l (l.length : Int) (i : Int) = some ((l.drop i).all (rightR n))
  | 0, _, _, h => by omega
  | k + 1, i, hi, h => by
    unfold route_Right.l0
    by_cases e : i < l.length
    · rw [if_pos (by omega), if_pos (by omega), if_pos (by omega), rd45 l i e, wr1 i (by omega), right_l l n hl k (i + 1) (by omega) (by omega), List.drop_eq_getElem_cons e, List.all_cons, fFilt, fId]
      generalize (List.drop (i + 1) l).all (rightR n) = A
      generalize l[i] = r
      simp only [Option.bind_some]
      unfold rightR
      by_cases h1 : r.f0 < 0
      · rw [if_pos h1, decide_eq_false (by omega : ¬ 0 ≤ r.f0)]; simp
      rw [if_neg h1, decide_eq_true (by omega : 0 ≤ r.f0)]
      by_cases h2 : r.f0 ≥ n
      · rw [if_pos h2, decide_eq_false (by omega : ¬ r.f0 < n)]; simp
      rw [if_neg h2, decide_eq_true (by omega : r.f0 < n)]
      by_cases h3 : r.f1 < 0
      · rw [if_pos h3, decide_eq_false (by omega : ¬ 0 ≤ r.f1)]; simp
      rw [if_neg h3, decide_eq_true (by omega : 0 ≤ r.f1)]
      by_cases h4 : r.f1 ≥ n
      · rw [if_pos h4, decide_eq_false (by omega : ¬ r.f1 < n)]; simp
      rw [if_neg h4, decide_eq_true (by omega : r.f1 < n)]
      by_cases h5 : r.f0 = r.f1
      · rw [if_pos h5, h5]; simp
      rw [if_neg h5, beq_eq_false_iff_ne.mpr h5]
      cases filtR r.f2 <;> cases idR r.f2.f0 r.f3 <;> simp
    · rw [if_neg (by omega)]
      have : l.drop i = [] := by apply List.drop_eq_nil_of_le; omega
      rw [this]; rfl
theorem fRight (k : Nat) (l : List S45) (n : Int) (hk : 20 ≤ k) : route_Right.f k l n = some (rightL l n) := by
  obtain ⟨k, rfl⟩ : ∃ j, k = j + 1 := ⟨k - 1, by omega⟩
  unfold route_Right.f rightL
  by_cases h1 : n < 1
  · rw [if_pos h1, route_Right.j0, if_pos rfl, decide_eq_false (by omega : ¬ 1 ≤ n)]; simp
  · by_cases h2 : n > 4
    · rw [if_neg h1, if_pos h2, route_Right.j0, if_pos rfl, decide_eq_false (by omega : ¬ n ≤ 4)]; simp
    · rw [if_neg h1, if_neg h2, route_Right.j0, decide_eq_true (by omega : 1 ≤ n), decide_eq_true (by omega : n ≤ 4)]
      by_cases h3 : (l.length : Int) > 16
      · rw [decide_eq_true h3, if_pos rfl, decide_eq_false (by omega : ¬ l.length ≤ 16)]; simp
      · rw [decide_eq_false h3, if_neg (by decide), decide_eq_true (by omega : l.length ≤ 16)]
        have := right_l l n (by omega) k 0 (by omega) (by omega)
        exact this.trans (by simp)

/-- A route made right. -/
def topR (e : Bool) : Int := if e = true then 536870911 else 2047
def cutR (r : S45) : S45 := ⟨Go.bits .and .i64 r.f0 3, Go.bits .and .i64 r.f1 3, ⟨r.f2.f0, Go.bits .and .i64 r.f2.f1 (topR r.f2.f0), Go.bits .and .i64 r.f2.f2 (Go.bits .and .i64 r.f2.f1 (topR r.f2.f0))⟩, mx (-1) (mn r.f3 (topR r.f2.f0))⟩
def apartR (r : S45) : Bool := !(r.f0 == r.f1)
def cutL (l : List S45) : List S45 := (l.map cutR).filter apartR
theorem cut_l0 (l : List S45) (m : Nat) (hm : m < 1000) (hl : l.length < 9223372036854775807) : ∀ (k i : Nat) (out : List S45), i ≤ l.length → i ≤ m → out.length ≤ i → 2 * (m - i) + 1 < k → phaetonlaw12_Cut.l0 k l (m : Int) out (i : Int) = some (out ++ cutL ((l.take m).drop i))
  | 0, _, _, _, _, _, h => by omega
  | 1, _, _, _, _, _, h => by omega
  | k + 2, i, out, hi, him, ho, h => by
    unfold phaetonlaw12_Cut.l0
    by_cases e : i < l.length
    · rw [if_pos (by omega)]
      unfold phaetonlaw12_Cut.j1
      by_cases c : (i : Int) < (m : Int)
      · rw [decide_eq_true c, if_pos rfl, if_pos (by omega), if_pos (by omega), rd45 l i e, wr1 i (by omega)]
        have hd : (l.take m).drop i = l[i] :: (l.take m).drop (i + 1) := by
          rw [List.drop_eq_getElem_cons (by rw [List.length_take]; omega)]
          simp
        rw [hd]
        have IH := fun o => cut_l0 l m hm hl k (i + 1) o (by omega) (by omega)
        generalize l[i] = r at *
        have hc : ∀ x xs, cutL (x :: xs) = if apartR (cutR x) = true then cutR x :: cutL xs else cutL xs := by
          intro x xs; unfold cutL; rw [List.map_cons, List.filter_cons]
        rw [hc]
        by_cases eq : Go.bits .and .i64 r.f0 3 = Go.bits .and .i64 r.f1 3
        · have ha : ¬ apartR (cutR r) = true := by simp [apartR, cutR, eq]
          rw [if_neg ha]
          have I := IH out (by omega) (by omega)
          split
          · first | exact I | rw [if_pos eq, I]
          · first | exact I | rw [if_pos eq, I]
        · have ha : apartR (cutR r) = true := by simp [apartR, cutR, eq]
          rw [if_pos ha]
          have I := IH (out ++ [cutR r]) (by simp; omega) (by omega)
          split
          · rename_i he
            have hx : cutR r = ⟨Go.bits .and .i64 r.f0 3, Go.bits .and .i64 r.f1 3, ⟨r.f2.f0, Go.bits .and .i64 r.f2.f1 536870911, Go.bits .and .i64 r.f2.f2 (Go.bits .and .i64 r.f2.f1 536870911)⟩, mx (-1) (mn r.f3 536870911)⟩ := by simp [cutR, topR, he]
            (try rw [if_neg eq]); rw [if_pos (by omega), ← hx, I]; simp
          · rename_i he
            have hx : cutR r = ⟨Go.bits .and .i64 r.f0 3, Go.bits .and .i64 r.f1 3, ⟨r.f2.f0, Go.bits .and .i64 r.f2.f1 2047, Go.bits .and .i64 r.f2.f2 (Go.bits .and .i64 r.f2.f1 2047)⟩, mx (-1) (mn r.f3 2047)⟩ := by simp [cutR, topR, he]
            (try rw [if_neg eq]); rw [if_pos (by omega), ← hx, I]; simp
      · rw [decide_eq_false c, if_neg (by decide)]
        have : (l.take m).drop i = [] := by apply List.drop_eq_nil_of_le; rw [List.length_take]; omega
        rw [this]; simp [cutL]
    · rw [if_neg (by omega)]
      unfold phaetonlaw12_Cut.j1
      rw [if_neg (by decide)]
      have : (l.take m).drop i = [] := by apply List.drop_eq_nil_of_le; rw [List.length_take]; omega
      rw [this]; simp [cutL]
theorem fCut (k m : Nat) (l : List S45) (hm : m < 1000) (hl : l.length < 9223372036854775807) (hk : 2 * m + 2 ≤ k) : phaetonlaw12_Cut.f k l (m : Int) = some (cutL (l.take m)) := by
  unfold phaetonlaw12_Cut.f
  have := cut_l0 l m hm hl k 0 [] (by omega) (by omega) (by simp) (by omega)
  simpa using this

end Go.Proofs.Ytpcabeefahldlaa.P
