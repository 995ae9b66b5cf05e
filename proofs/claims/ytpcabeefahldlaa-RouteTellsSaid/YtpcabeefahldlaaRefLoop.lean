/-
  The document's Right and Loopless of routes beside the program's: they are alike. Conditions: whole numbers of 64 bits, few routes.
-/
import Derived.Test.YtpcabeefahldlaaPx14
import Derived.Test.YtpcabeefahldlaaHop
namespace Go.Proofs.Ytpcabeefahldlaa.P
open Go.RowKit Go.Proofs.YtpcabeefahldlaaOwn Go.Proofs.YtpcabeefahldlaaW.PrintWords Go.Proofs.YtpcabeefahldlaaW.PrintLast Go.Proofs.YtpcabeefahldlaaW.PrintMore
set_option linter.unusedVariables false
set_option linter.unusedSimpArgs false

theorem sub_iff (A B : BitVec 64) : (A &&& ~~~B = 0#64) ↔ (A &&& B = A) := by
  constructor
  · intro h
    ext i hi
    have := congrArg (fun x => x.getLsbD i) h
    simp at this ⊢
    cases ha : A.getLsbD i <;> cases hb : B.getLsbD i <;> simp_all
  · intro h
    ext i hi
    have := congrArg (fun x => x.getLsbD i) h
    simp at this ⊢
    cases ha : A.getLsbD i <;> cases hb : B.getLsbD i <;> simp_all
theorem fRFilt (e : Bool) {K M : Int} (hK : (Lit.int .i64 K).wf = true) (hM : (Lit.int .i64 M).wf = true) : phaetonref07_Right.f e K M = some (filtR ⟨e, K, M⟩) := by
  obtain ⟨K, rfl⟩ := toInt_of_wf hK
  obtain ⟨M, rfl⟩ := toInt_of_wf hM
  unfold phaetonref07_Right.f filtR
  rw [and_toInt, andNot_toInt, toInt_beq]
  have hz : (((M &&& ~~~K).toInt == 0) : Bool) = (M &&& K == M) := by
    rw [zero_toInt, toInt_beq, Bool.eq_iff_iff, beq_iff_eq, beq_iff_eq]; exact sub_iff M K
  rw [hz]
  have R : ∀ w : Nat, w < 63 → M &&& K = M → 0 ≤ K.toInt → K.toInt < 2 ^ w → 0 ≤ M.toInt ∧ M.toInt < 2 ^ w := by
    intro w hw hM h0 h1
    apply and_range hw
    have := range_and hw h0 h1
    rw [← hM, BitVec.and_assoc, this]
  cases e
  · simp only [Bool.false_eq_true, if_false]
    by_cases h : 0 ≤ K.toInt ∧ K.toInt < 2048
    · rw [if_pos h.1, if_pos h.2, decide_eq_true (by omega : K.toInt / 2048 = 0), Bool.true_and]
      by_cases hm : M &&& K = M
      · have := R 11 (by omega) hm h.1 h.2
        rw [if_pos this.1, if_pos (by omega)]
      · rw [beq_eq_false_iff_ne.mpr hm]
        split
        · split <;> rfl
        · rfl
    · rw [decide_eq_false (by omega : ¬ K.toInt / 2048 = 0), Bool.false_and]
      by_cases h0 : K.toInt ≥ 0
      · rw [if_pos h0, if_neg (by omega)]
      · rw [if_neg h0]
  · simp only [if_true]
    by_cases h : 0 ≤ K.toInt ∧ K.toInt < 536870912
    · rw [if_pos h.1, if_pos h.2, decide_eq_true (by omega : K.toInt / 536870912 = 0), Bool.true_and]
      by_cases hm : M &&& K = M
      · have := R 29 (by omega) hm h.1 h.2
        rw [if_pos this.1, if_pos (by omega)]
      · rw [beq_eq_false_iff_ne.mpr hm]
        split
        · split <;> rfl
        · rfl
    · rw [decide_eq_false (by omega : ¬ K.toInt / 536870912 = 0), Bool.false_and]
      by_cases h0 : K.toInt ≥ 0
      · rw [if_pos h0, if_neg (by omega)]
      · rw [if_neg h0]
theorem rright_l0 (l : List S45) (n : Int) (hl : l.length < 9223372036854775807) (hok : ∀ r ∈ l, ok45 r) : ∀ (k i : Nat), i ≤ l.length → l.length - i < k → phaetonref12_Right.l0 k l n (i : Int) = some ((l.drop i).all (rightR n))
  | 0, _, _, h => by omega
  | k + 1, i, hi, h => by
    unfold phaetonref12_Right.l0
    by_cases e : i < l.length
    · rw [if_pos (by omega), if_pos (by omega), rd45 l i e, wr1 i (by omega), rright_l0 l n hl hok k (i + 1) (by omega) (by omega), List.drop_eq_getElem_cons e, List.all_cons]
      have hr := hok _ (List.getElem_mem e)
      generalize (List.drop (i + 1) l).all (rightR n) = A
      generalize l[i] = r at *
      obtain ⟨_, _, ⟨_, h2, h3⟩, _⟩ := hr
      rw [fRFilt _ h2 h3]
      simp only [Option.bind_some]
      unfold rightR
      have E : ∀ top : Int, (if r.f2.f0 = true then (536870912 : Int) else 2048) = top + 1 → (if r.f0 < 0 then some false else if r.f0 ≥ n then some false else if r.f1 < 0 then some false else if r.f1 ≥ n then some false else if r.f0 = r.f1 then some false else if filtR ⟨r.f2.f0, r.f2.f1, r.f2.f2⟩ = true then (if r.f3 < -1 then some false else if r.f3 > top then some false else some A) else some false) = some ((decide (0 ≤ r.f0) && decide (r.f0 < n) && decide (0 ≤ r.f1) && decide (r.f1 < n) && !(r.f0 == r.f1) && filtR r.f2 && idR r.f2.f0 r.f3) && A) := by
        intro top ht
        by_cases h1 : r.f0 < 0
        · rw [if_pos h1, decide_eq_false (by omega : ¬ 0 ≤ r.f0)]; simp
        rw [if_neg h1, decide_eq_true (by omega : 0 ≤ r.f0)]
        by_cases h2 : r.f0 ≥ n
        · rw [if_pos h2, decide_eq_false (by omega : ¬ r.f0 < n)]; simp
        rw [if_neg h2, decide_eq_true (by omega : r.f0 < n)]
        by_cases h3 : r.f1 < 0
        · rw [if_pos h3, decide_eq_false (by omega : ¬ 0 ≤ r.f1)]; simp
        rw [if_neg h3, decide_eq_true (by omega : 0 ≤ r.f1)]
        by_cases h4 : r.f1 ≥ n
        · rw [if_pos h4, decide_eq_false (by omega : ¬ r.f1 < n)]; simp
        rw [if_neg h4, decide_eq_true (by omega : r.f1 < n)]
        by_cases h5 : r.f0 = r.f1
        · rw [if_pos h5, h5]; simp
        rw [if_neg h5, beq_eq_false_iff_ne.mpr h5]
        have hf : (⟨r.f2.f0, r.f2.f1, r.f2.f2⟩ : S43) = r.f2 := rfl
        rw [hf]
        have hi : (if r.f3 < -1 then some false else if r.f3 > top then some false else some A) = some (idR r.f2.f0 r.f3 && A) := by
          unfold idR
          rw [ht]
          by_cases h6 : r.f3 < -1
          · rw [if_pos h6, decide_eq_false (by omega : ¬ 0 ≤ r.f3), beq_eq_false_iff_ne.mpr (by omega : r.f3 ≠ -1)]; rfl
          rw [if_neg h6]
          by_cases h7 : r.f3 > top
          · have ht0 : 0 ≤ top := by split at ht <;> omega
            rw [if_pos h7, decide_eq_false (by omega : ¬ r.f3 < top + 1), beq_eq_false_iff_ne.mpr (by omega : r.f3 ≠ -1)]; simp
          rw [if_neg h7]
          by_cases h8 : r.f3 = -1
          · rw [h8]; simp
          · rw [decide_eq_true (by omega : 0 ≤ r.f3), decide_eq_true (by omega : r.f3 < top + 1)]; simp
        rw [hi]
        cases filtR r.f2 <;> simp
      by_cases he : r.f2.f0 = true
      · rw [if_pos he]
        exact E 536870911 (by rw [if_pos he]; rfl)
      · rw [if_neg he]
        exact E 2047 (by rw [if_neg he]; rfl)
    · rw [if_neg (by omega)]
      have : l.drop i = [] := by apply List.drop_eq_nil_of_le; omega
      rw [this]; rfl
theorem fRRight (k : Nat) (l : List S45) (n : Int) (hl : l.length ≤ 1000) (hok : ∀ r ∈ l, ok45 r) (hk : 2000 ≤ k) : phaetonref12_Right.f k l n = some (rightL l n) := by
  obtain ⟨k, rfl⟩ : ∃ j, k = j + 1 := ⟨k - 1, by omega⟩
  unfold phaetonref12_Right.f rightL
  by_cases h1 : n < 1
  · rw [if_pos h1, phaetonref12_Right.j0, if_pos rfl, decide_eq_false (by omega : ¬ 1 ≤ n)]; simp
  · by_cases h2 : n > 4
    · rw [if_neg h1, if_pos h2, phaetonref12_Right.j0, if_pos rfl, decide_eq_false (by omega : ¬ n ≤ 4)]; simp
    · rw [if_neg h1, if_neg h2, phaetonref12_Right.j0, decide_eq_true (by omega : 1 ≤ n), decide_eq_true (by omega : n ≤ 4)]
      by_cases h3 : (l.length : Int) > 16
      · rw [decide_eq_true h3, if_pos rfl, decide_eq_false (by omega : ¬ l.length ≤ 16)]; simp
      · rw [decide_eq_false h3, if_neg (by decide), decide_eq_true (by omega : l.length ≤ 16)]
        have := rright_l0 l n (by omega) hok k 0 (by omega) (by omega)
        exact this.trans (by simp)

/-- Whether a number is in a list. -/
def inB (l : List Int) (x : Int) : Bool := l.any (fun y => y == x)
theorem inB_iff (l : List Int) (x : Int) : inB l x = true ↔ x ∈ l := by
  unfold inB
  rw [List.any_eq_true]
  constructor
  · rintro ⟨y, hy, e⟩; rw [beq_iff_eq] at e; rwa [← e]
  · intro h; exact ⟨x, h, by simp⟩
theorem in_l0 (l : List Int) (x : Int) (hl : l.length < 9223372036854775807) : ∀ (k i : Nat), i ≤ l.length → l.length - i < k → phaetonref12_In.l0 k l x (i : Int) = some (inB (l.drop i) x)
  | 0, _, _, h => by omega
  | k + 1, i, hi, h => by
    unfold phaetonref12_In.l0
    by_cases e : i < l.length
    · rw [if_pos (by omega), if_pos (by omega), rdI l i e, wr1 i (by omega), in_l0 l x hl k (i + 1) (by omega) (by omega), List.drop_eq_getElem_cons e]
      unfold inB
      rw [List.any_cons]
      by_cases h : l[i] = x
      · rw [if_pos h, h]; simp
      · rw [if_neg h, beq_eq_false_iff_ne.mpr h]; simp
    · rw [if_neg (by omega)]
      have : l.drop i = [] := by apply List.drop_eq_nil_of_le; omega
      rw [this]; rfl
theorem fIn (k : Nat) (l : List Int) (x : Int) (hl : l.length < 1000) (hk : l.length < k) : phaetonref12_In.f k l x = some (inB l x) := by
  unfold phaetonref12_In.f
  exact in_l0 l x (by omega) k 0 (by omega) (by omega)
/-- The buses that some lead to. -/
def leads (l : List S45) (from_ : List Int) (b : Int) : Bool := l.any (fun r => r.f1 == b && inB from_ r.f0)
def onL (l : List S45) (from_ : List Int) : List Int := ((List.range 4).map (fun b : Nat => (b : Int))).filter (leads l from_)
theorem onL_len (l : List S45) (from_ : List Int) : (onL l from_).length ≤ 4 := by
  unfold onL; exact Nat.le_trans (List.length_filter_le _ _) (by simp)
theorem onL_iff {l : List S45} (hin : inR l 4) (from_ : List Int) (v : Int) : v ∈ onL l from_ ↔ ∃ r ∈ l, r.f1 = v ∧ r.f0 ∈ from_ := by
  unfold onL leads
  rw [List.mem_filter, List.any_eq_true]
  constructor
  · rintro ⟨_, r, hr, h⟩
    rw [Bool.and_eq_true, beq_iff_eq, inB_iff] at h
    exact ⟨r, hr, h.1, h.2⟩
  · rintro ⟨r, hr, rfl, h⟩
    refine ⟨?_, r, hr, by rw [Bool.and_eq_true, beq_iff_eq, inB_iff]; exact ⟨rfl, h⟩⟩
    have := hin r hr
    exact List.mem_map.mpr ⟨r.f1.toNat, by rw [List.mem_range]; omega, by omega⟩
theorem on_l1 (l : List S45) (from_ out : List Int) (hf : from_.length ≤ 100) (hl : l.length ≤ 1000) (ho : out.length ≤ 100) (b : Nat) (hb : b < 4) (B : Nat) (R : Option (List Int)) (H : ∀ k, B ≤ k → phaetonref12_On.l0 k l from_ (if leads l from_ (b : Int) = true then out ++ [(b : Int)] else out) (wrap64 ((b : Int) + 1)) = R) : ∀ (k i : Nat) (is : Bool), i ≤ l.length → B + (l.length - i) + 200 < k → (is || leads (l.drop i) from_ (b : Int)) = leads l from_ (b : Int) → phaetonref12_On.l1 k l from_ out (b : Int) is (i : Int) = R
  | 0, _, _, _, h, _ => by omega
  | k + 1, i, is, hi, h, hx => by
    unfold phaetonref12_On.l1
    by_cases e : i < l.length
    · rw [if_pos (by omega), wr1 i (by omega)]
      have IH := fun c => on_l1 l from_ out hf hl ho b hb B R H k (i + 1) c (by omega) (by omega)
      rw [List.drop_eq_getElem_cons e] at hx
      have hc : leads (l[i] :: l.drop (i + 1)) from_ (b : Int) = ((l[i].f1 == (b : Int) && inB from_ l[i].f0) || leads (l.drop (i + 1)) from_ (b : Int)) := by
        unfold leads; rw [List.any_cons]
      rw [hc] at hx
      cases is with
      | true => rw [if_pos rfl]; exact IH true (by simpa using hx)
      | false =>
        rw [if_neg (by decide), if_pos (by omega), rd45 l i e]
        by_cases hf1 : l[i].f1 = (b : Int)
        · rw [if_pos hf1, fIn _ _ _ (by omega) (by omega), Option.bind_some]
          refine IH _ ?_
          rw [beq_iff_eq.mpr hf1, Bool.true_and, Bool.false_or] at hx
          exact hx
        · rw [if_neg hf1]
          refine IH false ?_
          rw [beq_eq_false_iff_ne.mpr hf1, Bool.false_and, Bool.false_or, Bool.false_or] at hx
          simpa using hx
    · rw [if_neg (by omega)]
      have hd : l.drop i = [] := by apply List.drop_eq_nil_of_le; omega
      rw [hd] at hx
      have hx' : is = leads l from_ (b : Int) := by simpa [leads] using hx
      have := H k (by omega)
      rw [← hx'] at this
      cases is with
      | true => rw [if_pos rfl, if_pos (by omega)]; simpa using this
      | false => rw [if_neg (by decide)]; simpa using this
theorem on_l0 (l : List S45) (from_ : List Int) (hf : from_.length ≤ 100) (hl : l.length ≤ 1000) (c : Nat) (hc : 1500 ≤ c) : ∀ (d b k : Nat) (out : List Int), b + d = 4 → out.length ≤ b → d * c + 1 < k → phaetonref12_On.l0 k l from_ out (b : Int) = some (out ++ (((List.range 4).map (fun b : Nat => (b : Int))).drop b).filter (leads l from_))
  | 0, b, k, out, hd, ho, hk => by
    obtain ⟨k, rfl⟩ : ∃ j, k = j + 1 := ⟨k - 1, by omega⟩
    obtain rfl : b = 4 := by omega
    unfold phaetonref12_On.l0
    rw [if_neg (by omega)]
    have : ((List.range 4).map (fun b : Nat => (b : Int))).drop 4 = [] := by decide
    rw [this]; simp
  | d + 1, b, k, out, hd, ho, hk => by
    obtain ⟨k, rfl⟩ : ∃ j, k = j + 1 := ⟨k - 1, by omega⟩
    unfold phaetonref12_On.l0
    rw [if_pos (by omega)]
    have hdr : ((List.range 4).map (fun b : Nat => (b : Int))).drop b = (b : Int) :: ((List.range 4).map (fun b : Nat => (b : Int))).drop (b + 1) := by
      rw [List.drop_eq_getElem_cons (by simp; omega)]; simp
    rw [hdr, List.filter_cons]
    refine on_l1 l from_ out hf hl (by omega) b (by omega) (d * c + 2) _ (fun k' hk' => ?_) k 0 false (by omega) (by rw [Nat.succ_mul] at hk; omega) (by simp)
    rw [wr1 b (by omega), on_l0 l from_ hf hl c hc d (b + 1) k' _ (by omega) (by split <;> (try rw [List.length_append]) <;> (try simp only [List.length_singleton]) <;> omega) (by omega)]
    split <;> simp
theorem fOn (k : Nat) (l : List S45) (from_ : List Int) (hf : from_.length ≤ 100) (hl : l.length ≤ 1000) (hk : 7000 ≤ k) : phaetonref12_On.f k l from_ = some (onL l from_) := by
  unfold phaetonref12_On.f
  have := on_l0 l from_ hf hl 1500 (by omega) 4 0 k [] (by omega) (by simp) (by omega)
  simpa [onL] using this

/-- A way of m routes from b to v. -/
def Way (l : List S45) (b : Int) : Nat → Int → Prop
  | 0, v => v = b
  | m + 1, v => ∃ r ∈ l, r.f1 = v ∧ Way l b m r.f0
def fromS (l : List S45) (b : Int) : Nat → List Int
  | 0 => [b]
  | m + 1 => onL l (fromS l b m)
theorem fromS_len (l : List S45) (b : Int) : ∀ m, (fromS l b m).length ≤ 4
  | 0 => by simp [fromS]
  | m + 1 => onL_len l _
theorem fromS_iff {l : List S45} (hin : inR l 4) (b : Int) : ∀ (m : Nat) (v : Int), v ∈ fromS l b m ↔ Way l b m v
  | 0, v => by simp [fromS, Way]
  | m + 1, v => by
    rw [fromS, onL_iff hin, Way]
    constructor
    · rintro ⟨r, hr, h1, h2⟩; exact ⟨r, hr, h1, (fromS_iff hin b m _).mp h2⟩
    · rintro ⟨r, hr, h1, h2⟩; exact ⟨r, hr, h1, (fromS_iff hin b m _).mpr h2⟩
/-- No bus among n comes back behind m routes, for m of 1 to n. -/
def backAt (l : List S45) (b : Nat) (n : Nat) : Bool := (List.range n).any (fun m => inB (fromS l (b : Int) (m + 1)) (b : Int))
def noBack (l : List S45) (n : Nat) : Bool := !(List.range n).any (fun b => backAt l b n)
theorem loop_l1 (l : List S45) (hl : l.length ≤ 1000) (n : Nat) (b : Nat) (hn : n ≤ 4) (B : Nat) (A : Bool) (H : ∀ k, B ≤ k → phaetonref12_Loopless.l0 k l (n : Int) (wrap64 ((b : Int) + 1)) = some A) : ∀ (d m k : Nat), m + d = n → B + d + 8000 < k → phaetonref12_Loopless.l1 k l (n : Int) (b : Int) (fromS l (b : Int) m) (m : Int) = some (!((List.range d).any (fun j => inB (fromS l (b : Int) (m + j + 1)) (b : Int))) && A)
  | 0, m, k, hd, hk => by
    obtain ⟨k, rfl⟩ : ∃ j, k = j + 1 := ⟨k - 1, by omega⟩
    unfold phaetonref12_Loopless.l1
    rw [if_neg (by omega), H k (by omega)]; simp
  | d + 1, m, k, hd, hk => by
    obtain ⟨k, rfl⟩ : ∃ j, k = j + 1 := ⟨k - 1, by omega⟩
    unfold phaetonref12_Loopless.l1
    have h4 := fromS_len l (b : Int) m
    have h5 := fromS_len l (b : Int) (m + 1)
    rw [if_pos (by omega), fOn _ _ _ (by omega) hl (by omega), Option.bind_some]
    have e : onL l (fromS l (b : Int) m) = fromS l (b : Int) (m + 1) := rfl
    rw [e, fIn _ _ _ (by omega) (by omega), Option.bind_some, wr1 m (by omega), loop_l1 l hl n b hn B A H d (m + 1) k (by omega) (by omega)]
    have hr : (List.range (d + 1)).any (fun j => inB (fromS l (b : Int) (m + j + 1)) (b : Int)) = (inB (fromS l (b : Int) (m + 1)) (b : Int) || (List.range d).any (fun j => inB (fromS l (b : Int) (m + 1 + j + 1)) (b : Int))) := by
      rw [List.range_succ_eq_map, List.any_cons, List.any_map]
      congr 1
      congr 1
      funext j
      show inB (fromS l (b : Int) (m + (j + 1) + 1)) (b : Int) = _
      rw [show m + (j + 1) + 1 = m + 1 + j + 1 by omega]
    rw [hr]
    cases inB (fromS l (b : Int) (m + 1)) (b : Int) <;> simp
theorem loop_l0 (l : List S45) (hl : l.length ≤ 1000) (n : Nat) (hn : n ≤ 4) (c : Nat) (hc : 8100 ≤ c) : ∀ (d b k : Nat), b + d = n → d * c + 1 < k → phaetonref12_Loopless.l0 k l (n : Int) (b : Int) = some (!((List.range d).any (fun j => backAt l (b + j) n)))
  | 0, b, k, hd, hk => by
    obtain ⟨k, rfl⟩ : ∃ j, k = j + 1 := ⟨k - 1, by omega⟩
    unfold phaetonref12_Loopless.l0
    rw [if_neg (by omega)]; simp
  | d + 1, b, k, hd, hk => by
    obtain ⟨k, rfl⟩ : ∃ j, k = j + 1 := ⟨k - 1, by omega⟩
    unfold phaetonref12_Loopless.l0
    rw [if_pos (by omega)]
    have := loop_l1 l hl n b hn (d * c + 2) (!((List.range d).any (fun j => backAt l (b + 1 + j) n))) (fun k' hk' => by rw [wr1 b (by omega)]; exact loop_l0 l hl n hn c hc d (b + 1) k' (by omega) (by omega)) n 0 k (by omega) (by rw [Nat.succ_mul] at hk; omega)
    have hr : (List.range (d + 1)).any (fun j => backAt l (b + j) n) = (backAt l b n || (List.range d).any (fun j => backAt l (b + 1 + j) n)) := by
      rw [List.range_succ_eq_map, List.any_cons, List.any_map]
      congr 1
      congr 1
      funext j
      show backAt l (b + (j + 1)) n = _
      rw [show b + (j + 1) = b + 1 + j by omega]
    rw [hr, Bool.not_or]
    refine this.trans ?_
    unfold backAt
    simp only [Nat.zero_add]
theorem way_cat {l : List S45} {b : Int} {m : Nat} {r : S45} (hr : r ∈ l) (h : Way l b m r.f0) : Way l b (m + 1) r.f1 := ⟨r, hr, rfl, h⟩
theorem way_pot {l : List S45} {p : Nat → Int} (hp : pot l p) (b : Int) : ∀ (m : Nat) (v : Int), Way l b m v → p b.toNat + m ≤ p v.toNat
  | 0, v, h => by obtain rfl : v = b := h; omega
  | m + 1, v, ⟨r, hr, e, h⟩ => by
    have h1 := way_pot hp b m _ h
    have h2 := hp r hr
    rw [e] at h2
    omega
/-- The places of a walk. -/
theorem walk_seq {l : List S45} : ∀ (m : Nat) (v : Int), 0 ≤ v → inR l 4 → W l m v.toNat → ∃ s : Nat → Int, s m = v ∧ ∀ i, i < m → ∃ r ∈ l, r.f0 = s i ∧ r.f1 = s (i + 1)
  | 0, v, _, _, _ => ⟨fun _ => v, rfl, fun i hi => by omega⟩
  | m + 1, v, h0, hin, ⟨r, hr, e, h⟩ => by
    have h4 := hin r hr
    obtain ⟨s, h1, h2⟩ := walk_seq m r.f0 h4.1 hin h
    refine ⟨fun i => if i = m + 1 then v else s i, by simp, fun i hi => ?_⟩
    by_cases hm : i = m
    · subst hm
      refine ⟨r, hr, by simp [h1], by simp; omega⟩
    · obtain ⟨x, hx, h3, h5⟩ := h2 i (by omega)
      refine ⟨x, hx, by dsimp only; rw [if_neg (by omega)]; exact h3, by dsimp only; rw [if_neg (by omega)]; exact h5⟩
theorem seq_way {l : List S45} {s : Nat → Int} {n : Nat} (h : ∀ i, i < n → ∃ r ∈ l, r.f0 = s i ∧ r.f1 = s (i + 1)) (i : Nat) : ∀ (d : Nat), i + d ≤ n → Way l (s i) d (s (i + d))
  | 0, _ => rfl
  | d + 1, hd => by
    obtain ⟨r, hr, h0, h1⟩ := h (i + d) (by omega)
    refine ⟨r, hr, h1, ?_⟩
    rw [h0]
    exact seq_way h i d (by omega)
theorem pigeon (n : Nat) (hn : 1 ≤ n ∧ n ≤ 4) (s : Nat → Int) (h : ∀ i, i ≤ n → 0 ≤ s i ∧ s i < n) : ∃ i d, 1 ≤ d ∧ i + d ≤ n ∧ s (i + d) = s i := by
  have h0 := h 0 (by omega)
  have h1 := h 1 (by omega)
  rcases (show n = 1 ∨ n = 2 ∨ n = 3 ∨ n = 4 by omega) with rfl | rfl | rfl | rfl
  · exact ⟨0, 1, by omega, by omega, by show s 1 = s 0; omega⟩
  · have h2 := h 2 (by omega)
    rcases (show s 1 = s 0 ∨ s 2 = s 0 ∨ s 2 = s 1 by omega) with e | e | e
    · exact ⟨0, 1, by omega, by omega, e⟩
    · exact ⟨0, 2, by omega, by omega, e⟩
    · exact ⟨1, 1, by omega, by omega, e⟩
  · have h2 := h 2 (by omega)
    have h3 := h 3 (by omega)
    rcases (show s 1 = s 0 ∨ s 2 = s 0 ∨ s 3 = s 0 ∨ s 2 = s 1 ∨ s 3 = s 1 ∨ s 3 = s 2 by omega) with e | e | e | e | e | e
    · exact ⟨0, 1, by omega, by omega, e⟩
    · exact ⟨0, 2, by omega, by omega, e⟩
    · exact ⟨0, 3, by omega, by omega, e⟩
    · exact ⟨1, 1, by omega, by omega, e⟩
    · exact ⟨1, 2, by omega, by omega, e⟩
    · exact ⟨2, 1, by omega, by omega, e⟩
  · have h2 := h 2 (by omega)
    have h3 := h 3 (by omega)
    have h4 := h 4 (by omega)
    have key : ∀ a b c d e : Fin 4, b = a ∨ c = a ∨ d = a ∨ e = a ∨ c = b ∨ d = b ∨ e = b ∨ d = c ∨ e = c ∨ e = d := by decide +kernel
    have K := key ⟨(s 0).toNat, by omega⟩ ⟨(s 1).toNat, by omega⟩ ⟨(s 2).toNat, by omega⟩ ⟨(s 3).toNat, by omega⟩ ⟨(s 4).toNat, by omega⟩
    simp only [Fin.mk.injEq] at K
    rcases K with e | e | e | e | e | e | e | e | e | e
    · exact ⟨0, 1, by omega, by omega, by show s 1 = s 0; omega⟩
    · exact ⟨0, 2, by omega, by omega, by show s 2 = s 0; omega⟩
    · exact ⟨0, 3, by omega, by omega, by show s 3 = s 0; omega⟩
    · exact ⟨0, 4, by omega, by omega, by show s 4 = s 0; omega⟩
    · exact ⟨1, 1, by omega, by omega, by show s 2 = s 1; omega⟩
    · exact ⟨1, 2, by omega, by omega, by show s 3 = s 1; omega⟩
    · exact ⟨1, 3, by omega, by omega, by show s 4 = s 1; omega⟩
    · exact ⟨2, 1, by omega, by omega, by show s 3 = s 2; omega⟩
    · exact ⟨2, 2, by omega, by omega, by show s 4 = s 2; omega⟩
    · exact ⟨3, 1, by omega, by omega, by show s 4 = s 3; omega⟩
theorem W_less {l : List S45} : ∀ (m d v : Nat), W l (m + d) v → W l m v
  | 0, _, _, _ => trivial
  | m + 1, d, v, h => by
    rw [show m + 1 + d = (m + d) + 1 by omega] at h
    obtain ⟨r, hr, e, h⟩ := h
    exact ⟨r, hr, e, W_less m d _ h⟩
theorem noBack_iff {l : List S45} {n : Nat} (hn : inR l n) (h4 : 1 ≤ n ∧ n ≤ 4) (hl : l.length ≤ 1000) : noBack l n = loopB l n := by
  have hin4 : inR l 4 := fun r hr => by have := hn r hr; omega
  have spec : noBack l n = true ↔ ∀ b m : Nat, b < n → m < n → ¬ Way l (b : Int) (m + 1) (b : Int) := by
    unfold noBack backAt
    simp only [Bool.not_eq_true', List.any_eq_false, List.mem_range]
    constructor
    · intro h b m hb hm hw
      have := h b hb
      rw [List.any_eq_true] at this
      exact this ⟨m, by simpa using hm, (inB_iff _ _).mpr ((fromS_iff hin4 _ _ _).mpr hw)⟩
    · intro h b hb ht
      rw [List.any_eq_true] at ht
      obtain ⟨m, hm, hi⟩ := ht
      exact h b m hb (by simpa using hm) ((fromS_iff hin4 _ _ _).mp ((inB_iff _ _).mp hi))
  rw [Bool.eq_iff_iff, spec]
  constructor
  · intro H
    unfold loopB
    have hm : n * l.length ≤ 4 * l.length := Nat.mul_le_mul_right _ h4.2
    have ht : ((n : Int)).toNat = n := by simp
    rw [ht]
    obtain ⟨B, hB, hi⟩ := sweeps_inv (l := l) n (fun _ => 0) 0 (inv0 l) (by omega)
    have hs : stable l (sweeps n (fun _ => 0) l) := by
      rcases sweeps_prog hin4 n 0 (fun _ => 0) 0 (inv0 l) (by omega) (fun m v hm _ => by omega) with h | h
      · exact h
      · intro r hr
        obtain ⟨b1, b2, b3⟩ := hi r.f0.toNat
        have hw : W l (((sweeps n (fun _ => 0) l) r.f0.toNat).toNat + 1) r.f1.toNat := ⟨r, hr, rfl, b3⟩
        by_cases hc : ((sweeps n (fun _ => 0) l) r.f0.toNat).toNat < n
        · have h2 := h _ _ (by omega) hw
          omega
        · exfalso
          have h5 := hn r hr
          have hw2 : W l n r.f0.toNat := by
            rw [show ((sweeps n (fun _ => 0) l) r.f0.toNat).toNat = n + (((sweeps n (fun _ => 0) l) r.f0.toNat).toNat - n) by omega] at b3
            exact W_less n _ _ b3
          obtain ⟨s, hs1, hs2⟩ := walk_seq n r.f0 h5.1 hin4 hw2
          have hr4 : ∀ i, i ≤ n → 0 ≤ s i ∧ s i < n := by
            intro i hi2
            by_cases hin : i = n
            · rw [hin, hs1]; omega
            · obtain ⟨x, hx, e0, e1⟩ := hs2 i (by omega)
              have := hn x hx
              omega
          obtain ⟨i, d, hd1, hd2, he⟩ := pigeon n h4 s hr4
          have hway := seq_way hs2 i d hd2
          have hri := hr4 i (by omega)
          obtain ⟨d, rfl⟩ : ∃ j, d = j + 1 := ⟨d - 1, by omega⟩
          rw [he] at hway
          refine H (s i).toNat d (by omega) (by omega) ?_
          rw [show (((s i).toNat : Nat) : Int) = s i by omega]
          exact hway
    rw [sweep_still hi (by omega) l hs]
    exact same4_rfl _
  · intro h b m hb hm hw
    obtain ⟨p, hp⟩ := (loopB_iff hn h4.2 hl).mp h
    have := way_pot hp _ _ _ hw
    omega
theorem fRLoop (k : Nat) (l : List S45) (n : Int) (hl : l.length ≤ 1000) (hok : ∀ r ∈ l, ok45 r) (hk : 100000 ≤ k) : phaetonref12_Loopless.f k l n = some (rightL l n && loopB l n) := by
  unfold phaetonref12_Loopless.f
  rw [fRRight k l n hl hok (by omega), Option.bind_some]
  by_cases h : rightL l n = true
  · rw [if_pos h, h, Bool.true_and]
    have hr := h
    unfold rightL at hr
    simp only [Bool.and_eq_true, decide_eq_true_eq] at hr
    obtain ⟨m, rfl⟩ : ∃ m : Nat, n = m := ⟨n.toNat, by omega⟩
    have := loop_l0 l hl m (by omega) 8100 (by omega) m 0 k (by omega) (by
      have : m * 8100 ≤ 4 * 8100 := Nat.mul_le_mul_right _ (by omega)
      omega)
    refine this.trans ?_
    have hb := noBack_iff (all_in hr.2) (by omega) hl
    rw [← hb]
    unfold noBack
    simp only [Nat.zero_add]
  · have h' : rightL l n = false := by simpa using h
    rw [if_neg h, h']; rfl
theorem loop_range {l : List S45} {n : Int} (h : rightL l n = true) : 1 ≤ n ∧ n ≤ 4 := by
  unfold rightL at h
  simp only [Bool.and_eq_true, decide_eq_true_eq] at h
  omega
end Go.Proofs.Ytpcabeefahldlaa.P
