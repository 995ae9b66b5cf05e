/-
  What each printed function of layer 15 answers, code and document: places, fits, put, get, mean. Conditions: rows of bytes; numbers of 64 bits.
-/
import Derived.Test.YtcgkkjimonfhbaaPx9
import Derived.Test.YtcgkkjimonfhbaaPx4
import Derived.Test.YtcgkkjimonfhbaaPx3
import Derived.Test.YtcgkkjimonfhbaaPx7
import Derived.Test.YtcgkkjimonfhbaaPx5
import Derived.Test.YtcgkkjimonfhbaaPx6
import Derived.Test.YtcgkkjimonfhbaaPx16
import Derived.Test.YtcgkkjimonfhbaaPx17
import Derived.Test.YtcgkkjimonfhbaaPx18
import Derived.Test.YtcgkkjimonfhbaaPx10
import Derived.Test.YtcgkkjimonfhbaaPx20
import Derived.Test.YtcgkkjimonfhbaaPlain
namespace Go.Proofs.Ytcgkkjimonfhbaa.P
open Go.RowKit Go.Proofs.YtcgkkjimonfhbaaOwn Go.Proofs.YtcgkkjimonfhbaaW.PrintWords Go.Proofs.YtcgkkjimonfhbaaW.PrintLast Go.Proofs.YtcgkkjimonfhbaaW.PrintMore
set_option linter.unusedVariables false
set_option linter.unusedSimpArgs false

theorem head40 : phaetonlaw15_head.f 40 = some true := by decide +kernel
theorem head_true : ∀ k, 40 ≤ k → phaetonlaw15_head.f k = some true
  | 0, h => by omega
  | k + 1, h => by
    by_cases e : k + 1 = 40
    · rw [e]; exact head40
    · exact phaetonlaw15_head.mono k _ (head_true k (by omega))

/-! ### Rows that are alike -/
theorem ints_l0 (l m : List Int) (hl : l.length = m.length) (hn : l.length < 9223372036854775807) : ∀ (k i : Nat), i ≤ l.length → l.length - i < k → phaetonref03_Ints.l0 k l m (i : Int) = some (decide (l.drop i = m.drop i))
  | 0, _, _, h => by omega
  | k + 1, i, hi, h => by
    simp only [phaetonref03_Ints.l0]
    by_cases e : i < l.length
    · rw [if_pos (by omega), if_pos (by omega), if_pos (by omega), rdN l i e, rdN m i (by omega), wr1 i (by omega), ints_l0 l m hl hn k (i + 1) (by omega) (by omega), List.drop_eq_getElem_cons e, List.drop_eq_getElem_cons (show i < m.length by omega)]
      by_cases c : l[i] = m[i]
      · rw [if_pos c]; congr 1; exact decide_eq_decide.2 (by rw [c]; exact ⟨fun h => by rw [h], fun h => (List.cons.inj h).2⟩)
      · rw [if_neg c, decide_eq_false (fun h => c (List.cons.inj h).1)]
    · rw [if_neg (by omega), List.drop_of_length_le (by omega), List.drop_of_length_le (by omega)]; simp
theorem fInts (k : Nat) (l m : List Int) (hn : l.length < 9223372036854775807) (hk : l.length < k) : phaetonref03_Ints.f k l m = some (decide (l = m)) := by
  unfold phaetonref03_Ints.f
  by_cases h : l.length = m.length
  · have := ints_l0 l m h hn k 0 (by omega) (by omega)
    rw [if_pos (by omega)]; exact this
  · rw [if_neg (by omega), decide_eq_false (fun e => h (by rw [e]))]
theorem bytes_l0 (l m : List Int) (hl : l.length = m.length) (hn : l.length < 9223372036854775807) : ∀ (k i : Nat), i ≤ l.length → l.length - i < k → phaetonref15_Bytes.l0 k l m (i : Int) = some (decide (l.drop i = m.drop i))
  | 0, _, _, h => by omega
  | k + 1, i, hi, h => by
    simp only [phaetonref15_Bytes.l0]
    by_cases e : i < l.length
    · rw [if_pos (by omega), if_pos (by omega), if_pos (by omega), rdN l i e, rdN m i (by omega), wr1 i (by omega), bytes_l0 l m hl hn k (i + 1) (by omega) (by omega), List.drop_eq_getElem_cons e, List.drop_eq_getElem_cons (show i < m.length by omega)]
      by_cases c : l[i] = m[i]
      · rw [if_pos c]; congr 1; exact decide_eq_decide.2 (by rw [c]; exact ⟨fun h => by rw [h], fun h => (List.cons.inj h).2⟩)
      · rw [if_neg c, decide_eq_false (fun h => c (List.cons.inj h).1)]
    · rw [if_neg (by omega), List.drop_of_length_le (by omega), List.drop_of_length_le (by omega)]; simp
theorem fBytes (k : Nat) (l m : List Int) (hn : l.length < 9223372036854775807) (hk : l.length < k) : phaetonref15_Bytes.f k l m = some (decide (l = m)) := by
  unfold phaetonref15_Bytes.f
  by_cases h : l.length = m.length
  · have := bytes_l0 l m h hn k 0 (by omega) (by omega)
    rw [if_pos (by omega)]; exact this
  · rw [if_neg (by omega), decide_eq_false (fun e => h (by rw [e]))]
theorem in_l0 (l : List Int) (x : Int) (hn : l.length < 9223372036854775807) : ∀ (k i : Nat), i ≤ l.length → l.length - i < k → phaetonref15_In.l0 k l x (i : Int) = some (decide (x ∈ l.drop i))
  | 0, _, _, h => by omega
  | k + 1, i, hi, h => by
    simp only [phaetonref15_In.l0]
    by_cases e : i < l.length
    · rw [if_pos (by omega), if_pos (by omega), rdN l i e, wr1 i (by omega), in_l0 l x hn k (i + 1) (by omega) (by omega), List.drop_eq_getElem_cons e]
      by_cases c : l[i] = x
      · rw [if_pos c, decide_eq_true (by rw [c]; exact List.mem_cons_self ..)]
      · rw [if_neg c]; congr 1; exact decide_eq_decide.2 ⟨fun h => List.mem_cons_of_mem _ h, fun h => (List.mem_cons.1 h).resolve_left (fun e => c e.symm)⟩
    · rw [if_neg (by omega), List.drop_of_length_le (by omega)]; simp
theorem fIn (k : Nat) (l : List Int) (x : Int) (hn : l.length < 9223372036854775807) (hk : l.length < k) : phaetonref15_In.f k l x = some (decide (x ∈ l)) := in_l0 l x hn k 0 (by omega) (by omega)

/-! ### Powers, fits -/
theorem power_l0 (m : Nat) (hm : m ≤ 40) : ∀ (k i : Nat), i ≤ m → m - i < k → phaetonref15_power.l0 k (m : Int) (2 ^ i) (i : Int) = some (2 ^ m)
  | 0, _, _, h => by omega
  | k + 1, i, hi, h => by
    simp only [phaetonref15_power.l0]
    by_cases e : i < m
    · have h1 : (2 : Nat) ^ i ≤ 1099511627776 := Nat.le_trans (Nat.pow_le_pow_right (by decide) (by omega : i ≤ 40)) (Nat.le_refl (2 ^ 40))
      have e1 : ((2 ^ i : Nat) : Int) = 2 ^ i := by push_cast; rfl
      have hp := two_pos i
      rw [if_pos (by omega), wr1 i (by omega), wr _ (by omega), ← Int.pow_succ, power_l0 m hm k (i + 1) (by omega) (by omega)]
    · rw [if_neg (by omega), show i = m by omega]
theorem fPower (k : Nat) (m : Int) (h : 0 ≤ m ∧ m ≤ 40) (hk : 41 ≤ k) : phaetonref15_power.f k m = some (2 ^ m.toNat) := by
  obtain ⟨n, rfl⟩ : ∃ n : Nat, m = (n : Int) := ⟨m.toNat, by omega⟩
  exact power_l0 n (by omega) k 0 (by omega) (by omega)
theorem fRFits (k : Nat) (st ln : Int) (big sgn : Bool) (mul add n : Int) (h : 1 ≤ ln ∧ ln ≤ 32) (hk : 41 ≤ k) : phaetonref15_Fits.f k st ln big sgn mul add n = some (fitsS ln sgn n) := by
  unfold phaetonref15_Fits.f fitsS
  rw [wr _ (by omega), fPower k (ln - 1) (by omega) hk, fPower k ln (by omega) hk, show (ln - 1).toNat = ln.toNat - 1 by omega]
  have h1 := pow_le (ln.toNat - 1) (by omega)
  have hp := two_pos (ln.toNat - 1)
  simp only [Option.bind_some]
  cases sgn with
  | true =>
    simp only [if_true]
    rw [wr _ (by omega)]
    by_cases c : n ≥ -2 ^ (ln.toNat - 1)
    · rw [if_pos c, decide_eq_true (show -2 ^ (ln.toNat - 1) ≤ n from c)]; simp
    · rw [if_neg c, decide_eq_false (show ¬ -2 ^ (ln.toNat - 1) ≤ n from c)]; simp
  | false =>
    simp only [Bool.false_eq_true, if_false]
    by_cases c : n ≥ 0
    · rw [if_pos c, decide_eq_true (show 0 ≤ n from c)]; simp
    · rw [if_neg c, decide_eq_false (show ¬ 0 ≤ n from c)]; simp
theorem fFits (st ln : Int) (big sgn : Bool) (mul add n : Int) (h : 1 ≤ ln ∧ ln ≤ 32) : sig_fits.f st ln big sgn mul add n = some (fitsS ln sgn n) := by
  unfold sig_fits.f fitsS
  rw [ends_some _ _ _ _ _ _ (by omega), (ends_eq h sgn).1, Option.bind_some]
  cases sgn with
  | true =>
    simp only [if_true]
    by_cases c : n ≥ -2 ^ (ln.toNat - 1)
    · rw [if_pos c, decide_eq_true (show -2 ^ (ln.toNat - 1) ≤ n from c)]; simp; omega
    · rw [if_neg c, decide_eq_false (show ¬ -2 ^ (ln.toNat - 1) ≤ n from c)]; simp
  | false =>
    simp only [Bool.false_eq_true, if_false]
    by_cases c : n ≥ 0
    · rw [if_pos c, decide_eq_true (show 0 ≤ n from c)]; simp; omega
    · rw [if_neg c, decide_eq_false (show ¬ 0 ≤ n from c)]; simp

/-! ### Places -/
theorem all_l0 (st : Int) (ln : Nat) (big sgn : Bool) (mul add : Int) (hs : 0 ≤ st ∧ st < 64) (hln : ln ≤ 32) : ∀ (k i : Nat), i ≤ ln → 2 * (ln - i) + 1 < k → phaetonref15_all.l0 k (placesK big st i) (atK big st i) (i : Int) st (ln : Int) big sgn mul add = some (placesK big st ln)
  | 0, _, _, h => by omega
  | 1, _, _, h => by omega
  | k + 2, i, hi, h => by
    have hr := atK_range big st hs i
    simp only [phaetonref15_all.l0]
    by_cases e : i < ln
    · have IH := all_l0 st ln big sgn mul add hs hln k (i + 1) (by omega) (by omega)
      rw [placesK_succ] at IH
      have hst : atK big st (i + 1) = nxtS big (atK big st i) := rfl
      rw [hst] at IH
      rw [if_pos (by omega)]
      simp only [phaetonref15_all.j1]
      rw [decide_eq_true (by omega), if_pos rfl, if_pos (by rw [placesK_len]; omega), Option.bind_some, wr1 i (by omega), Int.tmod_eq_emod_of_nonneg hr.1]
      generalize atK big st i = a at *
      have b1 : a < 1000 := by omega
      unfold nxtS at IH
      cases big with
      | true =>
        simp only [if_true] at IH ⊢
        by_cases c : a % 8 = 0
        · rw [if_neg (by omega), wr _ (by omega)]; rw [if_pos c] at IH; exact IH
        · rw [if_pos (by omega), wr _ (by omega)]; rw [if_neg c] at IH; exact IH
      | false =>
        simp only [Bool.false_eq_true, if_false] at IH ⊢
        rw [wr _ (by omega)]; exact IH
    · have : i = ln := by omega
      subst this
      rw [if_neg (by omega)]
      simp only [phaetonref15_all.j1]
      rw [if_neg (by decide)]
theorem fAll (k : Nat) (st ln : Int) (big sgn : Bool) (mul add : Int) (hs : 0 ≤ st ∧ st < 64) (hln : 0 ≤ ln ∧ ln ≤ 32) (hk : 70 ≤ k) : phaetonref15_all.f k st ln big sgn mul add = some (placesK big st ln.toNat) := by
  obtain ⟨n, rfl⟩ : ∃ n : Nat, ln = (n : Int) := ⟨ln.toNat, by omega⟩
  exact all_l0 st n big sgn mul add hs (by omega) k 0 (by omega) (by omega)
theorem rright_l0 (bytes : Int) (hb : 0 ≤ bytes ∧ bytes ≤ 8) (l : List Int) (hl : l.length ≤ 32) (st ln : Int) (big sgn : Bool) (mul add : Int) : ∀ (k i : Nat), i ≤ l.length → l.length - i < k → phaetonref15_Right.l0 k bytes l (i : Int) st ln big sgn mul add = some ((l.drop i).all (fun a => decide (a < 8 * bytes)) && (!(mul == 0) && (withinB mul 1000000 && withinB add 1000000000)))
  | 0, _, _, h => by omega
  | k + 1, i, hi, h => by
    simp only [phaetonref15_Right.l0]
    by_cases e : i < l.length
    · rw [if_pos (by omega), if_pos (by omega), rdN l i e, wr _ (by omega), wr1 i (by omega), rright_l0 bytes hb l hl st ln big sgn mul add k (i + 1) (by omega) (by omega), List.drop_eq_getElem_cons e, List.all_cons]
      by_cases c : l[i] ≥ 8 * bytes
      · rw [if_pos c, decide_eq_false (by omega)]; simp
      · rw [if_neg c, decide_eq_true (by omega)]; simp
    · rw [if_neg (by omega), List.drop_of_length_le (by omega)]
      unfold withinB
      by_cases h1 : mul = 0
      · rw [if_pos h1, h1]; simp
      rw [if_neg h1, beq_eq_false_iff_ne.mpr h1]
      by_cases h2 : mul ≥ -1000000
      · rw [if_pos h2, decide_eq_true (show -1000000 ≤ mul from h2)]
        by_cases h3 : mul ≤ 1000000
        · rw [if_pos h3, decide_eq_true h3]
          by_cases h4 : add ≥ -1000000000
          · rw [if_pos h4, decide_eq_true (show -1000000000 ≤ add from h4)]; simp
          · rw [if_neg h4, decide_eq_false (show ¬ -1000000000 ≤ add from h4)]; simp
        · rw [if_neg h3, decide_eq_false h3]; simp
      · rw [if_neg h2, decide_eq_false (show ¬ -1000000 ≤ mul from h2)]; simp
theorem fRRight (k : Nat) (st ln : Int) (big sgn : Bool) (mul add bytes : Int) (hk : 80 ≤ k) : phaetonref15_Right.f k st ln big sgn mul add bytes = some (rightS st ln big sgn mul add bytes) := by
  obtain ⟨k, rfl⟩ : ∃ j, k = j + 1 := ⟨k - 1, by omega⟩
  have no : ∀ x : Bool, x = true → phaetonref15_Right.j0 (k + 1) bytes x st ln big sgn mul add = some false := by
    intro x hx; simp only [phaetonref15_Right.j0]; rw [if_pos hx]
  unfold phaetonref15_Right.f rightS
  by_cases h1 : bytes < 0
  · rw [if_pos h1, no _ rfl, decide_eq_false (by omega : ¬ 0 ≤ bytes)]; rfl
  rw [if_neg h1, decide_eq_true (by omega : 0 ≤ bytes)]
  by_cases h2 : bytes > 8
  · rw [if_pos h2, no _ rfl, decide_eq_false (by omega : ¬ bytes ≤ 8)]; rfl
  rw [if_neg h2, decide_eq_true (by omega : bytes ≤ 8)]
  by_cases h3 : ln < 1
  · rw [if_pos h3, no _ rfl, decide_eq_false (by omega : ¬ 1 ≤ ln)]; rfl
  rw [if_neg h3, decide_eq_true (by omega : 1 ≤ ln)]
  by_cases h4 : ln > 32
  · rw [if_pos h4, no _ rfl, decide_eq_false (by omega : ¬ ln ≤ 32)]; rfl
  rw [if_neg h4, decide_eq_true (by omega : ln ≤ 32)]
  by_cases h5 : st < 0
  · rw [if_pos h5, no _ rfl, decide_eq_false (by omega : ¬ 0 ≤ st)]; rfl
  rw [if_neg h5, decide_eq_true (by omega : 0 ≤ st)]
  by_cases h6 : st > 63
  · rw [no _ (decide_eq_true h6), decide_eq_false (by omega : ¬ st < 8 * bytes)]; rfl
  simp only [phaetonref15_Right.j0]
  rw [decide_eq_false h6, if_neg (by decide), fAll k st ln big sgn mul add (by omega) (by omega) (by omega), Option.bind_some]
  have L := rright_l0 bytes (by omega) (placesK big st ln.toNat) (by rw [placesK_len]; omega) st ln big sgn mul add k 0 (by omega) (by rw [placesK_len]; omega)
  rw [List.drop_zero] at L
  refine Eq.trans L ?_
  by_cases h7 : st < 8 * bytes
  · rw [decide_eq_true h7]; simp
  · have : (placesK big st ln.toNat).all (fun a => decide (a < 8 * bytes)) = false := by
      rw [List.all_eq_false]
      exact ⟨st, placesK_mem.2 ⟨0, by omega, rfl⟩, by simpa using by omega⟩
    rw [this, decide_eq_false h7]; simp
theorem rplaces_l0 (l : List Int) (hl : l.length ≤ 32) : ∀ (k i : Nat) (out : List Int), i ≤ l.length → out.length + i ≤ 32 → i < k → phaetonref15_Places.l0 k l out ((i : Int) - 1) = some (out ++ (l.take i).reverse)
  | 0, _, _, _, _, h => by omega
  | k + 1, i, out, hi, ho, h => by
    simp only [phaetonref15_Places.l0]
    cases i with
    | zero => rw [if_neg (by simp)]; simp
    | succ i =>
      have e : i < l.length := by omega
      rw [show ((i + 1 : Nat) : Int) - 1 = (i : Int) by omega, if_pos (by omega), if_pos (by omega), if_pos (by omega), if_pos (by omega), rdN l i e, wr _ (by omega), rplaces_l0 l hl k i _ (by omega) (by simp; omega) (by omega), List.take_succ_eq_append_getElem e, List.reverse_append, List.reverse_singleton, List.append_assoc]
theorem fRPlaces (k : Nat) (st ln : Int) (big sgn : Bool) (mul add : Int) (hk : 80 ≤ k) : phaetonref15_Places.f k st ln big sgn mul add = some (placesS st ln big sgn mul add) := by
  unfold phaetonref15_Places.f
  rw [fRRight k st ln big sgn mul add 8 hk, Option.bind_some]
  cases h : rightS st ln big sgn mul add 8 with
  | false => rw [if_neg (by decide), placesS_no h]
  | true =>
    have hR := rightS_iff.1 h
    rw [if_pos rfl, placesS_yes h, fAll k st ln big sgn mul add (by have := hR.s1; have := hR.s0; omega) (by have := hR.l1; have := hR.l32; omega) (by omega), Option.bind_some]
    have hl : (placesK big st ln.toNat).length ≤ 32 := by rw [placesK_len]; have := hR.l32; omega
    unfold plS
    cases big with
    | false => simp
    | true =>
      have L := rplaces_l0 (placesK true st ln.toNat) hl k (placesK true st ln.toNat).length [] (Nat.le_refl _) (by simpa using hl) (by omega)
      rw [if_pos rfl, if_pos rfl, wr _ (by omega), L]
      simp

/-! ### Put -/
theorem and_one (x : Int) (h : -9223372036854775808 ≤ x ∧ x < 9223372036854775808) : Go.bits .and .i64 x 1 = x % 2 := by
  show IntKind.i64.wrap ((BitVec.ofInt 64 x &&& BitVec.ofInt 64 1).toNat : Int) = _
  rw [BitVec.toNat_and, BitVec.toNat_ofInt, show (BitVec.ofInt 64 1).toNat = 1 from rfl, Nat.and_one_is_mod, IntKind.wrap_i64]
  omega
theorem pow_bd (i : Nat) (n : Int) (h : -9223372036854775808 ≤ n ∧ n < 9223372036854775808) : -9223372036854775808 ≤ n / 2 ^ i ∧ n / 2 ^ i < 9223372036854775808 := by
  have hp := two_pos i
  constructor
  · rw [Int.le_ediv_iff_mul_le hp]
    have : (-9223372036854775808 : Int) * 2 ^ i ≤ -9223372036854775808 * 1 := Int.mul_le_mul_of_nonpos_left (by omega) (by omega)
    omega
  · rw [Int.ediv_lt_iff_lt_mul hp]
    have : (9223372036854775808 : Int) * 1 ≤ 9223372036854775808 * 2 ^ i := Int.mul_le_mul_of_nonneg_left (by omega) (by omega)
    omega
theorem bit_cond (n : Int) (i : Nat) (hi : i < 64) (h : -9223372036854775808 ≤ n ∧ n < 9223372036854775808) : Go.bits .and .i64 (shr .i64 n (i : Int)) 1 = nb n i := by
  have e : shr .i64 n (i : Int) = n / 2 ^ i := by unfold shr; rw [Int.toNat_natCast, show min i (IntKind.i64).bits = i from Nat.min_eq_left (by show i ≤ 64; omega)]
  rw [e, and_one _ (pow_bd i n h)]; rfl
theorem put_l0 (n : Int) (hn : -9223372036854775808 ≤ n ∧ n < 9223372036854775808) (ps : List Int) (hl : ps.length ≤ 32) : ∀ (k i : Nat) (b : List Int), wfB b → b.length ≤ 8 → (∀ p ∈ ps, 0 ≤ p ∧ p < 8 * b.length) → i ≤ ps.length → ps.length - i < k → sig_Put.l0 k n b ps (ps.length : Int) (i : Int) = some (putL n (ps.drop i) i b, true)
  | 0, _, _, _, _, _, _, h => by omega
  | k + 1, i, b, hb, hb8, hp, hi, h => by
    simp only [sig_Put.l0]
    by_cases e : i < ps.length
    · have h0 := hp _ (List.getElem_mem e)
      have hd : ps.drop i = ps[i] :: ps.drop (i + 1) := List.drop_eq_getElem_cons e
      rw [if_pos (by omega), if_pos (by omega), if_pos (by omega), rdN ps i e, wr1 i (by omega), hd, putL]
      have IH := fun b' hb' (hl' : b'.length = b.length) => put_l0 n hn ps hl k (i + 1) b' hb' (by omega) (by rw [hl']; exact hp) (by omega) (by omega)
      generalize ps[i] = a at *
      rw [Int.tmod_eq_emod_of_nonneg h0.1, Int.tdiv_eq_ediv_of_nonneg h0.1, wr _ (by omega), if_pos (by omega), if_pos (by omega), if_pos (by omega), Option.bind_some]
      obtain ⟨x, hx⟩ := of_byte (rd_in hb (a / 8))
      have hj : (((⟨(a % 8).toNat, by omega⟩ : Fin 8).val : Nat) : Int) = a % 8 := by simp; omega
      have hc := byte_clear x ⟨(a % 8).toNat, by omega⟩
      rw [hj, ← hx] at hc
      have hs : b.set (a / 8).toNat (Go.bits .andNot .u8 (rd b (a / 8)) (shl .u8 1 (a % 8))) = setA b a 0 := by rw [hc.1]; rfl
      rw [hs, bit_cond n i (by omega) hn]
      have hr : rd (setA b a 0) (a / 8) = stepB (rd b (a / 8)) (a % 8).toNat 0 := by unfold setA; rw [rd_set b _ _ (by omega) (by omega), if_pos rfl]
      have h1 : (setA b a 0).set (a / 8).toNat (Go.bits .or .u8 (rd (setA b a 0) (a / 8)) (shl .u8 1 (a % 8))) = setA b a 1 := by
        rw [hr, hc.2]; unfold setA; rw [List.set_set]
      rw [h1]
      rcases nb01 n i with h2 | h2
      · rw [h2, if_neg (by decide), IH _ (setA_wf hb a (.inl rfl)) (setA_len ..)]
      · rw [h2, if_pos rfl, IH _ (setA_wf hb a (.inr rfl)) (setA_len ..)]
    · rw [if_neg (by omega), List.drop_of_length_le (by omega)]; rfl
theorem fits_bd {ln : Int} (h : 1 ≤ ln ∧ ln ≤ 32) {sgn : Bool} {n : Int} (hf : fitsS ln sgn n = true) : -4294967296 ≤ n ∧ n < 4294967296 := by
  unfold fitsS at hf
  have h1 := pow_le (ln.toNat - 1) (by omega)
  have h2 := pow_le ln.toNat (by omega)
  cases sgn <;> simp at hf <;> omega
/-- What Put answers. -/
def putS (b : List Int) (st ln : Int) (big sgn : Bool) (mul add n : Int) : List Int × Bool :=
  if rightS st ln big sgn mul add b.length = true then (if fitsS ln sgn n = true then (putL n (plS st ln big) 0 b, true) else ([], false)) else ([], false)
theorem fPut (k : Nat) (b : List Int) (st ln : Int) (big sgn : Bool) (mul add n : Int) (hb : wfB b) (hk : 50 ≤ k) : sig_Put.f k b st ln big sgn mul add n = some (putS b st ln big sgn mul add n) := by
  obtain ⟨k, rfl⟩ : ∃ j, k = j + 1 := ⟨k - 1, by omega⟩
  unfold sig_Put.f putS
  simp only [sig_Right.f, Option.bind_some]
  cases h : rightS st ln big sgn mul add b.length with
  | false =>
    rw [if_neg (by decide), if_neg (by decide)]
    rw [sig_Put.j0]
    rw [if_pos rfl]
  | true =>
    have hR := rightS_iff.1 h
    have h8 := right_eight h
    have hln : 1 ≤ ln ∧ ln ≤ 32 := ⟨hR.l1, hR.l32⟩
    rw [if_pos rfl, if_pos rfl, fFits _ _ _ _ _ _ _ hln, Option.bind_some]
    rw [sig_Put.j0]
    cases hf : fitsS ln sgn n with
    | false => rw [if_pos (by decide), if_neg (by decide)]
    | true =>
      have hbd := fits_bd hln hf
      have hlen : b.length ≤ 8 := by have := hR.b8; omega
      have hpl := plS_len st ln big
      rw [if_neg (by decide), if_pos rfl, Option.bind_some, if_pos (by simp; omega)]
      simp only [sig_Places.f, Option.bind_some, List.nil_append]
      rw [placesS_yes h8]
      have L := put_l0 n (by omega) (plS st ln big) (by omega) k 0 b hb hlen (plS_in hR) (by omega) (by omega)
      exact L

theorem putL_congr (n m : Int) : ∀ (ps : List Int) (i : Nat) (b : List Int), (∀ j, j < ps.length → nb n (i + j) = nb m (i + j)) → putL n ps i b = putL m ps i b
  | [], _, _, _ => rfl
  | p :: ps, i, b, h => by
    have h0 := h 0 (by simp)
    rw [Nat.add_zero] at h0
    rw [putL, putL, h0]
    exact putL_congr n m ps (i + 1) _ (fun j hj => by
      have := h (j + 1) (by simpa using hj)
      rw [show i + (j + 1) = i + 1 + j by omega] at this
      exact this)
theorem step_ref {x : Int} (hx : 0 ≤ x ∧ x < 256) {j : Nat} (hj : j < 8) {v : Int} (hv : v = 0 ∨ v = 1) :
    (wrap64 ((wrap64 x) + (wrap64 ((wrap64 (v - (Int.tmod (wrap64 (Int.tdiv (wrap64 x) (2 ^ j))) 2))) * 2 ^ j)))) % 256 = stepB x j v := by
  have hr := stepB_range hx hj hv
  have hp := two_pos j
  have hp2 : (2 : Nat) ^ j ≤ 128 := Nat.le_trans (Nat.pow_le_pow_right (by decide) (by omega : j ≤ 7)) (Nat.le_refl (2 ^ 7))
  have e1 : ((2 ^ j : Nat) : Int) = 2 ^ j := by push_cast; rfl
  have hd : 0 ≤ x / 2 ^ j := Int.ediv_nonneg hx.1 (by omega)
  have hd2 : x / 2 ^ j ≤ x := Int.ediv_le_self _ hx.1
  rw [wr x (by omega), Int.tdiv_eq_ediv_of_nonneg hx.1, wr (x / 2 ^ j) (by omega), Int.tmod_eq_emod_of_nonneg hd]
  unfold stepB at hr ⊢
  have h01 := bit01 (x / 2 ^ j)
  rw [wr (v - x / 2 ^ j % 2) (by omega)]
  have hb : -128 ≤ (v - x / 2 ^ j % 2) * 2 ^ j ∧ (v - x / 2 ^ j % 2) * 2 ^ j ≤ 128 := by
    rcases hv with rfl | rfl <;> rcases h01 with h | h <;> rw [h] <;> omega
  rw [wr ((v - x / 2 ^ j % 2) * 2 ^ j) (by omega), wr _ (by omega)]
  omega
theorem nb_half (n : Int) (i : Nat) : n / 2 ^ i / 2 = n / 2 ^ (i + 1) := by
  rw [Int.ediv_ediv_of_nonneg (by have := two_pos i; omega), ← Int.pow_succ]
theorem rput_l0 (n : Int) (hn : 0 ≤ n ∧ n < 9223372036854775808) (ps : List Int) (hl : ps.length ≤ 32) : ∀ (k i : Nat) (b : List Int), wfB b → b.length ≤ 8 → (∀ p ∈ ps, 0 ≤ p ∧ p < 8 * b.length) → i ≤ ps.length → ps.length - i + 41 < k → phaetonref15_Put.l0 k (n / 2 ^ i) b ps (i : Int) = some (putL n (ps.drop i) i b, true)
  | 0, _, _, _, _, _, _, h => by omega
  | k + 1, i, b, hb, hb8, hp, hi, h => by
    simp only [phaetonref15_Put.l0]
    by_cases e : i < ps.length
    · have h0 := hp _ (List.getElem_mem e)
      have hd : ps.drop i = ps[i] :: ps.drop (i + 1) := List.drop_eq_getElem_cons e
      rw [if_pos (by omega), if_pos (by omega), rdN ps i e, wr1 i (by omega), hd, putL]
      have IH := rput_l0 n hn ps hl k (i + 1) (setA b ps[i] (nb n i)) (setA_wf hb _ (nb01 n i)) (by rw [setA_len]; exact hb8) (by rw [setA_len]; exact hp) (by omega) (by omega)
      generalize ps[i] = a at *
      have hpw := pow_bd i n (by omega)
      have hpn : 0 ≤ n / 2 ^ i := Int.ediv_nonneg hn.1 (by have := two_pos i; omega)
      rw [Int.tmod_eq_emod_of_nonneg h0.1, Int.tdiv_eq_ediv_of_nonneg h0.1, wr (a / 8) (by omega), if_pos (by omega), if_pos (by omega), fPower k (a % 8) (by omega) (by omega), Option.bind_some, if_neg (by have := two_pos (a % 8).toNat; omega), Option.bind_some, Int.tdiv_eq_ediv_of_nonneg hpn, Int.tmod_eq_emod_of_nonneg hpn, wr (n / 2 ^ i / 2) (by omega), nb_half]
      have hs := step_ref (rd_in hb (a / 8)) (j := (a % 8).toNat) (by omega) (nb01 n i)
      unfold nb at hs
      rw [hs]
      exact IH
    · rw [if_neg (by omega), List.drop_of_length_le (by omega)]; rfl
theorem fRPut (k : Nat) (b : List Int) (st ln : Int) (big sgn : Bool) (mul add n : Int) (hb : wfB b) (hk : 90 ≤ k) : phaetonref15_Put.f k b st ln big sgn mul add n = some (putS b st ln big sgn mul add n) := by
  obtain ⟨k, rfl⟩ : ∃ j, k = j + 2 := ⟨k - 2, by omega⟩
  unfold phaetonref15_Put.f putS
  rw [fRRight _ _ _ _ _ _ _ _ (by omega), Option.bind_some]
  cases h : rightS st ln big sgn mul add b.length with
  | false =>
    rw [if_neg (by decide), if_neg (by decide)]
    rw [phaetonref15_Put.j0]
    rw [if_pos rfl]
  | true =>
    have hR := rightS_iff.1 h
    have h8 := right_eight h
    have hln : 1 ≤ ln ∧ ln ≤ 32 := ⟨hR.l1, hR.l32⟩
    rw [if_pos rfl, if_pos rfl, fRFits _ _ _ _ _ _ _ _ hln (by omega), Option.bind_some]
    rw [phaetonref15_Put.j0]
    cases hf : fitsS ln sgn n with
    | false => rw [if_pos (by decide), if_neg (by decide)]
    | true =>
      have hbd := fits_bd hln hf
      have h32 := pow_le ln.toNat (by omega)
      have hpp := two_pos ln.toNat
      have hlen : b.length ≤ 8 := by have := hR.b8; omega
      have hpl := plS_len st ln big
      rw [if_neg (by decide), if_pos rfl]
      have J : ∀ m : Int, 0 ≤ m → m < 9223372036854775808 → (∀ j, j < ln.toNat → nb m j = nb n j) → phaetonref15_Put.j1 (k + 1) b m st ln big sgn mul add = some (putL n (plS st ln big) 0 b, true) := by
        intro m hm0 hm1 hmn
        rw [phaetonref15_Put.j1]
        rw [Option.bind_some, if_pos (by simp; omega), fRPlaces _ _ _ _ _ _ _ (by omega), Option.bind_some, List.nil_append, placesS_yes h8]
        have L := rput_l0 m ⟨hm0, hm1⟩ (plS st ln big) (by omega) k 0 b hb hlen (plS_in hR) (by omega) (by omega)
        rw [Int.pow_zero, Int.ediv_one, List.drop_zero] at L
        rw [show ((0 : Nat) : Int) = 0 from rfl] at L
        rw [L, putL_congr m n _ _ _ (fun j hj => by rw [Nat.zero_add]; exact hmn j (by omega))]
      by_cases c : n < 0
      · rw [if_pos c, fPower _ _ (by omega) (by omega), Option.bind_some]
        have hge : -2 ^ ln.toNat ≤ n := by
          have ph := pow_half hln.1
          unfold fitsS at hf
          cases sgn <;> simp at hf <;> omega
        rw [wr _ (by omega)]
        refine J _ (by omega) (by omega) (fun j hj => ?_)
        have := nb_add n 1 j ln.toNat hj
        rw [Int.one_mul] at this
        exact this
      · rw [if_neg c]
        exact J n (by omega) (by omega) (fun j _ => rfl)

/-! ### Get -/
theorem plS_getD {st ln : Int} {big sgn : Bool} {mul add bytes : Int} (h : RightI st ln big sgn mul add bytes) (j : Nat) (hj : j < ln.toNat) : 0 ≤ (plS st ln big).getD j 0 ∧ (plS st ln big).getD j 0 < 8 * bytes := by
  have hl := plS_len st ln big
  have hj2 : j < (plS st ln big).length := by omega
  rw [List.getD_eq_getElem?_getD, List.getElem?_eq_getElem hj2]
  exact plS_in h _ (List.getElem_mem hj2)
/-- What Get answers. -/
def gotS (b : List Int) (st ln : Int) (big sgn : Bool) (mul add : Int) : Int × Bool :=
  if rightS st ln big sgn mul add b.length = true then (signS ln sgn (accN b (plS st ln big) ln.toNat), true) else (0, false)
theorem fGet (b : List Int) (st ln : Int) (big sgn : Bool) (mul add : Int) (hb : wfB b) : sig_Get.f b st ln big sgn mul add = some (gotS b st ln big sgn mul add) := by
  unfold sig_Get.f getS gotS
  cases h : rightS st ln big sgn mul add b.length with
  | false => rw [if_neg (by decide), if_neg (by decide)]
  | true =>
    have hR := rightS_iff.1 h
    rw [if_pos rfl, if_pos rfl, placesS_yes (right_eight h), accK_eq hb ln.toNat (by have := hR.l32; omega) (fun j hj => (plS_getD hR j hj).1)]
theorem rget_l0 (b : List Int) (hb : wfB b) (hb8 : b.length ≤ 8) (st ln : Int) (hln : 1 ≤ ln ∧ ln ≤ 32) (big sgn : Bool) (mul add : Int) (ps : List Int) (hl : ps.length = ln.toNat) (hp : ∀ p ∈ ps, 0 ≤ p ∧ p < 8 * b.length) : ∀ (k i : Nat), i ≤ ps.length → ps.length - i + 41 < k → phaetonref15_Get.l0 k b (accN b ps i) ps (i : Int) st ln big sgn mul add = some (signS ln sgn (accN b ps ln.toNat), true)
  | 0, _, _, h => by omega
  | k + 1, i, hi, h => by
    simp only [phaetonref15_Get.l0]
    have hpi : i ≤ 32 := by omega
    by_cases e : i < ps.length
    · have h0 := hp _ (List.getElem_mem e)
      have hg : ps.getD i 0 = ps[i] := by rw [List.getD_eq_getElem?_getD, List.getElem?_eq_getElem e]; rfl
      have IH := rget_l0 b hb hb8 st ln hln big sgn mul add ps hl hp k (i + 1) (by omega) (by omega)
      rw [accN, hg] at IH
      have hr := accN_range b ps i
      rw [if_pos (by omega), if_pos (by omega), rdN ps i e, wr1 i (by omega)]
      generalize accN b ps i = acc at *
      generalize ps[i] = a at *
      have h32 := pow_le i (by omega)
      have hpp := two_pos i
      have hx := rd_in hb (a / 8)
      have hd : 0 ≤ rd b (a / 8) / 2 ^ (a % 8).toNat := Int.ediv_nonneg hx.1 (by have := two_pos (a % 8).toNat; omega)
      have hd2 : rd b (a / 8) / 2 ^ (a % 8).toNat ≤ rd b (a / 8) := Int.ediv_le_self _ hx.1
      rw [Int.tmod_eq_emod_of_nonneg h0.1, Int.tdiv_eq_ediv_of_nonneg h0.1, wr (a / 8) (by omega), if_pos (by omega), if_pos (by omega), fPower k (a % 8) (by omega) (by omega), Option.bind_some, if_neg (by have := two_pos (a % 8).toNat; omega), fPower k (i : Int) (by omega) (by omega), Option.bind_some, Int.toNat_natCast, wr (rd b (a / 8)) (by omega), Int.tdiv_eq_ediv_of_nonneg hx.1, wr (rd b (a / 8) / 2 ^ (a % 8).toNat) (by omega), Int.tmod_eq_emod_of_nonneg hd]
      have hbit : rd b (a / 8) / 2 ^ (a % 8).toNat % 2 = bitA b a := rfl
      rw [hbit]
      have h01 := bitA01 b a
      have hm : 0 ≤ bitA b a * 2 ^ i ∧ bitA b a * 2 ^ i ≤ 4294967296 := by rcases h01 with h | h <;> rw [h] <;> omega
      rw [wr (bitA b a * 2 ^ i) (by omega), wr _ (by omega)]
      exact IH
    · have : i = ln.toNat := by omega
      subst this
      have hr := accN_range b ps ln.toNat
      have hfs := fits_sign hln sgn _ hr
      have h32 := pow_le ln.toNat (by omega)
      rw [if_neg (by omega), fRFits _ _ _ _ _ _ _ _ hln (by omega), Option.bind_some]
      generalize accN b ps ln.toNat = x at *
      have ph := pow_half hln.1
      have hp2 := two_pos (ln.toNat - 1)
      obtain ⟨he, hs⟩ := ends_eq hln sgn
      cases hf : fitsS ln sgn x with
      | true =>
        rw [if_pos rfl]
        have := sign_of hln sgn x hf
        rw [Int.emod_eq_of_lt hr.1 hr.2] at this
        rw [this]
      | false =>
        rw [if_neg (by decide), fPower _ _ (by omega) (by omega), Option.bind_some]
        unfold fitsS at hf
        unfold signS
        rw [he, hs]
        cases sgn with
        | false => simp at hf; omega
        | true =>
          simp at hf
          simp only [if_true]
          rw [if_pos (by omega)]
theorem fRGet (k : Nat) (b : List Int) (st ln : Int) (big sgn : Bool) (mul add : Int) (hb : wfB b) (hk : 90 ≤ k) : phaetonref15_Get.f k b st ln big sgn mul add = some (gotS b st ln big sgn mul add) := by
  unfold phaetonref15_Get.f gotS
  rw [fRRight _ _ _ _ _ _ _ _ (by omega), Option.bind_some]
  cases h : rightS st ln big sgn mul add b.length with
  | false => rw [if_neg (by decide), if_neg (by decide)]
  | true =>
    have hR := rightS_iff.1 h
    have hln : 1 ≤ ln ∧ ln ≤ 32 := ⟨hR.l1, hR.l32⟩
    have hlen : b.length ≤ 8 := by have := hR.b8; omega
    have hpl := plS_len st ln big
    rw [if_pos rfl, if_pos rfl, fRPlaces _ _ _ _ _ _ _ (by omega), Option.bind_some, placesS_yes (right_eight h)]
    exact rget_l0 b hb hlen st ln hln big sgn mul add (plS st ln big) hpl (plS_in hR) k 0 (by omega) (by omega)

/-! ### Mean -/
def meanS (st ln : Int) (big sgn : Bool) (mul add n : Int) : Int :=
  if rightS st ln big sgn mul add 8 = true then (if fitsS ln sgn n = true then mul * n + add else 0) else 0
theorem mul_bd {m n : Int} (hm : -1000000 ≤ m ∧ m ≤ 1000000) (hn : -4294967296 ≤ n ∧ n < 4294967296) : -4294967296000000 ≤ m * n ∧ m * n ≤ 4294967296000000 := by
  have h1 : 0 ≤ (1000000 - m) * (4294967296 + n) := Int.mul_nonneg (by omega) (by omega)
  have h2 : 0 ≤ (1000000 + m) * (4294967296 - n) := Int.mul_nonneg (by omega) (by omega)
  have h3 : 0 ≤ (1000000 - m) * (4294967296 - n) := Int.mul_nonneg (by omega) (by omega)
  have h4 : 0 ≤ (1000000 + m) * (4294967296 + n) := Int.mul_nonneg (by omega) (by omega)
  rw [Int.sub_mul, Int.mul_add, Int.mul_add] at h1
  rw [Int.add_mul, Int.mul_sub, Int.mul_sub] at h2
  rw [Int.sub_mul, Int.mul_sub, Int.mul_sub] at h3
  rw [Int.add_mul, Int.mul_add, Int.mul_add] at h4
  omega
theorem mean_wr {st ln : Int} {big sgn : Bool} {mul add bytes n : Int} (hR : RightI st ln big sgn mul add bytes) (hf : fitsS ln sgn n = true) : wrap64 (wrap64 (mul * n) + add) = mul * n + add := by
  have h := mul_bd hR.m1 (fits_bd ⟨hR.l1, hR.l32⟩ hf)
  have ha := hR.a1
  rw [wr (mul * n) (by omega), wr _ (by omega)]
theorem fMean (st ln : Int) (big sgn : Bool) (mul add n : Int) : sig_Mean.f st ln big sgn mul add n = some (meanS st ln big sgn mul add n) := by
  unfold sig_Mean.f meanS
  simp only [sig_Right.f, Option.bind_some]
  cases h : rightS st ln big sgn mul add 8 with
  | false => rw [if_neg (by decide), if_neg (by decide)]
  | true =>
    have hR := rightS_iff.1 h
    rw [if_pos rfl, if_pos rfl, fFits _ _ _ _ _ _ _ ⟨hR.l1, hR.l32⟩, Option.bind_some]
    cases hf : fitsS ln sgn n with
    | false => rw [if_neg (by decide), if_neg (by decide)]
    | true => rw [if_pos rfl, if_pos rfl, mean_wr hR hf]
theorem fRMean (k : Nat) (st ln : Int) (big sgn : Bool) (mul add n : Int) (hk : 90 ≤ k) : phaetonref15_Mean.f k st ln big sgn mul add n = some (meanS st ln big sgn mul add n) := by
  unfold phaetonref15_Mean.f meanS
  rw [fRRight _ _ _ _ _ _ _ _ (by omega), Option.bind_some]
  cases h : rightS st ln big sgn mul add 8 with
  | false => rw [if_neg (by decide), if_neg (by decide)]
  | true =>
    have hR := rightS_iff.1 h
    rw [if_pos rfl, if_pos rfl, fRFits _ _ _ _ _ _ _ _ ⟨hR.l1, hR.l32⟩ (by omega), Option.bind_some]
    cases hf : fitsS ln sgn n with
    | false => rw [if_neg (by decide), if_neg (by decide)]
    | true => rw [if_pos rfl, if_pos rfl, mean_wr hR hf]

/-! ### The data -/
theorem fData (l : List Int) : phaetonlaw15_data.f l = some (l.take 8) := by
  have e : (mn (l.length : Int) 8).toNat = min l.length 8 := by unfold mn; split <;> omega
  unfold phaetonlaw15_data.f
  rw [Option.bind_some, if_pos (by unfold mn; split <;> omega), if_pos (by unfold mn; split <;> omega), e, List.nil_append]
  have e2 : l.take (min l.length 8) = l.take 8 := by
    rcases Nat.le_total l.length 8 with h | h
    · rw [Nat.min_eq_left h, List.take_of_length_le (Nat.le_refl _), List.take_of_length_le h]
    · rw [Nat.min_eq_right h]
  rw [e2, if_pos (by rw [List.length_nil, List.length_take]; omega)]
theorem wf_of {l : List Int} (h : ∀ z ∈ l, (Lit.int .u8 z).wf = true) : wfB l := fun x hx => of_u8 (h x hx)
theorem wf_take {l : List Int} (h : wfB l) (m : Nat) : wfB (l.take m) := fun x hx => h x (List.mem_of_mem_take hx)
theorem putS_wf {b : List Int} (hb : wfB b) (st ln : Int) (big sgn : Bool) (mul add n : Int) : wfB (putS b st ln big sgn mul add n).1 := by
  unfold putS
  split
  · split
    · exact putL_wf n _ 0 hb
    · intro x hx; simp at hx
  · intro x hx; simp at hx
theorem putS_len (b : List Int) (st ln : Int) (big sgn : Bool) (mul add n : Int) : (putS b st ln big sgn mul add n).1.length ≤ b.length := by
  unfold putS
  split
  · split
    · simp [putL_len]
    · simp
  · simp
end Go.Proofs.Ytcgkkjimonfhbaa.P
