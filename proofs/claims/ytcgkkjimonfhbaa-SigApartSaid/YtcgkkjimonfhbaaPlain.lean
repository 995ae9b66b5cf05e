/-
  Places and bits of a signal, in plain rows: a signal's places are unlike, a bit that is put stands, the others stay. Conditions: rows of bytes, places within them.
-/
import Derived.Test.YtcgkkjimonfhbaaGApart
import Derived.Test.YtcgkkjimonfhbaaOpens
import Derived.Test.YtcgkkjimonfhbaaOwn
import Derived.Test.YtcgkkjimonfhbaaBits
namespace Go.Proofs.Ytcgkkjimonfhbaa.P
open Go.RowKit Go.Proofs.YtcgkkjimonfhbaaOwn Go.Proofs.YtcgkkjimonfhbaaW.PrintWords Go.Proofs.YtcgkkjimonfhbaaW.PrintLast Go.Proofs.YtcgkkjimonfhbaaW.PrintMore
set_option linter.unusedVariables false
set_option linter.unusedSimpArgs false

theorem wr (x : Int) (h : -9223372036854775808 ≤ x ∧ x < 9223372036854775808) : wrap64 x = x := by unfold wrap64; omega
theorem wr1 (i : Nat) (h : i < 9223372036854775807) : wrap64 ((i : Int) + 1) = ((i + 1 : Nat) : Int) := by rw [wr _ (by omega)]; omega
theorem rdN (l : List Int) (i : Nat) (h : i < l.length) : rd l (i : Int) = l[i] := by simp [rd, List.getD_eq_getElem?_getD, List.getElem?_eq_getElem h]
theorem of_u8 {a : Int} (h : (Lit.int .u8 a).wf = true) : 0 ≤ a ∧ a < 256 := by
  have h2 : 0 ≤ a ∧ a ≤ 255 := by simpa [Lit.wf, IntKind.min, IntKind.max, IntKind.signed, IntKind.bits] using h
  omega

/-! ### Places -/
/-- A place's rank along its walk. -/
def keyS (big : Bool) (a : Int) : Int := if big = true then 8 * (a / 8) + 7 - a % 8 else a
theorem key_next (big : Bool) (a : Int) (h : 0 ≤ a) : 0 ≤ nxtS big a ∧ keyS big (nxtS big a) = keyS big a + 1 := by
  unfold keyS nxtS
  cases big with
  | false => simp; omega
  | true =>
    simp only [if_true]
    split <;> omega
theorem key_atK (big : Bool) (st : Int) (h : 0 ≤ st) : ∀ k : Nat, 0 ≤ atK big st k ∧ keyS big (atK big st k) = keyS big st + k
  | 0 => ⟨h, by simp [atK]⟩
  | k + 1 => by
    have ih := key_atK big st h k
    have := key_next big (atK big st k) ih.1
    exact ⟨this.1, by rw [atK, this.2, ih.2]; push_cast; omega⟩
theorem key_byte (big : Bool) (a : Int) (h : 0 ≤ a) : keyS big a / 8 = a / 8 ∧ 0 ≤ keyS big a := by
  unfold keyS; cases big <;> simp <;> omega
theorem key_inj (big : Bool) (a b : Int) (h : keyS big a = keyS big b) : a = b := by
  unfold keyS at h; cases big <;> simp at h <;> omega
theorem placesK_mem {big : Bool} {st a : Int} {n : Nat} : a ∈ placesK big st n ↔ ∃ k, k < n ∧ a = atK big st k := by
  unfold placesK
  rw [List.mem_map]
  exact ⟨fun ⟨k, hk, e⟩ => ⟨k, List.mem_range.1 hk, e.symm⟩, fun ⟨k, hk, e⟩ => ⟨k, List.mem_range.2 hk, e.symm⟩⟩
theorem placesK_nodup (big : Bool) (st : Int) (h : 0 ≤ st) (n : Nat) : (placesK big st n).Nodup := by
  unfold placesK
  rw [List.nodup_iff_pairwise_ne, List.pairwise_map]
  refine List.Pairwise.imp_of_mem ?_ (List.nodup_iff_pairwise_ne.1 List.nodup_range)
  intro i j _ _ hij e
  have hi := (key_atK big st h i).2
  have hj := (key_atK big st h j).2
  rw [e] at hi
  omega
/-- The last place's byte is the farthest. -/
theorem placesK_far (big : Bool) (st : Int) (h : 0 ≤ st) (n : Nat) (m : Int) : (∀ a ∈ placesK big st n, a < 8 * m) ↔ (n = 0 ∨ keyS big st + (n : Int) ≤ 8 * m) := by
  constructor
  · intro ha
    rcases Nat.eq_zero_or_pos n with h0 | h0
    · exact .inl h0
    · right
      have h1 := ha (atK big st (n - 1)) (placesK_mem.2 ⟨n - 1, by omega, rfl⟩)
      have h2 := key_atK big st h (n - 1)
      have h3 := key_byte big _ h2.1
      omega
  · rintro (h0 | h0) a ha
    · obtain ⟨k, hk, _⟩ := placesK_mem.1 ha; omega
    · obtain ⟨k, hk, rfl⟩ := placesK_mem.1 ha
      have h2 := key_atK big st h k
      have h3 := key_byte big _ h2.1
      omega

/-! ### A signal that is right -/
structure RightI (st ln : Int) (big sgn : Bool) (mul add bytes : Int) : Prop where
  b0 : 0 ≤ bytes
  b8 : bytes ≤ 8
  l1 : 1 ≤ ln
  l32 : ln ≤ 32
  s0 : 0 ≤ st
  s1 : st < 8 * bytes
  far : ∀ a ∈ placesK big st ln.toNat, a < 8 * bytes
  m0 : mul ≠ 0
  m1 : -1000000 ≤ mul ∧ mul ≤ 1000000
  a1 : -1000000000 ≤ add ∧ add ≤ 1000000000
theorem rightS_iff {st ln : Int} {big sgn : Bool} {mul add bytes : Int} : rightS st ln big sgn mul add bytes = true ↔ RightI st ln big sgn mul add bytes := by
  unfold rightS withinB
  simp only [Bool.and_eq_true, decide_eq_true_eq, List.all_eq_true, Bool.not_eq_true', beq_eq_false_iff_ne]
  constructor
  · rintro ⟨h1, h2, h3, h4, h5, h6, h7, h8, ⟨h9, h10⟩, h11, h12⟩
    exact ⟨h1, h2, h3, h4, h5, h6, h7, h8, ⟨by omega, h10⟩, by omega, h12⟩
  · rintro ⟨h1, h2, h3, h4, h5, h6, h7, h8, ⟨h9, h10⟩, h11, h12⟩
    exact ⟨h1, h2, h3, h4, h5, h6, h7, h8, ⟨by omega, h10⟩, by omega, h12⟩
/-- The places, in the value's order. -/
def plS (st ln : Int) (big : Bool) : List Int := if big = true then (placesK big st ln.toNat).reverse else placesK big st ln.toNat
theorem placesS_yes {st ln : Int} {big sgn : Bool} {mul add : Int} (h : rightS st ln big sgn mul add 8 = true) : placesS st ln big sgn mul add = plS st ln big := by unfold placesS plS; rw [if_pos h]
theorem placesS_no {st ln : Int} {big sgn : Bool} {mul add : Int} (h : rightS st ln big sgn mul add 8 = false) : placesS st ln big sgn mul add = [] := by unfold placesS; rw [if_neg (by rw [h]; decide)]
theorem plS_len (st ln : Int) (big : Bool) : (plS st ln big).length = ln.toNat := by unfold plS; split <;> simp [placesK_len]
theorem plS_mem {st ln : Int} {big : Bool} {a : Int} : a ∈ plS st ln big ↔ a ∈ placesK big st ln.toNat := by unfold plS; split <;> simp
theorem plS_nodup (st ln : Int) (big : Bool) (h : 0 ≤ st) : (plS st ln big).Nodup := by
  unfold plS
  have := placesK_nodup big st h ln.toNat
  split
  · rw [List.nodup_iff_pairwise_ne, List.pairwise_reverse]
    exact List.Pairwise.imp (fun h e => h e.symm) (List.nodup_iff_pairwise_ne.1 this)
  · exact this
theorem plS_in {st ln : Int} {big sgn : Bool} {mul add bytes : Int} (h : RightI st ln big sgn mul add bytes) : ∀ a ∈ plS st ln big, 0 ≤ a ∧ a < 8 * bytes := fun a ha => by
  have ha := plS_mem.1 ha
  refine ⟨?_, h.far a ha⟩
  obtain ⟨k, _, rfl⟩ := placesK_mem.1 ha
  exact (key_atK big st h.s0 k).1

/-! ### Bytes -/
def wfB (b : List Int) : Prop := ∀ x ∈ b, 0 ≤ x ∧ x < 256
/-- A byte with a bit put. -/
def stepB (x : Int) (j : Nat) (v : Int) : Int := x + (v - x / 2 ^ j % 2) * 2 ^ j
theorem byte_all : ∀ (x : Fin 256) (j : Fin 8) (v : Fin 2), (0 ≤ stepB x.val j.val v.val ∧ stepB x.val j.val v.val < 256) ∧ stepB x.val j.val v.val / 2 ^ j.val % 2 = (v.val : Int) := by decide +kernel
theorem byte_other : ∀ (x : Fin 256) (j i : Fin 8) (v : Fin 2), i ≠ j → stepB x.val j.val v.val / 2 ^ i.val % 2 = (x.val : Int) / 2 ^ i.val % 2 := by decide +kernel
theorem byte_clear : ∀ (x : Fin 256) (j : Fin 8), Go.bits .andNot .u8 (x.val : Int) (shl .u8 1 (j.val : Int)) = stepB x.val j.val 0 ∧ Go.bits .or .u8 (stepB x.val j.val 0) (shl .u8 1 (j.val : Int)) = stepB x.val j.val 1 := by decide +kernel
theorem byte_bit : ∀ (x : Fin 256) (j : Fin 8), Go.bits .and .u8 ((x.val : Int) / 2 ^ j.val) 1 = (x.val : Int) / 2 ^ j.val % 2 := by decide +kernel
theorem byte_ext : ∀ (x : Fin 256), (x.val : Int) = x.val / 2 ^ 0 % 2 + x.val / 2 ^ 1 % 2 * 2 + x.val / 2 ^ 2 % 2 * 4 + x.val / 2 ^ 3 % 2 * 8 + x.val / 2 ^ 4 % 2 * 16 + x.val / 2 ^ 5 % 2 * 32 + x.val / 2 ^ 6 % 2 * 64 + x.val / 2 ^ 7 % 2 * 128 := by decide +kernel
theorem of_byte {x : Int} (h : 0 ≤ x ∧ x < 256) : ∃ y : Fin 256, x = (y.val : Int) := ⟨⟨x.toNat, by omega⟩, by simp; omega⟩
theorem of_bit {v : Int} (h : v = 0 ∨ v = 1) : ∃ y : Fin 2, v = (y.val : Int) := by
  rcases h with rfl | rfl
  · exact ⟨0, rfl⟩
  · exact ⟨1, rfl⟩
theorem stepB_range {x : Int} (h : 0 ≤ x ∧ x < 256) {j : Nat} (hj : j < 8) {v : Int} (hv : v = 0 ∨ v = 1) : 0 ≤ stepB x j v ∧ stepB x j v < 256 := by
  obtain ⟨x, rfl⟩ := of_byte h; obtain ⟨v, rfl⟩ := of_bit hv
  exact (byte_all x ⟨j, hj⟩ v).1
theorem stepB_bit {x : Int} (h : 0 ≤ x ∧ x < 256) {j : Nat} (hj : j < 8) {v : Int} (hv : v = 0 ∨ v = 1) : stepB x j v / 2 ^ j % 2 = v := by
  obtain ⟨x, rfl⟩ := of_byte h; obtain ⟨v, rfl⟩ := of_bit hv
  exact (byte_all x ⟨j, hj⟩ v).2
theorem stepB_other {x : Int} (h : 0 ≤ x ∧ x < 256) {j i : Nat} (hj : j < 8) (hi : i < 8) (hij : i ≠ j) {v : Int} (hv : v = 0 ∨ v = 1) : stepB x j v / 2 ^ i % 2 = x / 2 ^ i % 2 := by
  obtain ⟨x, rfl⟩ := of_byte h; obtain ⟨v, rfl⟩ := of_bit hv
  exact byte_other x ⟨j, hj⟩ ⟨i, hi⟩ v (fun e => hij (congrArg Fin.val e))
theorem stepB_same (x : Int) (j : Nat) : stepB x j (x / 2 ^ j % 2) = x := by unfold stepB; simp
theorem byte_eq {x y : Int} (hx : 0 ≤ x ∧ x < 256) (hy : 0 ≤ y ∧ y < 256) (h : ∀ j : Nat, j < 8 → x / 2 ^ j % 2 = y / 2 ^ j % 2) : x = y := by
  obtain ⟨x, rfl⟩ := of_byte hx; obtain ⟨y, rfl⟩ := of_byte hy
  rw [byte_ext x, byte_ext y, h 0 (by omega), h 1 (by omega), h 2 (by omega), h 3 (by omega), h 4 (by omega), h 5 (by omega), h 6 (by omega), h 7 (by omega)]
theorem bit01 (x : Int) : x % 2 = 0 ∨ x % 2 = 1 := by omega

/-! ### Bits of a row -/
/-- The bit at a place of a row; a number's bit. -/
def bitA (b : List Int) (a : Int) : Int := rd b (a / 8) / 2 ^ (a % 8).toNat % 2
def nb (n : Int) (i : Nat) : Int := n / 2 ^ i % 2
theorem nb01 (n : Int) (i : Nat) : nb n i = 0 ∨ nb n i = 1 := bit01 _
theorem bitA01 (b : List Int) (a : Int) : bitA b a = 0 ∨ bitA b a = 1 := bit01 _
theorem rd_in {b : List Int} (hb : wfB b) (q : Int) : 0 ≤ rd b q ∧ rd b q < 256 := by
  unfold rd
  rw [List.getD_eq_getElem?_getD]
  cases e : b[q.toNat]? with
  | none => simp
  | some x => simp; exact hb x (List.mem_of_getElem? e)
/-- A row with one bit put. -/
def setA (b : List Int) (a : Int) (v : Int) : List Int := b.set (a / 8).toNat (stepB (rd b (a / 8)) (a % 8).toNat v)
theorem setA_len (b : List Int) (a v : Int) : (setA b a v).length = b.length := by simp [setA]
theorem setA_wf {b : List Int} (hb : wfB b) (a : Int) {v : Int} (hv : v = 0 ∨ v = 1) : wfB (setA b a v) := by
  intro x hx
  rcases List.mem_or_eq_of_mem_set hx with h | rfl
  · exact hb x h
  · exact stepB_range (rd_in hb _) (by omega) hv
theorem rd_set (b : List Int) (p q : Int) (hp : 0 ≤ p ∧ p < b.length) (hq : 0 ≤ q) (x : Int) : rd (b.set p.toNat x) q = if q = p then x else rd b q := by
  unfold rd
  rw [List.getD_eq_getElem?_getD, List.getD_eq_getElem?_getD, List.getElem?_set]
  by_cases h : q = p
  · subst h
    rw [if_pos rfl, if_pos (by omega), if_pos rfl]; rfl
  · rw [if_neg (by omega), if_neg h]
theorem bitA_setA {b : List Int} (hb : wfB b) (p a : Int) {v : Int} (hv : v = 0 ∨ v = 1) (hp : 0 ≤ p ∧ p < 8 * b.length) (ha : 0 ≤ a) : bitA (setA b p v) a = if a = p then v else bitA b a := by
  unfold bitA setA
  rw [rd_set b _ _ (by omega) (by omega)]
  by_cases h : a / 8 = p / 8
  · rw [if_pos h]
    by_cases e : a = p
    · subst e
      rw [if_pos rfl]
      exact stepB_bit (rd_in hb _) (by omega) hv
    · rw [if_neg e, stepB_other (rd_in hb _) (by omega) (by omega) (by omega) hv, h]
  · rw [if_neg h, if_neg (by intro e; exact h (by rw [e]))]
theorem setA_same (b : List Int) (a : Int) (h : 0 ≤ a ∧ a < 8 * b.length) : setA b a (bitA b a) = b := by
  unfold setA bitA
  rw [stepB_same]
  have h1 : (a / 8).toNat < b.length := by omega
  have : rd b (a / 8) = b[(a / 8).toNat] := by simp [rd, List.getD_eq_getElem?_getD, List.getElem?_eq_getElem h1]
  rw [this]
  exact List.set_getElem_self h1
/-- Rows of bytes that have the same bits are the same. -/
theorem row_ext {b c : List Int} (hb : wfB b) (hc : wfB c) (hl : b.length = c.length) (h : ∀ a : Int, 0 ≤ a → a < 8 * b.length → bitA b a = bitA c a) : b = c := by
  refine List.ext_getElem hl fun i h1 h2 => byte_eq (hb _ (List.getElem_mem h1)) (hc _ (List.getElem_mem h2)) fun j hj => ?_
  have := h (8 * (i : Int) + j) (by omega) (by omega)
  unfold bitA at this
  rw [show (8 * (i : Int) + j) / 8 = i by omega, show ((8 * (i : Int) + j) % 8).toNat = j by omega, rdN b i h1, rdN c i h2] at this
  exact this

/-- A number put at places, from its i-th bit on. -/
def putL (n : Int) : List Int → Nat → List Int → List Int
  | [], _, b => b
  | p :: ps, i, b => putL n ps (i + 1) (setA b p (nb n i))
theorem putL_len (n : Int) : ∀ (ps : List Int) (i : Nat) (b : List Int), (putL n ps i b).length = b.length
  | [], _, _ => rfl
  | p :: ps, i, b => by rw [putL, putL_len n ps, setA_len]
theorem putL_wf (n : Int) : ∀ (ps : List Int) (i : Nat) {b : List Int}, wfB b → wfB (putL n ps i b)
  | [], _, _, h => h
  | p :: ps, i, b, h => putL_wf n ps (i + 1) (setA_wf h p (nb01 n i))
theorem putL_other (n : Int) : ∀ (ps : List Int) (i : Nat) {b : List Int}, wfB b → (∀ p ∈ ps, 0 ≤ p ∧ p < 8 * b.length) → ∀ a, 0 ≤ a → a ∉ ps → bitA (putL n ps i b) a = bitA b a
  | [], _, _, _, _, _, _, _ => rfl
  | p :: ps, i, b, h, hp, a, ha, hn => by
    rw [putL, putL_other n ps (i + 1) (setA_wf h p (nb01 n i)) (fun q hq => by rw [setA_len]; exact hp q (List.mem_cons_of_mem _ hq)) a ha (fun hm => hn (List.mem_cons_of_mem _ hm)), bitA_setA h p a (nb01 n i) (hp p (List.mem_cons_self ..)) ha, if_neg (fun e => hn (by rw [e]; exact List.mem_cons_self ..))]
theorem putL_bit (n : Int) : ∀ (ps : List Int) (i : Nat) {b : List Int}, wfB b → (∀ p ∈ ps, 0 ≤ p ∧ p < 8 * b.length) → ps.Nodup → ∀ (j : Nat) (h : j < ps.length), bitA (putL n ps i b) ps[j] = nb n (i + j)
  | [], _, _, _, _, _, j, h => by simp at h
  | p :: ps, i, b, hb, hp, hn, j, h => by
    have hn' := List.nodup_cons.1 hn
    have hq : ∀ q ∈ ps, 0 ≤ q ∧ q < 8 * (setA b p (nb n i)).length := fun q hq => by rw [setA_len]; exact hp q (List.mem_cons_of_mem _ hq)
    rw [putL]
    cases j with
    | zero =>
      have h0 := hp p (List.mem_cons_self ..)
      rw [List.getElem_cons_zero, putL_other n ps (i + 1) (setA_wf hb p (nb01 n i)) hq p h0.1 hn'.1, bitA_setA hb p p (nb01 n i) h0 h0.1, if_pos rfl]; rfl
    | succ j =>
      rw [List.getElem_cons_succ, putL_bit n ps (i + 1) (setA_wf hb p (nb01 n i)) hq hn'.2 j (by simpa using h), show i + 1 + j = i + (j + 1) by omega]
theorem putL_same (n : Int) : ∀ (ps : List Int) (i : Nat) (b : List Int), (∀ p ∈ ps, 0 ≤ p ∧ p < 8 * b.length) → (∀ (j : Nat) (h : j < ps.length), bitA b ps[j] = nb n (i + j)) → putL n ps i b = b
  | [], _, _, _, _ => rfl
  | p :: ps, i, b, hp, hn => by
    have h0 : setA b p (nb n i) = b := by
      have := hn 0 (by simp)
      simp only [List.getElem_cons_zero, Nat.add_zero] at this
      rw [← this]; exact setA_same b p (hp p (List.mem_cons_self ..))
    rw [putL, h0]
    exact putL_same n ps (i + 1) b (fun q hq => hp q (List.mem_cons_of_mem _ hq)) (fun j h => by
      have := hn (j + 1) (by simpa using h)
      rw [List.getElem_cons_succ] at this
      rw [this, show i + 1 + j = i + (j + 1) by omega])

/-! ### Numbers -/
theorem two_pos (i : Nat) : (0 : Int) < 2 ^ i := Int.pow_pos (by decide)
/-- The number of the first so many places. -/
def accN (b ps : List Int) : Nat → Int
  | 0 => 0
  | k + 1 => accN b ps k + bitA b (ps.getD k 0) * 2 ^ k
theorem accN_range (b ps : List Int) : ∀ k : Nat, 0 ≤ accN b ps k ∧ accN b ps k < 2 ^ k
  | 0 => by simp [accN]
  | k + 1 => by
    have ih := accN_range b ps k
    have hp := two_pos k
    rw [accN, Int.pow_succ]
    rcases bitA01 b (ps.getD k 0) with h | h <;> rw [h] <;> omega
theorem emod_two (n : Int) (k : Nat) : n % 2 ^ (k + 1) = n % 2 ^ k + n / 2 ^ k % 2 * 2 ^ k := by
  have hp := two_pos k
  have h1 := Int.mul_ediv_add_emod n (2 ^ k)
  have h2 := Int.mul_ediv_add_emod (n / 2 ^ k) 2
  have h3 := Int.emod_nonneg n (by omega : (2 : Int) ^ k ≠ 0)
  have h4 := Int.emod_lt_of_pos n hp
  have h5 : 0 ≤ n / 2 ^ k % 2 ∧ n / 2 ^ k % 2 < 2 := by omega
  have h6 : n = (n % 2 ^ k + n / 2 ^ k % 2 * 2 ^ k) + 2 ^ (k + 1) * (n / 2 ^ k / 2) := by
    have : 2 ^ k * (n / 2 ^ k) = 2 ^ k * (2 * (n / 2 ^ k / 2) + n / 2 ^ k % 2) := by rw [h2]
    rw [Int.pow_succ]
    rw [Int.mul_add, ← Int.mul_assoc] at this
    rw [Int.mul_comm (n / 2 ^ k % 2)]
    omega
  have h7 : 0 ≤ n % 2 ^ k + n / 2 ^ k % 2 * 2 ^ k ∧ n % 2 ^ k + n / 2 ^ k % 2 * 2 ^ k < 2 ^ (k + 1) := by
    rw [Int.pow_succ]
    rcases bit01 (n / 2 ^ k) with h | h <;> rw [h] <;> omega
  generalize n % 2 ^ k + n / 2 ^ k % 2 * 2 ^ k = r at h6 h7 ⊢
  rw [h6, Int.add_mul_emod_self_left, Int.emod_eq_of_lt h7.1 h7.2]
theorem accN_of (n : Int) (b ps : List Int) : ∀ k : Nat, (∀ j, j < k → bitA b (ps.getD j 0) = nb n j) → accN b ps k = n % 2 ^ k
  | 0, _ => by simp [accN]
  | k + 1, h => by rw [accN, accN_of n b ps k (fun j hj => h j (by omega)), h k (by omega), emod_two]; rfl
theorem nb_add (x m : Int) (j k : Nat) (h : j < k) : nb (x + m * 2 ^ k) j = nb x j := by
  unfold nb
  have hp := two_pos j
  have : m * 2 ^ k = m * 2 ^ (k - j - 1) * 2 * 2 ^ j := by
    rw [Int.mul_assoc, Int.mul_assoc, Int.mul_comm 2 (2 ^ j), ← Int.pow_succ, ← Int.pow_add, show k - j - 1 + (j + 1) = k by omega]
  rw [this, Int.add_mul_ediv_right _ _ (by omega)]
  omega
theorem nb_top (x m : Int) (k : Nat) (h : 0 ≤ x ∧ x < 2 ^ k) (hm : m = 0 ∨ m = 1) : nb (x + m * 2 ^ k) k = m := by
  unfold nb
  have hp := two_pos k
  rw [Int.add_mul_ediv_right _ _ (by omega), Int.ediv_eq_zero_of_lt h.1 h.2]
  omega
theorem nb_acc (b ps : List Int) : ∀ (k j : Nat), j < k → nb (accN b ps k) j = bitA b (ps.getD j 0)
  | 0, _, h => by omega
  | k + 1, j, h => by
    rw [accN]
    by_cases e : j = k
    · subst e; exact nb_top _ _ _ (accN_range b ps j) (bitA01 _ _)
    · rw [nb_add _ _ _ _ (by omega)]; exact nb_acc b ps k j (by omega)
/-- Does a number fit? -/
def fitsS (ln : Int) (sgn : Bool) (n : Int) : Bool := if sgn = true then decide (-2 ^ (ln.toNat - 1) ≤ n) && decide (n < 2 ^ (ln.toNat - 1)) else decide (0 ≤ n) && decide (n < 2 ^ ln.toNat)
theorem ends_all : ∀ (l : Fin 32) (s : Bool), endsS ((l.val : Int) + 1) s = (if s = true then (-2 ^ l.val, 2 ^ l.val - 1) else (0, 2 ^ (l.val + 1) - 1)) ∧ shl .i64 1 ((l.val : Int) + 1) = 2 ^ (l.val + 1) := by decide +kernel
theorem pow_le (k : Nat) (h : k ≤ 32) : (2 : Int) ^ k ≤ 4294967296 := by
  have h2 : (2 : Nat) ^ k ≤ 4294967296 := Nat.le_trans (Nat.pow_le_pow_right (by decide) h) (Nat.le_refl (2 ^ 32))
  have e : ((2 ^ k : Nat) : Int) = 2 ^ k := by push_cast; rfl
  omega
theorem ends_eq {ln : Int} (h : 1 ≤ ln ∧ ln ≤ 32) (s : Bool) : endsS ln s = (if s = true then (-2 ^ (ln.toNat - 1), 2 ^ (ln.toNat - 1) - 1) else (0, 2 ^ ln.toNat - 1)) ∧ shl .i64 1 ln = 2 ^ ln.toNat := by
  have := ends_all ⟨ln.toNat - 1, by omega⟩ s
  simp only at this
  rw [show (((ln.toNat - 1 : Nat) : Int) + 1) = ln by omega, show ln.toNat - 1 + 1 = ln.toNat by omega] at this
  exact this
theorem pow_half {ln : Int} (h : 1 ≤ ln) : (2 : Int) ^ ln.toNat = 2 * 2 ^ (ln.toNat - 1) := by
  rw [show ln.toNat = (ln.toNat - 1) + 1 by omega, Int.pow_succ, show ln.toNat - 1 + 1 - 1 = ln.toNat - 1 by omega]; omega
theorem sign_of {ln : Int} (h : 1 ≤ ln ∧ ln ≤ 32) (s : Bool) (n : Int) (hn : fitsS ln s n = true) : signS ln s (n % 2 ^ ln.toNat) = n := by
  obtain ⟨he, hs⟩ := ends_eq h s
  unfold signS
  rw [he, hs]
  unfold fitsS at hn
  have hp := two_pos ln.toNat
  have h32 := pow_le ln.toNat (by omega)
  cases s with
  | false =>
    simp only [Bool.false_eq_true, if_false, Bool.and_eq_true, decide_eq_true_eq] at hn ⊢
    rw [Int.emod_eq_of_lt hn.1 hn.2, if_neg (by omega)]
  | true =>
    simp only [if_true, Bool.and_eq_true, decide_eq_true_eq] at hn ⊢
    have ph := pow_half h.1
    have hp2 := two_pos (ln.toNat - 1)
    generalize (2 : Int) ^ (ln.toNat - 1) = H at *
    generalize (2 : Int) ^ ln.toNat = P at *
    by_cases h0 : 0 ≤ n
    · rw [Int.emod_eq_of_lt h0 (by omega), if_neg (by omega)]
    · have : n % P = n + P := by
        rw [← Int.add_emod_right, Int.emod_eq_of_lt (by omega) (by omega)]
      rw [this, if_pos (by omega), wr _ (by omega)]; omega
theorem fits_sign {ln : Int} (h : 1 ≤ ln ∧ ln ≤ 32) (s : Bool) (x : Int) (hx : 0 ≤ x ∧ x < 2 ^ ln.toNat) : fitsS ln s (signS ln s x) = true ∧ ∃ m, signS ln s x = x + m * 2 ^ ln.toNat := by
  obtain ⟨he, hs⟩ := ends_eq h s
  unfold signS
  rw [he, hs]
  unfold fitsS
  have hp := two_pos ln.toNat
  have h32 := pow_le ln.toNat (by omega)
  cases s with
  | false =>
    simp only [Bool.false_eq_true, if_false, Bool.and_eq_true, decide_eq_true_eq]
    rw [if_neg (by omega)]
    exact ⟨hx, 0, by simp⟩
  | true =>
    simp only [if_true, Bool.and_eq_true, decide_eq_true_eq]
    have ph := pow_half h.1
    have hp2 := two_pos (ln.toNat - 1)
    generalize (2 : Int) ^ (ln.toNat - 1) = H at *
    generalize (2 : Int) ^ ln.toNat = P at *
    split
    · rw [wr _ (by omega)]
      exact ⟨by omega, -1, by omega⟩
    · exact ⟨by omega, 0, by simp⟩
theorem accK_eq {b ps : List Int} (hb : wfB b) : ∀ k : Nat, k ≤ 32 → (∀ j, j < k → 0 ≤ ps.getD j 0) → accK b ps k = accN b ps k
  | 0, _, _ => rfl
  | k + 1, h, hp => by
    have hr := accN_range b ps k
    have h32 := pow_le k (by omega)
    have hpk := two_pos k
    rw [accK, accN, accK_eq hb k (by omega) (fun j hj => hp j (by omega))]
    have h1 : bitS b (ps.getD k 0) = bitA b (ps.getD k 0) := by
      unfold bitS bitA
      obtain ⟨x, hx⟩ := of_byte (rd_in hb (ps.getD k 0 / 8))
      rw [hx]
      exact byte_bit x ⟨(ps.getD k 0 % 8).toNat, by omega⟩
    have h01 := bitA01 b (ps.getD k 0)
    rw [h1]
    generalize bitA b (ps.getD k 0) = v at *
    generalize accN b ps k = x at *
    have hv : wrap64 (wrap64 v * 2 ^ k) = v * 2 ^ k := by
      rw [wr v (by omega)]
      rcases h01 with rfl | rfl <;> rw [wr _ (by omega)]
    rw [hv]
    obtain ⟨y, rfl⟩ : ∃ y : Nat, x = (y : Int) := ⟨x.toNat, by omega⟩
    have hy : y < 2 ^ k := by have := hr.2; exact_mod_cast this
    have hk : 2 ^ k ≤ 4294967296 := Nat.le_trans (Nat.pow_le_pow_right (by decide) (by omega : k ≤ 32)) (Nat.le_refl (2 ^ 32))
    obtain ⟨z, hz, hz1⟩ : ∃ z : Nat, v = (z : Int) ∧ z ≤ 1 := ⟨v.toNat, by omega, by omega⟩
    subst hz
    show IntKind.i64.wrap ((BitVec.ofInt 64 (y : Int) ||| BitVec.ofInt 64 ((z : Int) * 2 ^ k)).toNat : Int) = _
    have e1 : ((z : Int) * 2 ^ k) = ((2 ^ k * z : Nat) : Int) := by push_cast; rw [Int.mul_comm]
    have hb2 : 2 ^ k * z ≤ 4294967296 := Nat.le_trans (Nat.mul_le_mul_left _ hz1) (by omega)
    rw [e1, BitVec.ofInt_natCast, BitVec.ofInt_natCast, BitVec.toNat_or, BitVec.toNat_ofNat, BitVec.toNat_ofNat, Nat.mod_eq_of_lt (by omega), Nat.mod_eq_of_lt (by omega), Nat.or_comm, ← Nat.two_pow_add_eq_or_of_lt hy, IntKind.wrap_i64]
    have e2 : ((2 ^ k * z + y : Nat) : Int) = y + ((2 ^ k * z : Nat) : Int) := by omega
    rw [e2]
    generalize 2 ^ k * z = q at *
    omega
end Go.Proofs.Ytcgkkjimonfhbaa.P
