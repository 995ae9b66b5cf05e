/-
  Routes that Cut made are right among four buses. Conditions: whole numbers of 64 bits.
-/
import Derived.Test.YtpcabeefahldlaaPot
namespace Go.Proofs.Ytpcabeefahldlaa.P
open Go.RowKit Go.Proofs.YtpcabeefahldlaaOwn Go.Proofs.YtpcabeefahldlaaW.PrintWords Go.Proofs.YtpcabeefahldlaaW.PrintLast Go.Proofs.YtpcabeefahldlaaW.PrintMore
set_option linter.unusedVariables false
set_option linter.unusedSimpArgs false

theorem lit_toInt (w : Nat) (hw : w < 63) : ((2 ^ w - 1 : Nat) : Int) = (BitVec.ofNat 64 (2 ^ w - 1)).toInt := by
  have h1 : 2 ^ w < 2 ^ 63 := Nat.pow_lt_pow_right (by omega) hw
  have h2 : (BitVec.ofNat 64 (2 ^ w - 1)).toNat = 2 ^ w - 1 := by rw [BitVec.toNat_ofNat]; exact Nat.mod_eq_of_lt (by omega)
  rw [BitVec.toInt_eq_toNat_of_lt (by rw [h2]; omega), h2]
theorem and_mask (A : BitVec 64) (w : Nat) (hw : w < 63) : Go.bits .and .i64 A.toInt ((2 ^ w - 1 : Nat) : Int) = (A &&& BitVec.ofNat 64 (2 ^ w - 1)).toInt ∧ 0 ≤ (A &&& BitVec.ofNat 64 (2 ^ w - 1)).toInt ∧ (A &&& BitVec.ofNat 64 (2 ^ w - 1)).toInt < 2 ^ w := by
  refine ⟨by rw [lit_toInt w hw, and_toInt], ?_⟩
  apply and_range hw
  rw [BitVec.and_assoc, BitVec.and_self]
theorem and3 {a : Int} (h : (Lit.int .i64 a).wf = true) : 0 ≤ Go.bits .and .i64 a 3 ∧ Go.bits .and .i64 a 3 < 4 := by
  obtain ⟨A, rfl⟩ := toInt_of_wf h
  have := and_mask A 2 (by omega)
  rw [show ((2 ^ 2 - 1 : Nat) : Int) = 3 from rfl] at this
  rw [this.1]
  have h2 := this.2
  omega
theorem filt_cut {e : Bool} {K M : Int} (hK : (Lit.int .i64 K).wf = true) (hM : (Lit.int .i64 M).wf = true) : filtR ⟨e, Go.bits .and .i64 K (topR e), Go.bits .and .i64 M (Go.bits .and .i64 K (topR e))⟩ = true := by
  obtain ⟨K, rfl⟩ := toInt_of_wf hK
  obtain ⟨M, rfl⟩ := toInt_of_wf hM
  have z : ∀ X : BitVec 64, Go.bits .andNot .i64 (Go.bits .and .i64 M.toInt X.toInt) X.toInt = 0 := by
    intro X
    rw [and_toInt, andNot_toInt, BitVec.and_assoc, BitVec.and_not_self]; simp
  unfold filtR topR
  cases e
  · have := and_mask K 11 (by omega)
    rw [show ((2 ^ 11 - 1 : Nat) : Int) = 2047 from rfl] at this
    simp only [Bool.false_eq_true, if_false]
    rw [this.1, z, decide_eq_true (by have := this.2; omega)]; rfl
  · have := and_mask K 29 (by omega)
    rw [show ((2 ^ 29 - 1 : Nat) : Int) = 536870911 from rfl] at this
    simp only [if_true]
    rw [this.1, z, decide_eq_true (by have := this.2; omega)]; rfl
theorem id_cut (e : Bool) (n : Int) : idR e (mx (-1) (mn n (topR e))) = true := by
  have h : mx (-1) (mn n (topR e)) = -1 ∨ 0 ≤ mx (-1) (mn n (topR e)) ∧ mx (-1) (mn n (topR e)) < (if e = true then 536870912 else 2048) := by
    unfold mx mn topR
    cases e <;> simp only [Bool.false_eq_true, if_false, if_true] <;> repeat (first | omega | split)
  unfold idR
  rcases h with h | h
  · rw [h]; simp
  · rw [decide_eq_true h.1, decide_eq_true h.2]; simp
theorem cut_right {r : S45} (h : ok45 r) (ha : apartR (cutR r) = true) : rightR 4 (cutR r) = true := by
  obtain ⟨h0, h1, ⟨_, h2, h3⟩, h4⟩ := h
  have a0 := and3 h0
  have a1 := and3 h1
  have hx : ((cutR r).f0 == (cutR r).f1) = false := by simpa [apartR] using ha
  unfold rightR
  rw [hx]
  have hf : filtR (cutR r).f2 = true := filt_cut h2 h3
  have hi : idR (cutR r).f2.f0 (cutR r).f3 = true := id_cut _ _
  rw [hf, hi, decide_eq_true (show 0 ≤ (cutR r).f0 from a0.1), decide_eq_true (show (cutR r).f0 < 4 from a0.2), decide_eq_true (show 0 ≤ (cutR r).f1 from a1.1), decide_eq_true (show (cutR r).f1 < 4 from a1.2)]
  rfl
theorem cutL_right {l : List S45} (h : ∀ r ∈ l, ok45 r) : (cutL l).all (rightR 4) = true := by
  rw [List.all_eq_true]
  intro x hx
  unfold cutL at hx
  obtain ⟨hx, ha⟩ := List.mem_filter.mp hx
  obtain ⟨r, hr, rfl⟩ := List.mem_map.mp hx
  exact cut_right (h r hr) ha
theorem cutL_len (l : List S45) : (cutL l).length ≤ l.length := by
  unfold cutL
  exact Nat.le_trans (List.length_filter_le _ _) (by simp)
theorem rightL_of {l : List S45} (h : l.all (rightR 4) = true) (hl : l.length ≤ 16) : rightL l 4 = true := by
  unfold rightL
  rw [h, decide_eq_true hl]; rfl
theorem rightR_in {n : Int} {r : S45} (h : rightR n r = true) : 0 ≤ r.f0 ∧ r.f0 < n ∧ 0 ≤ r.f1 ∧ r.f1 < n ∧ ¬ r.f0 = r.f1 := by
  unfold rightR at h
  simp only [Bool.and_eq_true, decide_eq_true_eq, Bool.not_eq_true', beq_eq_false_iff_ne] at h
  omega
theorem all_in {l : List S45} {n : Nat} (h : l.all (rightR n) = true) : inR l n := by
  rw [List.all_eq_true] at h
  intro r hr
  have := rightR_in (h r hr)
  omega
theorem fLoop (k : Nat) (l : List S45) (n : Int) (hk : 20 ≤ k) : route_Loopless.f k l n = some (rightL l n && loopB l n) := by
  unfold route_Loopless.f
  rw [fRight k l n hk]; rfl

end Go.Proofs.Ytpcabeefahldlaa.P
