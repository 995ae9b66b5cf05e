/-
  Whole numbers of 64 bits as rows of bits: the model's 'and', 'or', 'xor', 'and not' of int are those of BitVec 64. No condition.
-/
import Derived.Test.YtpcabeefahldlaaWMore
import Derived.Laws.BitsLemmas
namespace Go.Proofs.YtpcabeefahldlaaOwn
open Go.RowKit Go.Proofs.YtpcabeefahldlaaW.PrintWords
set_option linter.unusedVariables false
set_option linter.unusedSimpArgs false

theorem wrap_toInt (r : BitVec 64) : IntKind.i64.wrap (r.toNat : Int) = r.toInt := by
  have h := r.isLt
  rw [IntKind.wrap_i64, BitVec.toInt_eq_toNat_cond]
  split <;> omega
theorem and_toInt (A B : BitVec 64) : Go.bits .and .i64 A.toInt B.toInt = (A &&& B).toInt := by
  show IntKind.i64.wrap ((BitVec.ofInt 64 A.toInt &&& BitVec.ofInt 64 B.toInt).toNat : Int) = _
  rw [BitVec.ofInt_toInt, BitVec.ofInt_toInt, wrap_toInt]
theorem or_toInt (A B : BitVec 64) : Go.bits .or .i64 A.toInt B.toInt = (A ||| B).toInt := by
  show IntKind.i64.wrap ((BitVec.ofInt 64 A.toInt ||| BitVec.ofInt 64 B.toInt).toNat : Int) = _
  rw [BitVec.ofInt_toInt, BitVec.ofInt_toInt, wrap_toInt]
theorem xor_toInt (A B : BitVec 64) : Go.bits .xor .i64 A.toInt B.toInt = (A ^^^ B).toInt := by
  show IntKind.i64.wrap ((BitVec.ofInt 64 A.toInt ^^^ BitVec.ofInt 64 B.toInt).toNat : Int) = _
  rw [BitVec.ofInt_toInt, BitVec.ofInt_toInt, wrap_toInt]
theorem andNot_toInt (A B : BitVec 64) : Go.bits .andNot .i64 A.toInt B.toInt = (A &&& ~~~B).toInt := by
  show IntKind.i64.wrap ((BitVec.ofInt 64 A.toInt &&& ~~~(BitVec.ofInt 64 B.toInt)).toNat : Int) = _
  rw [BitVec.ofInt_toInt, BitVec.ofInt_toInt, wrap_toInt]
theorem of_wf64 {a : Int} (h : (Lit.int .i64 a).wf = true) : -9223372036854775808 ≤ a ∧ a ≤ 9223372036854775807 := by
  simpa [Lit.wf, IntKind.min, IntKind.max, IntKind.signed, IntKind.bits] using h
theorem toInt_of_wf {a : Int} (h : (Lit.int .i64 a).wf = true) : ∃ A : BitVec 64, a = A.toInt := by
  have hb := of_wf64 h
  refine ⟨BitVec.ofInt 64 a, ?_⟩
  rw [BitVec.toInt_ofInt, Int.bmod_def]
  split <;> omega
theorem toInt_beq (A B : BitVec 64) : (A.toInt == B.toInt) = (A == B) := by
  rw [Bool.eq_iff_iff, beq_iff_eq, beq_iff_eq]
  exact ⟨BitVec.eq_of_toInt_eq, fun h => by rw [h]⟩
theorem toInt_eq (A B : BitVec 64) : (A.toInt = B.toInt) = (A = B) := by
  apply propext
  exact ⟨BitVec.eq_of_toInt_eq, fun h => by rw [h]⟩
theorem zero_toInt : (0 : Int) = (0#64).toInt := by decide
theorem range_and {A : BitVec 64} {w : Nat} (hw : w < 63) (h0 : 0 ≤ A.toInt) (h1 : A.toInt < 2 ^ w) : A &&& BitVec.ofNat 64 (2 ^ w - 1) = A := by
  have hA := A.isLt
  have hp : 2 ^ w < 2 ^ 63 := Nat.pow_lt_pow_right (by decide) hw
  have h2 : A.toNat < 2 ^ w := by
    rw [BitVec.toInt_eq_toNat_cond] at h0 h1
    have e : ((2 ^ w : Nat) : Int) = (2 : Int) ^ w := by simp
    split at h1 <;> omega
  apply BitVec.eq_of_toNat_eq
  rw [BitVec.toNat_and, BitVec.toNat_ofNat, Nat.mod_eq_of_lt (by omega), Nat.and_two_pow_sub_one_eq_mod, Nat.mod_eq_of_lt h2]
theorem and_range {A : BitVec 64} {w : Nat} (hw : w < 63) (h : A &&& BitVec.ofNat 64 (2 ^ w - 1) = A) : 0 ≤ A.toInt ∧ A.toInt < 2 ^ w := by
  have hp : 2 ^ w < 2 ^ 63 := Nat.pow_lt_pow_right (by decide) hw
  have h2 := congrArg BitVec.toNat h
  rw [BitVec.toNat_and, BitVec.toNat_ofNat, Nat.mod_eq_of_lt (by omega), Nat.and_two_pow_sub_one_eq_mod] at h2
  have h3 : A.toNat < 2 ^ w := by rw [← h2]; exact Nat.mod_lt _ (Nat.two_pow_pos w)
  have e : ((2 ^ w : Nat) : Int) = (2 : Int) ^ w := by simp
  rw [BitVec.toInt_eq_toNat_cond]
  split <;> omega
end Go.Proofs.YtpcabeefahldlaaOwn
