/-
  An abstract walk, part V: bits of whole numbers; small rewritings.
-/
import Derived.Test.YtoifmpiikopelaaFwU
namespace Go.Proofs.YtoifmpiikopelaaFw
open Go
set_option linter.unusedVariables false
set_option linter.unusedSimpArgs false

/-- A piece of code, and then a state that says less. -/
theorem awp_join {P : Program} {B : Base} {Q : Post} {s : AS} {c : Code} (s' : AS) (h1 : AWp P B c { Q with n := fun s1 => s1.le B s' } s) (hm : ∀ s1, s1.le B s' → Q.n s' → Q.n s1) (h2 : Q.n s') : AWp P B c Q s :=
  h1.mono fun e s1 he => by
    cases e with
    | normal => exact hm s1 he h2
    | _ => exact he

/-- What is frozen is the same under any names. -/
theorem map_ren_fz (es : List (List PV)) (h : ∀ e ∈ es, ∀ c ∈ e, c.fz = true) (r : Nat → Nat) : es.map (renL r) = es := by
  have : es.map (renL r) = es.map id := List.map_congr_left fun e he => by
    rw [renL_map]
    have : e.map (PV.ren r) = e.map id := List.map_congr_left fun c hc => (PV.fz_all c (h e he c hc)).1 r
    rw [this, List.map_id]; rfl
  rw [this, List.map_id]
theorem all_ok_fz (es : List (List PV)) (h : ∀ e ∈ es, ∀ c ∈ e, c.fz = true) (S : Nat → Prop) : (∀ e ∈ es, okL S e) = True := by
  refine eq_true fun e he => ?_
  rw [okL_iff]
  exact fun c hc => (PV.fz_all c (h e he c hc)).2 S
theorem fz_map {α : Type} {enc : α → List PV} (h : ∀ x, ∀ c ∈ enc x, c.fz = true) (l : List α) : ∀ e ∈ l.map enc, ∀ c ∈ e, c.fz = true := by
  intro e he
  obtain ⟨x, _, rfl⟩ := List.mem_map.1 he
  exact h x

theorem take_map_len {α β : Type} (f : α → β) (l : List α) : (l.map f).take l.length = l.map f := by rw [← List.map_take, List.take_length]
theorem int_toNat_zero_i : Int.toNat 0 = 0 := rfl
theorem range_one_i : List.range 1 = [0] := rfl
theorem imp_self_i {p : Prop} : (p → p) = True := by simp
theorem false_imp_i {p : Prop} : (False → p) = True := by simp
theorem forall_nil_i {α : Type} {p : α → Prop} : (∀ x, x ∈ ([] : List α) → p x) = True := by simp

def band (a b : Int) : Int := IntKind.i64.wrap (BitVec.ofInt IntKind.i64.bits a &&& BitVec.ofInt IntKind.i64.bits b).toNat
def bandn (a b : Int) : Int := IntKind.i64.wrap (BitVec.ofInt IntKind.i64.bits a &&& ~~~BitVec.ofInt IntKind.i64.bits b).toNat
theorem and_fold (a b : Int) : IntKind.i64.wrap (BitVec.ofInt IntKind.i64.bits a &&& BitVec.ofInt IntKind.i64.bits b).toNat = band a b := rfl
theorem andNot_fold (a b : Int) : IntKind.i64.wrap (BitVec.ofInt IntKind.i64.bits a &&& ~~~BitVec.ofInt IntKind.i64.bits b).toNat = bandn a b := rfl

theorem i64_wrap_toInt (r : BitVec 64) : IntKind.i64.wrap (r.toNat : Int) = r.toInt := by
  have h := r.isLt
  simp only [IntKind.wrap, IntKind.bits, IntKind.signed, BitVec.toInt_eq_toNat_cond]
  simp
  split <;> omega
theorem band_eq (a b : Int) : band a b = (BitVec.ofInt 64 a &&& BitVec.ofInt 64 b).toInt := i64_wrap_toInt _
theorem bandn_eq (a b : Int) : bandn a b = (BitVec.ofInt 64 a &&& ~~~BitVec.ofInt 64 b).toInt := i64_wrap_toInt _

/-- Is it an int of 64 bits? -/
def I64 (n : Int) : Prop := -9223372036854775808 ≤ n ∧ n ≤ 9223372036854775807
theorem toInt_I64 (A : BitVec 64) : I64 A.toInt := by
  have h := A.isLt
  unfold I64
  rw [BitVec.toInt_eq_toNat_cond]
  split <;> omega
theorem band_I64 (a b : Int) : I64 (band a b) := by rw [band_eq]; exact toInt_I64 _
theorem bandn_I64 (a b : Int) : I64 (bandn a b) := by rw [bandn_eq]; exact toInt_I64 _
theorem ofI64 {a : Int} (h : I64 a) : a = (BitVec.ofInt 64 a).toInt := by
  rw [BitVec.toInt_ofInt, Int.bmod_def]
  have := h.1; have := h.2
  split <;> omega

/-- A low mask: within it, 'and' changes nothing; 'and' with it lands in it. -/
theorem band_low {a : Int} {w : Nat} (hw : w < 63) (h0 : 0 ≤ a) (h1 : a < 2 ^ w) (b : Int) (hb : b = 2 ^ w - 1) : band a b = a := by
  have hp : 2 ^ w < 2 ^ 63 := Nat.pow_lt_pow_right (by decide) hw
  obtain ⟨n, rfl⟩ := Int.eq_ofNat_of_zero_le h0
  have e : ((2 ^ w : Nat) : Int) = (2 : Int) ^ w := by simp
  have hn : n < 2 ^ w := by omega
  have hb' : b = ((2 ^ w - 1 : Nat) : Int) := by
    have : 1 ≤ 2 ^ w := Nat.one_le_two_pow
    omega
  subst hb'
  rw [band_eq]
  have h2 : BitVec.ofInt 64 ((2 ^ w - 1 : Nat) : Int) = BitVec.ofNat 64 (2 ^ w - 1) := BitVec.ofInt_natCast _ _
  have h3 : BitVec.ofInt 64 (n : Int) = BitVec.ofNat 64 n := BitVec.ofInt_natCast _ _
  show (BitVec.ofInt 64 (n : Int) &&& BitVec.ofInt 64 ((2 ^ w - 1 : Nat) : Int)).toInt = (n : Int)
  rw [h2, h3]
  have h4 : BitVec.ofNat 64 n &&& BitVec.ofNat 64 (2 ^ w - 1) = BitVec.ofNat 64 n := by
    apply BitVec.eq_of_toNat_eq
    rw [BitVec.toNat_and, BitVec.toNat_ofNat, BitVec.toNat_ofNat, Nat.mod_eq_of_lt (by omega : n < 2 ^ 64), Nat.mod_eq_of_lt (by omega : 2 ^ w - 1 < 2 ^ 64), Nat.and_two_pow_sub_one_eq_mod, Nat.mod_eq_of_lt hn]
  rw [h4, BitVec.toInt_eq_toNat_cond, BitVec.toNat_ofNat, Nat.mod_eq_of_lt (by omega : n < 2 ^ 64)]
  split <;> omega
theorem band_range (a b : Int) {w : Nat} (hw : w < 63) (hb : b = 2 ^ w - 1) : 0 ≤ band a b ∧ band a b < 2 ^ w := by
  have hp : 2 ^ w < 2 ^ 63 := Nat.pow_lt_pow_right (by decide) hw
  have e : ((2 ^ w : Nat) : Int) = (2 : Int) ^ w := by simp
  have hb' : b = ((2 ^ w - 1 : Nat) : Int) := by
    have : 1 ≤ 2 ^ w := Nat.one_le_two_pow
    omega
  subst hb'
  rw [band_eq]
  have h2 : BitVec.ofInt 64 ((2 ^ w - 1 : Nat) : Int) = BitVec.ofNat 64 (2 ^ w - 1) := BitVec.ofInt_natCast _ _
  show 0 ≤ (BitVec.ofInt 64 a &&& BitVec.ofInt 64 ((2 ^ w - 1 : Nat) : Int)).toInt ∧ _ < _
  rw [h2]
  have h3 : (BitVec.ofInt 64 a &&& BitVec.ofNat 64 (2 ^ w - 1)).toNat < 2 ^ w := by
    rw [BitVec.toNat_and, BitVec.toNat_ofNat, Nat.mod_eq_of_lt (by omega : 2 ^ w - 1 < 2 ^ 64), Nat.and_two_pow_sub_one_eq_mod]
    exact Nat.mod_lt _ (Nat.two_pow_pos w)
  generalize BitVec.ofInt 64 a &&& BitVec.ofNat 64 (2 ^ w - 1) = X at *
  rw [BitVec.toInt_eq_toNat_cond]
  split <;> omega
/-- 'and' with what lies in a low mask lies in it. -/
theorem band_lt (a b : Int) {w : Nat} (hw : w < 63) (h0 : 0 ≤ b) (hb : b < 2 ^ w) : 0 ≤ band a b ∧ band a b < 2 ^ w := by
  have h1 := band_low hw h0 hb _ rfl
  have h2 : band a b = band (band a b) (2 ^ w - 1) := by
    rw [band_eq, band_eq]
    have e1 : BitVec.ofInt 64 (BitVec.ofInt 64 a &&& BitVec.ofInt 64 b).toInt = BitVec.ofInt 64 a &&& BitVec.ofInt 64 b := by rw [BitVec.ofInt_toInt]
    rw [e1]
    have e2 : BitVec.ofInt 64 b &&& BitVec.ofInt 64 (2 ^ w - 1) = BitVec.ofInt 64 b := by
      rw [band_eq] at h1
      have := congrArg (BitVec.ofInt 64) h1
      rwa [BitVec.ofInt_toInt] at this
    rw [BitVec.and_assoc, e2]
  rw [h2]
  exact band_range _ _ hw rfl
theorem band_idem (a b : Int) : band (band a b) b = band a b := by
  rw [band_eq, band_eq, BitVec.ofInt_toInt, BitVec.and_assoc, BitVec.and_self]
end Go.Proofs.YtoifmpiikopelaaFw
