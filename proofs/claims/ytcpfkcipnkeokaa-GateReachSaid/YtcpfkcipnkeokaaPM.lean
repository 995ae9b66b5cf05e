/-
  What package route says and what the document says are the same.
-/
import Derived.Test.YtcpfkcipnkeokaaWJ
import Derived.Test.YtcpfkcipnkeokaaWI
namespace Go.Proofs.YtcpfkcipnkeokaaFw
open Go
set_option linter.unusedVariables false
set_option linter.unusedSimpArgs false

structure Route.i64 (r : Route) : Prop where
  src : I64 r.src
  to : I64 r.to
  mask : I64 r.take.mask
  mat : I64 r.take.mat
  new : I64 r.new

theorem bv_sub_iff (A B : BitVec 64) : (A &&& ~~~B = 0#64) ↔ (A &&& B = A) := by
  constructor
  · intro h
    apply BitVec.eq_of_getLsbD_eq
    intro i hi
    have := congrArg (fun X : BitVec 64 => X.getLsbD i) h
    simp [hi] at this
    simp
    exact this
  · intro h
    apply BitVec.eq_of_getLsbD_eq
    intro i hi
    have := congrArg (fun X : BitVec 64 => X.getLsbD i) h
    simp at this
    simp [hi]
    exact this
theorem bandn_zero {a b : Int} (ha : I64 a) : (bandn a b == 0) = (band a b == a) := by
  rw [Bool.eq_iff_iff, beq_iff_eq, beq_iff_eq, bandn_eq, band_eq]
  constructor
  · intro h
    have h1 : BitVec.ofInt 64 a &&& ~~~BitVec.ofInt 64 b = 0#64 := BitVec.eq_of_toInt_eq (by rw [h]; rfl)
    rw [(bv_sub_iff _ _).1 h1, ← ofI64 ha]
  · intro h
    have h1 : BitVec.ofInt 64 a &&& BitVec.ofInt 64 b = BitVec.ofInt 64 a := BitVec.eq_of_toInt_eq (by rw [h]; exact ofI64 ha)
    rw [(bv_sub_iff _ _).2 h1]; rfl
theorem fdiv_zero (a : Int) (w : Nat) : (a.fdiv (2 ^ w) == 0) = (decide (0 ≤ a) && decide (a < 2 ^ w)) := by
  have hp : (0 : Int) < 2 ^ w := Int.pow_pos (by decide)
  rw [Int.fdiv_eq_ediv_of_nonneg _ (Int.le_of_lt hp), Bool.eq_iff_iff]
  simp only [beq_iff_eq, Bool.and_eq_true, decide_eq_true_eq]
  constructor
  · intro h
    have h1 := Int.mul_ediv_add_emod a (2 ^ w)
    have h2 := Int.emod_nonneg a (Int.ne_of_gt hp)
    have h3 := Int.emod_lt_of_pos a hp
    rw [h] at h1
    omega
  · intro h
    exact Int.ediv_eq_zero_of_lt h.1 h.2
theorem right_eq (e : Filter) (hm : I64 e.mask) (ht : I64 e.mat) : rightG e = rightF e := by
  unfold rightG rightF
  have hw : (2 : Int) ^ min (if e.ext = true then (29 : Int) else 11).toNat IntKind.i64.bits = wideF e.ext := by
    cases e.ext <;> rfl
  rw [fdiv_zero, hw, bandn_zero ht]
  by_cases h : (band e.mat e.mask == e.mat) = true
  · rw [h, Bool.and_true, Bool.and_true]
    by_cases h0 : 0 ≤ e.mask ∧ e.mask < wideF e.ext
    · have hb : 0 ≤ band e.mat e.mask ∧ band e.mat e.mask < wideF e.ext := by
        cases he : e.ext
        · rw [he] at h0; exact band_lt (w := 11) _ _ (by decide) h0.1 h0.2
        · rw [he] at h0; exact band_lt (w := 29) _ _ (by decide) h0.1 h0.2
      rw [(by simpa using h : band e.mat e.mask = e.mat)] at hb
      simp [h0, hb]
    · rw [Bool.eq_iff_iff]
      simp
      omega
  · rw [Bool.not_eq_true] at h
    rw [h, Bool.and_false, Bool.and_false]
theorem route_eq (n : Int) (r : Route) (h : r.i64) : routeG n r = routeR n r := by
  unfold routeG routeR
  rw [right_eq r.take h.mask h.mat]
  have : (!identG r) = (decide (r.new < -1) || decide (topF r.take.ext < r.new)) := by
    unfold identG wideF topF
    rw [Bool.eq_iff_iff]
    cases r.take.ext <;> simp <;> omega
  rw [this]
  simp [Bool.or_assoc]
theorem rights_eq (l : List Route) (n : Int) (h : ∀ r ∈ l, r.i64) : rightR routeG l n = rightR routeR l n := by
  unfold rightR
  congr 1
  rw [Bool.eq_iff_iff, List.all_eq_true, List.all_eq_true]
  constructor
  · intro k r hr; rw [← route_eq n r (h r hr)]; exact k r hr
  · intro k r hr; rw [route_eq n r (h r hr)]; exact k r hr
theorem loop_eq (l : List Route) (n : Int) (h : ∀ r ∈ l, r.i64) : loopG l n = loopless l n := by
  unfold loopG loopless
  rw [rights_eq l n h]
  cases hr : rightR routeR l n with
  | false => rfl
  | true =>
    obtain ⟨h1, h4, h16, hrt⟩ := right_of hr
    rw [← rights_eq l n h] at hr
    have hin := routeG_in (right_of hr).2.2.2
    obtain ⟨n, rfl⟩ := Int.eq_ofNat_of_zero_le (by omega : 0 ≤ n)
    rw [Bool.true_and, Bool.true_and, Int.toNat_natCast, ← noBack_loop, noBack_iff (fun r hr => by have := hin r hr; omega) (by omega) (by omega)]
theorem hops_eq (l : List Route) (bus : Int) (f : Frame) (h : ∀ r ∈ l, -1 ≤ r.new) : hops l bus f = hops2 l bus f := by
  unfold hops hops2
  apply List.map_congr_left
  intro r hr
  have := h r (List.mem_filter.1 hr).1
  unfold hopOf hopOf2
  by_cases e : r.new = -1
  · simp [e]
  · have : 0 ≤ r.new := by omega
    simp [e, this]
theorem routeR_new {n : Int} {r : Route} (h : routeR n r = true) : -1 ≤ r.new := by
  unfold routeR at h
  simp at h
  omega
end Go.Proofs.YtcpfkcipnkeokaaFw
