import Derived.Test.YtahkpghgjjlgdaaJ5
import Derived.Test.YtahkpghgjjlgdaaJ4
import Derived.Test.YtahkpghgjjlgdaaJ0
/-
  The walk of resp.Play, of 4, 5 streams.
-/
namespace Go.Proofs.YtahkpghgjjlgdaaFw
open Go Go.Proofs
set_option maxRecDepth 100000
set_option maxHeartbeats 16000000
set_option linter.unusedVariables false
set_option linter.unusedSimpArgs false

def pl4O (y0 y1 y2 y3 : QS) : Nat → AS
  | 0 => { sl := [(12, .sl true 1 []), (77, .own 150 1 0 4), (78, .int .i64 4), (79, .int .i64 0)], st := [(100, .box (encQ y0)), (101, .box (encQ y1)), (102, .box (encQ y2)), (103, .box (encQ y3)), (150, .row 1 [[.ptr 100 0], [.ptr 101 0], [.ptr 102 0], [.ptr 103 0]])], nx := 400, n := 92 }
  | 1 => { sl := [(12, .own 170 1 0 1), (77, .own 150 1 0 4), (78, .int .i64 4), (79, .int .i64 1)], st := [(100, .box (encQ y0)), (101, .box (encQ y1)), (102, .box (encQ y2)), (103, .box (encQ y3)), (150, .row 1 [[.ptr 100 0], [.ptr 101 0], [.ptr 102 0], [.ptr 103 0]]), (170, .row 1 [[.int .i64 y0.late]])], nx := 400, n := 92 }
  | 2 => { sl := [(12, .own 170 1 0 2), (77, .own 150 1 0 4), (78, .int .i64 4), (79, .int .i64 2)], st := [(100, .box (encQ y0)), (101, .box (encQ y1)), (102, .box (encQ y2)), (103, .box (encQ y3)), (150, .row 1 [[.ptr 100 0], [.ptr 101 0], [.ptr 102 0], [.ptr 103 0]]), (170, .row 1 [[.int .i64 y0.late], [.int .i64 y1.late]])], nx := 400, n := 92 }
  | 3 => { sl := [(12, .own 170 1 0 3), (77, .own 150 1 0 4), (78, .int .i64 4), (79, .int .i64 3)], st := [(100, .box (encQ y0)), (101, .box (encQ y1)), (102, .box (encQ y2)), (103, .box (encQ y3)), (150, .row 1 [[.ptr 100 0], [.ptr 101 0], [.ptr 102 0], [.ptr 103 0]]), (170, .row 1 [[.int .i64 y0.late], [.int .i64 y1.late], [.int .i64 y2.late]])], nx := 400, n := 92 }
  | _ => { sl := [(12, .own 170 1 0 4), (77, .own 150 1 0 4), (78, .int .i64 4), (79, .int .i64 4)], st := [(100, .box (encQ y0)), (101, .box (encQ y1)), (102, .box (encQ y2)), (103, .box (encQ y3)), (150, .row 1 [[.ptr 100 0], [.ptr 101 0], [.ptr 102 0], [.ptr 103 0]]), (170, .row 1 [[.int .i64 y0.late], [.int .i64 y1.late], [.int .i64 y2.late], [.int .i64 y3.late]])], nx := 400, n := 92 }
def pl4S (u0 u1 u2 u3 : Stream) (b0 b1 b2 b3 until_ : Int) : Nat → AS
  | 0 => { sl := [(0, .sl false 3 ([u0, u1, u2, u3].map encStream)), (1, .sl false 1 ([b0, b1, b2, b3].map encI)), (2, .int .i64 until_), (7, .sl true 1 []), (30, .sl false 3 ([u0, u1, u2, u3].map encStream)), (31, .int .i64 4), (32, .int .i64 0)], st := [], nx := 200, n := 92 }
  | 1 => { sl := [(0, .sl false 3 ([u0, u1, u2, u3].map encStream)), (1, .sl false 1 ([b0, b1, b2, b3].map encI)), (2, .int .i64 until_), (7, .own 150 1 0 1), (30, .sl false 3 ([u0, u1, u2, u3].map encStream)), (31, .int .i64 4), (32, .int .i64 1)], st := [(100, .box [.int .i64 u0.bits, .int .i64 u0.period, .int .i64 u0.jitter, .int .i64 0, .int .i64 b0, .int .i64 b0, .int .i64 0]), (150, .row 1 [[.ptr 100 0]])], nx := 200, n := 92 }
  | 2 => { sl := [(0, .sl false 3 ([u0, u1, u2, u3].map encStream)), (1, .sl false 1 ([b0, b1, b2, b3].map encI)), (2, .int .i64 until_), (7, .own 150 1 0 2), (30, .sl false 3 ([u0, u1, u2, u3].map encStream)), (31, .int .i64 4), (32, .int .i64 2)], st := [(100, .box [.int .i64 u0.bits, .int .i64 u0.period, .int .i64 u0.jitter, .int .i64 0, .int .i64 b0, .int .i64 b0, .int .i64 0]), (101, .box [.int .i64 u1.bits, .int .i64 u1.period, .int .i64 u1.jitter, .int .i64 0, .int .i64 b1, .int .i64 b1, .int .i64 0]), (150, .row 1 [[.ptr 100 0], [.ptr 101 0]])], nx := 200, n := 92 }
  | 3 => { sl := [(0, .sl false 3 ([u0, u1, u2, u3].map encStream)), (1, .sl false 1 ([b0, b1, b2, b3].map encI)), (2, .int .i64 until_), (7, .own 150 1 0 3), (30, .sl false 3 ([u0, u1, u2, u3].map encStream)), (31, .int .i64 4), (32, .int .i64 3)], st := [(100, .box [.int .i64 u0.bits, .int .i64 u0.period, .int .i64 u0.jitter, .int .i64 0, .int .i64 b0, .int .i64 b0, .int .i64 0]), (101, .box [.int .i64 u1.bits, .int .i64 u1.period, .int .i64 u1.jitter, .int .i64 0, .int .i64 b1, .int .i64 b1, .int .i64 0]), (102, .box [.int .i64 u2.bits, .int .i64 u2.period, .int .i64 u2.jitter, .int .i64 0, .int .i64 b2, .int .i64 b2, .int .i64 0]), (150, .row 1 [[.ptr 100 0], [.ptr 101 0], [.ptr 102 0]])], nx := 200, n := 92 }
  | _ => { sl := [(0, .sl false 3 ([u0, u1, u2, u3].map encStream)), (1, .sl false 1 ([b0, b1, b2, b3].map encI)), (2, .int .i64 until_), (7, .own 150 1 0 4), (30, .sl false 3 ([u0, u1, u2, u3].map encStream)), (31, .int .i64 4), (32, .int .i64 4)], st := [(100, .box [.int .i64 u0.bits, .int .i64 u0.period, .int .i64 u0.jitter, .int .i64 0, .int .i64 b0, .int .i64 b0, .int .i64 0]), (101, .box [.int .i64 u1.bits, .int .i64 u1.period, .int .i64 u1.jitter, .int .i64 0, .int .i64 b1, .int .i64 b1, .int .i64 0]), (102, .box [.int .i64 u2.bits, .int .i64 u2.period, .int .i64 u2.jitter, .int .i64 0, .int .i64 b2, .int .i64 b2, .int .i64 0]), (103, .box [.int .i64 u3.bits, .int .i64 u3.period, .int .i64 u3.jitter, .int .i64 0, .int .i64 b3, .int .i64 b3, .int .i64 0]), (150, .row 1 [[.ptr 100 0], [.ptr 101 0], [.ptr 102 0], [.ptr 103 0]])], nx := 200, n := 92 }
theorem play4_ok (u0 u1 u2 u3 : Stream) (b0 b1 b2 b3 until_ : Int) (hr : rightS [u0, u1, u2, u3] = true) (hu0 : 0 ≤ until_) (hu1 : until_ ≤ 1000000) :
    FnS Try.prog 18 [.sl false 3 ([u0, u1, u2, u3].map encStream), .sl false 1 ([b0, b1, b2, b3].map encI), .int .i64 until_] [] (.sl false 1 ((playZ [u0, u1, u2, u3] [b0, b1, b2, b3] until_).map encI)) [] := by
  obtain ⟨hs, hl1, hl16⟩ := right_ok_s hr
  refine fn_raw tabOk Try.func18 rfl (by decide +kernel) Try.ntmps18 Try.results18 (by simp) fun B hB hds => ?_
  refine raw_seq (N' := fun s1 => s1.le B { sl := [(0, .sl false 3 ([u0, u1, u2, u3].map encStream)), (1, .sl false 1 ([b0, b1, b2, b3].map encI)), (2, .int .i64 until_)], st := [], nx := 0, n := 92 }) ?_ (fun s1 hle a w hs1 => ?_)
  · try refine hK _ ?_
    repeat (first | refine awp_seq ?_ | refine awp_block ?_ | refine awp_skip ?_ | refine awp_scope ?_ | refine awp_label ?_)
    refine awp_region tabOk fun K hK => ?_
    simp -dsimp -implicitDefEqProofs only [push_cast, ↓trAdd_f, ↓stOf_f, seval]
    refine hK _ ?_
    refine le_intro hB [] (by simp) (fun b _ => rfl) rfl ?_ ?_ rfl <;> simp -dsimp -implicitDefEqProofs only [push_cast, ↓trAdd_f, ↓stOf_f, seval]
  refine raw_seq (s := { sl := [(0, .sl false 3 ([u0, u1, u2, u3].map encStream)), (1, .sl false 1 ([b0, b1, b2, b3].map encI)), (2, .int .i64 until_)], st := [], nx := 0, n := 92 }) (N' := fun s1 => s1.le B { sl := [(0, .sl false 3 ([u0, u1, u2, u3].map encStream)), (1, .sl false 1 ([b0, b1, b2, b3].map encI)), (2, .int .i64 until_)], st := [], nx := 0, n := 92 }) ?_ (fun s1 hle a w hs1 => ?_) a w (hle a w hs1)
  · have hu0' : decide (0 ≤ until_) = true := by simpa using hu0
    have hu1' : decide (until_ ≤ 1000000) = true := by simpa using hu1
    try refine hK _ ?_
    repeat (first | refine awp_seq ?_ | refine awp_block ?_ | refine awp_skip ?_ | refine awp_scope ?_ | refine awp_label ?_)
    refine awp_region tabOk fun K hK => ?_
    simp -dsimp -implicitDefEqProofs only [push_cast, ↓trAdd_f, ↓stOf_f, seval]
    refine callK_simple (rRight_ok false [u0, u1, u2, u3] (by simp)) ?_ rfl fun _ => ?_
    · simp -dsimp -implicitDefEqProofs only [push_cast, List.mem_append, List.mem_cons, List.mem_singleton, forall_eq_or_imp, forall_eq, ↓trAdd_f, ↓stOf_f, seval]
    rw [hr]
    simp -dsimp -implicitDefEqProofs only [push_cast, ↓trAdd_f, ↓stOf_f, seval]
    refine callK_simple (within_ok until_ 0 1000000) ?_ rfl fun _ => ?_
    · simp -dsimp -implicitDefEqProofs only [push_cast, List.mem_append, List.mem_cons, List.mem_singleton, forall_eq_or_imp, forall_eq, ↓trAdd_f, ↓stOf_f, seval]
    simp -dsimp -implicitDefEqProofs only [hu0', hu1', push_cast, ↓trAdd_f, ↓stOf_f, seval]
    try refine hK _ ?_
    repeat (first | refine awp_seq ?_ | refine awp_block ?_ | refine awp_skip ?_ | refine awp_scope ?_ | refine awp_label ?_)
    refine awp_cond (b := false) (by simp -dsimp -implicitDefEqProofs only [push_cast, ↓trAdd_f, ↓stOf_f, seval]) (fun h => ?_) (fun h => ?_)
    · simp at h
    refine awp_skip ?_
    refine le_intro hB [] (by simp) (fun b _ => rfl) rfl ?_ ?_ rfl <;> simp -dsimp -implicitDefEqProofs only [push_cast, ↓trAdd_f, ↓stOf_f, seval]
  refine raw_seq (s := { sl := [(0, .sl false 3 ([u0, u1, u2, u3].map encStream)), (1, .sl false 1 ([b0, b1, b2, b3].map encI)), (2, .int .i64 until_)], st := [], nx := 0, n := 92 }) (N' := fun s1 => s1.le B { sl := [(0, .sl false 3 ([u0, u1, u2, u3].map encStream)), (1, .sl false 1 ([b0, b1, b2, b3].map encI)), (2, .int .i64 until_), (7, .sl true 1 [])], st := [], nx := 0, n := 92 }) ?_ (fun s1 hle a w hs1 => ?_) a w (hle a w hs1)
  · try refine hK _ ?_
    repeat (first | refine awp_seq ?_ | refine awp_block ?_ | refine awp_skip ?_ | refine awp_scope ?_ | refine awp_label ?_)
    refine awp_region tabOk fun K hK => ?_
    simp -dsimp -implicitDefEqProofs only [push_cast, ↓trAdd_f, ↓stOf_f, seval]
    refine hK _ ?_
    refine le_intro hB [] (by simp) (fun b _ => rfl) rfl ?_ ?_ rfl <;> simp -dsimp -implicitDefEqProofs only [push_cast, ↓trAdd_f, ↓stOf_f, seval]
  refine raw_seq (s := { sl := [(0, .sl false 3 ([u0, u1, u2, u3].map encStream)), (1, .sl false 1 ([b0, b1, b2, b3].map encI)), (2, .int .i64 until_), (7, .sl true 1 [])], st := [], nx := 0, n := 92 }) (N' := fun s1 => (∀ b ∈ ([b0, b1, b2, b3] : List Int), 0 ≤ b ∧ b ≤ 1000000) ∧ s1.le B { sl := [(0, .sl false 3 ([u0, u1, u2, u3].map encStream)), (1, .sl false 1 ([b0, b1, b2, b3].map encI)), (2, .int .i64 until_), (7, .own 150 1 0 4)], st := [(100, .box [.int .i64 u0.bits, .int .i64 u0.period, .int .i64 u0.jitter, .int .i64 0, .int .i64 b0, .int .i64 b0, .int .i64 0]), (101, .box [.int .i64 u1.bits, .int .i64 u1.period, .int .i64 u1.jitter, .int .i64 0, .int .i64 b1, .int .i64 b1, .int .i64 0]), (102, .box [.int .i64 u2.bits, .int .i64 u2.period, .int .i64 u2.jitter, .int .i64 0, .int .i64 b2, .int .i64 b2, .int .i64 0]), (103, .box [.int .i64 u3.bits, .int .i64 u3.period, .int .i64 u3.jitter, .int .i64 0, .int .i64 b3, .int .i64 b3, .int .i64 0]), (150, .row 1 [[.ptr 100 0], [.ptr 101 0], [.ptr 102 0], [.ptr 103 0]])], nx := 200, n := 92 }) ?_ (fun s1 hle a w hs1 => ?_) a w (hle a w hs1)
  · try refine hK _ ?_
    repeat (first | refine awp_seq ?_ | refine awp_block ?_ | refine awp_skip ?_ | refine awp_scope ?_ | refine awp_label ?_)
    refine awp_region tabOk fun K hK => ?_
    simp -dsimp -implicitDefEqProofs only [push_cast, ↓trAdd_f, ↓stOf_f, seval]
    refine hK _ (awp_block ?_)
    refine awp_for (fun k : Nat => pl4S u0 u1 u2 u3 b0 b1 b2 b3 until_ k) (fun k => k ≤ 4 ∧ ∀ b ∈ ([b0, b1, b2, b3] : List Int).take k, 0 ≤ b ∧ b ≤ 1000000) (fun k => 4 - k) 0 ⟨Nat.zero_le _, by simp⟩ ?_ fun k hk => ?_
    · simp only [pl4S]
      refine le_intro hB [] (by simp) (fun b _ => rfl) rfl ?_ ?_ rfl <;> simp -dsimp -implicitDefEqProofs only [push_cast, ↓trAdd_f, ↓stOf_f, seval]
    obtain ⟨hk, hbs⟩ := hk
    have : k = 0 ∨ k = 1 ∨ k = 2 ∨ k = 3 ∨ k = 4 := by omega
    rcases this with rfl | rfl | rfl | rfl | rfl
    · simp only [pl4S]
      try refine hK _ ?_
      repeat (first | refine awp_seq ?_ | refine awp_block ?_ | refine awp_skip ?_ | refine awp_scope ?_ | refine awp_label ?_)
      refine awp_region tabOk fun K hK => ?_
      simp -dsimp -implicitDefEqProofs only [push_cast, ↓trAdd_f, ↓stOf_f, seval]
      try refine hK _ ?_
      repeat (first | refine awp_seq ?_ | refine awp_block ?_ | refine awp_skip ?_ | refine awp_scope ?_ | refine awp_label ?_)
      refine awp_cond (b := true) (by simp -dsimp -implicitDefEqProofs only [push_cast, ↓trAdd_f, ↓stOf_f, seval]) (fun h => ?_) (fun h => ?_)
      · try refine hK _ ?_
        repeat (first | refine awp_seq ?_ | refine awp_block ?_ | refine awp_skip ?_ | refine awp_scope ?_ | refine awp_label ?_)
        refine awp_region tabOk fun K hK => ?_
        simp -dsimp -implicitDefEqProofs only [tn1, tn2, tn3, tn4, encStream, push_cast, ↓trAdd_f, ↓stOf_f, seval]
        cases hb : decide (0 ≤ b0) && decide (b0 ≤ 1000000) with
        | false =>
          have e : playZ [u0, u1, u2, u3] [b0, b1, b2, b3] until_ = [] := by
            unfold playZ
            rw [if_neg]
            rintro ⟨_, _, _, _, h5⟩
            have := h5 b0 (by simp)
            simp at hb; omega
          try refine hK _ ?_
          repeat (first | refine awp_seq ?_ | refine awp_block ?_ | refine awp_skip ?_ | refine awp_scope ?_ | refine awp_label ?_)
          refine awp_region tabOk fun K hK => ?_
          simp -dsimp -implicitDefEqProofs only [tn1, tn2, tn3, tn4, encI, push_cast, ↓trAdd_f, ↓stOf_f, seval]
          refine callK_simple (within_ok b0 0 1000000) ?_ rfl fun _ => ?_
          · simp -dsimp -implicitDefEqProofs only [push_cast, List.mem_append, List.mem_cons, List.mem_singleton, forall_eq_or_imp, forall_eq, ↓trAdd_f, ↓stOf_f, seval]
          rw [hb]
          simp -dsimp -implicitDefEqProofs only [push_cast, ↓trAdd_f, ↓stOf_f, seval]
          try refine hK _ ?_
          repeat (first | refine awp_seq ?_ | refine awp_block ?_ | refine awp_skip ?_ | refine awp_scope ?_ | refine awp_label ?_)
          refine awp_cond (b := true) (by simp -dsimp -implicitDefEqProofs only [push_cast, ↓trAdd_f, ↓stOf_f, seval]) (fun h => ?_) (fun h => ?_)
          · try refine hK _ ?_
            repeat (first | refine awp_seq ?_ | refine awp_block ?_ | refine awp_skip ?_ | refine awp_scope ?_ | refine awp_label ?_)
            refine awp_region tabOk fun K hK => ?_
            simp -dsimp -implicitDefEqProofs only [push_cast, ↓trAdd_f, ↓stOf_f, seval]
            refine hK _ (awp_ret ?_)
            rw [e]
            simp -dsimp -implicitDefEqProofs only [push_cast, List.mem_append, List.mem_cons, List.mem_singleton, forall_eq_or_imp, forall_eq, ↓trAdd_f, ↓stOf_f, seval]
          · simp at h
        | true =>
          have hbk : 0 ≤ b0 ∧ b0 ≤ 1000000 := by simpa using hb
          try refine hK _ ?_
          repeat (first | refine awp_seq ?_ | refine awp_block ?_ | refine awp_skip ?_ | refine awp_scope ?_ | refine awp_label ?_)
          refine awp_region tabOk fun K hK => ?_
          simp -dsimp -implicitDefEqProofs only [tn1, tn2, tn3, tn4, encI, push_cast, ↓trAdd_f, ↓stOf_f, seval]
          refine callK_simple (within_ok b0 0 1000000) ?_ rfl fun _ => ?_
          · simp -dsimp -implicitDefEqProofs only [push_cast, List.mem_append, List.mem_cons, List.mem_singleton, forall_eq_or_imp, forall_eq, ↓trAdd_f, ↓stOf_f, seval]
          rw [hb]
          simp -dsimp -implicitDefEqProofs only [push_cast, ↓trAdd_f, ↓stOf_f, seval]
          try refine hK _ ?_
          repeat (first | refine awp_seq ?_ | refine awp_block ?_ | refine awp_skip ?_ | refine awp_scope ?_ | refine awp_label ?_)
          refine awp_cond (b := false) (by simp -dsimp -implicitDefEqProofs only [push_cast, ↓trAdd_f, ↓stOf_f, seval]) (fun h => ?_) (fun h => ?_)
          · simp at h
          clear h
          refine awp_skip ?_
          try refine hK _ ?_
          repeat (first | refine awp_seq ?_ | refine awp_block ?_ | refine awp_skip ?_ | refine awp_scope ?_ | refine awp_label ?_)
          refine awp_draw tabOk (by kernel_rfl) (by kernel_rfl) fun K hK C hC => ?_
          simp -dsimp -implicitDefEqProofs only [tn1, tn2, tn3, tn4, encI, encStream, push_cast, ↓trAdd_f, ↓stOf_f, seval]
          refine ⟨hC _ (by kernel_rfl), ?_⟩
          clear hC C
          try refine hK _ ?_
          repeat (first | refine awp_seq ?_ | refine awp_block ?_ | refine awp_skip ?_ | refine awp_scope ?_ | refine awp_label ?_)
          refine awp_region tabOk fun K hK => ?_
          simp -dsimp -implicitDefEqProofs only [push_cast, ↓trAdd_f, ↓stOf_f, seval]
          try simp (disch := omega) only [wrap_i64, wrap_u8, wrap_u16, wrap_u32]
          refine hK _ ⟨1, ⟨by decide, ?_⟩, by decide, ?_⟩
          · intro b hb
            rcases List.mem_append.1 (show b ∈ ([b0, b1, b2, b3] : List Int).take 0 ++ [b0] from hb) with hb | hb
            · exact hbs b hb
            · simp at hb; subst hb; exact hbk
          simp only [pl4S]
          refine le_intro hB [(100, 392), (150, 408)] (by simp) (fun b hb => absurd hb (Nat.not_lt_zero b)) rfl ?_ ?_ rfl <;> simp -dsimp -implicitDefEqProofs only [encStream, encI, push_cast, ↓trAdd_f, ↓stOf_f, seval]
      · simp at h
    · simp only [pl4S]
      try refine hK _ ?_
      repeat (first | refine awp_seq ?_ | refine awp_block ?_ | refine awp_skip ?_ | refine awp_scope ?_ | refine awp_label ?_)
      refine awp_region tabOk fun K hK => ?_
      simp -dsimp -implicitDefEqProofs only [push_cast, ↓trAdd_f, ↓stOf_f, seval]
      try refine hK _ ?_
      repeat (first | refine awp_seq ?_ | refine awp_block ?_ | refine awp_skip ?_ | refine awp_scope ?_ | refine awp_label ?_)
      refine awp_cond (b := true) (by simp -dsimp -implicitDefEqProofs only [push_cast, ↓trAdd_f, ↓stOf_f, seval]) (fun h => ?_) (fun h => ?_)
      · try refine hK _ ?_
        repeat (first | refine awp_seq ?_ | refine awp_block ?_ | refine awp_skip ?_ | refine awp_scope ?_ | refine awp_label ?_)
        refine awp_region tabOk fun K hK => ?_
        simp -dsimp -implicitDefEqProofs only [tn1, tn2, tn3, tn4, encStream, push_cast, ↓trAdd_f, ↓stOf_f, seval]
        cases hb : decide (0 ≤ b1) && decide (b1 ≤ 1000000) with
        | false =>
          have e : playZ [u0, u1, u2, u3] [b0, b1, b2, b3] until_ = [] := by
            unfold playZ
            rw [if_neg]
            rintro ⟨_, _, _, _, h5⟩
            have := h5 b1 (by simp)
            simp at hb; omega
          try refine hK _ ?_
          repeat (first | refine awp_seq ?_ | refine awp_block ?_ | refine awp_skip ?_ | refine awp_scope ?_ | refine awp_label ?_)
          refine awp_region tabOk fun K hK => ?_
          simp -dsimp -implicitDefEqProofs only [tn1, tn2, tn3, tn4, encI, push_cast, ↓trAdd_f, ↓stOf_f, seval]
          refine callK_simple (within_ok b1 0 1000000) ?_ rfl fun _ => ?_
          · simp -dsimp -implicitDefEqProofs only [push_cast, List.mem_append, List.mem_cons, List.mem_singleton, forall_eq_or_imp, forall_eq, ↓trAdd_f, ↓stOf_f, seval]
          rw [hb]
          simp -dsimp -implicitDefEqProofs only [push_cast, ↓trAdd_f, ↓stOf_f, seval]
          try refine hK _ ?_
          repeat (first | refine awp_seq ?_ | refine awp_block ?_ | refine awp_skip ?_ | refine awp_scope ?_ | refine awp_label ?_)
          refine awp_cond (b := true) (by simp -dsimp -implicitDefEqProofs only [push_cast, ↓trAdd_f, ↓stOf_f, seval]) (fun h => ?_) (fun h => ?_)
          · try refine hK _ ?_
            repeat (first | refine awp_seq ?_ | refine awp_block ?_ | refine awp_skip ?_ | refine awp_scope ?_ | refine awp_label ?_)
            refine awp_region tabOk fun K hK => ?_
            simp -dsimp -implicitDefEqProofs only [push_cast, ↓trAdd_f, ↓stOf_f, seval]
            refine hK _ (awp_ret ?_)
            rw [e]
            simp -dsimp -implicitDefEqProofs only [push_cast, List.mem_append, List.mem_cons, List.mem_singleton, forall_eq_or_imp, forall_eq, ↓trAdd_f, ↓stOf_f, seval]
          · simp at h
        | true =>
          have hbk : 0 ≤ b1 ∧ b1 ≤ 1000000 := by simpa using hb
          try refine hK _ ?_
          repeat (first | refine awp_seq ?_ | refine awp_block ?_ | refine awp_skip ?_ | refine awp_scope ?_ | refine awp_label ?_)
          refine awp_region tabOk fun K hK => ?_
          simp -dsimp -implicitDefEqProofs only [tn1, tn2, tn3, tn4, encI, push_cast, ↓trAdd_f, ↓stOf_f, seval]
          refine callK_simple (within_ok b1 0 1000000) ?_ rfl fun _ => ?_
          · simp -dsimp -implicitDefEqProofs only [push_cast, List.mem_append, List.mem_cons, List.mem_singleton, forall_eq_or_imp, forall_eq, ↓trAdd_f, ↓stOf_f, seval]
          rw [hb]
          simp -dsimp -implicitDefEqProofs only [push_cast, ↓trAdd_f, ↓stOf_f, seval]
          try refine hK _ ?_
          repeat (first | refine awp_seq ?_ | refine awp_block ?_ | refine awp_skip ?_ | refine awp_scope ?_ | refine awp_label ?_)
          refine awp_cond (b := false) (by simp -dsimp -implicitDefEqProofs only [push_cast, ↓trAdd_f, ↓stOf_f, seval]) (fun h => ?_) (fun h => ?_)
          · simp at h
          clear h
          refine awp_skip ?_
          try refine hK _ ?_
          repeat (first | refine awp_seq ?_ | refine awp_block ?_ | refine awp_skip ?_ | refine awp_scope ?_ | refine awp_label ?_)
          refine awp_draw tabOk (by kernel_rfl) (by kernel_rfl) fun K hK C hC => ?_
          simp -dsimp -implicitDefEqProofs only [tn1, tn2, tn3, tn4, encI, encStream, push_cast, ↓trAdd_f, ↓stOf_f, seval]
          refine ⟨hC _ (by kernel_rfl), ?_⟩
          clear hC C
          try refine hK _ ?_
          repeat (first | refine awp_seq ?_ | refine awp_block ?_ | refine awp_skip ?_ | refine awp_scope ?_ | refine awp_label ?_)
          refine awp_region tabOk fun K hK => ?_
          simp -dsimp -implicitDefEqProofs only [push_cast, ↓trAdd_f, ↓stOf_f, seval]
          try simp (disch := omega) only [wrap_i64, wrap_u8, wrap_u16, wrap_u32]
          refine hK _ ⟨2, ⟨by decide, ?_⟩, by decide, ?_⟩
          · intro b hb
            rcases List.mem_append.1 (show b ∈ ([b0, b1, b2, b3] : List Int).take 1 ++ [b1] from hb) with hb | hb
            · exact hbs b hb
            · simp at hb; subst hb; exact hbk
          simp only [pl4S]
          refine le_intro hB [(101, 392), (150, 408)] (by simp) (fun b hb => absurd hb (Nat.not_lt_zero b)) rfl ?_ ?_ rfl <;> simp -dsimp -implicitDefEqProofs only [encStream, encI, push_cast, ↓trAdd_f, ↓stOf_f, seval]
      · simp at h
    · simp only [pl4S]
      try refine hK _ ?_
      repeat (first | refine awp_seq ?_ | refine awp_block ?_ | refine awp_skip ?_ | refine awp_scope ?_ | refine awp_label ?_)
      refine awp_region tabOk fun K hK => ?_
      simp -dsimp -implicitDefEqProofs only [push_cast, ↓trAdd_f, ↓stOf_f, seval]
      try refine hK _ ?_
      repeat (first | refine awp_seq ?_ | refine awp_block ?_ | refine awp_skip ?_ | refine awp_scope ?_ | refine awp_label ?_)
      refine awp_cond (b := true) (by simp -dsimp -implicitDefEqProofs only [push_cast, ↓trAdd_f, ↓stOf_f, seval]) (fun h => ?_) (fun h => ?_)
      · try refine hK _ ?_
        repeat (first | refine awp_seq ?_ | refine awp_block ?_ | refine awp_skip ?_ | refine awp_scope ?_ | refine awp_label ?_)
        refine awp_region tabOk fun K hK => ?_
        simp -dsimp -implicitDefEqProofs only [tn1, tn2, tn3, tn4, encStream, push_cast, ↓trAdd_f, ↓stOf_f, seval]
        cases hb : decide (0 ≤ b2) && decide (b2 ≤ 1000000) with
        | false =>
          have e : playZ [u0, u1, u2, u3] [b0, b1, b2, b3] until_ = [] := by
            unfold playZ
            rw [if_neg]
            rintro ⟨_, _, _, _, h5⟩
            have := h5 b2 (by simp)
            simp at hb; omega
          try refine hK _ ?_
          repeat (first | refine awp_seq ?_ | refine awp_block ?_ | refine awp_skip ?_ | refine awp_scope ?_ | refine awp_label ?_)
          refine awp_region tabOk fun K hK => ?_
          simp -dsimp -implicitDefEqProofs only [tn1, tn2, tn3, tn4, encI, push_cast, ↓trAdd_f, ↓stOf_f, seval]
          refine callK_simple (within_ok b2 0 1000000) ?_ rfl fun _ => ?_
          · simp -dsimp -implicitDefEqProofs only [push_cast, List.mem_append, List.mem_cons, List.mem_singleton, forall_eq_or_imp, forall_eq, ↓trAdd_f, ↓stOf_f, seval]
          rw [hb]
          simp -dsimp -implicitDefEqProofs only [push_cast, ↓trAdd_f, ↓stOf_f, seval]
          try refine hK _ ?_
          repeat (first | refine awp_seq ?_ | refine awp_block ?_ | refine awp_skip ?_ | refine awp_scope ?_ | refine awp_label ?_)
          refine awp_cond (b := true) (by simp -dsimp -implicitDefEqProofs only [push_cast, ↓trAdd_f, ↓stOf_f, seval]) (fun h => ?_) (fun h => ?_)
          · try refine hK _ ?_
            repeat (first | refine awp_seq ?_ | refine awp_block ?_ | refine awp_skip ?_ | refine awp_scope ?_ | refine awp_label ?_)
            refine awp_region tabOk fun K hK => ?_
            simp -dsimp -implicitDefEqProofs only [push_cast, ↓trAdd_f, ↓stOf_f, seval]
            refine hK _ (awp_ret ?_)
            rw [e]
            simp -dsimp -implicitDefEqProofs only [push_cast, List.mem_append, List.mem_cons, List.mem_singleton, forall_eq_or_imp, forall_eq, ↓trAdd_f, ↓stOf_f, seval]
          · simp at h
        | true =>
          have hbk : 0 ≤ b2 ∧ b2 ≤ 1000000 := by simpa using hb
          try refine hK _ ?_
          repeat (first | refine awp_seq ?_ | refine awp_block ?_ | refine awp_skip ?_ | refine awp_scope ?_ | refine awp_label ?_)
          refine awp_region tabOk fun K hK => ?_
          simp -dsimp -implicitDefEqProofs only [tn1, tn2, tn3, tn4, encI, push_cast, ↓trAdd_f, ↓stOf_f, seval]
          refine callK_simple (within_ok b2 0 1000000) ?_ rfl fun _ => ?_
          · simp -dsimp -implicitDefEqProofs only [push_cast, List.mem_append, List.mem_cons, List.mem_singleton, forall_eq_or_imp, forall_eq, ↓trAdd_f, ↓stOf_f, seval]
          rw [hb]
          simp -dsimp -implicitDefEqProofs only [push_cast, ↓trAdd_f, ↓stOf_f, seval]
          try refine hK _ ?_
          repeat (first | refine awp_seq ?_ | refine awp_block ?_ | refine awp_skip ?_ | refine awp_scope ?_ | refine awp_label ?_)
          refine awp_cond (b := false) (by simp -dsimp -implicitDefEqProofs only [push_cast, ↓trAdd_f, ↓stOf_f, seval]) (fun h => ?_) (fun h => ?_)
          · simp at h
          clear h
          refine awp_skip ?_
          try refine hK _ ?_
          repeat (first | refine awp_seq ?_ | refine awp_block ?_ | refine awp_skip ?_ | refine awp_scope ?_ | refine awp_label ?_)
          refine awp_draw tabOk (by kernel_rfl) (by kernel_rfl) fun K hK C hC => ?_
          simp -dsimp -implicitDefEqProofs only [tn1, tn2, tn3, tn4, encI, encStream, push_cast, ↓trAdd_f, ↓stOf_f, seval]
          refine ⟨hC _ (by kernel_rfl), ?_⟩
          clear hC C
          try refine hK _ ?_
          repeat (first | refine awp_seq ?_ | refine awp_block ?_ | refine awp_skip ?_ | refine awp_scope ?_ | refine awp_label ?_)
          refine awp_region tabOk fun K hK => ?_
          simp -dsimp -implicitDefEqProofs only [push_cast, ↓trAdd_f, ↓stOf_f, seval]
          try simp (disch := omega) only [wrap_i64, wrap_u8, wrap_u16, wrap_u32]
          refine hK _ ⟨3, ⟨by decide, ?_⟩, by decide, ?_⟩
          · intro b hb
            rcases List.mem_append.1 (show b ∈ ([b0, b1, b2, b3] : List Int).take 2 ++ [b2] from hb) with hb | hb
            · exact hbs b hb
            · simp at hb; subst hb; exact hbk
          simp only [pl4S]
          refine le_intro hB [(102, 392), (150, 408)] (by simp) (fun b hb => absurd hb (Nat.not_lt_zero b)) rfl ?_ ?_ rfl <;> simp -dsimp -implicitDefEqProofs only [encStream, encI, push_cast, ↓trAdd_f, ↓stOf_f, seval]
      · simp at h
    · simp only [pl4S]
      try refine hK _ ?_
      repeat (first | refine awp_seq ?_ | refine awp_block ?_ | refine awp_skip ?_ | refine awp_scope ?_ | refine awp_label ?_)
      refine awp_region tabOk fun K hK => ?_
      simp -dsimp -implicitDefEqProofs only [push_cast, ↓trAdd_f, ↓stOf_f, seval]
      try refine hK _ ?_
      repeat (first | refine awp_seq ?_ | refine awp_block ?_ | refine awp_skip ?_ | refine awp_scope ?_ | refine awp_label ?_)
      refine awp_cond (b := true) (by simp -dsimp -implicitDefEqProofs only [push_cast, ↓trAdd_f, ↓stOf_f, seval]) (fun h => ?_) (fun h => ?_)
      · try refine hK _ ?_
        repeat (first | refine awp_seq ?_ | refine awp_block ?_ | refine awp_skip ?_ | refine awp_scope ?_ | refine awp_label ?_)
        refine awp_region tabOk fun K hK => ?_
        simp -dsimp -implicitDefEqProofs only [tn1, tn2, tn3, tn4, encStream, push_cast, ↓trAdd_f, ↓stOf_f, seval]
        cases hb : decide (0 ≤ b3) && decide (b3 ≤ 1000000) with
        | false =>
          have e : playZ [u0, u1, u2, u3] [b0, b1, b2, b3] until_ = [] := by
            unfold playZ
            rw [if_neg]
            rintro ⟨_, _, _, _, h5⟩
            have := h5 b3 (by simp)
            simp at hb; omega
          try refine hK _ ?_
          repeat (first | refine awp_seq ?_ | refine awp_block ?_ | refine awp_skip ?_ | refine awp_scope ?_ | refine awp_label ?_)
          refine awp_region tabOk fun K hK => ?_
          simp -dsimp -implicitDefEqProofs only [tn1, tn2, tn3, tn4, encI, push_cast, ↓trAdd_f, ↓stOf_f, seval]
          refine callK_simple (within_ok b3 0 1000000) ?_ rfl fun _ => ?_
          · simp -dsimp -implicitDefEqProofs only [push_cast, List.mem_append, List.mem_cons, List.mem_singleton, forall_eq_or_imp, forall_eq, ↓trAdd_f, ↓stOf_f, seval]
          rw [hb]
          simp -dsimp -implicitDefEqProofs only [push_cast, ↓trAdd_f, ↓stOf_f, seval]
          try refine hK _ ?_
          repeat (first | refine awp_seq ?_ | refine awp_block ?_ | refine awp_skip ?_ | refine awp_scope ?_ | refine awp_label ?_)
          refine awp_cond (b := true) (by simp -dsimp -implicitDefEqProofs only [push_cast, ↓trAdd_f, ↓stOf_f, seval]) (fun h => ?_) (fun h => ?_)
          · try refine hK _ ?_
            repeat (first | refine awp_seq ?_ | refine awp_block ?_ | refine awp_skip ?_ | refine awp_scope ?_ | refine awp_label ?_)
            refine awp_region tabOk fun K hK => ?_
            simp -dsimp -implicitDefEqProofs only [push_cast, ↓trAdd_f, ↓stOf_f, seval]
            refine hK _ (awp_ret ?_)
            rw [e]
            simp -dsimp -implicitDefEqProofs only [push_cast, List.mem_append, List.mem_cons, List.mem_singleton, forall_eq_or_imp, forall_eq, ↓trAdd_f, ↓stOf_f, seval]
          · simp at h
        | true =>
          have hbk : 0 ≤ b3 ∧ b3 ≤ 1000000 := by simpa using hb
          try refine hK _ ?_
          repeat (first | refine awp_seq ?_ | refine awp_block ?_ | refine awp_skip ?_ | refine awp_scope ?_ | refine awp_label ?_)
          refine awp_region tabOk fun K hK => ?_
          simp -dsimp -implicitDefEqProofs only [tn1, tn2, tn3, tn4, encI, push_cast, ↓trAdd_f, ↓stOf_f, seval]
          refine callK_simple (within_ok b3 0 1000000) ?_ rfl fun _ => ?_
          · simp -dsimp -implicitDefEqProofs only [push_cast, List.mem_append, List.mem_cons, List.mem_singleton, forall_eq_or_imp, forall_eq, ↓trAdd_f, ↓stOf_f, seval]
          rw [hb]
          simp -dsimp -implicitDefEqProofs only [push_cast, ↓trAdd_f, ↓stOf_f, seval]
          try refine hK _ ?_
          repeat (first | refine awp_seq ?_ | refine awp_block ?_ | refine awp_skip ?_ | refine awp_scope ?_ | refine awp_label ?_)
          refine awp_cond (b := false) (by simp -dsimp -implicitDefEqProofs only [push_cast, ↓trAdd_f, ↓stOf_f, seval]) (fun h => ?_) (fun h => ?_)
          · simp at h
          clear h
          refine awp_skip ?_
          try refine hK _ ?_
          repeat (first | refine awp_seq ?_ | refine awp_block ?_ | refine awp_skip ?_ | refine awp_scope ?_ | refine awp_label ?_)
          refine awp_draw tabOk (by kernel_rfl) (by kernel_rfl) fun K hK C hC => ?_
          simp -dsimp -implicitDefEqProofs only [tn1, tn2, tn3, tn4, encI, encStream, push_cast, ↓trAdd_f, ↓stOf_f, seval]
          refine ⟨hC _ (by kernel_rfl), ?_⟩
          clear hC C
          try refine hK _ ?_
          repeat (first | refine awp_seq ?_ | refine awp_block ?_ | refine awp_skip ?_ | refine awp_scope ?_ | refine awp_label ?_)
          refine awp_region tabOk fun K hK => ?_
          simp -dsimp -implicitDefEqProofs only [push_cast, ↓trAdd_f, ↓stOf_f, seval]
          try simp (disch := omega) only [wrap_i64, wrap_u8, wrap_u16, wrap_u32]
          refine hK _ ⟨4, ⟨by decide, ?_⟩, by decide, ?_⟩
          · intro b hb
            rcases List.mem_append.1 (show b ∈ ([b0, b1, b2, b3] : List Int).take 3 ++ [b3] from hb) with hb | hb
            · exact hbs b hb
            · simp at hb; subst hb; exact hbk
          simp only [pl4S]
          refine le_intro hB [(103, 392), (150, 408)] (by simp) (fun b hb => absurd hb (Nat.not_lt_zero b)) rfl ?_ ?_ rfl <;> simp -dsimp -implicitDefEqProofs only [encStream, encI, push_cast, ↓trAdd_f, ↓stOf_f, seval]
      · simp at h
    · simp only [pl4S]
      try refine hK _ ?_
      repeat (first | refine awp_seq ?_ | refine awp_block ?_ | refine awp_skip ?_ | refine awp_scope ?_ | refine awp_label ?_)
      refine awp_region tabOk fun K hK => ?_
      simp -dsimp -implicitDefEqProofs only [push_cast, ↓trAdd_f, ↓stOf_f, seval]
      try refine hK _ ?_
      repeat (first | refine awp_seq ?_ | refine awp_block ?_ | refine awp_skip ?_ | refine awp_scope ?_ | refine awp_label ?_)
      refine awp_cond (b := false) (by simp -dsimp -implicitDefEqProofs only [push_cast, ↓trAdd_f, ↓stOf_f, seval]) (fun h => ?_) (fun h => ?_)
      · simp at h
      refine awp_exit rfl ⟨hbs, ?_⟩
      refine le_intro hB [] (by simp) (fun b _ => rfl) rfl ?_ ?_ rfl <;> simp -dsimp -implicitDefEqProofs only [push_cast, ↓trAdd_f, ↓stOf_f, seval]
  obtain ⟨hball, hle⟩ := hle
  have p : PlayOk [u0, u1, u2, u3] [b0, b1, b2, b3] until_ := ⟨hs, hl16, hball, rfl, hu0, hu1⟩
  have hz : playZ [u0, u1, u2, u3] [b0, b1, b2, b3] until_ = (playN until_ fuel0 0 [{ s := u0, b := b0, q := 0, late := 0 }, { s := u1, b := b1, q := 0, late := 0 }, { s := u2, b := b2, q := 0, late := 0 }, { s := u3, b := b3, q := 0, late := 0 }]).map (·.late) := playZ_ok hr p
  have hX : PInv [u0, u1, u2, u3] [b0, b1, b2, b3] until_ fuel0 0 [{ s := u0, b := b0, q := 0, late := 0 }, { s := u1, b := b1, q := 0, late := 0 }, { s := u2, b := b2, q := 0, late := 0 }, { s := u3, b := b3, q := 0, late := 0 }] := pinv_first p
  have hsent := fun lp rec hY => sentf4_ok p rfl lp rec hY ({ s := u0, b := b0, q := 0, late := 0 }) ({ s := u1, b := b1, q := 0, late := 0 }) ({ s := u2, b := b2, q := 0, late := 0 }) ({ s := u3, b := b3, q := 0, late := 0 }) hX
  have hYl : (playN until_ fuel0 0 [{ s := u0, b := b0, q := 0, late := 0 }, { s := u1, b := b1, q := 0, late := 0 }, { s := u2, b := b2, q := 0, late := 0 }, { s := u3, b := b3, q := 0, late := 0 }]).length = 4 := by rw [playN_len]; rfl
  rw [hz]
  generalize playN until_ fuel0 0 [{ s := u0, b := b0, q := 0, late := 0 }, { s := u1, b := b1, q := 0, late := 0 }, { s := u2, b := b2, q := 0, late := 0 }, { s := u3, b := b3, q := 0, late := 0 }] = Y at *
  obtain ⟨y0, y1, y2, y3, rfl⟩ : ∃ y0 y1 y2 y3, Y = [y0, y1, y2, y3] := by
    match Y, hYl with
    | [y0, y1, y2, y3], _ => exact ⟨y0, y1, y2, y3, rfl⟩
  refine raw_seq2 (s := { sl := [(0, .sl false 3 ([u0, u1, u2, u3].map encStream)), (1, .sl false 1 ([b0, b1, b2, b3].map encI)), (2, .int .i64 until_), (7, .own 150 1 0 4)], st := [(100, .box [.int .i64 u0.bits, .int .i64 u0.period, .int .i64 u0.jitter, .int .i64 0, .int .i64 b0, .int .i64 b0, .int .i64 0]), (101, .box [.int .i64 u1.bits, .int .i64 u1.period, .int .i64 u1.jitter, .int .i64 0, .int .i64 b1, .int .i64 b1, .int .i64 0]), (102, .box [.int .i64 u2.bits, .int .i64 u2.period, .int .i64 u2.jitter, .int .i64 0, .int .i64 b2, .int .i64 b2, .int .i64 0]), (103, .box [.int .i64 u3.bits, .int .i64 u3.period, .int .i64 u3.jitter, .int .i64 0, .int .i64 b3, .int .i64 b3, .int .i64 0]), (150, .row 1 [[.ptr 100 0], [.ptr 101 0], [.ptr 102 0], [.ptr 103 0]])], nx := 200, n := 92 }) (N' := fun s1 => s1.le B { sl := [(60, .fn (.func 32) [] [.ptr 160 0, .ptr 161 0]), (7, .own 150 1 0 4)], st := [(100, .box [.int .i64 u0.bits, .int .i64 u0.period, .int .i64 u0.jitter, .int .i64 0, .int .i64 b0, .int .i64 b0, .int .i64 0]), (101, .box [.int .i64 u1.bits, .int .i64 u1.period, .int .i64 u1.jitter, .int .i64 0, .int .i64 b1, .int .i64 b1, .int .i64 0]), (102, .box [.int .i64 u2.bits, .int .i64 u2.period, .int .i64 u2.jitter, .int .i64 0, .int .i64 b2, .int .i64 b2, .int .i64 0]), (103, .box [.int .i64 u3.bits, .int .i64 u3.period, .int .i64 u3.jitter, .int .i64 0, .int .i64 b3, .int .i64 b3, .int .i64 0]), (150, .row 1 [[.ptr 100 0], [.ptr 101 0], [.ptr 102 0], [.ptr 103 0]]), (160, .box [.own 150 1 0 4]), (161, .box [.int .i64 until_])], nx := 208, n := 92 }) ?_ (fun s1 hle a w hs1 => ?_) a w (hle a w hs1)
  · try refine hK _ ?_
    repeat (first | refine awp_seq ?_ | refine awp_block ?_ | refine awp_skip ?_ | refine awp_scope ?_ | refine awp_label ?_)
    refine awp_region tabOk fun K hK => ?_
    simp -dsimp -implicitDefEqProofs only [push_cast, ↓trAdd_f, ↓stOf_f, seval]
    refine ⟨29, [], [], { args := [.own 4 1 0 4, .int .i64 until_], st0 := [(0, .box (encQ { s := u0, b := b0, q := 0, late := 0 })), (1, .box (encQ { s := u1, b := b1, q := 0, late := 0 })), (2, .box (encQ { s := u2, b := b2, q := 0, late := 0 })), (3, .box (encQ { s := u3, b := b3, q := 0, late := 0 })), (4, .row 1 [[.ptr 0 0], [.ptr 1 0], [.ptr 2 0], [.ptr 3 0]])], res := .fn (.func 32) [] [.ptr 5 0, .ptr 6 0], st1 := [(0, .box (encQ { s := u0, b := b0, q := 0, late := 0 })), (1, .box (encQ { s := u1, b := b1, q := 0, late := 0 })), (2, .box (encQ { s := u2, b := b2, q := 0, late := 0 })), (3, .box (encQ { s := u3, b := b3, q := 0, late := 0 })), (4, .row 1 [[.ptr 0 0], [.ptr 1 0], [.ptr 2 0], [.ptr 3 0]]), (5, .box [.own 4 1 0 4]), (6, .box [.int .i64 until_])], r := [100, 101, 102, 103, 150] }, rfl, sent4_ok ({ s := u0, b := b0, q := 0, late := 0 }) ({ s := u1, b := b1, q := 0, late := 0 }) ({ s := u2, b := b2, q := 0, late := 0 }) ({ s := u3, b := b3, q := 0, late := 0 }) until_, ?_, ?_⟩
    · simp only [encQ, due0, wts0, Int.natCast_zero]
      simp -dsimp -implicitDefEqProofs only [push_cast, List.mem_append, List.mem_cons, List.mem_singleton, forall_eq_or_imp, forall_eq, ↓trAdd_f, ↓stOf_f, seval]
      all_goals exact rfl
    simp only [encQ, due0, wts0, Int.natCast_zero]
    simp -dsimp -implicitDefEqProofs only [push_cast, ↓trAdd_f, ↓stOf_f, seval]
    refine hK _ ?_
    refine le_intro hB [(160, 216), (161, 217)] (by simp) (fun b hb => absurd hb (Nat.not_lt_zero b)) rfl ?_ ?_ rfl <;> simp -dsimp -implicitDefEqProofs only [push_cast, ↓trAdd_f, ↓stOf_f, seval]
  refine range_wp (ι := YI) (co := coY) (x0 := fun _ => .ptr 0 0) (x1 := fun i => .int .i64 i.1.2) (cg := fun lp => { args := [.fn (.yield lp) [] [], .ptr 5 0, .ptr 6 0], st0 := [(0, .box (encQ { s := u0, b := b0, q := 0, late := 0 })), (1, .box (encQ { s := u1, b := b1, q := 0, late := 0 })), (2, .box (encQ { s := u2, b := b2, q := 0, late := 0 })), (3, .box (encQ { s := u3, b := b3, q := 0, late := 0 })), (4, .row 1 [[.ptr 0 0], [.ptr 1 0], [.ptr 2 0], [.ptr 3 0]]), (5, .box [.own 4 1 0 4]), (6, .box [.int .i64 until_])], res := .tup [], st1 := [(0, .box (encQ y0)), (1, .box (encQ y1)), (2, .box (encQ y2)), (3, .box (encQ y3)), (4, .row 1 [[.ptr 0 0], [.ptr 1 0], [.ptr 2 0], [.ptr 3 0]]), (5, .box [.own 4 1 0 4]), (6, .box [.int .i64 until_])], r := [100, 101, 102, 103, 150, 160, 161] }) (s := { sl := [(60, .fn (.func 32) [] [.ptr 160 0, .ptr 161 0]), (7, .own 150 1 0 4)], st := [(100, .box [.int .i64 u0.bits, .int .i64 u0.period, .int .i64 u0.jitter, .int .i64 0, .int .i64 b0, .int .i64 b0, .int .i64 0]), (101, .box [.int .i64 u1.bits, .int .i64 u1.period, .int .i64 u1.jitter, .int .i64 0, .int .i64 b1, .int .i64 b1, .int .i64 0]), (102, .box [.int .i64 u2.bits, .int .i64 u2.period, .int .i64 u2.jitter, .int .i64 0, .int .i64 b2, .int .i64 b2, .int .i64 0]), (103, .box [.int .i64 u3.bits, .int .i64 u3.period, .int .i64 u3.jitter, .int .i64 0, .int .i64 b3, .int .i64 b3, .int .i64 0]), (150, .row 1 [[.ptr 100 0], [.ptr 101 0], [.ptr 102 0], [.ptr 103 0]]), (160, .box [.own 150 1 0 4]), (161, .box [.int .i64 until_])], nx := 208, n := 92 }) (n0 := 0) (cap := [.ptr 160 0, .ptr 161 0]) (gf := 32) hB hds rfl (by decide) (by show 61 < 92; decide) (by show 62 < 92; decide) (fun i => ⟨rfl, rfl⟩) (fun l i B hB => ?_) (fun lp rec hY => hsent lp rec hY) (fun lp => ?_) (fun lp B hB => ?_) a w (hle a w hs1)
  · obtain ⟨⟨x, e⟩, hx, he0, he1⟩ := i
    have hdd : 0 ≤ x.due ∧ x.due ≤ 11000000000000 := hx.due
    have he0' : 0 ≤ e := he0
    have he1' : e ≤ 50000000000 := he1
    have hw : IntKind.i64.wrap (e - x.due) = e - x.due := wrap_i64 (by omega) (by omega)
    simp only [coY, roundS, encQ, encQL] at *
    refine awpR_seq (awpR_region tabOk rfl fun K hK => ?_)
    simp -dsimp -implicitDefEqProofs only [push_cast, ↓trAdd_f, ↓stOf_f, seval]
    refine hK _ (awpR_region tabOk rfl fun K hK => ?_)
    simp -dsimp -implicitDefEqProofs only [push_cast, ↓trAdd_f, ↓stOf_f, seval]
    refine hK _ (fun B1 hB1 => awpR_block (awpR_draw tabOk (by kernel_rfl) rfl (by kernel_rfl) fun K hK C hC => ?_))
    simp -dsimp -implicitDefEqProofs only [hw, push_cast, ↓trAdd_f, ↓stOf_f, seval]
    refine ⟨hC _ (by kernel_rfl), hK _ ?_⟩
    simp -dsimp -implicitDefEqProofs only [push_cast, List.mem_append, List.mem_cons, List.mem_singleton, forall_eq_or_imp, forall_eq, ↓trAdd_f, ↓stOf_f, seval]
  · simp only [encQ, due0, wts0, Int.natCast_zero]
    simp -dsimp -implicitDefEqProofs only [push_cast, List.mem_append, List.mem_cons, List.mem_singleton, forall_eq_or_imp, forall_eq, ↓trAdd_f, ↓stOf_f, seval]
    all_goals exact rfl
  · simp only [encQ, due0, wts0, Int.natCast_zero]
    simp -dsimp -implicitDefEqProofs only [push_cast, ↓trAdd_f, ↓stOf_f, seval]
    try refine hK _ ?_
    repeat (first | refine awp_seq ?_ | refine awp_block ?_ | refine awp_skip ?_ | refine awp_scope ?_ | refine awp_label ?_)
    refine awp_region tabOk fun K hK => ?_
    simp -dsimp -implicitDefEqProofs only [push_cast, ↓trAdd_f, ↓stOf_f, seval]
    try refine hK _ ?_
    repeat (first | refine awp_seq ?_ | refine awp_block ?_ | refine awp_skip ?_ | refine awp_scope ?_ | refine awp_label ?_)
    refine awp_region tabOk fun K hK => ?_
    simp -dsimp -implicitDefEqProofs only [push_cast, ↓trAdd_f, ↓stOf_f, seval]
    refine hK _ (awp_block ?_)
    refine awp_for (fun k : Nat => pl4O y0 y1 y2 y3 k) (fun k => k ≤ 4) (fun k => 4 - k) 0 (Nat.zero_le _) ?_ fun k hk => ?_
    · simp only [pl4O, encQ]
      refine le_intro hB [] (by simp) (fun b _ => rfl) rfl ?_ ?_ rfl <;> simp -dsimp -implicitDefEqProofs only [push_cast, ↓trAdd_f, ↓stOf_f, seval]
    have : k = 0 ∨ k = 1 ∨ k = 2 ∨ k = 3 ∨ k = 4 := by omega
    rcases this with rfl | rfl | rfl | rfl | rfl
    · simp only [pl4O, encQ]
      try refine hK _ ?_
      repeat (first | refine awp_seq ?_ | refine awp_block ?_ | refine awp_skip ?_ | refine awp_scope ?_ | refine awp_label ?_)
      refine awp_region tabOk fun K hK => ?_
      simp -dsimp -implicitDefEqProofs only [push_cast, ↓trAdd_f, ↓stOf_f, seval]
      try refine hK _ ?_
      repeat (first | refine awp_seq ?_ | refine awp_block ?_ | refine awp_skip ?_ | refine awp_scope ?_ | refine awp_label ?_)
      refine awp_cond (b := true) (by simp -dsimp -implicitDefEqProofs only [push_cast, ↓trAdd_f, ↓stOf_f, seval]) (fun h => ?_) (fun h => ?_)
      · try refine hK _ ?_
        repeat (first | refine awp_seq ?_ | refine awp_block ?_ | refine awp_skip ?_ | refine awp_scope ?_ | refine awp_label ?_)
        refine awp_region tabOk fun K hK => ?_
        simp -dsimp -implicitDefEqProofs only [tn1, tn2, tn3, tn4, push_cast, ↓trAdd_f, ↓stOf_f, seval]
        try refine hK _ ?_
        repeat (first | refine awp_seq ?_ | refine awp_block ?_ | refine awp_skip ?_ | refine awp_scope ?_ | refine awp_label ?_)
        refine awp_region tabOk fun K hK => ?_
        simp -dsimp -implicitDefEqProofs only [push_cast, ↓trAdd_f, ↓stOf_f, seval]
        try refine hK _ ?_
        repeat (first | refine awp_seq ?_ | refine awp_block ?_ | refine awp_skip ?_ | refine awp_scope ?_ | refine awp_label ?_)
        refine awp_region tabOk fun K hK => ?_
        simp -dsimp -implicitDefEqProofs only [push_cast, ↓trAdd_f, ↓stOf_f, seval]
        try simp (disch := omega) only [wrap_i64, wrap_u8, wrap_u16, wrap_u32]
        refine hK _ ⟨1, by decide, by decide, ?_⟩
        simp only [pl4O, encQ]
        refine le_intro hB [(170, 480)] (by simp) (fun b hb => absurd hb (Nat.not_lt_zero b)) rfl ?_ ?_ rfl <;> simp -dsimp -implicitDefEqProofs only [push_cast, ↓trAdd_f, ↓stOf_f, seval]
      · simp at h
    · simp only [pl4O, encQ]
      try refine hK _ ?_
      repeat (first | refine awp_seq ?_ | refine awp_block ?_ | refine awp_skip ?_ | refine awp_scope ?_ | refine awp_label ?_)
      refine awp_region tabOk fun K hK => ?_
      simp -dsimp -implicitDefEqProofs only [push_cast, ↓trAdd_f, ↓stOf_f, seval]
      try refine hK _ ?_
      repeat (first | refine awp_seq ?_ | refine awp_block ?_ | refine awp_skip ?_ | refine awp_scope ?_ | refine awp_label ?_)
      refine awp_cond (b := true) (by simp -dsimp -implicitDefEqProofs only [push_cast, ↓trAdd_f, ↓stOf_f, seval]) (fun h => ?_) (fun h => ?_)
      · try refine hK _ ?_
        repeat (first | refine awp_seq ?_ | refine awp_block ?_ | refine awp_skip ?_ | refine awp_scope ?_ | refine awp_label ?_)
        refine awp_region tabOk fun K hK => ?_
        simp -dsimp -implicitDefEqProofs only [tn1, tn2, tn3, tn4, push_cast, ↓trAdd_f, ↓stOf_f, seval]
        try refine hK _ ?_
        repeat (first | refine awp_seq ?_ | refine awp_block ?_ | refine awp_skip ?_ | refine awp_scope ?_ | refine awp_label ?_)
        refine awp_region tabOk fun K hK => ?_
        simp -dsimp -implicitDefEqProofs only [push_cast, ↓trAdd_f, ↓stOf_f, seval]
        try refine hK _ ?_
        repeat (first | refine awp_seq ?_ | refine awp_block ?_ | refine awp_skip ?_ | refine awp_scope ?_ | refine awp_label ?_)
        refine awp_region tabOk fun K hK => ?_
        simp -dsimp -implicitDefEqProofs only [push_cast, ↓trAdd_f, ↓stOf_f, seval]
        try simp (disch := omega) only [wrap_i64, wrap_u8, wrap_u16, wrap_u32]
        refine hK _ ⟨2, by decide, by decide, ?_⟩
        simp only [pl4O, encQ]
        refine le_intro hB [(170, 480)] (by simp) (fun b hb => absurd hb (Nat.not_lt_zero b)) rfl ?_ ?_ rfl <;> simp -dsimp -implicitDefEqProofs only [push_cast, ↓trAdd_f, ↓stOf_f, seval]
      · simp at h
    · simp only [pl4O, encQ]
      try refine hK _ ?_
      repeat (first | refine awp_seq ?_ | refine awp_block ?_ | refine awp_skip ?_ | refine awp_scope ?_ | refine awp_label ?_)
      refine awp_region tabOk fun K hK => ?_
      simp -dsimp -implicitDefEqProofs only [push_cast, ↓trAdd_f, ↓stOf_f, seval]
      try refine hK _ ?_
      repeat (first | refine awp_seq ?_ | refine awp_block ?_ | refine awp_skip ?_ | refine awp_scope ?_ | refine awp_label ?_)
      refine awp_cond (b := true) (by simp -dsimp -implicitDefEqProofs only [push_cast, ↓trAdd_f, ↓stOf_f, seval]) (fun h => ?_) (fun h => ?_)
      · try refine hK _ ?_
        repeat (first | refine awp_seq ?_ | refine awp_block ?_ | refine awp_skip ?_ | refine awp_scope ?_ | refine awp_label ?_)
        refine awp_region tabOk fun K hK => ?_
        simp -dsimp -implicitDefEqProofs only [tn1, tn2, tn3, tn4, push_cast, ↓trAdd_f, ↓stOf_f, seval]
        try refine hK _ ?_
        repeat (first | refine awp_seq ?_ | refine awp_block ?_ | refine awp_skip ?_ | refine awp_scope ?_ | refine awp_label ?_)
        refine awp_region tabOk fun K hK => ?_
        simp -dsimp -implicitDefEqProofs only [push_cast, ↓trAdd_f, ↓stOf_f, seval]
        try refine hK _ ?_
        repeat (first | refine awp_seq ?_ | refine awp_block ?_ | refine awp_skip ?_ | refine awp_scope ?_ | refine awp_label ?_)
        refine awp_region tabOk fun K hK => ?_
        simp -dsimp -implicitDefEqProofs only [push_cast, ↓trAdd_f, ↓stOf_f, seval]
        try simp (disch := omega) only [wrap_i64, wrap_u8, wrap_u16, wrap_u32]
        refine hK _ ⟨3, by decide, by decide, ?_⟩
        simp only [pl4O, encQ]
        refine le_intro hB [(170, 480)] (by simp) (fun b hb => absurd hb (Nat.not_lt_zero b)) rfl ?_ ?_ rfl <;> simp -dsimp -implicitDefEqProofs only [push_cast, ↓trAdd_f, ↓stOf_f, seval]
      · simp at h
    · simp only [pl4O, encQ]
      try refine hK _ ?_
      repeat (first | refine awp_seq ?_ | refine awp_block ?_ | refine awp_skip ?_ | refine awp_scope ?_ | refine awp_label ?_)
      refine awp_region tabOk fun K hK => ?_
      simp -dsimp -implicitDefEqProofs only [push_cast, ↓trAdd_f, ↓stOf_f, seval]
      try refine hK _ ?_
      repeat (first | refine awp_seq ?_ | refine awp_block ?_ | refine awp_skip ?_ | refine awp_scope ?_ | refine awp_label ?_)
      refine awp_cond (b := true) (by simp -dsimp -implicitDefEqProofs only [push_cast, ↓trAdd_f, ↓stOf_f, seval]) (fun h => ?_) (fun h => ?_)
      · try refine hK _ ?_
        repeat (first | refine awp_seq ?_ | refine awp_block ?_ | refine awp_skip ?_ | refine awp_scope ?_ | refine awp_label ?_)
        refine awp_region tabOk fun K hK => ?_
        simp -dsimp -implicitDefEqProofs only [tn1, tn2, tn3, tn4, push_cast, ↓trAdd_f, ↓stOf_f, seval]
        try refine hK _ ?_
        repeat (first | refine awp_seq ?_ | refine awp_block ?_ | refine awp_skip ?_ | refine awp_scope ?_ | refine awp_label ?_)
        refine awp_region tabOk fun K hK => ?_
        simp -dsimp -implicitDefEqProofs only [push_cast, ↓trAdd_f, ↓stOf_f, seval]
        try refine hK _ ?_
        repeat (first | refine awp_seq ?_ | refine awp_block ?_ | refine awp_skip ?_ | refine awp_scope ?_ | refine awp_label ?_)
        refine awp_region tabOk fun K hK => ?_
        simp -dsimp -implicitDefEqProofs only [push_cast, ↓trAdd_f, ↓stOf_f, seval]
        try simp (disch := omega) only [wrap_i64, wrap_u8, wrap_u16, wrap_u32]
        refine hK _ ⟨4, by decide, by decide, ?_⟩
        simp only [pl4O, encQ]
        refine le_intro hB [(170, 480)] (by simp) (fun b hb => absurd hb (Nat.not_lt_zero b)) rfl ?_ ?_ rfl <;> simp -dsimp -implicitDefEqProofs only [push_cast, ↓trAdd_f, ↓stOf_f, seval]
      · simp at h
    · simp only [pl4O, encQ]
      try refine hK _ ?_
      repeat (first | refine awp_seq ?_ | refine awp_block ?_ | refine awp_skip ?_ | refine awp_scope ?_ | refine awp_label ?_)
      refine awp_region tabOk fun K hK => ?_
      simp -dsimp -implicitDefEqProofs only [push_cast, ↓trAdd_f, ↓stOf_f, seval]
      try refine hK _ ?_
      repeat (first | refine awp_seq ?_ | refine awp_block ?_ | refine awp_skip ?_ | refine awp_scope ?_ | refine awp_label ?_)
      refine awp_cond (b := false) (by simp -dsimp -implicitDefEqProofs only [push_cast, ↓trAdd_f, ↓stOf_f, seval]) (fun h => ?_) (fun h => ?_)
      · simp at h
      refine awp_exit rfl ?_
      try refine hK _ ?_
      repeat (first | refine awp_seq ?_ | refine awp_block ?_ | refine awp_skip ?_ | refine awp_scope ?_ | refine awp_label ?_)
      refine awp_region tabOk fun K hK => ?_
      simp -dsimp -implicitDefEqProofs only [push_cast, ↓trAdd_f, ↓stOf_f, seval]
      refine hK _ (awp_ret ?_)
      simp -dsimp -implicitDefEqProofs only [encI, push_cast, List.mem_append, List.mem_cons, List.mem_singleton, forall_eq_or_imp, forall_eq, ↓trAdd_f, ↓stOf_f, seval]



def pl5O (y0 y1 y2 y3 y4 : QS) : Nat → AS
  | 0 => { sl := [(12, .sl true 1 []), (77, .own 150 1 0 5), (78, .int .i64 5), (79, .int .i64 0)], st := [(100, .box (encQ y0)), (101, .box (encQ y1)), (102, .box (encQ y2)), (103, .box (encQ y3)), (104, .box (encQ y4)), (150, .row 1 [[.ptr 100 0], [.ptr 101 0], [.ptr 102 0], [.ptr 103 0], [.ptr 104 0]])], nx := 400, n := 92 }
  | 1 => { sl := [(12, .own 170 1 0 1), (77, .own 150 1 0 5), (78, .int .i64 5), (79, .int .i64 1)], st := [(100, .box (encQ y0)), (101, .box (encQ y1)), (102, .box (encQ y2)), (103, .box (encQ y3)), (104, .box (encQ y4)), (150, .row 1 [[.ptr 100 0], [.ptr 101 0], [.ptr 102 0], [.ptr 103 0], [.ptr 104 0]]), (170, .row 1 [[.int .i64 y0.late]])], nx := 400, n := 92 }
  | 2 => { sl := [(12, .own 170 1 0 2), (77, .own 150 1 0 5), (78, .int .i64 5), (79, .int .i64 2)], st := [(100, .box (encQ y0)), (101, .box (encQ y1)), (102, .box (encQ y2)), (103, .box (encQ y3)), (104, .box (encQ y4)), (150, .row 1 [[.ptr 100 0], [.ptr 101 0], [.ptr 102 0], [.ptr 103 0], [.ptr 104 0]]), (170, .row 1 [[.int .i64 y0.late], [.int .i64 y1.late]])], nx := 400, n := 92 }
  | 3 => { sl := [(12, .own 170 1 0 3), (77, .own 150 1 0 5), (78, .int .i64 5), (79, .int .i64 3)], st := [(100, .box (encQ y0)), (101, .box (encQ y1)), (102, .box (encQ y2)), (103, .box (encQ y3)), (104, .box (encQ y4)), (150, .row 1 [[.ptr 100 0], [.ptr 101 0], [.ptr 102 0], [.ptr 103 0], [.ptr 104 0]]), (170, .row 1 [[.int .i64 y0.late], [.int .i64 y1.late], [.int .i64 y2.late]])], nx := 400, n := 92 }
  | 4 => { sl := [(12, .own 170 1 0 4), (77, .own 150 1 0 5), (78, .int .i64 5), (79, .int .i64 4)], st := [(100, .box (encQ y0)), (101, .box (encQ y1)), (102, .box (encQ y2)), (103, .box (encQ y3)), (104, .box (encQ y4)), (150, .row 1 [[.ptr 100 0], [.ptr 101 0], [.ptr 102 0], [.ptr 103 0], [.ptr 104 0]]), (170, .row 1 [[.int .i64 y0.late], [.int .i64 y1.late], [.int .i64 y2.late], [.int .i64 y3.late]])], nx := 400, n := 92 }
  | _ => { sl := [(12, .own 170 1 0 5), (77, .own 150 1 0 5), (78, .int .i64 5), (79, .int .i64 5)], st := [(100, .box (encQ y0)), (101, .box (encQ y1)), (102, .box (encQ y2)), (103, .box (encQ y3)), (104, .box (encQ y4)), (150, .row 1 [[.ptr 100 0], [.ptr 101 0], [.ptr 102 0], [.ptr 103 0], [.ptr 104 0]]), (170, .row 1 [[.int .i64 y0.late], [.int .i64 y1.late], [.int .i64 y2.late], [.int .i64 y3.late], [.int .i64 y4.late]])], nx := 400, n := 92 }
def pl5S (u0 u1 u2 u3 u4 : Stream) (b0 b1 b2 b3 b4 until_ : Int) : Nat → AS
  | 0 => { sl := [(0, .sl false 3 ([u0, u1, u2, u3, u4].map encStream)), (1, .sl false 1 ([b0, b1, b2, b3, b4].map encI)), (2, .int .i64 until_), (7, .sl true 1 []), (30, .sl false 3 ([u0, u1, u2, u3, u4].map encStream)), (31, .int .i64 5), (32, .int .i64 0)], st := [], nx := 200, n := 92 }
  | 1 => { sl := [(0, .sl false 3 ([u0, u1, u2, u3, u4].map encStream)), (1, .sl false 1 ([b0, b1, b2, b3, b4].map encI)), (2, .int .i64 until_), (7, .own 150 1 0 1), (30, .sl false 3 ([u0, u1, u2, u3, u4].map encStream)), (31, .int .i64 5), (32, .int .i64 1)], st := [(100, .box [.int .i64 u0.bits, .int .i64 u0.period, .int .i64 u0.jitter, .int .i64 0, .int .i64 b0, .int .i64 b0, .int .i64 0]), (150, .row 1 [[.ptr 100 0]])], nx := 200, n := 92 }
  | 2 => { sl := [(0, .sl false 3 ([u0, u1, u2, u3, u4].map encStream)), (1, .sl false 1 ([b0, b1, b2, b3, b4].map encI)), (2, .int .i64 until_), (7, .own 150 1 0 2), (30, .sl false 3 ([u0, u1, u2, u3, u4].map encStream)), (31, .int .i64 5), (32, .int .i64 2)], st := [(100, .box [.int .i64 u0.bits, .int .i64 u0.period, .int .i64 u0.jitter, .int .i64 0, .int .i64 b0, .int .i64 b0, .int .i64 0]), (101, .box [.int .i64 u1.bits, .int .i64 u1.period, .int .i64 u1.jitter, .int .i64 0, .int .i64 b1, .int .i64 b1, .int .i64 0]), (150, .row 1 [[.ptr 100 0], [.ptr 101 0]])], nx := 200, n := 92 }
  | 3 => { sl := [(0, .sl false 3 ([u0, u1, u2, u3, u4].map encStream)), (1, .sl false 1 ([b0, b1, b2, b3, b4].map encI)), (2, .int .i64 until_), (7, .own 150 1 0 3), (30, .sl false 3 ([u0, u1, u2, u3, u4].map encStream)), (31, .int .i64 5), (32, .int .i64 3)], st := [(100, .box [.int .i64 u0.bits, .int .i64 u0.period, .int .i64 u0.jitter, .int .i64 0, .int .i64 b0, .int .i64 b0, .int .i64 0]), (101, .box [.int .i64 u1.bits, .int .i64 u1.period, .int .i64 u1.jitter, .int .i64 0, .int .i64 b1, .int .i64 b1, .int .i64 0]), (102, .box [.int .i64 u2.bits, .int .i64 u2.period, .int .i64 u2.jitter, .int .i64 0, .int .i64 b2, .int .i64 b2, .int .i64 0]), (150, .row 1 [[.ptr 100 0], [.ptr 101 0], [.ptr 102 0]])], nx := 200, n := 92 }
  | 4 => { sl := [(0, .sl false 3 ([u0, u1, u2, u3, u4].map encStream)), (1, .sl false 1 ([b0, b1, b2, b3, b4].map encI)), (2, .int .i64 until_), (7, .own 150 1 0 4), (30, .sl false 3 ([u0, u1, u2, u3, u4].map encStream)), (31, .int .i64 5), (32, .int .i64 4)], st := [(100, .box [.int .i64 u0.bits, .int .i64 u0.period, .int .i64 u0.jitter, .int .i64 0, .int .i64 b0, .int .i64 b0, .int .i64 0]), (101, .box [.int .i64 u1.bits, .int .i64 u1.period, .int .i64 u1.jitter, .int .i64 0, .int .i64 b1, .int .i64 b1, .int .i64 0]), (102, .box [.int .i64 u2.bits, .int .i64 u2.period, .int .i64 u2.jitter, .int .i64 0, .int .i64 b2, .int .i64 b2, .int .i64 0]), (103, .box [.int .i64 u3.bits, .int .i64 u3.period, .int .i64 u3.jitter, .int .i64 0, .int .i64 b3, .int .i64 b3, .int .i64 0]), (150, .row 1 [[.ptr 100 0], [.ptr 101 0], [.ptr 102 0], [.ptr 103 0]])], nx := 200, n := 92 }
  | _ => { sl := [(0, .sl false 3 ([u0, u1, u2, u3, u4].map encStream)), (1, .sl false 1 ([b0, b1, b2, b3, b4].map encI)), (2, .int .i64 until_), (7, .own 150 1 0 5), (30, .sl false 3 ([u0, u1, u2, u3, u4].map encStream)), (31, .int .i64 5), (32, .int .i64 5)], st := [(100, .box [.int .i64 u0.bits, .int .i64 u0.period, .int .i64 u0.jitter, .int .i64 0, .int .i64 b0, .int .i64 b0, .int .i64 0]), (101, .box [.int .i64 u1.bits, .int .i64 u1.period, .int .i64 u1.jitter, .int .i64 0, .int .i64 b1, .int .i64 b1, .int .i64 0]), (102, .box [.int .i64 u2.bits, .int .i64 u2.period, .int .i64 u2.jitter, .int .i64 0, .int .i64 b2, .int .i64 b2, .int .i64 0]), (103, .box [.int .i64 u3.bits, .int .i64 u3.period, .int .i64 u3.jitter, .int .i64 0, .int .i64 b3, .int .i64 b3, .int .i64 0]), (104, .box [.int .i64 u4.bits, .int .i64 u4.period, .int .i64 u4.jitter, .int .i64 0, .int .i64 b4, .int .i64 b4, .int .i64 0]), (150, .row 1 [[.ptr 100 0], [.ptr 101 0], [.ptr 102 0], [.ptr 103 0], [.ptr 104 0]])], nx := 200, n := 92 }
theorem play5_ok (u0 u1 u2 u3 u4 : Stream) (b0 b1 b2 b3 b4 until_ : Int) (hr : rightS [u0, u1, u2, u3, u4] = true) (hu0 : 0 ≤ until_) (hu1 : until_ ≤ 1000000) :
    FnS Try.prog 18 [.sl false 3 ([u0, u1, u2, u3, u4].map encStream), .sl false 1 ([b0, b1, b2, b3, b4].map encI), .int .i64 until_] [] (.sl false 1 ((playZ [u0, u1, u2, u3, u4] [b0, b1, b2, b3, b4] until_).map encI)) [] := by
  obtain ⟨hs, hl1, hl16⟩ := right_ok_s hr
  refine fn_raw tabOk Try.func18 rfl (by decide +kernel) Try.ntmps18 Try.results18 (by simp) fun B hB hds => ?_
  refine raw_seq (N' := fun s1 => s1.le B { sl := [(0, .sl false 3 ([u0, u1, u2, u3, u4].map encStream)), (1, .sl false 1 ([b0, b1, b2, b3, b4].map encI)), (2, .int .i64 until_)], st := [], nx := 0, n := 92 }) ?_ (fun s1 hle a w hs1 => ?_)
  · try refine hK _ ?_
    repeat (first | refine awp_seq ?_ | refine awp_block ?_ | refine awp_skip ?_ | refine awp_scope ?_ | refine awp_label ?_)
    refine awp_region tabOk fun K hK => ?_
    simp -dsimp -implicitDefEqProofs only [push_cast, ↓trAdd_f, ↓stOf_f, seval]
    refine hK _ ?_
    refine le_intro hB [] (by simp) (fun b _ => rfl) rfl ?_ ?_ rfl <;> simp -dsimp -implicitDefEqProofs only [push_cast, ↓trAdd_f, ↓stOf_f, seval]
  refine raw_seq (s := { sl := [(0, .sl false 3 ([u0, u1, u2, u3, u4].map encStream)), (1, .sl false 1 ([b0, b1, b2, b3, b4].map encI)), (2, .int .i64 until_)], st := [], nx := 0, n := 92 }) (N' := fun s1 => s1.le B { sl := [(0, .sl false 3 ([u0, u1, u2, u3, u4].map encStream)), (1, .sl false 1 ([b0, b1, b2, b3, b4].map encI)), (2, .int .i64 until_)], st := [], nx := 0, n := 92 }) ?_ (fun s1 hle a w hs1 => ?_) a w (hle a w hs1)
  · have hu0' : decide (0 ≤ until_) = true := by simpa using hu0
    have hu1' : decide (until_ ≤ 1000000) = true := by simpa using hu1
    try refine hK _ ?_
    repeat (first | refine awp_seq ?_ | refine awp_block ?_ | refine awp_skip ?_ | refine awp_scope ?_ | refine awp_label ?_)
    refine awp_region tabOk fun K hK => ?_
    simp -dsimp -implicitDefEqProofs only [push_cast, ↓trAdd_f, ↓stOf_f, seval]
    refine callK_simple (rRight_ok false [u0, u1, u2, u3, u4] (by simp)) ?_ rfl fun _ => ?_
    · simp -dsimp -implicitDefEqProofs only [push_cast, List.mem_append, List.mem_cons, List.mem_singleton, forall_eq_or_imp, forall_eq, ↓trAdd_f, ↓stOf_f, seval]
    rw [hr]
    simp -dsimp -implicitDefEqProofs only [push_cast, ↓trAdd_f, ↓stOf_f, seval]
    refine callK_simple (within_ok until_ 0 1000000) ?_ rfl fun _ => ?_
    · simp -dsimp -implicitDefEqProofs only [push_cast, List.mem_append, List.mem_cons, List.mem_singleton, forall_eq_or_imp, forall_eq, ↓trAdd_f, ↓stOf_f, seval]
    simp -dsimp -implicitDefEqProofs only [hu0', hu1', push_cast, ↓trAdd_f, ↓stOf_f, seval]
    try refine hK _ ?_
    repeat (first | refine awp_seq ?_ | refine awp_block ?_ | refine awp_skip ?_ | refine awp_scope ?_ | refine awp_label ?_)
    refine awp_cond (b := false) (by simp -dsimp -implicitDefEqProofs only [push_cast, ↓trAdd_f, ↓stOf_f, seval]) (fun h => ?_) (fun h => ?_)
    · simp at h
    refine awp_skip ?_
    refine le_intro hB [] (by simp) (fun b _ => rfl) rfl ?_ ?_ rfl <;> simp -dsimp -implicitDefEqProofs only [push_cast, ↓trAdd_f, ↓stOf_f, seval]
  refine raw_seq (s := { sl := [(0, .sl false 3 ([u0, u1, u2, u3, u4].map encStream)), (1, .sl false 1 ([b0, b1, b2, b3, b4].map encI)), (2, .int .i64 until_)], st := [], nx := 0, n := 92 }) (N' := fun s1 => s1.le B { sl := [(0, .sl false 3 ([u0, u1, u2, u3, u4].map encStream)), (1, .sl false 1 ([b0, b1, b2, b3, b4].map encI)), (2, .int .i64 until_), (7, .sl true 1 [])], st := [], nx := 0, n := 92 }) ?_ (fun s1 hle a w hs1 => ?_) a w (hle a w hs1)
  · try refine hK _ ?_
    repeat (first | refine awp_seq ?_ | refine awp_block ?_ | refine awp_skip ?_ | refine awp_scope ?_ | refine awp_label ?_)
    refine awp_region tabOk fun K hK => ?_
    simp -dsimp -implicitDefEqProofs only [push_cast, ↓trAdd_f, ↓stOf_f, seval]
    refine hK _ ?_
    refine le_intro hB [] (by simp) (fun b _ => rfl) rfl ?_ ?_ rfl <;> simp -dsimp -implicitDefEqProofs only [push_cast, ↓trAdd_f, ↓stOf_f, seval]
  refine raw_seq (s := { sl := [(0, .sl false 3 ([u0, u1, u2, u3, u4].map encStream)), (1, .sl false 1 ([b0, b1, b2, b3, b4].map encI)), (2, .int .i64 until_), (7, .sl true 1 [])], st := [], nx := 0, n := 92 }) (N' := fun s1 => (∀ b ∈ ([b0, b1, b2, b3, b4] : List Int), 0 ≤ b ∧ b ≤ 1000000) ∧ s1.le B { sl := [(0, .sl false 3 ([u0, u1, u2, u3, u4].map encStream)), (1, .sl false 1 ([b0, b1, b2, b3, b4].map encI)), (2, .int .i64 until_), (7, .own 150 1 0 5)], st := [(100, .box [.int .i64 u0.bits, .int .i64 u0.period, .int .i64 u0.jitter, .int .i64 0, .int .i64 b0, .int .i64 b0, .int .i64 0]), (101, .box [.int .i64 u1.bits, .int .i64 u1.period, .int .i64 u1.jitter, .int .i64 0, .int .i64 b1, .int .i64 b1, .int .i64 0]), (102, .box [.int .i64 u2.bits, .int .i64 u2.period, .int .i64 u2.jitter, .int .i64 0, .int .i64 b2, .int .i64 b2, .int .i64 0]), (103, .box [.int .i64 u3.bits, .int .i64 u3.period, .int .i64 u3.jitter, .int .i64 0, .int .i64 b3, .int .i64 b3, .int .i64 0]), (104, .box [.int .i64 u4.bits, .int .i64 u4.period, .int .i64 u4.jitter, .int .i64 0, .int .i64 b4, .int .i64 b4, .int .i64 0]), (150, .row 1 [[.ptr 100 0], [.ptr 101 0], [.ptr 102 0], [.ptr 103 0], [.ptr 104 0]])], nx := 200, n := 92 }) ?_ (fun s1 hle a w hs1 => ?_) a w (hle a w hs1)
  · try refine hK _ ?_
    repeat (first | refine awp_seq ?_ | refine awp_block ?_ | refine awp_skip ?_ | refine awp_scope ?_ | refine awp_label ?_)
    refine awp_region tabOk fun K hK => ?_
    simp -dsimp -implicitDefEqProofs only [push_cast, ↓trAdd_f, ↓stOf_f, seval]
    refine hK _ (awp_block ?_)
    refine awp_for (fun k : Nat => pl5S u0 u1 u2 u3 u4 b0 b1 b2 b3 b4 until_ k) (fun k => k ≤ 5 ∧ ∀ b ∈ ([b0, b1, b2, b3, b4] : List Int).take k, 0 ≤ b ∧ b ≤ 1000000) (fun k => 5 - k) 0 ⟨Nat.zero_le _, by simp⟩ ?_ fun k hk => ?_
    · simp only [pl5S]
      refine le_intro hB [] (by simp) (fun b _ => rfl) rfl ?_ ?_ rfl <;> simp -dsimp -implicitDefEqProofs only [push_cast, ↓trAdd_f, ↓stOf_f, seval]
    obtain ⟨hk, hbs⟩ := hk
    have : k = 0 ∨ k = 1 ∨ k = 2 ∨ k = 3 ∨ k = 4 ∨ k = 5 := by omega
    rcases this with rfl | rfl | rfl | rfl | rfl | rfl
    · simp only [pl5S]
      try refine hK _ ?_
      repeat (first | refine awp_seq ?_ | refine awp_block ?_ | refine awp_skip ?_ | refine awp_scope ?_ | refine awp_label ?_)
      refine awp_region tabOk fun K hK => ?_
      simp -dsimp -implicitDefEqProofs only [push_cast, ↓trAdd_f, ↓stOf_f, seval]
      try refine hK _ ?_
      repeat (first | refine awp_seq ?_ | refine awp_block ?_ | refine awp_skip ?_ | refine awp_scope ?_ | refine awp_label ?_)
      refine awp_cond (b := true) (by simp -dsimp -implicitDefEqProofs only [push_cast, ↓trAdd_f, ↓stOf_f, seval]) (fun h => ?_) (fun h => ?_)
      · try refine hK _ ?_
        repeat (first | refine awp_seq ?_ | refine awp_block ?_ | refine awp_skip ?_ | refine awp_scope ?_ | refine awp_label ?_)
        refine awp_region tabOk fun K hK => ?_
        simp -dsimp -implicitDefEqProofs only [tn1, tn2, tn3, tn4, encStream, push_cast, ↓trAdd_f, ↓stOf_f, seval]
        cases hb : decide (0 ≤ b0) && decide (b0 ≤ 1000000) with
        | false =>
          have e : playZ [u0, u1, u2, u3, u4] [b0, b1, b2, b3, b4] until_ = [] := by
            unfold playZ
            rw [if_neg]
            rintro ⟨_, _, _, _, h5⟩
            have := h5 b0 (by simp)
            simp at hb; omega
          try refine hK _ ?_
          repeat (first | refine awp_seq ?_ | refine awp_block ?_ | refine awp_skip ?_ | refine awp_scope ?_ | refine awp_label ?_)
          refine awp_region tabOk fun K hK => ?_
          simp -dsimp -implicitDefEqProofs only [tn1, tn2, tn3, tn4, encI, push_cast, ↓trAdd_f, ↓stOf_f, seval]
          refine callK_simple (within_ok b0 0 1000000) ?_ rfl fun _ => ?_
          · simp -dsimp -implicitDefEqProofs only [push_cast, List.mem_append, List.mem_cons, List.mem_singleton, forall_eq_or_imp, forall_eq, ↓trAdd_f, ↓stOf_f, seval]
          rw [hb]
          simp -dsimp -implicitDefEqProofs only [push_cast, ↓trAdd_f, ↓stOf_f, seval]
          try refine hK _ ?_
          repeat (first | refine awp_seq ?_ | refine awp_block ?_ | refine awp_skip ?_ | refine awp_scope ?_ | refine awp_label ?_)
          refine awp_cond (b := true) (by simp -dsimp -implicitDefEqProofs only [push_cast, ↓trAdd_f, ↓stOf_f, seval]) (fun h => ?_) (fun h => ?_)
          · try refine hK _ ?_
            repeat (first | refine awp_seq ?_ | refine awp_block ?_ | refine awp_skip ?_ | refine awp_scope ?_ | refine awp_label ?_)
            refine awp_region tabOk fun K hK => ?_
            simp -dsimp -implicitDefEqProofs only [push_cast, ↓trAdd_f, ↓stOf_f, seval]
            refine hK _ (awp_ret ?_)
            rw [e]
            simp -dsimp -implicitDefEqProofs only [push_cast, List.mem_append, List.mem_cons, List.mem_singleton, forall_eq_or_imp, forall_eq, ↓trAdd_f, ↓stOf_f, seval]
          · simp at h
        | true =>
          have hbk : 0 ≤ b0 ∧ b0 ≤ 1000000 := by simpa using hb
          try refine hK _ ?_
          repeat (first | refine awp_seq ?_ | refine awp_block ?_ | refine awp_skip ?_ | refine awp_scope ?_ | refine awp_label ?_)
          refine awp_region tabOk fun K hK => ?_
          simp -dsimp -implicitDefEqProofs only [tn1, tn2, tn3, tn4, encI, push_cast, ↓trAdd_f, ↓stOf_f, seval]
          refine callK_simple (within_ok b0 0 1000000) ?_ rfl fun _ => ?_
          · simp -dsimp -implicitDefEqProofs only [push_cast, List.mem_append, List.mem_cons, List.mem_singleton, forall_eq_or_imp, forall_eq, ↓trAdd_f, ↓stOf_f, seval]
          rw [hb]
          simp -dsimp -implicitDefEqProofs only [push_cast, ↓trAdd_f, ↓stOf_f, seval]
          try refine hK _ ?_
          repeat (first | refine awp_seq ?_ | refine awp_block ?_ | refine awp_skip ?_ | refine awp_scope ?_ | refine awp_label ?_)
          refine awp_cond (b := false) (by simp -dsimp -implicitDefEqProofs only [push_cast, ↓trAdd_f, ↓stOf_f, seval]) (fun h => ?_) (fun h => ?_)
          · simp at h
          clear h
          refine awp_skip ?_
          try refine hK _ ?_
          repeat (first | refine awp_seq ?_ | refine awp_block ?_ | refine awp_skip ?_ | refine awp_scope ?_ | refine awp_label ?_)
          refine awp_draw tabOk (by kernel_rfl) (by kernel_rfl) fun K hK C hC => ?_
          simp -dsimp -implicitDefEqProofs only [tn1, tn2, tn3, tn4, encI, encStream, push_cast, ↓trAdd_f, ↓stOf_f, seval]
          refine ⟨hC _ (by kernel_rfl), ?_⟩
          clear hC C
          try refine hK _ ?_
          repeat (first | refine awp_seq ?_ | refine awp_block ?_ | refine awp_skip ?_ | refine awp_scope ?_ | refine awp_label ?_)
          refine awp_region tabOk fun K hK => ?_
          simp -dsimp -implicitDefEqProofs only [push_cast, ↓trAdd_f, ↓stOf_f, seval]
          try simp (disch := omega) only [wrap_i64, wrap_u8, wrap_u16, wrap_u32]
          refine hK _ ⟨1, ⟨by decide, ?_⟩, by decide, ?_⟩
          · intro b hb
            rcases List.mem_append.1 (show b ∈ ([b0, b1, b2, b3, b4] : List Int).take 0 ++ [b0] from hb) with hb | hb
            · exact hbs b hb
            · simp at hb; subst hb; exact hbk
          simp only [pl5S]
          refine le_intro hB [(100, 392), (150, 408)] (by simp) (fun b hb => absurd hb (Nat.not_lt_zero b)) rfl ?_ ?_ rfl <;> simp -dsimp -implicitDefEqProofs only [encStream, encI, push_cast, ↓trAdd_f, ↓stOf_f, seval]
      · simp at h
    · simp only [pl5S]
      try refine hK _ ?_
      repeat (first | refine awp_seq ?_ | refine awp_block ?_ | refine awp_skip ?_ | refine awp_scope ?_ | refine awp_label ?_)
      refine awp_region tabOk fun K hK => ?_
      simp -dsimp -implicitDefEqProofs only [push_cast, ↓trAdd_f, ↓stOf_f, seval]
      try refine hK _ ?_
      repeat (first | refine awp_seq ?_ | refine awp_block ?_ | refine awp_skip ?_ | refine awp_scope ?_ | refine awp_label ?_)
      refine awp_cond (b := true) (by simp -dsimp -implicitDefEqProofs only [push_cast, ↓trAdd_f, ↓stOf_f, seval]) (fun h => ?_) (fun h => ?_)
      · try refine hK _ ?_
        repeat (first | refine awp_seq ?_ | refine awp_block ?_ | refine awp_skip ?_ | refine awp_scope ?_ | refine awp_label ?_)
        refine awp_region tabOk fun K hK => ?_
        simp -dsimp -implicitDefEqProofs only [tn1, tn2, tn3, tn4, encStream, push_cast, ↓trAdd_f, ↓stOf_f, seval]
        cases hb : decide (0 ≤ b1) && decide (b1 ≤ 1000000) with
        | false =>
          have e : playZ [u0, u1, u2, u3, u4] [b0, b1, b2, b3, b4] until_ = [] := by
            unfold playZ
            rw [if_neg]
            rintro ⟨_, _, _, _, h5⟩
            have := h5 b1 (by simp)
            simp at hb; omega
          try refine hK _ ?_
          repeat (first | refine awp_seq ?_ | refine awp_block ?_ | refine awp_skip ?_ | refine awp_scope ?_ | refine awp_label ?_)
          refine awp_region tabOk fun K hK => ?_
          simp -dsimp -implicitDefEqProofs only [tn1, tn2, tn3, tn4, encI, push_cast, ↓trAdd_f, ↓stOf_f, seval]
          refine callK_simple (within_ok b1 0 1000000) ?_ rfl fun _ => ?_
          · simp -dsimp -implicitDefEqProofs only [push_cast, List.mem_append, List.mem_cons, List.mem_singleton, forall_eq_or_imp, forall_eq, ↓trAdd_f, ↓stOf_f, seval]
          rw [hb]
          simp -dsimp -implicitDefEqProofs only [push_cast, ↓trAdd_f, ↓stOf_f, seval]
          try refine hK _ ?_
          repeat (first | refine awp_seq ?_ | refine awp_block ?_ | refine awp_skip ?_ | refine awp_scope ?_ | refine awp_label ?_)
          refine awp_cond (b := true) (by simp -dsimp -implicitDefEqProofs only [push_cast, ↓trAdd_f, ↓stOf_f, seval]) (fun h => ?_) (fun h => ?_)
          · try refine hK _ ?_
            repeat (first | refine awp_seq ?_ | refine awp_block ?_ | refine awp_skip ?_ | refine awp_scope ?_ | refine awp_label ?_)
            refine awp_region tabOk fun K hK => ?_
            simp -dsimp -implicitDefEqProofs only [push_cast, ↓trAdd_f, ↓stOf_f, seval]
            refine hK _ (awp_ret ?_)
            rw [e]
            simp -dsimp -implicitDefEqProofs only [push_cast, List.mem_append, List.mem_cons, List.mem_singleton, forall_eq_or_imp, forall_eq, ↓trAdd_f, ↓stOf_f, seval]
          · simp at h
        | true =>
          have hbk : 0 ≤ b1 ∧ b1 ≤ 1000000 := by simpa using hb
          try refine hK _ ?_
          repeat (first | refine awp_seq ?_ | refine awp_block ?_ | refine awp_skip ?_ | refine awp_scope ?_ | refine awp_label ?_)
          refine awp_region tabOk fun K hK => ?_
          simp -dsimp -implicitDefEqProofs only [tn1, tn2, tn3, tn4, encI, push_cast, ↓trAdd_f, ↓stOf_f, seval]
          refine callK_simple (within_ok b1 0 1000000) ?_ rfl fun _ => ?_
          · simp -dsimp -implicitDefEqProofs only [push_cast, List.mem_append, List.mem_cons, List.mem_singleton, forall_eq_or_imp, forall_eq, ↓trAdd_f, ↓stOf_f, seval]
          rw [hb]
          simp -dsimp -implicitDefEqProofs only [push_cast, ↓trAdd_f, ↓stOf_f, seval]
          try refine hK _ ?_
          repeat (first | refine awp_seq ?_ | refine awp_block ?_ | refine awp_skip ?_ | refine awp_scope ?_ | refine awp_label ?_)
          refine awp_cond (b := false) (by simp -dsimp -implicitDefEqProofs only [push_cast, ↓trAdd_f, ↓stOf_f, seval]) (fun h => ?_) (fun h => ?_)
          · simp at h
          clear h
          refine awp_skip ?_
          try refine hK _ ?_
          repeat (first | refine awp_seq ?_ | refine awp_block ?_ | refine awp_skip ?_ | refine awp_scope ?_ | refine awp_label ?_)
          refine awp_draw tabOk (by kernel_rfl) (by kernel_rfl) fun K hK C hC => ?_
          simp -dsimp -implicitDefEqProofs only [tn1, tn2, tn3, tn4, encI, encStream, push_cast, ↓trAdd_f, ↓stOf_f, seval]
          refine ⟨hC _ (by kernel_rfl), ?_⟩
          clear hC C
          try refine hK _ ?_
          repeat (first | refine awp_seq ?_ | refine awp_block ?_ | refine awp_skip ?_ | refine awp_scope ?_ | refine awp_label ?_)
          refine awp_region tabOk fun K hK => ?_
          simp -dsimp -implicitDefEqProofs only [push_cast, ↓trAdd_f, ↓stOf_f, seval]
          try simp (disch := omega) only [wrap_i64, wrap_u8, wrap_u16, wrap_u32]
          refine hK _ ⟨2, ⟨by decide, ?_⟩, by decide, ?_⟩
          · intro b hb
            rcases List.mem_append.1 (show b ∈ ([b0, b1, b2, b3, b4] : List Int).take 1 ++ [b1] from hb) with hb | hb
            · exact hbs b hb
            · simp at hb; subst hb; exact hbk
          simp only [pl5S]
          refine le_intro hB [(101, 392), (150, 408)] (by simp) (fun b hb => absurd hb (Nat.not_lt_zero b)) rfl ?_ ?_ rfl <;> simp -dsimp -implicitDefEqProofs only [encStream, encI, push_cast, ↓trAdd_f, ↓stOf_f, seval]
      · simp at h
    · simp only [pl5S]
      try refine hK _ ?_
      repeat (first | refine awp_seq ?_ | refine awp_block ?_ | refine awp_skip ?_ | refine awp_scope ?_ | refine awp_label ?_)
      refine awp_region tabOk fun K hK => ?_
      simp -dsimp -implicitDefEqProofs only [push_cast, ↓trAdd_f, ↓stOf_f, seval]
      try refine hK _ ?_
      repeat (first | refine awp_seq ?_ | refine awp_block ?_ | refine awp_skip ?_ | refine awp_scope ?_ | refine awp_label ?_)
      refine awp_cond (b := true) (by simp -dsimp -implicitDefEqProofs only [push_cast, ↓trAdd_f, ↓stOf_f, seval]) (fun h => ?_) (fun h => ?_)
      · try refine hK _ ?_
        repeat (first | refine awp_seq ?_ | refine awp_block ?_ | refine awp_skip ?_ | refine awp_scope ?_ | refine awp_label ?_)
        refine awp_region tabOk fun K hK => ?_
        simp -dsimp -implicitDefEqProofs only [tn1, tn2, tn3, tn4, encStream, push_cast, ↓trAdd_f, ↓stOf_f, seval]
        cases hb : decide (0 ≤ b2) && decide (b2 ≤ 1000000) with
        | false =>
          have e : playZ [u0, u1, u2, u3, u4] [b0, b1, b2, b3, b4] until_ = [] := by
            unfold playZ
            rw [if_neg]
            rintro ⟨_, _, _, _, h5⟩
            have := h5 b2 (by simp)
            simp at hb; omega
          try refine hK _ ?_
          repeat (first | refine awp_seq ?_ | refine awp_block ?_ | refine awp_skip ?_ | refine awp_scope ?_ | refine awp_label ?_)
          refine awp_region tabOk fun K hK => ?_
          simp -dsimp -implicitDefEqProofs only [tn1, tn2, tn3, tn4, encI, push_cast, ↓trAdd_f, ↓stOf_f, seval]
          refine callK_simple (within_ok b2 0 1000000) ?_ rfl fun _ => ?_
          · simp -dsimp -implicitDefEqProofs only [push_cast, List.mem_append, List.mem_cons, List.mem_singleton, forall_eq_or_imp, forall_eq, ↓trAdd_f, ↓stOf_f, seval]
          rw [hb]
          simp -dsimp -implicitDefEqProofs only [push_cast, ↓trAdd_f, ↓stOf_f, seval]
          try refine hK _ ?_
          repeat (first | refine awp_seq ?_ | refine awp_block ?_ | refine awp_skip ?_ | refine awp_scope ?_ | refine awp_label ?_)
          refine awp_cond (b := true) (by simp -dsimp -implicitDefEqProofs only [push_cast, ↓trAdd_f, ↓stOf_f, seval]) (fun h => ?_) (fun h => ?_)
          · try refine hK _ ?_
            repeat (first | refine awp_seq ?_ | refine awp_block ?_ | refine awp_skip ?_ | refine awp_scope ?_ | refine awp_label ?_)
            refine awp_region tabOk fun K hK => ?_
            simp -dsimp -implicitDefEqProofs only [push_cast, ↓trAdd_f, ↓stOf_f, seval]
            refine hK _ (awp_ret ?_)
            rw [e]
            simp -dsimp -implicitDefEqProofs only [push_cast, List.mem_append, List.mem_cons, List.mem_singleton, forall_eq_or_imp, forall_eq, ↓trAdd_f, ↓stOf_f, seval]
          · simp at h
        | true =>
          have hbk : 0 ≤ b2 ∧ b2 ≤ 1000000 := by simpa using hb
          try refine hK _ ?_
          repeat (first | refine awp_seq ?_ | refine awp_block ?_ | refine awp_skip ?_ | refine awp_scope ?_ | refine awp_label ?_)
          refine awp_region tabOk fun K hK => ?_
          simp -dsimp -implicitDefEqProofs only [tn1, tn2, tn3, tn4, encI, push_cast, ↓trAdd_f, ↓stOf_f, seval]
          refine callK_simple (within_ok b2 0 1000000) ?_ rfl fun _ => ?_
          · simp -dsimp -implicitDefEqProofs only [push_cast, List.mem_append, List.mem_cons, List.mem_singleton, forall_eq_or_imp, forall_eq, ↓trAdd_f, ↓stOf_f, seval]
          rw [hb]
          simp -dsimp -implicitDefEqProofs only [push_cast, ↓trAdd_f, ↓stOf_f, seval]
          try refine hK _ ?_
          repeat (first | refine awp_seq ?_ | refine awp_block ?_ | refine awp_skip ?_ | refine awp_scope ?_ | refine awp_label ?_)
          refine awp_cond (b := false) (by simp -dsimp -implicitDefEqProofs only [push_cast, ↓trAdd_f, ↓stOf_f, seval]) (fun h => ?_) (fun h => ?_)
          · simp at h
          clear h
          refine awp_skip ?_
          try refine hK _ ?_
          repeat (first | refine awp_seq ?_ | refine awp_block ?_ | refine awp_skip ?_ | refine awp_scope ?_ | refine awp_label ?_)
          refine awp_draw tabOk (by kernel_rfl) (by kernel_rfl) fun K hK C hC => ?_
          simp -dsimp -implicitDefEqProofs only [tn1, tn2, tn3, tn4, encI, encStream, push_cast, ↓trAdd_f, ↓stOf_f, seval]
          refine ⟨hC _ (by kernel_rfl), ?_⟩
          clear hC C
          try refine hK _ ?_
          repeat (first | refine awp_seq ?_ | refine awp_block ?_ | refine awp_skip ?_ | refine awp_scope ?_ | refine awp_label ?_)
          refine awp_region tabOk fun K hK => ?_
          simp -dsimp -implicitDefEqProofs only [push_cast, ↓trAdd_f, ↓stOf_f, seval]
          try simp (disch := omega) only [wrap_i64, wrap_u8, wrap_u16, wrap_u32]
          refine hK _ ⟨3, ⟨by decide, ?_⟩, by decide, ?_⟩
          · intro b hb
            rcases List.mem_append.1 (show b ∈ ([b0, b1, b2, b3, b4] : List Int).take 2 ++ [b2] from hb) with hb | hb
            · exact hbs b hb
            · simp at hb; subst hb; exact hbk
          simp only [pl5S]
          refine le_intro hB [(102, 392), (150, 408)] (by simp) (fun b hb => absurd hb (Nat.not_lt_zero b)) rfl ?_ ?_ rfl <;> simp -dsimp -implicitDefEqProofs only [encStream, encI, push_cast, ↓trAdd_f, ↓stOf_f, seval]
      · simp at h
    · simp only [pl5S]
      try refine hK _ ?_
      repeat (first | refine awp_seq ?_ | refine awp_block ?_ | refine awp_skip ?_ | refine awp_scope ?_ | refine awp_label ?_)
      refine awp_region tabOk fun K hK => ?_
      simp -dsimp -implicitDefEqProofs only [push_cast, ↓trAdd_f, ↓stOf_f, seval]
      try refine hK _ ?_
      repeat (first | refine awp_seq ?_ | refine awp_block ?_ | refine awp_skip ?_ | refine awp_scope ?_ | refine awp_label ?_)
      refine awp_cond (b := true) (by simp -dsimp -implicitDefEqProofs only [push_cast, ↓trAdd_f, ↓stOf_f, seval]) (fun h => ?_) (fun h => ?_)
      · try refine hK _ ?_
        repeat (first | refine awp_seq ?_ | refine awp_block ?_ | refine awp_skip ?_ | refine awp_scope ?_ | refine awp_label ?_)
        refine awp_region tabOk fun K hK => ?_
        simp -dsimp -implicitDefEqProofs only [tn1, tn2, tn3, tn4, encStream, push_cast, ↓trAdd_f, ↓stOf_f, seval]
        cases hb : decide (0 ≤ b3) && decide (b3 ≤ 1000000) with
        | false =>
          have e : playZ [u0, u1, u2, u3, u4] [b0, b1, b2, b3, b4] until_ = [] := by
            unfold playZ
            rw [if_neg]
            rintro ⟨_, _, _, _, h5⟩
            have := h5 b3 (by simp)
            simp at hb; omega
          try refine hK _ ?_
          repeat (first | refine awp_seq ?_ | refine awp_block ?_ | refine awp_skip ?_ | refine awp_scope ?_ | refine awp_label ?_)
          refine awp_region tabOk fun K hK => ?_
          simp -dsimp -implicitDefEqProofs only [tn1, tn2, tn3, tn4, encI, push_cast, ↓trAdd_f, ↓stOf_f, seval]
          refine callK_simple (within_ok b3 0 1000000) ?_ rfl fun _ => ?_
          · simp -dsimp -implicitDefEqProofs only [push_cast, List.mem_append, List.mem_cons, List.mem_singleton, forall_eq_or_imp, forall_eq, ↓trAdd_f, ↓stOf_f, seval]
          rw [hb]
          simp -dsimp -implicitDefEqProofs only [push_cast, ↓trAdd_f, ↓stOf_f, seval]
          try refine hK _ ?_
          repeat (first | refine awp_seq ?_ | refine awp_block ?_ | refine awp_skip ?_ | refine awp_scope ?_ | refine awp_label ?_)
          refine awp_cond (b := true) (by simp -dsimp -implicitDefEqProofs only [push_cast, ↓trAdd_f, ↓stOf_f, seval]) (fun h => ?_) (fun h => ?_)
          · try refine hK _ ?_
            repeat (first | refine awp_seq ?_ | refine awp_block ?_ | refine awp_skip ?_ | refine awp_scope ?_ | refine awp_label ?_)
            refine awp_region tabOk fun K hK => ?_
            simp -dsimp -implicitDefEqProofs only [push_cast, ↓trAdd_f, ↓stOf_f, seval]
            refine hK _ (awp_ret ?_)
            rw [e]
            simp -dsimp -implicitDefEqProofs only [push_cast, List.mem_append, List.mem_cons, List.mem_singleton, forall_eq_or_imp, forall_eq, ↓trAdd_f, ↓stOf_f, seval]
          · simp at h
        | true =>
          have hbk : 0 ≤ b3 ∧ b3 ≤ 1000000 := by simpa using hb
          try refine hK _ ?_
          repeat (first | refine awp_seq ?_ | refine awp_block ?_ | refine awp_skip ?_ | refine awp_scope ?_ | refine awp_label ?_)
          refine awp_region tabOk fun K hK => ?_
          simp -dsimp -implicitDefEqProofs only [tn1, tn2, tn3, tn4, encI, push_cast, ↓trAdd_f, ↓stOf_f, seval]
          refine callK_simple (within_ok b3 0 1000000) ?_ rfl fun _ => ?_
          · simp -dsimp -implicitDefEqProofs only [push_cast, List.mem_append, List.mem_cons, List.mem_singleton, forall_eq_or_imp, forall_eq, ↓trAdd_f, ↓stOf_f, seval]
          rw [hb]
          simp -dsimp -implicitDefEqProofs only [push_cast, ↓trAdd_f, ↓stOf_f, seval]
          try refine hK _ ?_
          repeat (first | refine awp_seq ?_ | refine awp_block ?_ | refine awp_skip ?_ | refine awp_scope ?_ | refine awp_label ?_)
          refine awp_cond (b := false) (by simp -dsimp -implicitDefEqProofs only [push_cast, ↓trAdd_f, ↓stOf_f, seval]) (fun h => ?_) (fun h => ?_)
          · simp at h
          clear h
          refine awp_skip ?_
          try refine hK _ ?_
          repeat (first | refine awp_seq ?_ | refine awp_block ?_ | refine awp_skip ?_ | refine awp_scope ?_ | refine awp_label ?_)
          refine awp_draw tabOk (by kernel_rfl) (by kernel_rfl) fun K hK C hC => ?_
          simp -dsimp -implicitDefEqProofs only [tn1, tn2, tn3, tn4, encI, encStream, push_cast, ↓trAdd_f, ↓stOf_f, seval]
          refine ⟨hC _ (by kernel_rfl), ?_⟩
          clear hC C
          try refine hK _ ?_
          repeat (first | refine awp_seq ?_ | refine awp_block ?_ | refine awp_skip ?_ | refine awp_scope ?_ | refine awp_label ?_)
          refine awp_region tabOk fun K hK => ?_
          simp -dsimp -implicitDefEqProofs only [push_cast, ↓trAdd_f, ↓stOf_f, seval]
          try simp (disch := omega) only [wrap_i64, wrap_u8, wrap_u16, wrap_u32]
          refine hK _ ⟨4, ⟨by decide, ?_⟩, by decide, ?_⟩
          · intro b hb
            rcases List.mem_append.1 (show b ∈ ([b0, b1, b2, b3, b4] : List Int).take 3 ++ [b3] from hb) with hb | hb
            · exact hbs b hb
            · simp at hb; subst hb; exact hbk
          simp only [pl5S]
          refine le_intro hB [(103, 392), (150, 408)] (by simp) (fun b hb => absurd hb (Nat.not_lt_zero b)) rfl ?_ ?_ rfl <;> simp -dsimp -implicitDefEqProofs only [encStream, encI, push_cast, ↓trAdd_f, ↓stOf_f, seval]
      · simp at h
    · simp only [pl5S]
      try refine hK _ ?_
      repeat (first | refine awp_seq ?_ | refine awp_block ?_ | refine awp_skip ?_ | refine awp_scope ?_ | refine awp_label ?_)
      refine awp_region tabOk fun K hK => ?_
      simp -dsimp -implicitDefEqProofs only [push_cast, ↓trAdd_f, ↓stOf_f, seval]
      try refine hK _ ?_
      repeat (first | refine awp_seq ?_ | refine awp_block ?_ | refine awp_skip ?_ | refine awp_scope ?_ | refine awp_label ?_)
      refine awp_cond (b := true) (by simp -dsimp -implicitDefEqProofs only [push_cast, ↓trAdd_f, ↓stOf_f, seval]) (fun h => ?_) (fun h => ?_)
      · try refine hK _ ?_
        repeat (first | refine awp_seq ?_ | refine awp_block ?_ | refine awp_skip ?_ | refine awp_scope ?_ | refine awp_label ?_)
        refine awp_region tabOk fun K hK => ?_
        simp -dsimp -implicitDefEqProofs only [tn1, tn2, tn3, tn4, encStream, push_cast, ↓trAdd_f, ↓stOf_f, seval]
        cases hb : decide (0 ≤ b4) && decide (b4 ≤ 1000000) with
        | false =>
          have e : playZ [u0, u1, u2, u3, u4] [b0, b1, b2, b3, b4] until_ = [] := by
            unfold playZ
            rw [if_neg]
            rintro ⟨_, _, _, _, h5⟩
            have := h5 b4 (by simp)
            simp at hb; omega
          try refine hK _ ?_
          repeat (first | refine awp_seq ?_ | refine awp_block ?_ | refine awp_skip ?_ | refine awp_scope ?_ | refine awp_label ?_)
          refine awp_region tabOk fun K hK => ?_
          simp -dsimp -implicitDefEqProofs only [tn1, tn2, tn3, tn4, encI, push_cast, ↓trAdd_f, ↓stOf_f, seval]
          refine callK_simple (within_ok b4 0 1000000) ?_ rfl fun _ => ?_
          · simp -dsimp -implicitDefEqProofs only [push_cast, List.mem_append, List.mem_cons, List.mem_singleton, forall_eq_or_imp, forall_eq, ↓trAdd_f, ↓stOf_f, seval]
          rw [hb]
          simp -dsimp -implicitDefEqProofs only [push_cast, ↓trAdd_f, ↓stOf_f, seval]
          try refine hK _ ?_
          repeat (first | refine awp_seq ?_ | refine awp_block ?_ | refine awp_skip ?_ | refine awp_scope ?_ | refine awp_label ?_)
          refine awp_cond (b := true) (by simp -dsimp -implicitDefEqProofs only [push_cast, ↓trAdd_f, ↓stOf_f, seval]) (fun h => ?_) (fun h => ?_)
          · try refine hK _ ?_
            repeat (first | refine awp_seq ?_ | refine awp_block ?_ | refine awp_skip ?_ | refine awp_scope ?_ | refine awp_label ?_)
            refine awp_region tabOk fun K hK => ?_
            simp -dsimp -implicitDefEqProofs only [push_cast, ↓trAdd_f, ↓stOf_f, seval]
            refine hK _ (awp_ret ?_)
            rw [e]
            simp -dsimp -implicitDefEqProofs only [push_cast, List.mem_append, List.mem_cons, List.mem_singleton, forall_eq_or_imp, forall_eq, ↓trAdd_f, ↓stOf_f, seval]
          · simp at h
        | true =>
          have hbk : 0 ≤ b4 ∧ b4 ≤ 1000000 := by simpa using hb
          try refine hK _ ?_
          repeat (first | refine awp_seq ?_ | refine awp_block ?_ | refine awp_skip ?_ | refine awp_scope ?_ | refine awp_label ?_)
          refine awp_region tabOk fun K hK => ?_
          simp -dsimp -implicitDefEqProofs only [tn1, tn2, tn3, tn4, encI, push_cast, ↓trAdd_f, ↓stOf_f, seval]
          refine callK_simple (within_ok b4 0 1000000) ?_ rfl fun _ => ?_
          · simp -dsimp -implicitDefEqProofs only [push_cast, List.mem_append, List.mem_cons, List.mem_singleton, forall_eq_or_imp, forall_eq, ↓trAdd_f, ↓stOf_f, seval]
          rw [hb]
          simp -dsimp -implicitDefEqProofs only [push_cast, ↓trAdd_f, ↓stOf_f, seval]
          try refine hK _ ?_
          repeat (first | refine awp_seq ?_ | refine awp_block ?_ | refine awp_skip ?_ | refine awp_scope ?_ | refine awp_label ?_)
          refine awp_cond (b := false) (by simp -dsimp -implicitDefEqProofs only [push_cast, ↓trAdd_f, ↓stOf_f, seval]) (fun h => ?_) (fun h => ?_)
          · simp at h
          clear h
          refine awp_skip ?_
          try refine hK _ ?_
          repeat (first | refine awp_seq ?_ | refine awp_block ?_ | refine awp_skip ?_ | refine awp_scope ?_ | refine awp_label ?_)
          refine awp_draw tabOk (by kernel_rfl) (by kernel_rfl) fun K hK C hC => ?_
          simp -dsimp -implicitDefEqProofs only [tn1, tn2, tn3, tn4, encI, encStream, push_cast, ↓trAdd_f, ↓stOf_f, seval]
          refine ⟨hC _ (by kernel_rfl), ?_⟩
          clear hC C
          try refine hK _ ?_
          repeat (first | refine awp_seq ?_ | refine awp_block ?_ | refine awp_skip ?_ | refine awp_scope ?_ | refine awp_label ?_)
          refine awp_region tabOk fun K hK => ?_
          simp -dsimp -implicitDefEqProofs only [push_cast, ↓trAdd_f, ↓stOf_f, seval]
          try simp (disch := omega) only [wrap_i64, wrap_u8, wrap_u16, wrap_u32]
          refine hK _ ⟨5, ⟨by decide, ?_⟩, by decide, ?_⟩
          · intro b hb
            rcases List.mem_append.1 (show b ∈ ([b0, b1, b2, b3, b4] : List Int).take 4 ++ [b4] from hb) with hb | hb
            · exact hbs b hb
            · simp at hb; subst hb; exact hbk
          simp only [pl5S]
          refine le_intro hB [(104, 392), (150, 408)] (by simp) (fun b hb => absurd hb (Nat.not_lt_zero b)) rfl ?_ ?_ rfl <;> simp -dsimp -implicitDefEqProofs only [encStream, encI, push_cast, ↓trAdd_f, ↓stOf_f, seval]
      · simp at h
    · simp only [pl5S]
      try refine hK _ ?_
      repeat (first | refine awp_seq ?_ | refine awp_block ?_ | refine awp_skip ?_ | refine awp_scope ?_ | refine awp_label ?_)
      refine awp_region tabOk fun K hK => ?_
      simp -dsimp -implicitDefEqProofs only [push_cast, ↓trAdd_f, ↓stOf_f, seval]
      try refine hK _ ?_
      repeat (first | refine awp_seq ?_ | refine awp_block ?_ | refine awp_skip ?_ | refine awp_scope ?_ | refine awp_label ?_)
      refine awp_cond (b := false) (by simp -dsimp -implicitDefEqProofs only [push_cast, ↓trAdd_f, ↓stOf_f, seval]) (fun h => ?_) (fun h => ?_)
      · simp at h
      refine awp_exit rfl ⟨hbs, ?_⟩
      refine le_intro hB [] (by simp) (fun b _ => rfl) rfl ?_ ?_ rfl <;> simp -dsimp -implicitDefEqProofs only [push_cast, ↓trAdd_f, ↓stOf_f, seval]
  obtain ⟨hball, hle⟩ := hle
  have p : PlayOk [u0, u1, u2, u3, u4] [b0, b1, b2, b3, b4] until_ := ⟨hs, hl16, hball, rfl, hu0, hu1⟩
  have hz : playZ [u0, u1, u2, u3, u4] [b0, b1, b2, b3, b4] until_ = (playN until_ fuel0 0 [{ s := u0, b := b0, q := 0, late := 0 }, { s := u1, b := b1, q := 0, late := 0 }, { s := u2, b := b2, q := 0, late := 0 }, { s := u3, b := b3, q := 0, late := 0 }, { s := u4, b := b4, q := 0, late := 0 }]).map (·.late) := playZ_ok hr p
  have hX : PInv [u0, u1, u2, u3, u4] [b0, b1, b2, b3, b4] until_ fuel0 0 [{ s := u0, b := b0, q := 0, late := 0 }, { s := u1, b := b1, q := 0, late := 0 }, { s := u2, b := b2, q := 0, late := 0 }, { s := u3, b := b3, q := 0, late := 0 }, { s := u4, b := b4, q := 0, late := 0 }] := pinv_first p
  have hsent := fun lp rec hY => sentf5_ok p rfl lp rec hY ({ s := u0, b := b0, q := 0, late := 0 }) ({ s := u1, b := b1, q := 0, late := 0 }) ({ s := u2, b := b2, q := 0, late := 0 }) ({ s := u3, b := b3, q := 0, late := 0 }) ({ s := u4, b := b4, q := 0, late := 0 }) hX
  have hYl : (playN until_ fuel0 0 [{ s := u0, b := b0, q := 0, late := 0 }, { s := u1, b := b1, q := 0, late := 0 }, { s := u2, b := b2, q := 0, late := 0 }, { s := u3, b := b3, q := 0, late := 0 }, { s := u4, b := b4, q := 0, late := 0 }]).length = 5 := by rw [playN_len]; rfl
  rw [hz]
  generalize playN until_ fuel0 0 [{ s := u0, b := b0, q := 0, late := 0 }, { s := u1, b := b1, q := 0, late := 0 }, { s := u2, b := b2, q := 0, late := 0 }, { s := u3, b := b3, q := 0, late := 0 }, { s := u4, b := b4, q := 0, late := 0 }] = Y at *
  obtain ⟨y0, y1, y2, y3, y4, rfl⟩ : ∃ y0 y1 y2 y3 y4, Y = [y0, y1, y2, y3, y4] := by
    match Y, hYl with
    | [y0, y1, y2, y3, y4], _ => exact ⟨y0, y1, y2, y3, y4, rfl⟩
  refine raw_seq2 (s := { sl := [(0, .sl false 3 ([u0, u1, u2, u3, u4].map encStream)), (1, .sl false 1 ([b0, b1, b2, b3, b4].map encI)), (2, .int .i64 until_), (7, .own 150 1 0 5)], st := [(100, .box [.int .i64 u0.bits, .int .i64 u0.period, .int .i64 u0.jitter, .int .i64 0, .int .i64 b0, .int .i64 b0, .int .i64 0]), (101, .box [.int .i64 u1.bits, .int .i64 u1.period, .int .i64 u1.jitter, .int .i64 0, .int .i64 b1, .int .i64 b1, .int .i64 0]), (102, .box [.int .i64 u2.bits, .int .i64 u2.period, .int .i64 u2.jitter, .int .i64 0, .int .i64 b2, .int .i64 b2, .int .i64 0]), (103, .box [.int .i64 u3.bits, .int .i64 u3.period, .int .i64 u3.jitter, .int .i64 0, .int .i64 b3, .int .i64 b3, .int .i64 0]), (104, .box [.int .i64 u4.bits, .int .i64 u4.period, .int .i64 u4.jitter, .int .i64 0, .int .i64 b4, .int .i64 b4, .int .i64 0]), (150, .row 1 [[.ptr 100 0], [.ptr 101 0], [.ptr 102 0], [.ptr 103 0], [.ptr 104 0]])], nx := 200, n := 92 }) (N' := fun s1 => s1.le B { sl := [(60, .fn (.func 32) [] [.ptr 160 0, .ptr 161 0]), (7, .own 150 1 0 5)], st := [(100, .box [.int .i64 u0.bits, .int .i64 u0.period, .int .i64 u0.jitter, .int .i64 0, .int .i64 b0, .int .i64 b0, .int .i64 0]), (101, .box [.int .i64 u1.bits, .int .i64 u1.period, .int .i64 u1.jitter, .int .i64 0, .int .i64 b1, .int .i64 b1, .int .i64 0]), (102, .box [.int .i64 u2.bits, .int .i64 u2.period, .int .i64 u2.jitter, .int .i64 0, .int .i64 b2, .int .i64 b2, .int .i64 0]), (103, .box [.int .i64 u3.bits, .int .i64 u3.period, .int .i64 u3.jitter, .int .i64 0, .int .i64 b3, .int .i64 b3, .int .i64 0]), (104, .box [.int .i64 u4.bits, .int .i64 u4.period, .int .i64 u4.jitter, .int .i64 0, .int .i64 b4, .int .i64 b4, .int .i64 0]), (150, .row 1 [[.ptr 100 0], [.ptr 101 0], [.ptr 102 0], [.ptr 103 0], [.ptr 104 0]]), (160, .box [.own 150 1 0 5]), (161, .box [.int .i64 until_])], nx := 208, n := 92 }) ?_ (fun s1 hle a w hs1 => ?_) a w (hle a w hs1)
  · try refine hK _ ?_
    repeat (first | refine awp_seq ?_ | refine awp_block ?_ | refine awp_skip ?_ | refine awp_scope ?_ | refine awp_label ?_)
    refine awp_region tabOk fun K hK => ?_
    simp -dsimp -implicitDefEqProofs only [push_cast, ↓trAdd_f, ↓stOf_f, seval]
    refine ⟨29, [], [], { args := [.own 5 1 0 5, .int .i64 until_], st0 := [(0, .box (encQ { s := u0, b := b0, q := 0, late := 0 })), (1, .box (encQ { s := u1, b := b1, q := 0, late := 0 })), (2, .box (encQ { s := u2, b := b2, q := 0, late := 0 })), (3, .box (encQ { s := u3, b := b3, q := 0, late := 0 })), (4, .box (encQ { s := u4, b := b4, q := 0, late := 0 })), (5, .row 1 [[.ptr 0 0], [.ptr 1 0], [.ptr 2 0], [.ptr 3 0], [.ptr 4 0]])], res := .fn (.func 32) [] [.ptr 6 0, .ptr 7 0], st1 := [(0, .box (encQ { s := u0, b := b0, q := 0, late := 0 })), (1, .box (encQ { s := u1, b := b1, q := 0, late := 0 })), (2, .box (encQ { s := u2, b := b2, q := 0, late := 0 })), (3, .box (encQ { s := u3, b := b3, q := 0, late := 0 })), (4, .box (encQ { s := u4, b := b4, q := 0, late := 0 })), (5, .row 1 [[.ptr 0 0], [.ptr 1 0], [.ptr 2 0], [.ptr 3 0], [.ptr 4 0]]), (6, .box [.own 5 1 0 5]), (7, .box [.int .i64 until_])], r := [100, 101, 102, 103, 104, 150] }, rfl, sent5_ok ({ s := u0, b := b0, q := 0, late := 0 }) ({ s := u1, b := b1, q := 0, late := 0 }) ({ s := u2, b := b2, q := 0, late := 0 }) ({ s := u3, b := b3, q := 0, late := 0 }) ({ s := u4, b := b4, q := 0, late := 0 }) until_, ?_, ?_⟩
    · simp only [encQ, due0, wts0, Int.natCast_zero]
      simp -dsimp -implicitDefEqProofs only [push_cast, List.mem_append, List.mem_cons, List.mem_singleton, forall_eq_or_imp, forall_eq, ↓trAdd_f, ↓stOf_f, seval]
      all_goals exact rfl
    simp only [encQ, due0, wts0, Int.natCast_zero]
    simp -dsimp -implicitDefEqProofs only [push_cast, ↓trAdd_f, ↓stOf_f, seval]
    refine hK _ ?_
    refine le_intro hB [(160, 216), (161, 217)] (by simp) (fun b hb => absurd hb (Nat.not_lt_zero b)) rfl ?_ ?_ rfl <;> simp -dsimp -implicitDefEqProofs only [push_cast, ↓trAdd_f, ↓stOf_f, seval]
  refine range_wp (ι := YI) (co := coY) (x0 := fun _ => .ptr 0 0) (x1 := fun i => .int .i64 i.1.2) (cg := fun lp => { args := [.fn (.yield lp) [] [], .ptr 6 0, .ptr 7 0], st0 := [(0, .box (encQ { s := u0, b := b0, q := 0, late := 0 })), (1, .box (encQ { s := u1, b := b1, q := 0, late := 0 })), (2, .box (encQ { s := u2, b := b2, q := 0, late := 0 })), (3, .box (encQ { s := u3, b := b3, q := 0, late := 0 })), (4, .box (encQ { s := u4, b := b4, q := 0, late := 0 })), (5, .row 1 [[.ptr 0 0], [.ptr 1 0], [.ptr 2 0], [.ptr 3 0], [.ptr 4 0]]), (6, .box [.own 5 1 0 5]), (7, .box [.int .i64 until_])], res := .tup [], st1 := [(0, .box (encQ y0)), (1, .box (encQ y1)), (2, .box (encQ y2)), (3, .box (encQ y3)), (4, .box (encQ y4)), (5, .row 1 [[.ptr 0 0], [.ptr 1 0], [.ptr 2 0], [.ptr 3 0], [.ptr 4 0]]), (6, .box [.own 5 1 0 5]), (7, .box [.int .i64 until_])], r := [100, 101, 102, 103, 104, 150, 160, 161] }) (s := { sl := [(60, .fn (.func 32) [] [.ptr 160 0, .ptr 161 0]), (7, .own 150 1 0 5)], st := [(100, .box [.int .i64 u0.bits, .int .i64 u0.period, .int .i64 u0.jitter, .int .i64 0, .int .i64 b0, .int .i64 b0, .int .i64 0]), (101, .box [.int .i64 u1.bits, .int .i64 u1.period, .int .i64 u1.jitter, .int .i64 0, .int .i64 b1, .int .i64 b1, .int .i64 0]), (102, .box [.int .i64 u2.bits, .int .i64 u2.period, .int .i64 u2.jitter, .int .i64 0, .int .i64 b2, .int .i64 b2, .int .i64 0]), (103, .box [.int .i64 u3.bits, .int .i64 u3.period, .int .i64 u3.jitter, .int .i64 0, .int .i64 b3, .int .i64 b3, .int .i64 0]), (104, .box [.int .i64 u4.bits, .int .i64 u4.period, .int .i64 u4.jitter, .int .i64 0, .int .i64 b4, .int .i64 b4, .int .i64 0]), (150, .row 1 [[.ptr 100 0], [.ptr 101 0], [.ptr 102 0], [.ptr 103 0], [.ptr 104 0]]), (160, .box [.own 150 1 0 5]), (161, .box [.int .i64 until_])], nx := 208, n := 92 }) (n0 := 0) (cap := [.ptr 160 0, .ptr 161 0]) (gf := 32) hB hds rfl (by decide) (by show 61 < 92; decide) (by show 62 < 92; decide) (fun i => ⟨rfl, rfl⟩) (fun l i B hB => ?_) (fun lp rec hY => hsent lp rec hY) (fun lp => ?_) (fun lp B hB => ?_) a w (hle a w hs1)
  · obtain ⟨⟨x, e⟩, hx, he0, he1⟩ := i
    have hdd : 0 ≤ x.due ∧ x.due ≤ 11000000000000 := hx.due
    have he0' : 0 ≤ e := he0
    have he1' : e ≤ 50000000000 := he1
    have hw : IntKind.i64.wrap (e - x.due) = e - x.due := wrap_i64 (by omega) (by omega)
    simp only [coY, roundS, encQ, encQL] at *
    refine awpR_seq (awpR_region tabOk rfl fun K hK => ?_)
    simp -dsimp -implicitDefEqProofs only [push_cast, ↓trAdd_f, ↓stOf_f, seval]
    refine hK _ (awpR_region tabOk rfl fun K hK => ?_)
    simp -dsimp -implicitDefEqProofs only [push_cast, ↓trAdd_f, ↓stOf_f, seval]
    refine hK _ (fun B1 hB1 => awpR_block (awpR_draw tabOk (by kernel_rfl) rfl (by kernel_rfl) fun K hK C hC => ?_))
    simp -dsimp -implicitDefEqProofs only [hw, push_cast, ↓trAdd_f, ↓stOf_f, seval]
    refine ⟨hC _ (by kernel_rfl), hK _ ?_⟩
    simp -dsimp -implicitDefEqProofs only [push_cast, List.mem_append, List.mem_cons, List.mem_singleton, forall_eq_or_imp, forall_eq, ↓trAdd_f, ↓stOf_f, seval]
  · simp only [encQ, due0, wts0, Int.natCast_zero]
    simp -dsimp -implicitDefEqProofs only [push_cast, List.mem_append, List.mem_cons, List.mem_singleton, forall_eq_or_imp, forall_eq, ↓trAdd_f, ↓stOf_f, seval]
    all_goals exact rfl
  · simp only [encQ, due0, wts0, Int.natCast_zero]
    simp -dsimp -implicitDefEqProofs only [push_cast, ↓trAdd_f, ↓stOf_f, seval]
    try refine hK _ ?_
    repeat (first | refine awp_seq ?_ | refine awp_block ?_ | refine awp_skip ?_ | refine awp_scope ?_ | refine awp_label ?_)
    refine awp_region tabOk fun K hK => ?_
    simp -dsimp -implicitDefEqProofs only [push_cast, ↓trAdd_f, ↓stOf_f, seval]
    try refine hK _ ?_
    repeat (first | refine awp_seq ?_ | refine awp_block ?_ | refine awp_skip ?_ | refine awp_scope ?_ | refine awp_label ?_)
    refine awp_region tabOk fun K hK => ?_
    simp -dsimp -implicitDefEqProofs only [push_cast, ↓trAdd_f, ↓stOf_f, seval]
    refine hK _ (awp_block ?_)
    refine awp_for (fun k : Nat => pl5O y0 y1 y2 y3 y4 k) (fun k => k ≤ 5) (fun k => 5 - k) 0 (Nat.zero_le _) ?_ fun k hk => ?_
    · simp only [pl5O, encQ]
      refine le_intro hB [] (by simp) (fun b _ => rfl) rfl ?_ ?_ rfl <;> simp -dsimp -implicitDefEqProofs only [push_cast, ↓trAdd_f, ↓stOf_f, seval]
    have : k = 0 ∨ k = 1 ∨ k = 2 ∨ k = 3 ∨ k = 4 ∨ k = 5 := by omega
    rcases this with rfl | rfl | rfl | rfl | rfl | rfl
    · simp only [pl5O, encQ]
      try refine hK _ ?_
      repeat (first | refine awp_seq ?_ | refine awp_block ?_ | refine awp_skip ?_ | refine awp_scope ?_ | refine awp_label ?_)
      refine awp_region tabOk fun K hK => ?_
      simp -dsimp -implicitDefEqProofs only [push_cast, ↓trAdd_f, ↓stOf_f, seval]
      try refine hK _ ?_
      repeat (first | refine awp_seq ?_ | refine awp_block ?_ | refine awp_skip ?_ | refine awp_scope ?_ | refine awp_label ?_)
      refine awp_cond (b := true) (by simp -dsimp -implicitDefEqProofs only [push_cast, ↓trAdd_f, ↓stOf_f, seval]) (fun h => ?_) (fun h => ?_)
      · try refine hK _ ?_
        repeat (first | refine awp_seq ?_ | refine awp_block ?_ | refine awp_skip ?_ | refine awp_scope ?_ | refine awp_label ?_)
        refine awp_region tabOk fun K hK => ?_
        simp -dsimp -implicitDefEqProofs only [tn1, tn2, tn3, tn4, push_cast, ↓trAdd_f, ↓stOf_f, seval]
        try refine hK _ ?_
        repeat (first | refine awp_seq ?_ | refine awp_block ?_ | refine awp_skip ?_ | refine awp_scope ?_ | refine awp_label ?_)
        refine awp_region tabOk fun K hK => ?_
        simp -dsimp -implicitDefEqProofs only [push_cast, ↓trAdd_f, ↓stOf_f, seval]
        try refine hK _ ?_
        repeat (first | refine awp_seq ?_ | refine awp_block ?_ | refine awp_skip ?_ | refine awp_scope ?_ | refine awp_label ?_)
        refine awp_region tabOk fun K hK => ?_
        simp -dsimp -implicitDefEqProofs only [push_cast, ↓trAdd_f, ↓stOf_f, seval]
        try simp (disch := omega) only [wrap_i64, wrap_u8, wrap_u16, wrap_u32]
        refine hK _ ⟨1, by decide, by decide, ?_⟩
        simp only [pl5O, encQ]
        refine le_intro hB [(170, 480)] (by simp) (fun b hb => absurd hb (Nat.not_lt_zero b)) rfl ?_ ?_ rfl <;> simp -dsimp -implicitDefEqProofs only [push_cast, ↓trAdd_f, ↓stOf_f, seval]
      · simp at h
    · simp only [pl5O, encQ]
      try refine hK _ ?_
      repeat (first | refine awp_seq ?_ | refine awp_block ?_ | refine awp_skip ?_ | refine awp_scope ?_ | refine awp_label ?_)
      refine awp_region tabOk fun K hK => ?_
      simp -dsimp -implicitDefEqProofs only [push_cast, ↓trAdd_f, ↓stOf_f, seval]
      try refine hK _ ?_
      repeat (first | refine awp_seq ?_ | refine awp_block ?_ | refine awp_skip ?_ | refine awp_scope ?_ | refine awp_label ?_)
      refine awp_cond (b := true) (by simp -dsimp -implicitDefEqProofs only [push_cast, ↓trAdd_f, ↓stOf_f, seval]) (fun h => ?_) (fun h => ?_)
      · try refine hK _ ?_
        repeat (first | refine awp_seq ?_ | refine awp_block ?_ | refine awp_skip ?_ | refine awp_scope ?_ | refine awp_label ?_)
        refine awp_region tabOk fun K hK => ?_
        simp -dsimp -implicitDefEqProofs only [tn1, tn2, tn3, tn4, push_cast, ↓trAdd_f, ↓stOf_f, seval]
        try refine hK _ ?_
        repeat (first | refine awp_seq ?_ | refine awp_block ?_ | refine awp_skip ?_ | refine awp_scope ?_ | refine awp_label ?_)
        refine awp_region tabOk fun K hK => ?_
        simp -dsimp -implicitDefEqProofs only [push_cast, ↓trAdd_f, ↓stOf_f, seval]
        try refine hK _ ?_
        repeat (first | refine awp_seq ?_ | refine awp_block ?_ | refine awp_skip ?_ | refine awp_scope ?_ | refine awp_label ?_)
        refine awp_region tabOk fun K hK => ?_
        simp -dsimp -implicitDefEqProofs only [push_cast, ↓trAdd_f, ↓stOf_f, seval]
        try simp (disch := omega) only [wrap_i64, wrap_u8, wrap_u16, wrap_u32]
        refine hK _ ⟨2, by decide, by decide, ?_⟩
        simp only [pl5O, encQ]
        refine le_intro hB [(170, 480)] (by simp) (fun b hb => absurd hb (Nat.not_lt_zero b)) rfl ?_ ?_ rfl <;> simp -dsimp -implicitDefEqProofs only [push_cast, ↓trAdd_f, ↓stOf_f, seval]
      · simp at h
    · simp only [pl5O, encQ]
      try refine hK _ ?_
      repeat (first | refine awp_seq ?_ | refine awp_block ?_ | refine awp_skip ?_ | refine awp_scope ?_ | refine awp_label ?_)
      refine awp_region tabOk fun K hK => ?_
      simp -dsimp -implicitDefEqProofs only [push_cast, ↓trAdd_f, ↓stOf_f, seval]
      try refine hK _ ?_
      repeat (first | refine awp_seq ?_ | refine awp_block ?_ | refine awp_skip ?_ | refine awp_scope ?_ | refine awp_label ?_)
      refine awp_cond (b := true) (by simp -dsimp -implicitDefEqProofs only [push_cast, ↓trAdd_f, ↓stOf_f, seval]) (fun h => ?_) (fun h => ?_)
      · try refine hK _ ?_
        repeat (first | refine awp_seq ?_ | refine awp_block ?_ | refine awp_skip ?_ | refine awp_scope ?_ | refine awp_label ?_)
        refine awp_region tabOk fun K hK => ?_
        simp -dsimp -implicitDefEqProofs only [tn1, tn2, tn3, tn4, push_cast, ↓trAdd_f, ↓stOf_f, seval]
        try refine hK _ ?_
        repeat (first | refine awp_seq ?_ | refine awp_block ?_ | refine awp_skip ?_ | refine awp_scope ?_ | refine awp_label ?_)
        refine awp_region tabOk fun K hK => ?_
        simp -dsimp -implicitDefEqProofs only [push_cast, ↓trAdd_f, ↓stOf_f, seval]
        try refine hK _ ?_
        repeat (first | refine awp_seq ?_ | refine awp_block ?_ | refine awp_skip ?_ | refine awp_scope ?_ | refine awp_label ?_)
        refine awp_region tabOk fun K hK => ?_
        simp -dsimp -implicitDefEqProofs only [push_cast, ↓trAdd_f, ↓stOf_f, seval]
        try simp (disch := omega) only [wrap_i64, wrap_u8, wrap_u16, wrap_u32]
        refine hK _ ⟨3, by decide, by decide, ?_⟩
        simp only [pl5O, encQ]
        refine le_intro hB [(170, 480)] (by simp) (fun b hb => absurd hb (Nat.not_lt_zero b)) rfl ?_ ?_ rfl <;> simp -dsimp -implicitDefEqProofs only [push_cast, ↓trAdd_f, ↓stOf_f, seval]
      · simp at h
    · simp only [pl5O, encQ]
      try refine hK _ ?_
      repeat (first | refine awp_seq ?_ | refine awp_block ?_ | refine awp_skip ?_ | refine awp_scope ?_ | refine awp_label ?_)
      refine awp_region tabOk fun K hK => ?_
      simp -dsimp -implicitDefEqProofs only [push_cast, ↓trAdd_f, ↓stOf_f, seval]
      try refine hK _ ?_
      repeat (first | refine awp_seq ?_ | refine awp_block ?_ | refine awp_skip ?_ | refine awp_scope ?_ | refine awp_label ?_)
      refine awp_cond (b := true) (by simp -dsimp -implicitDefEqProofs only [push_cast, ↓trAdd_f, ↓stOf_f, seval]) (fun h => ?_) (fun h => ?_)
      · try refine hK _ ?_
        repeat (first | refine awp_seq ?_ | refine awp_block ?_ | refine awp_skip ?_ | refine awp_scope ?_ | refine awp_label ?_)
        refine awp_region tabOk fun K hK => ?_
        simp -dsimp -implicitDefEqProofs only [tn1, tn2, tn3, tn4, push_cast, ↓trAdd_f, ↓stOf_f, seval]
        try refine hK _ ?_
        repeat (first | refine awp_seq ?_ | refine awp_block ?_ | refine awp_skip ?_ | refine awp_scope ?_ | refine awp_label ?_)
        refine awp_region tabOk fun K hK => ?_
        simp -dsimp -implicitDefEqProofs only [push_cast, ↓trAdd_f, ↓stOf_f, seval]
        try refine hK _ ?_
        repeat (first | refine awp_seq ?_ | refine awp_block ?_ | refine awp_skip ?_ | refine awp_scope ?_ | refine awp_label ?_)
        refine awp_region tabOk fun K hK => ?_
        simp -dsimp -implicitDefEqProofs only [push_cast, ↓trAdd_f, ↓stOf_f, seval]
        try simp (disch := omega) only [wrap_i64, wrap_u8, wrap_u16, wrap_u32]
        refine hK _ ⟨4, by decide, by decide, ?_⟩
        simp only [pl5O, encQ]
        refine le_intro hB [(170, 480)] (by simp) (fun b hb => absurd hb (Nat.not_lt_zero b)) rfl ?_ ?_ rfl <;> simp -dsimp -implicitDefEqProofs only [push_cast, ↓trAdd_f, ↓stOf_f, seval]
      · simp at h
    · simp only [pl5O, encQ]
      try refine hK _ ?_
      repeat (first | refine awp_seq ?_ | refine awp_block ?_ | refine awp_skip ?_ | refine awp_scope ?_ | refine awp_label ?_)
      refine awp_region tabOk fun K hK => ?_
      simp -dsimp -implicitDefEqProofs only [push_cast, ↓trAdd_f, ↓stOf_f, seval]
      try refine hK _ ?_
      repeat (first | refine awp_seq ?_ | refine awp_block ?_ | refine awp_skip ?_ | refine awp_scope ?_ | refine awp_label ?_)
      refine awp_cond (b := true) (by simp -dsimp -implicitDefEqProofs only [push_cast, ↓trAdd_f, ↓stOf_f, seval]) (fun h => ?_) (fun h => ?_)
      · try refine hK _ ?_
        repeat (first | refine awp_seq ?_ | refine awp_block ?_ | refine awp_skip ?_ | refine awp_scope ?_ | refine awp_label ?_)
        refine awp_region tabOk fun K hK => ?_
        simp -dsimp -implicitDefEqProofs only [tn1, tn2, tn3, tn4, push_cast, ↓trAdd_f, ↓stOf_f, seval]
        try refine hK _ ?_
        repeat (first | refine awp_seq ?_ | refine awp_block ?_ | refine awp_skip ?_ | refine awp_scope ?_ | refine awp_label ?_)
        refine awp_region tabOk fun K hK => ?_
        simp -dsimp -implicitDefEqProofs only [push_cast, ↓trAdd_f, ↓stOf_f, seval]
        try refine hK _ ?_
        repeat (first | refine awp_seq ?_ | refine awp_block ?_ | refine awp_skip ?_ | refine awp_scope ?_ | refine awp_label ?_)
        refine awp_region tabOk fun K hK => ?_
        simp -dsimp -implicitDefEqProofs only [push_cast, ↓trAdd_f, ↓stOf_f, seval]
        try simp (disch := omega) only [wrap_i64, wrap_u8, wrap_u16, wrap_u32]
        refine hK _ ⟨5, by decide, by decide, ?_⟩
        simp only [pl5O, encQ]
        refine le_intro hB [(170, 480)] (by simp) (fun b hb => absurd hb (Nat.not_lt_zero b)) rfl ?_ ?_ rfl <;> simp -dsimp -implicitDefEqProofs only [push_cast, ↓trAdd_f, ↓stOf_f, seval]
      · simp at h
    · simp only [pl5O, encQ]
      try refine hK _ ?_
      repeat (first | refine awp_seq ?_ | refine awp_block ?_ | refine awp_skip ?_ | refine awp_scope ?_ | refine awp_label ?_)
      refine awp_region tabOk fun K hK => ?_
      simp -dsimp -implicitDefEqProofs only [push_cast, ↓trAdd_f, ↓stOf_f, seval]
      try refine hK _ ?_
      repeat (first | refine awp_seq ?_ | refine awp_block ?_ | refine awp_skip ?_ | refine awp_scope ?_ | refine awp_label ?_)
      refine awp_cond (b := false) (by simp -dsimp -implicitDefEqProofs only [push_cast, ↓trAdd_f, ↓stOf_f, seval]) (fun h => ?_) (fun h => ?_)
      · simp at h
      refine awp_exit rfl ?_
      try refine hK _ ?_
      repeat (first | refine awp_seq ?_ | refine awp_block ?_ | refine awp_skip ?_ | refine awp_scope ?_ | refine awp_label ?_)
      refine awp_region tabOk fun K hK => ?_
      simp -dsimp -implicitDefEqProofs only [push_cast, ↓trAdd_f, ↓stOf_f, seval]
      refine hK _ (awp_ret ?_)
      simp -dsimp -implicitDefEqProofs only [encI, push_cast, List.mem_append, List.mem_cons, List.mem_singleton, forall_eq_or_imp, forall_eq, ↓trAdd_f, ↓stOf_f, seval]


end Go.Proofs.YtahkpghgjjlgdaaFw

/-
  What Cut answers is right, and at most five streams.
-/
namespace Go.Proofs.YtahkpghgjjlgdaaFw
open Go Go.Proofs
set_option linter.unusedVariables false
set_option linter.unusedSimpArgs false
theorem streamR_cutS (s : Stream) : streamR (cutS s) = true := by
  have b1 := band_range s.bits 65535 (w := 16) (by decide) (by decide)
  have b2 := band_range s.period 65535 (w := 16) (by decide) (by decide)
  have b3 := band_range s.jitter 65535 (w := 16) (by decide) (by decide)
  have m1 : (band s.bits 65535).tmod 150 = band s.bits 65535 % 150 := Int.tmod_eq_emod_of_nonneg b1.1
  have m2 : (band s.period 65535).tmod 51 = band s.period 65535 % 51 := Int.tmod_eq_emod_of_nonneg b2.1
  have m3 : (band s.jitter 65535).tmod 1500 = band s.jitter 65535 % 1500 := Int.tmod_eq_emod_of_nonneg b3.1
  simp only [streamR, cutS, betw, m1, m2, m3, Bool.and_eq_true, decide_eq_true_eq]
  omega
theorem cut_right (l : List Stream) : rightS (cut l) = true ∧ 1 ≤ (cut l).length ∧ (cut l).length ≤ 5 := by
  unfold cut
  by_cases h : cutL l 5 = []
  · rw [if_pos h]; decide
  · rw [if_neg h]
    have h1 := cutL_len l 5
    have h2 : 1 ≤ (cutL l 5).length := by
      cases hc : cutL l 5 with
      | nil => exact (h hc).elim
      | cons a b => simp
    refine ⟨?_, h2, h1⟩
    unfold rightS betw
    simp only [Bool.and_eq_true, decide_eq_true_eq, List.all_eq_true]
    refine ⟨fun s hs => ?_, by omega, by omega⟩
    unfold cutL at hs
    obtain ⟨x, _, rfl⟩ := List.mem_map.1 hs
    exact streamR_cutS x
end Go.Proofs.YtahkpghgjjlgdaaFw

/-
  Walks: Play of any right streams.
-/
namespace Go.Proofs.YtahkpghgjjlgdaaFw
open Go Go.Proofs
set_option maxRecDepth 100000
set_option maxHeartbeats 16000000
set_option linter.unusedVariables false
set_option linter.unusedSimpArgs false

theorem play_ok (l : List Stream) (bs : List Int) (until_ : Int) (hr : rightS l = true) (h5 : l.length ≤ 5) (hb : bs.length = l.length) (hu0 : 0 ≤ until_) (hu1 : until_ ≤ 1000000) :
    FnS Try.prog 18 [.sl false 3 (l.map encStream), .sl false 1 (bs.map encI), .int .i64 until_] [] (.sl false 1 ((playZ l bs until_).map encI)) [] := by
  match l, bs, hb with
  | [], [], _ => exact absurd hr (by decide)
  | [a], [b], _ => exact play1_ok a b until_ hr hu0 hu1
  | [a, a'], [b, b'], _ => exact play2_ok a a' b b' until_ hr hu0 hu1
  | [a, a', a2], [b, b', b2], _ => exact play3_ok a a' a2 b b' b2 until_ hr hu0 hu1
  | [a, a', a2, a3], [b, b', b2, b3], _ => exact play4_ok a a' a2 a3 b b' b2 b3 until_ hr hu0 hu1
  | [a, a', a2, a3, a4], [b, b', b2, b3, b4], _ => exact play5_ok a a' a2 a3 a4 b b' b2 b3 b4 until_ hr hu0 hu1
  | _ :: _ :: _ :: _ :: _ :: _ :: _, _, _ => simp at h5
theorem playNo_ok (l : List Stream) (bs : List Int) (until_ : Int) (hl : l.length ≤ 2 ^ 30) (hbl : bs.length ≤ 2 ^ 60) (hno : ¬ (rightS l = true ∧ bs.length = l.length ∧ 0 ≤ until_ ∧ until_ ≤ 1000000)) :
    FnS Try.prog 18 [.sl false 3 (l.map encStream), .sl false 1 (bs.map encI), .int .i64 until_] [] (.sl false 1 ((playZ l bs until_).map encI)) [] := by
  have e0 : playZ l bs until_ = [] := by unfold playZ; rw [if_neg (fun h => hno ⟨h.1, h.2.1, h.2.2.1, h.2.2.2.1⟩)]
  rw [e0]
  refine fn_walk tabOk Try.func18 rfl (by decide +kernel) Try.ntmps18 Try.results18 (by simp) fun B hB => ?_
  try refine hK _ ?_
  repeat (first | refine awp_seq ?_ | refine awp_block ?_ | refine awp_skip ?_ | refine awp_scope ?_ | refine awp_label ?_)
  refine awp_region tabOk fun K hK => ?_
  simp -dsimp -implicitDefEqProofs only [push_cast, ↓trAdd_f, ↓stOf_f, seval]
  try refine hK _ ?_
  repeat (first | refine awp_seq ?_ | refine awp_block ?_ | refine awp_skip ?_ | refine awp_scope ?_ | refine awp_label ?_)
  refine awp_region tabOk fun K hK => ?_
  simp -dsimp -implicitDefEqProofs only [push_cast, ↓trAdd_f, ↓stOf_f, seval]
  refine callK_simple (rRight_ok false l (by omega)) ?_ rfl fun _ => ?_
  · simp -dsimp -implicitDefEqProofs only [push_cast, List.mem_append, List.mem_cons, List.mem_singleton, forall_eq_or_imp, forall_eq, ↓trAdd_f, ↓stOf_f, seval]
  cases hr : rightS l with
  | false =>
    simp -dsimp -implicitDefEqProofs only [push_cast, ↓trAdd_f, ↓stOf_f, seval]
    try refine hK _ ?_
    repeat (first | refine awp_seq ?_ | refine awp_block ?_ | refine awp_skip ?_ | refine awp_scope ?_ | refine awp_label ?_)
    refine awp_cond (b := true) (by simp -dsimp -implicitDefEqProofs only [push_cast, ↓trAdd_f, ↓stOf_f, seval]) (fun h => ?_) (fun h => ?_)
    · try refine hK _ ?_
      repeat (first | refine awp_seq ?_ | refine awp_block ?_ | refine awp_skip ?_ | refine awp_scope ?_ | refine awp_label ?_)
      refine awp_region tabOk fun K hK => ?_
      simp -dsimp -implicitDefEqProofs only [push_cast, ↓trAdd_f, ↓stOf_f, seval]
      refine hK _ (awp_ret ?_)
      simp -dsimp -implicitDefEqProofs only [push_cast, List.mem_append, List.mem_cons, List.mem_singleton, forall_eq_or_imp, forall_eq, ↓trAdd_f, ↓stOf_f, seval]
    · simp at h
  | true =>
    cases hlen : (bs.length : Int) != l.length with
    | true =>
      simp -dsimp -implicitDefEqProofs only [hlen, push_cast, ↓trAdd_f, ↓stOf_f, seval]
      try refine hK _ ?_
      repeat (first | refine awp_seq ?_ | refine awp_block ?_ | refine awp_skip ?_ | refine awp_scope ?_ | refine awp_label ?_)
      refine awp_cond (b := true) (by simp -dsimp -implicitDefEqProofs only [push_cast, ↓trAdd_f, ↓stOf_f, seval]) (fun h => ?_) (fun h => ?_)
      · try refine hK _ ?_
        repeat (first | refine awp_seq ?_ | refine awp_block ?_ | refine awp_skip ?_ | refine awp_scope ?_ | refine awp_label ?_)
        refine awp_region tabOk fun K hK => ?_
        simp -dsimp -implicitDefEqProofs only [push_cast, ↓trAdd_f, ↓stOf_f, seval]
        refine hK _ (awp_ret ?_)
        simp -dsimp -implicitDefEqProofs only [push_cast, List.mem_append, List.mem_cons, List.mem_singleton, forall_eq_or_imp, forall_eq, ↓trAdd_f, ↓stOf_f, seval]
      · simp at h
    | false =>
      have hlen' : bs.length = l.length := by simp at hlen; omega
      have hw : (decide (0 ≤ until_) && decide (until_ ≤ 1000000)) = false := by
        cases hd : (decide (0 ≤ until_) && decide (until_ ≤ 1000000)) with
        | false => rfl
        | true => simp at hd; exact absurd ⟨hr, hlen', hd.1, hd.2⟩ hno
      simp -dsimp -implicitDefEqProofs only [hlen, push_cast, ↓trAdd_f, ↓stOf_f, seval]
      refine callK_simple (within_ok until_ 0 1000000) ?_ rfl fun _ => ?_
      · simp -dsimp -implicitDefEqProofs only [push_cast, List.mem_append, List.mem_cons, List.mem_singleton, forall_eq_or_imp, forall_eq, ↓trAdd_f, ↓stOf_f, seval]
      rw [hw]
      simp -dsimp -implicitDefEqProofs only [push_cast, ↓trAdd_f, ↓stOf_f, seval]
      try refine hK _ ?_
      repeat (first | refine awp_seq ?_ | refine awp_block ?_ | refine awp_skip ?_ | refine awp_scope ?_ | refine awp_label ?_)
      refine awp_cond (b := true) (by simp -dsimp -implicitDefEqProofs only [push_cast, ↓trAdd_f, ↓stOf_f, seval]) (fun h => ?_) (fun h => ?_)
      · try refine hK _ ?_
        repeat (first | refine awp_seq ?_ | refine awp_block ?_ | refine awp_skip ?_ | refine awp_scope ?_ | refine awp_label ?_)
        refine awp_region tabOk fun K hK => ?_
        simp -dsimp -implicitDefEqProofs only [push_cast, ↓trAdd_f, ↓stOf_f, seval]
        refine hK _ (awp_ret ?_)
        simp -dsimp -implicitDefEqProofs only [push_cast, List.mem_append, List.mem_cons, List.mem_singleton, forall_eq_or_imp, forall_eq, ↓trAdd_f, ↓stOf_f, seval]
      · simp at h
/-- Play of any streams of which there are at most five, or that are not right. -/
theorem playA_ok (l : List Stream) (bs : List Int) (until_ : Int) (hl : l.length ≤ 2 ^ 30) (hbl : bs.length ≤ 2 ^ 60) (h5 : rightS l = true → l.length ≤ 5) :
    FnS Try.prog 18 [.sl false 3 (l.map encStream), .sl false 1 (bs.map encI), .int .i64 until_] [] (.sl false 1 ((playZ l bs until_).map encI)) [] := by
  by_cases h : rightS l = true ∧ bs.length = l.length ∧ 0 ≤ until_ ∧ until_ ≤ 1000000
  · exact play_ok l bs until_ h.1 (h5 h.1) h.2.1 h.2.2.1 h.2.2.2
  · exact playNo_ok l bs until_ hl hbl h
end Go.Proofs.YtahkpghgjjlgdaaFw

/-
  The walk of resp.Bound.
-/
namespace Go.Proofs.YtahkpghgjjlgdaaFw
open Go Go.Proofs
set_option maxRecDepth 100000
set_option maxHeartbeats 8000000
set_option linter.unusedVariables false
set_option linter.unusedSimpArgs false

theorem bound_ok (l : List Stream) (i : Int) (hl : l.length ≤ 2 ^ 40) (hi64 : I64 i) :
    FnS Try.prog 14 [.sl false 3 (l.map encStream), .int .i64 i] [] (.tup [.int .i64 (boundP l i).1, .bool (boundP l i).2]) [] := by
  refine fn_walk tabOk Try.func14 rfl (by decide +kernel) Try.ntmps14 Try.results14 (by simp) fun B hB => ?_
  try refine hK _ ?_
  repeat (first | refine awp_seq ?_ | refine awp_block ?_ | refine awp_skip ?_ | refine awp_scope ?_ | refine awp_label ?_)
  refine awp_region tabOk fun K hK => ?_
  simp -dsimp -implicitDefEqProofs only [push_cast, ↓trAdd_f, ↓stOf_f, Nat.reduceBEq, Int.reduceBEq, Int.reduceBNe, Int.reduceNeg, Int.reduceAdd, Int.reduceSub, Int.reduceLT, Int.reduceLE, Int.reduceMul, Nat.reducePow, Int.reducePow, Nat.reduceAdd, Nat.reduceEqDiff, Nat.reduceLT, Nat.reduceLeDiff, Nat.reduceMul, Nat.reduceSub, reduceCtorEq, ↓reduceIte]
  try refine hK _ ?_
  repeat (first | refine awp_seq ?_ | refine awp_block ?_ | refine awp_skip ?_ | refine awp_scope ?_ | refine awp_label ?_)
  refine awp_join ({ sl := [(2, .ptr 0 0), (3, .ptr 8 0), (25, .bool (!decide (rightS l = true ∧ 0 ≤ i ∧ i < l.length)))], st := [(0, .box [.sl false 3 (l.map encStream)]), (8, .box [.int .i64 i])], nx := 16, n := 88 }) ?_ (fun _ hl h => awp_le hl h) ?_
  · try refine hK _ ?_
    repeat (first | refine awp_seq ?_ | refine awp_block ?_ | refine awp_skip ?_ | refine awp_scope ?_ | refine awp_label ?_)
    refine awp_region tabOk fun K hK => ?_
    simp -dsimp -implicitDefEqProofs only [push_cast, ↓trAdd_f, ↓stOf_f, Nat.reduceBEq, Int.reduceBEq, Int.reduceBNe, Int.reduceNeg, Int.reduceAdd, Int.reduceSub, Int.reduceLT, Int.reduceLE, Int.reduceMul, Nat.reducePow, Int.reducePow, Nat.reduceAdd, Nat.reduceEqDiff, Nat.reduceLT, Nat.reduceLeDiff, Nat.reduceMul, Nat.reduceSub, reduceCtorEq, ↓reduceIte]
    refine callK_simple (rRight_ok false l (by omega)) ?_ rfl fun _ => ?_
    · simp -dsimp -implicitDefEqProofs only [push_cast, List.mem_append, List.mem_cons, List.mem_singleton, forall_eq_or_imp, forall_eq, ↓trAdd_f, ↓stOf_f, Nat.reduceBEq, Int.reduceBEq, Int.reduceBNe, Int.reduceNeg, Int.reduceAdd, Int.reduceSub, Int.reduceLT, Int.reduceLE, Int.reduceMul, Nat.reducePow, Int.reducePow, Nat.reduceAdd, Nat.reduceEqDiff, Nat.reduceLT, Nat.reduceLeDiff, Nat.reduceMul, Nat.reduceSub, reduceCtorEq, ↓reduceIte]
    cases hr : rightS l with
    | false =>
      simp -dsimp -implicitDefEqProofs only [push_cast, ↓trAdd_f, ↓stOf_f, Nat.reduceBEq, Int.reduceBEq, Int.reduceBNe, Int.reduceNeg, Int.reduceAdd, Int.reduceSub, Int.reduceLT, Int.reduceLE, Int.reduceMul, Nat.reducePow, Int.reducePow, Nat.reduceAdd, Nat.reduceEqDiff, Nat.reduceLT, Nat.reduceLeDiff, Nat.reduceMul, Nat.reduceSub, reduceCtorEq, ↓reduceIte]
      refine hK _ ?_
      have e : decide (rightS l = true ∧ 0 ≤ i ∧ i < (l.length : Int)) = false := by simp [hr]
      refine le_intro hB [] (by simp) (fun b _ => rfl) rfl ?_ ?_ rfl <;> simp -dsimp -implicitDefEqProofs only [e, push_cast, ↓trAdd_f, ↓stOf_f, Nat.reduceBEq, Int.reduceBEq, Int.reduceBNe, Int.reduceNeg, Int.reduceAdd, Int.reduceSub, Int.reduceLT, Int.reduceLE, Int.reduceMul, Nat.reducePow, Int.reducePow, Nat.reduceAdd, Nat.reduceEqDiff, Nat.reduceLT, Nat.reduceLeDiff, Nat.reduceMul, Nat.reduceSub, reduceCtorEq, ↓reduceIte]
    | true =>
      simp -dsimp -implicitDefEqProofs only [push_cast, ↓trAdd_f, ↓stOf_f, Nat.reduceBEq, Int.reduceBEq, Int.reduceBNe, Int.reduceNeg, Int.reduceAdd, Int.reduceSub, Int.reduceLT, Int.reduceLE, Int.reduceMul, Nat.reducePow, Int.reducePow, Nat.reduceAdd, Nat.reduceEqDiff, Nat.reduceLT, Nat.reduceLeDiff, Nat.reduceMul, Nat.reduceSub, reduceCtorEq, ↓reduceIte]
      refine guardK_f (fun h1 => ?_) (fun h1 => ?_) <;> simp -dsimp -implicitDefEqProofs only [h1, push_cast, ↓trAdd_f, ↓stOf_f, Nat.reduceBEq, Int.reduceBEq, Int.reduceBNe, Int.reduceNeg, Int.reduceAdd, Int.reduceSub, Int.reduceLT, Int.reduceLE, Int.reduceMul, Nat.reducePow, Int.reducePow, Nat.reduceAdd, Nat.reduceEqDiff, Nat.reduceLT, Nat.reduceLeDiff, Nat.reduceMul, Nat.reduceSub, reduceCtorEq, ↓reduceIte]
      · refine hK _ ?_
        have e : (!decide (rightS l = true ∧ 0 ≤ i ∧ i < (l.length : Int))) = decide ((l.length : Int) ≤ i) := by
          have h2 : 0 ≤ i := by simp at h1; exact h1
          rw [Bool.eq_iff_iff]; simp [hr, h2]
        refine le_intro hB [] (by simp) (fun b _ => rfl) rfl ?_ ?_ rfl <;> simp -dsimp -implicitDefEqProofs only [e, push_cast, ↓trAdd_f, ↓stOf_f, Nat.reduceBEq, Int.reduceBEq, Int.reduceBNe, Int.reduceNeg, Int.reduceAdd, Int.reduceSub, Int.reduceLT, Int.reduceLE, Int.reduceMul, Nat.reducePow, Int.reducePow, Nat.reduceAdd, Nat.reduceEqDiff, Nat.reduceLT, Nat.reduceLeDiff, Nat.reduceMul, Nat.reduceSub, reduceCtorEq, ↓reduceIte]
      · refine hK _ ?_
        have e : decide (rightS l = true ∧ 0 ≤ i ∧ i < (l.length : Int)) = false := by simp at h1; simp; omega
        refine le_intro hB [] (by simp) (fun b _ => rfl) rfl ?_ ?_ rfl <;> simp -dsimp -implicitDefEqProofs only [e, push_cast, ↓trAdd_f, ↓stOf_f, Nat.reduceBEq, Int.reduceBEq, Int.reduceBNe, Int.reduceNeg, Int.reduceAdd, Int.reduceSub, Int.reduceLT, Int.reduceLE, Int.reduceMul, Nat.reducePow, Int.reducePow, Nat.reduceAdd, Nat.reduceEqDiff, Nat.reduceLT, Nat.reduceLeDiff, Nat.reduceMul, Nat.reduceSub, reduceCtorEq, ↓reduceIte]
  try refine hK _ ?_
  repeat (first | refine awp_seq ?_ | refine awp_block ?_ | refine awp_skip ?_ | refine awp_scope ?_ | refine awp_label ?_)
  refine awp_cond (b := !decide (rightS l = true ∧ 0 ≤ i ∧ i < (l.length : Int))) (by simp -dsimp -implicitDefEqProofs only [push_cast, ↓trAdd_f, ↓stOf_f, Nat.reduceBEq, Int.reduceBEq, Int.reduceBNe, Int.reduceNeg, Int.reduceAdd, Int.reduceSub, Int.reduceLT, Int.reduceLE, Int.reduceMul, Nat.reducePow, Int.reducePow, Nat.reduceAdd, Nat.reduceEqDiff, Nat.reduceLT, Nat.reduceLeDiff, Nat.reduceMul, Nat.reduceSub, reduceCtorEq, ↓reduceIte]) (fun h => ?_) (fun h => ?_)
  · have hn : ¬ (rightS l = true ∧ 0 ≤ i ∧ i < (l.length : Int)) := fun e => by rw [decide_eq_true e] at h; simp at h
    have e : boundP l i = (0, false) := by unfold boundP; rw [if_neg hn]
    try refine hK _ ?_
    repeat (first | refine awp_seq ?_ | refine awp_block ?_ | refine awp_skip ?_ | refine awp_scope ?_ | refine awp_label ?_)
    refine awp_region tabOk fun K hK => ?_
    simp -dsimp -implicitDefEqProofs only [push_cast, ↓trAdd_f, ↓stOf_f, Nat.reduceBEq, Int.reduceBEq, Int.reduceBNe, Int.reduceNeg, Int.reduceAdd, Int.reduceSub, Int.reduceLT, Int.reduceLE, Int.reduceMul, Nat.reducePow, Int.reducePow, Nat.reduceAdd, Nat.reduceEqDiff, Nat.reduceLT, Nat.reduceLeDiff, Nat.reduceMul, Nat.reduceSub, reduceCtorEq, ↓reduceIte]
    refine hK _ (awp_ret ?_)
    simp -dsimp -implicitDefEqProofs only [e, push_cast, List.mem_append, List.mem_cons, List.mem_singleton, forall_eq_or_imp, forall_eq, ↓trAdd_f, ↓stOf_f, Nat.reduceBEq, Int.reduceBEq, Int.reduceBNe, Int.reduceNeg, Int.reduceAdd, Int.reduceSub, Int.reduceLT, Int.reduceLE, Int.reduceMul, Nat.reducePow, Int.reducePow, Nat.reduceAdd, Nat.reduceEqDiff, Nat.reduceLT, Nat.reduceLeDiff, Nat.reduceMul, Nat.reduceSub, reduceCtorEq, ↓reduceIte]
  have hy : rightS l = true ∧ 0 ≤ i ∧ i < (l.length : Int) := by simpa using h
  obtain ⟨hr, h0, h1⟩ := hy
  obtain ⟨n, rfl⟩ := Int.eq_ofNat_of_zero_le h0
  have hn : n < l.length := by omega
  obtain ⟨hs, hl1, hl16⟩ := right_ok_s hr
  have hbp : boundP l (n : Int) = boundL l n l[n] (longest (l.drop (n + 1))) := by
    unfold boundP
    rw [if_pos ⟨hr, h0, h1⟩, Int.toNat_natCast, show l.getD n zeroSt = l[n] by simp [List.getD, hn]]
  have hst := hs _ (List.getElem_mem hn)
  obtain ⟨hb0, hb1⟩ := longest_bd (l.drop (n + 1)) fun s hm => hs s (List.mem_of_mem_drop hm)
  clear h h0 h1
  have hw1 : IntKind.i64.wrap ((n : Int) + 1) = (n : Int) + 1 := wrap_i64 (by omega) (by omega)
  have htn : ((n : Int) + 1).toNat = n + 1 := by omega
  have hdr : ((l.map encStream).drop (n + 1)).take (l.length - (n + 1)) = (l.drop (n + 1)).map encStream := by rw [List.map_drop, List.take_of_length_le (by simp)]
  try refine hK _ ?_
  repeat (first | refine awp_seq ?_ | refine awp_block ?_ | refine awp_skip ?_ | refine awp_scope ?_ | refine awp_label ?_)
  refine awp_draw tabOk (by kernel_rfl) (by kernel_rfl) fun K hK C hC => ?_
  simp -dsimp -implicitDefEqProofs only [hw1, htn, hdr, hn, getD_map, encStream, push_cast, ↓trAdd_f, ↓stOf_f, Nat.reduceBEq, Int.reduceBEq, Int.reduceBNe, Int.reduceNeg, Int.reduceAdd, Int.reduceSub, Int.reduceLT, Int.reduceLE, Int.reduceMul, Nat.reducePow, Int.reducePow, Nat.reduceAdd, Nat.reduceEqDiff, Nat.reduceLT, Nat.reduceLeDiff, Nat.reduceMul, Nat.reduceSub, reduceCtorEq, ↓reduceIte]
  refine ⟨⟨by omega, by omega⟩, ⟨by omega, by omega⟩, ?_⟩
  refine callK_simple (longest_ok false (l.drop (n + 1)) (by simp; omega)) ?_ rfl fun _ => ?_
  · simp -dsimp -implicitDefEqProofs only [push_cast, List.mem_append, List.mem_cons, List.mem_singleton, forall_eq_or_imp, forall_eq, ↓trAdd_f, ↓stOf_f, Nat.reduceBEq, Int.reduceBEq, Int.reduceBNe, Int.reduceNeg, Int.reduceAdd, Int.reduceSub, Int.reduceLT, Int.reduceLE, Int.reduceMul, Nat.reducePow, Int.reducePow, Nat.reduceAdd, Nat.reduceEqDiff, Nat.reduceLT, Nat.reduceLeDiff, Nat.reduceMul, Nat.reduceSub, reduceCtorEq, ↓reduceIte]
  generalize longest (l.drop (n + 1)) = b at *
  simp -dsimp -implicitDefEqProofs only [push_cast, ↓trAdd_f, ↓stOf_f, Nat.reduceBEq, Int.reduceBEq, Int.reduceBNe, Int.reduceNeg, Int.reduceAdd, Int.reduceSub, Int.reduceLT, Int.reduceLE, Int.reduceMul, Nat.reducePow, Int.reducePow, Nat.reduceAdd, Nat.reduceEqDiff, Nat.reduceLT, Nat.reduceLeDiff, Nat.reduceMul, Nat.reduceSub, reduceCtorEq, ↓reduceIte]
  refine ⟨hC _ (by kernel_rfl), ?_⟩
  clear hC C
  have hup : l[n].bits ≤ fBusy l n b l[n].bits := by
    unfold fBusy
    rw [load_take_succ l n hn]
    have q1 := load_bd l[n].bits 0 (by have := hst.1; omega) (by have := hst.2.1; omega) (by decide) (by decide) (l.take n) fun s hm => hs s (List.mem_of_mem_take hm)
    have q2 : 1 ≤ (l[n].bits + l[n].jitter + 0 + l[n].period - 1) / l[n].period := by
      obtain ⟨p1, p2, p3, p4, p5, p6⟩ := hst
      exact Int.le_ediv_of_mul_le (by omega) (by omega)
    have q3 : 1 * l[n].bits ≤ load1 l[n].bits 0 l[n] := Int.mul_le_mul_of_nonneg_right q2 (by have := hst.1; omega)
    omega
  have hsp := leastF_spec (fBusy_mono l n b hs) l[n].bits (by have := hst.1; omega) hup
  have hca := least1_ok l n b l[n].bits hl16 hn hs (by have := hst.1; omega) (by have := hst.2.1; omega) hb0 (by omega) hup
  have hbl : boundL l n l[n] b = if (leastF (fBusy l n b) l[n].bits).2 = true then ((mostQ l n b l[n] (((leastF (fBusy l n b) l[n].bits).1 + l[n].jitter + l[n].period - 1) / l[n].period).toNat).1, true) else (0, false) := rfl
  rw [hbl] at hbp
  clear hbl
  generalize leastF (fBusy l n b) l[n].bits = Z at *
  obtain ⟨t, is⟩ := Z
  simp only at hsp hca hbp
  try refine hK _ ?_
  repeat (first | refine awp_seq ?_ | refine awp_block ?_ | refine awp_skip ?_ | refine awp_scope ?_ | refine awp_label ?_)
  refine awp_region tabOk fun K hK => ?_
  simp -dsimp -implicitDefEqProofs only [push_cast, ↓trAdd_f, ↓stOf_f, Nat.reduceBEq, Int.reduceBEq, Int.reduceBNe, Int.reduceNeg, Int.reduceAdd, Int.reduceSub, Int.reduceLT, Int.reduceLE, Int.reduceMul, Nat.reducePow, Int.reducePow, Nat.reduceAdd, Nat.reduceEqDiff, Nat.reduceLT, Nat.reduceLeDiff, Nat.reduceMul, Nat.reduceSub, reduceCtorEq, ↓reduceIte]
  refine ⟨22, [], [], { args := [.int .i64 l[n].bits, .fn (.func 23) [] [.ptr 0 0, .ptr 1 0, .ptr 2 0]], st0 := [(0, .box [.int .i64 b]), (1, .box [.sl false 3 (l.map encStream)]), (2, .box [.int .i64 n])], res := .tup [.int .i64 t, .bool is], st1 := [(0, .box [.int .i64 b]), (1, .box [.sl false 3 (l.map encStream)]), (2, .box [.int .i64 n])], r := [96, 0, 8] }, rfl, hca, ?_, ?_⟩
  · simp -dsimp -implicitDefEqProofs only [push_cast, List.mem_append, List.mem_cons, List.mem_singleton, forall_eq_or_imp, forall_eq, ↓trAdd_f, ↓stOf_f, Nat.reduceBEq, Int.reduceBEq, Int.reduceBNe, Int.reduceNeg, Int.reduceAdd, Int.reduceSub, Int.reduceLT, Int.reduceLE, Int.reduceMul, Nat.reducePow, Int.reducePow, Nat.reduceAdd, Nat.reduceEqDiff, Nat.reduceLT, Nat.reduceLeDiff, Nat.reduceMul, Nat.reduceSub, reduceCtorEq, ↓reduceIte]
    exact rfl
  simp -dsimp -implicitDefEqProofs only [push_cast, ↓trAdd_f, ↓stOf_f, Nat.reduceBEq, Int.reduceBEq, Int.reduceBNe, Int.reduceNeg, Int.reduceAdd, Int.reduceSub, Int.reduceLT, Int.reduceLE, Int.reduceMul, Nat.reducePow, Int.reducePow, Nat.reduceAdd, Nat.reduceEqDiff, Nat.reduceLT, Nat.reduceLeDiff, Nat.reduceMul, Nat.reduceSub, reduceCtorEq, ↓reduceIte]
  try refine hK _ ?_
  repeat (first | refine awp_seq ?_ | refine awp_block ?_ | refine awp_skip ?_ | refine awp_scope ?_ | refine awp_label ?_)
  refine awp_region tabOk fun K hK => ?_
  simp -dsimp -implicitDefEqProofs only [push_cast, ↓trAdd_f, ↓stOf_f, Nat.reduceBEq, Int.reduceBEq, Int.reduceBNe, Int.reduceNeg, Int.reduceAdd, Int.reduceSub, Int.reduceLT, Int.reduceLE, Int.reduceMul, Nat.reducePow, Int.reducePow, Nat.reduceAdd, Nat.reduceEqDiff, Nat.reduceLT, Nat.reduceLeDiff, Nat.reduceMul, Nat.reduceSub, reduceCtorEq, ↓reduceIte]
  try refine hK _ ?_
  repeat (first | refine awp_seq ?_ | refine awp_block ?_ | refine awp_skip ?_ | refine awp_scope ?_ | refine awp_label ?_)
  refine awp_cond (b := !is) (by simp -dsimp -implicitDefEqProofs only [push_cast, ↓trAdd_f, ↓stOf_f, Nat.reduceBEq, Int.reduceBEq, Int.reduceBNe, Int.reduceNeg, Int.reduceAdd, Int.reduceSub, Int.reduceLT, Int.reduceLE, Int.reduceMul, Nat.reducePow, Int.reducePow, Nat.reduceAdd, Nat.reduceEqDiff, Nat.reduceLT, Nat.reduceLeDiff, Nat.reduceMul, Nat.reduceSub, reduceCtorEq, ↓reduceIte]) (fun h => ?_) (fun h => ?_)
  · have e : boundP l (n : Int) = (0, false) := by rw [hbp, if_neg (by simp at h; simp [h])]
    try refine hK _ ?_
    repeat (first | refine awp_seq ?_ | refine awp_block ?_ | refine awp_skip ?_ | refine awp_scope ?_ | refine awp_label ?_)
    refine awp_region tabOk fun K hK => ?_
    simp -dsimp -implicitDefEqProofs only [push_cast, ↓trAdd_f, ↓stOf_f, Nat.reduceBEq, Int.reduceBEq, Int.reduceBNe, Int.reduceNeg, Int.reduceAdd, Int.reduceSub, Int.reduceLT, Int.reduceLE, Int.reduceMul, Nat.reducePow, Int.reducePow, Nat.reduceAdd, Nat.reduceEqDiff, Nat.reduceLT, Nat.reduceLeDiff, Nat.reduceMul, Nat.reduceSub, reduceCtorEq, ↓reduceIte]
    refine hK _ (awp_ret ?_)
    simp -dsimp -implicitDefEqProofs only [e, push_cast, List.mem_append, List.mem_cons, List.mem_singleton, forall_eq_or_imp, forall_eq, ↓trAdd_f, ↓stOf_f, Nat.reduceBEq, Int.reduceBEq, Int.reduceBNe, Int.reduceNeg, Int.reduceAdd, Int.reduceSub, Int.reduceLT, Int.reduceLE, Int.reduceMul, Nat.reducePow, Int.reducePow, Nat.reduceAdd, Nat.reduceEqDiff, Nat.reduceLT, Nat.reduceLeDiff, Nat.reduceMul, Nat.reduceSub, reduceCtorEq, ↓reduceIte]
  have his : is = true := by simpa using h
  subst his
  rw [if_pos rfl] at hbp
  obtain ⟨ht1, ht2, ht3, ht4⟩ := hsp.1 rfl
  clear h hsp hca
  have p1 := hst.1
  have p2 := hst.2.1
  have p3 := hst.2.2.1
  have p4 := hst.2.2.2.1
  have p5 := hst.2.2.2.2.1
  have p6 := hst.2.2.2.2.2
  have hroom := busy_room hn hs hb0 (by omega : 0 ≤ t) (by omega) ht1
  have hld := load_nonneg (l.take n) (fun s hm => hs s (List.mem_of_mem_take hm)) t 0 (by omega) (by decide)
  have hdiv : (t + l[n].jitter + l[n].period - 1).tdiv l[n].period = (t + l[n].jitter + l[n].period - 1) / l[n].period := Int.tdiv_eq_ediv_of_nonneg (by omega)
  have hQ0 : 0 ≤ (t + l[n].jitter + l[n].period - 1) / l[n].period := Int.ediv_nonneg (by omega) (by omega)
  have hp0 : ¬ l[n].period = 0 := by omega
  generalize hQ : (t + l[n].jitter + l[n].period - 1) / l[n].period = Q at *
  obtain ⟨Q, rfl⟩ := Int.eq_ofNat_of_zero_le hQ0
  rw [Int.toNat_natCast] at hbp
  have hQC : (Q : Int) * 1 ≤ Q * l[n].bits := Int.mul_le_mul_of_nonneg_left p1 (by omega)
  have hQ7 : (Q : Int) ≤ 10000000 := by omega
  have hw2 : IntKind.i64.wrap (t + l[n].jitter) = t + l[n].jitter := wrap_i64 (by omega) (by omega)
  have hw3 : IntKind.i64.wrap (t + l[n].jitter + l[n].period) = t + l[n].jitter + l[n].period := wrap_i64 (by omega) (by omega)
  have hw4 : IntKind.i64.wrap (t + l[n].jitter + l[n].period - 1) = t + l[n].jitter + l[n].period - 1 := wrap_i64 (by omega) (by omega)
  have hw5 : IntKind.i64.wrap (Q : Int) = Q := wrap_i64 (by omega) (by omega)
  try refine hK _ ?_
  repeat (first | refine awp_seq ?_ | refine awp_block ?_ | refine awp_skip ?_ | refine awp_scope ?_ | refine awp_label ?_)
  refine awp_region tabOk fun K hK => ?_
  simp -dsimp -implicitDefEqProofs only [push_cast, ↓trAdd_f, ↓stOf_f, Nat.reduceBEq, Int.reduceBEq, Int.reduceBNe, Int.reduceNeg, Int.reduceAdd, Int.reduceSub, Int.reduceLT, Int.reduceLE, Int.reduceMul, Nat.reducePow, Int.reducePow, Nat.reduceAdd, Nat.reduceEqDiff, Nat.reduceLT, Nat.reduceLeDiff, Nat.reduceMul, Nat.reduceSub, reduceCtorEq, ↓reduceIte]
  try refine hK _ ?_
  repeat (first | refine awp_seq ?_ | refine awp_block ?_ | refine awp_skip ?_ | refine awp_scope ?_ | refine awp_label ?_)
  refine awp_region tabOk fun K hK => ?_
  simp -dsimp -implicitDefEqProofs only [push_cast, ↓trAdd_f, ↓stOf_f, Nat.reduceBEq, Int.reduceBEq, Int.reduceBNe, Int.reduceNeg, Int.reduceAdd, Int.reduceSub, Int.reduceLT, Int.reduceLE, Int.reduceMul, Nat.reducePow, Int.reducePow, Nat.reduceAdd, Nat.reduceEqDiff, Nat.reduceLT, Nat.reduceLeDiff, Nat.reduceMul, Nat.reduceSub, reduceCtorEq, ↓reduceIte]
  try refine hK _ ?_
  repeat (first | refine awp_seq ?_ | refine awp_block ?_ | refine awp_skip ?_ | refine awp_scope ?_ | refine awp_label ?_)
  refine awp_region tabOk fun K hK => ?_
  simp -dsimp -implicitDefEqProofs only [hw2, hw3, hw4, hdiv, hw5, hp0, push_cast, ↓trAdd_f, ↓stOf_f, Nat.reduceBEq, Int.reduceBEq, Int.reduceBNe, Int.reduceNeg, Int.reduceAdd, Int.reduceSub, Int.reduceLT, Int.reduceLE, Int.reduceMul, Nat.reducePow, Int.reducePow, Nat.reduceAdd, Nat.reduceEqDiff, Nat.reduceLT, Nat.reduceLeDiff, Nat.reduceMul, Nat.reduceSub, reduceCtorEq, ↓reduceIte]
  refine hK _ (awp_block ?_)
  refine awp_for (fun q : Nat => { sl := [(2, .ptr 0 0), (3, .ptr 8 0), (6, .ptr 88 0), (7, .ptr 96 0), (10, .int .i64 (mostQ l n b l[n] q).1), (11, .int .i64 (mostQ l n b l[n] q).2), (55, .int .i64 Q), (56, .int .i64 q)], st := [(0, .box [.sl false 3 (l.map encStream)]), (8, .box [.int .i64 n]), (88, .box (encStream l[n])), (96, .box [.int .i64 b])], nx := 232, n := 88 }) (fun q => q ≤ Q) (fun q => Q - q) 0 (Nat.zero_le _) ?_ fun q hq => ?_
  · have : mostQ l n b l[n] 0 = (0, b) := rfl
    refine le_intro hB [] (by simp) (fun b _ => rfl) rfl ?_ ?_ rfl <;> simp -dsimp -implicitDefEqProofs only [this, encStream, push_cast, ↓trAdd_f, ↓stOf_f, Nat.reduceBEq, Int.reduceBEq, Int.reduceBNe, Int.reduceNeg, Int.reduceAdd, Int.reduceSub, Int.reduceLT, Int.reduceLE, Int.reduceMul, Nat.reducePow, Int.reducePow, Nat.reduceAdd, Nat.reduceEqDiff, Nat.reduceLT, Nat.reduceLeDiff, Nat.reduceMul, Nat.reduceSub, reduceCtorEq, ↓reduceIte]
  simp only [encStream]
  try refine hK _ ?_
  repeat (first | refine awp_seq ?_ | refine awp_block ?_ | refine awp_skip ?_ | refine awp_scope ?_ | refine awp_label ?_)
  refine awp_region tabOk fun K hK => ?_
  simp -dsimp -implicitDefEqProofs only [push_cast, ↓trAdd_f, ↓stOf_f, Nat.reduceBEq, Int.reduceBEq, Int.reduceBNe, Int.reduceNeg, Int.reduceAdd, Int.reduceSub, Int.reduceLT, Int.reduceLE, Int.reduceMul, Nat.reducePow, Int.reducePow, Nat.reduceAdd, Nat.reduceEqDiff, Nat.reduceLT, Nat.reduceLeDiff, Nat.reduceMul, Nat.reduceSub, reduceCtorEq, ↓reduceIte]
  try refine hK _ ?_
  repeat (first | refine awp_seq ?_ | refine awp_block ?_ | refine awp_skip ?_ | refine awp_scope ?_ | refine awp_label ?_)
  refine awp_cond (b := decide ((q : Int) < Q)) (by simp -dsimp -implicitDefEqProofs only [push_cast, ↓trAdd_f, ↓stOf_f, Nat.reduceBEq, Int.reduceBEq, Int.reduceBNe, Int.reduceNeg, Int.reduceAdd, Int.reduceSub, Int.reduceLT, Int.reduceLE, Int.reduceMul, Nat.reducePow, Int.reducePow, Nat.reduceAdd, Nat.reduceEqDiff, Nat.reduceLT, Nat.reduceLeDiff, Nat.reduceMul, Nat.reduceSub, reduceCtorEq, ↓reduceIte]) (fun h => ?_) (fun h => ?_)
  · have hqQ : q < Q := by simpa using h
    clear h
    have hqC : (q : Int) * l[n].bits ≤ Q * l[n].bits := Int.mul_le_mul_of_nonneg_right (by omega) (by omega)
    have hqC0 : 0 ≤ (q : Int) * l[n].bits := Int.mul_nonneg (by omega) (by omega)
    have hqT : (q : Int) * l[n].period ≤ 10000000 * 1000000 := Int.mul_le_mul (by omega) (by omega) (by omega) (by omega)
    have hqT0 : 0 ≤ (q : Int) * l[n].period := Int.mul_nonneg (by omega) (by omega)
    have hinv := mostQ_inv (i := n) hs hst hb0 hb1 q (by omega)
    have hinv2 := qinv_step hs hst hb0 (by omega) hinv
    have hnext : mostQ l n b l[n] (q + 1) = stepQ l n b l[n] q (mostQ l n b l[n] q) := rfl
    have hca := least2_ok l n b q (max (mostQ l n b l[n] q).2 (b + q * l[n].bits)) l[n] hl16 hn hs hst (by have := hinv.w0; omega) (by have := hinv.w1; omega) hb0 (by omega) (by omega) (by omega) (start_up hs hinv.w0 hinv.up)
    simp only [encStream] at hca
    have hu1 : IntKind.i64.wrap ((q : Int) * l[n].bits) = q * l[n].bits := wrap_i64 (by omega) (by omega)
    have hu2 : IntKind.i64.wrap (b + (q : Int) * l[n].bits) = b + q * l[n].bits := wrap_i64 (by omega) (by omega)
    unfold stepQ at hinv2 hnext
    generalize mostQ l n b l[n] q = X at *
    obtain ⟨M, w⟩ := X
    simp only at hca hinv2 hnext
    generalize leastF (fWait l n b l[n].bits q) (max w (b + q * l[n].bits)) = Z at *
    obtain ⟨w', is⟩ := Z
    have g1 := hinv.m0
    have g2 := hinv.m1
    have g3 := hinv2.w0
    have g4 := hinv2.w1
    simp only at hca g1 g2 g3 g4 hnext
    try refine hK _ ?_
    repeat (first | refine awp_seq ?_ | refine awp_block ?_ | refine awp_skip ?_ | refine awp_scope ?_ | refine awp_label ?_)
    refine awp_region tabOk fun K hK => ?_
    simp -dsimp -implicitDefEqProofs only [push_cast, ↓trAdd_f, ↓stOf_f, Nat.reduceBEq, Int.reduceBEq, Int.reduceBNe, Int.reduceNeg, Int.reduceAdd, Int.reduceSub, Int.reduceLT, Int.reduceLE, Int.reduceMul, Nat.reducePow, Int.reducePow, Nat.reduceAdd, Nat.reduceEqDiff, Nat.reduceLT, Nat.reduceLeDiff, Nat.reduceMul, Nat.reduceSub, reduceCtorEq, ↓reduceIte]
    try refine hK _ ?_
    repeat (first | refine awp_seq ?_ | refine awp_block ?_ | refine awp_skip ?_ | refine awp_scope ?_ | refine awp_label ?_)
    refine awp_region tabOk fun K hK => ?_
    simp -dsimp -implicitDefEqProofs only [hu1, hu2, push_cast, ↓trAdd_f, ↓stOf_f, Nat.reduceBEq, Int.reduceBEq, Int.reduceBNe, Int.reduceNeg, Int.reduceAdd, Int.reduceSub, Int.reduceLT, Int.reduceLE, Int.reduceMul, Nat.reducePow, Int.reducePow, Nat.reduceAdd, Nat.reduceEqDiff, Nat.reduceLT, Nat.reduceLeDiff, Nat.reduceMul, Nat.reduceSub, reduceCtorEq, ↓reduceIte]
    refine ⟨22, [], [], { args := [.int .i64 (max w (b + q * l[n].bits)), .fn (.func 25) [] [.ptr 0 0, .ptr 1 0, .ptr 2 0, .ptr 3 0, .ptr 4 0]], st0 := [(0, .box [.int .i64 b]), (1, .box [.int .i64 q]), (2, .box (encStream l[n])), (3, .box [.sl false 3 (l.map encStream)]), (4, .box [.int .i64 n])], res := .tup [.int .i64 w', .bool is], st1 := [(0, .box [.int .i64 b]), (1, .box [.int .i64 q]), (2, .box (encStream l[n])), (3, .box [.sl false 3 (l.map encStream)]), (4, .box [.int .i64 n])], r := [96, 248, 88, 0, 8] }, rfl, hca, ?_, ?_⟩
    · simp only [encStream]
      simp -dsimp -implicitDefEqProofs only [push_cast, List.mem_append, List.mem_cons, List.mem_singleton, forall_eq_or_imp, forall_eq, ↓trAdd_f, ↓stOf_f, Nat.reduceBEq, Int.reduceBEq, Int.reduceBNe, Int.reduceNeg, Int.reduceAdd, Int.reduceSub, Int.reduceLT, Int.reduceLE, Int.reduceMul, Nat.reducePow, Int.reducePow, Nat.reduceAdd, Nat.reduceEqDiff, Nat.reduceLT, Nat.reduceLeDiff, Nat.reduceMul, Nat.reduceSub, reduceCtorEq, ↓reduceIte]
      exact rfl
    simp only [encStream]
    simp -dsimp -implicitDefEqProofs only [push_cast, ↓trAdd_f, ↓stOf_f, Nat.reduceBEq, Int.reduceBEq, Int.reduceBNe, Int.reduceNeg, Int.reduceAdd, Int.reduceSub, Int.reduceLT, Int.reduceLE, Int.reduceMul, Nat.reducePow, Int.reducePow, Nat.reduceAdd, Nat.reduceEqDiff, Nat.reduceLT, Nat.reduceLeDiff, Nat.reduceMul, Nat.reduceSub, reduceCtorEq, ↓reduceIte]
    have hu3 : IntKind.i64.wrap (l[n].jitter + w') = l[n].jitter + w' := wrap_i64 (by omega) (by omega)
    have hu4 : IntKind.i64.wrap ((q : Int) * l[n].period) = q * l[n].period := wrap_i64 (by omega) (by omega)
    have hu5 : IntKind.i64.wrap (l[n].jitter + w' - q * l[n].period) = l[n].jitter + w' - q * l[n].period := wrap_i64 (by omega) (by omega)
    have hu6 : IntKind.i64.wrap (l[n].jitter + w' - q * l[n].period + l[n].bits) = l[n].jitter + w' - q * l[n].period + l[n].bits := wrap_i64 (by omega) (by omega)
    try refine hK _ ?_
    repeat (first | refine awp_seq ?_ | refine awp_block ?_ | refine awp_skip ?_ | refine awp_scope ?_ | refine awp_label ?_)
    refine awp_region tabOk fun K hK => ?_
    simp -dsimp -implicitDefEqProofs only [hu3, hu4, hu5, hu6, push_cast, ↓trAdd_f, ↓stOf_f, Nat.reduceBEq, Int.reduceBEq, Int.reduceBNe, Int.reduceNeg, Int.reduceAdd, Int.reduceSub, Int.reduceLT, Int.reduceLE, Int.reduceMul, Nat.reducePow, Int.reducePow, Nat.reduceAdd, Nat.reduceEqDiff, Nat.reduceLT, Nat.reduceLeDiff, Nat.reduceMul, Nat.reduceSub, reduceCtorEq, ↓reduceIte]
    try refine hK _ ?_
    repeat (first | refine awp_seq ?_ | refine awp_block ?_ | refine awp_skip ?_ | refine awp_scope ?_ | refine awp_label ?_)
    refine awp_region tabOk fun K hK => ?_
    simp -dsimp -implicitDefEqProofs only [push_cast, ↓trAdd_f, ↓stOf_f, Nat.reduceBEq, Int.reduceBEq, Int.reduceBNe, Int.reduceNeg, Int.reduceAdd, Int.reduceSub, Int.reduceLT, Int.reduceLE, Int.reduceMul, Nat.reducePow, Int.reducePow, Nat.reduceAdd, Nat.reduceEqDiff, Nat.reduceLT, Nat.reduceLeDiff, Nat.reduceMul, Nat.reduceSub, reduceCtorEq, ↓reduceIte]
    try simp (disch := omega) only [wrap_i64, wrap_u8, wrap_u16, wrap_u32]
    refine hK _ ⟨q + 1, hqQ, by omega, ?_⟩
    rw [hnext]
    refine le_intro hB [] (by simp) (fun b _ => rfl) rfl ?_ ?_ rfl <;> simp -dsimp -implicitDefEqProofs only [encStream, push_cast, ↓trAdd_f, ↓stOf_f, Nat.reduceBEq, Int.reduceBEq, Int.reduceBNe, Int.reduceNeg, Int.reduceAdd, Int.reduceSub, Int.reduceLT, Int.reduceLE, Int.reduceMul, Nat.reducePow, Int.reducePow, Nat.reduceAdd, Nat.reduceEqDiff, Nat.reduceLT, Nat.reduceLeDiff, Nat.reduceMul, Nat.reduceSub, reduceCtorEq, ↓reduceIte]
  · have he : q = Q := by simp at h; omega
    subst he
    refine awp_exit rfl ?_
    try refine hK _ ?_
    repeat (first | refine awp_seq ?_ | refine awp_block ?_ | refine awp_skip ?_ | refine awp_scope ?_ | refine awp_label ?_)
    refine awp_region tabOk fun K hK => ?_
    simp -dsimp -implicitDefEqProofs only [push_cast, ↓trAdd_f, ↓stOf_f, Nat.reduceBEq, Int.reduceBEq, Int.reduceBNe, Int.reduceNeg, Int.reduceAdd, Int.reduceSub, Int.reduceLT, Int.reduceLE, Int.reduceMul, Nat.reducePow, Int.reducePow, Nat.reduceAdd, Nat.reduceEqDiff, Nat.reduceLT, Nat.reduceLeDiff, Nat.reduceMul, Nat.reduceSub, reduceCtorEq, ↓reduceIte]
    refine hK _ (awp_ret ?_)
    simp -dsimp -implicitDefEqProofs only [hbp, push_cast, List.mem_append, List.mem_cons, List.mem_singleton, forall_eq_or_imp, forall_eq, ↓trAdd_f, ↓stOf_f, Nat.reduceBEq, Int.reduceBEq, Int.reduceBNe, Int.reduceNeg, Int.reduceAdd, Int.reduceSub, Int.reduceLT, Int.reduceLE, Int.reduceMul, Nat.reducePow, Int.reducePow, Nat.reduceAdd, Nat.reduceEqDiff, Nat.reduceLT, Nat.reduceLeDiff, Nat.reduceMul, Nat.reduceSub, reduceCtorEq, ↓reduceIte]
end Go.Proofs.YtahkpghgjjlgdaaFw
