import Derived.Test.YtahkpghgjjlgdaaJ2
import Derived.Test.YtahkpghgjjlgdaaJ4
/-
  The walk of resp.Play, of 1, 3 streams.
-/
namespace Go.Proofs.YtahkpghgjjlgdaaFw
open Go Go.Proofs
set_option maxRecDepth 100000
set_option maxHeartbeats 16000000
set_option linter.unusedVariables false
set_option linter.unusedSimpArgs false

def pl1O (y0 : QS) : Nat → AS
  | 0 => { sl := [(12, .sl true 1 []), (77, .own 150 1 0 1), (78, .int .i64 1), (79, .int .i64 0)], st := [(100, .box (encQ y0)), (150, .row 1 [[.ptr 100 0]])], nx := 400, n := 92 }
  | _ => { sl := [(12, .own 170 1 0 1), (77, .own 150 1 0 1), (78, .int .i64 1), (79, .int .i64 1)], st := [(100, .box (encQ y0)), (150, .row 1 [[.ptr 100 0]]), (170, .row 1 [[.int .i64 y0.late]])], nx := 400, n := 92 }
def pl1S (u0 : Stream) (b0 until_ : Int) : Nat → AS
  | 0 => { sl := [(0, .sl false 3 ([u0].map encStream)), (1, .sl false 1 ([b0].map encI)), (2, .int .i64 until_), (7, .sl true 1 []), (30, .sl false 3 ([u0].map encStream)), (31, .int .i64 1), (32, .int .i64 0)], st := [], nx := 200, n := 92 }
  | _ => { sl := [(0, .sl false 3 ([u0].map encStream)), (1, .sl false 1 ([b0].map encI)), (2, .int .i64 until_), (7, .own 150 1 0 1), (30, .sl false 3 ([u0].map encStream)), (31, .int .i64 1), (32, .int .i64 1)], st := [(100, .box [.int .i64 u0.bits, .int .i64 u0.period, .int .i64 u0.jitter, .int .i64 0, .int .i64 b0, .int .i64 b0, .int .i64 0]), (150, .row 1 [[.ptr 100 0]])], nx := 200, n := 92 }
theorem play1_ok (u0 : Stream) (b0 until_ : Int) (hr : rightS [u0] = true) (hu0 : 0 ≤ until_) (hu1 : until_ ≤ 1000000) :
    FnS Try.prog 18 [.sl false 3 ([u0].map encStream), .sl false 1 ([b0].map encI), .int .i64 until_] [] (.sl false 1 ((playZ [u0] [b0] until_).map encI)) [] := by
  obtain ⟨hs, hl1, hl16⟩ := right_ok_s hr
  refine fn_raw tabOk Try.func18 rfl (by decide +kernel) Try.ntmps18 Try.results18 (by simp) fun B hB hds => ?_
  refine raw_seq (N' := fun s1 => s1.le B { sl := [(0, .sl false 3 ([u0].map encStream)), (1, .sl false 1 ([b0].map encI)), (2, .int .i64 until_)], st := [], nx := 0, n := 92 }) ?_ (fun s1 hle a w hs1 => ?_)
  · try refine hK _ ?_
    repeat (first | refine awp_seq ?_ | refine awp_block ?_ | refine awp_skip ?_ | refine awp_scope ?_ | refine awp_label ?_)
    refine awp_region tabOk fun K hK => ?_
    simp -dsimp -implicitDefEqProofs only [push_cast, ↓trAdd_f, ↓stOf_f, seval]
    refine hK _ ?_
    refine le_intro hB [] (by simp) (fun b _ => rfl) rfl ?_ ?_ rfl <;> simp -dsimp -implicitDefEqProofs only [push_cast, ↓trAdd_f, ↓stOf_f, seval]
  refine raw_seq (s := { sl := [(0, .sl false 3 ([u0].map encStream)), (1, .sl false 1 ([b0].map encI)), (2, .int .i64 until_)], st := [], nx := 0, n := 92 }) (N' := fun s1 => s1.le B { sl := [(0, .sl false 3 ([u0].map encStream)), (1, .sl false 1 ([b0].map encI)), (2, .int .i64 until_)], st := [], nx := 0, n := 92 }) ?_ (fun s1 hle a w hs1 => ?_) a w (hle a w hs1)
  · have hu0' : decide (0 ≤ until_) = true := by simpa using hu0
    have hu1' : decide (until_ ≤ 1000000) = true := by simpa using hu1
    try refine hK _ ?_
    repeat (first | refine awp_seq ?_ | refine awp_block ?_ | refine awp_skip ?_ | refine awp_scope ?_ | refine awp_label ?_)
    refine awp_region tabOk fun K hK => ?_
    simp -dsimp -implicitDefEqProofs only [push_cast, ↓trAdd_f, ↓stOf_f, seval]
    refine callK_simple (rRight_ok false [u0] (by simp)) ?_ rfl fun _ => ?_
    · simp -dsimp -implicitDefEqProofs only [push_cast, List.mem_append, List.mem_cons, List.mem_singleton, forall_eq_or_imp, forall_eq, ↓trAdd_f, ↓stOf_f, seval]
    rw [hr]
    simp -dsimp -implicitDefEqProofs only [push_cast, ↓trAdd_f, ↓stOf_f, seval]
    refine callK_simple (within_ok until_ 0 1000000) ?_ rfl fun _ => ?_
    · simp -dsimp -implicitDefEqProofs only [push_cast, List.mem_append, List.mem_cons, List.mem_singleton, forall_eq_or_imp, forall_eq, ↓trAdd_f, ↓stOf_f, seval]
    simp -dsimp -implicitDefEqProofs only [hu0', hu1', push_cast, ↓trAdd_f, ↓stOf_f, seval]
    try refine hK _ ?_
    repeat (first | refine awp_seq ?_ | refine awp_block ?_ | refine awp_skip ?_ | refine awp_scope ?_ | refine awp_label ?_)
    refine awp_cond (b := false) (by simp -dsimp -implicitDefEqProofs only [push_cast, ↓trAdd_f, ↓stOf_f, seval]) (fun h => ?_) (fun h => ?_)
    · simp at h
    refine awp_skip ?_
    refine le_intro hB [] (by simp) (fun b _ => rfl) rfl ?_ ?_ rfl <;> simp -dsimp -implicitDefEqProofs only [push_cast, ↓trAdd_f, ↓stOf_f, seval]
  refine raw_seq (s := { sl := [(0, .sl false 3 ([u0].map encStream)), (1, .sl false 1 ([b0].map encI)), (2, .int .i64 until_)], st := [], nx := 0, n := 92 }) (N' := fun s1 => s1.le B { sl := [(0, .sl false 3 ([u0].map encStream)), (1, .sl false 1 ([b0].map encI)), (2, .int .i64 until_), (7, .sl true 1 [])], st := [], nx := 0, n := 92 }) ?_ (fun s1 hle a w hs1 => ?_) a w (hle a w hs1)
  · try refine hK _ ?_
    repeat (first | refine awp_seq ?_ | refine awp_block ?_ | refine awp_skip ?_ | refine awp_scope ?_ | refine awp_label ?_)
    refine awp_region tabOk fun K hK => ?_
    simp -dsimp -implicitDefEqProofs only [push_cast, ↓trAdd_f, ↓stOf_f, seval]
    refine hK _ ?_
    refine le_intro hB [] (by simp) (fun b _ => rfl) rfl ?_ ?_ rfl <;> simp -dsimp -implicitDefEqProofs only [push_cast, ↓trAdd_f, ↓stOf_f, seval]
  refine raw_seq (s := { sl := [(0, .sl false 3 ([u0].map encStream)), (1, .sl false 1 ([b0].map encI)), (2, .int .i64 until_), (7, .sl true 1 [])], st := [], nx := 0, n := 92 }) (N' := fun s1 => (∀ b ∈ ([b0] : List Int), 0 ≤ b ∧ b ≤ 1000000) ∧ s1.le B { sl := [(0, .sl false 3 ([u0].map encStream)), (1, .sl false 1 ([b0].map encI)), (2, .int .i64 until_), (7, .own 150 1 0 1)], st := [(100, .box [.int .i64 u0.bits, .int .i64 u0.period, .int .i64 u0.jitter, .int .i64 0, .int .i64 b0, .int .i64 b0, .int .i64 0]), (150, .row 1 [[.ptr 100 0]])], nx := 200, n := 92 }) ?_ (fun s1 hle a w hs1 => ?_) a w (hle a w hs1)
  · try refine hK _ ?_
    repeat (first | refine awp_seq ?_ | refine awp_block ?_ | refine awp_skip ?_ | refine awp_scope ?_ | refine awp_label ?_)
    refine awp_region tabOk fun K hK => ?_
    simp -dsimp -implicitDefEqProofs only [push_cast, ↓trAdd_f, ↓stOf_f, seval]
    refine hK _ (awp_block ?_)
    refine awp_for (fun k : Nat => pl1S u0 b0 until_ k) (fun k => k ≤ 1 ∧ ∀ b ∈ ([b0] : List Int).take k, 0 ≤ b ∧ b ≤ 1000000) (fun k => 1 - k) 0 ⟨Nat.zero_le _, by simp⟩ ?_ fun k hk => ?_
    · simp only [pl1S]
      refine le_intro hB [] (by simp) (fun b _ => rfl) rfl ?_ ?_ rfl <;> simp -dsimp -implicitDefEqProofs only [push_cast, ↓trAdd_f, ↓stOf_f, seval]
    obtain ⟨hk, hbs⟩ := hk
    have : k = 0 ∨ k = 1 := by omega
    rcases this with rfl | rfl
    · simp only [pl1S]
      try refine hK _ ?_
      repeat (first | refine awp_seq ?_ | refine awp_block ?_ | refine awp_skip ?_ | refine awp_scope ?_ | refine awp_label ?_)
      refine awp_region tabOk fun K hK => ?_
      simp -dsimp -implicitDefEqProofs only [push_cast, ↓trAdd_f, ↓stOf_f, seval]
      try refine hK _ ?_
      repeat (first | refine awp_seq ?_ | refine awp_block ?_ | refine awp_skip ?_ | refine awp_scope ?_ | refine awp_label ?_)
      refine awp_cond (b := true) (by simp -dsimp -implicitDefEqProofs only [push_cast, ↓trAdd_f, ↓stOf_f, seval]) (fun h => ?_) (fun h => ?_)
      · try refine hK _ ?_
        repeat (first | refine awp_seq ?_ | refine awp_block ?_ | refine awp_skip ?_ | refine awp_scope ?_ | refine awp_label ?_)
        refine awp_region tabOk fun K hK => ?_
        simp -dsimp -implicitDefEqProofs only [tn1, tn2, tn3, tn4, encStream, push_cast, ↓trAdd_f, ↓stOf_f, seval]
        cases hb : decide (0 ≤ b0) && decide (b0 ≤ 1000000) with
        | false =>
          have e : playZ [u0] [b0] until_ = [] := by
            unfold playZ
            rw [if_neg]
            rintro ⟨_, _, _, _, h5⟩
            have := h5 b0 (by simp)
            simp at hb; omega
          try refine hK _ ?_
          repeat (first | refine awp_seq ?_ | refine awp_block ?_ | refine awp_skip ?_ | refine awp_scope ?_ | refine awp_label ?_)
          refine awp_region tabOk fun K hK => ?_
          simp -dsimp -implicitDefEqProofs only [tn1, tn2, tn3, tn4, encI, push_cast, ↓trAdd_f, ↓stOf_f, seval]
          refine callK_simple (within_ok b0 0 1000000) ?_ rfl fun _ => ?_
          · simp -dsimp -implicitDefEqProofs only [push_cast, List.mem_append, List.mem_cons, List.mem_singleton, forall_eq_or_imp, forall_eq, ↓trAdd_f, ↓stOf_f, seval]
          rw [hb]
          simp -dsimp -implicitDefEqProofs only [push_cast, ↓trAdd_f, ↓stOf_f, seval]
          try refine hK _ ?_
          repeat (first | refine awp_seq ?_ | refine awp_block ?_ | refine awp_skip ?_ | refine awp_scope ?_ | refine awp_label ?_)
          refine awp_cond (b := true) (by simp -dsimp -implicitDefEqProofs only [push_cast, ↓trAdd_f, ↓stOf_f, seval]) (fun h => ?_) (fun h => ?_)
          · try refine hK _ ?_
            repeat (first | refine awp_seq ?_ | refine awp_block ?_ | refine awp_skip ?_ | refine awp_scope ?_ | refine awp_label ?_)
            refine awp_region tabOk fun K hK => ?_
            simp -dsimp -implicitDefEqProofs only [push_cast, ↓trAdd_f, ↓stOf_f, seval]
            refine hK _ (awp_ret ?_)
            rw [e]
            simp -dsimp -implicitDefEqProofs only [push_cast, List.mem_append, List.mem_cons, List.mem_singleton, forall_eq_or_imp, forall_eq, ↓trAdd_f, ↓stOf_f, seval]
          · simp at h
        | true =>
          have hbk : 0 ≤ b0 ∧ b0 ≤ 1000000 := by simpa using hb
          try refine hK _ ?_
          repeat (first | refine awp_seq ?_ | refine awp_block ?_ | refine awp_skip ?_ | refine awp_scope ?_ | refine awp_label ?_)
          refine awp_region tabOk fun K hK => ?_
          simp -dsimp -implicitDefEqProofs only [tn1, tn2, tn3, tn4, encI, push_cast, ↓trAdd_f, ↓stOf_f, seval]
          refine callK_simple (within_ok b0 0 1000000) ?_ rfl fun _ => ?_
          · simp -dsimp -implicitDefEqProofs only [push_cast, List.mem_append, List.mem_cons, List.mem_singleton, forall_eq_or_imp, forall_eq, ↓trAdd_f, ↓stOf_f, seval]
          rw [hb]
          simp -dsimp -implicitDefEqProofs only [push_cast, ↓trAdd_f, ↓stOf_f, seval]
          try refine hK _ ?_
          repeat (first | refine awp_seq ?_ | refine awp_block ?_ | refine awp_skip ?_ | refine awp_scope ?_ | refine awp_label ?_)
          refine awp_cond (b := false) (by simp -dsimp -implicitDefEqProofs only [push_cast, ↓trAdd_f, ↓stOf_f, seval]) (fun h => ?_) (fun h => ?_)
          · simp at h
          clear h
          refine awp_skip ?_
          try refine hK _ ?_
          repeat (first | refine awp_seq ?_ | refine awp_block ?_ | refine awp_skip ?_ | refine awp_scope ?_ | refine awp_label ?_)
          refine awp_draw tabOk (by kernel_rfl) (by kernel_rfl) fun K hK C hC => ?_
          simp -dsimp -implicitDefEqProofs only [tn1, tn2, tn3, tn4, encI, encStream, push_cast, ↓trAdd_f, ↓stOf_f, seval]
          refine ⟨hC _ (by kernel_rfl), ?_⟩
          clear hC C
          try refine hK _ ?_
          repeat (first | refine awp_seq ?_ | refine awp_block ?_ | refine awp_skip ?_ | refine awp_scope ?_ | refine awp_label ?_)
          refine awp_region tabOk fun K hK => ?_
          simp -dsimp -implicitDefEqProofs only [push_cast, ↓trAdd_f, ↓stOf_f, seval]
          try simp (disch := omega) only [wrap_i64, wrap_u8, wrap_u16, wrap_u32]
          refine hK _ ⟨1, ⟨by decide, ?_⟩, by decide, ?_⟩
          · intro b hb
            rcases List.mem_append.1 (show b ∈ ([b0] : List Int).take 0 ++ [b0] from hb) with hb | hb
            · exact hbs b hb
            · simp at hb; subst hb; exact hbk
          simp only [pl1S]
          refine le_intro hB [(100, 392), (150, 408)] (by simp) (fun b hb => absurd hb (Nat.not_lt_zero b)) rfl ?_ ?_ rfl <;> simp -dsimp -implicitDefEqProofs only [encStream, encI, push_cast, ↓trAdd_f, ↓stOf_f, seval]
      · simp at h
    · simp only [pl1S]
      try refine hK _ ?_
      repeat (first | refine awp_seq ?_ | refine awp_block ?_ | refine awp_skip ?_ | refine awp_scope ?_ | refine awp_label ?_)
      refine awp_region tabOk fun K hK => ?_
      simp -dsimp -implicitDefEqProofs only [push_cast, ↓trAdd_f, ↓stOf_f, seval]
      try refine hK _ ?_
      repeat (first | refine awp_seq ?_ | refine awp_block ?_ | refine awp_skip ?_ | refine awp_scope ?_ | refine awp_label ?_)
      refine awp_cond (b := false) (by simp -dsimp -implicitDefEqProofs only [push_cast, ↓trAdd_f, ↓stOf_f, seval]) (fun h => ?_) (fun h => ?_)
      · simp at h
      refine awp_exit rfl ⟨hbs, ?_⟩
      refine le_intro hB [] (by simp) (fun b _ => rfl) rfl ?_ ?_ rfl <;> simp -dsimp -implicitDefEqProofs only [push_cast, ↓trAdd_f, ↓stOf_f, seval]
  obtain ⟨hball, hle⟩ := hle
  have p : PlayOk [u0] [b0] until_ := ⟨hs, hl16, hball, rfl, hu0, hu1⟩
  have hz : playZ [u0] [b0] until_ = (playN until_ fuel0 0 [{ s := u0, b := b0, q := 0, late := 0 }]).map (·.late) := playZ_ok hr p
  have hX : PInv [u0] [b0] until_ fuel0 0 [{ s := u0, b := b0, q := 0, late := 0 }] := pinv_first p
  have hsent := fun lp rec hY => sentf1_ok p rfl lp rec hY ({ s := u0, b := b0, q := 0, late := 0 }) hX
  have hYl : (playN until_ fuel0 0 [{ s := u0, b := b0, q := 0, late := 0 }]).length = 1 := by rw [playN_len]; rfl
  rw [hz]
  generalize playN until_ fuel0 0 [{ s := u0, b := b0, q := 0, late := 0 }] = Y at *
  obtain ⟨y0, rfl⟩ : ∃ y0, Y = [y0] := by
    match Y, hYl with
    | [y0], _ => exact ⟨y0, rfl⟩
  refine raw_seq2 (s := { sl := [(0, .sl false 3 ([u0].map encStream)), (1, .sl false 1 ([b0].map encI)), (2, .int .i64 until_), (7, .own 150 1 0 1)], st := [(100, .box [.int .i64 u0.bits, .int .i64 u0.period, .int .i64 u0.jitter, .int .i64 0, .int .i64 b0, .int .i64 b0, .int .i64 0]), (150, .row 1 [[.ptr 100 0]])], nx := 200, n := 92 }) (N' := fun s1 => s1.le B { sl := [(60, .fn (.func 32) [] [.ptr 160 0, .ptr 161 0]), (7, .own 150 1 0 1)], st := [(100, .box [.int .i64 u0.bits, .int .i64 u0.period, .int .i64 u0.jitter, .int .i64 0, .int .i64 b0, .int .i64 b0, .int .i64 0]), (150, .row 1 [[.ptr 100 0]]), (160, .box [.own 150 1 0 1]), (161, .box [.int .i64 until_])], nx := 208, n := 92 }) ?_ (fun s1 hle a w hs1 => ?_) a w (hle a w hs1)
  · try refine hK _ ?_
    repeat (first | refine awp_seq ?_ | refine awp_block ?_ | refine awp_skip ?_ | refine awp_scope ?_ | refine awp_label ?_)
    refine awp_region tabOk fun K hK => ?_
    simp -dsimp -implicitDefEqProofs only [push_cast, ↓trAdd_f, ↓stOf_f, seval]
    refine ⟨29, [], [], { args := [.own 1 1 0 1, .int .i64 until_], st0 := [(0, .box (encQ { s := u0, b := b0, q := 0, late := 0 })), (1, .row 1 [[.ptr 0 0]])], res := .fn (.func 32) [] [.ptr 2 0, .ptr 3 0], st1 := [(0, .box (encQ { s := u0, b := b0, q := 0, late := 0 })), (1, .row 1 [[.ptr 0 0]]), (2, .box [.own 1 1 0 1]), (3, .box [.int .i64 until_])], r := [100, 150] }, rfl, sent1_ok ({ s := u0, b := b0, q := 0, late := 0 }) until_, ?_, ?_⟩
    · simp only [encQ, due0, wts0, Int.natCast_zero]
      simp -dsimp -implicitDefEqProofs only [push_cast, List.mem_append, List.mem_cons, List.mem_singleton, forall_eq_or_imp, forall_eq, ↓trAdd_f, ↓stOf_f, seval]
      all_goals exact rfl
    simp only [encQ, due0, wts0, Int.natCast_zero]
    simp -dsimp -implicitDefEqProofs only [push_cast, ↓trAdd_f, ↓stOf_f, seval]
    refine hK _ ?_
    refine le_intro hB [(160, 216), (161, 217)] (by simp) (fun b hb => absurd hb (Nat.not_lt_zero b)) rfl ?_ ?_ rfl <;> simp -dsimp -implicitDefEqProofs only [push_cast, ↓trAdd_f, ↓stOf_f, seval]
  refine range_wp (ι := YI) (co := coY) (x0 := fun _ => .ptr 0 0) (x1 := fun i => .int .i64 i.1.2) (cg := fun lp => { args := [.fn (.yield lp) [] [], .ptr 2 0, .ptr 3 0], st0 := [(0, .box (encQ { s := u0, b := b0, q := 0, late := 0 })), (1, .row 1 [[.ptr 0 0]]), (2, .box [.own 1 1 0 1]), (3, .box [.int .i64 until_])], res := .tup [], st1 := [(0, .box (encQ y0)), (1, .row 1 [[.ptr 0 0]]), (2, .box [.own 1 1 0 1]), (3, .box [.int .i64 until_])], r := [100, 150, 160, 161] }) (s := { sl := [(60, .fn (.func 32) [] [.ptr 160 0, .ptr 161 0]), (7, .own 150 1 0 1)], st := [(100, .box [.int .i64 u0.bits, .int .i64 u0.period, .int .i64 u0.jitter, .int .i64 0, .int .i64 b0, .int .i64 b0, .int .i64 0]), (150, .row 1 [[.ptr 100 0]]), (160, .box [.own 150 1 0 1]), (161, .box [.int .i64 until_])], nx := 208, n := 92 }) (n0 := 0) (cap := [.ptr 160 0, .ptr 161 0]) (gf := 32) hB hds rfl (by decide) (by show 61 < 92; decide) (by show 62 < 92; decide) (fun i => ⟨rfl, rfl⟩) (fun l i B hB => ?_) (fun lp rec hY => hsent lp rec hY) (fun lp => ?_) (fun lp B hB => ?_) a w (hle a w hs1)
  · obtain ⟨⟨x, e⟩, hx, he0, he1⟩ := i
    have hdd : 0 ≤ x.due ∧ x.due ≤ 11000000000000 := hx.due
    have he0' : 0 ≤ e := he0
    have he1' : e ≤ 50000000000 := he1
    have hw : IntKind.i64.wrap (e - x.due) = e - x.due := wrap_i64 (by omega) (by omega)
    simp only [coY, roundS, encQ, encQL] at *
    refine awpR_seq (awpR_region tabOk rfl fun K hK => ?_)
    simp -dsimp -implicitDefEqProofs only [push_cast, ↓trAdd_f, ↓stOf_f, seval]
    refine hK _ (awpR_region tabOk rfl fun K hK => ?_)
    simp -dsimp -implicitDefEqProofs only [push_cast, ↓trAdd_f, ↓stOf_f, seval]
    refine hK _ (fun B1 hB1 => awpR_block (awpR_draw tabOk (by kernel_rfl) rfl (by kernel_rfl) fun K hK C hC => ?_))
    simp -dsimp -implicitDefEqProofs only [hw, push_cast, ↓trAdd_f, ↓stOf_f, seval]
    refine ⟨hC _ (by kernel_rfl), hK _ ?_⟩
    simp -dsimp -implicitDefEqProofs only [push_cast, List.mem_append, List.mem_cons, List.mem_singleton, forall_eq_or_imp, forall_eq, ↓trAdd_f, ↓stOf_f, seval]
  · simp only [encQ, due0, wts0, Int.natCast_zero]
    simp -dsimp -implicitDefEqProofs only [push_cast, List.mem_append, List.mem_cons, List.mem_singleton, forall_eq_or_imp, forall_eq, ↓trAdd_f, ↓stOf_f, seval]
    all_goals exact rfl
  · simp only [encQ, due0, wts0, Int.natCast_zero]
    simp -dsimp -implicitDefEqProofs only [push_cast, ↓trAdd_f, ↓stOf_f, seval]
    try refine hK _ ?_
    repeat (first | refine awp_seq ?_ | refine awp_block ?_ | refine awp_skip ?_ | refine awp_scope ?_ | refine awp_label ?_)
    refine awp_region tabOk fun K hK => ?_
    simp -dsimp -implicitDefEqProofs only [push_cast, ↓trAdd_f, ↓stOf_f, seval]
    try refine hK _ ?_
    repeat (first | refine awp_seq ?_ | refine awp_block ?_ | refine awp_skip ?_ | refine awp_scope ?_ | refine awp_label ?_)
    refine awp_region tabOk fun K hK => ?_
    simp -dsimp -implicitDefEqProofs only [push_cast, ↓trAdd_f, ↓stOf_f, seval]
    refine hK _ (awp_block ?_)
    refine awp_for (fun k : Nat => pl1O y0 k) (fun k => k ≤ 1) (fun k => 1 - k) 0 (Nat.zero_le _) ?_ fun k hk => ?_
    · simp only [pl1O, encQ]
      refine le_intro hB [] (by simp) (fun b _ => rfl) rfl ?_ ?_ rfl <;> simp -dsimp -implicitDefEqProofs only [push_cast, ↓trAdd_f, ↓stOf_f, seval]
    have : k = 0 ∨ k = 1 := by omega
    rcases this with rfl | rfl
    · simp only [pl1O, encQ]
      try refine hK _ ?_
      repeat (first | refine awp_seq ?_ | refine awp_block ?_ | refine awp_skip ?_ | refine awp_scope ?_ | refine awp_label ?_)
      refine awp_region tabOk fun K hK => ?_
      simp -dsimp -implicitDefEqProofs only [push_cast, ↓trAdd_f, ↓stOf_f, seval]
      try refine hK _ ?_
      repeat (first | refine awp_seq ?_ | refine awp_block ?_ | refine awp_skip ?_ | refine awp_scope ?_ | refine awp_label ?_)
      refine awp_cond (b := true) (by simp -dsimp -implicitDefEqProofs only [push_cast, ↓trAdd_f, ↓stOf_f, seval]) (fun h => ?_) (fun h => ?_)
      · try refine hK _ ?_
        repeat (first | refine awp_seq ?_ | refine awp_block ?_ | refine awp_skip ?_ | refine awp_scope ?_ | refine awp_label ?_)
        refine awp_region tabOk fun K hK => ?_
        simp -dsimp -implicitDefEqProofs only [tn1, tn2, tn3, tn4, push_cast, ↓trAdd_f, ↓stOf_f, seval]
        try refine hK _ ?_
        repeat (first | refine awp_seq ?_ | refine awp_block ?_ | refine awp_skip ?_ | refine awp_scope ?_ | refine awp_label ?_)
        refine awp_region tabOk fun K hK => ?_
        simp -dsimp -implicitDefEqProofs only [push_cast, ↓trAdd_f, ↓stOf_f, seval]
        try refine hK _ ?_
        repeat (first | refine awp_seq ?_ | refine awp_block ?_ | refine awp_skip ?_ | refine awp_scope ?_ | refine awp_label ?_)
        refine awp_region tabOk fun K hK => ?_
        simp -dsimp -implicitDefEqProofs only [push_cast, ↓trAdd_f, ↓stOf_f, seval]
        try simp (disch := omega) only [wrap_i64, wrap_u8, wrap_u16, wrap_u32]
        refine hK _ ⟨1, by decide, by decide, ?_⟩
        simp only [pl1O, encQ]
        refine le_intro hB [(170, 480)] (by simp) (fun b hb => absurd hb (Nat.not_lt_zero b)) rfl ?_ ?_ rfl <;> simp -dsimp -implicitDefEqProofs only [push_cast, ↓trAdd_f, ↓stOf_f, seval]
      · simp at h
    · simp only [pl1O, encQ]
      try refine hK _ ?_
      repeat (first | refine awp_seq ?_ | refine awp_block ?_ | refine awp_skip ?_ | refine awp_scope ?_ | refine awp_label ?_)
      refine awp_region tabOk fun K hK => ?_
      simp -dsimp -implicitDefEqProofs only [push_cast, ↓trAdd_f, ↓stOf_f, seval]
      try refine hK _ ?_
      repeat (first | refine awp_seq ?_ | refine awp_block ?_ | refine awp_skip ?_ | refine awp_scope ?_ | refine awp_label ?_)
      refine awp_cond (b := false) (by simp -dsimp -implicitDefEqProofs only [push_cast, ↓trAdd_f, ↓stOf_f, seval]) (fun h => ?_) (fun h => ?_)
      · simp at h
      refine awp_exit rfl ?_
      try refine hK _ ?_
      repeat (first | refine awp_seq ?_ | refine awp_block ?_ | refine awp_skip ?_ | refine awp_scope ?_ | refine awp_label ?_)
      refine awp_region tabOk fun K hK => ?_
      simp -dsimp -implicitDefEqProofs only [push_cast, ↓trAdd_f, ↓stOf_f, seval]
      refine hK _ (awp_ret ?_)
      simp -dsimp -implicitDefEqProofs only [encI, push_cast, List.mem_append, List.mem_cons, List.mem_singleton, forall_eq_or_imp, forall_eq, ↓trAdd_f, ↓stOf_f, seval]



def pl3O (y0 y1 y2 : QS) : Nat → AS
  | 0 => { sl := [(12, .sl true 1 []), (77, .own 150 1 0 3), (78, .int .i64 3), (79, .int .i64 0)], st := [(100, .box (encQ y0)), (101, .box (encQ y1)), (102, .box (encQ y2)), (150, .row 1 [[.ptr 100 0], [.ptr 101 0], [.ptr 102 0]])], nx := 400, n := 92 }
  | 1 => { sl := [(12, .own 170 1 0 1), (77, .own 150 1 0 3), (78, .int .i64 3), (79, .int .i64 1)], st := [(100, .box (encQ y0)), (101, .box (encQ y1)), (102, .box (encQ y2)), (150, .row 1 [[.ptr 100 0], [.ptr 101 0], [.ptr 102 0]]), (170, .row 1 [[.int .i64 y0.late]])], nx := 400, n := 92 }
  | 2 => { sl := [(12, .own 170 1 0 2), (77, .own 150 1 0 3), (78, .int .i64 3), (79, .int .i64 2)], st := [(100, .box (encQ y0)), (101, .box (encQ y1)), (102, .box (encQ y2)), (150, .row 1 [[.ptr 100 0], [.ptr 101 0], [.ptr 102 0]]), (170, .row 1 [[.int .i64 y0.late], [.int .i64 y1.late]])], nx := 400, n := 92 }
  | _ => { sl := [(12, .own 170 1 0 3), (77, .own 150 1 0 3), (78, .int .i64 3), (79, .int .i64 3)], st := [(100, .box (encQ y0)), (101, .box (encQ y1)), (102, .box (encQ y2)), (150, .row 1 [[.ptr 100 0], [.ptr 101 0], [.ptr 102 0]]), (170, .row 1 [[.int .i64 y0.late], [.int .i64 y1.late], [.int .i64 y2.late]])], nx := 400, n := 92 }
def pl3S (u0 u1 u2 : Stream) (b0 b1 b2 until_ : Int) : Nat → AS
  | 0 => { sl := [(0, .sl false 3 ([u0, u1, u2].map encStream)), (1, .sl false 1 ([b0, b1, b2].map encI)), (2, .int .i64 until_), (7, .sl true 1 []), (30, .sl false 3 ([u0, u1, u2].map encStream)), (31, .int .i64 3), (32, .int .i64 0)], st := [], nx := 200, n := 92 }
  | 1 => { sl := [(0, .sl false 3 ([u0, u1, u2].map encStream)), (1, .sl false 1 ([b0, b1, b2].map encI)), (2, .int .i64 until_), (7, .own 150 1 0 1), (30, .sl false 3 ([u0, u1, u2].map encStream)), (31, .int .i64 3), (32, .int .i64 1)], st := [(100, .box [.int .i64 u0.bits, .int .i64 u0.period, .int .i64 u0.jitter, .int .i64 0, .int .i64 b0, .int .i64 b0, .int .i64 0]), (150, .row 1 [[.ptr 100 0]])], nx := 200, n := 92 }
  | 2 => { sl := [(0, .sl false 3 ([u0, u1, u2].map encStream)), (1, .sl false 1 ([b0, b1, b2].map encI)), (2, .int .i64 until_), (7, .own 150 1 0 2), (30, .sl false 3 ([u0, u1, u2].map encStream)), (31, .int .i64 3), (32, .int .i64 2)], st := [(100, .box [.int .i64 u0.bits, .int .i64 u0.period, .int .i64 u0.jitter, .int .i64 0, .int .i64 b0, .int .i64 b0, .int .i64 0]), (101, .box [.int .i64 u1.bits, .int .i64 u1.period, .int .i64 u1.jitter, .int .i64 0, .int .i64 b1, .int .i64 b1, .int .i64 0]), (150, .row 1 [[.ptr 100 0], [.ptr 101 0]])], nx := 200, n := 92 }
  | _ => { sl := [(0, .sl false 3 ([u0, u1, u2].map encStream)), (1, .sl false 1 ([b0, b1, b2].map encI)), (2, .int .i64 until_), (7, .own 150 1 0 3), (30, .sl false 3 ([u0, u1, u2].map encStream)), (31, .int .i64 3), (32, .int .i64 3)], st := [(100, .box [.int .i64 u0.bits, .int .i64 u0.period, .int .i64 u0.jitter, .int .i64 0, .int .i64 b0, .int .i64 b0, .int .i64 0]), (101, .box [.int .i64 u1.bits, .int .i64 u1.period, .int .i64 u1.jitter, .int .i64 0, .int .i64 b1, .int .i64 b1, .int .i64 0]), (102, .box [.int .i64 u2.bits, .int .i64 u2.period, .int .i64 u2.jitter, .int .i64 0, .int .i64 b2, .int .i64 b2, .int .i64 0]), (150, .row 1 [[.ptr 100 0], [.ptr 101 0], [.ptr 102 0]])], nx := 200, n := 92 }
theorem play3_ok (u0 u1 u2 : Stream) (b0 b1 b2 until_ : Int) (hr : rightS [u0, u1, u2] = true) (hu0 : 0 ≤ until_) (hu1 : until_ ≤ 1000000) :
    FnS Try.prog 18 [.sl false 3 ([u0, u1, u2].map encStream), .sl false 1 ([b0, b1, b2].map encI), .int .i64 until_] [] (.sl false 1 ((playZ [u0, u1, u2] [b0, b1, b2] until_).map encI)) [] := by
  obtain ⟨hs, hl1, hl16⟩ := right_ok_s hr
  refine fn_raw tabOk Try.func18 rfl (by decide +kernel) Try.ntmps18 Try.results18 (by simp) fun B hB hds => ?_
  refine raw_seq (N' := fun s1 => s1.le B { sl := [(0, .sl false 3 ([u0, u1, u2].map encStream)), (1, .sl false 1 ([b0, b1, b2].map encI)), (2, .int .i64 until_)], st := [], nx := 0, n := 92 }) ?_ (fun s1 hle a w hs1 => ?_)
  · try refine hK _ ?_
    repeat (first | refine awp_seq ?_ | refine awp_block ?_ | refine awp_skip ?_ | refine awp_scope ?_ | refine awp_label ?_)
    refine awp_region tabOk fun K hK => ?_
    simp -dsimp -implicitDefEqProofs only [push_cast, ↓trAdd_f, ↓stOf_f, seval]
    refine hK _ ?_
    refine le_intro hB [] (by simp) (fun b _ => rfl) rfl ?_ ?_ rfl <;> simp -dsimp -implicitDefEqProofs only [push_cast, ↓trAdd_f, ↓stOf_f, seval]
  refine raw_seq (s := { sl := [(0, .sl false 3 ([u0, u1, u2].map encStream)), (1, .sl false 1 ([b0, b1, b2].map encI)), (2, .int .i64 until_)], st := [], nx := 0, n := 92 }) (N' := fun s1 => s1.le B { sl := [(0, .sl false 3 ([u0, u1, u2].map encStream)), (1, .sl false 1 ([b0, b1, b2].map encI)), (2, .int .i64 until_)], st := [], nx := 0, n := 92 }) ?_ (fun s1 hle a w hs1 => ?_) a w (hle a w hs1)
  · have hu0' : decide (0 ≤ until_) = true := by simpa using hu0
    have hu1' : decide (until_ ≤ 1000000) = true := by simpa using hu1
    try refine hK _ ?_
    repeat (first | refine awp_seq ?_ | refine awp_block ?_ | refine awp_skip ?_ | refine awp_scope ?_ | refine awp_label ?_)
    refine awp_region tabOk fun K hK => ?_
    simp -dsimp -implicitDefEqProofs only [push_cast, ↓trAdd_f, ↓stOf_f, seval]
    refine callK_simple (rRight_ok false [u0, u1, u2] (by simp)) ?_ rfl fun _ => ?_
    · simp -dsimp -implicitDefEqProofs only [push_cast, List.mem_append, List.mem_cons, List.mem_singleton, forall_eq_or_imp, forall_eq, ↓trAdd_f, ↓stOf_f, seval]
    rw [hr]
    simp -dsimp -implicitDefEqProofs only [push_cast, ↓trAdd_f, ↓stOf_f, seval]
    refine callK_simple (within_ok until_ 0 1000000) ?_ rfl fun _ => ?_
    · simp -dsimp -implicitDefEqProofs only [push_cast, List.mem_append, List.mem_cons, List.mem_singleton, forall_eq_or_imp, forall_eq, ↓trAdd_f, ↓stOf_f, seval]
    simp -dsimp -implicitDefEqProofs only [hu0', hu1', push_cast, ↓trAdd_f, ↓stOf_f, seval]
    try refine hK _ ?_
    repeat (first | refine awp_seq ?_ | refine awp_block ?_ | refine awp_skip ?_ | refine awp_scope ?_ | refine awp_label ?_)
    refine awp_cond (b := false) (by simp -dsimp -implicitDefEqProofs only [push_cast, ↓trAdd_f, ↓stOf_f, seval]) (fun h => ?_) (fun h => ?_)
    · simp at h
    refine awp_skip ?_
    refine le_intro hB [] (by simp) (fun b _ => rfl) rfl ?_ ?_ rfl <;> simp -dsimp -implicitDefEqProofs only [push_cast, ↓trAdd_f, ↓stOf_f, seval]
  refine raw_seq (s := { sl := [(0, .sl false 3 ([u0, u1, u2].map encStream)), (1, .sl false 1 ([b0, b1, b2].map encI)), (2, .int .i64 until_)], st := [], nx := 0, n := 92 }) (N' := fun s1 => s1.le B { sl := [(0, .sl false 3 ([u0, u1, u2].map encStream)), (1, .sl false 1 ([b0, b1, b2].map encI)), (2, .int .i64 until_), (7, .sl true 1 [])], st := [], nx := 0, n := 92 }) ?_ (fun s1 hle a w hs1 => ?_) a w (hle a w hs1)
  · try refine hK _ ?_
    repeat (first | refine awp_seq ?_ | refine awp_block ?_ | refine awp_skip ?_ | refine awp_scope ?_ | refine awp_label ?_)
    refine awp_region tabOk fun K hK => ?_
    simp -dsimp -implicitDefEqProofs only [push_cast, ↓trAdd_f, ↓stOf_f, seval]
    refine hK _ ?_
    refine le_intro hB [] (by simp) (fun b _ => rfl) rfl ?_ ?_ rfl <;> simp -dsimp -implicitDefEqProofs only [push_cast, ↓trAdd_f, ↓stOf_f, seval]
  refine raw_seq (s := { sl := [(0, .sl false 3 ([u0, u1, u2].map encStream)), (1, .sl false 1 ([b0, b1, b2].map encI)), (2, .int .i64 until_), (7, .sl true 1 [])], st := [], nx := 0, n := 92 }) (N' := fun s1 => (∀ b ∈ ([b0, b1, b2] : List Int), 0 ≤ b ∧ b ≤ 1000000) ∧ s1.le B { sl := [(0, .sl false 3 ([u0, u1, u2].map encStream)), (1, .sl false 1 ([b0, b1, b2].map encI)), (2, .int .i64 until_), (7, .own 150 1 0 3)], st := [(100, .box [.int .i64 u0.bits, .int .i64 u0.period, .int .i64 u0.jitter, .int .i64 0, .int .i64 b0, .int .i64 b0, .int .i64 0]), (101, .box [.int .i64 u1.bits, .int .i64 u1.period, .int .i64 u1.jitter, .int .i64 0, .int .i64 b1, .int .i64 b1, .int .i64 0]), (102, .box [.int .i64 u2.bits, .int .i64 u2.period, .int .i64 u2.jitter, .int .i64 0, .int .i64 b2, .int .i64 b2, .int .i64 0]), (150, .row 1 [[.ptr 100 0], [.ptr 101 0], [.ptr 102 0]])], nx := 200, n := 92 }) ?_ (fun s1 hle a w hs1 => ?_) a w (hle a w hs1)
  · try refine hK _ ?_
    repeat (first | refine awp_seq ?_ | refine awp_block ?_ | refine awp_skip ?_ | refine awp_scope ?_ | refine awp_label ?_)
    refine awp_region tabOk fun K hK => ?_
    simp -dsimp -implicitDefEqProofs only [push_cast, ↓trAdd_f, ↓stOf_f, seval]
    refine hK _ (awp_block ?_)
    refine awp_for (fun k : Nat => pl3S u0 u1 u2 b0 b1 b2 until_ k) (fun k => k ≤ 3 ∧ ∀ b ∈ ([b0, b1, b2] : List Int).take k, 0 ≤ b ∧ b ≤ 1000000) (fun k => 3 - k) 0 ⟨Nat.zero_le _, by simp⟩ ?_ fun k hk => ?_
    · simp only [pl3S]
      refine le_intro hB [] (by simp) (fun b _ => rfl) rfl ?_ ?_ rfl <;> simp -dsimp -implicitDefEqProofs only [push_cast, ↓trAdd_f, ↓stOf_f, seval]
    obtain ⟨hk, hbs⟩ := hk
    have : k = 0 ∨ k = 1 ∨ k = 2 ∨ k = 3 := by omega
    rcases this with rfl | rfl | rfl | rfl
    · simp only [pl3S]
      try refine hK _ ?_
      repeat (first | refine awp_seq ?_ | refine awp_block ?_ | refine awp_skip ?_ | refine awp_scope ?_ | refine awp_label ?_)
      refine awp_region tabOk fun K hK => ?_
      simp -dsimp -implicitDefEqProofs only [push_cast, ↓trAdd_f, ↓stOf_f, seval]
      try refine hK _ ?_
      repeat (first | refine awp_seq ?_ | refine awp_block ?_ | refine awp_skip ?_ | refine awp_scope ?_ | refine awp_label ?_)
      refine awp_cond (b := true) (by simp -dsimp -implicitDefEqProofs only [push_cast, ↓trAdd_f, ↓stOf_f, seval]) (fun h => ?_) (fun h => ?_)
      · try refine hK _ ?_
        repeat (first | refine awp_seq ?_ | refine awp_block ?_ | refine awp_skip ?_ | refine awp_scope ?_ | refine awp_label ?_)
        refine awp_region tabOk fun K hK => ?_
        simp -dsimp -implicitDefEqProofs only [tn1, tn2, tn3, tn4, encStream, push_cast, ↓trAdd_f, ↓stOf_f, seval]
        cases hb : decide (0 ≤ b0) && decide (b0 ≤ 1000000) with
        | false =>
          have e : playZ [u0, u1, u2] [b0, b1, b2] until_ = [] := by
            unfold playZ
            rw [if_neg]
            rintro ⟨_, _, _, _, h5⟩
            have := h5 b0 (by simp)
            simp at hb; omega
          try refine hK _ ?_
          repeat (first | refine awp_seq ?_ | refine awp_block ?_ | refine awp_skip ?_ | refine awp_scope ?_ | refine awp_label ?_)
          refine awp_region tabOk fun K hK => ?_
          simp -dsimp -implicitDefEqProofs only [tn1, tn2, tn3, tn4, encI, push_cast, ↓trAdd_f, ↓stOf_f, seval]
          refine callK_simple (within_ok b0 0 1000000) ?_ rfl fun _ => ?_
          · simp -dsimp -implicitDefEqProofs only [push_cast, List.mem_append, List.mem_cons, List.mem_singleton, forall_eq_or_imp, forall_eq, ↓trAdd_f, ↓stOf_f, seval]
          rw [hb]
          simp -dsimp -implicitDefEqProofs only [push_cast, ↓trAdd_f, ↓stOf_f, seval]
          try refine hK _ ?_
          repeat (first | refine awp_seq ?_ | refine awp_block ?_ | refine awp_skip ?_ | refine awp_scope ?_ | refine awp_label ?_)
          refine awp_cond (b := true) (by simp -dsimp -implicitDefEqProofs only [push_cast, ↓trAdd_f, ↓stOf_f, seval]) (fun h => ?_) (fun h => ?_)
          · try refine hK _ ?_
            repeat (first | refine awp_seq ?_ | refine awp_block ?_ | refine awp_skip ?_ | refine awp_scope ?_ | refine awp_label ?_)
            refine awp_region tabOk fun K hK => ?_
            simp -dsimp -implicitDefEqProofs only [push_cast, ↓trAdd_f, ↓stOf_f, seval]
            refine hK _ (awp_ret ?_)
            rw [e]
            simp -dsimp -implicitDefEqProofs only [push_cast, List.mem_append, List.mem_cons, List.mem_singleton, forall_eq_or_imp, forall_eq, ↓trAdd_f, ↓stOf_f, seval]
          · simp at h
        | true =>
          have hbk : 0 ≤ b0 ∧ b0 ≤ 1000000 := by simpa using hb
          try refine hK _ ?_
          repeat (first | refine awp_seq ?_ | refine awp_block ?_ | refine awp_skip ?_ | refine awp_scope ?_ | refine awp_label ?_)
          refine awp_region tabOk fun K hK => ?_
          simp -dsimp -implicitDefEqProofs only [tn1, tn2, tn3, tn4, encI, push_cast, ↓trAdd_f, ↓stOf_f, seval]
          refine callK_simple (within_ok b0 0 1000000) ?_ rfl fun _ => ?_
          · simp -dsimp -implicitDefEqProofs only [push_cast, List.mem_append, List.mem_cons, List.mem_singleton, forall_eq_or_imp, forall_eq, ↓trAdd_f, ↓stOf_f, seval]
          rw [hb]
          simp -dsimp -implicitDefEqProofs only [push_cast, ↓trAdd_f, ↓stOf_f, seval]
          try refine hK _ ?_
          repeat (first | refine awp_seq ?_ | refine awp_block ?_ | refine awp_skip ?_ | refine awp_scope ?_ | refine awp_label ?_)
          refine awp_cond (b := false) (by simp -dsimp -implicitDefEqProofs only [push_cast, ↓trAdd_f, ↓stOf_f, seval]) (fun h => ?_) (fun h => ?_)
          · simp at h
          clear h
          refine awp_skip ?_
          try refine hK _ ?_
          repeat (first | refine awp_seq ?_ | refine awp_block ?_ | refine awp_skip ?_ | refine awp_scope ?_ | refine awp_label ?_)
          refine awp_draw tabOk (by kernel_rfl) (by kernel_rfl) fun K hK C hC => ?_
          simp -dsimp -implicitDefEqProofs only [tn1, tn2, tn3, tn4, encI, encStream, push_cast, ↓trAdd_f, ↓stOf_f, seval]
          refine ⟨hC _ (by kernel_rfl), ?_⟩
          clear hC C
          try refine hK _ ?_
          repeat (first | refine awp_seq ?_ | refine awp_block ?_ | refine awp_skip ?_ | refine awp_scope ?_ | refine awp_label ?_)
          refine awp_region tabOk fun K hK => ?_
          simp -dsimp -implicitDefEqProofs only [push_cast, ↓trAdd_f, ↓stOf_f, seval]
          try simp (disch := omega) only [wrap_i64, wrap_u8, wrap_u16, wrap_u32]
          refine hK _ ⟨1, ⟨by decide, ?_⟩, by decide, ?_⟩
          · intro b hb
            rcases List.mem_append.1 (show b ∈ ([b0, b1, b2] : List Int).take 0 ++ [b0] from hb) with hb | hb
            · exact hbs b hb
            · simp at hb; subst hb; exact hbk
          simp only [pl3S]
          refine le_intro hB [(100, 392), (150, 408)] (by simp) (fun b hb => absurd hb (Nat.not_lt_zero b)) rfl ?_ ?_ rfl <;> simp -dsimp -implicitDefEqProofs only [encStream, encI, push_cast, ↓trAdd_f, ↓stOf_f, seval]
      · simp at h
    · simp only [pl3S]
      try refine hK _ ?_
      repeat (first | refine awp_seq ?_ | refine awp_block ?_ | refine awp_skip ?_ | refine awp_scope ?_ | refine awp_label ?_)
      refine awp_region tabOk fun K hK => ?_
      simp -dsimp -implicitDefEqProofs only [push_cast, ↓trAdd_f, ↓stOf_f, seval]
      try refine hK _ ?_
      repeat (first | refine awp_seq ?_ | refine awp_block ?_ | refine awp_skip ?_ | refine awp_scope ?_ | refine awp_label ?_)
      refine awp_cond (b := true) (by simp -dsimp -implicitDefEqProofs only [push_cast, ↓trAdd_f, ↓stOf_f, seval]) (fun h => ?_) (fun h => ?_)
      · try refine hK _ ?_
        repeat (first | refine awp_seq ?_ | refine awp_block ?_ | refine awp_skip ?_ | refine awp_scope ?_ | refine awp_label ?_)
        refine awp_region tabOk fun K hK => ?_
        simp -dsimp -implicitDefEqProofs only [tn1, tn2, tn3, tn4, encStream, push_cast, ↓trAdd_f, ↓stOf_f, seval]
        cases hb : decide (0 ≤ b1) && decide (b1 ≤ 1000000) with
        | false =>
          have e : playZ [u0, u1, u2] [b0, b1, b2] until_ = [] := by
            unfold playZ
            rw [if_neg]
            rintro ⟨_, _, _, _, h5⟩
            have := h5 b1 (by simp)
            simp at hb; omega
          try refine hK _ ?_
          repeat (first | refine awp_seq ?_ | refine awp_block ?_ | refine awp_skip ?_ | refine awp_scope ?_ | refine awp_label ?_)
          refine awp_region tabOk fun K hK => ?_
          simp -dsimp -implicitDefEqProofs only [tn1, tn2, tn3, tn4, encI, push_cast, ↓trAdd_f, ↓stOf_f, seval]
          refine callK_simple (within_ok b1 0 1000000) ?_ rfl fun _ => ?_
          · simp -dsimp -implicitDefEqProofs only [push_cast, List.mem_append, List.mem_cons, List.mem_singleton, forall_eq_or_imp, forall_eq, ↓trAdd_f, ↓stOf_f, seval]
          rw [hb]
          simp -dsimp -implicitDefEqProofs only [push_cast, ↓trAdd_f, ↓stOf_f, seval]
          try refine hK _ ?_
          repeat (first | refine awp_seq ?_ | refine awp_block ?_ | refine awp_skip ?_ | refine awp_scope ?_ | refine awp_label ?_)
          refine awp_cond (b := true) (by simp -dsimp -implicitDefEqProofs only [push_cast, ↓trAdd_f, ↓stOf_f, seval]) (fun h => ?_) (fun h => ?_)
          · try refine hK _ ?_
            repeat (first | refine awp_seq ?_ | refine awp_block ?_ | refine awp_skip ?_ | refine awp_scope ?_ | refine awp_label ?_)
            refine awp_region tabOk fun K hK => ?_
            simp -dsimp -implicitDefEqProofs only [push_cast, ↓trAdd_f, ↓stOf_f, seval]
            refine hK _ (awp_ret ?_)
            rw [e]
            simp -dsimp -implicitDefEqProofs only [push_cast, List.mem_append, List.mem_cons, List.mem_singleton, forall_eq_or_imp, forall_eq, ↓trAdd_f, ↓stOf_f, seval]
          · simp at h
        | true =>
          have hbk : 0 ≤ b1 ∧ b1 ≤ 1000000 := by simpa using hb
          try refine hK _ ?_
          repeat (first | refine awp_seq ?_ | refine awp_block ?_ | refine awp_skip ?_ | refine awp_scope ?_ | refine awp_label ?_)
          refine awp_region tabOk fun K hK => ?_
          simp -dsimp -implicitDefEqProofs only [tn1, tn2, tn3, tn4, encI, push_cast, ↓trAdd_f, ↓stOf_f, seval]
          refine callK_simple (within_ok b1 0 1000000) ?_ rfl fun _ => ?_
          · simp -dsimp -implicitDefEqProofs only [push_cast, List.mem_append, List.mem_cons, List.mem_singleton, forall_eq_or_imp, forall_eq, ↓trAdd_f, ↓stOf_f, seval]
          rw [hb]
          simp -dsimp -implicitDefEqProofs only [push_cast, ↓trAdd_f, ↓stOf_f, seval]
          try refine hK _ ?_
          repeat (first | refine awp_seq ?_ | refine awp_block ?_ | refine awp_skip ?_ | refine awp_scope ?_ | refine awp_label ?_)
          refine awp_cond (b := false) (by simp -dsimp -implicitDefEqProofs only [push_cast, ↓trAdd_f, ↓stOf_f, seval]) (fun h => ?_) (fun h => ?_)
          · simp at h
          clear h
          refine awp_skip ?_
          try refine hK _ ?_
          repeat (first | refine awp_seq ?_ | refine awp_block ?_ | refine awp_skip ?_ | refine awp_scope ?_ | refine awp_label ?_)
          refine awp_draw tabOk (by kernel_rfl) (by kernel_rfl) fun K hK C hC => ?_
          simp -dsimp -implicitDefEqProofs only [tn1, tn2, tn3, tn4, encI, encStream, push_cast, ↓trAdd_f, ↓stOf_f, seval]
          refine ⟨hC _ (by kernel_rfl), ?_⟩
          clear hC C
          try refine hK _ ?_
          repeat (first | refine awp_seq ?_ | refine awp_block ?_ | refine awp_skip ?_ | refine awp_scope ?_ | refine awp_label ?_)
          refine awp_region tabOk fun K hK => ?_
          simp -dsimp -implicitDefEqProofs only [push_cast, ↓trAdd_f, ↓stOf_f, seval]
          try simp (disch := omega) only [wrap_i64, wrap_u8, wrap_u16, wrap_u32]
          refine hK _ ⟨2, ⟨by decide, ?_⟩, by decide, ?_⟩
          · intro b hb
            rcases List.mem_append.1 (show b ∈ ([b0, b1, b2] : List Int).take 1 ++ [b1] from hb) with hb | hb
            · exact hbs b hb
            · simp at hb; subst hb; exact hbk
          simp only [pl3S]
          refine le_intro hB [(101, 392), (150, 408)] (by simp) (fun b hb => absurd hb (Nat.not_lt_zero b)) rfl ?_ ?_ rfl <;> simp -dsimp -implicitDefEqProofs only [encStream, encI, push_cast, ↓trAdd_f, ↓stOf_f, seval]
      · simp at h
    · simp only [pl3S]
      try refine hK _ ?_
      repeat (first | refine awp_seq ?_ | refine awp_block ?_ | refine awp_skip ?_ | refine awp_scope ?_ | refine awp_label ?_)
      refine awp_region tabOk fun K hK => ?_
      simp -dsimp -implicitDefEqProofs only [push_cast, ↓trAdd_f, ↓stOf_f, seval]
      try refine hK _ ?_
      repeat (first | refine awp_seq ?_ | refine awp_block ?_ | refine awp_skip ?_ | refine awp_scope ?_ | refine awp_label ?_)
      refine awp_cond (b := true) (by simp -dsimp -implicitDefEqProofs only [push_cast, ↓trAdd_f, ↓stOf_f, seval]) (fun h => ?_) (fun h => ?_)
      · try refine hK _ ?_
        repeat (first | refine awp_seq ?_ | refine awp_block ?_ | refine awp_skip ?_ | refine awp_scope ?_ | refine awp_label ?_)
        refine awp_region tabOk fun K hK => ?_
        simp -dsimp -implicitDefEqProofs only [tn1, tn2, tn3, tn4, encStream, push_cast, ↓trAdd_f, ↓stOf_f, seval]
        cases hb : decide (0 ≤ b2) && decide (b2 ≤ 1000000) with
        | false =>
          have e : playZ [u0, u1, u2] [b0, b1, b2] until_ = [] := by
            unfold playZ
            rw [if_neg]
            rintro ⟨_, _, _, _, h5⟩
            have := h5 b2 (by simp)
            simp at hb; omega
          try refine hK _ ?_
          repeat (first | refine awp_seq ?_ | refine awp_block ?_ | refine awp_skip ?_ | refine awp_scope ?_ | refine awp_label ?_)
          refine awp_region tabOk fun K hK => ?_
          simp -dsimp -implicitDefEqProofs only [tn1, tn2, tn3, tn4, encI, push_cast, ↓trAdd_f, ↓stOf_f, seval]
          refine callK_simple (within_ok b2 0 1000000) ?_ rfl fun _ => ?_
          · simp -dsimp -implicitDefEqProofs only [push_cast, List.mem_append, List.mem_cons, List.mem_singleton, forall_eq_or_imp, forall_eq, ↓trAdd_f, ↓stOf_f, seval]
          rw [hb]
          simp -dsimp -implicitDefEqProofs only [push_cast, ↓trAdd_f, ↓stOf_f, seval]
          try refine hK _ ?_
          repeat (first | refine awp_seq ?_ | refine awp_block ?_ | refine awp_skip ?_ | refine awp_scope ?_ | refine awp_label ?_)
          refine awp_cond (b := true) (by simp -dsimp -implicitDefEqProofs only [push_cast, ↓trAdd_f, ↓stOf_f, seval]) (fun h => ?_) (fun h => ?_)
          · try refine hK _ ?_
            repeat (first | refine awp_seq ?_ | refine awp_block ?_ | refine awp_skip ?_ | refine awp_scope ?_ | refine awp_label ?_)
            refine awp_region tabOk fun K hK => ?_
            simp -dsimp -implicitDefEqProofs only [push_cast, ↓trAdd_f, ↓stOf_f, seval]
            refine hK _ (awp_ret ?_)
            rw [e]
            simp -dsimp -implicitDefEqProofs only [push_cast, List.mem_append, List.mem_cons, List.mem_singleton, forall_eq_or_imp, forall_eq, ↓trAdd_f, ↓stOf_f, seval]
          · simp at h
        | true =>
          have hbk : 0 ≤ b2 ∧ b2 ≤ 1000000 := by simpa using hb
          try refine hK _ ?_
          repeat (first | refine awp_seq ?_ | refine awp_block ?_ | refine awp_skip ?_ | refine awp_scope ?_ | refine awp_label ?_)
          refine awp_region tabOk fun K hK => ?_
          simp -dsimp -implicitDefEqProofs only [tn1, tn2, tn3, tn4, encI, push_cast, ↓trAdd_f, ↓stOf_f, seval]
          refine callK_simple (within_ok b2 0 1000000) ?_ rfl fun _ => ?_
          · simp -dsimp -implicitDefEqProofs only [push_cast, List.mem_append, List.mem_cons, List.mem_singleton, forall_eq_or_imp, forall_eq, ↓trAdd_f, ↓stOf_f, seval]
          rw [hb]
          simp -dsimp -implicitDefEqProofs only [push_cast, ↓trAdd_f, ↓stOf_f, seval]
          try refine hK _ ?_
          repeat (first | refine awp_seq ?_ | refine awp_block ?_ | refine awp_skip ?_ | refine awp_scope ?_ | refine awp_label ?_)
          refine awp_cond (b := false) (by simp -dsimp -implicitDefEqProofs only [push_cast, ↓trAdd_f, ↓stOf_f, seval]) (fun h => ?_) (fun h => ?_)
          · simp at h
          clear h
          refine awp_skip ?_
          try refine hK _ ?_
          repeat (first | refine awp_seq ?_ | refine awp_block ?_ | refine awp_skip ?_ | refine awp_scope ?_ | refine awp_label ?_)
          refine awp_draw tabOk (by kernel_rfl) (by kernel_rfl) fun K hK C hC => ?_
          simp -dsimp -implicitDefEqProofs only [tn1, tn2, tn3, tn4, encI, encStream, push_cast, ↓trAdd_f, ↓stOf_f, seval]
          refine ⟨hC _ (by kernel_rfl), ?_⟩
          clear hC C
          try refine hK _ ?_
          repeat (first | refine awp_seq ?_ | refine awp_block ?_ | refine awp_skip ?_ | refine awp_scope ?_ | refine awp_label ?_)
          refine awp_region tabOk fun K hK => ?_
          simp -dsimp -implicitDefEqProofs only [push_cast, ↓trAdd_f, ↓stOf_f, seval]
          try simp (disch := omega) only [wrap_i64, wrap_u8, wrap_u16, wrap_u32]
          refine hK _ ⟨3, ⟨by decide, ?_⟩, by decide, ?_⟩
          · intro b hb
            rcases List.mem_append.1 (show b ∈ ([b0, b1, b2] : List Int).take 2 ++ [b2] from hb) with hb | hb
            · exact hbs b hb
            · simp at hb; subst hb; exact hbk
          simp only [pl3S]
          refine le_intro hB [(102, 392), (150, 408)] (by simp) (fun b hb => absurd hb (Nat.not_lt_zero b)) rfl ?_ ?_ rfl <;> simp -dsimp -implicitDefEqProofs only [encStream, encI, push_cast, ↓trAdd_f, ↓stOf_f, seval]
      · simp at h
    · simp only [pl3S]
      try refine hK _ ?_
      repeat (first | refine awp_seq ?_ | refine awp_block ?_ | refine awp_skip ?_ | refine awp_scope ?_ | refine awp_label ?_)
      refine awp_region tabOk fun K hK => ?_
      simp -dsimp -implicitDefEqProofs only [push_cast, ↓trAdd_f, ↓stOf_f, seval]
      try refine hK _ ?_
      repeat (first | refine awp_seq ?_ | refine awp_block ?_ | refine awp_skip ?_ | refine awp_scope ?_ | refine awp_label ?_)
      refine awp_cond (b := false) (by simp -dsimp -implicitDefEqProofs only [push_cast, ↓trAdd_f, ↓stOf_f, seval]) (fun h => ?_) (fun h => ?_)
      · simp at h
      refine awp_exit rfl ⟨hbs, ?_⟩
      refine le_intro hB [] (by simp) (fun b _ => rfl) rfl ?_ ?_ rfl <;> simp -dsimp -implicitDefEqProofs only [push_cast, ↓trAdd_f, ↓stOf_f, seval]
  obtain ⟨hball, hle⟩ := hle
  have p : PlayOk [u0, u1, u2] [b0, b1, b2] until_ := ⟨hs, hl16, hball, rfl, hu0, hu1⟩
  have hz : playZ [u0, u1, u2] [b0, b1, b2] until_ = (playN until_ fuel0 0 [{ s := u0, b := b0, q := 0, late := 0 }, { s := u1, b := b1, q := 0, late := 0 }, { s := u2, b := b2, q := 0, late := 0 }]).map (·.late) := playZ_ok hr p
  have hX : PInv [u0, u1, u2] [b0, b1, b2] until_ fuel0 0 [{ s := u0, b := b0, q := 0, late := 0 }, { s := u1, b := b1, q := 0, late := 0 }, { s := u2, b := b2, q := 0, late := 0 }] := pinv_first p
  have hsent := fun lp rec hY => sentf3_ok p rfl lp rec hY ({ s := u0, b := b0, q := 0, late := 0 }) ({ s := u1, b := b1, q := 0, late := 0 }) ({ s := u2, b := b2, q := 0, late := 0 }) hX
  have hYl : (playN until_ fuel0 0 [{ s := u0, b := b0, q := 0, late := 0 }, { s := u1, b := b1, q := 0, late := 0 }, { s := u2, b := b2, q := 0, late := 0 }]).length = 3 := by rw [playN_len]; rfl
  rw [hz]
  generalize playN until_ fuel0 0 [{ s := u0, b := b0, q := 0, late := 0 }, { s := u1, b := b1, q := 0, late := 0 }, { s := u2, b := b2, q := 0, late := 0 }] = Y at *
  obtain ⟨y0, y1, y2, rfl⟩ : ∃ y0 y1 y2, Y = [y0, y1, y2] := by
    match Y, hYl with
    | [y0, y1, y2], _ => exact ⟨y0, y1, y2, rfl⟩
  refine raw_seq2 (s := { sl := [(0, .sl false 3 ([u0, u1, u2].map encStream)), (1, .sl false 1 ([b0, b1, b2].map encI)), (2, .int .i64 until_), (7, .own 150 1 0 3)], st := [(100, .box [.int .i64 u0.bits, .int .i64 u0.period, .int .i64 u0.jitter, .int .i64 0, .int .i64 b0, .int .i64 b0, .int .i64 0]), (101, .box [.int .i64 u1.bits, .int .i64 u1.period, .int .i64 u1.jitter, .int .i64 0, .int .i64 b1, .int .i64 b1, .int .i64 0]), (102, .box [.int .i64 u2.bits, .int .i64 u2.period, .int .i64 u2.jitter, .int .i64 0, .int .i64 b2, .int .i64 b2, .int .i64 0]), (150, .row 1 [[.ptr 100 0], [.ptr 101 0], [.ptr 102 0]])], nx := 200, n := 92 }) (N' := fun s1 => s1.le B { sl := [(60, .fn (.func 32) [] [.ptr 160 0, .ptr 161 0]), (7, .own 150 1 0 3)], st := [(100, .box [.int .i64 u0.bits, .int .i64 u0.period, .int .i64 u0.jitter, .int .i64 0, .int .i64 b0, .int .i64 b0, .int .i64 0]), (101, .box [.int .i64 u1.bits, .int .i64 u1.period, .int .i64 u1.jitter, .int .i64 0, .int .i64 b1, .int .i64 b1, .int .i64 0]), (102, .box [.int .i64 u2.bits, .int .i64 u2.period, .int .i64 u2.jitter, .int .i64 0, .int .i64 b2, .int .i64 b2, .int .i64 0]), (150, .row 1 [[.ptr 100 0], [.ptr 101 0], [.ptr 102 0]]), (160, .box [.own 150 1 0 3]), (161, .box [.int .i64 until_])], nx := 208, n := 92 }) ?_ (fun s1 hle a w hs1 => ?_) a w (hle a w hs1)
  · try refine hK _ ?_
    repeat (first | refine awp_seq ?_ | refine awp_block ?_ | refine awp_skip ?_ | refine awp_scope ?_ | refine awp_label ?_)
    refine awp_region tabOk fun K hK => ?_
    simp -dsimp -implicitDefEqProofs only [push_cast, ↓trAdd_f, ↓stOf_f, seval]
    refine ⟨29, [], [], { args := [.own 3 1 0 3, .int .i64 until_], st0 := [(0, .box (encQ { s := u0, b := b0, q := 0, late := 0 })), (1, .box (encQ { s := u1, b := b1, q := 0, late := 0 })), (2, .box (encQ { s := u2, b := b2, q := 0, late := 0 })), (3, .row 1 [[.ptr 0 0], [.ptr 1 0], [.ptr 2 0]])], res := .fn (.func 32) [] [.ptr 4 0, .ptr 5 0], st1 := [(0, .box (encQ { s := u0, b := b0, q := 0, late := 0 })), (1, .box (encQ { s := u1, b := b1, q := 0, late := 0 })), (2, .box (encQ { s := u2, b := b2, q := 0, late := 0 })), (3, .row 1 [[.ptr 0 0], [.ptr 1 0], [.ptr 2 0]]), (4, .box [.own 3 1 0 3]), (5, .box [.int .i64 until_])], r := [100, 101, 102, 150] }, rfl, sent3_ok ({ s := u0, b := b0, q := 0, late := 0 }) ({ s := u1, b := b1, q := 0, late := 0 }) ({ s := u2, b := b2, q := 0, late := 0 }) until_, ?_, ?_⟩
    · simp only [encQ, due0, wts0, Int.natCast_zero]
      simp -dsimp -implicitDefEqProofs only [push_cast, List.mem_append, List.mem_cons, List.mem_singleton, forall_eq_or_imp, forall_eq, ↓trAdd_f, ↓stOf_f, seval]
      all_goals exact rfl
    simp only [encQ, due0, wts0, Int.natCast_zero]
    simp -dsimp -implicitDefEqProofs only [push_cast, ↓trAdd_f, ↓stOf_f, seval]
    refine hK _ ?_
    refine le_intro hB [(160, 216), (161, 217)] (by simp) (fun b hb => absurd hb (Nat.not_lt_zero b)) rfl ?_ ?_ rfl <;> simp -dsimp -implicitDefEqProofs only [push_cast, ↓trAdd_f, ↓stOf_f, seval]
  refine range_wp (ι := YI) (co := coY) (x0 := fun _ => .ptr 0 0) (x1 := fun i => .int .i64 i.1.2) (cg := fun lp => { args := [.fn (.yield lp) [] [], .ptr 4 0, .ptr 5 0], st0 := [(0, .box (encQ { s := u0, b := b0, q := 0, late := 0 })), (1, .box (encQ { s := u1, b := b1, q := 0, late := 0 })), (2, .box (encQ { s := u2, b := b2, q := 0, late := 0 })), (3, .row 1 [[.ptr 0 0], [.ptr 1 0], [.ptr 2 0]]), (4, .box [.own 3 1 0 3]), (5, .box [.int .i64 until_])], res := .tup [], st1 := [(0, .box (encQ y0)), (1, .box (encQ y1)), (2, .box (encQ y2)), (3, .row 1 [[.ptr 0 0], [.ptr 1 0], [.ptr 2 0]]), (4, .box [.own 3 1 0 3]), (5, .box [.int .i64 until_])], r := [100, 101, 102, 150, 160, 161] }) (s := { sl := [(60, .fn (.func 32) [] [.ptr 160 0, .ptr 161 0]), (7, .own 150 1 0 3)], st := [(100, .box [.int .i64 u0.bits, .int .i64 u0.period, .int .i64 u0.jitter, .int .i64 0, .int .i64 b0, .int .i64 b0, .int .i64 0]), (101, .box [.int .i64 u1.bits, .int .i64 u1.period, .int .i64 u1.jitter, .int .i64 0, .int .i64 b1, .int .i64 b1, .int .i64 0]), (102, .box [.int .i64 u2.bits, .int .i64 u2.period, .int .i64 u2.jitter, .int .i64 0, .int .i64 b2, .int .i64 b2, .int .i64 0]), (150, .row 1 [[.ptr 100 0], [.ptr 101 0], [.ptr 102 0]]), (160, .box [.own 150 1 0 3]), (161, .box [.int .i64 until_])], nx := 208, n := 92 }) (n0 := 0) (cap := [.ptr 160 0, .ptr 161 0]) (gf := 32) hB hds rfl (by decide) (by show 61 < 92; decide) (by show 62 < 92; decide) (fun i => ⟨rfl, rfl⟩) (fun l i B hB => ?_) (fun lp rec hY => hsent lp rec hY) (fun lp => ?_) (fun lp B hB => ?_) a w (hle a w hs1)
  · obtain ⟨⟨x, e⟩, hx, he0, he1⟩ := i
    have hdd : 0 ≤ x.due ∧ x.due ≤ 11000000000000 := hx.due
    have he0' : 0 ≤ e := he0
    have he1' : e ≤ 50000000000 := he1
    have hw : IntKind.i64.wrap (e - x.due) = e - x.due := wrap_i64 (by omega) (by omega)
    simp only [coY, roundS, encQ, encQL] at *
    refine awpR_seq (awpR_region tabOk rfl fun K hK => ?_)
    simp -dsimp -implicitDefEqProofs only [push_cast, ↓trAdd_f, ↓stOf_f, seval]
    refine hK _ (awpR_region tabOk rfl fun K hK => ?_)
    simp -dsimp -implicitDefEqProofs only [push_cast, ↓trAdd_f, ↓stOf_f, seval]
    refine hK _ (fun B1 hB1 => awpR_block (awpR_draw tabOk (by kernel_rfl) rfl (by kernel_rfl) fun K hK C hC => ?_))
    simp -dsimp -implicitDefEqProofs only [hw, push_cast, ↓trAdd_f, ↓stOf_f, seval]
    refine ⟨hC _ (by kernel_rfl), hK _ ?_⟩
    simp -dsimp -implicitDefEqProofs only [push_cast, List.mem_append, List.mem_cons, List.mem_singleton, forall_eq_or_imp, forall_eq, ↓trAdd_f, ↓stOf_f, seval]
  · simp only [encQ, due0, wts0, Int.natCast_zero]
    simp -dsimp -implicitDefEqProofs only [push_cast, List.mem_append, List.mem_cons, List.mem_singleton, forall_eq_or_imp, forall_eq, ↓trAdd_f, ↓stOf_f, seval]
    all_goals exact rfl
  · simp only [encQ, due0, wts0, Int.natCast_zero]
    simp -dsimp -implicitDefEqProofs only [push_cast, ↓trAdd_f, ↓stOf_f, seval]
    try refine hK _ ?_
    repeat (first | refine awp_seq ?_ | refine awp_block ?_ | refine awp_skip ?_ | refine awp_scope ?_ | refine awp_label ?_)
    refine awp_region tabOk fun K hK => ?_
    simp -dsimp -implicitDefEqProofs only [push_cast, ↓trAdd_f, ↓stOf_f, seval]
    try refine hK _ ?_
    repeat (first | refine awp_seq ?_ | refine awp_block ?_ | refine awp_skip ?_ | refine awp_scope ?_ | refine awp_label ?_)
    refine awp_region tabOk fun K hK => ?_
    simp -dsimp -implicitDefEqProofs only [push_cast, ↓trAdd_f, ↓stOf_f, seval]
    refine hK _ (awp_block ?_)
    refine awp_for (fun k : Nat => pl3O y0 y1 y2 k) (fun k => k ≤ 3) (fun k => 3 - k) 0 (Nat.zero_le _) ?_ fun k hk => ?_
    · simp only [pl3O, encQ]
      refine le_intro hB [] (by simp) (fun b _ => rfl) rfl ?_ ?_ rfl <;> simp -dsimp -implicitDefEqProofs only [push_cast, ↓trAdd_f, ↓stOf_f, seval]
    have : k = 0 ∨ k = 1 ∨ k = 2 ∨ k = 3 := by omega
    rcases this with rfl | rfl | rfl | rfl
    · simp only [pl3O, encQ]
      try refine hK _ ?_
      repeat (first | refine awp_seq ?_ | refine awp_block ?_ | refine awp_skip ?_ | refine awp_scope ?_ | refine awp_label ?_)
      refine awp_region tabOk fun K hK => ?_
      simp -dsimp -implicitDefEqProofs only [push_cast, ↓trAdd_f, ↓stOf_f, seval]
      try refine hK _ ?_
      repeat (first | refine awp_seq ?_ | refine awp_block ?_ | refine awp_skip ?_ | refine awp_scope ?_ | refine awp_label ?_)
      refine awp_cond (b := true) (by simp -dsimp -implicitDefEqProofs only [push_cast, ↓trAdd_f, ↓stOf_f, seval]) (fun h => ?_) (fun h => ?_)
      · try refine hK _ ?_
        repeat (first | refine awp_seq ?_ | refine awp_block ?_ | refine awp_skip ?_ | refine awp_scope ?_ | refine awp_label ?_)
        refine awp_region tabOk fun K hK => ?_
        simp -dsimp -implicitDefEqProofs only [tn1, tn2, tn3, tn4, push_cast, ↓trAdd_f, ↓stOf_f, seval]
        try refine hK _ ?_
        repeat (first | refine awp_seq ?_ | refine awp_block ?_ | refine awp_skip ?_ | refine awp_scope ?_ | refine awp_label ?_)
        refine awp_region tabOk fun K hK => ?_
        simp -dsimp -implicitDefEqProofs only [push_cast, ↓trAdd_f, ↓stOf_f, seval]
        try refine hK _ ?_
        repeat (first | refine awp_seq ?_ | refine awp_block ?_ | refine awp_skip ?_ | refine awp_scope ?_ | refine awp_label ?_)
        refine awp_region tabOk fun K hK => ?_
        simp -dsimp -implicitDefEqProofs only [push_cast, ↓trAdd_f, ↓stOf_f, seval]
        try simp (disch := omega) only [wrap_i64, wrap_u8, wrap_u16, wrap_u32]
        refine hK _ ⟨1, by decide, by decide, ?_⟩
        simp only [pl3O, encQ]
        refine le_intro hB [(170, 480)] (by simp) (fun b hb => absurd hb (Nat.not_lt_zero b)) rfl ?_ ?_ rfl <;> simp -dsimp -implicitDefEqProofs only [push_cast, ↓trAdd_f, ↓stOf_f, seval]
      · simp at h
    · simp only [pl3O, encQ]
      try refine hK _ ?_
      repeat (first | refine awp_seq ?_ | refine awp_block ?_ | refine awp_skip ?_ | refine awp_scope ?_ | refine awp_label ?_)
      refine awp_region tabOk fun K hK => ?_
      simp -dsimp -implicitDefEqProofs only [push_cast, ↓trAdd_f, ↓stOf_f, seval]
      try refine hK _ ?_
      repeat (first | refine awp_seq ?_ | refine awp_block ?_ | refine awp_skip ?_ | refine awp_scope ?_ | refine awp_label ?_)
      refine awp_cond (b := true) (by simp -dsimp -implicitDefEqProofs only [push_cast, ↓trAdd_f, ↓stOf_f, seval]) (fun h => ?_) (fun h => ?_)
      · try refine hK _ ?_
        repeat (first | refine awp_seq ?_ | refine awp_block ?_ | refine awp_skip ?_ | refine awp_scope ?_ | refine awp_label ?_)
        refine awp_region tabOk fun K hK => ?_
        simp -dsimp -implicitDefEqProofs only [tn1, tn2, tn3, tn4, push_cast, ↓trAdd_f, ↓stOf_f, seval]
        try refine hK _ ?_
        repeat (first | refine awp_seq ?_ | refine awp_block ?_ | refine awp_skip ?_ | refine awp_scope ?_ | refine awp_label ?_)
        refine awp_region tabOk fun K hK => ?_
        simp -dsimp -implicitDefEqProofs only [push_cast, ↓trAdd_f, ↓stOf_f, seval]
        try refine hK _ ?_
        repeat (first | refine awp_seq ?_ | refine awp_block ?_ | refine awp_skip ?_ | refine awp_scope ?_ | refine awp_label ?_)
        refine awp_region tabOk fun K hK => ?_
        simp -dsimp -implicitDefEqProofs only [push_cast, ↓trAdd_f, ↓stOf_f, seval]
        try simp (disch := omega) only [wrap_i64, wrap_u8, wrap_u16, wrap_u32]
        refine hK _ ⟨2, by decide, by decide, ?_⟩
        simp only [pl3O, encQ]
        refine le_intro hB [(170, 480)] (by simp) (fun b hb => absurd hb (Nat.not_lt_zero b)) rfl ?_ ?_ rfl <;> simp -dsimp -implicitDefEqProofs only [push_cast, ↓trAdd_f, ↓stOf_f, seval]
      · simp at h
    · simp only [pl3O, encQ]
      try refine hK _ ?_
      repeat (first | refine awp_seq ?_ | refine awp_block ?_ | refine awp_skip ?_ | refine awp_scope ?_ | refine awp_label ?_)
      refine awp_region tabOk fun K hK => ?_
      simp -dsimp -implicitDefEqProofs only [push_cast, ↓trAdd_f, ↓stOf_f, seval]
      try refine hK _ ?_
      repeat (first | refine awp_seq ?_ | refine awp_block ?_ | refine awp_skip ?_ | refine awp_scope ?_ | refine awp_label ?_)
      refine awp_cond (b := true) (by simp -dsimp -implicitDefEqProofs only [push_cast, ↓trAdd_f, ↓stOf_f, seval]) (fun h => ?_) (fun h => ?_)
      · try refine hK _ ?_
        repeat (first | refine awp_seq ?_ | refine awp_block ?_ | refine awp_skip ?_ | refine awp_scope ?_ | refine awp_label ?_)
        refine awp_region tabOk fun K hK => ?_
        simp -dsimp -implicitDefEqProofs only [tn1, tn2, tn3, tn4, push_cast, ↓trAdd_f, ↓stOf_f, seval]
        try refine hK _ ?_
        repeat (first | refine awp_seq ?_ | refine awp_block ?_ | refine awp_skip ?_ | refine awp_scope ?_ | refine awp_label ?_)
        refine awp_region tabOk fun K hK => ?_
        simp -dsimp -implicitDefEqProofs only [push_cast, ↓trAdd_f, ↓stOf_f, seval]
        try refine hK _ ?_
        repeat (first | refine awp_seq ?_ | refine awp_block ?_ | refine awp_skip ?_ | refine awp_scope ?_ | refine awp_label ?_)
        refine awp_region tabOk fun K hK => ?_
        simp -dsimp -implicitDefEqProofs only [push_cast, ↓trAdd_f, ↓stOf_f, seval]
        try simp (disch := omega) only [wrap_i64, wrap_u8, wrap_u16, wrap_u32]
        refine hK _ ⟨3, by decide, by decide, ?_⟩
        simp only [pl3O, encQ]
        refine le_intro hB [(170, 480)] (by simp) (fun b hb => absurd hb (Nat.not_lt_zero b)) rfl ?_ ?_ rfl <;> simp -dsimp -implicitDefEqProofs only [push_cast, ↓trAdd_f, ↓stOf_f, seval]
      · simp at h
    · simp only [pl3O, encQ]
      try refine hK _ ?_
      repeat (first | refine awp_seq ?_ | refine awp_block ?_ | refine awp_skip ?_ | refine awp_scope ?_ | refine awp_label ?_)
      refine awp_region tabOk fun K hK => ?_
      simp -dsimp -implicitDefEqProofs only [push_cast, ↓trAdd_f, ↓stOf_f, seval]
      try refine hK _ ?_
      repeat (first | refine awp_seq ?_ | refine awp_block ?_ | refine awp_skip ?_ | refine awp_scope ?_ | refine awp_label ?_)
      refine awp_cond (b := false) (by simp -dsimp -implicitDefEqProofs only [push_cast, ↓trAdd_f, ↓stOf_f, seval]) (fun h => ?_) (fun h => ?_)
      · simp at h
      refine awp_exit rfl ?_
      try refine hK _ ?_
      repeat (first | refine awp_seq ?_ | refine awp_block ?_ | refine awp_skip ?_ | refine awp_scope ?_ | refine awp_label ?_)
      refine awp_region tabOk fun K hK => ?_
      simp -dsimp -implicitDefEqProofs only [push_cast, ↓trAdd_f, ↓stOf_f, seval]
      refine hK _ (awp_ret ?_)
      simp -dsimp -implicitDefEqProofs only [encI, push_cast, List.mem_append, List.mem_cons, List.mem_singleton, forall_eq_or_imp, forall_eq, ↓trAdd_f, ↓stOf_f, seval]


end Go.Proofs.YtahkpghgjjlgdaaFw
