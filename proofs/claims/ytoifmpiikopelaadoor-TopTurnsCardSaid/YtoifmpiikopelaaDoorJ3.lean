import Derived.Test.YtoifmpiikopelaaDoorJ2
/-
  Walks: boot.unit's methods, best, put.
-/
namespace Go.Proofs.YtoifmpiikopelaaDoorFw
open Go Go.Proofs
set_option maxRecDepth 100000
set_option maxHeartbeats 4000000
set_option linter.unusedVariables false
set_option linter.unusedSimpArgs false

def encUnit (f : Flash) (r : Rec) (key : Int) : List PV := [.sl false 1 (f.pages.map encP), .sl false 1 (f.wear.map encI), .int .i64 f.left, .bool f.down, .int .i64 r.seq, .int .i64 r.s0, .int .i64 r.s1, .int .i64 r.v0, .int .i64 r.v1, .int .i64 r.tries, .int .i64 key]
theorem unitWhole_ok (f : Flash) (r : Rec) (key : Int) (s : Nat) (hf : f.big) (hs : s ≤ 1) : FnS Tryd.prog 84 [.agg (encUnit f r key), .int .i64 s] [] (.bool (wholeF f s key).2) [] := by
  refine fn_walk tabOk Tryd.func84 rfl (by decide +kernel) Tryd.ntmps84 Tryd.results84 (by simp) fun B hB => ?_
  try refine hK _ ?_
  repeat (first | refine awp_seq ?_ | refine awp_block ?_ | refine awp_skip ?_ | refine awp_scope ?_ | refine awp_label ?_)
  refine awp_region tabOk fun K hK => ?_
  simp -dsimp -implicitDefEqProofs only [encUnit, push_cast, ↓trAdd_f, ↓stOf_f, seval]
  refine hK _ ?_
  try refine hK _ ?_
  repeat (first | refine awp_seq ?_ | refine awp_block ?_ | refine awp_skip ?_ | refine awp_scope ?_ | refine awp_label ?_)
  refine awp_region tabOk fun K hK => ?_
  simp -dsimp -implicitDefEqProofs only [push_cast, ↓trAdd_f, ↓stOf_f, seval]
  refine callK_simple (wholeF_ok f s key hf hs) ?_ rfl fun _ => ?_
  · simp -dsimp -implicitDefEqProofs only [encFlash, push_cast, List.mem_append, List.mem_cons, List.mem_singleton, forall_eq_or_imp, forall_eq, ↓trAdd_f, ↓stOf_f, seval]
  simp -dsimp -implicitDefEqProofs only [encImg, push_cast, ↓trAdd_f, ↓stOf_f, seval]
  refine hK _ ?_
  try refine hK _ ?_
  repeat (first | refine awp_seq ?_ | refine awp_block ?_ | refine awp_skip ?_ | refine awp_scope ?_ | refine awp_label ?_)
  refine awp_region tabOk fun K hK => ?_
  simp -dsimp -implicitDefEqProofs only [push_cast, ↓trAdd_f, ↓stOf_f, seval]
  refine hK _ (awp_ret ?_)
  simp -dsimp -implicitDefEqProofs only [push_cast, List.mem_append, List.mem_cons, List.mem_singleton, forall_eq_or_imp, forall_eq, ↓trAdd_f, ↓stOf_f, seval]
def Rec.st (r : Rec) (s : Nat) : Int := if s = 0 then r.s0 else r.s1
def Rec.ver (r : Rec) (s : Nat) : Int := if s = 0 then r.v0 else r.v1
def trialB (f : Flash) (r : Rec) (key : Int) (s : Nat) : Bool := (r.st s == 2 || r.st s == 3) && decide (0 < r.tries) && (wholeF f s key).2
def provedB (f : Flash) (r : Rec) (key : Int) (s : Nat) : Bool := (r.st s == 4) && (wholeF f s key).2
theorem trial0_ok (f : Flash) (r : Rec) (key : Int) (hf : f.big) : FnS Tryd.prog 48 [.agg (encUnit f r key), .int .i64 0] [] (.bool (trialB f r key 0)) [] := by
  refine fn_walk tabOk Tryd.func48 rfl (by decide +kernel) Tryd.ntmps48 Tryd.results48 (by simp) fun B hB => ?_
  try refine hK _ ?_
  repeat (first | refine awp_seq ?_ | refine awp_block ?_ | refine awp_skip ?_ | refine awp_scope ?_ | refine awp_label ?_)
  refine awp_region tabOk fun K hK => ?_
  simp -dsimp -implicitDefEqProofs only [encUnit, push_cast, ↓trAdd_f, ↓stOf_f, seval]
  refine hK _ ?_
  try refine hK _ ?_
  repeat (first | refine awp_seq ?_ | refine awp_block ?_ | refine awp_skip ?_ | refine awp_scope ?_ | refine awp_label ?_)
  refine awp_region tabOk fun K hK => ?_
  simp -dsimp -implicitDefEqProofs only [push_cast, ↓trAdd_f, ↓stOf_f, seval]
  refine hK _ ?_
  have hst : r.st 0 = r.s0 := rfl
  cases hA : (r.s0 == 2) || (r.s0 == 3) with
  | false =>
    have e : trialB f r key 0 = false := by unfold trialB; rw [hst, hA]; rfl
    have h2 : (r.s0 == 2) = false := by cases h : (r.s0 == 2) <;> simp_all
    have h3 : (r.s0 == 3) = false := by cases h : (r.s0 == 3) <;> simp_all
    try refine hK _ ?_
    repeat (first | refine awp_seq ?_ | refine awp_block ?_ | refine awp_skip ?_ | refine awp_scope ?_ | refine awp_label ?_)
    refine awp_region tabOk fun K hK => ?_
    simp -dsimp -implicitDefEqProofs only [h2, h3, push_cast, ↓trAdd_f, ↓stOf_f, seval]
    refine hK _ (awp_ret ?_)
    simp -dsimp -implicitDefEqProofs only [e, push_cast, List.mem_append, List.mem_cons, List.mem_singleton, forall_eq_or_imp, forall_eq, ↓trAdd_f, ↓stOf_f, seval]
  | true =>
  cases hQ : decide (0 < r.tries) with
  | false =>
    have e : trialB f r key 0 = false := by unfold trialB; rw [hQ]; simp
    cases h2 : (r.s0 == 2) with
    | true =>
      try refine hK _ ?_
      repeat (first | refine awp_seq ?_ | refine awp_block ?_ | refine awp_skip ?_ | refine awp_scope ?_ | refine awp_label ?_)
      refine awp_region tabOk fun K hK => ?_
      simp -dsimp -implicitDefEqProofs only [h2, hQ, push_cast, ↓trAdd_f, ↓stOf_f, seval]
      refine hK _ (awp_ret ?_)
      simp -dsimp -implicitDefEqProofs only [e, push_cast, List.mem_append, List.mem_cons, List.mem_singleton, forall_eq_or_imp, forall_eq, ↓trAdd_f, ↓stOf_f, seval]
    | false =>
      have h3 : (r.s0 == 3) = true := by rw [h2] at hA; exact hA
      try refine hK _ ?_
      repeat (first | refine awp_seq ?_ | refine awp_block ?_ | refine awp_skip ?_ | refine awp_scope ?_ | refine awp_label ?_)
      refine awp_region tabOk fun K hK => ?_
      simp -dsimp -implicitDefEqProofs only [h2, h3, hQ, push_cast, ↓trAdd_f, ↓stOf_f, seval]
      refine hK _ (awp_ret ?_)
      simp -dsimp -implicitDefEqProofs only [e, push_cast, List.mem_append, List.mem_cons, List.mem_singleton, forall_eq_or_imp, forall_eq, ↓trAdd_f, ↓stOf_f, seval]
  | true =>
    have e : trialB f r key 0 = (wholeF f 0 key).2 := by unfold trialB; rw [hst, hA, hQ]; rfl
    cases h2 : (r.s0 == 2) with
    | true =>
      try refine hK _ ?_
      repeat (first | refine awp_seq ?_ | refine awp_block ?_ | refine awp_skip ?_ | refine awp_scope ?_ | refine awp_label ?_)
      refine awp_region tabOk fun K hK => ?_
      simp -dsimp -implicitDefEqProofs only [h2, hQ, push_cast, ↓trAdd_f, ↓stOf_f, seval]
      refine callK_simple (unitWhole_ok f r key 0 hf (by decide)) ?_ rfl fun _ => ?_
      · simp -dsimp -implicitDefEqProofs only [encUnit, push_cast, List.mem_append, List.mem_cons, List.mem_singleton, forall_eq_or_imp, forall_eq, ↓trAdd_f, ↓stOf_f, seval]
      simp -dsimp -implicitDefEqProofs only [push_cast, ↓trAdd_f, ↓stOf_f, seval]
      refine hK _ (awp_ret ?_)
      simp -dsimp -implicitDefEqProofs only [e, push_cast, List.mem_append, List.mem_cons, List.mem_singleton, forall_eq_or_imp, forall_eq, ↓trAdd_f, ↓stOf_f, seval]
    | false =>
      have h3 : (r.s0 == 3) = true := by rw [h2] at hA; exact hA
      try refine hK _ ?_
      repeat (first | refine awp_seq ?_ | refine awp_block ?_ | refine awp_skip ?_ | refine awp_scope ?_ | refine awp_label ?_)
      refine awp_region tabOk fun K hK => ?_
      simp -dsimp -implicitDefEqProofs only [h2, h3, hQ, push_cast, ↓trAdd_f, ↓stOf_f, seval]
      refine callK_simple (unitWhole_ok f r key 0 hf (by decide)) ?_ rfl fun _ => ?_
      · simp -dsimp -implicitDefEqProofs only [encUnit, push_cast, List.mem_append, List.mem_cons, List.mem_singleton, forall_eq_or_imp, forall_eq, ↓trAdd_f, ↓stOf_f, seval]
      simp -dsimp -implicitDefEqProofs only [push_cast, ↓trAdd_f, ↓stOf_f, seval]
      refine hK _ (awp_ret ?_)
      simp -dsimp -implicitDefEqProofs only [e, push_cast, List.mem_append, List.mem_cons, List.mem_singleton, forall_eq_or_imp, forall_eq, ↓trAdd_f, ↓stOf_f, seval]
theorem proved0_ok (f : Flash) (r : Rec) (key : Int) (hf : f.big) : FnS Tryd.prog 50 [.agg (encUnit f r key), .int .i64 0] [] (.bool (provedB f r key 0)) [] := by
  refine fn_walk tabOk Tryd.func50 rfl (by decide +kernel) Tryd.ntmps50 Tryd.results50 (by simp) fun B hB => ?_
  try refine hK _ ?_
  repeat (first | refine awp_seq ?_ | refine awp_block ?_ | refine awp_skip ?_ | refine awp_scope ?_ | refine awp_label ?_)
  refine awp_region tabOk fun K hK => ?_
  simp -dsimp -implicitDefEqProofs only [encUnit, push_cast, ↓trAdd_f, ↓stOf_f, seval]
  refine hK _ ?_
  have hst : r.st 0 = r.s0 := rfl
  cases hA : (r.s0 == 4) with
  | false =>
    have e : provedB f r key 0 = false := by unfold provedB; rw [hst, hA]; rfl
    try refine hK _ ?_
    repeat (first | refine awp_seq ?_ | refine awp_block ?_ | refine awp_skip ?_ | refine awp_scope ?_ | refine awp_label ?_)
    refine awp_region tabOk fun K hK => ?_
    simp -dsimp -implicitDefEqProofs only [hA, push_cast, ↓trAdd_f, ↓stOf_f, seval]
    refine hK _ (awp_ret ?_)
    simp -dsimp -implicitDefEqProofs only [e, push_cast, List.mem_append, List.mem_cons, List.mem_singleton, forall_eq_or_imp, forall_eq, ↓trAdd_f, ↓stOf_f, seval]
  | true =>
    have e : provedB f r key 0 = (wholeF f 0 key).2 := by unfold provedB; rw [hst, hA]; rfl
    try refine hK _ ?_
    repeat (first | refine awp_seq ?_ | refine awp_block ?_ | refine awp_skip ?_ | refine awp_scope ?_ | refine awp_label ?_)
    refine awp_region tabOk fun K hK => ?_
    simp -dsimp -implicitDefEqProofs only [hA, push_cast, ↓trAdd_f, ↓stOf_f, seval]
    refine callK_simple (unitWhole_ok f r key 0 hf (by decide)) ?_ rfl fun _ => ?_
    · simp -dsimp -implicitDefEqProofs only [encUnit, push_cast, List.mem_append, List.mem_cons, List.mem_singleton, forall_eq_or_imp, forall_eq, ↓trAdd_f, ↓stOf_f, seval]
    simp -dsimp -implicitDefEqProofs only [push_cast, ↓trAdd_f, ↓stOf_f, seval]
    refine hK _ (awp_ret ?_)
    simp -dsimp -implicitDefEqProofs only [e, push_cast, List.mem_append, List.mem_cons, List.mem_singleton, forall_eq_or_imp, forall_eq, ↓trAdd_f, ↓stOf_f, seval]
theorem trial1_ok (f : Flash) (r : Rec) (key : Int) (hf : f.big) : FnS Tryd.prog 48 [.agg (encUnit f r key), .int .i64 1] [] (.bool (trialB f r key 1)) [] := by
  refine fn_walk tabOk Tryd.func48 rfl (by decide +kernel) Tryd.ntmps48 Tryd.results48 (by simp) fun B hB => ?_
  try refine hK _ ?_
  repeat (first | refine awp_seq ?_ | refine awp_block ?_ | refine awp_skip ?_ | refine awp_scope ?_ | refine awp_label ?_)
  refine awp_region tabOk fun K hK => ?_
  simp -dsimp -implicitDefEqProofs only [encUnit, push_cast, ↓trAdd_f, ↓stOf_f, seval]
  refine hK _ ?_
  try refine hK _ ?_
  repeat (first | refine awp_seq ?_ | refine awp_block ?_ | refine awp_skip ?_ | refine awp_scope ?_ | refine awp_label ?_)
  refine awp_region tabOk fun K hK => ?_
  simp -dsimp -implicitDefEqProofs only [push_cast, ↓trAdd_f, ↓stOf_f, seval]
  refine hK _ ?_
  have hst : r.st 1 = r.s1 := rfl
  cases hA : (r.s1 == 2) || (r.s1 == 3) with
  | false =>
    have e : trialB f r key 1 = false := by unfold trialB; rw [hst, hA]; rfl
    have h2 : (r.s1 == 2) = false := by cases h : (r.s1 == 2) <;> simp_all
    have h3 : (r.s1 == 3) = false := by cases h : (r.s1 == 3) <;> simp_all
    try refine hK _ ?_
    repeat (first | refine awp_seq ?_ | refine awp_block ?_ | refine awp_skip ?_ | refine awp_scope ?_ | refine awp_label ?_)
    refine awp_region tabOk fun K hK => ?_
    simp -dsimp -implicitDefEqProofs only [h2, h3, push_cast, ↓trAdd_f, ↓stOf_f, seval]
    refine hK _ (awp_ret ?_)
    simp -dsimp -implicitDefEqProofs only [e, push_cast, List.mem_append, List.mem_cons, List.mem_singleton, forall_eq_or_imp, forall_eq, ↓trAdd_f, ↓stOf_f, seval]
  | true =>
  cases hQ : decide (0 < r.tries) with
  | false =>
    have e : trialB f r key 1 = false := by unfold trialB; rw [hQ]; simp
    cases h2 : (r.s1 == 2) with
    | true =>
      try refine hK _ ?_
      repeat (first | refine awp_seq ?_ | refine awp_block ?_ | refine awp_skip ?_ | refine awp_scope ?_ | refine awp_label ?_)
      refine awp_region tabOk fun K hK => ?_
      simp -dsimp -implicitDefEqProofs only [h2, hQ, push_cast, ↓trAdd_f, ↓stOf_f, seval]
      refine hK _ (awp_ret ?_)
      simp -dsimp -implicitDefEqProofs only [e, push_cast, List.mem_append, List.mem_cons, List.mem_singleton, forall_eq_or_imp, forall_eq, ↓trAdd_f, ↓stOf_f, seval]
    | false =>
      have h3 : (r.s1 == 3) = true := by rw [h2] at hA; exact hA
      try refine hK _ ?_
      repeat (first | refine awp_seq ?_ | refine awp_block ?_ | refine awp_skip ?_ | refine awp_scope ?_ | refine awp_label ?_)
      refine awp_region tabOk fun K hK => ?_
      simp -dsimp -implicitDefEqProofs only [h2, h3, hQ, push_cast, ↓trAdd_f, ↓stOf_f, seval]
      refine hK _ (awp_ret ?_)
      simp -dsimp -implicitDefEqProofs only [e, push_cast, List.mem_append, List.mem_cons, List.mem_singleton, forall_eq_or_imp, forall_eq, ↓trAdd_f, ↓stOf_f, seval]
  | true =>
    have e : trialB f r key 1 = (wholeF f 1 key).2 := by unfold trialB; rw [hst, hA, hQ]; rfl
    cases h2 : (r.s1 == 2) with
    | true =>
      try refine hK _ ?_
      repeat (first | refine awp_seq ?_ | refine awp_block ?_ | refine awp_skip ?_ | refine awp_scope ?_ | refine awp_label ?_)
      refine awp_region tabOk fun K hK => ?_
      simp -dsimp -implicitDefEqProofs only [h2, hQ, push_cast, ↓trAdd_f, ↓stOf_f, seval]
      refine callK_simple (unitWhole_ok f r key 1 hf (by decide)) ?_ rfl fun _ => ?_
      · simp -dsimp -implicitDefEqProofs only [encUnit, push_cast, List.mem_append, List.mem_cons, List.mem_singleton, forall_eq_or_imp, forall_eq, ↓trAdd_f, ↓stOf_f, seval]
      simp -dsimp -implicitDefEqProofs only [push_cast, ↓trAdd_f, ↓stOf_f, seval]
      refine hK _ (awp_ret ?_)
      simp -dsimp -implicitDefEqProofs only [e, push_cast, List.mem_append, List.mem_cons, List.mem_singleton, forall_eq_or_imp, forall_eq, ↓trAdd_f, ↓stOf_f, seval]
    | false =>
      have h3 : (r.s1 == 3) = true := by rw [h2] at hA; exact hA
      try refine hK _ ?_
      repeat (first | refine awp_seq ?_ | refine awp_block ?_ | refine awp_skip ?_ | refine awp_scope ?_ | refine awp_label ?_)
      refine awp_region tabOk fun K hK => ?_
      simp -dsimp -implicitDefEqProofs only [h2, h3, hQ, push_cast, ↓trAdd_f, ↓stOf_f, seval]
      refine callK_simple (unitWhole_ok f r key 1 hf (by decide)) ?_ rfl fun _ => ?_
      · simp -dsimp -implicitDefEqProofs only [encUnit, push_cast, List.mem_append, List.mem_cons, List.mem_singleton, forall_eq_or_imp, forall_eq, ↓trAdd_f, ↓stOf_f, seval]
      simp -dsimp -implicitDefEqProofs only [push_cast, ↓trAdd_f, ↓stOf_f, seval]
      refine hK _ (awp_ret ?_)
      simp -dsimp -implicitDefEqProofs only [e, push_cast, List.mem_append, List.mem_cons, List.mem_singleton, forall_eq_or_imp, forall_eq, ↓trAdd_f, ↓stOf_f, seval]
theorem proved1_ok (f : Flash) (r : Rec) (key : Int) (hf : f.big) : FnS Tryd.prog 50 [.agg (encUnit f r key), .int .i64 1] [] (.bool (provedB f r key 1)) [] := by
  refine fn_walk tabOk Tryd.func50 rfl (by decide +kernel) Tryd.ntmps50 Tryd.results50 (by simp) fun B hB => ?_
  try refine hK _ ?_
  repeat (first | refine awp_seq ?_ | refine awp_block ?_ | refine awp_skip ?_ | refine awp_scope ?_ | refine awp_label ?_)
  refine awp_region tabOk fun K hK => ?_
  simp -dsimp -implicitDefEqProofs only [encUnit, push_cast, ↓trAdd_f, ↓stOf_f, seval]
  refine hK _ ?_
  have hst : r.st 1 = r.s1 := rfl
  cases hA : (r.s1 == 4) with
  | false =>
    have e : provedB f r key 1 = false := by unfold provedB; rw [hst, hA]; rfl
    try refine hK _ ?_
    repeat (first | refine awp_seq ?_ | refine awp_block ?_ | refine awp_skip ?_ | refine awp_scope ?_ | refine awp_label ?_)
    refine awp_region tabOk fun K hK => ?_
    simp -dsimp -implicitDefEqProofs only [hA, push_cast, ↓trAdd_f, ↓stOf_f, seval]
    refine hK _ (awp_ret ?_)
    simp -dsimp -implicitDefEqProofs only [e, push_cast, List.mem_append, List.mem_cons, List.mem_singleton, forall_eq_or_imp, forall_eq, ↓trAdd_f, ↓stOf_f, seval]
  | true =>
    have e : provedB f r key 1 = (wholeF f 1 key).2 := by unfold provedB; rw [hst, hA]; rfl
    try refine hK _ ?_
    repeat (first | refine awp_seq ?_ | refine awp_block ?_ | refine awp_skip ?_ | refine awp_scope ?_ | refine awp_label ?_)
    refine awp_region tabOk fun K hK => ?_
    simp -dsimp -implicitDefEqProofs only [hA, push_cast, ↓trAdd_f, ↓stOf_f, seval]
    refine callK_simple (unitWhole_ok f r key 1 hf (by decide)) ?_ rfl fun _ => ?_
    · simp -dsimp -implicitDefEqProofs only [encUnit, push_cast, List.mem_append, List.mem_cons, List.mem_singleton, forall_eq_or_imp, forall_eq, ↓trAdd_f, ↓stOf_f, seval]
    simp -dsimp -implicitDefEqProofs only [push_cast, ↓trAdd_f, ↓stOf_f, seval]
    refine hK _ (awp_ret ?_)
    simp -dsimp -implicitDefEqProofs only [e, push_cast, List.mem_append, List.mem_cons, List.mem_singleton, forall_eq_or_imp, forall_eq, ↓trAdd_f, ↓stOf_f, seval]
/-- The better one. -/
theorem better0_ok (r : Rec) : FnS Tryd.prog 83 [.int .i64 0, .int .i64 (-1), .pf (encRec r)] [] (.bool true) [] := by
  refine fn_walk tabOk Tryd.func83 rfl (by decide +kernel) Tryd.ntmps83 Tryd.results83 (by simp) fun B hB => ?_
  try refine hK _ ?_
  repeat (first | refine awp_seq ?_ | refine awp_block ?_ | refine awp_skip ?_ | refine awp_scope ?_ | refine awp_label ?_)
  refine awp_region tabOk fun K hK => ?_
  simp -dsimp -implicitDefEqProofs only [push_cast, ↓trAdd_f, ↓stOf_f, seval]
  refine hK _ ?_
  try refine hK _ ?_
  repeat (first | refine awp_seq ?_ | refine awp_block ?_ | refine awp_skip ?_ | refine awp_scope ?_ | refine awp_label ?_)
  refine awp_draw tabOk (by kernel_rfl) (by kernel_rfl) fun K hK C hC => ?_
  simp -dsimp -implicitDefEqProofs only [encRec, push_cast, ↓trAdd_f, ↓stOf_f, seval]
  refine ⟨hC _ (by kernel_rfl), hK _ (awp_ret ?_)⟩
  simp -dsimp -implicitDefEqProofs only [push_cast, List.mem_append, List.mem_cons, List.mem_singleton, forall_eq_or_imp, forall_eq, ↓trAdd_f, ↓stOf_f, seval]
theorem better1_ok (r : Rec) : FnS Tryd.prog 83 [.int .i64 1, .int .i64 (-1), .pf (encRec r)] [] (.bool true) [] := by
  refine fn_walk tabOk Tryd.func83 rfl (by decide +kernel) Tryd.ntmps83 Tryd.results83 (by simp) fun B hB => ?_
  try refine hK _ ?_
  repeat (first | refine awp_seq ?_ | refine awp_block ?_ | refine awp_skip ?_ | refine awp_scope ?_ | refine awp_label ?_)
  refine awp_region tabOk fun K hK => ?_
  simp -dsimp -implicitDefEqProofs only [push_cast, ↓trAdd_f, ↓stOf_f, seval]
  refine hK _ ?_
  try refine hK _ ?_
  repeat (first | refine awp_seq ?_ | refine awp_block ?_ | refine awp_skip ?_ | refine awp_scope ?_ | refine awp_label ?_)
  refine awp_draw tabOk (by kernel_rfl) (by kernel_rfl) fun K hK C hC => ?_
  simp -dsimp -implicitDefEqProofs only [encRec, push_cast, ↓trAdd_f, ↓stOf_f, seval]
  refine ⟨hC _ (by kernel_rfl), hK _ (awp_ret ?_)⟩
  simp -dsimp -implicitDefEqProofs only [push_cast, List.mem_append, List.mem_cons, List.mem_singleton, forall_eq_or_imp, forall_eq, ↓trAdd_f, ↓stOf_f, seval]
theorem better10_ok (r : Rec) : FnS Tryd.prog 83 [.int .i64 1, .int .i64 0, .pf (encRec r)] [] (.bool (decide (r.v0 < r.v1))) [] := by
  refine fn_walk tabOk Tryd.func83 rfl (by decide +kernel) Tryd.ntmps83 Tryd.results83 (by simp) fun B hB => ?_
  try refine hK _ ?_
  repeat (first | refine awp_seq ?_ | refine awp_block ?_ | refine awp_skip ?_ | refine awp_scope ?_ | refine awp_label ?_)
  refine awp_region tabOk fun K hK => ?_
  simp -dsimp -implicitDefEqProofs only [push_cast, ↓trAdd_f, ↓stOf_f, seval]
  refine hK _ ?_
  try refine hK _ ?_
  repeat (first | refine awp_seq ?_ | refine awp_block ?_ | refine awp_skip ?_ | refine awp_scope ?_ | refine awp_label ?_)
  refine awp_draw tabOk (by kernel_rfl) (by kernel_rfl) fun K hK C hC => ?_
  simp -dsimp -implicitDefEqProofs only [encRec, push_cast, ↓trAdd_f, ↓stOf_f, seval]
  refine ⟨hC _ (by kernel_rfl), hK _ (awp_ret ?_)⟩
  simp -dsimp -implicitDefEqProofs only [push_cast, List.mem_append, List.mem_cons, List.mem_singleton, forall_eq_or_imp, forall_eq, ↓trAdd_f, ↓stOf_f, seval]
def bestS (p0 p1 : Bool) (r : Rec) : Int := if p0 then (if p1 && decide (r.v0 < r.v1) then 1 else 0) else (if p1 then 1 else -1)
def bsS (g : Nat) (f : Flash) (r : Rec) (key : Int) (p0 p1 : Bool) (k : Nat) : AS := { sl := [(0, .fn (.func g) [.agg (encUnit f r key)] []), (5, .fn (.func 83) [] [.ptr 100 0]), (6, .int .i64 (match k with | 0 => -1 | 1 => (if p0 then 0 else -1) | _ => bestS p0 p1 r)), (9, .int .i64 k)], st := [(100, .box (encRec r))], nx := 200, n := 24 }
theorem best_ok (g : FuncId) (f : Flash) (r : Rec) (key : Int) (p0 p1 : Bool) (h0 : FnS Tryd.prog g [.agg (encUnit f r key), .int .i64 0] [] (.bool p0) []) (h1 : FnS Tryd.prog g [.agg (encUnit f r key), .int .i64 1] [] (.bool p1) []) :
    FnS Tryd.prog 47 [.fn (.func g) [.agg (encUnit f r key)] [], .agg (encRec r)] [] (.int .i64 (bestS p0 p1 r)) [] := by
  refine fn_walk tabOk Tryd.func47 rfl (by decide +kernel) Tryd.ntmps47 Tryd.results47 (by simp) fun B hB => ?_
  try refine hK _ ?_
  repeat (first | refine awp_seq ?_ | refine awp_block ?_ | refine awp_skip ?_ | refine awp_scope ?_ | refine awp_label ?_)
  refine awp_region tabOk fun K hK => ?_
  simp -dsimp -implicitDefEqProofs only [encRec, push_cast, ↓trAdd_f, ↓stOf_f, seval]
  refine hK _ ?_
  try refine hK _ ?_
  repeat (first | refine awp_seq ?_ | refine awp_block ?_ | refine awp_skip ?_ | refine awp_scope ?_ | refine awp_label ?_)
  refine awp_region tabOk fun K hK => ?_
  simp -dsimp -implicitDefEqProofs only [push_cast, ↓trAdd_f, ↓stOf_f, seval]
  refine hK _ ?_
  try refine hK _ ?_
  repeat (first | refine awp_seq ?_ | refine awp_block ?_ | refine awp_skip ?_ | refine awp_scope ?_ | refine awp_label ?_)
  refine awp_region tabOk fun K hK => ?_
  simp -dsimp -implicitDefEqProofs only [push_cast, ↓trAdd_f, ↓stOf_f, seval]
  refine hK _ ?_
  try refine hK _ ?_
  repeat (first | refine awp_seq ?_ | refine awp_block ?_ | refine awp_skip ?_ | refine awp_scope ?_ | refine awp_label ?_)
  refine awp_region tabOk fun K hK => ?_
  simp -dsimp -implicitDefEqProofs only [push_cast, ↓trAdd_f, ↓stOf_f, seval]
  refine hK _ (awp_block ?_)
  refine awp_for (fun k : Nat => bsS g f r key p0 p1 k) (fun k => k ≤ 2) (fun k => 2 - k) 0 (Nat.zero_le _) ?_ fun k hk => ?_
  · simp only [bsS]
    refine le_intro hB [(100, 0)] (by simp) (fun b hb => absurd hb (Nat.not_lt_zero b)) rfl ?_ ?_ rfl <;> simp -dsimp -implicitDefEqProofs only [encUnit, pages_ren, ints_ren, pages_okl, ints_okl, encRec, push_cast, ↓trAdd_f, ↓stOf_f, seval]
  have hk3 : k = 0 ∨ k = 1 ∨ k = 2 := by omega
  rcases hk3 with rfl | rfl | rfl
  · have d : decide ((0 : Int) < 2) = true := rfl
    have w : IntKind.i64.wrap 1 = 1 := by decide
    simp only [bsS]
    try refine hK _ ?_
    repeat (first | refine awp_seq ?_ | refine awp_block ?_ | refine awp_skip ?_ | refine awp_scope ?_ | refine awp_label ?_)
    refine awp_region tabOk fun K hK => ?_
    simp -dsimp -implicitDefEqProofs only [d, push_cast, ↓trAdd_f, ↓stOf_f, seval]
    try refine hK _ ?_
    repeat (first | refine awp_seq ?_ | refine awp_block ?_ | refine awp_skip ?_ | refine awp_scope ?_ | refine awp_label ?_)
    refine awp_cond (b := true) (by simp -dsimp -implicitDefEqProofs only [push_cast, ↓trAdd_f, ↓stOf_f, seval]) (fun h => ?_) (fun h => ?_)
    rotate_left
    · cases h
    refine awp_skip ?_
    try refine hK _ ?_
    repeat (first | refine awp_seq ?_ | refine awp_block ?_ | refine awp_skip ?_ | refine awp_scope ?_ | refine awp_label ?_)
    refine awp_region tabOk fun K hK => ?_
    simp -dsimp -implicitDefEqProofs only [push_cast, ↓trAdd_f, ↓stOf_f, seval]
    refine hK _ ?_
    try refine hK _ ?_
    repeat (first | refine awp_seq ?_ | refine awp_block ?_ | refine awp_skip ?_ | refine awp_scope ?_ | refine awp_label ?_)
    refine awp_region tabOk fun K hK => ?_
    simp -dsimp -implicitDefEqProofs only [push_cast, ↓trAdd_f, ↓stOf_f, seval]
    refine callK_simple h0 ?_ rfl fun _ => ?_
    · simp -dsimp -implicitDefEqProofs only [encUnit, push_cast, List.mem_append, List.mem_cons, List.mem_singleton, forall_eq_or_imp, forall_eq, ↓trAdd_f, ↓stOf_f, seval]
    cases hp0 : p0 with
    | false =>
      simp -dsimp -implicitDefEqProofs only [push_cast, ↓trAdd_f, ↓stOf_f, seval]
      refine hK _ ?_
      try refine hK _ ?_
      repeat (first | refine awp_seq ?_ | refine awp_block ?_ | refine awp_skip ?_ | refine awp_scope ?_ | refine awp_label ?_)
      refine awp_cond (b := false) (by simp -dsimp -implicitDefEqProofs only [push_cast, ↓trAdd_f, ↓stOf_f, seval]) (fun h => ?_) (fun h => ?_)
      · cases h
      refine awp_skip ?_
      try refine hK _ ?_
      repeat (first | refine awp_seq ?_ | refine awp_block ?_ | refine awp_skip ?_ | refine awp_scope ?_ | refine awp_label ?_)
      refine awp_region tabOk fun K hK => ?_
      simp -dsimp -implicitDefEqProofs only [w, push_cast, ↓trAdd_f, ↓stOf_f, seval]
      refine hK _ ⟨1, (by decide : 1 ≤ 2), (by decide : 2 - 1 < 2 - 0), ?_⟩
      have e0 : (if p0 = true then (0 : Int) else -1) = -1 := by rw [hp0]; rfl
      simp only [bsS, e0]
      refine le_intro hB [] (by simp) (fun b _ => rfl) rfl ?_ ?_ rfl <;> simp -dsimp -implicitDefEqProofs only [encUnit, pages_ren, ints_ren, pages_okl, ints_okl, encRec, push_cast, ↓trAdd_f, ↓stOf_f, seval]
    | true =>
      simp -dsimp -implicitDefEqProofs only [push_cast, ↓trAdd_f, ↓stOf_f, seval]
      refine callK_simple (better0_ok r) ?_ rfl fun _ => ?_
      · simp -dsimp -implicitDefEqProofs only [encRec, push_cast, List.mem_append, List.mem_cons, List.mem_singleton, forall_eq_or_imp, forall_eq, ↓trAdd_f, ↓stOf_f, seval]
      simp -dsimp -implicitDefEqProofs only [push_cast, ↓trAdd_f, ↓stOf_f, seval]
      refine hK _ ?_
      try refine hK _ ?_
      repeat (first | refine awp_seq ?_ | refine awp_block ?_ | refine awp_skip ?_ | refine awp_scope ?_ | refine awp_label ?_)
      refine awp_cond (b := true) (by simp -dsimp -implicitDefEqProofs only [push_cast, ↓trAdd_f, ↓stOf_f, seval]) (fun h => ?_) (fun h => ?_)
      rotate_left
      · cases h
      try refine hK _ ?_
      repeat (first | refine awp_seq ?_ | refine awp_block ?_ | refine awp_skip ?_ | refine awp_scope ?_ | refine awp_label ?_)
      refine awp_region tabOk fun K hK => ?_
      simp -dsimp -implicitDefEqProofs only [push_cast, ↓trAdd_f, ↓stOf_f, seval]
      refine hK _ ?_
      try refine hK _ ?_
      repeat (first | refine awp_seq ?_ | refine awp_block ?_ | refine awp_skip ?_ | refine awp_scope ?_ | refine awp_label ?_)
      refine awp_region tabOk fun K hK => ?_
      simp -dsimp -implicitDefEqProofs only [w, push_cast, ↓trAdd_f, ↓stOf_f, seval]
      refine hK _ ⟨1, (by decide : 1 ≤ 2), (by decide : 2 - 1 < 2 - 0), ?_⟩
      have e0 : (if p0 = true then (0 : Int) else -1) = 0 := by rw [hp0]; rfl
      simp only [bsS, e0]
      refine le_intro hB [] (by simp) (fun b _ => rfl) rfl ?_ ?_ rfl <;> simp -dsimp -implicitDefEqProofs only [encUnit, pages_ren, ints_ren, pages_okl, ints_okl, encRec, push_cast, ↓trAdd_f, ↓stOf_f, seval]
  · have d : decide ((1 : Int) < 2) = true := rfl
    have w : IntKind.i64.wrap 2 = 2 := by decide
    simp only [bsS]
    try refine hK _ ?_
    repeat (first | refine awp_seq ?_ | refine awp_block ?_ | refine awp_skip ?_ | refine awp_scope ?_ | refine awp_label ?_)
    refine awp_region tabOk fun K hK => ?_
    simp -dsimp -implicitDefEqProofs only [d, push_cast, ↓trAdd_f, ↓stOf_f, seval]
    try refine hK _ ?_
    repeat (first | refine awp_seq ?_ | refine awp_block ?_ | refine awp_skip ?_ | refine awp_scope ?_ | refine awp_label ?_)
    refine awp_cond (b := true) (by simp -dsimp -implicitDefEqProofs only [push_cast, ↓trAdd_f, ↓stOf_f, seval]) (fun h => ?_) (fun h => ?_)
    rotate_left
    · cases h
    refine awp_skip ?_
    try refine hK _ ?_
    repeat (first | refine awp_seq ?_ | refine awp_block ?_ | refine awp_skip ?_ | refine awp_scope ?_ | refine awp_label ?_)
    refine awp_region tabOk fun K hK => ?_
    simp -dsimp -implicitDefEqProofs only [push_cast, ↓trAdd_f, ↓stOf_f, seval]
    refine hK _ ?_
    try refine hK _ ?_
    repeat (first | refine awp_seq ?_ | refine awp_block ?_ | refine awp_skip ?_ | refine awp_scope ?_ | refine awp_label ?_)
    refine awp_region tabOk fun K hK => ?_
    simp -dsimp -implicitDefEqProofs only [push_cast, ↓trAdd_f, ↓stOf_f, seval]
    refine callK_simple h1 ?_ rfl fun _ => ?_
    · simp -dsimp -implicitDefEqProofs only [encUnit, push_cast, List.mem_append, List.mem_cons, List.mem_singleton, forall_eq_or_imp, forall_eq, ↓trAdd_f, ↓stOf_f, seval]
    cases hp1 : p1 with
    | false =>
      have e : bestS p0 false r = if p0 then 0 else -1 := by unfold bestS; simp
      simp -dsimp -implicitDefEqProofs only [push_cast, ↓trAdd_f, ↓stOf_f, seval]
      refine hK _ ?_
      try refine hK _ ?_
      repeat (first | refine awp_seq ?_ | refine awp_block ?_ | refine awp_skip ?_ | refine awp_scope ?_ | refine awp_label ?_)
      refine awp_cond (b := false) (by simp -dsimp -implicitDefEqProofs only [push_cast, ↓trAdd_f, ↓stOf_f, seval]) (fun h => ?_) (fun h => ?_)
      · cases h
      refine awp_skip ?_
      try refine hK _ ?_
      repeat (first | refine awp_seq ?_ | refine awp_block ?_ | refine awp_skip ?_ | refine awp_scope ?_ | refine awp_label ?_)
      refine awp_region tabOk fun K hK => ?_
      simp -dsimp -implicitDefEqProofs only [w, push_cast, ↓trAdd_f, ↓stOf_f, seval]
      refine hK _ ⟨2, (by decide : 2 ≤ 2), (by decide : 2 - 2 < 2 - 1), ?_⟩
      simp only [bsS, hp1, e]
      refine le_intro hB [] (by simp) (fun b _ => rfl) rfl ?_ ?_ rfl <;> simp -dsimp -implicitDefEqProofs only [encUnit, pages_ren, ints_ren, pages_okl, ints_okl, encRec, push_cast, ↓trAdd_f, ↓stOf_f, seval]
    | true =>
    cases hp0 : p0 with
    | false =>
      have e : bestS false true r = 1 := rfl
      simp -dsimp -implicitDefEqProofs only [push_cast, ↓trAdd_f, ↓stOf_f, seval]
      refine callK_simple (better1_ok r) ?_ rfl fun _ => ?_
      · simp -dsimp -implicitDefEqProofs only [encRec, push_cast, List.mem_append, List.mem_cons, List.mem_singleton, forall_eq_or_imp, forall_eq, ↓trAdd_f, ↓stOf_f, seval]
      simp -dsimp -implicitDefEqProofs only [push_cast, ↓trAdd_f, ↓stOf_f, seval]
      refine hK _ ?_
      try refine hK _ ?_
      repeat (first | refine awp_seq ?_ | refine awp_block ?_ | refine awp_skip ?_ | refine awp_scope ?_ | refine awp_label ?_)
      refine awp_cond (b := true) (by simp -dsimp -implicitDefEqProofs only [push_cast, ↓trAdd_f, ↓stOf_f, seval]) (fun h => ?_) (fun h => ?_)
      rotate_left
      · cases h
      try refine hK _ ?_
      repeat (first | refine awp_seq ?_ | refine awp_block ?_ | refine awp_skip ?_ | refine awp_scope ?_ | refine awp_label ?_)
      refine awp_region tabOk fun K hK => ?_
      simp -dsimp -implicitDefEqProofs only [push_cast, ↓trAdd_f, ↓stOf_f, seval]
      refine hK _ ?_
      try refine hK _ ?_
      repeat (first | refine awp_seq ?_ | refine awp_block ?_ | refine awp_skip ?_ | refine awp_scope ?_ | refine awp_label ?_)
      refine awp_region tabOk fun K hK => ?_
      simp -dsimp -implicitDefEqProofs only [w, push_cast, ↓trAdd_f, ↓stOf_f, seval]
      refine hK _ ⟨2, (by decide : 2 ≤ 2), (by decide : 2 - 2 < 2 - 1), ?_⟩
      simp only [bsS, hp1, hp0, e]
      refine le_intro hB [] (by simp) (fun b _ => rfl) rfl ?_ ?_ rfl <;> simp -dsimp -implicitDefEqProofs only [encUnit, pages_ren, ints_ren, pages_okl, ints_okl, encRec, push_cast, ↓trAdd_f, ↓stOf_f, seval]
    | true =>
      simp -dsimp -implicitDefEqProofs only [push_cast, ↓trAdd_f, ↓stOf_f, seval]
      refine callK_simple (better10_ok r) ?_ rfl fun _ => ?_
      · simp -dsimp -implicitDefEqProofs only [encRec, push_cast, List.mem_append, List.mem_cons, List.mem_singleton, forall_eq_or_imp, forall_eq, ↓trAdd_f, ↓stOf_f, seval]
      cases hv : decide (r.v0 < r.v1) with
      | true =>
        have e : bestS true true r = 1 := by unfold bestS; rw [hv]; rfl
        simp -dsimp -implicitDefEqProofs only [push_cast, ↓trAdd_f, ↓stOf_f, seval]
        refine hK _ ?_
        try refine hK _ ?_
        repeat (first | refine awp_seq ?_ | refine awp_block ?_ | refine awp_skip ?_ | refine awp_scope ?_ | refine awp_label ?_)
        refine awp_cond (b := true) (by simp -dsimp -implicitDefEqProofs only [push_cast, ↓trAdd_f, ↓stOf_f, seval]) (fun h => ?_) (fun h => ?_)
        rotate_left
        · cases h
        try refine hK _ ?_
        repeat (first | refine awp_seq ?_ | refine awp_block ?_ | refine awp_skip ?_ | refine awp_scope ?_ | refine awp_label ?_)
        refine awp_region tabOk fun K hK => ?_
        simp -dsimp -implicitDefEqProofs only [push_cast, ↓trAdd_f, ↓stOf_f, seval]
        refine hK _ ?_
        try refine hK _ ?_
        repeat (first | refine awp_seq ?_ | refine awp_block ?_ | refine awp_skip ?_ | refine awp_scope ?_ | refine awp_label ?_)
        refine awp_region tabOk fun K hK => ?_
        simp -dsimp -implicitDefEqProofs only [w, push_cast, ↓trAdd_f, ↓stOf_f, seval]
        refine hK _ ⟨2, (by decide : 2 ≤ 2), (by decide : 2 - 2 < 2 - 1), ?_⟩
        simp only [bsS, hp1, hp0, e]
        refine le_intro hB [] (by simp) (fun b _ => rfl) rfl ?_ ?_ rfl <;> simp -dsimp -implicitDefEqProofs only [encUnit, pages_ren, ints_ren, pages_okl, ints_okl, encRec, push_cast, ↓trAdd_f, ↓stOf_f, seval]
      | false =>
        have e : bestS true true r = 0 := by unfold bestS; rw [hv]; rfl
        simp -dsimp -implicitDefEqProofs only [push_cast, ↓trAdd_f, ↓stOf_f, seval]
        refine hK _ ?_
        try refine hK _ ?_
        repeat (first | refine awp_seq ?_ | refine awp_block ?_ | refine awp_skip ?_ | refine awp_scope ?_ | refine awp_label ?_)
        refine awp_cond (b := false) (by simp -dsimp -implicitDefEqProofs only [push_cast, ↓trAdd_f, ↓stOf_f, seval]) (fun h => ?_) (fun h => ?_)
        · cases h
        refine awp_skip ?_
        try refine hK _ ?_
        repeat (first | refine awp_seq ?_ | refine awp_block ?_ | refine awp_skip ?_ | refine awp_scope ?_ | refine awp_label ?_)
        refine awp_region tabOk fun K hK => ?_
        simp -dsimp -implicitDefEqProofs only [w, push_cast, ↓trAdd_f, ↓stOf_f, seval]
        refine hK _ ⟨2, (by decide : 2 ≤ 2), (by decide : 2 - 2 < 2 - 1), ?_⟩
        simp only [bsS, hp1, hp0, e]
        refine le_intro hB [] (by simp) (fun b _ => rfl) rfl ?_ ?_ rfl <;> simp -dsimp -implicitDefEqProofs only [encUnit, pages_ren, ints_ren, pages_okl, ints_okl, encRec, push_cast, ↓trAdd_f, ↓stOf_f, seval]
  · have d : decide ((2 : Int) < 2) = false := rfl
    simp only [bsS]
    try refine hK _ ?_
    repeat (first | refine awp_seq ?_ | refine awp_block ?_ | refine awp_skip ?_ | refine awp_scope ?_ | refine awp_label ?_)
    refine awp_region tabOk fun K hK => ?_
    simp -dsimp -implicitDefEqProofs only [d, push_cast, ↓trAdd_f, ↓stOf_f, seval]
    try refine hK _ ?_
    repeat (first | refine awp_seq ?_ | refine awp_block ?_ | refine awp_skip ?_ | refine awp_scope ?_ | refine awp_label ?_)
    refine awp_cond (b := false) (by simp -dsimp -implicitDefEqProofs only [push_cast, ↓trAdd_f, ↓stOf_f, seval]) (fun h => ?_) (fun h => ?_)
    · cases h
    refine awp_exit rfl ?_
    try refine hK _ ?_
    repeat (first | refine awp_seq ?_ | refine awp_block ?_ | refine awp_skip ?_ | refine awp_scope ?_ | refine awp_label ?_)
    refine awp_region tabOk fun K hK => ?_
    simp -dsimp -implicitDefEqProofs only [push_cast, ↓trAdd_f, ↓stOf_f, seval]
    refine hK _ (awp_ret ?_)
    simp -dsimp -implicitDefEqProofs only [push_cast, List.mem_append, List.mem_cons, List.mem_singleton, forall_eq_or_imp, forall_eq, ↓trAdd_f, ↓stOf_f, seval]
/-- The record that is put is the next one. -/
def putB (f : Flash) (r : Rec) : Flash × Int := putF f { r with seq := r.seq + 1 }
theorem putB_ok (f : Flash) (r : Rec) (hf : f.fine) (hs : 0 ≤ r.seq ∧ r.seq < 2147483648) : FnS Tryd.prog 49 [.agg (encFlash f), .agg (encRec r)] [] (.tup [.agg (encFlash (putB f r).1), .int .i64 (putB f r).2]) [] := by
  have w : IntKind.i64.wrap (r.seq + 1) = r.seq + 1 := wrap_i64 (by omega) (by omega)
  refine fn_walk tabOk Tryd.func49 rfl (by decide +kernel) Tryd.ntmps49 Tryd.results49 (by simp) fun B hB => ?_
  try refine hK _ ?_
  repeat (first | refine awp_seq ?_ | refine awp_block ?_ | refine awp_skip ?_ | refine awp_scope ?_ | refine awp_label ?_)
  refine awp_region tabOk fun K hK => ?_
  simp -dsimp -implicitDefEqProofs only [encFlash, encRec, push_cast, ↓trAdd_f, ↓stOf_f, seval]
  refine hK _ ?_
  try refine hK _ ?_
  repeat (first | refine awp_seq ?_ | refine awp_block ?_ | refine awp_skip ?_ | refine awp_scope ?_ | refine awp_label ?_)
  refine awp_region tabOk fun K hK => ?_
  simp -dsimp -implicitDefEqProofs only [w, push_cast, ↓trAdd_f, ↓stOf_f, seval]
  refine hK _ ?_
  try refine hK _ ?_
  repeat (first | refine awp_seq ?_ | refine awp_block ?_ | refine awp_skip ?_ | refine awp_scope ?_ | refine awp_label ?_)
  refine awp_region tabOk fun K hK => ?_
  simp -dsimp -implicitDefEqProofs only [push_cast, ↓trAdd_f, ↓stOf_f, seval]
  refine callK_simple (put_ok f { r with seq := r.seq + 1 } hf) ?_ rfl fun _ => ?_
  · simp -dsimp -implicitDefEqProofs only [encFlash, encRec, push_cast, List.mem_append, List.mem_cons, List.mem_singleton, forall_eq_or_imp, forall_eq, ↓trAdd_f, ↓stOf_f, seval]
  have e : putF f { r with seq := r.seq + 1 } = putB f r := rfl
  rw [e]
  generalize putB f r = o at *
  obtain ⟨o1, o2⟩ := o
  simp -dsimp -implicitDefEqProofs only [encFlash, push_cast, ↓trAdd_f, ↓stOf_f, seval]
  refine hK _ (awp_ret ?_)
  simp -dsimp -implicitDefEqProofs only [encFlash, push_cast, List.mem_append, List.mem_cons, List.mem_singleton, forall_eq_or_imp, forall_eq, ↓trAdd_f, ↓stOf_f, seval]
end Go.Proofs.YtoifmpiikopelaaDoorFw

/-
  Walks: boot.Well, Boot.
-/
namespace Go.Proofs.YtoifmpiikopelaaDoorFw
open Go Go.Proofs
set_option maxRecDepth 100000
set_option maxHeartbeats 4000000
set_option linter.unusedVariables false
set_option linter.unusedSimpArgs false

def Rec.setSt (r : Rec) (s : Nat) (v : Int) : Rec := if s = 0 then { r with s0 := v } else { r with s1 := v }
theorem rightR_seq {r : Rec} (h : rightR r = true) : 0 < r.seq ∧ r.seq < 2147483648 ∧ 0 ≤ r.tries ∧ r.tries < 256 := by
  unfold rightR at h
  simp only [Bool.and_eq_true, decide_eq_true_eq, beq_iff_eq, shr31] at h
  simp only [Int.fdiv_eq_ediv_of_nonneg _ (by decide : (0 : Int) ≤ 2147483648), Int.fdiv_eq_ediv_of_nonneg _ (by decide : (0 : Int) ≤ 256)] at h
  omega
theorem readTo_seq (f : Flash) : ∀ k, 0 ≤ (readTo f k).1.seq ∧ (readTo f k).1.seq < 2147483648 ∧ 0 ≤ (readTo f k).1.tries ∧ (readTo f k).1.tries < 256
  | 0 => by simp [readTo, rec0]
  | k + 1 => by
    have e : readTo f (k + 1) = takeR (f.pages.getD k []) k (readTo f k) := rfl
    rw [e]
    unfold takeR
    split
    · rename_i h
      rw [Bool.and_eq_true] at h
      have h1 := h.1
      unfold heldB at h1
      rw [Bool.and_eq_true, Bool.and_eq_true] at h1
      obtain ⟨q1, q2, q3, q4⟩ := rightR_seq h1.1.1
      exact ⟨by show 0 ≤ (heldR _).seq; omega, q2, q3, q4⟩
    · exact readTo_seq f k
theorem readS_seq (f : Flash) : 0 ≤ (readS f).1.seq ∧ (readS f).1.seq < 2147483648 ∧ 0 ≤ (readS f).1.tries ∧ (readS f).1.tries < 256 := by
  unfold readS
  split
  · simp [rec0]
  · exact readTo_seq f 2
def wellF (f : Flash) (s : Nat) : Flash × Int :=
  if (readS f).2 ≠ 0 then (f, (readS f).2) else
  if (readS f).1.st s = 4 then (f, 0) else
  if (readS f).1.st s ≠ 3 then (f, 1) else
  putB f { (readS f).1.setSt s 4 with tries := 0 }
theorem well0_ok (f : Flash) (hf : f.big) : FnS Tryd.prog 23 [.agg (encFlash f), .int .i64 0] [] (.tup [.agg (encFlash (wellF f 0).1), .int .i64 (wellF f 0).2]) [] := by
  have h7 := hf.n70
  have hsq := readS_seq f
  have e0 : wellF f 0 = if (readS f).2 ≠ 0 then (f, (readS f).2) else if (readS f).1.s0 = 4 then (f, 0) else if (readS f).1.s0 ≠ 3 then (f, 1) else putB f { (readS f).1 with s0 := 4, tries := 0 } := rfl
  refine fn_walk tabOk Tryd.func23 rfl (by decide +kernel) Tryd.ntmps23 Tryd.results23 (by simp) fun B hB => ?_
  try refine hK _ ?_
  repeat (first | refine awp_seq ?_ | refine awp_block ?_ | refine awp_skip ?_ | refine awp_scope ?_ | refine awp_label ?_)
  refine awp_region tabOk fun K hK => ?_
  simp -dsimp -implicitDefEqProofs only [encFlash, push_cast, ↓trAdd_f, ↓stOf_f, seval]
  refine hK _ ?_
  try refine hK _ ?_
  repeat (first | refine awp_seq ?_ | refine awp_block ?_ | refine awp_skip ?_ | refine awp_scope ?_ | refine awp_label ?_)
  refine awp_region tabOk fun K hK => ?_
  simp -dsimp -implicitDefEqProofs only [push_cast, ↓trAdd_f, ↓stOf_f, seval]
  refine hK _ ?_
  try refine hK _ ?_
  repeat (first | refine awp_seq ?_ | refine awp_block ?_ | refine awp_skip ?_ | refine awp_scope ?_ | refine awp_label ?_)
  refine awp_cond (b := false) (by simp -dsimp -implicitDefEqProofs only [push_cast, ↓trAdd_f, ↓stOf_f, seval]) (fun h => ?_) (fun h => ?_)
  · cases h
  refine awp_skip ?_
  try refine hK _ ?_
  repeat (first | refine awp_seq ?_ | refine awp_block ?_ | refine awp_skip ?_ | refine awp_scope ?_ | refine awp_label ?_)
  refine awp_region tabOk fun K hK => ?_
  simp -dsimp -implicitDefEqProofs only [push_cast, ↓trAdd_f, ↓stOf_f, seval]
  refine callK_simple (read_ok f (by omega) hf.fine.good.block hf.fine.bytes) ?_ rfl fun _ => ?_
  · simp -dsimp -implicitDefEqProofs only [encFlash, push_cast, List.mem_append, List.mem_cons, List.mem_singleton, forall_eq_or_imp, forall_eq, ↓trAdd_f, ↓stOf_f, seval]
  generalize readS f = o at *
  obtain ⟨r, er⟩ := o
  simp only at hsq e0
  simp -dsimp -implicitDefEqProofs only [encRec, push_cast, ↓trAdd_f, ↓stOf_f, seval]
  refine hK _ (awp_seq (awp_block ?_))
  try refine hK _ ?_
  repeat (first | refine awp_seq ?_ | refine awp_block ?_ | refine awp_skip ?_ | refine awp_scope ?_ | refine awp_label ?_)
  refine awp_region tabOk fun K hK => ?_
  simp -dsimp -implicitDefEqProofs only [push_cast, ↓trAdd_f, ↓stOf_f, seval]
  refine callK_simple (fine_ok er) ?_ rfl fun _ => ?_
  · simp -dsimp -implicitDefEqProofs only [push_cast, List.mem_append, List.mem_cons, List.mem_singleton, forall_eq_or_imp, forall_eq, ↓trAdd_f, ↓stOf_f, seval]
  cases hE : (er == 0) with
  | false =>
    have hne : er ≠ 0 := by simpa using hE
    have e : wellF f 0 = (f, er) := by rw [e0, if_pos hne]
    simp -dsimp -implicitDefEqProofs only [push_cast, ↓trAdd_f, ↓stOf_f, seval]
    refine hK _ ?_
    try refine hK _ ?_
    repeat (first | refine awp_seq ?_ | refine awp_block ?_ | refine awp_skip ?_ | refine awp_scope ?_ | refine awp_label ?_)
    refine awp_cond (b := true) (by simp -dsimp -implicitDefEqProofs only [push_cast, ↓trAdd_f, ↓stOf_f, seval]) (fun h => ?_) (fun h => ?_)
    rotate_left
    · cases h
    try refine hK _ ?_
    repeat (first | refine awp_seq ?_ | refine awp_block ?_ | refine awp_skip ?_ | refine awp_scope ?_ | refine awp_label ?_)
    refine awp_region tabOk fun K hK => ?_
    simp -dsimp -implicitDefEqProofs only [push_cast, ↓trAdd_f, ↓stOf_f, seval]
    refine hK _ (awp_ret ?_)
    simp -dsimp -implicitDefEqProofs only [e, encFlash, push_cast, List.mem_append, List.mem_cons, List.mem_singleton, forall_eq_or_imp, forall_eq, ↓trAdd_f, ↓stOf_f, seval]
  | true =>
  have her : er = 0 := by simpa using hE
  subst her
  simp -dsimp -implicitDefEqProofs only [push_cast, ↓trAdd_f, ↓stOf_f, seval]
  refine hK _ ?_
  try refine hK _ ?_
  repeat (first | refine awp_seq ?_ | refine awp_block ?_ | refine awp_skip ?_ | refine awp_scope ?_ | refine awp_label ?_)
  refine awp_cond (b := false) (by simp -dsimp -implicitDefEqProofs only [push_cast, ↓trAdd_f, ↓stOf_f, seval]) (fun h => ?_) (fun h => ?_)
  · cases h
  cases hA : (r.s0 == 4) with
  | true =>
    have h4 : r.s0 = 4 := by simpa using hA
    have e : wellF f 0 = (f, 0) := by rw [e0, if_neg (by decide), if_pos h4]
    try refine hK _ ?_
    repeat (first | refine awp_seq ?_ | refine awp_block ?_ | refine awp_skip ?_ | refine awp_scope ?_ | refine awp_label ?_)
    refine awp_region tabOk fun K hK => ?_
    simp -dsimp -implicitDefEqProofs only [hA, push_cast, ↓trAdd_f, ↓stOf_f, seval]
    refine hK _ ?_
    try refine hK _ ?_
    repeat (first | refine awp_seq ?_ | refine awp_block ?_ | refine awp_skip ?_ | refine awp_scope ?_ | refine awp_label ?_)
    refine awp_cond (b := true) (by simp -dsimp -implicitDefEqProofs only [push_cast, ↓trAdd_f, ↓stOf_f, seval]) (fun h => ?_) (fun h => ?_)
    rotate_left
    · cases h
    try refine hK _ ?_
    repeat (first | refine awp_seq ?_ | refine awp_block ?_ | refine awp_skip ?_ | refine awp_scope ?_ | refine awp_label ?_)
    refine awp_region tabOk fun K hK => ?_
    simp -dsimp -implicitDefEqProofs only [push_cast, ↓trAdd_f, ↓stOf_f, seval]
    refine hK _ (awp_ret ?_)
    simp -dsimp -implicitDefEqProofs only [e, encFlash, push_cast, List.mem_append, List.mem_cons, List.mem_singleton, forall_eq_or_imp, forall_eq, ↓trAdd_f, ↓stOf_f, seval]
  | false =>
  have h4 : r.s0 ≠ 4 := by simpa using hA
  try refine hK _ ?_
  repeat (first | refine awp_seq ?_ | refine awp_block ?_ | refine awp_skip ?_ | refine awp_scope ?_ | refine awp_label ?_)
  refine awp_region tabOk fun K hK => ?_
  simp -dsimp -implicitDefEqProofs only [hA, push_cast, ↓trAdd_f, ↓stOf_f, seval]
  refine hK _ ?_
  try refine hK _ ?_
  repeat (first | refine awp_seq ?_ | refine awp_block ?_ | refine awp_skip ?_ | refine awp_scope ?_ | refine awp_label ?_)
  refine awp_cond (b := false) (by simp -dsimp -implicitDefEqProofs only [push_cast, ↓trAdd_f, ↓stOf_f, seval]) (fun h => ?_) (fun h => ?_)
  · cases h
  cases hQ : (r.s0 != 3) with
  | true =>
    have h3 : r.s0 ≠ 3 := by simpa using hQ
    have e : wellF f 0 = (f, 1) := by rw [e0, if_neg (by decide), if_neg h4, if_pos h3]
    try refine hK _ ?_
    repeat (first | refine awp_seq ?_ | refine awp_block ?_ | refine awp_skip ?_ | refine awp_scope ?_ | refine awp_label ?_)
    refine awp_region tabOk fun K hK => ?_
    simp -dsimp -implicitDefEqProofs only [hQ, push_cast, ↓trAdd_f, ↓stOf_f, seval]
    refine hK _ ?_
    try refine hK _ ?_
    repeat (first | refine awp_seq ?_ | refine awp_block ?_ | refine awp_skip ?_ | refine awp_scope ?_ | refine awp_label ?_)
    refine awp_cond (b := true) (by simp -dsimp -implicitDefEqProofs only [push_cast, ↓trAdd_f, ↓stOf_f, seval]) (fun h => ?_) (fun h => ?_)
    rotate_left
    · cases h
    try refine hK _ ?_
    repeat (first | refine awp_seq ?_ | refine awp_block ?_ | refine awp_skip ?_ | refine awp_scope ?_ | refine awp_label ?_)
    refine awp_region tabOk fun K hK => ?_
    simp -dsimp -implicitDefEqProofs only [push_cast, ↓trAdd_f, ↓stOf_f, seval]
    refine hK _ (awp_ret ?_)
    simp -dsimp -implicitDefEqProofs only [e, encFlash, push_cast, List.mem_append, List.mem_cons, List.mem_singleton, forall_eq_or_imp, forall_eq, ↓trAdd_f, ↓stOf_f, seval]
  | false =>
  have h3 : r.s0 = 3 := by simpa using hQ
  have e : wellF f 0 = putB f { r with s0 := 4, tries := 0 } := by rw [e0, if_neg (by decide), if_neg h4, if_neg (by simpa using h3)]
  try refine hK _ ?_
  repeat (first | refine awp_seq ?_ | refine awp_block ?_ | refine awp_skip ?_ | refine awp_scope ?_ | refine awp_label ?_)
  refine awp_region tabOk fun K hK => ?_
  simp -dsimp -implicitDefEqProofs only [hQ, push_cast, ↓trAdd_f, ↓stOf_f, seval]
  refine hK _ ?_
  try refine hK _ ?_
  repeat (first | refine awp_seq ?_ | refine awp_block ?_ | refine awp_skip ?_ | refine awp_scope ?_ | refine awp_label ?_)
  refine awp_cond (b := false) (by simp -dsimp -implicitDefEqProofs only [push_cast, ↓trAdd_f, ↓stOf_f, seval]) (fun h => ?_) (fun h => ?_)
  · cases h
  refine awp_skip ?_
  try refine hK _ ?_
  repeat (first | refine awp_seq ?_ | refine awp_block ?_ | refine awp_skip ?_ | refine awp_scope ?_ | refine awp_label ?_)
  refine awp_region tabOk fun K hK => ?_
  simp -dsimp -implicitDefEqProofs only [push_cast, ↓trAdd_f, ↓stOf_f, seval]
  refine hK _ ?_
  try refine hK _ ?_
  repeat (first | refine awp_seq ?_ | refine awp_block ?_ | refine awp_skip ?_ | refine awp_scope ?_ | refine awp_label ?_)
  refine awp_region tabOk fun K hK => ?_
  simp -dsimp -implicitDefEqProofs only [push_cast, ↓trAdd_f, ↓stOf_f, seval]
  refine callK_simple (putB_ok f { r with s0 := 4, tries := 0 } hf.fine ⟨hsq.1, hsq.2.1⟩) ?_ rfl fun _ => ?_
  · simp -dsimp -implicitDefEqProofs only [encFlash, encRec, push_cast, List.mem_append, List.mem_cons, List.mem_singleton, forall_eq_or_imp, forall_eq, ↓trAdd_f, ↓stOf_f, seval]
  rw [← e]
  generalize wellF f 0 = o at *
  obtain ⟨o1, o2⟩ := o
  simp -dsimp -implicitDefEqProofs only [encFlash, push_cast, ↓trAdd_f, ↓stOf_f, seval]
  refine hK _ (awp_ret ?_)
  simp -dsimp -implicitDefEqProofs only [encFlash, push_cast, List.mem_append, List.mem_cons, List.mem_singleton, forall_eq_or_imp, forall_eq, ↓trAdd_f, ↓stOf_f, seval]
theorem well1_ok (f : Flash) (hf : f.big) : FnS Tryd.prog 23 [.agg (encFlash f), .int .i64 1] [] (.tup [.agg (encFlash (wellF f 1).1), .int .i64 (wellF f 1).2]) [] := by
  have h7 := hf.n70
  have hsq := readS_seq f
  have e0 : wellF f 1 = if (readS f).2 ≠ 0 then (f, (readS f).2) else if (readS f).1.s1 = 4 then (f, 0) else if (readS f).1.s1 ≠ 3 then (f, 1) else putB f { (readS f).1 with s1 := 4, tries := 0 } := rfl
  refine fn_walk tabOk Tryd.func23 rfl (by decide +kernel) Tryd.ntmps23 Tryd.results23 (by simp) fun B hB => ?_
  try refine hK _ ?_
  repeat (first | refine awp_seq ?_ | refine awp_block ?_ | refine awp_skip ?_ | refine awp_scope ?_ | refine awp_label ?_)
  refine awp_region tabOk fun K hK => ?_
  simp -dsimp -implicitDefEqProofs only [encFlash, push_cast, ↓trAdd_f, ↓stOf_f, seval]
  refine hK _ ?_
  try refine hK _ ?_
  repeat (first | refine awp_seq ?_ | refine awp_block ?_ | refine awp_skip ?_ | refine awp_scope ?_ | refine awp_label ?_)
  refine awp_region tabOk fun K hK => ?_
  simp -dsimp -implicitDefEqProofs only [push_cast, ↓trAdd_f, ↓stOf_f, seval]
  refine hK _ ?_
  try refine hK _ ?_
  repeat (first | refine awp_seq ?_ | refine awp_block ?_ | refine awp_skip ?_ | refine awp_scope ?_ | refine awp_label ?_)
  refine awp_cond (b := false) (by simp -dsimp -implicitDefEqProofs only [push_cast, ↓trAdd_f, ↓stOf_f, seval]) (fun h => ?_) (fun h => ?_)
  · cases h
  refine awp_skip ?_
  try refine hK _ ?_
  repeat (first | refine awp_seq ?_ | refine awp_block ?_ | refine awp_skip ?_ | refine awp_scope ?_ | refine awp_label ?_)
  refine awp_region tabOk fun K hK => ?_
  simp -dsimp -implicitDefEqProofs only [push_cast, ↓trAdd_f, ↓stOf_f, seval]
  refine callK_simple (read_ok f (by omega) hf.fine.good.block hf.fine.bytes) ?_ rfl fun _ => ?_
  · simp -dsimp -implicitDefEqProofs only [encFlash, push_cast, List.mem_append, List.mem_cons, List.mem_singleton, forall_eq_or_imp, forall_eq, ↓trAdd_f, ↓stOf_f, seval]
  generalize readS f = o at *
  obtain ⟨r, er⟩ := o
  simp only at hsq e0
  simp -dsimp -implicitDefEqProofs only [encRec, push_cast, ↓trAdd_f, ↓stOf_f, seval]
  refine hK _ (awp_seq (awp_block ?_))
  try refine hK _ ?_
  repeat (first | refine awp_seq ?_ | refine awp_block ?_ | refine awp_skip ?_ | refine awp_scope ?_ | refine awp_label ?_)
  refine awp_region tabOk fun K hK => ?_
  simp -dsimp -implicitDefEqProofs only [push_cast, ↓trAdd_f, ↓stOf_f, seval]
  refine callK_simple (fine_ok er) ?_ rfl fun _ => ?_
  · simp -dsimp -implicitDefEqProofs only [push_cast, List.mem_append, List.mem_cons, List.mem_singleton, forall_eq_or_imp, forall_eq, ↓trAdd_f, ↓stOf_f, seval]
  cases hE : (er == 0) with
  | false =>
    have hne : er ≠ 0 := by simpa using hE
    have e : wellF f 1 = (f, er) := by rw [e0, if_pos hne]
    simp -dsimp -implicitDefEqProofs only [push_cast, ↓trAdd_f, ↓stOf_f, seval]
    refine hK _ ?_
    try refine hK _ ?_
    repeat (first | refine awp_seq ?_ | refine awp_block ?_ | refine awp_skip ?_ | refine awp_scope ?_ | refine awp_label ?_)
    refine awp_cond (b := true) (by simp -dsimp -implicitDefEqProofs only [push_cast, ↓trAdd_f, ↓stOf_f, seval]) (fun h => ?_) (fun h => ?_)
    rotate_left
    · cases h
    try refine hK _ ?_
    repeat (first | refine awp_seq ?_ | refine awp_block ?_ | refine awp_skip ?_ | refine awp_scope ?_ | refine awp_label ?_)
    refine awp_region tabOk fun K hK => ?_
    simp -dsimp -implicitDefEqProofs only [push_cast, ↓trAdd_f, ↓stOf_f, seval]
    refine hK _ (awp_ret ?_)
    simp -dsimp -implicitDefEqProofs only [e, encFlash, push_cast, List.mem_append, List.mem_cons, List.mem_singleton, forall_eq_or_imp, forall_eq, ↓trAdd_f, ↓stOf_f, seval]
  | true =>
  have her : er = 0 := by simpa using hE
  subst her
  simp -dsimp -implicitDefEqProofs only [push_cast, ↓trAdd_f, ↓stOf_f, seval]
  refine hK _ ?_
  try refine hK _ ?_
  repeat (first | refine awp_seq ?_ | refine awp_block ?_ | refine awp_skip ?_ | refine awp_scope ?_ | refine awp_label ?_)
  refine awp_cond (b := false) (by simp -dsimp -implicitDefEqProofs only [push_cast, ↓trAdd_f, ↓stOf_f, seval]) (fun h => ?_) (fun h => ?_)
  · cases h
  cases hA : (r.s1 == 4) with
  | true =>
    have h4 : r.s1 = 4 := by simpa using hA
    have e : wellF f 1 = (f, 0) := by rw [e0, if_neg (by decide), if_pos h4]
    try refine hK _ ?_
    repeat (first | refine awp_seq ?_ | refine awp_block ?_ | refine awp_skip ?_ | refine awp_scope ?_ | refine awp_label ?_)
    refine awp_region tabOk fun K hK => ?_
    simp -dsimp -implicitDefEqProofs only [hA, push_cast, ↓trAdd_f, ↓stOf_f, seval]
    refine hK _ ?_
    try refine hK _ ?_
    repeat (first | refine awp_seq ?_ | refine awp_block ?_ | refine awp_skip ?_ | refine awp_scope ?_ | refine awp_label ?_)
    refine awp_cond (b := true) (by simp -dsimp -implicitDefEqProofs only [push_cast, ↓trAdd_f, ↓stOf_f, seval]) (fun h => ?_) (fun h => ?_)
    rotate_left
    · cases h
    try refine hK _ ?_
    repeat (first | refine awp_seq ?_ | refine awp_block ?_ | refine awp_skip ?_ | refine awp_scope ?_ | refine awp_label ?_)
    refine awp_region tabOk fun K hK => ?_
    simp -dsimp -implicitDefEqProofs only [push_cast, ↓trAdd_f, ↓stOf_f, seval]
    refine hK _ (awp_ret ?_)
    simp -dsimp -implicitDefEqProofs only [e, encFlash, push_cast, List.mem_append, List.mem_cons, List.mem_singleton, forall_eq_or_imp, forall_eq, ↓trAdd_f, ↓stOf_f, seval]
  | false =>
  have h4 : r.s1 ≠ 4 := by simpa using hA
  try refine hK _ ?_
  repeat (first | refine awp_seq ?_ | refine awp_block ?_ | refine awp_skip ?_ | refine awp_scope ?_ | refine awp_label ?_)
  refine awp_region tabOk fun K hK => ?_
  simp -dsimp -implicitDefEqProofs only [hA, push_cast, ↓trAdd_f, ↓stOf_f, seval]
  refine hK _ ?_
  try refine hK _ ?_
  repeat (first | refine awp_seq ?_ | refine awp_block ?_ | refine awp_skip ?_ | refine awp_scope ?_ | refine awp_label ?_)
  refine awp_cond (b := false) (by simp -dsimp -implicitDefEqProofs only [push_cast, ↓trAdd_f, ↓stOf_f, seval]) (fun h => ?_) (fun h => ?_)
  · cases h
  cases hQ : (r.s1 != 3) with
  | true =>
    have h3 : r.s1 ≠ 3 := by simpa using hQ
    have e : wellF f 1 = (f, 1) := by rw [e0, if_neg (by decide), if_neg h4, if_pos h3]
    try refine hK _ ?_
    repeat (first | refine awp_seq ?_ | refine awp_block ?_ | refine awp_skip ?_ | refine awp_scope ?_ | refine awp_label ?_)
    refine awp_region tabOk fun K hK => ?_
    simp -dsimp -implicitDefEqProofs only [hQ, push_cast, ↓trAdd_f, ↓stOf_f, seval]
    refine hK _ ?_
    try refine hK _ ?_
    repeat (first | refine awp_seq ?_ | refine awp_block ?_ | refine awp_skip ?_ | refine awp_scope ?_ | refine awp_label ?_)
    refine awp_cond (b := true) (by simp -dsimp -implicitDefEqProofs only [push_cast, ↓trAdd_f, ↓stOf_f, seval]) (fun h => ?_) (fun h => ?_)
    rotate_left
    · cases h
    try refine hK _ ?_
    repeat (first | refine awp_seq ?_ | refine awp_block ?_ | refine awp_skip ?_ | refine awp_scope ?_ | refine awp_label ?_)
    refine awp_region tabOk fun K hK => ?_
    simp -dsimp -implicitDefEqProofs only [push_cast, ↓trAdd_f, ↓stOf_f, seval]
    refine hK _ (awp_ret ?_)
    simp -dsimp -implicitDefEqProofs only [e, encFlash, push_cast, List.mem_append, List.mem_cons, List.mem_singleton, forall_eq_or_imp, forall_eq, ↓trAdd_f, ↓stOf_f, seval]
  | false =>
  have h3 : r.s1 = 3 := by simpa using hQ
  have e : wellF f 1 = putB f { r with s1 := 4, tries := 0 } := by rw [e0, if_neg (by decide), if_neg h4, if_neg (by simpa using h3)]
  try refine hK _ ?_
  repeat (first | refine awp_seq ?_ | refine awp_block ?_ | refine awp_skip ?_ | refine awp_scope ?_ | refine awp_label ?_)
  refine awp_region tabOk fun K hK => ?_
  simp -dsimp -implicitDefEqProofs only [hQ, push_cast, ↓trAdd_f, ↓stOf_f, seval]
  refine hK _ ?_
  try refine hK _ ?_
  repeat (first | refine awp_seq ?_ | refine awp_block ?_ | refine awp_skip ?_ | refine awp_scope ?_ | refine awp_label ?_)
  refine awp_cond (b := false) (by simp -dsimp -implicitDefEqProofs only [push_cast, ↓trAdd_f, ↓stOf_f, seval]) (fun h => ?_) (fun h => ?_)
  · cases h
  refine awp_skip ?_
  try refine hK _ ?_
  repeat (first | refine awp_seq ?_ | refine awp_block ?_ | refine awp_skip ?_ | refine awp_scope ?_ | refine awp_label ?_)
  refine awp_region tabOk fun K hK => ?_
  simp -dsimp -implicitDefEqProofs only [push_cast, ↓trAdd_f, ↓stOf_f, seval]
  refine hK _ ?_
  try refine hK _ ?_
  repeat (first | refine awp_seq ?_ | refine awp_block ?_ | refine awp_skip ?_ | refine awp_scope ?_ | refine awp_label ?_)
  refine awp_region tabOk fun K hK => ?_
  simp -dsimp -implicitDefEqProofs only [push_cast, ↓trAdd_f, ↓stOf_f, seval]
  refine callK_simple (putB_ok f { r with s1 := 4, tries := 0 } hf.fine ⟨hsq.1, hsq.2.1⟩) ?_ rfl fun _ => ?_
  · simp -dsimp -implicitDefEqProofs only [encFlash, encRec, push_cast, List.mem_append, List.mem_cons, List.mem_singleton, forall_eq_or_imp, forall_eq, ↓trAdd_f, ↓stOf_f, seval]
  rw [← e]
  generalize wellF f 1 = o at *
  obtain ⟨o1, o2⟩ := o
  simp -dsimp -implicitDefEqProofs only [encFlash, push_cast, ↓trAdd_f, ↓stOf_f, seval]
  refine hK _ (awp_ret ?_)
  simp -dsimp -implicitDefEqProofs only [encFlash, push_cast, List.mem_append, List.mem_cons, List.mem_singleton, forall_eq_or_imp, forall_eq, ↓trAdd_f, ↓stOf_f, seval]
theorem bestS_cases (p0 p1 : Bool) (r : Rec) : bestS p0 p1 r = 0 ∨ bestS p0 p1 r = 1 ∨ bestS p0 p1 r = -1 := by
  unfold bestS
  cases p0 <;> cases p1 <;> simp
  omega
structure BootR where
  f : Flash
  at_ : Int
  m : Img
  e : Int
def bootP (f : Flash) (key : Int) (r : Rec) : BootR :=
  if bestS (provedB f r key 0) (provedB f r key 1) r = -1 then ⟨f, -1, img0, 260⟩ else
  ⟨f, bestS (provedB f r key 0) (provedB f r key 1) r, (wholeF f (bestS (provedB f r key 0) (provedB f r key 1) r).toNat key).1, 0⟩
def recT (r : Rec) (a : Nat) : Rec := { r.setSt a 3 with tries := r.tries - 1 }
def bootT (f : Flash) (key : Int) (r : Rec) (a : Nat) : BootR :=
  if (putB f (recT r a)).2 ≠ 0 then ⟨(putB f (recT r a)).1, -1, img0, (putB f (recT r a)).2⟩ else ⟨(putB f (recT r a)).1, a, (wholeF f a key).1, 0⟩
def bootF (f : Flash) (key : Int) : BootR :=
  if (readS f).2 ≠ 0 then ⟨f, -1, img0, (readS f).2⟩ else
  if bestS (trialB f (readS f).1 key 0) (trialB f (readS f).1 key 1) (readS f).1 = -1 then bootP f key (readS f).1 else
  bootT f key (readS f).1 (bestS (trialB f (readS f).1 key 0) (trialB f (readS f).1 key 1) (readS f).1).toNat
theorem bootF_ok (f : Flash) (key : Int) (hf : f.big) : FnS Tryd.prog 17 [.agg (encFlash f), .int .i64 key] [] (.tup [.agg (encFlash (bootF f key).f), .int .i64 (bootF f key).at_, .agg (encImg (bootF f key).m), .int .i64 (bootF f key).e]) [] := by
  have h7 := hf.n70
  have hsq := readS_seq f
  have e0 : bootF f key = if (readS f).2 ≠ 0 then ⟨f, -1, img0, (readS f).2⟩ else
    if bestS (trialB f (readS f).1 key 0) (trialB f (readS f).1 key 1) (readS f).1 = -1 then bootP f key (readS f).1 else
    bootT f key (readS f).1 (bestS (trialB f (readS f).1 key 0) (trialB f (readS f).1 key 1) (readS f).1).toNat := rfl
  refine fn_walk tabOk Tryd.func17 rfl (by decide +kernel) Tryd.ntmps17 Tryd.results17 (by simp) fun B hB => ?_
  try refine hK _ ?_
  repeat (first | refine awp_seq ?_ | refine awp_block ?_ | refine awp_skip ?_ | refine awp_scope ?_ | refine awp_label ?_)
  refine awp_region tabOk fun K hK => ?_
  simp -dsimp -implicitDefEqProofs only [encFlash, push_cast, ↓trAdd_f, ↓stOf_f, seval]
  refine hK _ ?_
  try refine hK _ ?_
  repeat (first | refine awp_seq ?_ | refine awp_block ?_ | refine awp_skip ?_ | refine awp_scope ?_ | refine awp_label ?_)
  refine awp_region tabOk fun K hK => ?_
  simp -dsimp -implicitDefEqProofs only [push_cast, ↓trAdd_f, ↓stOf_f, seval]
  refine callK_simple (read_ok f (by omega) hf.fine.good.block hf.fine.bytes) ?_ rfl fun _ => ?_
  · simp -dsimp -implicitDefEqProofs only [encFlash, push_cast, List.mem_append, List.mem_cons, List.mem_singleton, forall_eq_or_imp, forall_eq, ↓trAdd_f, ↓stOf_f, seval]
  generalize readS f = o at *
  obtain ⟨r, er⟩ := o
  simp only at hsq e0
  simp -dsimp -implicitDefEqProofs only [encRec, push_cast, ↓trAdd_f, ↓stOf_f, seval]
  refine hK _ ?_
  try refine hK _ ?_
  repeat (first | refine awp_seq ?_ | refine awp_block ?_ | refine awp_skip ?_ | refine awp_scope ?_ | refine awp_label ?_)
  refine awp_region tabOk fun K hK => ?_
  simp -dsimp -implicitDefEqProofs only [push_cast, ↓trAdd_f, ↓stOf_f, seval]
  refine callK_simple (fine_ok er) ?_ rfl fun _ => ?_
  · simp -dsimp -implicitDefEqProofs only [push_cast, List.mem_append, List.mem_cons, List.mem_singleton, forall_eq_or_imp, forall_eq, ↓trAdd_f, ↓stOf_f, seval]
  cases hE : (er == 0) with
  | false =>
    have hne : er ≠ 0 := by simpa using hE
    have e : bootF f key = ⟨f, -1, img0, er⟩ := by rw [e0, if_pos hne]
    simp -dsimp -implicitDefEqProofs only [push_cast, ↓trAdd_f, ↓stOf_f, seval]
    refine hK _ ?_
    try refine hK _ ?_
    repeat (first | refine awp_seq ?_ | refine awp_block ?_ | refine awp_skip ?_ | refine awp_scope ?_ | refine awp_label ?_)
    refine awp_cond (b := true) (by simp -dsimp -implicitDefEqProofs only [push_cast, ↓trAdd_f, ↓stOf_f, seval]) (fun h => ?_) (fun h => ?_)
    rotate_left
    · cases h
    try refine hK _ ?_
    repeat (first | refine awp_seq ?_ | refine awp_block ?_ | refine awp_skip ?_ | refine awp_scope ?_ | refine awp_label ?_)
    refine awp_region tabOk fun K hK => ?_
    simp -dsimp -implicitDefEqProofs only [push_cast, ↓trAdd_f, ↓stOf_f, seval]
    refine hK _ (awp_ret ?_)
    simp -dsimp -implicitDefEqProofs only [e, encFlash, encImg, img0, push_cast, List.mem_append, List.mem_cons, List.mem_singleton, forall_eq_or_imp, forall_eq, ↓trAdd_f, ↓stOf_f, seval]
  | true =>
  have her : er = 0 := by simpa using hE
  subst her
  rw [if_neg (by decide)] at e0
  simp -dsimp -implicitDefEqProofs only [push_cast, ↓trAdd_f, ↓stOf_f, seval]
  refine hK _ ?_
  try refine hK _ ?_
  repeat (first | refine awp_seq ?_ | refine awp_block ?_ | refine awp_skip ?_ | refine awp_scope ?_ | refine awp_label ?_)
  refine awp_cond (b := false) (by simp -dsimp -implicitDefEqProofs only [push_cast, ↓trAdd_f, ↓stOf_f, seval]) (fun h => ?_) (fun h => ?_)
  · cases h
  refine awp_skip ?_
  try refine hK _ ?_
  repeat (first | refine awp_seq ?_ | refine awp_block ?_ | refine awp_skip ?_ | refine awp_scope ?_ | refine awp_label ?_)
  refine awp_region tabOk fun K hK => ?_
  simp -dsimp -implicitDefEqProofs only [push_cast, ↓trAdd_f, ↓stOf_f, seval]
  refine hK _ ?_
  try refine hK _ ?_
  repeat (first | refine awp_seq ?_ | refine awp_block ?_ | refine awp_skip ?_ | refine awp_scope ?_ | refine awp_label ?_)
  refine awp_region tabOk fun K hK => ?_
  simp -dsimp -implicitDefEqProofs only [push_cast, ↓trAdd_f, ↓stOf_f, seval]
  refine ⟨47, [], [], { args := [.fn (.func 48) [.agg (encUnit f r key)] [], .agg (encRec r)], st0 := [], res := .int .i64 (bestS (trialB f r key 0) (trialB f r key 1) r), st1 := [], r := [] }, rfl, .inl (best_ok 48 f r key _ _ (trial0_ok f r key hf) (trial1_ok f r key hf)), ?_, ?_⟩
  · simp -dsimp -implicitDefEqProofs only [encUnit, encRec, pages_ren, ints_ren, pages_okl, ints_okl, push_cast, List.mem_append, List.mem_cons, List.mem_singleton, forall_eq_or_imp, forall_eq, ↓trAdd_f, ↓stOf_f, seval]
    rfl
  simp -dsimp -implicitDefEqProofs only [encUnit, encRec, pages_ren, ints_ren, push_cast, ↓trAdd_f, ↓stOf_f, seval]
  refine hK _ ?_
  rcases bestS_cases (trialB f r key 0) (trialB f r key 1) r with hbt | hbt | hbt
  · rw [hbt] at e0 ⊢
    have e1 : bootF f key = bootT f key r 0 := by rw [e0, if_neg (by decide)]; rfl
    have e2 : bootT f key r 0 = if (putB f (recT r 0)).2 ≠ 0 then ⟨(putB f (recT r 0)).1, -1, img0, (putB f (recT r 0)).2⟩ else ⟨(putB f (recT r 0)).1, 0, (wholeF f 0 key).1, 0⟩ := rfl
    have hw : IntKind.i64.wrap (r.tries - 1) = r.tries - 1 := wrap_i64 (by omega) (by omega)
    try refine hK _ ?_
    repeat (first | refine awp_seq ?_ | refine awp_block ?_ | refine awp_skip ?_ | refine awp_scope ?_ | refine awp_label ?_)
    refine awp_region tabOk fun K hK => ?_
    simp -dsimp -implicitDefEqProofs only [push_cast, ↓trAdd_f, ↓stOf_f, seval]
    refine hK _ ?_
    try refine hK _ ?_
    repeat (first | refine awp_seq ?_ | refine awp_block ?_ | refine awp_skip ?_ | refine awp_scope ?_ | refine awp_label ?_)
    refine awp_cond (b := true) (by simp -dsimp -implicitDefEqProofs only [push_cast, ↓trAdd_f, ↓stOf_f, seval]) (fun h => ?_) (fun h => ?_)
    rotate_left
    · cases h
    try refine hK _ ?_
    repeat (first | refine awp_seq ?_ | refine awp_block ?_ | refine awp_skip ?_ | refine awp_scope ?_ | refine awp_label ?_)
    refine awp_region tabOk fun K hK => ?_
    simp -dsimp -implicitDefEqProofs only [push_cast, ↓trAdd_f, ↓stOf_f, seval]
    refine callK_simple (wholeF_ok f 0 key hf (by decide)) ?_ rfl fun _ => ?_
    · simp -dsimp -implicitDefEqProofs only [encFlash, push_cast, List.mem_append, List.mem_cons, List.mem_singleton, forall_eq_or_imp, forall_eq, ↓trAdd_f, ↓stOf_f, seval]
    generalize wholeF f 0 key = wo at *
    obtain ⟨m, wb⟩ := wo
    simp only at e2
    simp -dsimp -implicitDefEqProofs only [encImg, push_cast, ↓trAdd_f, ↓stOf_f, seval]
    refine hK _ ?_
    try refine hK _ ?_
    repeat (first | refine awp_seq ?_ | refine awp_block ?_ | refine awp_skip ?_ | refine awp_scope ?_ | refine awp_label ?_)
    refine awp_region tabOk fun K hK => ?_
    simp -dsimp -implicitDefEqProofs only [push_cast, ↓trAdd_f, ↓stOf_f, seval]
    refine hK _ ?_
    try refine hK _ ?_
    repeat (first | refine awp_seq ?_ | refine awp_block ?_ | refine awp_skip ?_ | refine awp_scope ?_ | refine awp_label ?_)
    refine awp_region tabOk fun K hK => ?_
    simp -dsimp -implicitDefEqProofs only [hw, push_cast, ↓trAdd_f, ↓stOf_f, seval]
    refine hK _ ?_
    try refine hK _ ?_
    repeat (first | refine awp_seq ?_ | refine awp_block ?_ | refine awp_skip ?_ | refine awp_scope ?_ | refine awp_label ?_)
    refine awp_region tabOk fun K hK => ?_
    simp -dsimp -implicitDefEqProofs only [push_cast, ↓trAdd_f, ↓stOf_f, seval]
    refine callK_simple (putB_ok f (recT r 0) hf.fine ⟨hsq.1, hsq.2.1⟩) ?_ rfl fun _ => ?_
    · simp -dsimp -implicitDefEqProofs only [encFlash, recT, Rec.setSt, encRec, push_cast, List.mem_append, List.mem_cons, List.mem_singleton, forall_eq_or_imp, forall_eq, ↓trAdd_f, ↓stOf_f, seval]
    generalize putB f (recT r 0) = o at *
    obtain ⟨g, er⟩ := o
    simp only at e2
    simp -dsimp -implicitDefEqProofs only [encFlash, push_cast, ↓trAdd_f, ↓stOf_f, seval]
    refine hK _ ?_
    try refine hK _ ?_
    repeat (first | refine awp_seq ?_ | refine awp_block ?_ | refine awp_skip ?_ | refine awp_scope ?_ | refine awp_label ?_)
    refine awp_region tabOk fun K hK => ?_
    simp -dsimp -implicitDefEqProofs only [push_cast, ↓trAdd_f, ↓stOf_f, seval]
    refine callK_simple (fine_ok er) ?_ rfl fun _ => ?_
    · simp -dsimp -implicitDefEqProofs only [push_cast, List.mem_append, List.mem_cons, List.mem_singleton, forall_eq_or_imp, forall_eq, ↓trAdd_f, ↓stOf_f, seval]
    cases hE : (er == 0) with
    | false =>
      have hne : er ≠ 0 := by simpa using hE
      have e : bootF f key = ⟨g, -1, img0, er⟩ := by rw [e1, e2, if_pos hne]
      simp -dsimp -implicitDefEqProofs only [push_cast, ↓trAdd_f, ↓stOf_f, seval]
      refine hK _ ?_
      try refine hK _ ?_
      repeat (first | refine awp_seq ?_ | refine awp_block ?_ | refine awp_skip ?_ | refine awp_scope ?_ | refine awp_label ?_)
      refine awp_cond (b := true) (by simp -dsimp -implicitDefEqProofs only [push_cast, ↓trAdd_f, ↓stOf_f, seval]) (fun h => ?_) (fun h => ?_)
      rotate_left
      · cases h
      try refine hK _ ?_
      repeat (first | refine awp_seq ?_ | refine awp_block ?_ | refine awp_skip ?_ | refine awp_scope ?_ | refine awp_label ?_)
      refine awp_region tabOk fun K hK => ?_
      simp -dsimp -implicitDefEqProofs only [push_cast, ↓trAdd_f, ↓stOf_f, seval]
      refine hK _ (awp_ret ?_)
      simp -dsimp -implicitDefEqProofs only [e, encFlash, encImg, img0, push_cast, List.mem_append, List.mem_cons, List.mem_singleton, forall_eq_or_imp, forall_eq, ↓trAdd_f, ↓stOf_f, seval]
    | true =>
    have her : er = 0 := by simpa using hE
    subst her
    have e : bootF f key = ⟨g, 0, m, 0⟩ := by rw [e1, e2, if_neg (by decide)]
    simp -dsimp -implicitDefEqProofs only [push_cast, ↓trAdd_f, ↓stOf_f, seval]
    refine hK _ ?_
    try refine hK _ ?_
    repeat (first | refine awp_seq ?_ | refine awp_block ?_ | refine awp_skip ?_ | refine awp_scope ?_ | refine awp_label ?_)
    refine awp_cond (b := false) (by simp -dsimp -implicitDefEqProofs only [push_cast, ↓trAdd_f, ↓stOf_f, seval]) (fun h => ?_) (fun h => ?_)
    · cases h
    refine awp_skip ?_
    try refine hK _ ?_
    repeat (first | refine awp_seq ?_ | refine awp_block ?_ | refine awp_skip ?_ | refine awp_scope ?_ | refine awp_label ?_)
    refine awp_draw tabOk (by kernel_rfl) (by kernel_rfl) fun K hK C hC => ?_
    simp -dsimp -implicitDefEqProofs only [encFlash, encImg, push_cast, ↓trAdd_f, ↓stOf_f, seval]
    refine ⟨hC _ (by kernel_rfl), hK _ (awp_ret ?_)⟩
    simp -dsimp -implicitDefEqProofs only [e, encFlash, encImg, push_cast, List.mem_append, List.mem_cons, List.mem_singleton, forall_eq_or_imp, forall_eq, ↓trAdd_f, ↓stOf_f, seval]
  · rw [hbt] at e0 ⊢
    have e1 : bootF f key = bootT f key r 1 := by rw [e0, if_neg (by decide)]; rfl
    have e2 : bootT f key r 1 = if (putB f (recT r 1)).2 ≠ 0 then ⟨(putB f (recT r 1)).1, -1, img0, (putB f (recT r 1)).2⟩ else ⟨(putB f (recT r 1)).1, 1, (wholeF f 1 key).1, 0⟩ := rfl
    have hw : IntKind.i64.wrap (r.tries - 1) = r.tries - 1 := wrap_i64 (by omega) (by omega)
    try refine hK _ ?_
    repeat (first | refine awp_seq ?_ | refine awp_block ?_ | refine awp_skip ?_ | refine awp_scope ?_ | refine awp_label ?_)
    refine awp_region tabOk fun K hK => ?_
    simp -dsimp -implicitDefEqProofs only [push_cast, ↓trAdd_f, ↓stOf_f, seval]
    refine hK _ ?_
    try refine hK _ ?_
    repeat (first | refine awp_seq ?_ | refine awp_block ?_ | refine awp_skip ?_ | refine awp_scope ?_ | refine awp_label ?_)
    refine awp_cond (b := true) (by simp -dsimp -implicitDefEqProofs only [push_cast, ↓trAdd_f, ↓stOf_f, seval]) (fun h => ?_) (fun h => ?_)
    rotate_left
    · cases h
    try refine hK _ ?_
    repeat (first | refine awp_seq ?_ | refine awp_block ?_ | refine awp_skip ?_ | refine awp_scope ?_ | refine awp_label ?_)
    refine awp_region tabOk fun K hK => ?_
    simp -dsimp -implicitDefEqProofs only [push_cast, ↓trAdd_f, ↓stOf_f, seval]
    refine callK_simple (wholeF_ok f 1 key hf (by decide)) ?_ rfl fun _ => ?_
    · simp -dsimp -implicitDefEqProofs only [encFlash, push_cast, List.mem_append, List.mem_cons, List.mem_singleton, forall_eq_or_imp, forall_eq, ↓trAdd_f, ↓stOf_f, seval]
    generalize wholeF f 1 key = wo at *
    obtain ⟨m, wb⟩ := wo
    simp only at e2
    simp -dsimp -implicitDefEqProofs only [encImg, push_cast, ↓trAdd_f, ↓stOf_f, seval]
    refine hK _ ?_
    try refine hK _ ?_
    repeat (first | refine awp_seq ?_ | refine awp_block ?_ | refine awp_skip ?_ | refine awp_scope ?_ | refine awp_label ?_)
    refine awp_region tabOk fun K hK => ?_
    simp -dsimp -implicitDefEqProofs only [push_cast, ↓trAdd_f, ↓stOf_f, seval]
    refine hK _ ?_
    try refine hK _ ?_
    repeat (first | refine awp_seq ?_ | refine awp_block ?_ | refine awp_skip ?_ | refine awp_scope ?_ | refine awp_label ?_)
    refine awp_region tabOk fun K hK => ?_
    simp -dsimp -implicitDefEqProofs only [hw, push_cast, ↓trAdd_f, ↓stOf_f, seval]
    refine hK _ ?_
    try refine hK _ ?_
    repeat (first | refine awp_seq ?_ | refine awp_block ?_ | refine awp_skip ?_ | refine awp_scope ?_ | refine awp_label ?_)
    refine awp_region tabOk fun K hK => ?_
    simp -dsimp -implicitDefEqProofs only [push_cast, ↓trAdd_f, ↓stOf_f, seval]
    refine callK_simple (putB_ok f (recT r 1) hf.fine ⟨hsq.1, hsq.2.1⟩) ?_ rfl fun _ => ?_
    · simp -dsimp -implicitDefEqProofs only [encFlash, recT, Rec.setSt, encRec, push_cast, List.mem_append, List.mem_cons, List.mem_singleton, forall_eq_or_imp, forall_eq, ↓trAdd_f, ↓stOf_f, seval]
    generalize putB f (recT r 1) = o at *
    obtain ⟨g, er⟩ := o
    simp only at e2
    simp -dsimp -implicitDefEqProofs only [encFlash, push_cast, ↓trAdd_f, ↓stOf_f, seval]
    refine hK _ ?_
    try refine hK _ ?_
    repeat (first | refine awp_seq ?_ | refine awp_block ?_ | refine awp_skip ?_ | refine awp_scope ?_ | refine awp_label ?_)
    refine awp_region tabOk fun K hK => ?_
    simp -dsimp -implicitDefEqProofs only [push_cast, ↓trAdd_f, ↓stOf_f, seval]
    refine callK_simple (fine_ok er) ?_ rfl fun _ => ?_
    · simp -dsimp -implicitDefEqProofs only [push_cast, List.mem_append, List.mem_cons, List.mem_singleton, forall_eq_or_imp, forall_eq, ↓trAdd_f, ↓stOf_f, seval]
    cases hE : (er == 0) with
    | false =>
      have hne : er ≠ 0 := by simpa using hE
      have e : bootF f key = ⟨g, -1, img0, er⟩ := by rw [e1, e2, if_pos hne]
      simp -dsimp -implicitDefEqProofs only [push_cast, ↓trAdd_f, ↓stOf_f, seval]
      refine hK _ ?_
      try refine hK _ ?_
      repeat (first | refine awp_seq ?_ | refine awp_block ?_ | refine awp_skip ?_ | refine awp_scope ?_ | refine awp_label ?_)
      refine awp_cond (b := true) (by simp -dsimp -implicitDefEqProofs only [push_cast, ↓trAdd_f, ↓stOf_f, seval]) (fun h => ?_) (fun h => ?_)
      rotate_left
      · cases h
      try refine hK _ ?_
      repeat (first | refine awp_seq ?_ | refine awp_block ?_ | refine awp_skip ?_ | refine awp_scope ?_ | refine awp_label ?_)
      refine awp_region tabOk fun K hK => ?_
      simp -dsimp -implicitDefEqProofs only [push_cast, ↓trAdd_f, ↓stOf_f, seval]
      refine hK _ (awp_ret ?_)
      simp -dsimp -implicitDefEqProofs only [e, encFlash, encImg, img0, push_cast, List.mem_append, List.mem_cons, List.mem_singleton, forall_eq_or_imp, forall_eq, ↓trAdd_f, ↓stOf_f, seval]
    | true =>
    have her : er = 0 := by simpa using hE
    subst her
    have e : bootF f key = ⟨g, 1, m, 0⟩ := by rw [e1, e2, if_neg (by decide)]
    simp -dsimp -implicitDefEqProofs only [push_cast, ↓trAdd_f, ↓stOf_f, seval]
    refine hK _ ?_
    try refine hK _ ?_
    repeat (first | refine awp_seq ?_ | refine awp_block ?_ | refine awp_skip ?_ | refine awp_scope ?_ | refine awp_label ?_)
    refine awp_cond (b := false) (by simp -dsimp -implicitDefEqProofs only [push_cast, ↓trAdd_f, ↓stOf_f, seval]) (fun h => ?_) (fun h => ?_)
    · cases h
    refine awp_skip ?_
    try refine hK _ ?_
    repeat (first | refine awp_seq ?_ | refine awp_block ?_ | refine awp_skip ?_ | refine awp_scope ?_ | refine awp_label ?_)
    refine awp_draw tabOk (by kernel_rfl) (by kernel_rfl) fun K hK C hC => ?_
    simp -dsimp -implicitDefEqProofs only [encFlash, encImg, push_cast, ↓trAdd_f, ↓stOf_f, seval]
    refine ⟨hC _ (by kernel_rfl), hK _ (awp_ret ?_)⟩
    simp -dsimp -implicitDefEqProofs only [e, encFlash, encImg, push_cast, List.mem_append, List.mem_cons, List.mem_singleton, forall_eq_or_imp, forall_eq, ↓trAdd_f, ↓stOf_f, seval]
  · rw [hbt] at e0 ⊢
    have e1 : bootF f key = bootP f key r := by rw [e0, if_pos rfl]
    have e2 : bootP f key r = if bestS (provedB f r key 0) (provedB f r key 1) r = -1 then ⟨f, -1, img0, 260⟩ else
      ⟨f, bestS (provedB f r key 0) (provedB f r key 1) r, (wholeF f (bestS (provedB f r key 0) (provedB f r key 1) r).toNat key).1, 0⟩ := rfl
    try refine hK _ ?_
    repeat (first | refine awp_seq ?_ | refine awp_block ?_ | refine awp_skip ?_ | refine awp_scope ?_ | refine awp_label ?_)
    refine awp_region tabOk fun K hK => ?_
    simp -dsimp -implicitDefEqProofs only [push_cast, ↓trAdd_f, ↓stOf_f, seval]
    refine hK _ ?_
    try refine hK _ ?_
    repeat (first | refine awp_seq ?_ | refine awp_block ?_ | refine awp_skip ?_ | refine awp_scope ?_ | refine awp_label ?_)
    refine awp_cond (b := false) (by simp -dsimp -implicitDefEqProofs only [push_cast, ↓trAdd_f, ↓stOf_f, seval]) (fun h => ?_) (fun h => ?_)
    · cases h
    refine awp_skip ?_
    try refine hK _ ?_
    repeat (first | refine awp_seq ?_ | refine awp_block ?_ | refine awp_skip ?_ | refine awp_scope ?_ | refine awp_label ?_)
    refine awp_region tabOk fun K hK => ?_
    simp -dsimp -implicitDefEqProofs only [push_cast, ↓trAdd_f, ↓stOf_f, seval]
    refine ⟨47, [], [], { args := [.fn (.func 50) [.agg (encUnit f r key)] [], .agg (encRec r)], st0 := [], res := .int .i64 (bestS (provedB f r key 0) (provedB f r key 1) r), st1 := [], r := [] }, rfl, .inl (best_ok 50 f r key _ _ (proved0_ok f r key hf) (proved1_ok f r key hf)), ?_, ?_⟩
    · simp -dsimp -implicitDefEqProofs only [encUnit, encRec, pages_ren, ints_ren, pages_okl, ints_okl, push_cast, List.mem_append, List.mem_cons, List.mem_singleton, forall_eq_or_imp, forall_eq, ↓trAdd_f, ↓stOf_f, seval]
      rfl
    simp -dsimp -implicitDefEqProofs only [encUnit, encRec, pages_ren, ints_ren, push_cast, ↓trAdd_f, ↓stOf_f, seval]
    refine hK _ ?_
    rcases bestS_cases (provedB f r key 0) (provedB f r key 1) r with hbp | hbp | hbp
    · rw [hbp] at e2 ⊢
      have e : bootF f key = ⟨f, 0, (wholeF f 0 key).1, 0⟩ := by rw [e1, e2, if_neg (by decide)]; rfl
      try refine hK _ ?_
      repeat (first | refine awp_seq ?_ | refine awp_block ?_ | refine awp_skip ?_ | refine awp_scope ?_ | refine awp_label ?_)
      refine awp_region tabOk fun K hK => ?_
      simp -dsimp -implicitDefEqProofs only [push_cast, ↓trAdd_f, ↓stOf_f, seval]
      refine hK _ ?_
      try refine hK _ ?_
      repeat (first | refine awp_seq ?_ | refine awp_block ?_ | refine awp_skip ?_ | refine awp_scope ?_ | refine awp_label ?_)
      refine awp_cond (b := true) (by simp -dsimp -implicitDefEqProofs only [push_cast, ↓trAdd_f, ↓stOf_f, seval]) (fun h => ?_) (fun h => ?_)
      rotate_left
      · cases h
      try refine hK _ ?_
      repeat (first | refine awp_seq ?_ | refine awp_block ?_ | refine awp_skip ?_ | refine awp_scope ?_ | refine awp_label ?_)
      refine awp_region tabOk fun K hK => ?_
      simp -dsimp -implicitDefEqProofs only [push_cast, ↓trAdd_f, ↓stOf_f, seval]
      refine callK_simple (wholeF_ok f 0 key hf (by decide)) ?_ rfl fun _ => ?_
      · simp -dsimp -implicitDefEqProofs only [encFlash, push_cast, List.mem_append, List.mem_cons, List.mem_singleton, forall_eq_or_imp, forall_eq, ↓trAdd_f, ↓stOf_f, seval]
      generalize wholeF f 0 key = wo at *
      obtain ⟨m, wb⟩ := wo
      simp only at e
      simp -dsimp -implicitDefEqProofs only [encImg, push_cast, ↓trAdd_f, ↓stOf_f, seval]
      refine hK _ ?_
      try refine hK _ ?_
      repeat (first | refine awp_seq ?_ | refine awp_block ?_ | refine awp_skip ?_ | refine awp_scope ?_ | refine awp_label ?_)
      refine awp_draw tabOk (by kernel_rfl) (by kernel_rfl) fun K hK C hC => ?_
      simp -dsimp -implicitDefEqProofs only [encFlash, encImg, push_cast, ↓trAdd_f, ↓stOf_f, seval]
      refine ⟨hC _ (by kernel_rfl), hK _ (awp_ret ?_)⟩
      simp -dsimp -implicitDefEqProofs only [e, encFlash, encImg, push_cast, List.mem_append, List.mem_cons, List.mem_singleton, forall_eq_or_imp, forall_eq, ↓trAdd_f, ↓stOf_f, seval]
    · rw [hbp] at e2 ⊢
      have e : bootF f key = ⟨f, 1, (wholeF f 1 key).1, 0⟩ := by rw [e1, e2, if_neg (by decide)]; rfl
      try refine hK _ ?_
      repeat (first | refine awp_seq ?_ | refine awp_block ?_ | refine awp_skip ?_ | refine awp_scope ?_ | refine awp_label ?_)
      refine awp_region tabOk fun K hK => ?_
      simp -dsimp -implicitDefEqProofs only [push_cast, ↓trAdd_f, ↓stOf_f, seval]
      refine hK _ ?_
      try refine hK _ ?_
      repeat (first | refine awp_seq ?_ | refine awp_block ?_ | refine awp_skip ?_ | refine awp_scope ?_ | refine awp_label ?_)
      refine awp_cond (b := true) (by simp -dsimp -implicitDefEqProofs only [push_cast, ↓trAdd_f, ↓stOf_f, seval]) (fun h => ?_) (fun h => ?_)
      rotate_left
      · cases h
      try refine hK _ ?_
      repeat (first | refine awp_seq ?_ | refine awp_block ?_ | refine awp_skip ?_ | refine awp_scope ?_ | refine awp_label ?_)
      refine awp_region tabOk fun K hK => ?_
      simp -dsimp -implicitDefEqProofs only [push_cast, ↓trAdd_f, ↓stOf_f, seval]
      refine callK_simple (wholeF_ok f 1 key hf (by decide)) ?_ rfl fun _ => ?_
      · simp -dsimp -implicitDefEqProofs only [encFlash, push_cast, List.mem_append, List.mem_cons, List.mem_singleton, forall_eq_or_imp, forall_eq, ↓trAdd_f, ↓stOf_f, seval]
      generalize wholeF f 1 key = wo at *
      obtain ⟨m, wb⟩ := wo
      simp only at e
      simp -dsimp -implicitDefEqProofs only [encImg, push_cast, ↓trAdd_f, ↓stOf_f, seval]
      refine hK _ ?_
      try refine hK _ ?_
      repeat (first | refine awp_seq ?_ | refine awp_block ?_ | refine awp_skip ?_ | refine awp_scope ?_ | refine awp_label ?_)
      refine awp_draw tabOk (by kernel_rfl) (by kernel_rfl) fun K hK C hC => ?_
      simp -dsimp -implicitDefEqProofs only [encFlash, encImg, push_cast, ↓trAdd_f, ↓stOf_f, seval]
      refine ⟨hC _ (by kernel_rfl), hK _ (awp_ret ?_)⟩
      simp -dsimp -implicitDefEqProofs only [e, encFlash, encImg, push_cast, List.mem_append, List.mem_cons, List.mem_singleton, forall_eq_or_imp, forall_eq, ↓trAdd_f, ↓stOf_f, seval]
    · rw [hbp] at e2 ⊢
      have e : bootF f key = ⟨f, -1, img0, 260⟩ := by rw [e1, e2, if_pos rfl]
      try refine hK _ ?_
      repeat (first | refine awp_seq ?_ | refine awp_block ?_ | refine awp_skip ?_ | refine awp_scope ?_ | refine awp_label ?_)
      refine awp_region tabOk fun K hK => ?_
      simp -dsimp -implicitDefEqProofs only [push_cast, ↓trAdd_f, ↓stOf_f, seval]
      refine hK _ ?_
      try refine hK _ ?_
      repeat (first | refine awp_seq ?_ | refine awp_block ?_ | refine awp_skip ?_ | refine awp_scope ?_ | refine awp_label ?_)
      refine awp_cond (b := false) (by simp -dsimp -implicitDefEqProofs only [push_cast, ↓trAdd_f, ↓stOf_f, seval]) (fun h => ?_) (fun h => ?_)
      · cases h
      refine awp_skip ?_
      try refine hK _ ?_
      repeat (first | refine awp_seq ?_ | refine awp_block ?_ | refine awp_skip ?_ | refine awp_scope ?_ | refine awp_label ?_)
      refine awp_region tabOk fun K hK => ?_
      simp -dsimp -implicitDefEqProofs only [push_cast, ↓trAdd_f, ↓stOf_f, seval]
      refine hK _ (awp_ret ?_)
      simp -dsimp -implicitDefEqProofs only [e, encFlash, encImg, img0, push_cast, List.mem_append, List.mem_cons, List.mem_singleton, forall_eq_or_imp, forall_eq, ↓trAdd_f, ↓stOf_f, seval]
end Go.Proofs.YtoifmpiikopelaaDoorFw

/-
  Walks: slot.Empty.
-/
namespace Go.Proofs.YtoifmpiikopelaaDoorFw
open Go Go.Proofs
set_option maxRecDepth 100000
set_option maxHeartbeats 4000000
set_option linter.unusedVariables false
set_option linter.unusedSimpArgs false

/-- The flash behind so many pages erased, from page p on. -/
def eIt (f : Flash) (p : Nat) : Nat → Flash
  | 0 => f
  | k + 1 => (eraseF (eIt f p k) ((p + k : Nat) : Int)).1
def eErr (f : Flash) (p k : Nat) : Int := (eraseF (eIt f p k) ((p + k : Nat) : Int)).2
def emptyG (f : Flash) (p : Nat) : Nat → Flash × Int
  | 0 => (f, 0)
  | k + 1 => if (eraseF f (p : Int)).2 ≠ 0 then eraseF f (p : Int) else emptyG (eraseF f (p : Int)).1 (p + 1) k
def emptyF (f : Flash) (s : Nat) : Flash × Int := emptyG f (2 + 34 * s) 34
theorem eIt_succ (f : Flash) (p : Nat) : ∀ i, eIt f p (i + 1) = eIt (eraseF f (p : Int)).1 (p + 1) i
  | 0 => rfl
  | i + 1 => by
    show (eraseF (eIt f p (i + 1)) _).1 = (eraseF (eIt (eraseF f (p : Int)).1 (p + 1) i) _).1
    rw [eIt_succ f p i]
    have : p + (i + 1) = p + 1 + i := by omega
    rw [this]
theorem eErr_succ (f : Flash) (p i : Nat) : eErr f p (i + 1) = eErr (eraseF f (p : Int)).1 (p + 1) i := by
  unfold eErr
  rw [eIt_succ]
  have : p + (i + 1) = p + 1 + i := by omega
  rw [this]
theorem emptyG_ex : ∀ (k : Nat) (f : Flash) (p : Nat), ∃ n, n ≤ k ∧ (∀ i, i < n → eErr f p i = 0) ∧ ((n = k ∧ emptyG f p k = (eIt f p k, 0)) ∨ (n < k ∧ eErr f p n ≠ 0 ∧ emptyG f p k = eraseF (eIt f p n) ((p + n : Nat) : Int)))
  | 0, f, p => ⟨0, Nat.le_refl _, by omega, .inl ⟨rfl, rfl⟩⟩
  | k + 1, f, p => by
    by_cases h : (eraseF f (p : Int)).2 = 0
    · obtain ⟨n, h1, h2, h3⟩ := emptyG_ex k (eraseF f (p : Int)).1 (p + 1)
      have e : emptyG f p (k + 1) = emptyG (eraseF f (p : Int)).1 (p + 1) k := by
        show (if (eraseF f (p : Int)).2 ≠ 0 then eraseF f (p : Int) else emptyG (eraseF f (p : Int)).1 (p + 1) k) = _
        rw [if_neg (by simp [h])]
      refine ⟨n + 1, by omega, fun i hi => ?_, ?_⟩
      · cases i with
        | zero => exact h
        | succ i => rw [eErr_succ]; exact h2 i (by omega)
      · rcases h3 with ⟨q1, q2⟩ | ⟨q1, q2, q3⟩
        · refine .inl ⟨by omega, ?_⟩
          rw [e, q2, eIt_succ]
        · refine .inr ⟨by omega, by rw [eErr_succ]; exact q2, ?_⟩
          rw [e, q3, eIt_succ]
          have : p + 1 + n = p + (n + 1) := by omega
          rw [this]
    · refine ⟨0, by omega, by omega, .inr ⟨by omega, h, ?_⟩⟩
      show (if (eraseF f (p : Int)).2 ≠ 0 then eraseF f (p : Int) else emptyG (eraseF f (p : Int)).1 (p + 1) k) = _
      rw [if_pos h]
      rfl
theorem eIt_fine {f : Flash} (h : f.fine) (p : Nat) : ∀ k, (eIt f p k).fine
  | 0 => h
  | k + 1 => fine_erase (eIt_fine h p k) _
def flash0 : Flash := { pages := [], wear := [], left := 0, down := false }
def emR (f : Flash) (g : Flash) (e : Int) : List (Nat × Blk) := [(0, .box (encFlash f)), (1, .box (encFlash g)), (2, .box [.int .i64 e])]
def coE (f : Flash) (n s k : Nat) : CallO := { args := [.int .i64 (2 + 34 * (s : Int) + k)], st0 := emR (eIt f (2 + 34 * s) k) flash0 0, res := .bool (k < n : Bool), st1 := if k < n then emR (eIt f (2 + 34 * s) (k + 1)) flash0 0 else emR (eIt f (2 + 34 * s) k) (eIt f (2 + 34 * s) (k + 1)) (eErr f (2 + 34 * s) k), r := [0, 1, 2] }
def oeS (l : Nat) (f : Flash) (s k : Nat) : AS := { sl := [(0, .fn (.yield l) [] []), (3, .int .i64 (2 + 34 * (s : Int))), (4, .int .i64 (2 + 34 * (s : Int) + k))], st := emR (eIt f (2 + 34 * s) k) flash0 0 ++ [(3, .box [.int .i64 s])], nx := 200, n := 19 }
theorem oeB_ok {l : Nat} {rec : Loop} {K : List (Option Addr)} (hKl : K.length = 3) (f : Flash) (n s : Nat) (hs : s ≤ 1) (hn : n < 34) (hY : ∀ i, i ≤ n → YJ Tryd.prog l rec K (if i < n then none else some .ret) (coE f n s i)) :
    FnJ Tryd.prog l rec K (some .ret) 94 [.fn (.yield l) [] [], .ptr 3 0] (emR f flash0 0 ++ [(3, .box [.int .i64 s])]) (.tup [])
      (emR (eIt f (2 + 34 * s) n) (eIt f (2 + 34 * s) (n + 1)) (eErr f (2 + 34 * s) n)) := by
  refine fnJ_walk tabOk Tryd.func94 rfl (by decide +kernel) Tryd.ntmps94 Tryd.results94 (by simp) fun B hR hKn hB => ?_
  have hB' : Lent B 4 := hB
  clear hB
  have hB := hB'
  simp only [emR, List.cons_append, List.nil_append]
  have w1 : IntKind.i64.wrap (34 * (s : Int)) = 34 * (s : Int) := wrap_i64 (by omega) (by omega)
  have w2 : IntKind.i64.wrap (2 + 34 * (s : Int)) = 2 + 34 * (s : Int) := wrap_i64 (by omega) (by omega)
  refine awpF_seq (awpF_of (awp_region tabOk fun K hK => ?_))
  simp -dsimp -implicitDefEqProofs only [w1, w2, push_cast, ↓trAdd_f, ↓stOf_f, seval]
  refine hK _ (awpF_seq (awpF_of (awp_region tabOk fun K hK => ?_)))
  simp -dsimp -implicitDefEqProofs only [push_cast, ↓trAdd_f, ↓stOf_f, seval]
  refine hK _ (awpF_block ?_)
  refine awpF_loop (fun k : Nat => oeS l f s k) (fun k => k ≤ n) (fun k => n - k) 0 (Nat.zero_le _) ?_ fun k hk => ?_
  · simp only [oeS, emR, List.cons_append, List.nil_append, eIt]
    refine le_intro hB [] (by simp) (fun b _ => rfl) rfl ?_ ?_ rfl <;> simp -dsimp -implicitDefEqProofs only [encFlash, Int.add_zero, push_cast, ↓trAdd_f, ↓stOf_f, seval]
  simp only [oeS, emR, List.cons_append, List.nil_append]
  have w3 : IntKind.i64.wrap (2 + 34 * (s : Int) + 34) = 2 + 34 * (s : Int) + 34 := wrap_i64 (by omega) (by omega)
  have d1 : decide (2 + 34 * (s : Int) + (k : Int) < 2 + 34 * (s : Int) + 34) = true := by simp; omega
  refine awpF_seq (awpF_seq (awpF_of (awp_region tabOk fun K hK => ?_)))
  simp -dsimp -implicitDefEqProofs only [w3, d1, push_cast, ↓trAdd_f, ↓stOf_f, seval]
  refine hK _ (awpF_cond (b := true) (by simp -dsimp -implicitDefEqProofs only [push_cast, ↓trAdd_f, ↓stOf_f, seval]) (fun h => ?_) (fun h => by cases h))
  refine awpF_of (awp_skip ?_)
  refine awpF_seq (awpF_block (awpF_seq ?_))
  by_cases hlt : k < n
  · have hyk := hY k hk
    rw [if_pos hlt] at hyk
    refine awpF_of ?_
    refine awp_region_y1 (l1 := [_, _]) tabOk hR hKn fun K hK => ?_
    simp -dsimp -implicitDefEqProofs only [push_cast, ↓trAdd_f, ↓stOf_f, seval]
    have hres : (k < n : Bool) = true := by simpa using hlt
    refine ⟨by show (17 : Nat) < 19; decide, rfl, coE f n s k, hyk, by rw [hKl]; rfl, ?_, ?_⟩
    · simp only [coE, emR, hres, if_pos hlt]
      simp -dsimp -implicitDefEqProofs only [encFlash, push_cast, List.mem_append, List.mem_cons, List.mem_singleton, forall_eq_or_imp, forall_eq, ↓trAdd_f, ↓stOf_f, seval]
      all_goals (try rfl)
    simp only [coE, emR, hres, if_pos hlt]
    simp -dsimp -implicitDefEqProofs only [encFlash, push_cast, ↓trAdd_f, ↓stOf_f, seval]
    refine hK _ (awpF_of ?_)
    try refine hK _ ?_
    repeat (first | refine awp_seq ?_ | refine awp_block ?_ | refine awp_skip ?_ | refine awp_scope ?_ | refine awp_label ?_)
    refine awp_cond (b := false) (by simp -dsimp -implicitDefEqProofs only [push_cast, ↓trAdd_f, ↓stOf_f, seval]) (fun h => ?_) (fun h => ?_)
    · cases h
    refine awp_skip (awpF_of ?_)
    have w4 : IntKind.i64.wrap (2 + 34 * (s : Int) + (k : Int) + 1) = 2 + 34 * (s : Int) + (k : Int) + 1 := wrap_i64 (by omega) (by omega)
    try refine hK _ ?_
    repeat (first | refine awp_seq ?_ | refine awp_block ?_ | refine awp_skip ?_ | refine awp_scope ?_ | refine awp_label ?_)
    refine awp_region tabOk fun K hK => ?_
    simp -dsimp -implicitDefEqProofs only [w4, push_cast, ↓trAdd_f, ↓stOf_f, seval]
    refine hK _ ⟨k + 1, ?_, hlt, by omega⟩
    have hi : (2 + 34 * (s : Int) + (k : Int) + 1) = 2 + 34 * (s : Int) + ((k + 1 : Nat) : Int) := by omega
    rw [hi]
    refine le_intro hB [] (by simp) (fun b _ => rfl) rfl ?_ ?_ rfl <;> simp -dsimp -implicitDefEqProofs only [encFlash, push_cast, ↓trAdd_f, ↓stOf_f, seval]
  · have hke : k = n := by omega
    subst hke
    have hyk := hY _ hk
    rw [if_neg hlt] at hyk
    refine awpF_region_yJ (l1 := [_, _]) tabOk hR hKn fun K hK => ?_
    simp -dsimp -implicitDefEqProofs only [push_cast, ↓trAdd_f, ↓stOf_f, seval]
    have hres : (k < k : Bool) = false := by simp
    refine ⟨by show (17 : Nat) < 19; decide, rfl, coE f k s k, hyk, by rw [hKl]; rfl, ?_, ?_⟩
    · simp only [coE, emR, hres, if_neg hlt]
      simp -dsimp -implicitDefEqProofs only [encFlash, push_cast, List.mem_append, List.mem_cons, List.mem_singleton, forall_eq_or_imp, forall_eq, ↓trAdd_f, ↓stOf_f, seval]
      all_goals (try rfl)
    simp only [coE, emR, hres, if_neg hlt]
    simp -dsimp -implicitDefEqProofs only [encFlash, push_cast, ↓trAdd_f, ↓stOf_f, seval]
    refine hK _ ?_
    try refine hK _ ?_
    repeat (first | refine awp_seq ?_ | refine awp_block ?_ | refine awp_skip ?_ | refine awp_scope ?_ | refine awp_label ?_)
    refine awp_cond (b := true) (by simp -dsimp -implicitDefEqProofs only [push_cast, ↓trAdd_f, ↓stOf_f, seval]) (fun h => ?_) (fun h => ?_)
    rotate_left
    · cases h
    have hB : Lent (pokeB B l (Obj.loop (recJ rec (some Code.ret)))) 4 := hB'
    refine awp_le (s' := { sl := [], st := emR (eIt f (2 + 34 * s) k) (eIt f (2 + 34 * s) (k + 1)) (eErr f (2 + 34 * s) k), nx := 13, n := 19 }) ?_ (awp_ret ?_)
    · simp only [emR]
      refine le_intro hB [] (by simp) (fun b _ => rfl) rfl ?_ ?_ rfl <;> simp -dsimp -implicitDefEqProofs only [encFlash, push_cast, ↓trAdd_f, ↓stOf_f, seval]
    simp only [emR]
    simp -dsimp -implicitDefEqProofs only [encFlash, push_cast, List.mem_append, List.mem_cons, List.mem_singleton, forall_eq_or_imp, forall_eq, ↓trAdd_f, ↓stOf_f, seval]
theorem oeA_ok {l : Nat} {rec : Loop} {K : List (Option Addr)} (hKl : K.length = 3) (f : Flash) (s : Nat) (hs : s ≤ 1) (hY : ∀ i, i < 34 → YJ Tryd.prog l rec K none (coE f 34 s i)) :
    FnJ Tryd.prog l rec K none 94 [.fn (.yield l) [] [], .ptr 3 0] (emR f flash0 0 ++ [(3, .box [.int .i64 s])]) (.tup [])
      (emR (eIt f (2 + 34 * s) 34) flash0 0) := by
  refine fnJ_walk tabOk Tryd.func94 rfl (by decide +kernel) Tryd.ntmps94 Tryd.results94 (by simp) fun B hR hKn hB => ?_
  have hB' : Lent B 4 := hB
  clear hB
  have hB := hB'
  refine awpF_of (awp_weak ?_)
  simp only [emR, List.cons_append, List.nil_append]
  have w1 : IntKind.i64.wrap (34 * (s : Int)) = 34 * (s : Int) := wrap_i64 (by omega) (by omega)
  have w2 : IntKind.i64.wrap (2 + 34 * (s : Int)) = 2 + 34 * (s : Int) := wrap_i64 (by omega) (by omega)
  try refine hK _ ?_
  repeat (first | refine awp_seq ?_ | refine awp_block ?_ | refine awp_skip ?_ | refine awp_scope ?_ | refine awp_label ?_)
  refine awp_region tabOk fun K hK => ?_
  simp -dsimp -implicitDefEqProofs only [w1, w2, push_cast, ↓trAdd_f, ↓stOf_f, seval]
  try refine hK _ ?_
  repeat (first | refine awp_seq ?_ | refine awp_block ?_ | refine awp_skip ?_ | refine awp_scope ?_ | refine awp_label ?_)
  refine awp_region tabOk fun K hK => ?_
  simp -dsimp -implicitDefEqProofs only [push_cast, ↓trAdd_f, ↓stOf_f, seval]
  refine hK _ (awp_block ?_)
  refine awp_for (fun k : Nat => oeS l f s k) (fun k => k ≤ 34) (fun k => 34 - k) 0 (Nat.zero_le _) ?_ fun k hk => ?_
  · simp only [oeS, emR, List.cons_append, List.nil_append, eIt]
    refine le_intro hB [] (by simp) (fun b _ => rfl) rfl ?_ ?_ rfl <;> simp -dsimp -implicitDefEqProofs only [encFlash, Int.add_zero, push_cast, ↓trAdd_f, ↓stOf_f, seval]
  simp only [oeS, emR, List.cons_append, List.nil_append]
  have w3 : IntKind.i64.wrap (2 + 34 * (s : Int) + 34) = 2 + 34 * (s : Int) + 34 := wrap_i64 (by omega) (by omega)
  by_cases hlt : k < 34
  · have d1 : decide (2 + 34 * (s : Int) + (k : Int) < 2 + 34 * (s : Int) + 34) = true := by simp; omega
    try refine hK _ ?_
    repeat (first | refine awp_seq ?_ | refine awp_block ?_ | refine awp_skip ?_ | refine awp_scope ?_ | refine awp_label ?_)
    refine awp_region tabOk fun K hK => ?_
    simp -dsimp -implicitDefEqProofs only [w3, d1, push_cast, ↓trAdd_f, ↓stOf_f, seval]
    try refine hK _ ?_
    repeat (first | refine awp_seq ?_ | refine awp_block ?_ | refine awp_skip ?_ | refine awp_scope ?_ | refine awp_label ?_)
    refine awp_cond (b := true) (by simp -dsimp -implicitDefEqProofs only [push_cast, ↓trAdd_f, ↓stOf_f, seval]) (fun h => ?_) (fun h => ?_)
    rotate_left
    · cases h
    refine awp_skip ?_
    refine awp_seq (awp_block (awp_seq ?_))
    have hyk := hY k hlt
    refine awp_region_y1 (l1 := [_, _]) tabOk hR hKn fun K hK => ?_
    simp -dsimp -implicitDefEqProofs only [push_cast, ↓trAdd_f, ↓stOf_f, seval]
    have hres : (k < 34 : Bool) = true := by simpa using hlt
    refine ⟨by show (17 : Nat) < 19; decide, rfl, coE f 34 s k, hyk, by rw [hKl]; rfl, ?_, ?_⟩
    · simp only [coE, emR, hres, if_pos hlt]
      simp -dsimp -implicitDefEqProofs only [encFlash, push_cast, List.mem_append, List.mem_cons, List.mem_singleton, forall_eq_or_imp, forall_eq, ↓trAdd_f, ↓stOf_f, seval]
      all_goals (try rfl)
    simp only [coE, emR, hres, if_pos hlt]
    simp -dsimp -implicitDefEqProofs only [encFlash, push_cast, ↓trAdd_f, ↓stOf_f, seval]
    refine hK _ ?_
    try refine hK _ ?_
    repeat (first | refine awp_seq ?_ | refine awp_block ?_ | refine awp_skip ?_ | refine awp_scope ?_ | refine awp_label ?_)
    refine awp_cond (b := false) (by simp -dsimp -implicitDefEqProofs only [push_cast, ↓trAdd_f, ↓stOf_f, seval]) (fun h => ?_) (fun h => ?_)
    · cases h
    refine awp_skip ?_
    have w4 : IntKind.i64.wrap (2 + 34 * (s : Int) + (k : Int) + 1) = 2 + 34 * (s : Int) + (k : Int) + 1 := wrap_i64 (by omega) (by omega)
    try refine hK _ ?_
    repeat (first | refine awp_seq ?_ | refine awp_block ?_ | refine awp_skip ?_ | refine awp_scope ?_ | refine awp_label ?_)
    refine awp_region tabOk fun K hK => ?_
    simp -dsimp -implicitDefEqProofs only [w4, push_cast, ↓trAdd_f, ↓stOf_f, seval]
    refine hK _ ⟨k + 1, hlt, by omega, ?_⟩
    have hi : (2 + 34 * (s : Int) + (k : Int) + 1) = 2 + 34 * (s : Int) + ((k + 1 : Nat) : Int) := by omega
    rw [hi]
    refine le_intro hB [] (by simp) (fun b _ => rfl) rfl ?_ ?_ rfl <;> simp -dsimp -implicitDefEqProofs only [encFlash, push_cast, ↓trAdd_f, ↓stOf_f, seval]
  · have hke : k = 34 := by omega
    subst hke
    have d1 : decide (2 + 34 * (s : Int) + 34 < 2 + 34 * (s : Int) + 34) = false := by simp
    try refine hK _ ?_
    repeat (first | refine awp_seq ?_ | refine awp_block ?_ | refine awp_skip ?_ | refine awp_scope ?_ | refine awp_label ?_)
    refine awp_region tabOk fun K hK => ?_
    simp -dsimp -implicitDefEqProofs only [w3, d1, push_cast, ↓trAdd_f, ↓stOf_f, seval]
    try refine hK _ ?_
    repeat (first | refine awp_seq ?_ | refine awp_block ?_ | refine awp_skip ?_ | refine awp_scope ?_ | refine awp_label ?_)
    refine awp_cond (b := false) (by simp -dsimp -implicitDefEqProofs only [push_cast, ↓trAdd_f, ↓stOf_f, seval]) (fun h => ?_) (fun h => ?_)
    · cases h
    refine awp_exit rfl ?_
    refine ⟨{ sl := [], st := emR (eIt f (2 + 34 * s) 34) flash0 0, nx := 13, n := 19 }, ?_, ?_⟩
    · simp only [emR]
      refine le_intro hB [] (by simp) (fun b _ => rfl) rfl ?_ ?_ rfl <;> simp -dsimp -implicitDefEqProofs only [encFlash, push_cast, ↓trAdd_f, ↓stOf_f, seval]
    simp only [emR]
    simp -dsimp -implicitDefEqProofs only [encFlash, push_cast, List.mem_append, List.mem_cons, List.mem_singleton, forall_eq_or_imp, forall_eq, ↓trAdd_f, ↓stOf_f, seval]
end Go.Proofs.YtoifmpiikopelaaDoorFw

/-
  Walks: slot.Empty itself.
-/
namespace Go.Proofs.YtoifmpiikopelaaDoorFw
open Go Go.Proofs
set_option maxRecDepth 100000
set_option maxHeartbeats 4000000
set_option linter.unusedVariables false
set_option linter.unusedSimpArgs false

def endE (n : Nat) : Option Code := if n < 34 then some .ret else none
def rndE (n k : Nat) : Option Code := if k < n then none else some .ret
theorem emptyF_ok (f : Flash) (s : Nat) (hs : s ≤ 1) (hf : f.fine) :
    FnS Tryd.prog 62 [.agg (encFlash f), .int .i64 s] [] (.tup [.agg (encFlash (emptyF f s).1), .int .i64 (emptyF f s).2]) [] := by
  have hn0 : noneS (s : Int) = false := (noneS_iff s (by omega) (by omega)).2 (by omega)
  obtain ⟨n, hn34, herr, hend⟩ := emptyG_ex 34 f (2 + 34 * s)
  have heF : emptyF f s = emptyG f (2 + 34 * s) 34 := rfl
  rw [← heF] at hend
  refine fn_raw tabOk Tryd.func62 rfl (by decide +kernel) Tryd.ntmps62 Tryd.results62 (by simp) fun B hB hds => ?_
  refine raw_seq (N' := fun s1 => s1.le B { sl := [(1, .int .i64 s), (2, .ptr 100 0), (4, .ptr 101 0), (5, .ptr 102 0)], st := [(100, .box (encFlash f)), (101, .box (encFlash flash0)), (102, .box [.int .i64 0])], nx := 200, n := 27 }) ?_ (fun s1 hle a w hs1 => ?_)
  · try refine hK _ ?_
    repeat (first | refine awp_seq ?_ | refine awp_block ?_ | refine awp_skip ?_ | refine awp_scope ?_ | refine awp_label ?_)
    refine awp_region tabOk fun K hK => ?_
    simp -dsimp -implicitDefEqProofs only [push_cast, ↓trAdd_f, ↓stOf_f, seval]
    refine hK _ ?_
    refine le_intro hB [(100, 0), (101, 8), (102, 16)] (by simp) (fun b hb => absurd hb (Nat.not_lt_zero b)) rfl ?_ ?_ rfl <;> simp -dsimp -implicitDefEqProofs only [encFlash, flash0, push_cast, ↓trAdd_f, ↓stOf_f, seval]
  refine raw_seq (s := { sl := [(1, .int .i64 s), (2, .ptr 100 0), (4, .ptr 101 0), (5, .ptr 102 0)], st := [(100, .box (encFlash f)), (101, .box (encFlash flash0)), (102, .box [.int .i64 0])], nx := 200, n := 27 }) (N' := fun s1 => s1.le B { sl := [(1, .int .i64 s), (2, .ptr 100 0), (4, .ptr 101 0), (5, .ptr 102 0)], st := [(100, .box (encFlash f)), (101, .box (encFlash flash0)), (102, .box [.int .i64 0])], nx := 600, n := 27 }) ?_ (fun s1 hle1 a w hs1 => ?_) a w (hle a w hs1)
  · try refine hK _ ?_
    repeat (first | refine awp_seq ?_ | refine awp_block ?_ | refine awp_skip ?_ | refine awp_scope ?_ | refine awp_label ?_)
    refine awp_region tabOk fun K hK => ?_
    simp -dsimp -implicitDefEqProofs only [push_cast, ↓trAdd_f, ↓stOf_f, seval]
    refine callK_simple (none_ok s) ?_ rfl fun _ => ?_
    · simp -dsimp -implicitDefEqProofs only [push_cast, List.mem_append, List.mem_cons, List.mem_singleton, forall_eq_or_imp, forall_eq, ↓trAdd_f, ↓stOf_f, seval]
    rw [hn0]
    simp -dsimp -implicitDefEqProofs only [push_cast, ↓trAdd_f, ↓stOf_f, seval]
    refine hK _ ?_
    try refine hK _ ?_
    repeat (first | refine awp_seq ?_ | refine awp_block ?_ | refine awp_skip ?_ | refine awp_scope ?_ | refine awp_label ?_)
    refine awp_cond (b := false) (by simp -dsimp -implicitDefEqProofs only [push_cast, ↓trAdd_f, ↓stOf_f, seval]) (fun h => ?_) (fun h => ?_)
    · cases h
    refine awp_skip ?_
    refine le_intro hB [] (by simp) (fun b _ => rfl) rfl ?_ ?_ rfl <;> simp -dsimp -implicitDefEqProofs only [encFlash, push_cast, ↓trAdd_f, ↓stOf_f, seval]
  refine raw_seq2 (s := { sl := [(1, .int .i64 s), (2, .ptr 100 0), (4, .ptr 101 0), (5, .ptr 102 0)], st := [(100, .box (encFlash f)), (101, .box (encFlash flash0)), (102, .box [.int .i64 0])], nx := 600, n := 27 }) (N' := fun s1 => s1.le B { sl := [(1, .int .i64 s), (2, .ptr 100 0), (4, .ptr 101 0), (5, .ptr 102 0), (13, .fn (.func 94) [] [.ptr 103 0])], st := [(100, .box (encFlash f)), (101, .box (encFlash flash0)), (102, .box [.int .i64 0]), (103, .box [.int .i64 s])], nx := 800, n := 27 }) ?_ (fun s1 hle3 a w hs1 => ?_) a w (hle1 a w hs1)
  · try refine hK _ ?_
    repeat (first | refine awp_seq ?_ | refine awp_block ?_ | refine awp_skip ?_ | refine awp_scope ?_ | refine awp_label ?_)
    refine awp_region tabOk fun K hK => ?_
    simp -dsimp -implicitDefEqProofs only [push_cast, ↓trAdd_f, ↓stOf_f, seval]
    refine ⟨86, [], [], { args := [.int .i64 s], st0 := [], res := .fn (.func 94) [] [.ptr 0 0], st1 := [(0, .box [.int .i64 s])], r := [] }, rfl, .inl (of_ok s), ?_, ?_⟩
    · simp -dsimp -implicitDefEqProofs only [encFlash, push_cast, List.mem_append, List.mem_cons, List.mem_singleton, forall_eq_or_imp, forall_eq, ↓trAdd_f, ↓stOf_f, seval]
      rfl
    simp -dsimp -implicitDefEqProofs only [encFlash, push_cast, ↓trAdd_f, ↓stOf_f, seval]
    refine hK _ ?_
    refine le_intro hB [(100, 100), (101, 101), (102, 102), (103, 608)] (by simp) (fun b hb => absurd hb (Nat.not_lt_zero b)) rfl ?_ ?_ rfl <;> simp -dsimp -implicitDefEqProofs only [encFlash, push_cast, ↓trAdd_f, ↓stOf_f, seval]
  refine range_wp1 (ι := { i : Nat // i ≤ n ∧ i < 34 }) (co := fun i => coE f n s i.1) (x0 := fun i => .int .i64 (2 + 34 * (s : Int) + i.1)) (jmp := fun i => rndE n i.1) (caps := [(2, 0, 0), (4, 1, 0), (5, 2, 0)]) (r := [100, 101, 102, 103]) (kc := 3) (jump := endE n) (n0 := 0)
    (cg := fun l => { args := [.fn (.yield l) [] [], .ptr 3 0], st0 := emR f flash0 0 ++ [(3, .box [.int .i64 s])], res := .tup [], st1 := if n < 34 then emR (eIt f (2 + 34 * s) n) (eIt f (2 + 34 * s) (n + 1)) (eErr f (2 + 34 * s) n) else emR (eIt f (2 + 34 * s) 34) flash0 0, r := [100, 101, 102, 103] })
    (s := { sl := [(1, .int .i64 s), (2, .ptr 100 0), (4, .ptr 101 0), (5, .ptr 102 0), (13, .fn (.func 94) [] [.ptr 103 0])], st := [(100, .box (encFlash f)), (101, .box (encFlash flash0)), (102, .box [.int .i64 0]), (103, .box [.int .i64 s])], nx := 800, n := 27 }) (cap := [.ptr 103 0]) (gf := 94)
    hB hds rfl (by show (14 : Nat) < 27; decide) (by decide) (fun x hx => by simp at hx; rcases hx with rfl | rfl | rfl <;> exact ⟨by decide, by decide, rfl⟩) (fun i => ⟨rfl, ?_⟩) (fun l i B' hB' => ?_) (fun l rec K hKl hY => ?_) (fun l => rfl) (fun l => ?_) (fun l B' hB' => ?_) a w (hle3 a w hs1)
  · show PV.bool (decide (i.1 < n)) = .bool (rndE n i.1).isNone
    unfold rndE
    by_cases h : i.1 < n <;> simp [h]
  · obtain ⟨i, hi, hi34⟩ := i
    have hfi := eIt_fine hf (2 + 34 * s) i
    have hpg : (2 + 34 * (s : Int) + (i : Int)) = ((2 + 34 * s + i : Nat) : Int) := by omega
    have hne : eIt f (2 + 34 * s) (i + 1) = (eraseF (eIt f (2 + 34 * s) i) ((2 + 34 * s + i : Nat) : Int)).1 := rfl
    have hee : eErr f (2 + 34 * s) i = (eraseF (eIt f (2 + 34 * s) i) ((2 + 34 * s + i : Nat) : Int)).2 := rfl
    have hec := erase_ok (eIt f (2 + 34 * s) i) ((2 + 34 * s + i : Nat) : Int) hfi.good hfi.lim
    rw [← hne, ← hee, ← hpg] at hec
    by_cases hlt : i < n
    · have hj : rndE n i = none := by unfold rndE; rw [if_pos hlt]
      have he0 := herr i hlt
      rw [he0] at hec
      simp only [roundS1, coE, emR, List.map_cons, List.map_nil, hj, if_pos hlt, endAt, Option.isNone] at *
      refine awpR_region tabOk rfl fun K hK => ?_
      simp -dsimp -implicitDefEqProofs only [push_cast, ↓trAdd_f, ↓stOf_f, seval]
      refine hK _ (fun B1 hB1 => awpR_block (awpR_seq (awpR_region tabOk rfl fun K hK => ?_)))
      simp -dsimp -implicitDefEqProofs only [encFlash, push_cast, ↓trAdd_f, ↓stOf_f, seval]
      refine callK_simple hec ?_ rfl fun _ => ?_
      · simp -dsimp -implicitDefEqProofs only [encFlash, push_cast, List.mem_append, List.mem_cons, List.mem_singleton, forall_eq_or_imp, forall_eq, ↓trAdd_f, ↓stOf_f, seval]
      simp -dsimp -implicitDefEqProofs only [encFlash, push_cast, ↓trAdd_f, ↓stOf_f, seval]
      refine hK _ (awpR_seq (awpR_seq (awpR_region tabOk rfl fun K hK => ?_)))
      simp -dsimp -implicitDefEqProofs only [push_cast, ↓trAdd_f, ↓stOf_f, seval]
      refine hK _ (awpR_cond (b := false) (by simp -dsimp -implicitDefEqProofs only [push_cast, ↓trAdd_f, ↓stOf_f, seval]) (fun h => by cases h) fun _ => awpR_skip (awpR_region tabOk rfl fun K hK => ?_))
      simp -dsimp -implicitDefEqProofs only [encFlash, push_cast, ↓trAdd_f, ↓stOf_f, seval]
      refine hK _ ?_
      simp -dsimp -implicitDefEqProofs only [encFlash, push_cast, List.mem_append, List.mem_cons, List.mem_singleton, forall_eq_or_imp, forall_eq, ↓trAdd_f, ↓stOf_f, seval]
    · have hj : rndE n i = some .ret := by unfold rndE; rw [if_neg hlt]
      have hin : i = n := by omega
      subst hin
      have hne0 : (eErr f (2 + 34 * s) i != 0) = true := by
        rcases hend with ⟨q, _⟩ | ⟨_, q, _⟩
        · omega
        · simpa using q
      simp only [roundS1, coE, emR, List.map_cons, List.map_nil, hj, if_neg hlt, endAt, Option.isNone] at *
      refine awpR_region tabOk rfl fun K hK => ?_
      simp -dsimp -implicitDefEqProofs only [push_cast, ↓trAdd_f, ↓stOf_f, seval]
      refine hK _ (fun B1 hB1 => awpR_block (awpR_seq (awpR_region tabOk rfl fun K hK => ?_)))
      simp -dsimp -implicitDefEqProofs only [encFlash, push_cast, ↓trAdd_f, ↓stOf_f, seval]
      refine callK_simple hec ?_ rfl fun _ => ?_
      · simp -dsimp -implicitDefEqProofs only [encFlash, push_cast, List.mem_append, List.mem_cons, List.mem_singleton, forall_eq_or_imp, forall_eq, ↓trAdd_f, ↓stOf_f, seval]
      simp -dsimp -implicitDefEqProofs only [encFlash, push_cast, ↓trAdd_f, ↓stOf_f, seval]
      refine hK _ (awpR_seq (awpR_seq (awpR_region tabOk rfl fun K hK => ?_)))
      simp -dsimp -implicitDefEqProofs only [hne0, push_cast, ↓trAdd_f, ↓stOf_f, seval]
      refine hK _ (awpR_cond (b := true) (by simp -dsimp -implicitDefEqProofs only [push_cast, ↓trAdd_f, ↓stOf_f, seval]) (fun _ => ?_) (fun h => by cases h))
      refine awpR_seq (awpR_region tabOk rfl fun K hK => ?_)
      simp -dsimp -implicitDefEqProofs only [encFlash, push_cast, ↓trAdd_f, ↓stOf_f, seval]
      refine hK _ (awpR_ret ?_)
      simp -dsimp -implicitDefEqProofs only [encFlash, push_cast, List.mem_append, List.mem_cons, List.mem_singleton, forall_eq_or_imp, forall_eq, ↓trAdd_f, ↓stOf_f, seval]
  · by_cases h34 : n < 34
    · have hj : endE n = some .ret := by unfold endE; rw [if_pos h34]
      rw [hj]
      simp only [if_pos h34]
      exact oeB_ok hKl f n s hs h34 fun i hi => hY ⟨i, hi, by omega⟩
    · have h34' : n = 34 := by omega
      subst h34'
      have hj : endE 34 = none := rfl
      rw [hj]
      simp only [if_neg h34]
      exact oeA_ok hKl f s hs fun i hi => by
        have := hY ⟨i, by omega, hi⟩
        have e : rndE 34 i = none := by unfold rndE; rw [if_pos (by omega)]
        rwa [e] at this
  · simp only [emR, List.cons_append, List.nil_append]
    by_cases h34 : n < 34
    · simp only [if_pos h34]
      simp -dsimp -implicitDefEqProofs only [encFlash, push_cast, List.mem_append, List.mem_cons, List.mem_singleton, forall_eq_or_imp, forall_eq, ↓trAdd_f, ↓stOf_f, seval]
      rfl
    · simp only [if_neg h34]
      simp -dsimp -implicitDefEqProofs only [encFlash, push_cast, List.mem_append, List.mem_cons, List.mem_singleton, forall_eq_or_imp, forall_eq, ↓trAdd_f, ↓stOf_f, seval]
      rfl
  · by_cases h34 : n < 34
    · have hj : endE n = some .ret := by unfold endE; rw [if_pos h34]
      rw [hj]
      simp only [if_pos h34, afterK]
      have e : emptyF f s = (eIt f (2 + 34 * s) (n + 1), eErr f (2 + 34 * s) n) := by
        rcases hend with ⟨q, _⟩ | ⟨_, _, q⟩
        · omega
        · exact q
      simp only [emR, List.cons_append, List.nil_append]
      simp -dsimp -implicitDefEqProofs only [encFlash, push_cast, ↓trAdd_f, ↓stOf_f, seval]
      simp -dsimp -implicitDefEqProofs only [e, encFlash, push_cast, List.mem_append, List.mem_cons, List.mem_singleton, forall_eq_or_imp, forall_eq, ↓trAdd_f, ↓stOf_f, seval]
      done
    · have h34' : n = 34 := by omega
      subst h34'
      have hj : endE 34 = none := rfl
      rw [hj]
      simp only [if_neg h34, afterK]
      have e : emptyF f s = (eIt f (2 + 34 * s) 34, 0) := by
        rcases hend with ⟨_, q⟩ | ⟨q, _, _⟩
        · exact q
        · omega
      simp only [emR, List.cons_append, List.nil_append]
      simp -dsimp -implicitDefEqProofs only [encFlash, push_cast, ↓trAdd_f, ↓stOf_f, seval]
      try refine hK _ ?_
      repeat (first | refine awp_seq ?_ | refine awp_block ?_ | refine awp_skip ?_ | refine awp_scope ?_ | refine awp_label ?_)
      refine awp_region tabOk fun K hK => ?_
      simp -dsimp -implicitDefEqProofs only [encFlash, push_cast, ↓trAdd_f, ↓stOf_f, seval]
      refine hK _ (awp_ret ?_)
      simp -dsimp -implicitDefEqProofs only [e, encFlash, push_cast, List.mem_append, List.mem_cons, List.mem_singleton, forall_eq_or_imp, forall_eq, ↓trAdd_f, ↓stOf_f, seval]
end Go.Proofs.YtoifmpiikopelaaDoorFw
