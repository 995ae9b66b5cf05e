import Derived.Test.YtihippjbbcpggaaJ1
/-
  The law FlashRefused: what is refused alters nothing.
-/
namespace Go.Proofs.YtihippjbbcpggaaFw
open Go Go.Proofs
set_option maxRecDepth 100000
set_option maxHeartbeats 4000000
set_option linter.unusedVariables false
set_option linter.unusedSimpArgs false

theorem refused_erase {f : Flash} (hd : f.down = false) (page : Int) : ((eraseF f page).2 == 251) = !inF f page 0 0 ∧ ((eraseF f page).2 = 251 → (eraseF f page).1 = f) := by
  unfold eraseF
  rw [hd]
  cases hin : inF f page 0 0
  · simp
  · by_cases h0 : f.left = 0 <;> simp [h0]
theorem refused_write {f : Flash} (hd : f.down = false) (page at_ : Int) (b : List Int) : ((writeF f page at_ b).2 == 251) = !inF f page at_ b.length ∧ ((writeF f page at_ b).2 = 251 ∨ (writeF f page at_ b).2 = 252 → (writeF f page at_ b).1 = f) := by
  unfold writeF
  rw [hd]
  cases hin : inF f page at_ b.length
  · simp
  · cases hfr : freeF (f.pages.getD page.toNat []) at_.toNat b.length
    · simp
    · cases h3 : (laidF b at_.toNat (f.pages.getD page.toNat []) f.left).2.2 <;> simp [h3]
theorem lawFlashRefused (f : Flash) (page at_ : Int) (b : List Int) (hf : f.wf) (hp : I64 page) (ha : I64 at_) (hb : b.length ≤ 140737488351232 ∧ ∀ x ∈ b, byte x) :
    FnS Try.prog 7 [.agg (encFlash f), .int .i64 page, .int .i64 at_, .sl false 1 (b.map encB)] [] (.bool true) [] := by
  refine fn_walk tabOk Try.func7 rfl (by decide +kernel) Try.ntmps7 Try.results7 (by simp) fun B hB => ?_
  try refine hK _ ?_
  repeat (first | refine awp_seq ?_ | refine awp_block ?_ | refine awp_skip ?_ | refine awp_scope ?_ | refine awp_label ?_)
  refine awp_region tabOk fun K hK => ?_
  simp -dsimp -implicitDefEqProofs only [encFlash, push_cast, ↓trAdd_f, ↓stOf_f, seval]
  try refine hK _ ?_
  repeat (first | refine awp_seq ?_ | refine awp_block ?_ | refine awp_skip ?_ | refine awp_scope ?_ | refine awp_label ?_)
  refine awp_region tabOk fun K hK => ?_
  simp -dsimp -implicitDefEqProofs only [push_cast, ↓trAdd_f, ↓stOf_f, seval]
  refine callK_simple head_ok ?_ rfl fun _ => ?_
  · simp -dsimp -implicitDefEqProofs only [push_cast, List.mem_append, List.mem_cons, List.mem_singleton, forall_eq_or_imp, forall_eq, ↓trAdd_f, ↓stOf_f, seval]
  simp -dsimp -implicitDefEqProofs only [push_cast, ↓trAdd_f, ↓stOf_f, seval]
  refine hK _ ?_
  try refine hK _ ?_
  repeat (first | refine awp_seq ?_ | refine awp_block ?_ | refine awp_skip ?_ | refine awp_scope ?_ | refine awp_label ?_)
  refine awp_region tabOk fun K hK => ?_
  simp -dsimp -implicitDefEqProofs only [push_cast, ↓trAdd_f, ↓stOf_f, seval]
  refine callK_simple (great_ok f) ?_ rfl fun _ => ?_
  · simp -dsimp -implicitDefEqProofs only [encFlash, push_cast, List.mem_append, List.mem_cons, List.mem_singleton, forall_eq_or_imp, forall_eq, ↓trAdd_f, ↓stOf_f, seval]
  cases c1 : greatF f
  rotate_left
  · simp -dsimp -implicitDefEqProofs only [push_cast, ↓trAdd_f, ↓stOf_f, seval]
    refine hK _ ?_
    try refine hK _ ?_
    repeat (first | refine awp_seq ?_ | refine awp_block ?_ | refine awp_skip ?_ | refine awp_scope ?_ | refine awp_label ?_)
    refine awp_cond (b := true) (by simp -dsimp -implicitDefEqProofs only [push_cast, ↓trAdd_f, ↓stOf_f, seval]) (fun h => ?_) (fun h => ?_)
    rotate_left
    · cases h
    try refine hK _ ?_
    repeat (first | refine awp_seq ?_ | refine awp_block ?_ | refine awp_skip ?_ | refine awp_scope ?_ | refine awp_label ?_)
    refine awp_region tabOk fun K hK => ?_
    simp -dsimp -implicitDefEqProofs only [push_cast, ↓trAdd_f, ↓stOf_f, seval]
    refine hK _ (awp_ret ?_)
    simp -dsimp -implicitDefEqProofs only [push_cast, List.mem_append, List.mem_cons, List.mem_singleton, forall_eq_or_imp, forall_eq, ↓trAdd_f, ↓stOf_f, seval]
  obtain ⟨f1, f2, f3⟩ := great_no c1
  simp -dsimp -implicitDefEqProofs only [push_cast, ↓trAdd_f, ↓stOf_f, seval]
  refine callK_simple (right_ok f (by omega) (by omega)) ?_ rfl fun _ => ?_
  · simp -dsimp -implicitDefEqProofs only [encFlash, push_cast, List.mem_append, List.mem_cons, List.mem_singleton, forall_eq_or_imp, forall_eq, ↓trAdd_f, ↓stOf_f, seval]
  cases hr : rightF f
  · simp -dsimp -implicitDefEqProofs only [push_cast, ↓trAdd_f, ↓stOf_f, seval]
    refine hK _ ?_
    try refine hK _ ?_
    repeat (first | refine awp_seq ?_ | refine awp_block ?_ | refine awp_skip ?_ | refine awp_scope ?_ | refine awp_label ?_)
    refine awp_cond (b := true) (by simp -dsimp -implicitDefEqProofs only [push_cast, ↓trAdd_f, ↓stOf_f, seval]) (fun h => ?_) (fun h => ?_)
    rotate_left
    · cases h
    try refine hK _ ?_
    repeat (first | refine awp_seq ?_ | refine awp_block ?_ | refine awp_skip ?_ | refine awp_scope ?_ | refine awp_label ?_)
    refine awp_region tabOk fun K hK => ?_
    simp -dsimp -implicitDefEqProofs only [push_cast, ↓trAdd_f, ↓stOf_f, seval]
    refine hK _ (awp_ret ?_)
    simp -dsimp -implicitDefEqProofs only [push_cast, List.mem_append, List.mem_cons, List.mem_singleton, forall_eq_or_imp, forall_eq, ↓trAdd_f, ↓stOf_f, seval]
  simp -dsimp -implicitDefEqProofs only [push_cast, ↓trAdd_f, ↓stOf_f, seval]
  refine hK _ ?_
  try refine hK _ ?_
  repeat (first | refine awp_seq ?_ | refine awp_block ?_ | refine awp_skip ?_ | refine awp_scope ?_ | refine awp_label ?_)
  refine awp_cond (b := decide (100 < (b.length : Int))) (by simp -dsimp -implicitDefEqProofs only [push_cast, ↓trAdd_f, ↓stOf_f, seval]) (fun h => ?_) (fun h => ?_)
  · try refine hK _ ?_
    repeat (first | refine awp_seq ?_ | refine awp_block ?_ | refine awp_skip ?_ | refine awp_scope ?_ | refine awp_label ?_)
    refine awp_region tabOk fun K hK => ?_
    simp -dsimp -implicitDefEqProofs only [push_cast, ↓trAdd_f, ↓stOf_f, seval]
    refine hK _ (awp_ret ?_)
    simp -dsimp -implicitDefEqProofs only [push_cast, List.mem_append, List.mem_cons, List.mem_singleton, forall_eq_or_imp, forall_eq, ↓trAdd_f, ↓stOf_f, seval]
  have hbl : b.length ≤ 100 := by simp at h; omega
  have ff := fine_of hf hr
  refine awp_skip ?_
  have fx := fine_erase ff page
  obtain ⟨x, ex⟩ : ∃ x, x = eraseF f page := ⟨_, rfl⟩
  have fy := fine_write ff page at_ hb.2
  obtain ⟨y, ey⟩ : ∃ y, y = writeF f page at_ b := ⟨_, rfl⟩
  rw [← ex] at fx
  rw [← ey] at fy
  have sf := sameF_refl f
  have lim : ∀ {x : Flash}, x.fine → x.pages.length ≤ 2 ^ 40 ∧ x.wear.length ≤ 2 ^ 40 := fun hx => by have := hx.good.n80; have := hx.good.wl; omega
  try refine hK _ ?_
  repeat (first | refine awp_seq ?_ | refine awp_block ?_ | refine awp_skip ?_ | refine awp_scope ?_ | refine awp_label ?_)
  refine awp_region tabOk fun K hK => ?_
  simp -dsimp -implicitDefEqProofs only [push_cast, ↓trAdd_f, ↓stOf_f, seval]
  refine callK_simple (erase_ok f page ff.good ff.lim) ?_ rfl fun _ => ?_
  · simp -dsimp -implicitDefEqProofs only [encFlash, push_cast, List.mem_append, List.mem_cons, List.mem_singleton, forall_eq_or_imp, forall_eq, ↓trAdd_f, ↓stOf_f, seval]
  rw [← ex]
  simp -dsimp -implicitDefEqProofs only [encFlash, push_cast, ↓trAdd_f, ↓stOf_f, seval]
  refine hK _ ?_
  try refine hK _ ?_
  repeat (first | refine awp_seq ?_ | refine awp_block ?_ | refine awp_skip ?_ | refine awp_scope ?_ | refine awp_label ?_)
  refine awp_region tabOk fun K hK => ?_
  simp -dsimp -implicitDefEqProofs only [push_cast, ↓trAdd_f, ↓stOf_f, seval]
  refine callK_simple (write_ok f page at_ false b ff.good ff.bytes ff.lim (by omega)) ?_ rfl fun _ => ?_
  · simp -dsimp -implicitDefEqProofs only [encFlash, push_cast, List.mem_append, List.mem_cons, List.mem_singleton, forall_eq_or_imp, forall_eq, ↓trAdd_f, ↓stOf_f, seval]
  rw [← ey]
  simp -dsimp -implicitDefEqProofs only [encFlash, push_cast, ↓trAdd_f, ↓stOf_f, seval]
  refine hK _ ?_
  have his : ∀ q, (decide (0 ≤ page) && decide (page < (f.pages.length : Int))) = q → inF f page 0 0 = q := by
    rintro q rfl
    unfold inF
    cases c3 : decide (0 ≤ page) <;> cases c4 : decide (page < (f.pages.length : Int)) <;> simp
  have hst : True := trivial
  try refine hK _ ?_
  repeat (first | refine awp_seq ?_ | refine awp_block ?_ | refine awp_skip ?_ | refine awp_scope ?_ | refine awp_label ?_)
  refine awp_join ({ sl := [(1, .int .i64 page), (2, .int .i64 at_), (3, .sl false 1 (b.map encB)), (4, .ptr 0 0), (9, .bool true), (10, .ptr 176 0), (11, .int .i64 x.2), (12, .ptr 264 0), (13, .int .i64 y.2), (14, .bool (inF f page 0 0))], st := [(0, .box (encFlash f)), (176, .box (encFlash x.1)), (264, .box (encFlash y.1))], nx := 400, n := 124 }) ?_ (fun _ hl h => awp_le hl h) ?_
  · try refine hK _ ?_
    repeat (first | refine awp_seq ?_ | refine awp_block ?_ | refine awp_skip ?_ | refine awp_scope ?_ | refine awp_label ?_)
    refine awp_region tabOk fun K hK => ?_
    simp -dsimp -implicitDefEqProofs only [push_cast, ↓trAdd_f, ↓stOf_f, seval]
    cases c3 : decide (0 ≤ page)
    · have e := his false (by rw [c3]; rfl)
      simp -dsimp -implicitDefEqProofs only [push_cast, ↓trAdd_f, ↓stOf_f, seval]
      refine hK _ ?_
      refine le_intro hB [] (by simp) (fun b _ => rfl) rfl ?_ ?_ rfl <;> simp -dsimp -implicitDefEqProofs only [encFlash, e, push_cast, ↓trAdd_f, ↓stOf_f, seval]
    · simp -dsimp -implicitDefEqProofs only [push_cast, ↓trAdd_f, ↓stOf_f, seval]
      refine hK _ ?_
      have e := his _ (by rw [c3, Bool.true_and])
      refine le_intro hB [] (by simp) (fun b _ => rfl) rfl ?_ ?_ rfl <;> simp -dsimp -implicitDefEqProofs only [encFlash, e, push_cast, ↓trAdd_f, ↓stOf_f, seval]
  simp only [encFlash]
  try refine hK _ ?_
  repeat (first | refine awp_seq ?_ | refine awp_block ?_ | refine awp_skip ?_ | refine awp_scope ?_ | refine awp_label ?_)
  refine awp_region tabOk fun K hK => ?_
  simp -dsimp -implicitDefEqProofs only [push_cast, ↓trAdd_f, ↓stOf_f, seval]
  try refine hK _ ?_
  repeat (first | refine awp_seq ?_ | refine awp_block ?_ | refine awp_skip ?_ | refine awp_scope ?_ | refine awp_label ?_)
  refine awp_cond (b := f.down) (by simp -dsimp -implicitDefEqProofs only [push_cast, ↓trAdd_f, ↓stOf_f, seval]) (fun h => ?_) (fun h => ?_)
  · have ex1 : x = (f, 250) := by rw [ex]; exact erase_down h page
    have ey1 : y = (f, 250) := by rw [ey]; exact write_down h page at_ b
    have v1 : x.2 = 250 := by rw [ex1]
    have v2 : y.2 = 250 := by rw [ey1]
    have s1 : sameF x.1 f = true := by rw [ex1]; exact sf
    have s2 : sameF y.1 f = true := by rw [ey1]; exact sf
    try refine hK _ ?_
    repeat (first | refine awp_seq ?_ | refine awp_block ?_ | refine awp_skip ?_ | refine awp_scope ?_ | refine awp_label ?_)
    refine awp_region tabOk fun K hK => ?_
    simp -dsimp -implicitDefEqProofs only [v1, v2, push_cast, ↓trAdd_f, ↓stOf_f, seval]
    refine callK_simple (sameRef_ok x.1 f fx.bytes ff.bytes (lim fx).1 (lim fx).2) ?_ rfl fun _ => ?_
    · simp -dsimp -implicitDefEqProofs only [encFlash, push_cast, List.mem_append, List.mem_cons, List.mem_singleton, forall_eq_or_imp, forall_eq, ↓trAdd_f, ↓stOf_f, seval]
    simp -dsimp -implicitDefEqProofs only [s1, push_cast, ↓trAdd_f, ↓stOf_f, seval]
    refine callK_simple (sameRef_ok y.1 f fy.bytes ff.bytes (lim fy).1 (lim fy).2) ?_ rfl fun _ => ?_
    · simp -dsimp -implicitDefEqProofs only [encFlash, push_cast, List.mem_append, List.mem_cons, List.mem_singleton, forall_eq_or_imp, forall_eq, ↓trAdd_f, ↓stOf_f, seval]
    simp -dsimp -implicitDefEqProofs only [s2, push_cast, ↓trAdd_f, ↓stOf_f, seval]
    refine hK _ (awp_ret ?_)
    simp -dsimp -implicitDefEqProofs only [push_cast, List.mem_append, List.mem_cons, List.mem_singleton, forall_eq_or_imp, forall_eq, ↓trAdd_f, ↓stOf_f, seval]
  obtain ⟨e1, e2⟩ := refused_erase h page
  obtain ⟨w1, w2⟩ := refused_write h page at_ b
  rw [← ex] at e1 e2
  rw [← ey] at w1 w2
  refine awp_skip ?_
  have bs : ∀ q : Bool, (q != q) = false := fun q => by simp
  try refine hK _ ?_
  repeat (first | refine awp_seq ?_ | refine awp_block ?_ | refine awp_skip ?_ | refine awp_scope ?_ | refine awp_label ?_)
  refine awp_join ({ sl := [(1, .int .i64 page), (2, .int .i64 at_), (3, .sl false 1 (b.map encB)), (4, .ptr 0 0), (9, .bool true), (10, .ptr 176 0), (11, .int .i64 x.2), (12, .ptr 264 0), (13, .int .i64 y.2), (14, .bool (inF f page 0 0)), (88, .bool false)], st := [(0, .box (encFlash f)), (176, .box (encFlash x.1)), (264, .box (encFlash y.1))], nx := 400, n := 124 }) ?_ (fun _ hl h => awp_le hl h) ?_
  · cases c5 : (x.2 == 251)
    · rw [c5] at e1
      have e3 : inF f page 0 0 = true := by simpa using e1.symm
      rw [e3]
      try refine hK _ ?_
      repeat (first | refine awp_seq ?_ | refine awp_block ?_ | refine awp_skip ?_ | refine awp_scope ?_ | refine awp_label ?_)
      refine awp_region tabOk fun K hK => ?_
      simp -dsimp -implicitDefEqProofs only [c5, push_cast, ↓trAdd_f, ↓stOf_f, seval]
      refine hK _ ?_
      refine le_intro hB [] (by simp) (fun b _ => rfl) rfl ?_ ?_ rfl <;> simp -dsimp -implicitDefEqProofs only [encFlash, push_cast, ↓trAdd_f, ↓stOf_f, seval]
    · rw [c5] at e1
      have e3 : inF f page 0 0 = false := by simpa using e1.symm
      have s1 : sameF x.1 f = true := by rw [e2 (by simpa using c5)]; exact sf
      rw [e3]
      try refine hK _ ?_
      repeat (first | refine awp_seq ?_ | refine awp_block ?_ | refine awp_skip ?_ | refine awp_scope ?_ | refine awp_label ?_)
      refine awp_region tabOk fun K hK => ?_
      simp -dsimp -implicitDefEqProofs only [c5, push_cast, ↓trAdd_f, ↓stOf_f, seval]
      refine callK_simple (sameRef_ok x.1 f fx.bytes ff.bytes (lim fx).1 (lim fx).2) ?_ rfl fun _ => ?_
      · simp -dsimp -implicitDefEqProofs only [encFlash, push_cast, List.mem_append, List.mem_cons, List.mem_singleton, forall_eq_or_imp, forall_eq, ↓trAdd_f, ↓stOf_f, seval]
      simp -dsimp -implicitDefEqProofs only [s1, push_cast, ↓trAdd_f, ↓stOf_f, seval]
      refine hK _ ?_
      refine le_intro hB [] (by simp) (fun b _ => rfl) rfl ?_ ?_ rfl <;> simp -dsimp -implicitDefEqProofs only [encFlash, push_cast, ↓trAdd_f, ↓stOf_f, seval]
  try refine hK _ ?_
  repeat (first | refine awp_seq ?_ | refine awp_block ?_ | refine awp_skip ?_ | refine awp_scope ?_ | refine awp_label ?_)
  refine awp_cond (b := false) (by simp -dsimp -implicitDefEqProofs only [push_cast, ↓trAdd_f, ↓stOf_f, seval]) (fun h => ?_) (fun h => ?_)
  · cases h
  refine awp_skip ?_
  have hin2 : ∀ q, (inF f page 0 0 && (decide (0 ≤ at_) && (decide (at_ ≤ 64) && decide (at_ + (b.length : Int) ≤ 64)))) = q → inF f page at_ b.length = q := by
    rintro q rfl
    unfold inF
    cases c3 : decide (0 ≤ page) <;> cases c4 : decide (page < (f.pages.length : Int)) <;> cases c6 : decide (0 ≤ at_) <;> cases c7 : decide (at_ ≤ 64) <;> simp
    omega
  try refine hK _ ?_
  repeat (first | refine awp_seq ?_ | refine awp_block ?_ | refine awp_skip ?_ | refine awp_scope ?_ | refine awp_label ?_)
  refine awp_join ({ sl := [(9, .bool true), (4, .ptr 0 0), (12, .ptr 264 0), (13, .int .i64 y.2), (15, .bool (inF f page at_ b.length))], st := [(0, .box (encFlash f)), (264, .box (encFlash y.1))], nx := 400, n := 124 }) ?_ (fun _ hl h => awp_le hl h) ?_
  · try refine hK _ ?_
    repeat (first | refine awp_seq ?_ | refine awp_block ?_ | refine awp_skip ?_ | refine awp_scope ?_ | refine awp_label ?_)
    refine awp_region tabOk fun K hK => ?_
    simp -dsimp -implicitDefEqProofs only [push_cast, ↓trAdd_f, ↓stOf_f, seval]
    cases c3 : inF f page 0 0
    · have e := hin2 false (by rw [c3]; rfl)
      simp -dsimp -implicitDefEqProofs only [push_cast, ↓trAdd_f, ↓stOf_f, seval]
      refine hK _ ?_
      refine le_intro hB [] (by simp) (fun b _ => rfl) rfl ?_ ?_ rfl <;> simp -dsimp -implicitDefEqProofs only [encFlash, e, push_cast, ↓trAdd_f, ↓stOf_f, seval]
    · simp -dsimp -implicitDefEqProofs only [push_cast, ↓trAdd_f, ↓stOf_f, seval]
      cases c4 : decide (0 ≤ at_)
      · have e := hin2 false (by rw [c3, c4]; rfl)
        simp -dsimp -implicitDefEqProofs only [push_cast, ↓trAdd_f, ↓stOf_f, seval]
        refine hK _ ?_
        refine le_intro hB [] (by simp) (fun b _ => rfl) rfl ?_ ?_ rfl <;> simp -dsimp -implicitDefEqProofs only [encFlash, e, push_cast, ↓trAdd_f, ↓stOf_f, seval]
      · simp -dsimp -implicitDefEqProofs only [push_cast, ↓trAdd_f, ↓stOf_f, seval]
        cases c6 : decide (at_ ≤ 64)
        · have e := hin2 false (by rw [c3, c4, c6]; rfl)
          simp -dsimp -implicitDefEqProofs only [push_cast, ↓trAdd_f, ↓stOf_f, seval]
          refine hK _ ?_
          refine le_intro hB [] (by simp) (fun b _ => rfl) rfl ?_ ?_ rfl <;> simp -dsimp -implicitDefEqProofs only [encFlash, e, push_cast, ↓trAdd_f, ↓stOf_f, seval]
        · have e := hin2 _ (by rw [c3, c4, c6, Bool.true_and, Bool.true_and, Bool.true_and])
          have hwr : IntKind.i64.wrap (at_ + (b.length : Int)) = at_ + b.length := wrap_i64 (by simp at c4; omega) (by simp at c6; omega)
          simp -dsimp -implicitDefEqProofs only [hwr, push_cast, ↓trAdd_f, ↓stOf_f, seval]
          refine hK _ ?_
          refine le_intro hB [] (by simp) (fun b _ => rfl) rfl ?_ ?_ rfl <;> simp -dsimp -implicitDefEqProofs only [encFlash, e, push_cast, ↓trAdd_f, ↓stOf_f, seval]
  try refine hK _ ?_
  repeat (first | refine awp_seq ?_ | refine awp_block ?_ | refine awp_skip ?_ | refine awp_scope ?_ | refine awp_label ?_)
  refine awp_region tabOk fun K hK => ?_
  simp -dsimp -implicitDefEqProofs only [w1, bs, push_cast, ↓trAdd_f, ↓stOf_f, seval]
  refine hK _ ?_
  try refine hK _ ?_
  repeat (first | refine awp_seq ?_ | refine awp_block ?_ | refine awp_skip ?_ | refine awp_scope ?_ | refine awp_label ?_)
  refine awp_cond (b := false) (by simp -dsimp -implicitDefEqProofs only [push_cast, ↓trAdd_f, ↓stOf_f, seval]) (fun h => ?_) (fun h => ?_)
  · cases h
  refine awp_skip ?_
  cases c8 : (y.2 != 251)
  · have s3 : sameF y.1 f = true := by rw [w2 (.inl (by simpa using c8))]; exact sf
    try refine hK _ ?_
    repeat (first | refine awp_seq ?_ | refine awp_block ?_ | refine awp_skip ?_ | refine awp_scope ?_ | refine awp_label ?_)
    refine awp_region tabOk fun K hK => ?_
    simp -dsimp -implicitDefEqProofs only [c8, encFlash, push_cast, ↓trAdd_f, ↓stOf_f, seval]
    refine callK_simple (sameRef_ok y.1 f fy.bytes ff.bytes (lim fy).1 (lim fy).2) ?_ rfl fun _ => ?_
    · simp -dsimp -implicitDefEqProofs only [encFlash, push_cast, List.mem_append, List.mem_cons, List.mem_singleton, forall_eq_or_imp, forall_eq, ↓trAdd_f, ↓stOf_f, seval]
    simp -dsimp -implicitDefEqProofs only [s3, push_cast, ↓trAdd_f, ↓stOf_f, seval]
    refine hK _ (awp_ret ?_)
    simp -dsimp -implicitDefEqProofs only [push_cast, List.mem_append, List.mem_cons, List.mem_singleton, forall_eq_or_imp, forall_eq, ↓trAdd_f, ↓stOf_f, seval]
  · cases c9 : (y.2 != 252)
    · have s3 : sameF y.1 f = true := by rw [w2 (.inr (by simpa using c9))]; exact sf
      try refine hK _ ?_
      repeat (first | refine awp_seq ?_ | refine awp_block ?_ | refine awp_skip ?_ | refine awp_scope ?_ | refine awp_label ?_)
      refine awp_region tabOk fun K hK => ?_
      simp -dsimp -implicitDefEqProofs only [c8, c9, encFlash, push_cast, ↓trAdd_f, ↓stOf_f, seval]
      refine callK_simple (sameRef_ok y.1 f fy.bytes ff.bytes (lim fy).1 (lim fy).2) ?_ rfl fun _ => ?_
      · simp -dsimp -implicitDefEqProofs only [encFlash, push_cast, List.mem_append, List.mem_cons, List.mem_singleton, forall_eq_or_imp, forall_eq, ↓trAdd_f, ↓stOf_f, seval]
      simp -dsimp -implicitDefEqProofs only [s3, push_cast, ↓trAdd_f, ↓stOf_f, seval]
      refine hK _ (awp_ret ?_)
      simp -dsimp -implicitDefEqProofs only [push_cast, List.mem_append, List.mem_cons, List.mem_singleton, forall_eq_or_imp, forall_eq, ↓trAdd_f, ↓stOf_f, seval]
    · try refine hK _ ?_
      repeat (first | refine awp_seq ?_ | refine awp_block ?_ | refine awp_skip ?_ | refine awp_scope ?_ | refine awp_label ?_)
      refine awp_region tabOk fun K hK => ?_
      simp -dsimp -implicitDefEqProofs only [c8, c9, encFlash, push_cast, ↓trAdd_f, ↓stOf_f, seval]
      refine hK _ (awp_ret ?_)
      simp -dsimp -implicitDefEqProofs only [push_cast, List.mem_append, List.mem_cons, List.mem_singleton, forall_eq_or_imp, forall_eq, ↓trAdd_f, ↓stOf_f, seval]
end Go.Proofs.YtihippjbbcpggaaFw
