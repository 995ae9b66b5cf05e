import Derived.Test.YtahkpghgjjlgdaaJ2
import Derived.Test.YtahkpghgjjlgdaaJ3
/-
  Walks: sent, and the function that it hands back, of 1, 3, 4, 5 queues.
-/
namespace Go.Proofs.YtahkpghgjjlgdaaFw
open Go Go.Proofs
set_option maxRecDepth 100000
set_option maxHeartbeats 16000000
set_option linter.unusedVariables false
set_option linter.unusedSimpArgs false

theorem sent1_ok (x0 : QS) (until_ : Int) : FnS Try.prog 29 [.own 1 1 0 1, .int .i64 until_] [(0, .box (encQ x0)), (1, .row 1 [[.ptr 0 0]])] (.fn (.func 32) [] [.ptr 2 0, .ptr 3 0]) [(0, .box (encQ x0)), (1, .row 1 [[.ptr 0 0]]), (2, .box [.own 1 1 0 1]), (3, .box [.int .i64 until_])] := by
  refine fn_walkN tabOk Try.func29 rfl (by decide +kernel) Try.ntmps29 Try.results29 (by simp) fun B hB => ?_
  simp only [encQ]
  try refine hK _ ?_
  repeat (first | refine awp_seq ?_ | refine awp_block ?_ | refine awp_skip ?_ | refine awp_scope ?_ | refine awp_label ?_)
  refine awp_region tabOk fun K hK => ?_
  simp -dsimp -implicitDefEqProofs only [push_cast, ↓trAdd_f, ↓stOf_f, seval]
  try refine hK _ ?_
  repeat (first | refine awp_seq ?_ | refine awp_block ?_ | refine awp_skip ?_ | refine awp_scope ?_ | refine awp_label ?_)
  refine awp_region tabOk fun K hK => ?_
  simp -dsimp -implicitDefEqProofs only [push_cast, ↓trAdd_f, ↓stOf_f, seval]
  refine hK _ ?_
  refine awp_le (s' := { sl := [(4, .fn (.func 32) [] [.ptr 2 0, .ptr 3 0])], st := [(0, .box (encQ x0)), (1, .row 1 [[.ptr 0 0]]), (2, .box [.own 1 1 0 1]), (3, .box [.int .i64 until_])], nx := 10, n := 6 }) (le_intro hB [(3, 10)] (by simp) (fun b hb => by have hb' : b < 2 := hb; have : ¬ 3 = b := (by omega); simp [renG, lk, this]) rfl ?_ ?_ rfl) ?_
  · simp only [encQ]
    simp -dsimp -implicitDefEqProofs only [push_cast, ↓trAdd_f, ↓stOf_f, seval]
  · simp only [encQ]
    simp -dsimp -implicitDefEqProofs only [push_cast, ↓trAdd_f, ↓stOf_f, seval]
  refine awp_ret ?_
  simp only [encQ]
  simp -dsimp -implicitDefEqProofs only [push_cast, List.mem_append, List.mem_cons, List.mem_singleton, forall_eq_or_imp, forall_eq, ↓trAdd_f, ↓stOf_f, seval]

theorem sentf1_ok {l : List Stream} {bs : List Int} {until_ : Int} (p : PlayOk l bs until_) (hl : l.length = 1) (lp : Nat) (rec : Loop) (hY : ∀ i : YI, YS Try.prog lp rec (coY i)) (x0 : QS) (hx : PInv l bs until_ fuel0 0 [x0]) :
    FnL Try.prog lp rec 32 [.fn (.yield lp) [] [], .ptr 2 0, .ptr 3 0] [(0, .box (encQ x0)), (1, .row 1 [[.ptr 0 0]]), (2, .box [.own 1 1 0 1]), (3, .box [.int .i64 until_])] (.tup [])
      [(0, .box (encQ ((playN until_ fuel0 0 [x0]).getD 0 zeroQ))), (1, .row 1 [[.ptr 0 0]]), (2, .box [.own 1 1 0 1]), (3, .box [.int .i64 until_])] := by
  refine fnL_walk tabOk Try.func32 rfl (by decide +kernel) Try.ntmps32 Try.results32 (by simp) fun B hRdy hB => ?_
  try refine hK _ ?_
  repeat (first | refine awp_seq ?_ | refine awp_block ?_ | refine awp_skip ?_ | refine awp_scope ?_ | refine awp_label ?_)
  refine awp_region tabOk fun K hK => ?_
  simp -dsimp -implicitDefEqProofs only [push_cast, ↓trAdd_f, ↓stOf_f, seval]
  try refine hK _ ?_
  repeat (first | refine awp_seq ?_ | refine awp_block ?_ | refine awp_skip ?_ | refine awp_scope ?_ | refine awp_label ?_)
  refine awp_for (fun y : Nat × Int × List QS => { sl := [(0, .fn (.yield lp) [] []), (1, .ptr 2 0), (2, .ptr 3 0), (4, .int .i64 y.2.1)], st := [(0, .box (encQ (y.2.2.getD 0 zeroQ))), (1, .row 1 [[.ptr 0 0]]), (2, .box [.own 1 1 0 1]), (3, .box [.int .i64 until_])], nx := 40, n := 35 }) (fun y => PInv l bs until_ y.1 y.2.1 y.2.2) (fun y => y.1) (fuel0, 0, [x0]) hx ?_ fun y hy => ?_
  · refine le_intro hB [] (by simp) (fun b _ => rfl) rfl ?_ ?_ rfl <;> simp -dsimp -implicitDefEqProofs only [encQ, push_cast, ↓trAdd_f, ↓stOf_f, seval]
  obtain ⟨m, now, X⟩ := y
  simp only at hy
  obtain ⟨m, rfl⟩ : ∃ k, m = k + 1 := ⟨m - 1, by have := hy.mu; omega⟩
  have hXl : X.length = 1 := hy.len.trans hl
  obtain ⟨z0, rfl⟩ : ∃ z0, X = [z0] := by
    match X, hXl with
    | [z0], _ => exact ⟨z0, rfl⟩
  have hbig := hy.big
  have hnow0 := hy.now0
  simp only [encQ]
  try refine hK _ ?_
  repeat (first | refine awp_seq ?_ | refine awp_block ?_ | refine awp_skip ?_ | refine awp_scope ?_ | refine awp_label ?_)
  refine awp_region tabOk fun K hK => ?_
  simp -dsimp -implicitDefEqProofs only [push_cast, ↓trAdd_f, ↓stOf_f, seval]
  refine ⟨33, [], [], { args := [.own 1 1 0 1, .int .i64 now, .int .i64 until_], st0 := [(0, .box (encQ z0)), (1, .row 1 [[.ptr 0 0]])], res := .tup [oneP (scan now until_ [z0]).2.1, .int .i64 (scan now until_ [z0]).2.2, .bool (scan now until_ [z0]).1], st1 := [(0, .box (encQ z0)), (1, .row 1 [[.ptr 0 0]])], r := [0, 1] }, rfl, choose1_ok z0 now until_, ?_, ?_⟩
  · have hs := scan_spec now until_ [z0]
    have hj : ∀ j, (scan now until_ [z0]).2.1 = some j → j < 1 := fun j h => (hs.one j h).1
    obtain ⟨w0, hw0⟩ : ∃ w, w = oneP (scan now until_ [z0]).2.1 := ⟨_, rfl⟩
    obtain ⟨z0r, z0o, z0w⟩ := oneP_facts hj hw0 (by decide : 1 ≤ 10)
    simp only [← hw0, encQ]
    simp -dsimp -implicitDefEqProofs only [z0o, push_cast, List.mem_append, List.mem_cons, List.mem_singleton, forall_eq_or_imp, forall_eq, ↓trAdd_f, ↓stOf_f, seval]
    exact rfl
  have hs := scan_spec now until_ [z0]
  have hjump := fun hl hn => pinv_jump hy p hl hn
  have hsend := fun j hj => pinv_send hy p (j := j) hj
  have hpd := fun h => playN_done (n := m) (now := now) (until_ := until_) (X := [z0]) h
  have hsl := fun j h => scan_left (now := now) (until_ := until_) (X := [z0]) (j := j) h
  have hsame := hy.same
  have hj : ∀ j, (scan now until_ [z0]).2.1 = some j → j < 1 := fun j h => (hs.one j h).1
  clear hs
  generalize scan now until_ [z0] = r at *
  obtain ⟨left, one, soon⟩ := r
  try simp only at hpd hjump hsend hsl hj
  cases left with
  | false =>
    have hone : one = none := by
      cases one with
      | none => rfl
      | some j => exact absurd (hsl j rfl) (by simp)
    subst hone
    rw [hpd rfl] at hsame
    simp only [oneP, encQ]
    simp -dsimp -implicitDefEqProofs only [push_cast, ↓trAdd_f, ↓stOf_f, seval]
    try refine hK _ ?_
    repeat (first | refine awp_seq ?_ | refine awp_block ?_ | refine awp_skip ?_ | refine awp_scope ?_ | refine awp_label ?_)
    refine awp_region tabOk fun K hK => ?_
    simp -dsimp -implicitDefEqProofs only [push_cast, ↓trAdd_f, ↓stOf_f, seval]
    try refine hK _ ?_
    repeat (first | refine awp_seq ?_ | refine awp_block ?_ | refine awp_skip ?_ | refine awp_scope ?_ | refine awp_label ?_)
    refine awp_cond (b := true) (by simp -dsimp -implicitDefEqProofs only [push_cast, ↓trAdd_f, ↓stOf_f, seval]) (fun h => ?_) (fun h => ?_)
    · refine awp_ret ?_
      simp only [hx.same, ← hsame, encQ]
      simp -dsimp -implicitDefEqProofs only [push_cast, List.mem_append, List.mem_cons, List.mem_singleton, forall_eq_or_imp, forall_eq, ↓trAdd_f, ↓stOf_f, seval]
    · simp at h
  | true =>
    cases one with
    | none =>
      obtain ⟨hP, hn1, hgt⟩ := hjump rfl rfl
      simp only [oneP, encQ]
      simp -dsimp -implicitDefEqProofs only [push_cast, ↓trAdd_f, ↓stOf_f, seval]
      try refine hK _ ?_
      repeat (first | refine awp_seq ?_ | refine awp_block ?_ | refine awp_skip ?_ | refine awp_scope ?_ | refine awp_label ?_)
      refine awp_region tabOk fun K hK => ?_
      simp -dsimp -implicitDefEqProofs only [push_cast, ↓trAdd_f, ↓stOf_f, seval]
      try refine hK _ ?_
      repeat (first | refine awp_seq ?_ | refine awp_block ?_ | refine awp_skip ?_ | refine awp_scope ?_ | refine awp_label ?_)
      refine awp_cond (b := false) (by simp -dsimp -implicitDefEqProofs only [push_cast, ↓trAdd_f, ↓stOf_f, seval]) (fun h => ?_) (fun h => ?_)
      · simp at h
      clear h
      refine awp_skip ?_
      try refine hK _ ?_
      repeat (first | refine awp_seq ?_ | refine awp_block ?_ | refine awp_skip ?_ | refine awp_scope ?_ | refine awp_label ?_)
      refine awp_region tabOk fun K hK => ?_
      simp -dsimp -implicitDefEqProofs only [push_cast, ↓trAdd_f, ↓stOf_f, seval]
      try refine hK _ ?_
      repeat (first | refine awp_seq ?_ | refine awp_block ?_ | refine awp_skip ?_ | refine awp_scope ?_ | refine awp_label ?_)
      refine awp_cond (b := true) (by simp -dsimp -implicitDefEqProofs only [push_cast, ↓trAdd_f, ↓stOf_f, seval]) (fun h => ?_) (fun h => ?_)
      · try refine hK _ ?_
        repeat (first | refine awp_seq ?_ | refine awp_block ?_ | refine awp_skip ?_ | refine awp_scope ?_ | refine awp_label ?_)
        refine awp_region tabOk fun K hK => ?_
        simp -dsimp -implicitDefEqProofs only [push_cast, ↓trAdd_f, ↓stOf_f, seval]
        refine hK _ (awp_exit rfl ?_)
        refine ⟨(m, soon, [z0]), hP, by show m < m + 1; omega, ?_⟩
        refine le_intro hB [] (by simp) (fun b _ => rfl) rfl ?_ ?_ rfl <;> simp -dsimp -implicitDefEqProofs only [encQ, push_cast, ↓trAdd_f, ↓stOf_f, seval]
      · simp at h
    | some j =>
      obtain ⟨hP, hn1, hjX⟩ := hsend j rfl
      have hjn := hj j rfl
      have : j = 0 := by omega
      rcases this with rfl
      · have hP : PInv l bs until_ m (now + z0.s.bits) [z0.sent (now + z0.s.bits)] := hP
        have hok := hy.okq p (show z0 ∈ [z0] by simp)
        have hla := hy.late z0 (by simp)
        have hb1 := hok.s.1
        have hb2 := hok.s.2.1
        have hdd := hok.due
        have hw1 : IntKind.i64.wrap (now + z0.s.bits) = now + z0.s.bits := wrap_i64 (by omega) (by omega)
        have hys := hY ⟨(z0, now + z0.s.bits), hok, by show 0 ≤ now + z0.s.bits; omega, by show now + z0.s.bits ≤ 50000000000; omega⟩
        have hnx := nextL_ok z0 (now + z0.s.bits) hok (by omega) (by omega)
        simp only [oneP, encQ]
        simp -dsimp -implicitDefEqProofs only [push_cast, ↓trAdd_f, ↓stOf_f, seval]
        try refine hK _ ?_
        repeat (first | refine awp_seq ?_ | refine awp_block ?_ | refine awp_skip ?_ | refine awp_scope ?_ | refine awp_label ?_)
        refine awp_region tabOk fun K hK => ?_
        simp -dsimp -implicitDefEqProofs only [push_cast, ↓trAdd_f, ↓stOf_f, seval]
        try refine hK _ ?_
        repeat (first | refine awp_seq ?_ | refine awp_block ?_ | refine awp_skip ?_ | refine awp_scope ?_ | refine awp_label ?_)
        refine awp_cond (b := false) (by simp -dsimp -implicitDefEqProofs only [push_cast, ↓trAdd_f, ↓stOf_f, seval]) (fun h => ?_) (fun h => ?_)
        · simp at h
        clear h
        refine awp_skip ?_
        try refine hK _ ?_
        repeat (first | refine awp_seq ?_ | refine awp_block ?_ | refine awp_skip ?_ | refine awp_scope ?_ | refine awp_label ?_)
        refine awp_region tabOk fun K hK => ?_
        simp -dsimp -implicitDefEqProofs only [push_cast, ↓trAdd_f, ↓stOf_f, seval]
        try refine hK _ ?_
        repeat (first | refine awp_seq ?_ | refine awp_block ?_ | refine awp_skip ?_ | refine awp_scope ?_ | refine awp_label ?_)
        refine awp_cond (b := false) (by simp -dsimp -implicitDefEqProofs only [push_cast, ↓trAdd_f, ↓stOf_f, seval]) (fun h => ?_) (fun h => ?_)
        · simp at h
        clear h
        refine awp_skip ?_
        try refine hK _ ?_
        repeat (first | refine awp_seq ?_ | refine awp_block ?_ | refine awp_skip ?_ | refine awp_scope ?_ | refine awp_label ?_)
        refine awp_region tabOk fun K hK => ?_
        simp -dsimp -implicitDefEqProofs only [hw1, push_cast, ↓trAdd_f, ↓stOf_f, seval]
        refine hK _ (awp_seq (awp_seq ?_))
        refine awp_region_y (l1 := [_, _, _]) tabOk hRdy fun K hK => ?_
        simp -dsimp -implicitDefEqProofs only [push_cast, ↓trAdd_f, ↓stOf_f, seval]
        refine ⟨by show (31 : Nat) < 35; decide, rfl, { args := [.ptr 0 0, .int .i64 (now + z0.s.bits)], st0 := [(0, .box (encQ z0))], res := .bool true, st1 := [(0, .box (encQL z0 (now + z0.s.bits)))], r := [0] }, hys, ?_, ?_⟩
        · simp only [encQ, encQL]
          simp -dsimp -implicitDefEqProofs only [push_cast, List.mem_append, List.mem_cons, List.mem_singleton, forall_eq_or_imp, forall_eq, ↓trAdd_f, ↓stOf_f, seval]
          all_goals exact rfl
        simp only [encQ, encQL]
        simp -dsimp -implicitDefEqProofs only [push_cast, ↓trAdd_f, ↓stOf_f, seval]
        try refine hK _ ?_
        repeat (first | refine awp_seq ?_ | refine awp_block ?_ | refine awp_skip ?_ | refine awp_scope ?_ | refine awp_label ?_)
        refine awp_cond (b := false) (by simp -dsimp -implicitDefEqProofs only [push_cast, ↓trAdd_f, ↓stOf_f, seval]) (fun h => ?_) (fun h => ?_)
        · simp at h
        clear h
        refine awp_skip ?_
        try refine hK _ ?_
        repeat (first | refine awp_seq ?_ | refine awp_block ?_ | refine awp_skip ?_ | refine awp_scope ?_ | refine awp_label ?_)
        refine awp_region tabOk fun K hK => ?_
        simp -dsimp -implicitDefEqProofs only [push_cast, ↓trAdd_f, ↓stOf_f, seval]
        refine ⟨34, [], [], { args := [.ptr 0 0], st0 := [(0, .box (encQL z0 (now + z0.s.bits)))], res := .tup [], st1 := [(0, .box (encQ (z0.sent (now + z0.s.bits))))], r := [0] }, rfl, hnx, ?_, ?_⟩
        · simp only [encQ, encQL]
          simp -dsimp -implicitDefEqProofs only [push_cast, List.mem_append, List.mem_cons, List.mem_singleton, forall_eq_or_imp, forall_eq, ↓trAdd_f, ↓stOf_f, seval]
          all_goals exact rfl
        simp only [encQ, encQL]
        simp -dsimp -implicitDefEqProofs only [push_cast, ↓trAdd_f, ↓stOf_f, seval]
        refine hK _ ⟨(m, now + z0.s.bits, [z0.sent (now + z0.s.bits)]), hP, by show m < m + 1; omega, ?_⟩
        refine le_intro hB [] (by simp) (fun b _ => rfl) rfl ?_ ?_ rfl <;> simp -dsimp -implicitDefEqProofs only [encQ, push_cast, ↓trAdd_f, ↓stOf_f, seval]


theorem sent3_ok (x0 x1 x2 : QS) (until_ : Int) : FnS Try.prog 29 [.own 3 1 0 3, .int .i64 until_] [(0, .box (encQ x0)), (1, .box (encQ x1)), (2, .box (encQ x2)), (3, .row 1 [[.ptr 0 0], [.ptr 1 0], [.ptr 2 0]])] (.fn (.func 32) [] [.ptr 4 0, .ptr 5 0]) [(0, .box (encQ x0)), (1, .box (encQ x1)), (2, .box (encQ x2)), (3, .row 1 [[.ptr 0 0], [.ptr 1 0], [.ptr 2 0]]), (4, .box [.own 3 1 0 3]), (5, .box [.int .i64 until_])] := by
  refine fn_walkN tabOk Try.func29 rfl (by decide +kernel) Try.ntmps29 Try.results29 (by simp) fun B hB => ?_
  simp only [encQ]
  try refine hK _ ?_
  repeat (first | refine awp_seq ?_ | refine awp_block ?_ | refine awp_skip ?_ | refine awp_scope ?_ | refine awp_label ?_)
  refine awp_region tabOk fun K hK => ?_
  simp -dsimp -implicitDefEqProofs only [push_cast, ↓trAdd_f, ↓stOf_f, seval]
  try refine hK _ ?_
  repeat (first | refine awp_seq ?_ | refine awp_block ?_ | refine awp_skip ?_ | refine awp_scope ?_ | refine awp_label ?_)
  refine awp_region tabOk fun K hK => ?_
  simp -dsimp -implicitDefEqProofs only [push_cast, ↓trAdd_f, ↓stOf_f, seval]
  refine hK _ ?_
  refine awp_le (s' := { sl := [(4, .fn (.func 32) [] [.ptr 4 0, .ptr 5 0])], st := [(0, .box (encQ x0)), (1, .box (encQ x1)), (2, .box (encQ x2)), (3, .row 1 [[.ptr 0 0], [.ptr 1 0], [.ptr 2 0]]), (4, .box [.own 3 1 0 3]), (5, .box [.int .i64 until_])], nx := 12, n := 6 }) (le_intro hB [(5, 12)] (by simp) (fun b hb => by have hb' : b < 4 := hb; have : ¬ 5 = b := (by omega); simp [renG, lk, this]) rfl ?_ ?_ rfl) ?_
  · simp only [encQ]
    simp -dsimp -implicitDefEqProofs only [push_cast, ↓trAdd_f, ↓stOf_f, seval]
  · simp only [encQ]
    simp -dsimp -implicitDefEqProofs only [push_cast, ↓trAdd_f, ↓stOf_f, seval]
  refine awp_ret ?_
  simp only [encQ]
  simp -dsimp -implicitDefEqProofs only [push_cast, List.mem_append, List.mem_cons, List.mem_singleton, forall_eq_or_imp, forall_eq, ↓trAdd_f, ↓stOf_f, seval]

theorem sentf3_ok {l : List Stream} {bs : List Int} {until_ : Int} (p : PlayOk l bs until_) (hl : l.length = 3) (lp : Nat) (rec : Loop) (hY : ∀ i : YI, YS Try.prog lp rec (coY i)) (x0 x1 x2 : QS) (hx : PInv l bs until_ fuel0 0 [x0, x1, x2]) :
    FnL Try.prog lp rec 32 [.fn (.yield lp) [] [], .ptr 4 0, .ptr 5 0] [(0, .box (encQ x0)), (1, .box (encQ x1)), (2, .box (encQ x2)), (3, .row 1 [[.ptr 0 0], [.ptr 1 0], [.ptr 2 0]]), (4, .box [.own 3 1 0 3]), (5, .box [.int .i64 until_])] (.tup [])
      [(0, .box (encQ ((playN until_ fuel0 0 [x0, x1, x2]).getD 0 zeroQ))), (1, .box (encQ ((playN until_ fuel0 0 [x0, x1, x2]).getD 1 zeroQ))), (2, .box (encQ ((playN until_ fuel0 0 [x0, x1, x2]).getD 2 zeroQ))), (3, .row 1 [[.ptr 0 0], [.ptr 1 0], [.ptr 2 0]]), (4, .box [.own 3 1 0 3]), (5, .box [.int .i64 until_])] := by
  refine fnL_walk tabOk Try.func32 rfl (by decide +kernel) Try.ntmps32 Try.results32 (by simp) fun B hRdy hB => ?_
  try refine hK _ ?_
  repeat (first | refine awp_seq ?_ | refine awp_block ?_ | refine awp_skip ?_ | refine awp_scope ?_ | refine awp_label ?_)
  refine awp_region tabOk fun K hK => ?_
  simp -dsimp -implicitDefEqProofs only [push_cast, ↓trAdd_f, ↓stOf_f, seval]
  try refine hK _ ?_
  repeat (first | refine awp_seq ?_ | refine awp_block ?_ | refine awp_skip ?_ | refine awp_scope ?_ | refine awp_label ?_)
  refine awp_for (fun y : Nat × Int × List QS => { sl := [(0, .fn (.yield lp) [] []), (1, .ptr 4 0), (2, .ptr 5 0), (4, .int .i64 y.2.1)], st := [(0, .box (encQ (y.2.2.getD 0 zeroQ))), (1, .box (encQ (y.2.2.getD 1 zeroQ))), (2, .box (encQ (y.2.2.getD 2 zeroQ))), (3, .row 1 [[.ptr 0 0], [.ptr 1 0], [.ptr 2 0]]), (4, .box [.own 3 1 0 3]), (5, .box [.int .i64 until_])], nx := 40, n := 35 }) (fun y => PInv l bs until_ y.1 y.2.1 y.2.2) (fun y => y.1) (fuel0, 0, [x0, x1, x2]) hx ?_ fun y hy => ?_
  · refine le_intro hB [] (by simp) (fun b _ => rfl) rfl ?_ ?_ rfl <;> simp -dsimp -implicitDefEqProofs only [encQ, push_cast, ↓trAdd_f, ↓stOf_f, seval]
  obtain ⟨m, now, X⟩ := y
  simp only at hy
  obtain ⟨m, rfl⟩ : ∃ k, m = k + 1 := ⟨m - 1, by have := hy.mu; omega⟩
  have hXl : X.length = 3 := hy.len.trans hl
  obtain ⟨z0, z1, z2, rfl⟩ : ∃ z0 z1 z2, X = [z0, z1, z2] := by
    match X, hXl with
    | [z0, z1, z2], _ => exact ⟨z0, z1, z2, rfl⟩
  have hbig := hy.big
  have hnow0 := hy.now0
  simp only [encQ]
  try refine hK _ ?_
  repeat (first | refine awp_seq ?_ | refine awp_block ?_ | refine awp_skip ?_ | refine awp_scope ?_ | refine awp_label ?_)
  refine awp_region tabOk fun K hK => ?_
  simp -dsimp -implicitDefEqProofs only [push_cast, ↓trAdd_f, ↓stOf_f, seval]
  refine ⟨33, [], [], { args := [.own 3 1 0 3, .int .i64 now, .int .i64 until_], st0 := [(0, .box (encQ z0)), (1, .box (encQ z1)), (2, .box (encQ z2)), (3, .row 1 [[.ptr 0 0], [.ptr 1 0], [.ptr 2 0]])], res := .tup [oneP (scan now until_ [z0, z1, z2]).2.1, .int .i64 (scan now until_ [z0, z1, z2]).2.2, .bool (scan now until_ [z0, z1, z2]).1], st1 := [(0, .box (encQ z0)), (1, .box (encQ z1)), (2, .box (encQ z2)), (3, .row 1 [[.ptr 0 0], [.ptr 1 0], [.ptr 2 0]])], r := [0, 1, 2, 3] }, rfl, choose3_ok z0 z1 z2 now until_, ?_, ?_⟩
  · have hs := scan_spec now until_ [z0, z1, z2]
    have hj : ∀ j, (scan now until_ [z0, z1, z2]).2.1 = some j → j < 3 := fun j h => (hs.one j h).1
    obtain ⟨w0, hw0⟩ : ∃ w, w = oneP (scan now until_ [z0, z1, z2]).2.1 := ⟨_, rfl⟩
    obtain ⟨z0r, z0o, z0w⟩ := oneP_facts hj hw0 (by decide : 3 ≤ 12)
    simp only [← hw0, encQ]
    simp -dsimp -implicitDefEqProofs only [z0o, push_cast, List.mem_append, List.mem_cons, List.mem_singleton, forall_eq_or_imp, forall_eq, ↓trAdd_f, ↓stOf_f, seval]
    exact rfl
  have hs := scan_spec now until_ [z0, z1, z2]
  have hjump := fun hl hn => pinv_jump hy p hl hn
  have hsend := fun j hj => pinv_send hy p (j := j) hj
  have hpd := fun h => playN_done (n := m) (now := now) (until_ := until_) (X := [z0, z1, z2]) h
  have hsl := fun j h => scan_left (now := now) (until_ := until_) (X := [z0, z1, z2]) (j := j) h
  have hsame := hy.same
  have hj : ∀ j, (scan now until_ [z0, z1, z2]).2.1 = some j → j < 3 := fun j h => (hs.one j h).1
  clear hs
  generalize scan now until_ [z0, z1, z2] = r at *
  obtain ⟨left, one, soon⟩ := r
  try simp only at hpd hjump hsend hsl hj
  cases left with
  | false =>
    have hone : one = none := by
      cases one with
      | none => rfl
      | some j => exact absurd (hsl j rfl) (by simp)
    subst hone
    rw [hpd rfl] at hsame
    simp only [oneP, encQ]
    simp -dsimp -implicitDefEqProofs only [push_cast, ↓trAdd_f, ↓stOf_f, seval]
    try refine hK _ ?_
    repeat (first | refine awp_seq ?_ | refine awp_block ?_ | refine awp_skip ?_ | refine awp_scope ?_ | refine awp_label ?_)
    refine awp_region tabOk fun K hK => ?_
    simp -dsimp -implicitDefEqProofs only [push_cast, ↓trAdd_f, ↓stOf_f, seval]
    try refine hK _ ?_
    repeat (first | refine awp_seq ?_ | refine awp_block ?_ | refine awp_skip ?_ | refine awp_scope ?_ | refine awp_label ?_)
    refine awp_cond (b := true) (by simp -dsimp -implicitDefEqProofs only [push_cast, ↓trAdd_f, ↓stOf_f, seval]) (fun h => ?_) (fun h => ?_)
    · refine awp_ret ?_
      simp only [hx.same, ← hsame, encQ]
      simp -dsimp -implicitDefEqProofs only [push_cast, List.mem_append, List.mem_cons, List.mem_singleton, forall_eq_or_imp, forall_eq, ↓trAdd_f, ↓stOf_f, seval]
    · simp at h
  | true =>
    cases one with
    | none =>
      obtain ⟨hP, hn1, hgt⟩ := hjump rfl rfl
      simp only [oneP, encQ]
      simp -dsimp -implicitDefEqProofs only [push_cast, ↓trAdd_f, ↓stOf_f, seval]
      try refine hK _ ?_
      repeat (first | refine awp_seq ?_ | refine awp_block ?_ | refine awp_skip ?_ | refine awp_scope ?_ | refine awp_label ?_)
      refine awp_region tabOk fun K hK => ?_
      simp -dsimp -implicitDefEqProofs only [push_cast, ↓trAdd_f, ↓stOf_f, seval]
      try refine hK _ ?_
      repeat (first | refine awp_seq ?_ | refine awp_block ?_ | refine awp_skip ?_ | refine awp_scope ?_ | refine awp_label ?_)
      refine awp_cond (b := false) (by simp -dsimp -implicitDefEqProofs only [push_cast, ↓trAdd_f, ↓stOf_f, seval]) (fun h => ?_) (fun h => ?_)
      · simp at h
      clear h
      refine awp_skip ?_
      try refine hK _ ?_
      repeat (first | refine awp_seq ?_ | refine awp_block ?_ | refine awp_skip ?_ | refine awp_scope ?_ | refine awp_label ?_)
      refine awp_region tabOk fun K hK => ?_
      simp -dsimp -implicitDefEqProofs only [push_cast, ↓trAdd_f, ↓stOf_f, seval]
      try refine hK _ ?_
      repeat (first | refine awp_seq ?_ | refine awp_block ?_ | refine awp_skip ?_ | refine awp_scope ?_ | refine awp_label ?_)
      refine awp_cond (b := true) (by simp -dsimp -implicitDefEqProofs only [push_cast, ↓trAdd_f, ↓stOf_f, seval]) (fun h => ?_) (fun h => ?_)
      · try refine hK _ ?_
        repeat (first | refine awp_seq ?_ | refine awp_block ?_ | refine awp_skip ?_ | refine awp_scope ?_ | refine awp_label ?_)
        refine awp_region tabOk fun K hK => ?_
        simp -dsimp -implicitDefEqProofs only [push_cast, ↓trAdd_f, ↓stOf_f, seval]
        refine hK _ (awp_exit rfl ?_)
        refine ⟨(m, soon, [z0, z1, z2]), hP, by show m < m + 1; omega, ?_⟩
        refine le_intro hB [] (by simp) (fun b _ => rfl) rfl ?_ ?_ rfl <;> simp -dsimp -implicitDefEqProofs only [encQ, push_cast, ↓trAdd_f, ↓stOf_f, seval]
      · simp at h
    | some j =>
      obtain ⟨hP, hn1, hjX⟩ := hsend j rfl
      have hjn := hj j rfl
      have : j = 0 ∨ j = 1 ∨ j = 2 := by omega
      rcases this with rfl | rfl | rfl
      · have hP : PInv l bs until_ m (now + z0.s.bits) [z0.sent (now + z0.s.bits), z1, z2] := hP
        have hok := hy.okq p (show z0 ∈ [z0, z1, z2] by simp)
        have hla := hy.late z0 (by simp)
        have hb1 := hok.s.1
        have hb2 := hok.s.2.1
        have hdd := hok.due
        have hw1 : IntKind.i64.wrap (now + z0.s.bits) = now + z0.s.bits := wrap_i64 (by omega) (by omega)
        have hys := hY ⟨(z0, now + z0.s.bits), hok, by show 0 ≤ now + z0.s.bits; omega, by show now + z0.s.bits ≤ 50000000000; omega⟩
        have hnx := nextL_ok z0 (now + z0.s.bits) hok (by omega) (by omega)
        simp only [oneP, encQ]
        simp -dsimp -implicitDefEqProofs only [push_cast, ↓trAdd_f, ↓stOf_f, seval]
        try refine hK _ ?_
        repeat (first | refine awp_seq ?_ | refine awp_block ?_ | refine awp_skip ?_ | refine awp_scope ?_ | refine awp_label ?_)
        refine awp_region tabOk fun K hK => ?_
        simp -dsimp -implicitDefEqProofs only [push_cast, ↓trAdd_f, ↓stOf_f, seval]
        try refine hK _ ?_
        repeat (first | refine awp_seq ?_ | refine awp_block ?_ | refine awp_skip ?_ | refine awp_scope ?_ | refine awp_label ?_)
        refine awp_cond (b := false) (by simp -dsimp -implicitDefEqProofs only [push_cast, ↓trAdd_f, ↓stOf_f, seval]) (fun h => ?_) (fun h => ?_)
        · simp at h
        clear h
        refine awp_skip ?_
        try refine hK _ ?_
        repeat (first | refine awp_seq ?_ | refine awp_block ?_ | refine awp_skip ?_ | refine awp_scope ?_ | refine awp_label ?_)
        refine awp_region tabOk fun K hK => ?_
        simp -dsimp -implicitDefEqProofs only [push_cast, ↓trAdd_f, ↓stOf_f, seval]
        try refine hK _ ?_
        repeat (first | refine awp_seq ?_ | refine awp_block ?_ | refine awp_skip ?_ | refine awp_scope ?_ | refine awp_label ?_)
        refine awp_cond (b := false) (by simp -dsimp -implicitDefEqProofs only [push_cast, ↓trAdd_f, ↓stOf_f, seval]) (fun h => ?_) (fun h => ?_)
        · simp at h
        clear h
        refine awp_skip ?_
        try refine hK _ ?_
        repeat (first | refine awp_seq ?_ | refine awp_block ?_ | refine awp_skip ?_ | refine awp_scope ?_ | refine awp_label ?_)
        refine awp_region tabOk fun K hK => ?_
        simp -dsimp -implicitDefEqProofs only [hw1, push_cast, ↓trAdd_f, ↓stOf_f, seval]
        refine hK _ (awp_seq (awp_seq ?_))
        refine awp_region_y (l1 := [_, _, _]) tabOk hRdy fun K hK => ?_
        simp -dsimp -implicitDefEqProofs only [push_cast, ↓trAdd_f, ↓stOf_f, seval]
        refine ⟨by show (31 : Nat) < 35; decide, rfl, { args := [.ptr 0 0, .int .i64 (now + z0.s.bits)], st0 := [(0, .box (encQ z0))], res := .bool true, st1 := [(0, .box (encQL z0 (now + z0.s.bits)))], r := [0] }, hys, ?_, ?_⟩
        · simp only [encQ, encQL]
          simp -dsimp -implicitDefEqProofs only [push_cast, List.mem_append, List.mem_cons, List.mem_singleton, forall_eq_or_imp, forall_eq, ↓trAdd_f, ↓stOf_f, seval]
          all_goals exact rfl
        simp only [encQ, encQL]
        simp -dsimp -implicitDefEqProofs only [push_cast, ↓trAdd_f, ↓stOf_f, seval]
        try refine hK _ ?_
        repeat (first | refine awp_seq ?_ | refine awp_block ?_ | refine awp_skip ?_ | refine awp_scope ?_ | refine awp_label ?_)
        refine awp_cond (b := false) (by simp -dsimp -implicitDefEqProofs only [push_cast, ↓trAdd_f, ↓stOf_f, seval]) (fun h => ?_) (fun h => ?_)
        · simp at h
        clear h
        refine awp_skip ?_
        try refine hK _ ?_
        repeat (first | refine awp_seq ?_ | refine awp_block ?_ | refine awp_skip ?_ | refine awp_scope ?_ | refine awp_label ?_)
        refine awp_region tabOk fun K hK => ?_
        simp -dsimp -implicitDefEqProofs only [push_cast, ↓trAdd_f, ↓stOf_f, seval]
        refine ⟨34, [], [], { args := [.ptr 0 0], st0 := [(0, .box (encQL z0 (now + z0.s.bits)))], res := .tup [], st1 := [(0, .box (encQ (z0.sent (now + z0.s.bits))))], r := [0] }, rfl, hnx, ?_, ?_⟩
        · simp only [encQ, encQL]
          simp -dsimp -implicitDefEqProofs only [push_cast, List.mem_append, List.mem_cons, List.mem_singleton, forall_eq_or_imp, forall_eq, ↓trAdd_f, ↓stOf_f, seval]
          all_goals exact rfl
        simp only [encQ, encQL]
        simp -dsimp -implicitDefEqProofs only [push_cast, ↓trAdd_f, ↓stOf_f, seval]
        refine hK _ ⟨(m, now + z0.s.bits, [z0.sent (now + z0.s.bits), z1, z2]), hP, by show m < m + 1; omega, ?_⟩
        refine le_intro hB [] (by simp) (fun b _ => rfl) rfl ?_ ?_ rfl <;> simp -dsimp -implicitDefEqProofs only [encQ, push_cast, ↓trAdd_f, ↓stOf_f, seval]
      · have hP : PInv l bs until_ m (now + z1.s.bits) [z0, z1.sent (now + z1.s.bits), z2] := hP
        have hok := hy.okq p (show z1 ∈ [z0, z1, z2] by simp)
        have hla := hy.late z1 (by simp)
        have hb1 := hok.s.1
        have hb2 := hok.s.2.1
        have hdd := hok.due
        have hw1 : IntKind.i64.wrap (now + z1.s.bits) = now + z1.s.bits := wrap_i64 (by omega) (by omega)
        have hys := hY ⟨(z1, now + z1.s.bits), hok, by show 0 ≤ now + z1.s.bits; omega, by show now + z1.s.bits ≤ 50000000000; omega⟩
        have hnx := nextL_ok z1 (now + z1.s.bits) hok (by omega) (by omega)
        simp only [oneP, encQ]
        simp -dsimp -implicitDefEqProofs only [push_cast, ↓trAdd_f, ↓stOf_f, seval]
        try refine hK _ ?_
        repeat (first | refine awp_seq ?_ | refine awp_block ?_ | refine awp_skip ?_ | refine awp_scope ?_ | refine awp_label ?_)
        refine awp_region tabOk fun K hK => ?_
        simp -dsimp -implicitDefEqProofs only [push_cast, ↓trAdd_f, ↓stOf_f, seval]
        try refine hK _ ?_
        repeat (first | refine awp_seq ?_ | refine awp_block ?_ | refine awp_skip ?_ | refine awp_scope ?_ | refine awp_label ?_)
        refine awp_cond (b := false) (by simp -dsimp -implicitDefEqProofs only [push_cast, ↓trAdd_f, ↓stOf_f, seval]) (fun h => ?_) (fun h => ?_)
        · simp at h
        clear h
        refine awp_skip ?_
        try refine hK _ ?_
        repeat (first | refine awp_seq ?_ | refine awp_block ?_ | refine awp_skip ?_ | refine awp_scope ?_ | refine awp_label ?_)
        refine awp_region tabOk fun K hK => ?_
        simp -dsimp -implicitDefEqProofs only [push_cast, ↓trAdd_f, ↓stOf_f, seval]
        try refine hK _ ?_
        repeat (first | refine awp_seq ?_ | refine awp_block ?_ | refine awp_skip ?_ | refine awp_scope ?_ | refine awp_label ?_)
        refine awp_cond (b := false) (by simp -dsimp -implicitDefEqProofs only [push_cast, ↓trAdd_f, ↓stOf_f, seval]) (fun h => ?_) (fun h => ?_)
        · simp at h
        clear h
        refine awp_skip ?_
        try refine hK _ ?_
        repeat (first | refine awp_seq ?_ | refine awp_block ?_ | refine awp_skip ?_ | refine awp_scope ?_ | refine awp_label ?_)
        refine awp_region tabOk fun K hK => ?_
        simp -dsimp -implicitDefEqProofs only [hw1, push_cast, ↓trAdd_f, ↓stOf_f, seval]
        refine hK _ (awp_seq (awp_seq ?_))
        refine awp_region_y (l1 := [_, _, _]) tabOk hRdy fun K hK => ?_
        simp -dsimp -implicitDefEqProofs only [push_cast, ↓trAdd_f, ↓stOf_f, seval]
        refine ⟨by show (31 : Nat) < 35; decide, rfl, { args := [.ptr 0 0, .int .i64 (now + z1.s.bits)], st0 := [(0, .box (encQ z1))], res := .bool true, st1 := [(0, .box (encQL z1 (now + z1.s.bits)))], r := [1] }, hys, ?_, ?_⟩
        · simp only [encQ, encQL]
          simp -dsimp -implicitDefEqProofs only [push_cast, List.mem_append, List.mem_cons, List.mem_singleton, forall_eq_or_imp, forall_eq, ↓trAdd_f, ↓stOf_f, seval]
          all_goals exact rfl
        simp only [encQ, encQL]
        simp -dsimp -implicitDefEqProofs only [push_cast, ↓trAdd_f, ↓stOf_f, seval]
        try refine hK _ ?_
        repeat (first | refine awp_seq ?_ | refine awp_block ?_ | refine awp_skip ?_ | refine awp_scope ?_ | refine awp_label ?_)
        refine awp_cond (b := false) (by simp -dsimp -implicitDefEqProofs only [push_cast, ↓trAdd_f, ↓stOf_f, seval]) (fun h => ?_) (fun h => ?_)
        · simp at h
        clear h
        refine awp_skip ?_
        try refine hK _ ?_
        repeat (first | refine awp_seq ?_ | refine awp_block ?_ | refine awp_skip ?_ | refine awp_scope ?_ | refine awp_label ?_)
        refine awp_region tabOk fun K hK => ?_
        simp -dsimp -implicitDefEqProofs only [push_cast, ↓trAdd_f, ↓stOf_f, seval]
        refine ⟨34, [], [], { args := [.ptr 0 0], st0 := [(0, .box (encQL z1 (now + z1.s.bits)))], res := .tup [], st1 := [(0, .box (encQ (z1.sent (now + z1.s.bits))))], r := [1] }, rfl, hnx, ?_, ?_⟩
        · simp only [encQ, encQL]
          simp -dsimp -implicitDefEqProofs only [push_cast, List.mem_append, List.mem_cons, List.mem_singleton, forall_eq_or_imp, forall_eq, ↓trAdd_f, ↓stOf_f, seval]
          all_goals exact rfl
        simp only [encQ, encQL]
        simp -dsimp -implicitDefEqProofs only [push_cast, ↓trAdd_f, ↓stOf_f, seval]
        refine hK _ ⟨(m, now + z1.s.bits, [z0, z1.sent (now + z1.s.bits), z2]), hP, by show m < m + 1; omega, ?_⟩
        refine le_intro hB [] (by simp) (fun b _ => rfl) rfl ?_ ?_ rfl <;> simp -dsimp -implicitDefEqProofs only [encQ, push_cast, ↓trAdd_f, ↓stOf_f, seval]
      · have hP : PInv l bs until_ m (now + z2.s.bits) [z0, z1, z2.sent (now + z2.s.bits)] := hP
        have hok := hy.okq p (show z2 ∈ [z0, z1, z2] by simp)
        have hla := hy.late z2 (by simp)
        have hb1 := hok.s.1
        have hb2 := hok.s.2.1
        have hdd := hok.due
        have hw1 : IntKind.i64.wrap (now + z2.s.bits) = now + z2.s.bits := wrap_i64 (by omega) (by omega)
        have hys := hY ⟨(z2, now + z2.s.bits), hok, by show 0 ≤ now + z2.s.bits; omega, by show now + z2.s.bits ≤ 50000000000; omega⟩
        have hnx := nextL_ok z2 (now + z2.s.bits) hok (by omega) (by omega)
        simp only [oneP, encQ]
        simp -dsimp -implicitDefEqProofs only [push_cast, ↓trAdd_f, ↓stOf_f, seval]
        try refine hK _ ?_
        repeat (first | refine awp_seq ?_ | refine awp_block ?_ | refine awp_skip ?_ | refine awp_scope ?_ | refine awp_label ?_)
        refine awp_region tabOk fun K hK => ?_
        simp -dsimp -implicitDefEqProofs only [push_cast, ↓trAdd_f, ↓stOf_f, seval]
        try refine hK _ ?_
        repeat (first | refine awp_seq ?_ | refine awp_block ?_ | refine awp_skip ?_ | refine awp_scope ?_ | refine awp_label ?_)
        refine awp_cond (b := false) (by simp -dsimp -implicitDefEqProofs only [push_cast, ↓trAdd_f, ↓stOf_f, seval]) (fun h => ?_) (fun h => ?_)
        · simp at h
        clear h
        refine awp_skip ?_
        try refine hK _ ?_
        repeat (first | refine awp_seq ?_ | refine awp_block ?_ | refine awp_skip ?_ | refine awp_scope ?_ | refine awp_label ?_)
        refine awp_region tabOk fun K hK => ?_
        simp -dsimp -implicitDefEqProofs only [push_cast, ↓trAdd_f, ↓stOf_f, seval]
        try refine hK _ ?_
        repeat (first | refine awp_seq ?_ | refine awp_block ?_ | refine awp_skip ?_ | refine awp_scope ?_ | refine awp_label ?_)
        refine awp_cond (b := false) (by simp -dsimp -implicitDefEqProofs only [push_cast, ↓trAdd_f, ↓stOf_f, seval]) (fun h => ?_) (fun h => ?_)
        · simp at h
        clear h
        refine awp_skip ?_
        try refine hK _ ?_
        repeat (first | refine awp_seq ?_ | refine awp_block ?_ | refine awp_skip ?_ | refine awp_scope ?_ | refine awp_label ?_)
        refine awp_region tabOk fun K hK => ?_
        simp -dsimp -implicitDefEqProofs only [hw1, push_cast, ↓trAdd_f, ↓stOf_f, seval]
        refine hK _ (awp_seq (awp_seq ?_))
        refine awp_region_y (l1 := [_, _, _]) tabOk hRdy fun K hK => ?_
        simp -dsimp -implicitDefEqProofs only [push_cast, ↓trAdd_f, ↓stOf_f, seval]
        refine ⟨by show (31 : Nat) < 35; decide, rfl, { args := [.ptr 0 0, .int .i64 (now + z2.s.bits)], st0 := [(0, .box (encQ z2))], res := .bool true, st1 := [(0, .box (encQL z2 (now + z2.s.bits)))], r := [2] }, hys, ?_, ?_⟩
        · simp only [encQ, encQL]
          simp -dsimp -implicitDefEqProofs only [push_cast, List.mem_append, List.mem_cons, List.mem_singleton, forall_eq_or_imp, forall_eq, ↓trAdd_f, ↓stOf_f, seval]
          all_goals exact rfl
        simp only [encQ, encQL]
        simp -dsimp -implicitDefEqProofs only [push_cast, ↓trAdd_f, ↓stOf_f, seval]
        try refine hK _ ?_
        repeat (first | refine awp_seq ?_ | refine awp_block ?_ | refine awp_skip ?_ | refine awp_scope ?_ | refine awp_label ?_)
        refine awp_cond (b := false) (by simp -dsimp -implicitDefEqProofs only [push_cast, ↓trAdd_f, ↓stOf_f, seval]) (fun h => ?_) (fun h => ?_)
        · simp at h
        clear h
        refine awp_skip ?_
        try refine hK _ ?_
        repeat (first | refine awp_seq ?_ | refine awp_block ?_ | refine awp_skip ?_ | refine awp_scope ?_ | refine awp_label ?_)
        refine awp_region tabOk fun K hK => ?_
        simp -dsimp -implicitDefEqProofs only [push_cast, ↓trAdd_f, ↓stOf_f, seval]
        refine ⟨34, [], [], { args := [.ptr 0 0], st0 := [(0, .box (encQL z2 (now + z2.s.bits)))], res := .tup [], st1 := [(0, .box (encQ (z2.sent (now + z2.s.bits))))], r := [2] }, rfl, hnx, ?_, ?_⟩
        · simp only [encQ, encQL]
          simp -dsimp -implicitDefEqProofs only [push_cast, List.mem_append, List.mem_cons, List.mem_singleton, forall_eq_or_imp, forall_eq, ↓trAdd_f, ↓stOf_f, seval]
          all_goals exact rfl
        simp only [encQ, encQL]
        simp -dsimp -implicitDefEqProofs only [push_cast, ↓trAdd_f, ↓stOf_f, seval]
        refine hK _ ⟨(m, now + z2.s.bits, [z0, z1, z2.sent (now + z2.s.bits)]), hP, by show m < m + 1; omega, ?_⟩
        refine le_intro hB [] (by simp) (fun b _ => rfl) rfl ?_ ?_ rfl <;> simp -dsimp -implicitDefEqProofs only [encQ, push_cast, ↓trAdd_f, ↓stOf_f, seval]


theorem sent4_ok (x0 x1 x2 x3 : QS) (until_ : Int) : FnS Try.prog 29 [.own 4 1 0 4, .int .i64 until_] [(0, .box (encQ x0)), (1, .box (encQ x1)), (2, .box (encQ x2)), (3, .box (encQ x3)), (4, .row 1 [[.ptr 0 0], [.ptr 1 0], [.ptr 2 0], [.ptr 3 0]])] (.fn (.func 32) [] [.ptr 5 0, .ptr 6 0]) [(0, .box (encQ x0)), (1, .box (encQ x1)), (2, .box (encQ x2)), (3, .box (encQ x3)), (4, .row 1 [[.ptr 0 0], [.ptr 1 0], [.ptr 2 0], [.ptr 3 0]]), (5, .box [.own 4 1 0 4]), (6, .box [.int .i64 until_])] := by
  refine fn_walkN tabOk Try.func29 rfl (by decide +kernel) Try.ntmps29 Try.results29 (by simp) fun B hB => ?_
  simp only [encQ]
  try refine hK _ ?_
  repeat (first | refine awp_seq ?_ | refine awp_block ?_ | refine awp_skip ?_ | refine awp_scope ?_ | refine awp_label ?_)
  refine awp_region tabOk fun K hK => ?_
  simp -dsimp -implicitDefEqProofs only [push_cast, ↓trAdd_f, ↓stOf_f, seval]
  try refine hK _ ?_
  repeat (first | refine awp_seq ?_ | refine awp_block ?_ | refine awp_skip ?_ | refine awp_scope ?_ | refine awp_label ?_)
  refine awp_region tabOk fun K hK => ?_
  simp -dsimp -implicitDefEqProofs only [push_cast, ↓trAdd_f, ↓stOf_f, seval]
  refine hK _ ?_
  refine awp_le (s' := { sl := [(4, .fn (.func 32) [] [.ptr 5 0, .ptr 6 0])], st := [(0, .box (encQ x0)), (1, .box (encQ x1)), (2, .box (encQ x2)), (3, .box (encQ x3)), (4, .row 1 [[.ptr 0 0], [.ptr 1 0], [.ptr 2 0], [.ptr 3 0]]), (5, .box [.own 4 1 0 4]), (6, .box [.int .i64 until_])], nx := 13, n := 6 }) (le_intro hB [(6, 13)] (by simp) (fun b hb => by have hb' : b < 5 := hb; have : ¬ 6 = b := (by omega); simp [renG, lk, this]) rfl ?_ ?_ rfl) ?_
  · simp only [encQ]
    simp -dsimp -implicitDefEqProofs only [push_cast, ↓trAdd_f, ↓stOf_f, seval]
  · simp only [encQ]
    simp -dsimp -implicitDefEqProofs only [push_cast, ↓trAdd_f, ↓stOf_f, seval]
  refine awp_ret ?_
  simp only [encQ]
  simp -dsimp -implicitDefEqProofs only [push_cast, List.mem_append, List.mem_cons, List.mem_singleton, forall_eq_or_imp, forall_eq, ↓trAdd_f, ↓stOf_f, seval]

theorem sentf4_ok {l : List Stream} {bs : List Int} {until_ : Int} (p : PlayOk l bs until_) (hl : l.length = 4) (lp : Nat) (rec : Loop) (hY : ∀ i : YI, YS Try.prog lp rec (coY i)) (x0 x1 x2 x3 : QS) (hx : PInv l bs until_ fuel0 0 [x0, x1, x2, x3]) :
    FnL Try.prog lp rec 32 [.fn (.yield lp) [] [], .ptr 5 0, .ptr 6 0] [(0, .box (encQ x0)), (1, .box (encQ x1)), (2, .box (encQ x2)), (3, .box (encQ x3)), (4, .row 1 [[.ptr 0 0], [.ptr 1 0], [.ptr 2 0], [.ptr 3 0]]), (5, .box [.own 4 1 0 4]), (6, .box [.int .i64 until_])] (.tup [])
      [(0, .box (encQ ((playN until_ fuel0 0 [x0, x1, x2, x3]).getD 0 zeroQ))), (1, .box (encQ ((playN until_ fuel0 0 [x0, x1, x2, x3]).getD 1 zeroQ))), (2, .box (encQ ((playN until_ fuel0 0 [x0, x1, x2, x3]).getD 2 zeroQ))), (3, .box (encQ ((playN until_ fuel0 0 [x0, x1, x2, x3]).getD 3 zeroQ))), (4, .row 1 [[.ptr 0 0], [.ptr 1 0], [.ptr 2 0], [.ptr 3 0]]), (5, .box [.own 4 1 0 4]), (6, .box [.int .i64 until_])] := by
  refine fnL_walk tabOk Try.func32 rfl (by decide +kernel) Try.ntmps32 Try.results32 (by simp) fun B hRdy hB => ?_
  try refine hK _ ?_
  repeat (first | refine awp_seq ?_ | refine awp_block ?_ | refine awp_skip ?_ | refine awp_scope ?_ | refine awp_label ?_)
  refine awp_region tabOk fun K hK => ?_
  simp -dsimp -implicitDefEqProofs only [push_cast, ↓trAdd_f, ↓stOf_f, seval]
  try refine hK _ ?_
  repeat (first | refine awp_seq ?_ | refine awp_block ?_ | refine awp_skip ?_ | refine awp_scope ?_ | refine awp_label ?_)
  refine awp_for (fun y : Nat × Int × List QS => { sl := [(0, .fn (.yield lp) [] []), (1, .ptr 5 0), (2, .ptr 6 0), (4, .int .i64 y.2.1)], st := [(0, .box (encQ (y.2.2.getD 0 zeroQ))), (1, .box (encQ (y.2.2.getD 1 zeroQ))), (2, .box (encQ (y.2.2.getD 2 zeroQ))), (3, .box (encQ (y.2.2.getD 3 zeroQ))), (4, .row 1 [[.ptr 0 0], [.ptr 1 0], [.ptr 2 0], [.ptr 3 0]]), (5, .box [.own 4 1 0 4]), (6, .box [.int .i64 until_])], nx := 40, n := 35 }) (fun y => PInv l bs until_ y.1 y.2.1 y.2.2) (fun y => y.1) (fuel0, 0, [x0, x1, x2, x3]) hx ?_ fun y hy => ?_
  · refine le_intro hB [] (by simp) (fun b _ => rfl) rfl ?_ ?_ rfl <;> simp -dsimp -implicitDefEqProofs only [encQ, push_cast, ↓trAdd_f, ↓stOf_f, seval]
  obtain ⟨m, now, X⟩ := y
  simp only at hy
  obtain ⟨m, rfl⟩ : ∃ k, m = k + 1 := ⟨m - 1, by have := hy.mu; omega⟩
  have hXl : X.length = 4 := hy.len.trans hl
  obtain ⟨z0, z1, z2, z3, rfl⟩ : ∃ z0 z1 z2 z3, X = [z0, z1, z2, z3] := by
    match X, hXl with
    | [z0, z1, z2, z3], _ => exact ⟨z0, z1, z2, z3, rfl⟩
  have hbig := hy.big
  have hnow0 := hy.now0
  simp only [encQ]
  try refine hK _ ?_
  repeat (first | refine awp_seq ?_ | refine awp_block ?_ | refine awp_skip ?_ | refine awp_scope ?_ | refine awp_label ?_)
  refine awp_region tabOk fun K hK => ?_
  simp -dsimp -implicitDefEqProofs only [push_cast, ↓trAdd_f, ↓stOf_f, seval]
  refine ⟨33, [], [], { args := [.own 4 1 0 4, .int .i64 now, .int .i64 until_], st0 := [(0, .box (encQ z0)), (1, .box (encQ z1)), (2, .box (encQ z2)), (3, .box (encQ z3)), (4, .row 1 [[.ptr 0 0], [.ptr 1 0], [.ptr 2 0], [.ptr 3 0]])], res := .tup [oneP (scan now until_ [z0, z1, z2, z3]).2.1, .int .i64 (scan now until_ [z0, z1, z2, z3]).2.2, .bool (scan now until_ [z0, z1, z2, z3]).1], st1 := [(0, .box (encQ z0)), (1, .box (encQ z1)), (2, .box (encQ z2)), (3, .box (encQ z3)), (4, .row 1 [[.ptr 0 0], [.ptr 1 0], [.ptr 2 0], [.ptr 3 0]])], r := [0, 1, 2, 3, 4] }, rfl, choose4_ok z0 z1 z2 z3 now until_, ?_, ?_⟩
  · have hs := scan_spec now until_ [z0, z1, z2, z3]
    have hj : ∀ j, (scan now until_ [z0, z1, z2, z3]).2.1 = some j → j < 4 := fun j h => (hs.one j h).1
    obtain ⟨w0, hw0⟩ : ∃ w, w = oneP (scan now until_ [z0, z1, z2, z3]).2.1 := ⟨_, rfl⟩
    obtain ⟨z0r, z0o, z0w⟩ := oneP_facts hj hw0 (by decide : 4 ≤ 13)
    simp only [← hw0, encQ]
    simp -dsimp -implicitDefEqProofs only [z0o, push_cast, List.mem_append, List.mem_cons, List.mem_singleton, forall_eq_or_imp, forall_eq, ↓trAdd_f, ↓stOf_f, seval]
    exact rfl
  have hs := scan_spec now until_ [z0, z1, z2, z3]
  have hjump := fun hl hn => pinv_jump hy p hl hn
  have hsend := fun j hj => pinv_send hy p (j := j) hj
  have hpd := fun h => playN_done (n := m) (now := now) (until_ := until_) (X := [z0, z1, z2, z3]) h
  have hsl := fun j h => scan_left (now := now) (until_ := until_) (X := [z0, z1, z2, z3]) (j := j) h
  have hsame := hy.same
  have hj : ∀ j, (scan now until_ [z0, z1, z2, z3]).2.1 = some j → j < 4 := fun j h => (hs.one j h).1
  clear hs
  generalize scan now until_ [z0, z1, z2, z3] = r at *
  obtain ⟨left, one, soon⟩ := r
  try simp only at hpd hjump hsend hsl hj
  cases left with
  | false =>
    have hone : one = none := by
      cases one with
      | none => rfl
      | some j => exact absurd (hsl j rfl) (by simp)
    subst hone
    rw [hpd rfl] at hsame
    simp only [oneP, encQ]
    simp -dsimp -implicitDefEqProofs only [push_cast, ↓trAdd_f, ↓stOf_f, seval]
    try refine hK _ ?_
    repeat (first | refine awp_seq ?_ | refine awp_block ?_ | refine awp_skip ?_ | refine awp_scope ?_ | refine awp_label ?_)
    refine awp_region tabOk fun K hK => ?_
    simp -dsimp -implicitDefEqProofs only [push_cast, ↓trAdd_f, ↓stOf_f, seval]
    try refine hK _ ?_
    repeat (first | refine awp_seq ?_ | refine awp_block ?_ | refine awp_skip ?_ | refine awp_scope ?_ | refine awp_label ?_)
    refine awp_cond (b := true) (by simp -dsimp -implicitDefEqProofs only [push_cast, ↓trAdd_f, ↓stOf_f, seval]) (fun h => ?_) (fun h => ?_)
    · refine awp_ret ?_
      simp only [hx.same, ← hsame, encQ]
      simp -dsimp -implicitDefEqProofs only [push_cast, List.mem_append, List.mem_cons, List.mem_singleton, forall_eq_or_imp, forall_eq, ↓trAdd_f, ↓stOf_f, seval]
    · simp at h
  | true =>
    cases one with
    | none =>
      obtain ⟨hP, hn1, hgt⟩ := hjump rfl rfl
      simp only [oneP, encQ]
      simp -dsimp -implicitDefEqProofs only [push_cast, ↓trAdd_f, ↓stOf_f, seval]
      try refine hK _ ?_
      repeat (first | refine awp_seq ?_ | refine awp_block ?_ | refine awp_skip ?_ | refine awp_scope ?_ | refine awp_label ?_)
      refine awp_region tabOk fun K hK => ?_
      simp -dsimp -implicitDefEqProofs only [push_cast, ↓trAdd_f, ↓stOf_f, seval]
      try refine hK _ ?_
      repeat (first | refine awp_seq ?_ | refine awp_block ?_ | refine awp_skip ?_ | refine awp_scope ?_ | refine awp_label ?_)
      refine awp_cond (b := false) (by simp -dsimp -implicitDefEqProofs only [push_cast, ↓trAdd_f, ↓stOf_f, seval]) (fun h => ?_) (fun h => ?_)
      · simp at h
      clear h
      refine awp_skip ?_
      try refine hK _ ?_
      repeat (first | refine awp_seq ?_ | refine awp_block ?_ | refine awp_skip ?_ | refine awp_scope ?_ | refine awp_label ?_)
      refine awp_region tabOk fun K hK => ?_
      simp -dsimp -implicitDefEqProofs only [push_cast, ↓trAdd_f, ↓stOf_f, seval]
      try refine hK _ ?_
      repeat (first | refine awp_seq ?_ | refine awp_block ?_ | refine awp_skip ?_ | refine awp_scope ?_ | refine awp_label ?_)
      refine awp_cond (b := true) (by simp -dsimp -implicitDefEqProofs only [push_cast, ↓trAdd_f, ↓stOf_f, seval]) (fun h => ?_) (fun h => ?_)
      · try refine hK _ ?_
        repeat (first | refine awp_seq ?_ | refine awp_block ?_ | refine awp_skip ?_ | refine awp_scope ?_ | refine awp_label ?_)
        refine awp_region tabOk fun K hK => ?_
        simp -dsimp -implicitDefEqProofs only [push_cast, ↓trAdd_f, ↓stOf_f, seval]
        refine hK _ (awp_exit rfl ?_)
        refine ⟨(m, soon, [z0, z1, z2, z3]), hP, by show m < m + 1; omega, ?_⟩
        refine le_intro hB [] (by simp) (fun b _ => rfl) rfl ?_ ?_ rfl <;> simp -dsimp -implicitDefEqProofs only [encQ, push_cast, ↓trAdd_f, ↓stOf_f, seval]
      · simp at h
    | some j =>
      obtain ⟨hP, hn1, hjX⟩ := hsend j rfl
      have hjn := hj j rfl
      have : j = 0 ∨ j = 1 ∨ j = 2 ∨ j = 3 := by omega
      rcases this with rfl | rfl | rfl | rfl
      · have hP : PInv l bs until_ m (now + z0.s.bits) [z0.sent (now + z0.s.bits), z1, z2, z3] := hP
        have hok := hy.okq p (show z0 ∈ [z0, z1, z2, z3] by simp)
        have hla := hy.late z0 (by simp)
        have hb1 := hok.s.1
        have hb2 := hok.s.2.1
        have hdd := hok.due
        have hw1 : IntKind.i64.wrap (now + z0.s.bits) = now + z0.s.bits := wrap_i64 (by omega) (by omega)
        have hys := hY ⟨(z0, now + z0.s.bits), hok, by show 0 ≤ now + z0.s.bits; omega, by show now + z0.s.bits ≤ 50000000000; omega⟩
        have hnx := nextL_ok z0 (now + z0.s.bits) hok (by omega) (by omega)
        simp only [oneP, encQ]
        simp -dsimp -implicitDefEqProofs only [push_cast, ↓trAdd_f, ↓stOf_f, seval]
        try refine hK _ ?_
        repeat (first | refine awp_seq ?_ | refine awp_block ?_ | refine awp_skip ?_ | refine awp_scope ?_ | refine awp_label ?_)
        refine awp_region tabOk fun K hK => ?_
        simp -dsimp -implicitDefEqProofs only [push_cast, ↓trAdd_f, ↓stOf_f, seval]
        try refine hK _ ?_
        repeat (first | refine awp_seq ?_ | refine awp_block ?_ | refine awp_skip ?_ | refine awp_scope ?_ | refine awp_label ?_)
        refine awp_cond (b := false) (by simp -dsimp -implicitDefEqProofs only [push_cast, ↓trAdd_f, ↓stOf_f, seval]) (fun h => ?_) (fun h => ?_)
        · simp at h
        clear h
        refine awp_skip ?_
        try refine hK _ ?_
        repeat (first | refine awp_seq ?_ | refine awp_block ?_ | refine awp_skip ?_ | refine awp_scope ?_ | refine awp_label ?_)
        refine awp_region tabOk fun K hK => ?_
        simp -dsimp -implicitDefEqProofs only [push_cast, ↓trAdd_f, ↓stOf_f, seval]
        try refine hK _ ?_
        repeat (first | refine awp_seq ?_ | refine awp_block ?_ | refine awp_skip ?_ | refine awp_scope ?_ | refine awp_label ?_)
        refine awp_cond (b := false) (by simp -dsimp -implicitDefEqProofs only [push_cast, ↓trAdd_f, ↓stOf_f, seval]) (fun h => ?_) (fun h => ?_)
        · simp at h
        clear h
        refine awp_skip ?_
        try refine hK _ ?_
        repeat (first | refine awp_seq ?_ | refine awp_block ?_ | refine awp_skip ?_ | refine awp_scope ?_ | refine awp_label ?_)
        refine awp_region tabOk fun K hK => ?_
        simp -dsimp -implicitDefEqProofs only [hw1, push_cast, ↓trAdd_f, ↓stOf_f, seval]
        refine hK _ (awp_seq (awp_seq ?_))
        refine awp_region_y (l1 := [_, _, _]) tabOk hRdy fun K hK => ?_
        simp -dsimp -implicitDefEqProofs only [push_cast, ↓trAdd_f, ↓stOf_f, seval]
        refine ⟨by show (31 : Nat) < 35; decide, rfl, { args := [.ptr 0 0, .int .i64 (now + z0.s.bits)], st0 := [(0, .box (encQ z0))], res := .bool true, st1 := [(0, .box (encQL z0 (now + z0.s.bits)))], r := [0] }, hys, ?_, ?_⟩
        · simp only [encQ, encQL]
          simp -dsimp -implicitDefEqProofs only [push_cast, List.mem_append, List.mem_cons, List.mem_singleton, forall_eq_or_imp, forall_eq, ↓trAdd_f, ↓stOf_f, seval]
          all_goals exact rfl
        simp only [encQ, encQL]
        simp -dsimp -implicitDefEqProofs only [push_cast, ↓trAdd_f, ↓stOf_f, seval]
        try refine hK _ ?_
        repeat (first | refine awp_seq ?_ | refine awp_block ?_ | refine awp_skip ?_ | refine awp_scope ?_ | refine awp_label ?_)
        refine awp_cond (b := false) (by simp -dsimp -implicitDefEqProofs only [push_cast, ↓trAdd_f, ↓stOf_f, seval]) (fun h => ?_) (fun h => ?_)
        · simp at h
        clear h
        refine awp_skip ?_
        try refine hK _ ?_
        repeat (first | refine awp_seq ?_ | refine awp_block ?_ | refine awp_skip ?_ | refine awp_scope ?_ | refine awp_label ?_)
        refine awp_region tabOk fun K hK => ?_
        simp -dsimp -implicitDefEqProofs only [push_cast, ↓trAdd_f, ↓stOf_f, seval]
        refine ⟨34, [], [], { args := [.ptr 0 0], st0 := [(0, .box (encQL z0 (now + z0.s.bits)))], res := .tup [], st1 := [(0, .box (encQ (z0.sent (now + z0.s.bits))))], r := [0] }, rfl, hnx, ?_, ?_⟩
        · simp only [encQ, encQL]
          simp -dsimp -implicitDefEqProofs only [push_cast, List.mem_append, List.mem_cons, List.mem_singleton, forall_eq_or_imp, forall_eq, ↓trAdd_f, ↓stOf_f, seval]
          all_goals exact rfl
        simp only [encQ, encQL]
        simp -dsimp -implicitDefEqProofs only [push_cast, ↓trAdd_f, ↓stOf_f, seval]
        refine hK _ ⟨(m, now + z0.s.bits, [z0.sent (now + z0.s.bits), z1, z2, z3]), hP, by show m < m + 1; omega, ?_⟩
        refine le_intro hB [] (by simp) (fun b _ => rfl) rfl ?_ ?_ rfl <;> simp -dsimp -implicitDefEqProofs only [encQ, push_cast, ↓trAdd_f, ↓stOf_f, seval]
      · have hP : PInv l bs until_ m (now + z1.s.bits) [z0, z1.sent (now + z1.s.bits), z2, z3] := hP
        have hok := hy.okq p (show z1 ∈ [z0, z1, z2, z3] by simp)
        have hla := hy.late z1 (by simp)
        have hb1 := hok.s.1
        have hb2 := hok.s.2.1
        have hdd := hok.due
        have hw1 : IntKind.i64.wrap (now + z1.s.bits) = now + z1.s.bits := wrap_i64 (by omega) (by omega)
        have hys := hY ⟨(z1, now + z1.s.bits), hok, by show 0 ≤ now + z1.s.bits; omega, by show now + z1.s.bits ≤ 50000000000; omega⟩
        have hnx := nextL_ok z1 (now + z1.s.bits) hok (by omega) (by omega)
        simp only [oneP, encQ]
        simp -dsimp -implicitDefEqProofs only [push_cast, ↓trAdd_f, ↓stOf_f, seval]
        try refine hK _ ?_
        repeat (first | refine awp_seq ?_ | refine awp_block ?_ | refine awp_skip ?_ | refine awp_scope ?_ | refine awp_label ?_)
        refine awp_region tabOk fun K hK => ?_
        simp -dsimp -implicitDefEqProofs only [push_cast, ↓trAdd_f, ↓stOf_f, seval]
        try refine hK _ ?_
        repeat (first | refine awp_seq ?_ | refine awp_block ?_ | refine awp_skip ?_ | refine awp_scope ?_ | refine awp_label ?_)
        refine awp_cond (b := false) (by simp -dsimp -implicitDefEqProofs only [push_cast, ↓trAdd_f, ↓stOf_f, seval]) (fun h => ?_) (fun h => ?_)
        · simp at h
        clear h
        refine awp_skip ?_
        try refine hK _ ?_
        repeat (first | refine awp_seq ?_ | refine awp_block ?_ | refine awp_skip ?_ | refine awp_scope ?_ | refine awp_label ?_)
        refine awp_region tabOk fun K hK => ?_
        simp -dsimp -implicitDefEqProofs only [push_cast, ↓trAdd_f, ↓stOf_f, seval]
        try refine hK _ ?_
        repeat (first | refine awp_seq ?_ | refine awp_block ?_ | refine awp_skip ?_ | refine awp_scope ?_ | refine awp_label ?_)
        refine awp_cond (b := false) (by simp -dsimp -implicitDefEqProofs only [push_cast, ↓trAdd_f, ↓stOf_f, seval]) (fun h => ?_) (fun h => ?_)
        · simp at h
        clear h
        refine awp_skip ?_
        try refine hK _ ?_
        repeat (first | refine awp_seq ?_ | refine awp_block ?_ | refine awp_skip ?_ | refine awp_scope ?_ | refine awp_label ?_)
        refine awp_region tabOk fun K hK => ?_
        simp -dsimp -implicitDefEqProofs only [hw1, push_cast, ↓trAdd_f, ↓stOf_f, seval]
        refine hK _ (awp_seq (awp_seq ?_))
        refine awp_region_y (l1 := [_, _, _]) tabOk hRdy fun K hK => ?_
        simp -dsimp -implicitDefEqProofs only [push_cast, ↓trAdd_f, ↓stOf_f, seval]
        refine ⟨by show (31 : Nat) < 35; decide, rfl, { args := [.ptr 0 0, .int .i64 (now + z1.s.bits)], st0 := [(0, .box (encQ z1))], res := .bool true, st1 := [(0, .box (encQL z1 (now + z1.s.bits)))], r := [1] }, hys, ?_, ?_⟩
        · simp only [encQ, encQL]
          simp -dsimp -implicitDefEqProofs only [push_cast, List.mem_append, List.mem_cons, List.mem_singleton, forall_eq_or_imp, forall_eq, ↓trAdd_f, ↓stOf_f, seval]
          all_goals exact rfl
        simp only [encQ, encQL]
        simp -dsimp -implicitDefEqProofs only [push_cast, ↓trAdd_f, ↓stOf_f, seval]
        try refine hK _ ?_
        repeat (first | refine awp_seq ?_ | refine awp_block ?_ | refine awp_skip ?_ | refine awp_scope ?_ | refine awp_label ?_)
        refine awp_cond (b := false) (by simp -dsimp -implicitDefEqProofs only [push_cast, ↓trAdd_f, ↓stOf_f, seval]) (fun h => ?_) (fun h => ?_)
        · simp at h
        clear h
        refine awp_skip ?_
        try refine hK _ ?_
        repeat (first | refine awp_seq ?_ | refine awp_block ?_ | refine awp_skip ?_ | refine awp_scope ?_ | refine awp_label ?_)
        refine awp_region tabOk fun K hK => ?_
        simp -dsimp -implicitDefEqProofs only [push_cast, ↓trAdd_f, ↓stOf_f, seval]
        refine ⟨34, [], [], { args := [.ptr 0 0], st0 := [(0, .box (encQL z1 (now + z1.s.bits)))], res := .tup [], st1 := [(0, .box (encQ (z1.sent (now + z1.s.bits))))], r := [1] }, rfl, hnx, ?_, ?_⟩
        · simp only [encQ, encQL]
          simp -dsimp -implicitDefEqProofs only [push_cast, List.mem_append, List.mem_cons, List.mem_singleton, forall_eq_or_imp, forall_eq, ↓trAdd_f, ↓stOf_f, seval]
          all_goals exact rfl
        simp only [encQ, encQL]
        simp -dsimp -implicitDefEqProofs only [push_cast, ↓trAdd_f, ↓stOf_f, seval]
        refine hK _ ⟨(m, now + z1.s.bits, [z0, z1.sent (now + z1.s.bits), z2, z3]), hP, by show m < m + 1; omega, ?_⟩
        refine le_intro hB [] (by simp) (fun b _ => rfl) rfl ?_ ?_ rfl <;> simp -dsimp -implicitDefEqProofs only [encQ, push_cast, ↓trAdd_f, ↓stOf_f, seval]
      · have hP : PInv l bs until_ m (now + z2.s.bits) [z0, z1, z2.sent (now + z2.s.bits), z3] := hP
        have hok := hy.okq p (show z2 ∈ [z0, z1, z2, z3] by simp)
        have hla := hy.late z2 (by simp)
        have hb1 := hok.s.1
        have hb2 := hok.s.2.1
        have hdd := hok.due
        have hw1 : IntKind.i64.wrap (now + z2.s.bits) = now + z2.s.bits := wrap_i64 (by omega) (by omega)
        have hys := hY ⟨(z2, now + z2.s.bits), hok, by show 0 ≤ now + z2.s.bits; omega, by show now + z2.s.bits ≤ 50000000000; omega⟩
        have hnx := nextL_ok z2 (now + z2.s.bits) hok (by omega) (by omega)
        simp only [oneP, encQ]
        simp -dsimp -implicitDefEqProofs only [push_cast, ↓trAdd_f, ↓stOf_f, seval]
        try refine hK _ ?_
        repeat (first | refine awp_seq ?_ | refine awp_block ?_ | refine awp_skip ?_ | refine awp_scope ?_ | refine awp_label ?_)
        refine awp_region tabOk fun K hK => ?_
        simp -dsimp -implicitDefEqProofs only [push_cast, ↓trAdd_f, ↓stOf_f, seval]
        try refine hK _ ?_
        repeat (first | refine awp_seq ?_ | refine awp_block ?_ | refine awp_skip ?_ | refine awp_scope ?_ | refine awp_label ?_)
        refine awp_cond (b := false) (by simp -dsimp -implicitDefEqProofs only [push_cast, ↓trAdd_f, ↓stOf_f, seval]) (fun h => ?_) (fun h => ?_)
        · simp at h
        clear h
        refine awp_skip ?_
        try refine hK _ ?_
        repeat (first | refine awp_seq ?_ | refine awp_block ?_ | refine awp_skip ?_ | refine awp_scope ?_ | refine awp_label ?_)
        refine awp_region tabOk fun K hK => ?_
        simp -dsimp -implicitDefEqProofs only [push_cast, ↓trAdd_f, ↓stOf_f, seval]
        try refine hK _ ?_
        repeat (first | refine awp_seq ?_ | refine awp_block ?_ | refine awp_skip ?_ | refine awp_scope ?_ | refine awp_label ?_)
        refine awp_cond (b := false) (by simp -dsimp -implicitDefEqProofs only [push_cast, ↓trAdd_f, ↓stOf_f, seval]) (fun h => ?_) (fun h => ?_)
        · simp at h
        clear h
        refine awp_skip ?_
        try refine hK _ ?_
        repeat (first | refine awp_seq ?_ | refine awp_block ?_ | refine awp_skip ?_ | refine awp_scope ?_ | refine awp_label ?_)
        refine awp_region tabOk fun K hK => ?_
        simp -dsimp -implicitDefEqProofs only [hw1, push_cast, ↓trAdd_f, ↓stOf_f, seval]
        refine hK _ (awp_seq (awp_seq ?_))
        refine awp_region_y (l1 := [_, _, _]) tabOk hRdy fun K hK => ?_
        simp -dsimp -implicitDefEqProofs only [push_cast, ↓trAdd_f, ↓stOf_f, seval]
        refine ⟨by show (31 : Nat) < 35; decide, rfl, { args := [.ptr 0 0, .int .i64 (now + z2.s.bits)], st0 := [(0, .box (encQ z2))], res := .bool true, st1 := [(0, .box (encQL z2 (now + z2.s.bits)))], r := [2] }, hys, ?_, ?_⟩
        · simp only [encQ, encQL]
          simp -dsimp -implicitDefEqProofs only [push_cast, List.mem_append, List.mem_cons, List.mem_singleton, forall_eq_or_imp, forall_eq, ↓trAdd_f, ↓stOf_f, seval]
          all_goals exact rfl
        simp only [encQ, encQL]
        simp -dsimp -implicitDefEqProofs only [push_cast, ↓trAdd_f, ↓stOf_f, seval]
        try refine hK _ ?_
        repeat (first | refine awp_seq ?_ | refine awp_block ?_ | refine awp_skip ?_ | refine awp_scope ?_ | refine awp_label ?_)
        refine awp_cond (b := false) (by simp -dsimp -implicitDefEqProofs only [push_cast, ↓trAdd_f, ↓stOf_f, seval]) (fun h => ?_) (fun h => ?_)
        · simp at h
        clear h
        refine awp_skip ?_
        try refine hK _ ?_
        repeat (first | refine awp_seq ?_ | refine awp_block ?_ | refine awp_skip ?_ | refine awp_scope ?_ | refine awp_label ?_)
        refine awp_region tabOk fun K hK => ?_
        simp -dsimp -implicitDefEqProofs only [push_cast, ↓trAdd_f, ↓stOf_f, seval]
        refine ⟨34, [], [], { args := [.ptr 0 0], st0 := [(0, .box (encQL z2 (now + z2.s.bits)))], res := .tup [], st1 := [(0, .box (encQ (z2.sent (now + z2.s.bits))))], r := [2] }, rfl, hnx, ?_, ?_⟩
        · simp only [encQ, encQL]
          simp -dsimp -implicitDefEqProofs only [push_cast, List.mem_append, List.mem_cons, List.mem_singleton, forall_eq_or_imp, forall_eq, ↓trAdd_f, ↓stOf_f, seval]
          all_goals exact rfl
        simp only [encQ, encQL]
        simp -dsimp -implicitDefEqProofs only [push_cast, ↓trAdd_f, ↓stOf_f, seval]
        refine hK _ ⟨(m, now + z2.s.bits, [z0, z1, z2.sent (now + z2.s.bits), z3]), hP, by show m < m + 1; omega, ?_⟩
        refine le_intro hB [] (by simp) (fun b _ => rfl) rfl ?_ ?_ rfl <;> simp -dsimp -implicitDefEqProofs only [encQ, push_cast, ↓trAdd_f, ↓stOf_f, seval]
      · have hP : PInv l bs until_ m (now + z3.s.bits) [z0, z1, z2, z3.sent (now + z3.s.bits)] := hP
        have hok := hy.okq p (show z3 ∈ [z0, z1, z2, z3] by simp)
        have hla := hy.late z3 (by simp)
        have hb1 := hok.s.1
        have hb2 := hok.s.2.1
        have hdd := hok.due
        have hw1 : IntKind.i64.wrap (now + z3.s.bits) = now + z3.s.bits := wrap_i64 (by omega) (by omega)
        have hys := hY ⟨(z3, now + z3.s.bits), hok, by show 0 ≤ now + z3.s.bits; omega, by show now + z3.s.bits ≤ 50000000000; omega⟩
        have hnx := nextL_ok z3 (now + z3.s.bits) hok (by omega) (by omega)
        simp only [oneP, encQ]
        simp -dsimp -implicitDefEqProofs only [push_cast, ↓trAdd_f, ↓stOf_f, seval]
        try refine hK _ ?_
        repeat (first | refine awp_seq ?_ | refine awp_block ?_ | refine awp_skip ?_ | refine awp_scope ?_ | refine awp_label ?_)
        refine awp_region tabOk fun K hK => ?_
        simp -dsimp -implicitDefEqProofs only [push_cast, ↓trAdd_f, ↓stOf_f, seval]
        try refine hK _ ?_
        repeat (first | refine awp_seq ?_ | refine awp_block ?_ | refine awp_skip ?_ | refine awp_scope ?_ | refine awp_label ?_)
        refine awp_cond (b := false) (by simp -dsimp -implicitDefEqProofs only [push_cast, ↓trAdd_f, ↓stOf_f, seval]) (fun h => ?_) (fun h => ?_)
        · simp at h
        clear h
        refine awp_skip ?_
        try refine hK _ ?_
        repeat (first | refine awp_seq ?_ | refine awp_block ?_ | refine awp_skip ?_ | refine awp_scope ?_ | refine awp_label ?_)
        refine awp_region tabOk fun K hK => ?_
        simp -dsimp -implicitDefEqProofs only [push_cast, ↓trAdd_f, ↓stOf_f, seval]
        try refine hK _ ?_
        repeat (first | refine awp_seq ?_ | refine awp_block ?_ | refine awp_skip ?_ | refine awp_scope ?_ | refine awp_label ?_)
        refine awp_cond (b := false) (by simp -dsimp -implicitDefEqProofs only [push_cast, ↓trAdd_f, ↓stOf_f, seval]) (fun h => ?_) (fun h => ?_)
        · simp at h
        clear h
        refine awp_skip ?_
        try refine hK _ ?_
        repeat (first | refine awp_seq ?_ | refine awp_block ?_ | refine awp_skip ?_ | refine awp_scope ?_ | refine awp_label ?_)
        refine awp_region tabOk fun K hK => ?_
        simp -dsimp -implicitDefEqProofs only [hw1, push_cast, ↓trAdd_f, ↓stOf_f, seval]
        refine hK _ (awp_seq (awp_seq ?_))
        refine awp_region_y (l1 := [_, _, _]) tabOk hRdy fun K hK => ?_
        simp -dsimp -implicitDefEqProofs only [push_cast, ↓trAdd_f, ↓stOf_f, seval]
        refine ⟨by show (31 : Nat) < 35; decide, rfl, { args := [.ptr 0 0, .int .i64 (now + z3.s.bits)], st0 := [(0, .box (encQ z3))], res := .bool true, st1 := [(0, .box (encQL z3 (now + z3.s.bits)))], r := [3] }, hys, ?_, ?_⟩
        · simp only [encQ, encQL]
          simp -dsimp -implicitDefEqProofs only [push_cast, List.mem_append, List.mem_cons, List.mem_singleton, forall_eq_or_imp, forall_eq, ↓trAdd_f, ↓stOf_f, seval]
          all_goals exact rfl
        simp only [encQ, encQL]
        simp -dsimp -implicitDefEqProofs only [push_cast, ↓trAdd_f, ↓stOf_f, seval]
        try refine hK _ ?_
        repeat (first | refine awp_seq ?_ | refine awp_block ?_ | refine awp_skip ?_ | refine awp_scope ?_ | refine awp_label ?_)
        refine awp_cond (b := false) (by simp -dsimp -implicitDefEqProofs only [push_cast, ↓trAdd_f, ↓stOf_f, seval]) (fun h => ?_) (fun h => ?_)
        · simp at h
        clear h
        refine awp_skip ?_
        try refine hK _ ?_
        repeat (first | refine awp_seq ?_ | refine awp_block ?_ | refine awp_skip ?_ | refine awp_scope ?_ | refine awp_label ?_)
        refine awp_region tabOk fun K hK => ?_
        simp -dsimp -implicitDefEqProofs only [push_cast, ↓trAdd_f, ↓stOf_f, seval]
        refine ⟨34, [], [], { args := [.ptr 0 0], st0 := [(0, .box (encQL z3 (now + z3.s.bits)))], res := .tup [], st1 := [(0, .box (encQ (z3.sent (now + z3.s.bits))))], r := [3] }, rfl, hnx, ?_, ?_⟩
        · simp only [encQ, encQL]
          simp -dsimp -implicitDefEqProofs only [push_cast, List.mem_append, List.mem_cons, List.mem_singleton, forall_eq_or_imp, forall_eq, ↓trAdd_f, ↓stOf_f, seval]
          all_goals exact rfl
        simp only [encQ, encQL]
        simp -dsimp -implicitDefEqProofs only [push_cast, ↓trAdd_f, ↓stOf_f, seval]
        refine hK _ ⟨(m, now + z3.s.bits, [z0, z1, z2, z3.sent (now + z3.s.bits)]), hP, by show m < m + 1; omega, ?_⟩
        refine le_intro hB [] (by simp) (fun b _ => rfl) rfl ?_ ?_ rfl <;> simp -dsimp -implicitDefEqProofs only [encQ, push_cast, ↓trAdd_f, ↓stOf_f, seval]


theorem sent5_ok (x0 x1 x2 x3 x4 : QS) (until_ : Int) : FnS Try.prog 29 [.own 5 1 0 5, .int .i64 until_] [(0, .box (encQ x0)), (1, .box (encQ x1)), (2, .box (encQ x2)), (3, .box (encQ x3)), (4, .box (encQ x4)), (5, .row 1 [[.ptr 0 0], [.ptr 1 0], [.ptr 2 0], [.ptr 3 0], [.ptr 4 0]])] (.fn (.func 32) [] [.ptr 6 0, .ptr 7 0]) [(0, .box (encQ x0)), (1, .box (encQ x1)), (2, .box (encQ x2)), (3, .box (encQ x3)), (4, .box (encQ x4)), (5, .row 1 [[.ptr 0 0], [.ptr 1 0], [.ptr 2 0], [.ptr 3 0], [.ptr 4 0]]), (6, .box [.own 5 1 0 5]), (7, .box [.int .i64 until_])] := by
  refine fn_walkN tabOk Try.func29 rfl (by decide +kernel) Try.ntmps29 Try.results29 (by simp) fun B hB => ?_
  simp only [encQ]
  try refine hK _ ?_
  repeat (first | refine awp_seq ?_ | refine awp_block ?_ | refine awp_skip ?_ | refine awp_scope ?_ | refine awp_label ?_)
  refine awp_region tabOk fun K hK => ?_
  simp -dsimp -implicitDefEqProofs only [push_cast, ↓trAdd_f, ↓stOf_f, seval]
  try refine hK _ ?_
  repeat (first | refine awp_seq ?_ | refine awp_block ?_ | refine awp_skip ?_ | refine awp_scope ?_ | refine awp_label ?_)
  refine awp_region tabOk fun K hK => ?_
  simp -dsimp -implicitDefEqProofs only [push_cast, ↓trAdd_f, ↓stOf_f, seval]
  refine hK _ ?_
  refine awp_le (s' := { sl := [(4, .fn (.func 32) [] [.ptr 6 0, .ptr 7 0])], st := [(0, .box (encQ x0)), (1, .box (encQ x1)), (2, .box (encQ x2)), (3, .box (encQ x3)), (4, .box (encQ x4)), (5, .row 1 [[.ptr 0 0], [.ptr 1 0], [.ptr 2 0], [.ptr 3 0], [.ptr 4 0]]), (6, .box [.own 5 1 0 5]), (7, .box [.int .i64 until_])], nx := 14, n := 6 }) (le_intro hB [(7, 14)] (by simp) (fun b hb => by have hb' : b < 6 := hb; have : ¬ 7 = b := (by omega); simp [renG, lk, this]) rfl ?_ ?_ rfl) ?_
  · simp only [encQ]
    simp -dsimp -implicitDefEqProofs only [push_cast, ↓trAdd_f, ↓stOf_f, seval]
  · simp only [encQ]
    simp -dsimp -implicitDefEqProofs only [push_cast, ↓trAdd_f, ↓stOf_f, seval]
  refine awp_ret ?_
  simp only [encQ]
  simp -dsimp -implicitDefEqProofs only [push_cast, List.mem_append, List.mem_cons, List.mem_singleton, forall_eq_or_imp, forall_eq, ↓trAdd_f, ↓stOf_f, seval]

theorem sentf5_ok {l : List Stream} {bs : List Int} {until_ : Int} (p : PlayOk l bs until_) (hl : l.length = 5) (lp : Nat) (rec : Loop) (hY : ∀ i : YI, YS Try.prog lp rec (coY i)) (x0 x1 x2 x3 x4 : QS) (hx : PInv l bs until_ fuel0 0 [x0, x1, x2, x3, x4]) :
    FnL Try.prog lp rec 32 [.fn (.yield lp) [] [], .ptr 6 0, .ptr 7 0] [(0, .box (encQ x0)), (1, .box (encQ x1)), (2, .box (encQ x2)), (3, .box (encQ x3)), (4, .box (encQ x4)), (5, .row 1 [[.ptr 0 0], [.ptr 1 0], [.ptr 2 0], [.ptr 3 0], [.ptr 4 0]]), (6, .box [.own 5 1 0 5]), (7, .box [.int .i64 until_])] (.tup [])
      [(0, .box (encQ ((playN until_ fuel0 0 [x0, x1, x2, x3, x4]).getD 0 zeroQ))), (1, .box (encQ ((playN until_ fuel0 0 [x0, x1, x2, x3, x4]).getD 1 zeroQ))), (2, .box (encQ ((playN until_ fuel0 0 [x0, x1, x2, x3, x4]).getD 2 zeroQ))), (3, .box (encQ ((playN until_ fuel0 0 [x0, x1, x2, x3, x4]).getD 3 zeroQ))), (4, .box (encQ ((playN until_ fuel0 0 [x0, x1, x2, x3, x4]).getD 4 zeroQ))), (5, .row 1 [[.ptr 0 0], [.ptr 1 0], [.ptr 2 0], [.ptr 3 0], [.ptr 4 0]]), (6, .box [.own 5 1 0 5]), (7, .box [.int .i64 until_])] := by
  refine fnL_walk tabOk Try.func32 rfl (by decide +kernel) Try.ntmps32 Try.results32 (by simp) fun B hRdy hB => ?_
  try refine hK _ ?_
  repeat (first | refine awp_seq ?_ | refine awp_block ?_ | refine awp_skip ?_ | refine awp_scope ?_ | refine awp_label ?_)
  refine awp_region tabOk fun K hK => ?_
  simp -dsimp -implicitDefEqProofs only [push_cast, ↓trAdd_f, ↓stOf_f, seval]
  try refine hK _ ?_
  repeat (first | refine awp_seq ?_ | refine awp_block ?_ | refine awp_skip ?_ | refine awp_scope ?_ | refine awp_label ?_)
  refine awp_for (fun y : Nat × Int × List QS => { sl := [(0, .fn (.yield lp) [] []), (1, .ptr 6 0), (2, .ptr 7 0), (4, .int .i64 y.2.1)], st := [(0, .box (encQ (y.2.2.getD 0 zeroQ))), (1, .box (encQ (y.2.2.getD 1 zeroQ))), (2, .box (encQ (y.2.2.getD 2 zeroQ))), (3, .box (encQ (y.2.2.getD 3 zeroQ))), (4, .box (encQ (y.2.2.getD 4 zeroQ))), (5, .row 1 [[.ptr 0 0], [.ptr 1 0], [.ptr 2 0], [.ptr 3 0], [.ptr 4 0]]), (6, .box [.own 5 1 0 5]), (7, .box [.int .i64 until_])], nx := 40, n := 35 }) (fun y => PInv l bs until_ y.1 y.2.1 y.2.2) (fun y => y.1) (fuel0, 0, [x0, x1, x2, x3, x4]) hx ?_ fun y hy => ?_
  · refine le_intro hB [] (by simp) (fun b _ => rfl) rfl ?_ ?_ rfl <;> simp -dsimp -implicitDefEqProofs only [encQ, push_cast, ↓trAdd_f, ↓stOf_f, seval]
  obtain ⟨m, now, X⟩ := y
  simp only at hy
  obtain ⟨m, rfl⟩ : ∃ k, m = k + 1 := ⟨m - 1, by have := hy.mu; omega⟩
  have hXl : X.length = 5 := hy.len.trans hl
  obtain ⟨z0, z1, z2, z3, z4, rfl⟩ : ∃ z0 z1 z2 z3 z4, X = [z0, z1, z2, z3, z4] := by
    match X, hXl with
    | [z0, z1, z2, z3, z4], _ => exact ⟨z0, z1, z2, z3, z4, rfl⟩
  have hbig := hy.big
  have hnow0 := hy.now0
  simp only [encQ]
  try refine hK _ ?_
  repeat (first | refine awp_seq ?_ | refine awp_block ?_ | refine awp_skip ?_ | refine awp_scope ?_ | refine awp_label ?_)
  refine awp_region tabOk fun K hK => ?_
  simp -dsimp -implicitDefEqProofs only [push_cast, ↓trAdd_f, ↓stOf_f, seval]
  refine ⟨33, [], [], { args := [.own 5 1 0 5, .int .i64 now, .int .i64 until_], st0 := [(0, .box (encQ z0)), (1, .box (encQ z1)), (2, .box (encQ z2)), (3, .box (encQ z3)), (4, .box (encQ z4)), (5, .row 1 [[.ptr 0 0], [.ptr 1 0], [.ptr 2 0], [.ptr 3 0], [.ptr 4 0]])], res := .tup [oneP (scan now until_ [z0, z1, z2, z3, z4]).2.1, .int .i64 (scan now until_ [z0, z1, z2, z3, z4]).2.2, .bool (scan now until_ [z0, z1, z2, z3, z4]).1], st1 := [(0, .box (encQ z0)), (1, .box (encQ z1)), (2, .box (encQ z2)), (3, .box (encQ z3)), (4, .box (encQ z4)), (5, .row 1 [[.ptr 0 0], [.ptr 1 0], [.ptr 2 0], [.ptr 3 0], [.ptr 4 0]])], r := [0, 1, 2, 3, 4, 5] }, rfl, choose5_ok z0 z1 z2 z3 z4 now until_, ?_, ?_⟩
  · have hs := scan_spec now until_ [z0, z1, z2, z3, z4]
    have hj : ∀ j, (scan now until_ [z0, z1, z2, z3, z4]).2.1 = some j → j < 5 := fun j h => (hs.one j h).1
    obtain ⟨w0, hw0⟩ : ∃ w, w = oneP (scan now until_ [z0, z1, z2, z3, z4]).2.1 := ⟨_, rfl⟩
    obtain ⟨z0r, z0o, z0w⟩ := oneP_facts hj hw0 (by decide : 5 ≤ 14)
    simp only [← hw0, encQ]
    simp -dsimp -implicitDefEqProofs only [z0o, push_cast, List.mem_append, List.mem_cons, List.mem_singleton, forall_eq_or_imp, forall_eq, ↓trAdd_f, ↓stOf_f, seval]
    exact rfl
  have hs := scan_spec now until_ [z0, z1, z2, z3, z4]
  have hjump := fun hl hn => pinv_jump hy p hl hn
  have hsend := fun j hj => pinv_send hy p (j := j) hj
  have hpd := fun h => playN_done (n := m) (now := now) (until_ := until_) (X := [z0, z1, z2, z3, z4]) h
  have hsl := fun j h => scan_left (now := now) (until_ := until_) (X := [z0, z1, z2, z3, z4]) (j := j) h
  have hsame := hy.same
  have hj : ∀ j, (scan now until_ [z0, z1, z2, z3, z4]).2.1 = some j → j < 5 := fun j h => (hs.one j h).1
  clear hs
  generalize scan now until_ [z0, z1, z2, z3, z4] = r at *
  obtain ⟨left, one, soon⟩ := r
  try simp only at hpd hjump hsend hsl hj
  cases left with
  | false =>
    have hone : one = none := by
      cases one with
      | none => rfl
      | some j => exact absurd (hsl j rfl) (by simp)
    subst hone
    rw [hpd rfl] at hsame
    simp only [oneP, encQ]
    simp -dsimp -implicitDefEqProofs only [push_cast, ↓trAdd_f, ↓stOf_f, seval]
    try refine hK _ ?_
    repeat (first | refine awp_seq ?_ | refine awp_block ?_ | refine awp_skip ?_ | refine awp_scope ?_ | refine awp_label ?_)
    refine awp_region tabOk fun K hK => ?_
    simp -dsimp -implicitDefEqProofs only [push_cast, ↓trAdd_f, ↓stOf_f, seval]
    try refine hK _ ?_
    repeat (first | refine awp_seq ?_ | refine awp_block ?_ | refine awp_skip ?_ | refine awp_scope ?_ | refine awp_label ?_)
    refine awp_cond (b := true) (by simp -dsimp -implicitDefEqProofs only [push_cast, ↓trAdd_f, ↓stOf_f, seval]) (fun h => ?_) (fun h => ?_)
    · refine awp_ret ?_
      simp only [hx.same, ← hsame, encQ]
      simp -dsimp -implicitDefEqProofs only [push_cast, List.mem_append, List.mem_cons, List.mem_singleton, forall_eq_or_imp, forall_eq, ↓trAdd_f, ↓stOf_f, seval]
    · simp at h
  | true =>
    cases one with
    | none =>
      obtain ⟨hP, hn1, hgt⟩ := hjump rfl rfl
      simp only [oneP, encQ]
      simp -dsimp -implicitDefEqProofs only [push_cast, ↓trAdd_f, ↓stOf_f, seval]
      try refine hK _ ?_
      repeat (first | refine awp_seq ?_ | refine awp_block ?_ | refine awp_skip ?_ | refine awp_scope ?_ | refine awp_label ?_)
      refine awp_region tabOk fun K hK => ?_
      simp -dsimp -implicitDefEqProofs only [push_cast, ↓trAdd_f, ↓stOf_f, seval]
      try refine hK _ ?_
      repeat (first | refine awp_seq ?_ | refine awp_block ?_ | refine awp_skip ?_ | refine awp_scope ?_ | refine awp_label ?_)
      refine awp_cond (b := false) (by simp -dsimp -implicitDefEqProofs only [push_cast, ↓trAdd_f, ↓stOf_f, seval]) (fun h => ?_) (fun h => ?_)
      · simp at h
      clear h
      refine awp_skip ?_
      try refine hK _ ?_
      repeat (first | refine awp_seq ?_ | refine awp_block ?_ | refine awp_skip ?_ | refine awp_scope ?_ | refine awp_label ?_)
      refine awp_region tabOk fun K hK => ?_
      simp -dsimp -implicitDefEqProofs only [push_cast, ↓trAdd_f, ↓stOf_f, seval]
      try refine hK _ ?_
      repeat (first | refine awp_seq ?_ | refine awp_block ?_ | refine awp_skip ?_ | refine awp_scope ?_ | refine awp_label ?_)
      refine awp_cond (b := true) (by simp -dsimp -implicitDefEqProofs only [push_cast, ↓trAdd_f, ↓stOf_f, seval]) (fun h => ?_) (fun h => ?_)
      · try refine hK _ ?_
        repeat (first | refine awp_seq ?_ | refine awp_block ?_ | refine awp_skip ?_ | refine awp_scope ?_ | refine awp_label ?_)
        refine awp_region tabOk fun K hK => ?_
        simp -dsimp -implicitDefEqProofs only [push_cast, ↓trAdd_f, ↓stOf_f, seval]
        refine hK _ (awp_exit rfl ?_)
        refine ⟨(m, soon, [z0, z1, z2, z3, z4]), hP, by show m < m + 1; omega, ?_⟩
        refine le_intro hB [] (by simp) (fun b _ => rfl) rfl ?_ ?_ rfl <;> simp -dsimp -implicitDefEqProofs only [encQ, push_cast, ↓trAdd_f, ↓stOf_f, seval]
      · simp at h
    | some j =>
      obtain ⟨hP, hn1, hjX⟩ := hsend j rfl
      have hjn := hj j rfl
      have : j = 0 ∨ j = 1 ∨ j = 2 ∨ j = 3 ∨ j = 4 := by omega
      rcases this with rfl | rfl | rfl | rfl | rfl
      · have hP : PInv l bs until_ m (now + z0.s.bits) [z0.sent (now + z0.s.bits), z1, z2, z3, z4] := hP
        have hok := hy.okq p (show z0 ∈ [z0, z1, z2, z3, z4] by simp)
        have hla := hy.late z0 (by simp)
        have hb1 := hok.s.1
        have hb2 := hok.s.2.1
        have hdd := hok.due
        have hw1 : IntKind.i64.wrap (now + z0.s.bits) = now + z0.s.bits := wrap_i64 (by omega) (by omega)
        have hys := hY ⟨(z0, now + z0.s.bits), hok, by show 0 ≤ now + z0.s.bits; omega, by show now + z0.s.bits ≤ 50000000000; omega⟩
        have hnx := nextL_ok z0 (now + z0.s.bits) hok (by omega) (by omega)
        simp only [oneP, encQ]
        simp -dsimp -implicitDefEqProofs only [push_cast, ↓trAdd_f, ↓stOf_f, seval]
        try refine hK _ ?_
        repeat (first | refine awp_seq ?_ | refine awp_block ?_ | refine awp_skip ?_ | refine awp_scope ?_ | refine awp_label ?_)
        refine awp_region tabOk fun K hK => ?_
        simp -dsimp -implicitDefEqProofs only [push_cast, ↓trAdd_f, ↓stOf_f, seval]
        try refine hK _ ?_
        repeat (first | refine awp_seq ?_ | refine awp_block ?_ | refine awp_skip ?_ | refine awp_scope ?_ | refine awp_label ?_)
        refine awp_cond (b := false) (by simp -dsimp -implicitDefEqProofs only [push_cast, ↓trAdd_f, ↓stOf_f, seval]) (fun h => ?_) (fun h => ?_)
        · simp at h
        clear h
        refine awp_skip ?_
        try refine hK _ ?_
        repeat (first | refine awp_seq ?_ | refine awp_block ?_ | refine awp_skip ?_ | refine awp_scope ?_ | refine awp_label ?_)
        refine awp_region tabOk fun K hK => ?_
        simp -dsimp -implicitDefEqProofs only [push_cast, ↓trAdd_f, ↓stOf_f, seval]
        try refine hK _ ?_
        repeat (first | refine awp_seq ?_ | refine awp_block ?_ | refine awp_skip ?_ | refine awp_scope ?_ | refine awp_label ?_)
        refine awp_cond (b := false) (by simp -dsimp -implicitDefEqProofs only [push_cast, ↓trAdd_f, ↓stOf_f, seval]) (fun h => ?_) (fun h => ?_)
        · simp at h
        clear h
        refine awp_skip ?_
        try refine hK _ ?_
        repeat (first | refine awp_seq ?_ | refine awp_block ?_ | refine awp_skip ?_ | refine awp_scope ?_ | refine awp_label ?_)
        refine awp_region tabOk fun K hK => ?_
        simp -dsimp -implicitDefEqProofs only [hw1, push_cast, ↓trAdd_f, ↓stOf_f, seval]
        refine hK _ (awp_seq (awp_seq ?_))
        refine awp_region_y (l1 := [_, _, _]) tabOk hRdy fun K hK => ?_
        simp -dsimp -implicitDefEqProofs only [push_cast, ↓trAdd_f, ↓stOf_f, seval]
        refine ⟨by show (31 : Nat) < 35; decide, rfl, { args := [.ptr 0 0, .int .i64 (now + z0.s.bits)], st0 := [(0, .box (encQ z0))], res := .bool true, st1 := [(0, .box (encQL z0 (now + z0.s.bits)))], r := [0] }, hys, ?_, ?_⟩
        · simp only [encQ, encQL]
          simp -dsimp -implicitDefEqProofs only [push_cast, List.mem_append, List.mem_cons, List.mem_singleton, forall_eq_or_imp, forall_eq, ↓trAdd_f, ↓stOf_f, seval]
          all_goals exact rfl
        simp only [encQ, encQL]
        simp -dsimp -implicitDefEqProofs only [push_cast, ↓trAdd_f, ↓stOf_f, seval]
        try refine hK _ ?_
        repeat (first | refine awp_seq ?_ | refine awp_block ?_ | refine awp_skip ?_ | refine awp_scope ?_ | refine awp_label ?_)
        refine awp_cond (b := false) (by simp -dsimp -implicitDefEqProofs only [push_cast, ↓trAdd_f, ↓stOf_f, seval]) (fun h => ?_) (fun h => ?_)
        · simp at h
        clear h
        refine awp_skip ?_
        try refine hK _ ?_
        repeat (first | refine awp_seq ?_ | refine awp_block ?_ | refine awp_skip ?_ | refine awp_scope ?_ | refine awp_label ?_)
        refine awp_region tabOk fun K hK => ?_
        simp -dsimp -implicitDefEqProofs only [push_cast, ↓trAdd_f, ↓stOf_f, seval]
        refine ⟨34, [], [], { args := [.ptr 0 0], st0 := [(0, .box (encQL z0 (now + z0.s.bits)))], res := .tup [], st1 := [(0, .box (encQ (z0.sent (now + z0.s.bits))))], r := [0] }, rfl, hnx, ?_, ?_⟩
        · simp only [encQ, encQL]
          simp -dsimp -implicitDefEqProofs only [push_cast, List.mem_append, List.mem_cons, List.mem_singleton, forall_eq_or_imp, forall_eq, ↓trAdd_f, ↓stOf_f, seval]
          all_goals exact rfl
        simp only [encQ, encQL]
        simp -dsimp -implicitDefEqProofs only [push_cast, ↓trAdd_f, ↓stOf_f, seval]
        refine hK _ ⟨(m, now + z0.s.bits, [z0.sent (now + z0.s.bits), z1, z2, z3, z4]), hP, by show m < m + 1; omega, ?_⟩
        refine le_intro hB [] (by simp) (fun b _ => rfl) rfl ?_ ?_ rfl <;> simp -dsimp -implicitDefEqProofs only [encQ, push_cast, ↓trAdd_f, ↓stOf_f, seval]
      · have hP : PInv l bs until_ m (now + z1.s.bits) [z0, z1.sent (now + z1.s.bits), z2, z3, z4] := hP
        have hok := hy.okq p (show z1 ∈ [z0, z1, z2, z3, z4] by simp)
        have hla := hy.late z1 (by simp)
        have hb1 := hok.s.1
        have hb2 := hok.s.2.1
        have hdd := hok.due
        have hw1 : IntKind.i64.wrap (now + z1.s.bits) = now + z1.s.bits := wrap_i64 (by omega) (by omega)
        have hys := hY ⟨(z1, now + z1.s.bits), hok, by show 0 ≤ now + z1.s.bits; omega, by show now + z1.s.bits ≤ 50000000000; omega⟩
        have hnx := nextL_ok z1 (now + z1.s.bits) hok (by omega) (by omega)
        simp only [oneP, encQ]
        simp -dsimp -implicitDefEqProofs only [push_cast, ↓trAdd_f, ↓stOf_f, seval]
        try refine hK _ ?_
        repeat (first | refine awp_seq ?_ | refine awp_block ?_ | refine awp_skip ?_ | refine awp_scope ?_ | refine awp_label ?_)
        refine awp_region tabOk fun K hK => ?_
        simp -dsimp -implicitDefEqProofs only [push_cast, ↓trAdd_f, ↓stOf_f, seval]
        try refine hK _ ?_
        repeat (first | refine awp_seq ?_ | refine awp_block ?_ | refine awp_skip ?_ | refine awp_scope ?_ | refine awp_label ?_)
        refine awp_cond (b := false) (by simp -dsimp -implicitDefEqProofs only [push_cast, ↓trAdd_f, ↓stOf_f, seval]) (fun h => ?_) (fun h => ?_)
        · simp at h
        clear h
        refine awp_skip ?_
        try refine hK _ ?_
        repeat (first | refine awp_seq ?_ | refine awp_block ?_ | refine awp_skip ?_ | refine awp_scope ?_ | refine awp_label ?_)
        refine awp_region tabOk fun K hK => ?_
        simp -dsimp -implicitDefEqProofs only [push_cast, ↓trAdd_f, ↓stOf_f, seval]
        try refine hK _ ?_
        repeat (first | refine awp_seq ?_ | refine awp_block ?_ | refine awp_skip ?_ | refine awp_scope ?_ | refine awp_label ?_)
        refine awp_cond (b := false) (by simp -dsimp -implicitDefEqProofs only [push_cast, ↓trAdd_f, ↓stOf_f, seval]) (fun h => ?_) (fun h => ?_)
        · simp at h
        clear h
        refine awp_skip ?_
        try refine hK _ ?_
        repeat (first | refine awp_seq ?_ | refine awp_block ?_ | refine awp_skip ?_ | refine awp_scope ?_ | refine awp_label ?_)
        refine awp_region tabOk fun K hK => ?_
        simp -dsimp -implicitDefEqProofs only [hw1, push_cast, ↓trAdd_f, ↓stOf_f, seval]
        refine hK _ (awp_seq (awp_seq ?_))
        refine awp_region_y (l1 := [_, _, _]) tabOk hRdy fun K hK => ?_
        simp -dsimp -implicitDefEqProofs only [push_cast, ↓trAdd_f, ↓stOf_f, seval]
        refine ⟨by show (31 : Nat) < 35; decide, rfl, { args := [.ptr 0 0, .int .i64 (now + z1.s.bits)], st0 := [(0, .box (encQ z1))], res := .bool true, st1 := [(0, .box (encQL z1 (now + z1.s.bits)))], r := [1] }, hys, ?_, ?_⟩
        · simp only [encQ, encQL]
          simp -dsimp -implicitDefEqProofs only [push_cast, List.mem_append, List.mem_cons, List.mem_singleton, forall_eq_or_imp, forall_eq, ↓trAdd_f, ↓stOf_f, seval]
          all_goals exact rfl
        simp only [encQ, encQL]
        simp -dsimp -implicitDefEqProofs only [push_cast, ↓trAdd_f, ↓stOf_f, seval]
        try refine hK _ ?_
        repeat (first | refine awp_seq ?_ | refine awp_block ?_ | refine awp_skip ?_ | refine awp_scope ?_ | refine awp_label ?_)
        refine awp_cond (b := false) (by simp -dsimp -implicitDefEqProofs only [push_cast, ↓trAdd_f, ↓stOf_f, seval]) (fun h => ?_) (fun h => ?_)
        · simp at h
        clear h
        refine awp_skip ?_
        try refine hK _ ?_
        repeat (first | refine awp_seq ?_ | refine awp_block ?_ | refine awp_skip ?_ | refine awp_scope ?_ | refine awp_label ?_)
        refine awp_region tabOk fun K hK => ?_
        simp -dsimp -implicitDefEqProofs only [push_cast, ↓trAdd_f, ↓stOf_f, seval]
        refine ⟨34, [], [], { args := [.ptr 0 0], st0 := [(0, .box (encQL z1 (now + z1.s.bits)))], res := .tup [], st1 := [(0, .box (encQ (z1.sent (now + z1.s.bits))))], r := [1] }, rfl, hnx, ?_, ?_⟩
        · simp only [encQ, encQL]
          simp -dsimp -implicitDefEqProofs only [push_cast, List.mem_append, List.mem_cons, List.mem_singleton, forall_eq_or_imp, forall_eq, ↓trAdd_f, ↓stOf_f, seval]
          all_goals exact rfl
        simp only [encQ, encQL]
        simp -dsimp -implicitDefEqProofs only [push_cast, ↓trAdd_f, ↓stOf_f, seval]
        refine hK _ ⟨(m, now + z1.s.bits, [z0, z1.sent (now + z1.s.bits), z2, z3, z4]), hP, by show m < m + 1; omega, ?_⟩
        refine le_intro hB [] (by simp) (fun b _ => rfl) rfl ?_ ?_ rfl <;> simp -dsimp -implicitDefEqProofs only [encQ, push_cast, ↓trAdd_f, ↓stOf_f, seval]
      · have hP : PInv l bs until_ m (now + z2.s.bits) [z0, z1, z2.sent (now + z2.s.bits), z3, z4] := hP
        have hok := hy.okq p (show z2 ∈ [z0, z1, z2, z3, z4] by simp)
        have hla := hy.late z2 (by simp)
        have hb1 := hok.s.1
        have hb2 := hok.s.2.1
        have hdd := hok.due
        have hw1 : IntKind.i64.wrap (now + z2.s.bits) = now + z2.s.bits := wrap_i64 (by omega) (by omega)
        have hys := hY ⟨(z2, now + z2.s.bits), hok, by show 0 ≤ now + z2.s.bits; omega, by show now + z2.s.bits ≤ 50000000000; omega⟩
        have hnx := nextL_ok z2 (now + z2.s.bits) hok (by omega) (by omega)
        simp only [oneP, encQ]
        simp -dsimp -implicitDefEqProofs only [push_cast, ↓trAdd_f, ↓stOf_f, seval]
        try refine hK _ ?_
        repeat (first | refine awp_seq ?_ | refine awp_block ?_ | refine awp_skip ?_ | refine awp_scope ?_ | refine awp_label ?_)
        refine awp_region tabOk fun K hK => ?_
        simp -dsimp -implicitDefEqProofs only [push_cast, ↓trAdd_f, ↓stOf_f, seval]
        try refine hK _ ?_
        repeat (first | refine awp_seq ?_ | refine awp_block ?_ | refine awp_skip ?_ | refine awp_scope ?_ | refine awp_label ?_)
        refine awp_cond (b := false) (by simp -dsimp -implicitDefEqProofs only [push_cast, ↓trAdd_f, ↓stOf_f, seval]) (fun h => ?_) (fun h => ?_)
        · simp at h
        clear h
        refine awp_skip ?_
        try refine hK _ ?_
        repeat (first | refine awp_seq ?_ | refine awp_block ?_ | refine awp_skip ?_ | refine awp_scope ?_ | refine awp_label ?_)
        refine awp_region tabOk fun K hK => ?_
        simp -dsimp -implicitDefEqProofs only [push_cast, ↓trAdd_f, ↓stOf_f, seval]
        try refine hK _ ?_
        repeat (first | refine awp_seq ?_ | refine awp_block ?_ | refine awp_skip ?_ | refine awp_scope ?_ | refine awp_label ?_)
        refine awp_cond (b := false) (by simp -dsimp -implicitDefEqProofs only [push_cast, ↓trAdd_f, ↓stOf_f, seval]) (fun h => ?_) (fun h => ?_)
        · simp at h
        clear h
        refine awp_skip ?_
        try refine hK _ ?_
        repeat (first | refine awp_seq ?_ | refine awp_block ?_ | refine awp_skip ?_ | refine awp_scope ?_ | refine awp_label ?_)
        refine awp_region tabOk fun K hK => ?_
        simp -dsimp -implicitDefEqProofs only [hw1, push_cast, ↓trAdd_f, ↓stOf_f, seval]
        refine hK _ (awp_seq (awp_seq ?_))
        refine awp_region_y (l1 := [_, _, _]) tabOk hRdy fun K hK => ?_
        simp -dsimp -implicitDefEqProofs only [push_cast, ↓trAdd_f, ↓stOf_f, seval]
        refine ⟨by show (31 : Nat) < 35; decide, rfl, { args := [.ptr 0 0, .int .i64 (now + z2.s.bits)], st0 := [(0, .box (encQ z2))], res := .bool true, st1 := [(0, .box (encQL z2 (now + z2.s.bits)))], r := [2] }, hys, ?_, ?_⟩
        · simp only [encQ, encQL]
          simp -dsimp -implicitDefEqProofs only [push_cast, List.mem_append, List.mem_cons, List.mem_singleton, forall_eq_or_imp, forall_eq, ↓trAdd_f, ↓stOf_f, seval]
          all_goals exact rfl
        simp only [encQ, encQL]
        simp -dsimp -implicitDefEqProofs only [push_cast, ↓trAdd_f, ↓stOf_f, seval]
        try refine hK _ ?_
        repeat (first | refine awp_seq ?_ | refine awp_block ?_ | refine awp_skip ?_ | refine awp_scope ?_ | refine awp_label ?_)
        refine awp_cond (b := false) (by simp -dsimp -implicitDefEqProofs only [push_cast, ↓trAdd_f, ↓stOf_f, seval]) (fun h => ?_) (fun h => ?_)
        · simp at h
        clear h
        refine awp_skip ?_
        try refine hK _ ?_
        repeat (first | refine awp_seq ?_ | refine awp_block ?_ | refine awp_skip ?_ | refine awp_scope ?_ | refine awp_label ?_)
        refine awp_region tabOk fun K hK => ?_
        simp -dsimp -implicitDefEqProofs only [push_cast, ↓trAdd_f, ↓stOf_f, seval]
        refine ⟨34, [], [], { args := [.ptr 0 0], st0 := [(0, .box (encQL z2 (now + z2.s.bits)))], res := .tup [], st1 := [(0, .box (encQ (z2.sent (now + z2.s.bits))))], r := [2] }, rfl, hnx, ?_, ?_⟩
        · simp only [encQ, encQL]
          simp -dsimp -implicitDefEqProofs only [push_cast, List.mem_append, List.mem_cons, List.mem_singleton, forall_eq_or_imp, forall_eq, ↓trAdd_f, ↓stOf_f, seval]
          all_goals exact rfl
        simp only [encQ, encQL]
        simp -dsimp -implicitDefEqProofs only [push_cast, ↓trAdd_f, ↓stOf_f, seval]
        refine hK _ ⟨(m, now + z2.s.bits, [z0, z1, z2.sent (now + z2.s.bits), z3, z4]), hP, by show m < m + 1; omega, ?_⟩
        refine le_intro hB [] (by simp) (fun b _ => rfl) rfl ?_ ?_ rfl <;> simp -dsimp -implicitDefEqProofs only [encQ, push_cast, ↓trAdd_f, ↓stOf_f, seval]
      · have hP : PInv l bs until_ m (now + z3.s.bits) [z0, z1, z2, z3.sent (now + z3.s.bits), z4] := hP
        have hok := hy.okq p (show z3 ∈ [z0, z1, z2, z3, z4] by simp)
        have hla := hy.late z3 (by simp)
        have hb1 := hok.s.1
        have hb2 := hok.s.2.1
        have hdd := hok.due
        have hw1 : IntKind.i64.wrap (now + z3.s.bits) = now + z3.s.bits := wrap_i64 (by omega) (by omega)
        have hys := hY ⟨(z3, now + z3.s.bits), hok, by show 0 ≤ now + z3.s.bits; omega, by show now + z3.s.bits ≤ 50000000000; omega⟩
        have hnx := nextL_ok z3 (now + z3.s.bits) hok (by omega) (by omega)
        simp only [oneP, encQ]
        simp -dsimp -implicitDefEqProofs only [push_cast, ↓trAdd_f, ↓stOf_f, seval]
        try refine hK _ ?_
        repeat (first | refine awp_seq ?_ | refine awp_block ?_ | refine awp_skip ?_ | refine awp_scope ?_ | refine awp_label ?_)
        refine awp_region tabOk fun K hK => ?_
        simp -dsimp -implicitDefEqProofs only [push_cast, ↓trAdd_f, ↓stOf_f, seval]
        try refine hK _ ?_
        repeat (first | refine awp_seq ?_ | refine awp_block ?_ | refine awp_skip ?_ | refine awp_scope ?_ | refine awp_label ?_)
        refine awp_cond (b := false) (by simp -dsimp -implicitDefEqProofs only [push_cast, ↓trAdd_f, ↓stOf_f, seval]) (fun h => ?_) (fun h => ?_)
        · simp at h
        clear h
        refine awp_skip ?_
        try refine hK _ ?_
        repeat (first | refine awp_seq ?_ | refine awp_block ?_ | refine awp_skip ?_ | refine awp_scope ?_ | refine awp_label ?_)
        refine awp_region tabOk fun K hK => ?_
        simp -dsimp -implicitDefEqProofs only [push_cast, ↓trAdd_f, ↓stOf_f, seval]
        try refine hK _ ?_
        repeat (first | refine awp_seq ?_ | refine awp_block ?_ | refine awp_skip ?_ | refine awp_scope ?_ | refine awp_label ?_)
        refine awp_cond (b := false) (by simp -dsimp -implicitDefEqProofs only [push_cast, ↓trAdd_f, ↓stOf_f, seval]) (fun h => ?_) (fun h => ?_)
        · simp at h
        clear h
        refine awp_skip ?_
        try refine hK _ ?_
        repeat (first | refine awp_seq ?_ | refine awp_block ?_ | refine awp_skip ?_ | refine awp_scope ?_ | refine awp_label ?_)
        refine awp_region tabOk fun K hK => ?_
        simp -dsimp -implicitDefEqProofs only [hw1, push_cast, ↓trAdd_f, ↓stOf_f, seval]
        refine hK _ (awp_seq (awp_seq ?_))
        refine awp_region_y (l1 := [_, _, _]) tabOk hRdy fun K hK => ?_
        simp -dsimp -implicitDefEqProofs only [push_cast, ↓trAdd_f, ↓stOf_f, seval]
        refine ⟨by show (31 : Nat) < 35; decide, rfl, { args := [.ptr 0 0, .int .i64 (now + z3.s.bits)], st0 := [(0, .box (encQ z3))], res := .bool true, st1 := [(0, .box (encQL z3 (now + z3.s.bits)))], r := [3] }, hys, ?_, ?_⟩
        · simp only [encQ, encQL]
          simp -dsimp -implicitDefEqProofs only [push_cast, List.mem_append, List.mem_cons, List.mem_singleton, forall_eq_or_imp, forall_eq, ↓trAdd_f, ↓stOf_f, seval]
          all_goals exact rfl
        simp only [encQ, encQL]
        simp -dsimp -implicitDefEqProofs only [push_cast, ↓trAdd_f, ↓stOf_f, seval]
        try refine hK _ ?_
        repeat (first | refine awp_seq ?_ | refine awp_block ?_ | refine awp_skip ?_ | refine awp_scope ?_ | refine awp_label ?_)
        refine awp_cond (b := false) (by simp -dsimp -implicitDefEqProofs only [push_cast, ↓trAdd_f, ↓stOf_f, seval]) (fun h => ?_) (fun h => ?_)
        · simp at h
        clear h
        refine awp_skip ?_
        try refine hK _ ?_
        repeat (first | refine awp_seq ?_ | refine awp_block ?_ | refine awp_skip ?_ | refine awp_scope ?_ | refine awp_label ?_)
        refine awp_region tabOk fun K hK => ?_
        simp -dsimp -implicitDefEqProofs only [push_cast, ↓trAdd_f, ↓stOf_f, seval]
        refine ⟨34, [], [], { args := [.ptr 0 0], st0 := [(0, .box (encQL z3 (now + z3.s.bits)))], res := .tup [], st1 := [(0, .box (encQ (z3.sent (now + z3.s.bits))))], r := [3] }, rfl, hnx, ?_, ?_⟩
        · simp only [encQ, encQL]
          simp -dsimp -implicitDefEqProofs only [push_cast, List.mem_append, List.mem_cons, List.mem_singleton, forall_eq_or_imp, forall_eq, ↓trAdd_f, ↓stOf_f, seval]
          all_goals exact rfl
        simp only [encQ, encQL]
        simp -dsimp -implicitDefEqProofs only [push_cast, ↓trAdd_f, ↓stOf_f, seval]
        refine hK _ ⟨(m, now + z3.s.bits, [z0, z1, z2, z3.sent (now + z3.s.bits), z4]), hP, by show m < m + 1; omega, ?_⟩
        refine le_intro hB [] (by simp) (fun b _ => rfl) rfl ?_ ?_ rfl <;> simp -dsimp -implicitDefEqProofs only [encQ, push_cast, ↓trAdd_f, ↓stOf_f, seval]
      · have hP : PInv l bs until_ m (now + z4.s.bits) [z0, z1, z2, z3, z4.sent (now + z4.s.bits)] := hP
        have hok := hy.okq p (show z4 ∈ [z0, z1, z2, z3, z4] by simp)
        have hla := hy.late z4 (by simp)
        have hb1 := hok.s.1
        have hb2 := hok.s.2.1
        have hdd := hok.due
        have hw1 : IntKind.i64.wrap (now + z4.s.bits) = now + z4.s.bits := wrap_i64 (by omega) (by omega)
        have hys := hY ⟨(z4, now + z4.s.bits), hok, by show 0 ≤ now + z4.s.bits; omega, by show now + z4.s.bits ≤ 50000000000; omega⟩
        have hnx := nextL_ok z4 (now + z4.s.bits) hok (by omega) (by omega)
        simp only [oneP, encQ]
        simp -dsimp -implicitDefEqProofs only [push_cast, ↓trAdd_f, ↓stOf_f, seval]
        try refine hK _ ?_
        repeat (first | refine awp_seq ?_ | refine awp_block ?_ | refine awp_skip ?_ | refine awp_scope ?_ | refine awp_label ?_)
        refine awp_region tabOk fun K hK => ?_
        simp -dsimp -implicitDefEqProofs only [push_cast, ↓trAdd_f, ↓stOf_f, seval]
        try refine hK _ ?_
        repeat (first | refine awp_seq ?_ | refine awp_block ?_ | refine awp_skip ?_ | refine awp_scope ?_ | refine awp_label ?_)
        refine awp_cond (b := false) (by simp -dsimp -implicitDefEqProofs only [push_cast, ↓trAdd_f, ↓stOf_f, seval]) (fun h => ?_) (fun h => ?_)
        · simp at h
        clear h
        refine awp_skip ?_
        try refine hK _ ?_
        repeat (first | refine awp_seq ?_ | refine awp_block ?_ | refine awp_skip ?_ | refine awp_scope ?_ | refine awp_label ?_)
        refine awp_region tabOk fun K hK => ?_
        simp -dsimp -implicitDefEqProofs only [push_cast, ↓trAdd_f, ↓stOf_f, seval]
        try refine hK _ ?_
        repeat (first | refine awp_seq ?_ | refine awp_block ?_ | refine awp_skip ?_ | refine awp_scope ?_ | refine awp_label ?_)
        refine awp_cond (b := false) (by simp -dsimp -implicitDefEqProofs only [push_cast, ↓trAdd_f, ↓stOf_f, seval]) (fun h => ?_) (fun h => ?_)
        · simp at h
        clear h
        refine awp_skip ?_
        try refine hK _ ?_
        repeat (first | refine awp_seq ?_ | refine awp_block ?_ | refine awp_skip ?_ | refine awp_scope ?_ | refine awp_label ?_)
        refine awp_region tabOk fun K hK => ?_
        simp -dsimp -implicitDefEqProofs only [hw1, push_cast, ↓trAdd_f, ↓stOf_f, seval]
        refine hK _ (awp_seq (awp_seq ?_))
        refine awp_region_y (l1 := [_, _, _]) tabOk hRdy fun K hK => ?_
        simp -dsimp -implicitDefEqProofs only [push_cast, ↓trAdd_f, ↓stOf_f, seval]
        refine ⟨by show (31 : Nat) < 35; decide, rfl, { args := [.ptr 0 0, .int .i64 (now + z4.s.bits)], st0 := [(0, .box (encQ z4))], res := .bool true, st1 := [(0, .box (encQL z4 (now + z4.s.bits)))], r := [4] }, hys, ?_, ?_⟩
        · simp only [encQ, encQL]
          simp -dsimp -implicitDefEqProofs only [push_cast, List.mem_append, List.mem_cons, List.mem_singleton, forall_eq_or_imp, forall_eq, ↓trAdd_f, ↓stOf_f, seval]
          all_goals exact rfl
        simp only [encQ, encQL]
        simp -dsimp -implicitDefEqProofs only [push_cast, ↓trAdd_f, ↓stOf_f, seval]
        try refine hK _ ?_
        repeat (first | refine awp_seq ?_ | refine awp_block ?_ | refine awp_skip ?_ | refine awp_scope ?_ | refine awp_label ?_)
        refine awp_cond (b := false) (by simp -dsimp -implicitDefEqProofs only [push_cast, ↓trAdd_f, ↓stOf_f, seval]) (fun h => ?_) (fun h => ?_)
        · simp at h
        clear h
        refine awp_skip ?_
        try refine hK _ ?_
        repeat (first | refine awp_seq ?_ | refine awp_block ?_ | refine awp_skip ?_ | refine awp_scope ?_ | refine awp_label ?_)
        refine awp_region tabOk fun K hK => ?_
        simp -dsimp -implicitDefEqProofs only [push_cast, ↓trAdd_f, ↓stOf_f, seval]
        refine ⟨34, [], [], { args := [.ptr 0 0], st0 := [(0, .box (encQL z4 (now + z4.s.bits)))], res := .tup [], st1 := [(0, .box (encQ (z4.sent (now + z4.s.bits))))], r := [4] }, rfl, hnx, ?_, ?_⟩
        · simp only [encQ, encQL]
          simp -dsimp -implicitDefEqProofs only [push_cast, List.mem_append, List.mem_cons, List.mem_singleton, forall_eq_or_imp, forall_eq, ↓trAdd_f, ↓stOf_f, seval]
          all_goals exact rfl
        simp only [encQ, encQL]
        simp -dsimp -implicitDefEqProofs only [push_cast, ↓trAdd_f, ↓stOf_f, seval]
        refine hK _ ⟨(m, now + z4.s.bits, [z0, z1, z2, z3, z4.sent (now + z4.s.bits)]), hP, by show m < m + 1; omega, ?_⟩
        refine le_intro hB [] (by simp) (fun b _ => rfl) rfl ?_ ?_ rfl <;> simp -dsimp -implicitDefEqProofs only [encQ, push_cast, ↓trAdd_f, ↓stOf_f, seval]

end Go.Proofs.YtahkpghgjjlgdaaFw
