import Derived.Test.YtahkpghgjjlgdaaJ2
/-
  Walks: choose, of 1, 3, 4, 5 queues.
-/
namespace Go.Proofs.YtahkpghgjjlgdaaFw
open Go Go.Proofs
set_option maxRecDepth 100000
set_option maxHeartbeats 16000000
set_option linter.unusedVariables false
set_option linter.unusedSimpArgs false

theorem choose1_ok (x0 : QS) (now until_ : Int) : FnS Try.prog 33 [.own 1 1 0 1, .int .i64 now, .int .i64 until_] [(0, .box (encQ x0)), (1, .row 1 [[.ptr 0 0]])]
    (.tup [oneP (scan now until_ [x0]).2.1, .int .i64 (scan now until_ [x0]).2.2, .bool (scan now until_ [x0]).1]) [(0, .box (encQ x0)), (1, .row 1 [[.ptr 0 0]])] := by
  refine fn_walkP tabOk Try.func33 rfl (by decide +kernel) Try.ntmps33 Try.results33 (by simp) fun B hB => ?_
  try simp only [encQ]
  try refine hK _ ?_
  repeat (first | refine awp_seq ?_ | refine awp_block ?_ | refine awp_skip ?_ | refine awp_scope ?_ | refine awp_label ?_)
  refine awp_region tabOk fun K hK => ?_
  simp -dsimp -implicitDefEqProofs only [push_cast, ↓trAdd_f, ↓stOf_f, seval]
  try refine hK _ ?_
  repeat (first | refine awp_seq ?_ | refine awp_block ?_ | refine awp_skip ?_ | refine awp_scope ?_ | refine awp_label ?_)
  refine awp_region tabOk fun K hK => ?_
  simp -dsimp -implicitDefEqProofs only [push_cast, ↓trAdd_f, ↓stOf_f, seval]
  refine hK _ (awp_block ?_)
  refine awp_for (fun k : Nat => { sl := [(0, .own 1 1 0 1), (1, .int .i64 now), (2, .int .i64 until_), (6, oneP (scanN now until_ [x0] k).2.1), (7, .int .i64 (scanN now until_ [x0] k).2.2), (8, .bool (scanN now until_ [x0] k).1), (11, .own 1 1 0 1), (12, .int .i64 1), (13, .int .i64 k)], st := [(0, .box (encQ x0)), (1, .row 1 [[.ptr 0 0]])], nx := 40, n := 52 }) (fun k => k ≤ 1) (fun k => 1 - k) 0 (Nat.zero_le _) ?_ fun k hk => ?_
  · have e0 : scanN now until_ [x0] 0 = (false, none, 0) := rfl
    refine le_intro hB [] (by simp) (fun b _ => rfl) rfl ?_ ?_ rfl <;> simp -dsimp -implicitDefEqProofs only [e0, oneP, encQ, push_cast, ↓trAdd_f, ↓stOf_f, seval]
  have hsc := scanN_spec now until_ [x0] k
  have hsucc : scanN now until_ [x0] (k + 1) = scanStep now until_ k (([x0] : List QS).getD k zeroQ) (scanN now until_ [x0] k) := rfl
  have hdone : k = 1 → scanN now until_ [x0] k = scan now until_ [x0] := fun e => by subst e; rfl
  generalize scanN now until_ [x0] k = r at *
  obtain ⟨left, one, soon⟩ := r
  try simp only at hsc hsucc hdone
  have hone : ∀ j, one = some j → j < k := fun j hj => (hsc.one j hj).1
  try simp only [encQ]
  try refine hK _ ?_
  repeat (first | refine awp_seq ?_ | refine awp_block ?_ | refine awp_skip ?_ | refine awp_scope ?_ | refine awp_label ?_)
  refine awp_region tabOk fun K hK => ?_
  simp -dsimp -implicitDefEqProofs only [push_cast, ↓trAdd_f, ↓stOf_f, seval]
  try refine hK _ ?_
  repeat (first | refine awp_seq ?_ | refine awp_block ?_ | refine awp_skip ?_ | refine awp_scope ?_ | refine awp_label ?_)
  refine awp_cond (b := decide ((k : Int) < 1)) (by simp -dsimp -implicitDefEqProofs only [push_cast, ↓trAdd_f, ↓stOf_f, seval]) (fun h => ?_) (fun h => ?_)
  · have hlt : k < 1 := by simp at h; omega
    clear h hdone hsc
    have : k = 0 := by omega
    rcases this with rfl
    · have hx : ([x0] : List QS).getD 0 zeroQ = x0 := rfl
      rw [hx] at hsucc
      obtain ⟨w0, hw0⟩ : ∃ w, w = oneP one := ⟨_, rfl⟩
      obtain ⟨z0r, z0o, z0w⟩ := oneP_facts hone hw0 (by decide : 0 ≤ 40)
      try refine hK _ ?_
      repeat (first | refine awp_seq ?_ | refine awp_block ?_ | refine awp_skip ?_ | refine awp_scope ?_ | refine awp_label ?_)
      refine awp_region tabOk fun K hK => ?_
      simp -dsimp -implicitDefEqProofs only [tn1, tn2, tn3, tn4, push_cast, ↓trAdd_f, ↓stOf_f, seval]
      try refine hK _ ?_
      repeat (first | refine awp_seq ?_ | refine awp_block ?_ | refine awp_skip ?_ | refine awp_scope ?_ | refine awp_label ?_)
      refine awp_region tabOk fun K hK => ?_
      simp -dsimp -implicitDefEqProofs only [push_cast, ↓trAdd_f, ↓stOf_f, seval]
      try refine hK _ ?_
      repeat (first | refine awp_seq ?_ | refine awp_block ?_ | refine awp_skip ?_ | refine awp_scope ?_ | refine awp_label ?_)
      refine awp_cond (b := decide (until_ ≤ x0.due)) (by simp -dsimp -implicitDefEqProofs only [push_cast, ↓trAdd_f, ↓stOf_f, seval]) (fun h => ?_) (fun h => ?_)
      · have hst : scanStep now until_ 0 x0 (left, one, soon) = (left, one, soon) := by unfold scanStep; rw [if_pos (by simpa using h)]
        rw [hst] at hsucc
        refine awp_exit rfl ?_
        try refine hK _ ?_
        repeat (first | refine awp_seq ?_ | refine awp_block ?_ | refine awp_skip ?_ | refine awp_scope ?_ | refine awp_label ?_)
        refine awp_region tabOk fun K hK => ?_
        simp -dsimp -implicitDefEqProofs only [push_cast, ↓trAdd_f, ↓stOf_f, seval]
        try simp (disch := omega) only [wrap_i64, wrap_u8, wrap_u16, wrap_u32]
        refine hK _ ⟨1, by decide, by decide, ?_⟩
        rw [hsucc]
        simp only [← hw0]
        refine le_intro hB [] (by simp) (fun b _ => rfl) rfl ?_ ?_ rfl <;> simp -dsimp -implicitDefEqProofs only [z0r, z0o, encQ, push_cast, ↓trAdd_f, ↓stOf_f, seval]
        all_goals exact of_eq_true z0w
      · have hst : scanStep now until_ 0 x0 (left, one, soon) = (true, if one = none ∧ x0.wts ≤ now then some 0 else one, if left = false ∨ x0.wts < soon then x0.wts else soon) := by unfold scanStep; rw [if_neg (by simpa using h)]
        rw [hst] at hsucc
        clear h hst
        obtain ⟨z, hz⟩ : ∃ z, z = oneP (if one = none ∧ x0.wts ≤ now then some 0 else one) := ⟨_, rfl⟩
        obtain ⟨y, hy⟩ : ∃ y, y = if left = false ∨ x0.wts < soon then x0.wts else soon := ⟨_, rfl⟩
        have hone' : ∀ j, (if one = none ∧ x0.wts ≤ now then some 0 else one) = some j → j < 1 := fun j hj => by
          split at hj
          · cases hj; decide
          · have := hone j hj; omega
        obtain ⟨zr, zo, zw⟩ := oneP_facts hone' hz (by decide : 1 ≤ 40)
        rw [← hw0]
        refine awp_skip ?_
        refine awp_seq ?_
        refine awp_join { sl := [(0, .own 1 1 0 1), (1, .int .i64 now), (2, .int .i64 until_), (6, w0), (7, .int .i64 y), (8, .bool left), (10, .ptr 0 0), (11, .own 1 1 0 1), (12, .int .i64 1), (13, .int .i64 0)], st := [(0, .box (encQ x0)), (1, .row 1 [[.ptr 0 0]])], nx := 40, n := 52 } ?_ (fun _ hl h => awp_le hl h) ?_
        · cases left with
          | false =>
            have e : y = x0.wts := by rw [hy, if_pos (.inl rfl)]
            try refine hK _ ?_
            repeat (first | refine awp_seq ?_ | refine awp_block ?_ | refine awp_skip ?_ | refine awp_scope ?_ | refine awp_label ?_)
            refine awp_region tabOk fun K hK => ?_
            simp -dsimp -implicitDefEqProofs only [push_cast, ↓trAdd_f, ↓stOf_f, seval]
            try refine hK _ ?_
            repeat (first | refine awp_seq ?_ | refine awp_block ?_ | refine awp_skip ?_ | refine awp_scope ?_ | refine awp_label ?_)
            refine awp_cond (b := true) (by simp -dsimp -implicitDefEqProofs only [push_cast, ↓trAdd_f, ↓stOf_f, seval]) (fun h => ?_) (fun h => ?_)
            · try refine hK _ ?_
              repeat (first | refine awp_seq ?_ | refine awp_block ?_ | refine awp_skip ?_ | refine awp_scope ?_ | refine awp_label ?_)
              refine awp_region tabOk fun K hK => ?_
              simp -dsimp -implicitDefEqProofs only [push_cast, ↓trAdd_f, ↓stOf_f, seval]
              refine hK _ ?_
              try simp only [encQ]
              refine le_intro hB [] (by simp) (fun b _ => rfl) rfl ?_ ?_ rfl <;> simp -dsimp -implicitDefEqProofs only [z0r, z0o, e, push_cast, ↓trAdd_f, ↓stOf_f, seval]
              all_goals exact of_eq_true z0w
            · simp at h
          | true =>
            try refine hK _ ?_
            repeat (first | refine awp_seq ?_ | refine awp_block ?_ | refine awp_skip ?_ | refine awp_scope ?_ | refine awp_label ?_)
            refine awp_region tabOk fun K hK => ?_
            simp -dsimp -implicitDefEqProofs only [push_cast, ↓trAdd_f, ↓stOf_f, seval]
            try refine hK _ ?_
            repeat (first | refine awp_seq ?_ | refine awp_block ?_ | refine awp_skip ?_ | refine awp_scope ?_ | refine awp_label ?_)
            refine awp_cond (b := decide (x0.wts < soon)) (by simp -dsimp -implicitDefEqProofs only [push_cast, ↓trAdd_f, ↓stOf_f, seval]) (fun h => ?_) (fun h => ?_)
            · have e : y = x0.wts := by rw [hy, if_pos (.inr (by simpa using h))]
              try refine hK _ ?_
              repeat (first | refine awp_seq ?_ | refine awp_block ?_ | refine awp_skip ?_ | refine awp_scope ?_ | refine awp_label ?_)
              refine awp_region tabOk fun K hK => ?_
              simp -dsimp -implicitDefEqProofs only [push_cast, ↓trAdd_f, ↓stOf_f, seval]
              refine hK _ ?_
              try simp only [encQ]
              refine le_intro hB [] (by simp) (fun b _ => rfl) rfl ?_ ?_ rfl <;> simp -dsimp -implicitDefEqProofs only [z0r, z0o, e, push_cast, ↓trAdd_f, ↓stOf_f, seval]
              all_goals exact of_eq_true z0w
            · have e : y = soon := by rw [hy, if_neg (by simp at h; simp; omega)]
              refine awp_skip ?_
              try simp only [encQ]
              refine le_intro hB [] (by simp) (fun b _ => rfl) rfl ?_ ?_ rfl <;> simp -dsimp -implicitDefEqProofs only [z0r, z0o, e, push_cast, ↓trAdd_f, ↓stOf_f, seval]
              all_goals exact of_eq_true z0w
        try simp only [encQ]
        try refine hK _ ?_
        repeat (first | refine awp_seq ?_ | refine awp_block ?_ | refine awp_skip ?_ | refine awp_scope ?_ | refine awp_label ?_)
        refine awp_region tabOk fun K hK => ?_
        simp -dsimp -implicitDefEqProofs only [push_cast, ↓trAdd_f, ↓stOf_f, seval]
        refine hK _ ?_
        refine awp_join { sl := [(0, .own 1 1 0 1), (1, .int .i64 now), (2, .int .i64 until_), (6, z), (7, .int .i64 y), (8, .bool true), (11, .own 1 1 0 1), (12, .int .i64 1), (13, .int .i64 0)], st := [(0, .box (encQ x0)), (1, .row 1 [[.ptr 0 0]])], nx := 40, n := 52 } ?_ (fun _ hl h => awp_le hl h) ?_
        · cases one with
          | none =>
            have e0 : w0 = .nilp := hw0
            subst e0
            try refine hK _ ?_
            repeat (first | refine awp_seq ?_ | refine awp_block ?_ | refine awp_skip ?_ | refine awp_scope ?_ | refine awp_label ?_)
            refine awp_region tabOk fun K hK => ?_
            simp -dsimp -implicitDefEqProofs only [push_cast, ↓trAdd_f, ↓stOf_f, seval]
            try refine hK _ ?_
            repeat (first | refine awp_seq ?_ | refine awp_block ?_ | refine awp_skip ?_ | refine awp_scope ?_ | refine awp_label ?_)
            refine awp_cond (b := decide (x0.wts ≤ now)) (by simp -dsimp -implicitDefEqProofs only [push_cast, ↓trAdd_f, ↓stOf_f, seval]) (fun h => ?_) (fun h => ?_)
            · have e : z = .ptr 0 0 := by rw [hz, if_pos ⟨rfl, by simpa using h⟩]; rfl
              try refine hK _ ?_
              repeat (first | refine awp_seq ?_ | refine awp_block ?_ | refine awp_skip ?_ | refine awp_scope ?_ | refine awp_label ?_)
              refine awp_region tabOk fun K hK => ?_
              simp -dsimp -implicitDefEqProofs only [push_cast, ↓trAdd_f, ↓stOf_f, seval]
              refine hK _ ?_
              try simp only [encQ]
              refine le_intro hB [] (by simp) (fun b _ => rfl) rfl ?_ ?_ rfl <;> simp -dsimp -implicitDefEqProofs only [e, push_cast, ↓trAdd_f, ↓stOf_f, seval]
            · have e : z = .nilp := by rw [hz, if_neg (by simp at h; simp; omega)]; rfl
              refine awp_skip ?_
              try simp only [encQ]
              refine le_intro hB [] (by simp) (fun b _ => rfl) rfl ?_ ?_ rfl <;> simp -dsimp -implicitDefEqProofs only [e, push_cast, ↓trAdd_f, ↓stOf_f, seval]
          | some j =>
            have e0 : w0 = .ptr j 0 := hw0
            have e : z = .ptr j 0 := by rw [hz, if_neg (by simp)]; rfl
            have hj := hone j rfl
            have hj40 : j < 40 := by omega
            subst e0
            try refine hK _ ?_
            repeat (first | refine awp_seq ?_ | refine awp_block ?_ | refine awp_skip ?_ | refine awp_scope ?_ | refine awp_label ?_)
            refine awp_region tabOk fun K hK => ?_
            simp -dsimp -implicitDefEqProofs only [push_cast, ↓trAdd_f, ↓stOf_f, seval]
            try refine hK _ ?_
            repeat (first | refine awp_seq ?_ | refine awp_block ?_ | refine awp_skip ?_ | refine awp_scope ?_ | refine awp_label ?_)
            refine awp_cond (b := false) (by simp -dsimp -implicitDefEqProofs only [push_cast, ↓trAdd_f, ↓stOf_f, seval]) (fun h => ?_) (fun h => ?_)
            · simp at h
            refine awp_skip ?_
            try simp only [encQ]
            refine le_intro hB [] (by simp) (fun b _ => rfl) rfl ?_ ?_ rfl <;> simp -dsimp -implicitDefEqProofs only [e, hj40, renG, lk, push_cast, ↓trAdd_f, ↓stOf_f, seval]
        try refine hK _ ?_
        repeat (first | refine awp_seq ?_ | refine awp_block ?_ | refine awp_skip ?_ | refine awp_scope ?_ | refine awp_label ?_)
        refine awp_region tabOk fun K hK => ?_
        simp -dsimp -implicitDefEqProofs only [push_cast, ↓trAdd_f, ↓stOf_f, seval]
        try simp (disch := omega) only [wrap_i64, wrap_u8, wrap_u16, wrap_u32]
        refine hK _ ⟨1, by decide, by decide, ?_⟩
        rw [hsucc]
        simp only [← hz, ← hy, encQ]
        refine le_intro hB [] (by simp) (fun b _ => rfl) rfl ?_ ?_ rfl <;> simp -dsimp -implicitDefEqProofs only [zr, zo, push_cast, ↓trAdd_f, ↓stOf_f, seval]
        all_goals exact of_eq_true zw
  · have he : k = 1 := by simp at h; omega
    have hd := hdone he
    subst he
    rw [← hd]
    obtain ⟨w0, hw0⟩ : ∃ w, w = oneP one := ⟨_, rfl⟩
    obtain ⟨z0r, z0o, z0w⟩ := oneP_facts hone hw0 (by decide : 1 ≤ 2)
    simp only [← hw0]
    refine awp_exit rfl ?_
    try refine hK _ ?_
    repeat (first | refine awp_seq ?_ | refine awp_block ?_ | refine awp_skip ?_ | refine awp_scope ?_ | refine awp_label ?_)
    refine awp_region tabOk fun K hK => ?_
    simp -dsimp -implicitDefEqProofs only [push_cast, ↓trAdd_f, ↓stOf_f, seval]
    refine hK _ (awp_ret ?_)
    simp -dsimp -implicitDefEqProofs only [z0o, push_cast, List.mem_append, List.mem_cons, List.mem_singleton, forall_eq_or_imp, forall_eq, ↓trAdd_f, ↓stOf_f, seval]


theorem choose3_ok (x0 x1 x2 : QS) (now until_ : Int) : FnS Try.prog 33 [.own 3 1 0 3, .int .i64 now, .int .i64 until_] [(0, .box (encQ x0)), (1, .box (encQ x1)), (2, .box (encQ x2)), (3, .row 1 [[.ptr 0 0], [.ptr 1 0], [.ptr 2 0]])]
    (.tup [oneP (scan now until_ [x0, x1, x2]).2.1, .int .i64 (scan now until_ [x0, x1, x2]).2.2, .bool (scan now until_ [x0, x1, x2]).1]) [(0, .box (encQ x0)), (1, .box (encQ x1)), (2, .box (encQ x2)), (3, .row 1 [[.ptr 0 0], [.ptr 1 0], [.ptr 2 0]])] := by
  refine fn_walkP tabOk Try.func33 rfl (by decide +kernel) Try.ntmps33 Try.results33 (by simp) fun B hB => ?_
  try simp only [encQ]
  try refine hK _ ?_
  repeat (first | refine awp_seq ?_ | refine awp_block ?_ | refine awp_skip ?_ | refine awp_scope ?_ | refine awp_label ?_)
  refine awp_region tabOk fun K hK => ?_
  simp -dsimp -implicitDefEqProofs only [push_cast, ↓trAdd_f, ↓stOf_f, seval]
  try refine hK _ ?_
  repeat (first | refine awp_seq ?_ | refine awp_block ?_ | refine awp_skip ?_ | refine awp_scope ?_ | refine awp_label ?_)
  refine awp_region tabOk fun K hK => ?_
  simp -dsimp -implicitDefEqProofs only [push_cast, ↓trAdd_f, ↓stOf_f, seval]
  refine hK _ (awp_block ?_)
  refine awp_for (fun k : Nat => { sl := [(0, .own 3 1 0 3), (1, .int .i64 now), (2, .int .i64 until_), (6, oneP (scanN now until_ [x0, x1, x2] k).2.1), (7, .int .i64 (scanN now until_ [x0, x1, x2] k).2.2), (8, .bool (scanN now until_ [x0, x1, x2] k).1), (11, .own 3 1 0 3), (12, .int .i64 3), (13, .int .i64 k)], st := [(0, .box (encQ x0)), (1, .box (encQ x1)), (2, .box (encQ x2)), (3, .row 1 [[.ptr 0 0], [.ptr 1 0], [.ptr 2 0]])], nx := 40, n := 52 }) (fun k => k ≤ 3) (fun k => 3 - k) 0 (Nat.zero_le _) ?_ fun k hk => ?_
  · have e0 : scanN now until_ [x0, x1, x2] 0 = (false, none, 0) := rfl
    refine le_intro hB [] (by simp) (fun b _ => rfl) rfl ?_ ?_ rfl <;> simp -dsimp -implicitDefEqProofs only [e0, oneP, encQ, push_cast, ↓trAdd_f, ↓stOf_f, seval]
  have hsc := scanN_spec now until_ [x0, x1, x2] k
  have hsucc : scanN now until_ [x0, x1, x2] (k + 1) = scanStep now until_ k (([x0, x1, x2] : List QS).getD k zeroQ) (scanN now until_ [x0, x1, x2] k) := rfl
  have hdone : k = 3 → scanN now until_ [x0, x1, x2] k = scan now until_ [x0, x1, x2] := fun e => by subst e; rfl
  generalize scanN now until_ [x0, x1, x2] k = r at *
  obtain ⟨left, one, soon⟩ := r
  try simp only at hsc hsucc hdone
  have hone : ∀ j, one = some j → j < k := fun j hj => (hsc.one j hj).1
  try simp only [encQ]
  try refine hK _ ?_
  repeat (first | refine awp_seq ?_ | refine awp_block ?_ | refine awp_skip ?_ | refine awp_scope ?_ | refine awp_label ?_)
  refine awp_region tabOk fun K hK => ?_
  simp -dsimp -implicitDefEqProofs only [push_cast, ↓trAdd_f, ↓stOf_f, seval]
  try refine hK _ ?_
  repeat (first | refine awp_seq ?_ | refine awp_block ?_ | refine awp_skip ?_ | refine awp_scope ?_ | refine awp_label ?_)
  refine awp_cond (b := decide ((k : Int) < 3)) (by simp -dsimp -implicitDefEqProofs only [push_cast, ↓trAdd_f, ↓stOf_f, seval]) (fun h => ?_) (fun h => ?_)
  · have hlt : k < 3 := by simp at h; omega
    clear h hdone hsc
    have : k = 0 ∨ k = 1 ∨ k = 2 := by omega
    rcases this with rfl | rfl | rfl
    · have hx : ([x0, x1, x2] : List QS).getD 0 zeroQ = x0 := rfl
      rw [hx] at hsucc
      obtain ⟨w0, hw0⟩ : ∃ w, w = oneP one := ⟨_, rfl⟩
      obtain ⟨z0r, z0o, z0w⟩ := oneP_facts hone hw0 (by decide : 0 ≤ 40)
      try refine hK _ ?_
      repeat (first | refine awp_seq ?_ | refine awp_block ?_ | refine awp_skip ?_ | refine awp_scope ?_ | refine awp_label ?_)
      refine awp_region tabOk fun K hK => ?_
      simp -dsimp -implicitDefEqProofs only [tn1, tn2, tn3, tn4, push_cast, ↓trAdd_f, ↓stOf_f, seval]
      try refine hK _ ?_
      repeat (first | refine awp_seq ?_ | refine awp_block ?_ | refine awp_skip ?_ | refine awp_scope ?_ | refine awp_label ?_)
      refine awp_region tabOk fun K hK => ?_
      simp -dsimp -implicitDefEqProofs only [push_cast, ↓trAdd_f, ↓stOf_f, seval]
      try refine hK _ ?_
      repeat (first | refine awp_seq ?_ | refine awp_block ?_ | refine awp_skip ?_ | refine awp_scope ?_ | refine awp_label ?_)
      refine awp_cond (b := decide (until_ ≤ x0.due)) (by simp -dsimp -implicitDefEqProofs only [push_cast, ↓trAdd_f, ↓stOf_f, seval]) (fun h => ?_) (fun h => ?_)
      · have hst : scanStep now until_ 0 x0 (left, one, soon) = (left, one, soon) := by unfold scanStep; rw [if_pos (by simpa using h)]
        rw [hst] at hsucc
        refine awp_exit rfl ?_
        try refine hK _ ?_
        repeat (first | refine awp_seq ?_ | refine awp_block ?_ | refine awp_skip ?_ | refine awp_scope ?_ | refine awp_label ?_)
        refine awp_region tabOk fun K hK => ?_
        simp -dsimp -implicitDefEqProofs only [push_cast, ↓trAdd_f, ↓stOf_f, seval]
        try simp (disch := omega) only [wrap_i64, wrap_u8, wrap_u16, wrap_u32]
        refine hK _ ⟨1, by decide, by decide, ?_⟩
        rw [hsucc]
        simp only [← hw0]
        refine le_intro hB [] (by simp) (fun b _ => rfl) rfl ?_ ?_ rfl <;> simp -dsimp -implicitDefEqProofs only [z0r, z0o, encQ, push_cast, ↓trAdd_f, ↓stOf_f, seval]
        all_goals exact of_eq_true z0w
      · have hst : scanStep now until_ 0 x0 (left, one, soon) = (true, if one = none ∧ x0.wts ≤ now then some 0 else one, if left = false ∨ x0.wts < soon then x0.wts else soon) := by unfold scanStep; rw [if_neg (by simpa using h)]
        rw [hst] at hsucc
        clear h hst
        obtain ⟨z, hz⟩ : ∃ z, z = oneP (if one = none ∧ x0.wts ≤ now then some 0 else one) := ⟨_, rfl⟩
        obtain ⟨y, hy⟩ : ∃ y, y = if left = false ∨ x0.wts < soon then x0.wts else soon := ⟨_, rfl⟩
        have hone' : ∀ j, (if one = none ∧ x0.wts ≤ now then some 0 else one) = some j → j < 1 := fun j hj => by
          split at hj
          · cases hj; decide
          · have := hone j hj; omega
        obtain ⟨zr, zo, zw⟩ := oneP_facts hone' hz (by decide : 1 ≤ 40)
        rw [← hw0]
        refine awp_skip ?_
        refine awp_seq ?_
        refine awp_join { sl := [(0, .own 3 1 0 3), (1, .int .i64 now), (2, .int .i64 until_), (6, w0), (7, .int .i64 y), (8, .bool left), (10, .ptr 0 0), (11, .own 3 1 0 3), (12, .int .i64 3), (13, .int .i64 0)], st := [(0, .box (encQ x0)), (1, .box (encQ x1)), (2, .box (encQ x2)), (3, .row 1 [[.ptr 0 0], [.ptr 1 0], [.ptr 2 0]])], nx := 40, n := 52 } ?_ (fun _ hl h => awp_le hl h) ?_
        · cases left with
          | false =>
            have e : y = x0.wts := by rw [hy, if_pos (.inl rfl)]
            try refine hK _ ?_
            repeat (first | refine awp_seq ?_ | refine awp_block ?_ | refine awp_skip ?_ | refine awp_scope ?_ | refine awp_label ?_)
            refine awp_region tabOk fun K hK => ?_
            simp -dsimp -implicitDefEqProofs only [push_cast, ↓trAdd_f, ↓stOf_f, seval]
            try refine hK _ ?_
            repeat (first | refine awp_seq ?_ | refine awp_block ?_ | refine awp_skip ?_ | refine awp_scope ?_ | refine awp_label ?_)
            refine awp_cond (b := true) (by simp -dsimp -implicitDefEqProofs only [push_cast, ↓trAdd_f, ↓stOf_f, seval]) (fun h => ?_) (fun h => ?_)
            · try refine hK _ ?_
              repeat (first | refine awp_seq ?_ | refine awp_block ?_ | refine awp_skip ?_ | refine awp_scope ?_ | refine awp_label ?_)
              refine awp_region tabOk fun K hK => ?_
              simp -dsimp -implicitDefEqProofs only [push_cast, ↓trAdd_f, ↓stOf_f, seval]
              refine hK _ ?_
              try simp only [encQ]
              refine le_intro hB [] (by simp) (fun b _ => rfl) rfl ?_ ?_ rfl <;> simp -dsimp -implicitDefEqProofs only [z0r, z0o, e, push_cast, ↓trAdd_f, ↓stOf_f, seval]
              all_goals exact of_eq_true z0w
            · simp at h
          | true =>
            try refine hK _ ?_
            repeat (first | refine awp_seq ?_ | refine awp_block ?_ | refine awp_skip ?_ | refine awp_scope ?_ | refine awp_label ?_)
            refine awp_region tabOk fun K hK => ?_
            simp -dsimp -implicitDefEqProofs only [push_cast, ↓trAdd_f, ↓stOf_f, seval]
            try refine hK _ ?_
            repeat (first | refine awp_seq ?_ | refine awp_block ?_ | refine awp_skip ?_ | refine awp_scope ?_ | refine awp_label ?_)
            refine awp_cond (b := decide (x0.wts < soon)) (by simp -dsimp -implicitDefEqProofs only [push_cast, ↓trAdd_f, ↓stOf_f, seval]) (fun h => ?_) (fun h => ?_)
            · have e : y = x0.wts := by rw [hy, if_pos (.inr (by simpa using h))]
              try refine hK _ ?_
              repeat (first | refine awp_seq ?_ | refine awp_block ?_ | refine awp_skip ?_ | refine awp_scope ?_ | refine awp_label ?_)
              refine awp_region tabOk fun K hK => ?_
              simp -dsimp -implicitDefEqProofs only [push_cast, ↓trAdd_f, ↓stOf_f, seval]
              refine hK _ ?_
              try simp only [encQ]
              refine le_intro hB [] (by simp) (fun b _ => rfl) rfl ?_ ?_ rfl <;> simp -dsimp -implicitDefEqProofs only [z0r, z0o, e, push_cast, ↓trAdd_f, ↓stOf_f, seval]
              all_goals exact of_eq_true z0w
            · have e : y = soon := by rw [hy, if_neg (by simp at h; simp; omega)]
              refine awp_skip ?_
              try simp only [encQ]
              refine le_intro hB [] (by simp) (fun b _ => rfl) rfl ?_ ?_ rfl <;> simp -dsimp -implicitDefEqProofs only [z0r, z0o, e, push_cast, ↓trAdd_f, ↓stOf_f, seval]
              all_goals exact of_eq_true z0w
        try simp only [encQ]
        try refine hK _ ?_
        repeat (first | refine awp_seq ?_ | refine awp_block ?_ | refine awp_skip ?_ | refine awp_scope ?_ | refine awp_label ?_)
        refine awp_region tabOk fun K hK => ?_
        simp -dsimp -implicitDefEqProofs only [push_cast, ↓trAdd_f, ↓stOf_f, seval]
        refine hK _ ?_
        refine awp_join { sl := [(0, .own 3 1 0 3), (1, .int .i64 now), (2, .int .i64 until_), (6, z), (7, .int .i64 y), (8, .bool true), (11, .own 3 1 0 3), (12, .int .i64 3), (13, .int .i64 0)], st := [(0, .box (encQ x0)), (1, .box (encQ x1)), (2, .box (encQ x2)), (3, .row 1 [[.ptr 0 0], [.ptr 1 0], [.ptr 2 0]])], nx := 40, n := 52 } ?_ (fun _ hl h => awp_le hl h) ?_
        · cases one with
          | none =>
            have e0 : w0 = .nilp := hw0
            subst e0
            try refine hK _ ?_
            repeat (first | refine awp_seq ?_ | refine awp_block ?_ | refine awp_skip ?_ | refine awp_scope ?_ | refine awp_label ?_)
            refine awp_region tabOk fun K hK => ?_
            simp -dsimp -implicitDefEqProofs only [push_cast, ↓trAdd_f, ↓stOf_f, seval]
            try refine hK _ ?_
            repeat (first | refine awp_seq ?_ | refine awp_block ?_ | refine awp_skip ?_ | refine awp_scope ?_ | refine awp_label ?_)
            refine awp_cond (b := decide (x0.wts ≤ now)) (by simp -dsimp -implicitDefEqProofs only [push_cast, ↓trAdd_f, ↓stOf_f, seval]) (fun h => ?_) (fun h => ?_)
            · have e : z = .ptr 0 0 := by rw [hz, if_pos ⟨rfl, by simpa using h⟩]; rfl
              try refine hK _ ?_
              repeat (first | refine awp_seq ?_ | refine awp_block ?_ | refine awp_skip ?_ | refine awp_scope ?_ | refine awp_label ?_)
              refine awp_region tabOk fun K hK => ?_
              simp -dsimp -implicitDefEqProofs only [push_cast, ↓trAdd_f, ↓stOf_f, seval]
              refine hK _ ?_
              try simp only [encQ]
              refine le_intro hB [] (by simp) (fun b _ => rfl) rfl ?_ ?_ rfl <;> simp -dsimp -implicitDefEqProofs only [e, push_cast, ↓trAdd_f, ↓stOf_f, seval]
            · have e : z = .nilp := by rw [hz, if_neg (by simp at h; simp; omega)]; rfl
              refine awp_skip ?_
              try simp only [encQ]
              refine le_intro hB [] (by simp) (fun b _ => rfl) rfl ?_ ?_ rfl <;> simp -dsimp -implicitDefEqProofs only [e, push_cast, ↓trAdd_f, ↓stOf_f, seval]
          | some j =>
            have e0 : w0 = .ptr j 0 := hw0
            have e : z = .ptr j 0 := by rw [hz, if_neg (by simp)]; rfl
            have hj := hone j rfl
            have hj40 : j < 40 := by omega
            subst e0
            try refine hK _ ?_
            repeat (first | refine awp_seq ?_ | refine awp_block ?_ | refine awp_skip ?_ | refine awp_scope ?_ | refine awp_label ?_)
            refine awp_region tabOk fun K hK => ?_
            simp -dsimp -implicitDefEqProofs only [push_cast, ↓trAdd_f, ↓stOf_f, seval]
            try refine hK _ ?_
            repeat (first | refine awp_seq ?_ | refine awp_block ?_ | refine awp_skip ?_ | refine awp_scope ?_ | refine awp_label ?_)
            refine awp_cond (b := false) (by simp -dsimp -implicitDefEqProofs only [push_cast, ↓trAdd_f, ↓stOf_f, seval]) (fun h => ?_) (fun h => ?_)
            · simp at h
            refine awp_skip ?_
            try simp only [encQ]
            refine le_intro hB [] (by simp) (fun b _ => rfl) rfl ?_ ?_ rfl <;> simp -dsimp -implicitDefEqProofs only [e, hj40, renG, lk, push_cast, ↓trAdd_f, ↓stOf_f, seval]
        try refine hK _ ?_
        repeat (first | refine awp_seq ?_ | refine awp_block ?_ | refine awp_skip ?_ | refine awp_scope ?_ | refine awp_label ?_)
        refine awp_region tabOk fun K hK => ?_
        simp -dsimp -implicitDefEqProofs only [push_cast, ↓trAdd_f, ↓stOf_f, seval]
        try simp (disch := omega) only [wrap_i64, wrap_u8, wrap_u16, wrap_u32]
        refine hK _ ⟨1, by decide, by decide, ?_⟩
        rw [hsucc]
        simp only [← hz, ← hy, encQ]
        refine le_intro hB [] (by simp) (fun b _ => rfl) rfl ?_ ?_ rfl <;> simp -dsimp -implicitDefEqProofs only [zr, zo, push_cast, ↓trAdd_f, ↓stOf_f, seval]
        all_goals exact of_eq_true zw
    · have hx : ([x0, x1, x2] : List QS).getD 1 zeroQ = x1 := rfl
      rw [hx] at hsucc
      obtain ⟨w0, hw0⟩ : ∃ w, w = oneP one := ⟨_, rfl⟩
      obtain ⟨z0r, z0o, z0w⟩ := oneP_facts hone hw0 (by decide : 1 ≤ 40)
      try refine hK _ ?_
      repeat (first | refine awp_seq ?_ | refine awp_block ?_ | refine awp_skip ?_ | refine awp_scope ?_ | refine awp_label ?_)
      refine awp_region tabOk fun K hK => ?_
      simp -dsimp -implicitDefEqProofs only [tn1, tn2, tn3, tn4, push_cast, ↓trAdd_f, ↓stOf_f, seval]
      try refine hK _ ?_
      repeat (first | refine awp_seq ?_ | refine awp_block ?_ | refine awp_skip ?_ | refine awp_scope ?_ | refine awp_label ?_)
      refine awp_region tabOk fun K hK => ?_
      simp -dsimp -implicitDefEqProofs only [push_cast, ↓trAdd_f, ↓stOf_f, seval]
      try refine hK _ ?_
      repeat (first | refine awp_seq ?_ | refine awp_block ?_ | refine awp_skip ?_ | refine awp_scope ?_ | refine awp_label ?_)
      refine awp_cond (b := decide (until_ ≤ x1.due)) (by simp -dsimp -implicitDefEqProofs only [push_cast, ↓trAdd_f, ↓stOf_f, seval]) (fun h => ?_) (fun h => ?_)
      · have hst : scanStep now until_ 1 x1 (left, one, soon) = (left, one, soon) := by unfold scanStep; rw [if_pos (by simpa using h)]
        rw [hst] at hsucc
        refine awp_exit rfl ?_
        try refine hK _ ?_
        repeat (first | refine awp_seq ?_ | refine awp_block ?_ | refine awp_skip ?_ | refine awp_scope ?_ | refine awp_label ?_)
        refine awp_region tabOk fun K hK => ?_
        simp -dsimp -implicitDefEqProofs only [push_cast, ↓trAdd_f, ↓stOf_f, seval]
        try simp (disch := omega) only [wrap_i64, wrap_u8, wrap_u16, wrap_u32]
        refine hK _ ⟨2, by decide, by decide, ?_⟩
        rw [hsucc]
        simp only [← hw0]
        refine le_intro hB [] (by simp) (fun b _ => rfl) rfl ?_ ?_ rfl <;> simp -dsimp -implicitDefEqProofs only [z0r, z0o, encQ, push_cast, ↓trAdd_f, ↓stOf_f, seval]
        all_goals exact of_eq_true z0w
      · have hst : scanStep now until_ 1 x1 (left, one, soon) = (true, if one = none ∧ x1.wts ≤ now then some 1 else one, if left = false ∨ x1.wts < soon then x1.wts else soon) := by unfold scanStep; rw [if_neg (by simpa using h)]
        rw [hst] at hsucc
        clear h hst
        obtain ⟨z, hz⟩ : ∃ z, z = oneP (if one = none ∧ x1.wts ≤ now then some 1 else one) := ⟨_, rfl⟩
        obtain ⟨y, hy⟩ : ∃ y, y = if left = false ∨ x1.wts < soon then x1.wts else soon := ⟨_, rfl⟩
        have hone' : ∀ j, (if one = none ∧ x1.wts ≤ now then some 1 else one) = some j → j < 2 := fun j hj => by
          split at hj
          · cases hj; decide
          · have := hone j hj; omega
        obtain ⟨zr, zo, zw⟩ := oneP_facts hone' hz (by decide : 2 ≤ 40)
        rw [← hw0]
        refine awp_skip ?_
        refine awp_seq ?_
        refine awp_join { sl := [(0, .own 3 1 0 3), (1, .int .i64 now), (2, .int .i64 until_), (6, w0), (7, .int .i64 y), (8, .bool left), (10, .ptr 1 0), (11, .own 3 1 0 3), (12, .int .i64 3), (13, .int .i64 1)], st := [(0, .box (encQ x0)), (1, .box (encQ x1)), (2, .box (encQ x2)), (3, .row 1 [[.ptr 0 0], [.ptr 1 0], [.ptr 2 0]])], nx := 40, n := 52 } ?_ (fun _ hl h => awp_le hl h) ?_
        · cases left with
          | false =>
            have e : y = x1.wts := by rw [hy, if_pos (.inl rfl)]
            try refine hK _ ?_
            repeat (first | refine awp_seq ?_ | refine awp_block ?_ | refine awp_skip ?_ | refine awp_scope ?_ | refine awp_label ?_)
            refine awp_region tabOk fun K hK => ?_
            simp -dsimp -implicitDefEqProofs only [push_cast, ↓trAdd_f, ↓stOf_f, seval]
            try refine hK _ ?_
            repeat (first | refine awp_seq ?_ | refine awp_block ?_ | refine awp_skip ?_ | refine awp_scope ?_ | refine awp_label ?_)
            refine awp_cond (b := true) (by simp -dsimp -implicitDefEqProofs only [push_cast, ↓trAdd_f, ↓stOf_f, seval]) (fun h => ?_) (fun h => ?_)
            · try refine hK _ ?_
              repeat (first | refine awp_seq ?_ | refine awp_block ?_ | refine awp_skip ?_ | refine awp_scope ?_ | refine awp_label ?_)
              refine awp_region tabOk fun K hK => ?_
              simp -dsimp -implicitDefEqProofs only [push_cast, ↓trAdd_f, ↓stOf_f, seval]
              refine hK _ ?_
              try simp only [encQ]
              refine le_intro hB [] (by simp) (fun b _ => rfl) rfl ?_ ?_ rfl <;> simp -dsimp -implicitDefEqProofs only [z0r, z0o, e, push_cast, ↓trAdd_f, ↓stOf_f, seval]
              all_goals exact of_eq_true z0w
            · simp at h
          | true =>
            try refine hK _ ?_
            repeat (first | refine awp_seq ?_ | refine awp_block ?_ | refine awp_skip ?_ | refine awp_scope ?_ | refine awp_label ?_)
            refine awp_region tabOk fun K hK => ?_
            simp -dsimp -implicitDefEqProofs only [push_cast, ↓trAdd_f, ↓stOf_f, seval]
            try refine hK _ ?_
            repeat (first | refine awp_seq ?_ | refine awp_block ?_ | refine awp_skip ?_ | refine awp_scope ?_ | refine awp_label ?_)
            refine awp_cond (b := decide (x1.wts < soon)) (by simp -dsimp -implicitDefEqProofs only [push_cast, ↓trAdd_f, ↓stOf_f, seval]) (fun h => ?_) (fun h => ?_)
            · have e : y = x1.wts := by rw [hy, if_pos (.inr (by simpa using h))]
              try refine hK _ ?_
              repeat (first | refine awp_seq ?_ | refine awp_block ?_ | refine awp_skip ?_ | refine awp_scope ?_ | refine awp_label ?_)
              refine awp_region tabOk fun K hK => ?_
              simp -dsimp -implicitDefEqProofs only [push_cast, ↓trAdd_f, ↓stOf_f, seval]
              refine hK _ ?_
              try simp only [encQ]
              refine le_intro hB [] (by simp) (fun b _ => rfl) rfl ?_ ?_ rfl <;> simp -dsimp -implicitDefEqProofs only [z0r, z0o, e, push_cast, ↓trAdd_f, ↓stOf_f, seval]
              all_goals exact of_eq_true z0w
            · have e : y = soon := by rw [hy, if_neg (by simp at h; simp; omega)]
              refine awp_skip ?_
              try simp only [encQ]
              refine le_intro hB [] (by simp) (fun b _ => rfl) rfl ?_ ?_ rfl <;> simp -dsimp -implicitDefEqProofs only [z0r, z0o, e, push_cast, ↓trAdd_f, ↓stOf_f, seval]
              all_goals exact of_eq_true z0w
        try simp only [encQ]
        try refine hK _ ?_
        repeat (first | refine awp_seq ?_ | refine awp_block ?_ | refine awp_skip ?_ | refine awp_scope ?_ | refine awp_label ?_)
        refine awp_region tabOk fun K hK => ?_
        simp -dsimp -implicitDefEqProofs only [push_cast, ↓trAdd_f, ↓stOf_f, seval]
        refine hK _ ?_
        refine awp_join { sl := [(0, .own 3 1 0 3), (1, .int .i64 now), (2, .int .i64 until_), (6, z), (7, .int .i64 y), (8, .bool true), (11, .own 3 1 0 3), (12, .int .i64 3), (13, .int .i64 1)], st := [(0, .box (encQ x0)), (1, .box (encQ x1)), (2, .box (encQ x2)), (3, .row 1 [[.ptr 0 0], [.ptr 1 0], [.ptr 2 0]])], nx := 40, n := 52 } ?_ (fun _ hl h => awp_le hl h) ?_
        · cases one with
          | none =>
            have e0 : w0 = .nilp := hw0
            subst e0
            try refine hK _ ?_
            repeat (first | refine awp_seq ?_ | refine awp_block ?_ | refine awp_skip ?_ | refine awp_scope ?_ | refine awp_label ?_)
            refine awp_region tabOk fun K hK => ?_
            simp -dsimp -implicitDefEqProofs only [push_cast, ↓trAdd_f, ↓stOf_f, seval]
            try refine hK _ ?_
            repeat (first | refine awp_seq ?_ | refine awp_block ?_ | refine awp_skip ?_ | refine awp_scope ?_ | refine awp_label ?_)
            refine awp_cond (b := decide (x1.wts ≤ now)) (by simp -dsimp -implicitDefEqProofs only [push_cast, ↓trAdd_f, ↓stOf_f, seval]) (fun h => ?_) (fun h => ?_)
            · have e : z = .ptr 1 0 := by rw [hz, if_pos ⟨rfl, by simpa using h⟩]; rfl
              try refine hK _ ?_
              repeat (first | refine awp_seq ?_ | refine awp_block ?_ | refine awp_skip ?_ | refine awp_scope ?_ | refine awp_label ?_)
              refine awp_region tabOk fun K hK => ?_
              simp -dsimp -implicitDefEqProofs only [push_cast, ↓trAdd_f, ↓stOf_f, seval]
              refine hK _ ?_
              try simp only [encQ]
              refine le_intro hB [] (by simp) (fun b _ => rfl) rfl ?_ ?_ rfl <;> simp -dsimp -implicitDefEqProofs only [e, push_cast, ↓trAdd_f, ↓stOf_f, seval]
            · have e : z = .nilp := by rw [hz, if_neg (by simp at h; simp; omega)]; rfl
              refine awp_skip ?_
              try simp only [encQ]
              refine le_intro hB [] (by simp) (fun b _ => rfl) rfl ?_ ?_ rfl <;> simp -dsimp -implicitDefEqProofs only [e, push_cast, ↓trAdd_f, ↓stOf_f, seval]
          | some j =>
            have e0 : w0 = .ptr j 0 := hw0
            have e : z = .ptr j 0 := by rw [hz, if_neg (by simp)]; rfl
            have hj := hone j rfl
            have hj40 : j < 40 := by omega
            subst e0
            try refine hK _ ?_
            repeat (first | refine awp_seq ?_ | refine awp_block ?_ | refine awp_skip ?_ | refine awp_scope ?_ | refine awp_label ?_)
            refine awp_region tabOk fun K hK => ?_
            simp -dsimp -implicitDefEqProofs only [push_cast, ↓trAdd_f, ↓stOf_f, seval]
            try refine hK _ ?_
            repeat (first | refine awp_seq ?_ | refine awp_block ?_ | refine awp_skip ?_ | refine awp_scope ?_ | refine awp_label ?_)
            refine awp_cond (b := false) (by simp -dsimp -implicitDefEqProofs only [push_cast, ↓trAdd_f, ↓stOf_f, seval]) (fun h => ?_) (fun h => ?_)
            · simp at h
            refine awp_skip ?_
            try simp only [encQ]
            refine le_intro hB [] (by simp) (fun b _ => rfl) rfl ?_ ?_ rfl <;> simp -dsimp -implicitDefEqProofs only [e, hj40, renG, lk, push_cast, ↓trAdd_f, ↓stOf_f, seval]
        try refine hK _ ?_
        repeat (first | refine awp_seq ?_ | refine awp_block ?_ | refine awp_skip ?_ | refine awp_scope ?_ | refine awp_label ?_)
        refine awp_region tabOk fun K hK => ?_
        simp -dsimp -implicitDefEqProofs only [push_cast, ↓trAdd_f, ↓stOf_f, seval]
        try simp (disch := omega) only [wrap_i64, wrap_u8, wrap_u16, wrap_u32]
        refine hK _ ⟨2, by decide, by decide, ?_⟩
        rw [hsucc]
        simp only [← hz, ← hy, encQ]
        refine le_intro hB [] (by simp) (fun b _ => rfl) rfl ?_ ?_ rfl <;> simp -dsimp -implicitDefEqProofs only [zr, zo, push_cast, ↓trAdd_f, ↓stOf_f, seval]
        all_goals exact of_eq_true zw
    · have hx : ([x0, x1, x2] : List QS).getD 2 zeroQ = x2 := rfl
      rw [hx] at hsucc
      obtain ⟨w0, hw0⟩ : ∃ w, w = oneP one := ⟨_, rfl⟩
      obtain ⟨z0r, z0o, z0w⟩ := oneP_facts hone hw0 (by decide : 2 ≤ 40)
      try refine hK _ ?_
      repeat (first | refine awp_seq ?_ | refine awp_block ?_ | refine awp_skip ?_ | refine awp_scope ?_ | refine awp_label ?_)
      refine awp_region tabOk fun K hK => ?_
      simp -dsimp -implicitDefEqProofs only [tn1, tn2, tn3, tn4, push_cast, ↓trAdd_f, ↓stOf_f, seval]
      try refine hK _ ?_
      repeat (first | refine awp_seq ?_ | refine awp_block ?_ | refine awp_skip ?_ | refine awp_scope ?_ | refine awp_label ?_)
      refine awp_region tabOk fun K hK => ?_
      simp -dsimp -implicitDefEqProofs only [push_cast, ↓trAdd_f, ↓stOf_f, seval]
      try refine hK _ ?_
      repeat (first | refine awp_seq ?_ | refine awp_block ?_ | refine awp_skip ?_ | refine awp_scope ?_ | refine awp_label ?_)
      refine awp_cond (b := decide (until_ ≤ x2.due)) (by simp -dsimp -implicitDefEqProofs only [push_cast, ↓trAdd_f, ↓stOf_f, seval]) (fun h => ?_) (fun h => ?_)
      · have hst : scanStep now until_ 2 x2 (left, one, soon) = (left, one, soon) := by unfold scanStep; rw [if_pos (by simpa using h)]
        rw [hst] at hsucc
        refine awp_exit rfl ?_
        try refine hK _ ?_
        repeat (first | refine awp_seq ?_ | refine awp_block ?_ | refine awp_skip ?_ | refine awp_scope ?_ | refine awp_label ?_)
        refine awp_region tabOk fun K hK => ?_
        simp -dsimp -implicitDefEqProofs only [push_cast, ↓trAdd_f, ↓stOf_f, seval]
        try simp (disch := omega) only [wrap_i64, wrap_u8, wrap_u16, wrap_u32]
        refine hK _ ⟨3, by decide, by decide, ?_⟩
        rw [hsucc]
        simp only [← hw0]
        refine le_intro hB [] (by simp) (fun b _ => rfl) rfl ?_ ?_ rfl <;> simp -dsimp -implicitDefEqProofs only [z0r, z0o, encQ, push_cast, ↓trAdd_f, ↓stOf_f, seval]
        all_goals exact of_eq_true z0w
      · have hst : scanStep now until_ 2 x2 (left, one, soon) = (true, if one = none ∧ x2.wts ≤ now then some 2 else one, if left = false ∨ x2.wts < soon then x2.wts else soon) := by unfold scanStep; rw [if_neg (by simpa using h)]
        rw [hst] at hsucc
        clear h hst
        obtain ⟨z, hz⟩ : ∃ z, z = oneP (if one = none ∧ x2.wts ≤ now then some 2 else one) := ⟨_, rfl⟩
        obtain ⟨y, hy⟩ : ∃ y, y = if left = false ∨ x2.wts < soon then x2.wts else soon := ⟨_, rfl⟩
        have hone' : ∀ j, (if one = none ∧ x2.wts ≤ now then some 2 else one) = some j → j < 3 := fun j hj => by
          split at hj
          · cases hj; decide
          · have := hone j hj; omega
        obtain ⟨zr, zo, zw⟩ := oneP_facts hone' hz (by decide : 3 ≤ 40)
        rw [← hw0]
        refine awp_skip ?_
        refine awp_seq ?_
        refine awp_join { sl := [(0, .own 3 1 0 3), (1, .int .i64 now), (2, .int .i64 until_), (6, w0), (7, .int .i64 y), (8, .bool left), (10, .ptr 2 0), (11, .own 3 1 0 3), (12, .int .i64 3), (13, .int .i64 2)], st := [(0, .box (encQ x0)), (1, .box (encQ x1)), (2, .box (encQ x2)), (3, .row 1 [[.ptr 0 0], [.ptr 1 0], [.ptr 2 0]])], nx := 40, n := 52 } ?_ (fun _ hl h => awp_le hl h) ?_
        · cases left with
          | false =>
            have e : y = x2.wts := by rw [hy, if_pos (.inl rfl)]
            try refine hK _ ?_
            repeat (first | refine awp_seq ?_ | refine awp_block ?_ | refine awp_skip ?_ | refine awp_scope ?_ | refine awp_label ?_)
            refine awp_region tabOk fun K hK => ?_
            simp -dsimp -implicitDefEqProofs only [push_cast, ↓trAdd_f, ↓stOf_f, seval]
            try refine hK _ ?_
            repeat (first | refine awp_seq ?_ | refine awp_block ?_ | refine awp_skip ?_ | refine awp_scope ?_ | refine awp_label ?_)
            refine awp_cond (b := true) (by simp -dsimp -implicitDefEqProofs only [push_cast, ↓trAdd_f, ↓stOf_f, seval]) (fun h => ?_) (fun h => ?_)
            · try refine hK _ ?_
              repeat (first | refine awp_seq ?_ | refine awp_block ?_ | refine awp_skip ?_ | refine awp_scope ?_ | refine awp_label ?_)
              refine awp_region tabOk fun K hK => ?_
              simp -dsimp -implicitDefEqProofs only [push_cast, ↓trAdd_f, ↓stOf_f, seval]
              refine hK _ ?_
              try simp only [encQ]
              refine le_intro hB [] (by simp) (fun b _ => rfl) rfl ?_ ?_ rfl <;> simp -dsimp -implicitDefEqProofs only [z0r, z0o, e, push_cast, ↓trAdd_f, ↓stOf_f, seval]
              all_goals exact of_eq_true z0w
            · simp at h
          | true =>
            try refine hK _ ?_
            repeat (first | refine awp_seq ?_ | refine awp_block ?_ | refine awp_skip ?_ | refine awp_scope ?_ | refine awp_label ?_)
            refine awp_region tabOk fun K hK => ?_
            simp -dsimp -implicitDefEqProofs only [push_cast, ↓trAdd_f, ↓stOf_f, seval]
            try refine hK _ ?_
            repeat (first | refine awp_seq ?_ | refine awp_block ?_ | refine awp_skip ?_ | refine awp_scope ?_ | refine awp_label ?_)
            refine awp_cond (b := decide (x2.wts < soon)) (by simp -dsimp -implicitDefEqProofs only [push_cast, ↓trAdd_f, ↓stOf_f, seval]) (fun h => ?_) (fun h => ?_)
            · have e : y = x2.wts := by rw [hy, if_pos (.inr (by simpa using h))]
              try refine hK _ ?_
              repeat (first | refine awp_seq ?_ | refine awp_block ?_ | refine awp_skip ?_ | refine awp_scope ?_ | refine awp_label ?_)
              refine awp_region tabOk fun K hK => ?_
              simp -dsimp -implicitDefEqProofs only [push_cast, ↓trAdd_f, ↓stOf_f, seval]
              refine hK _ ?_
              try simp only [encQ]
              refine le_intro hB [] (by simp) (fun b _ => rfl) rfl ?_ ?_ rfl <;> simp -dsimp -implicitDefEqProofs only [z0r, z0o, e, push_cast, ↓trAdd_f, ↓stOf_f, seval]
              all_goals exact of_eq_true z0w
            · have e : y = soon := by rw [hy, if_neg (by simp at h; simp; omega)]
              refine awp_skip ?_
              try simp only [encQ]
              refine le_intro hB [] (by simp) (fun b _ => rfl) rfl ?_ ?_ rfl <;> simp -dsimp -implicitDefEqProofs only [z0r, z0o, e, push_cast, ↓trAdd_f, ↓stOf_f, seval]
              all_goals exact of_eq_true z0w
        try simp only [encQ]
        try refine hK _ ?_
        repeat (first | refine awp_seq ?_ | refine awp_block ?_ | refine awp_skip ?_ | refine awp_scope ?_ | refine awp_label ?_)
        refine awp_region tabOk fun K hK => ?_
        simp -dsimp -implicitDefEqProofs only [push_cast, ↓trAdd_f, ↓stOf_f, seval]
        refine hK _ ?_
        refine awp_join { sl := [(0, .own 3 1 0 3), (1, .int .i64 now), (2, .int .i64 until_), (6, z), (7, .int .i64 y), (8, .bool true), (11, .own 3 1 0 3), (12, .int .i64 3), (13, .int .i64 2)], st := [(0, .box (encQ x0)), (1, .box (encQ x1)), (2, .box (encQ x2)), (3, .row 1 [[.ptr 0 0], [.ptr 1 0], [.ptr 2 0]])], nx := 40, n := 52 } ?_ (fun _ hl h => awp_le hl h) ?_
        · cases one with
          | none =>
            have e0 : w0 = .nilp := hw0
            subst e0
            try refine hK _ ?_
            repeat (first | refine awp_seq ?_ | refine awp_block ?_ | refine awp_skip ?_ | refine awp_scope ?_ | refine awp_label ?_)
            refine awp_region tabOk fun K hK => ?_
            simp -dsimp -implicitDefEqProofs only [push_cast, ↓trAdd_f, ↓stOf_f, seval]
            try refine hK _ ?_
            repeat (first | refine awp_seq ?_ | refine awp_block ?_ | refine awp_skip ?_ | refine awp_scope ?_ | refine awp_label ?_)
            refine awp_cond (b := decide (x2.wts ≤ now)) (by simp -dsimp -implicitDefEqProofs only [push_cast, ↓trAdd_f, ↓stOf_f, seval]) (fun h => ?_) (fun h => ?_)
            · have e : z = .ptr 2 0 := by rw [hz, if_pos ⟨rfl, by simpa using h⟩]; rfl
              try refine hK _ ?_
              repeat (first | refine awp_seq ?_ | refine awp_block ?_ | refine awp_skip ?_ | refine awp_scope ?_ | refine awp_label ?_)
              refine awp_region tabOk fun K hK => ?_
              simp -dsimp -implicitDefEqProofs only [push_cast, ↓trAdd_f, ↓stOf_f, seval]
              refine hK _ ?_
              try simp only [encQ]
              refine le_intro hB [] (by simp) (fun b _ => rfl) rfl ?_ ?_ rfl <;> simp -dsimp -implicitDefEqProofs only [e, push_cast, ↓trAdd_f, ↓stOf_f, seval]
            · have e : z = .nilp := by rw [hz, if_neg (by simp at h; simp; omega)]; rfl
              refine awp_skip ?_
              try simp only [encQ]
              refine le_intro hB [] (by simp) (fun b _ => rfl) rfl ?_ ?_ rfl <;> simp -dsimp -implicitDefEqProofs only [e, push_cast, ↓trAdd_f, ↓stOf_f, seval]
          | some j =>
            have e0 : w0 = .ptr j 0 := hw0
            have e : z = .ptr j 0 := by rw [hz, if_neg (by simp)]; rfl
            have hj := hone j rfl
            have hj40 : j < 40 := by omega
            subst e0
            try refine hK _ ?_
            repeat (first | refine awp_seq ?_ | refine awp_block ?_ | refine awp_skip ?_ | refine awp_scope ?_ | refine awp_label ?_)
            refine awp_region tabOk fun K hK => ?_
            simp -dsimp -implicitDefEqProofs only [push_cast, ↓trAdd_f, ↓stOf_f, seval]
            try refine hK _ ?_
            repeat (first | refine awp_seq ?_ | refine awp_block ?_ | refine awp_skip ?_ | refine awp_scope ?_ | refine awp_label ?_)
            refine awp_cond (b := false) (by simp -dsimp -implicitDefEqProofs only [push_cast, ↓trAdd_f, ↓stOf_f, seval]) (fun h => ?_) (fun h => ?_)
            · simp at h
            refine awp_skip ?_
            try simp only [encQ]
            refine le_intro hB [] (by simp) (fun b _ => rfl) rfl ?_ ?_ rfl <;> simp -dsimp -implicitDefEqProofs only [e, hj40, renG, lk, push_cast, ↓trAdd_f, ↓stOf_f, seval]
        try refine hK _ ?_
        repeat (first | refine awp_seq ?_ | refine awp_block ?_ | refine awp_skip ?_ | refine awp_scope ?_ | refine awp_label ?_)
        refine awp_region tabOk fun K hK => ?_
        simp -dsimp -implicitDefEqProofs only [push_cast, ↓trAdd_f, ↓stOf_f, seval]
        try simp (disch := omega) only [wrap_i64, wrap_u8, wrap_u16, wrap_u32]
        refine hK _ ⟨3, by decide, by decide, ?_⟩
        rw [hsucc]
        simp only [← hz, ← hy, encQ]
        refine le_intro hB [] (by simp) (fun b _ => rfl) rfl ?_ ?_ rfl <;> simp -dsimp -implicitDefEqProofs only [zr, zo, push_cast, ↓trAdd_f, ↓stOf_f, seval]
        all_goals exact of_eq_true zw
  · have he : k = 3 := by simp at h; omega
    have hd := hdone he
    subst he
    rw [← hd]
    obtain ⟨w0, hw0⟩ : ∃ w, w = oneP one := ⟨_, rfl⟩
    obtain ⟨z0r, z0o, z0w⟩ := oneP_facts hone hw0 (by decide : 3 ≤ 4)
    simp only [← hw0]
    refine awp_exit rfl ?_
    try refine hK _ ?_
    repeat (first | refine awp_seq ?_ | refine awp_block ?_ | refine awp_skip ?_ | refine awp_scope ?_ | refine awp_label ?_)
    refine awp_region tabOk fun K hK => ?_
    simp -dsimp -implicitDefEqProofs only [push_cast, ↓trAdd_f, ↓stOf_f, seval]
    refine hK _ (awp_ret ?_)
    simp -dsimp -implicitDefEqProofs only [z0o, push_cast, List.mem_append, List.mem_cons, List.mem_singleton, forall_eq_or_imp, forall_eq, ↓trAdd_f, ↓stOf_f, seval]


theorem choose4_ok (x0 x1 x2 x3 : QS) (now until_ : Int) : FnS Try.prog 33 [.own 4 1 0 4, .int .i64 now, .int .i64 until_] [(0, .box (encQ x0)), (1, .box (encQ x1)), (2, .box (encQ x2)), (3, .box (encQ x3)), (4, .row 1 [[.ptr 0 0], [.ptr 1 0], [.ptr 2 0], [.ptr 3 0]])]
    (.tup [oneP (scan now until_ [x0, x1, x2, x3]).2.1, .int .i64 (scan now until_ [x0, x1, x2, x3]).2.2, .bool (scan now until_ [x0, x1, x2, x3]).1]) [(0, .box (encQ x0)), (1, .box (encQ x1)), (2, .box (encQ x2)), (3, .box (encQ x3)), (4, .row 1 [[.ptr 0 0], [.ptr 1 0], [.ptr 2 0], [.ptr 3 0]])] := by
  refine fn_walkP tabOk Try.func33 rfl (by decide +kernel) Try.ntmps33 Try.results33 (by simp) fun B hB => ?_
  try simp only [encQ]
  try refine hK _ ?_
  repeat (first | refine awp_seq ?_ | refine awp_block ?_ | refine awp_skip ?_ | refine awp_scope ?_ | refine awp_label ?_)
  refine awp_region tabOk fun K hK => ?_
  simp -dsimp -implicitDefEqProofs only [push_cast, ↓trAdd_f, ↓stOf_f, seval]
  try refine hK _ ?_
  repeat (first | refine awp_seq ?_ | refine awp_block ?_ | refine awp_skip ?_ | refine awp_scope ?_ | refine awp_label ?_)
  refine awp_region tabOk fun K hK => ?_
  simp -dsimp -implicitDefEqProofs only [push_cast, ↓trAdd_f, ↓stOf_f, seval]
  refine hK _ (awp_block ?_)
  refine awp_for (fun k : Nat => { sl := [(0, .own 4 1 0 4), (1, .int .i64 now), (2, .int .i64 until_), (6, oneP (scanN now until_ [x0, x1, x2, x3] k).2.1), (7, .int .i64 (scanN now until_ [x0, x1, x2, x3] k).2.2), (8, .bool (scanN now until_ [x0, x1, x2, x3] k).1), (11, .own 4 1 0 4), (12, .int .i64 4), (13, .int .i64 k)], st := [(0, .box (encQ x0)), (1, .box (encQ x1)), (2, .box (encQ x2)), (3, .box (encQ x3)), (4, .row 1 [[.ptr 0 0], [.ptr 1 0], [.ptr 2 0], [.ptr 3 0]])], nx := 40, n := 52 }) (fun k => k ≤ 4) (fun k => 4 - k) 0 (Nat.zero_le _) ?_ fun k hk => ?_
  · have e0 : scanN now until_ [x0, x1, x2, x3] 0 = (false, none, 0) := rfl
    refine le_intro hB [] (by simp) (fun b _ => rfl) rfl ?_ ?_ rfl <;> simp -dsimp -implicitDefEqProofs only [e0, oneP, encQ, push_cast, ↓trAdd_f, ↓stOf_f, seval]
  have hsc := scanN_spec now until_ [x0, x1, x2, x3] k
  have hsucc : scanN now until_ [x0, x1, x2, x3] (k + 1) = scanStep now until_ k (([x0, x1, x2, x3] : List QS).getD k zeroQ) (scanN now until_ [x0, x1, x2, x3] k) := rfl
  have hdone : k = 4 → scanN now until_ [x0, x1, x2, x3] k = scan now until_ [x0, x1, x2, x3] := fun e => by subst e; rfl
  generalize scanN now until_ [x0, x1, x2, x3] k = r at *
  obtain ⟨left, one, soon⟩ := r
  try simp only at hsc hsucc hdone
  have hone : ∀ j, one = some j → j < k := fun j hj => (hsc.one j hj).1
  try simp only [encQ]
  try refine hK _ ?_
  repeat (first | refine awp_seq ?_ | refine awp_block ?_ | refine awp_skip ?_ | refine awp_scope ?_ | refine awp_label ?_)
  refine awp_region tabOk fun K hK => ?_
  simp -dsimp -implicitDefEqProofs only [push_cast, ↓trAdd_f, ↓stOf_f, seval]
  try refine hK _ ?_
  repeat (first | refine awp_seq ?_ | refine awp_block ?_ | refine awp_skip ?_ | refine awp_scope ?_ | refine awp_label ?_)
  refine awp_cond (b := decide ((k : Int) < 4)) (by simp -dsimp -implicitDefEqProofs only [push_cast, ↓trAdd_f, ↓stOf_f, seval]) (fun h => ?_) (fun h => ?_)
  · have hlt : k < 4 := by simp at h; omega
    clear h hdone hsc
    have : k = 0 ∨ k = 1 ∨ k = 2 ∨ k = 3 := by omega
    rcases this with rfl | rfl | rfl | rfl
    · have hx : ([x0, x1, x2, x3] : List QS).getD 0 zeroQ = x0 := rfl
      rw [hx] at hsucc
      obtain ⟨w0, hw0⟩ : ∃ w, w = oneP one := ⟨_, rfl⟩
      obtain ⟨z0r, z0o, z0w⟩ := oneP_facts hone hw0 (by decide : 0 ≤ 40)
      try refine hK _ ?_
      repeat (first | refine awp_seq ?_ | refine awp_block ?_ | refine awp_skip ?_ | refine awp_scope ?_ | refine awp_label ?_)
      refine awp_region tabOk fun K hK => ?_
      simp -dsimp -implicitDefEqProofs only [tn1, tn2, tn3, tn4, push_cast, ↓trAdd_f, ↓stOf_f, seval]
      try refine hK _ ?_
      repeat (first | refine awp_seq ?_ | refine awp_block ?_ | refine awp_skip ?_ | refine awp_scope ?_ | refine awp_label ?_)
      refine awp_region tabOk fun K hK => ?_
      simp -dsimp -implicitDefEqProofs only [push_cast, ↓trAdd_f, ↓stOf_f, seval]
      try refine hK _ ?_
      repeat (first | refine awp_seq ?_ | refine awp_block ?_ | refine awp_skip ?_ | refine awp_scope ?_ | refine awp_label ?_)
      refine awp_cond (b := decide (until_ ≤ x0.due)) (by simp -dsimp -implicitDefEqProofs only [push_cast, ↓trAdd_f, ↓stOf_f, seval]) (fun h => ?_) (fun h => ?_)
      · have hst : scanStep now until_ 0 x0 (left, one, soon) = (left, one, soon) := by unfold scanStep; rw [if_pos (by simpa using h)]
        rw [hst] at hsucc
        refine awp_exit rfl ?_
        try refine hK _ ?_
        repeat (first | refine awp_seq ?_ | refine awp_block ?_ | refine awp_skip ?_ | refine awp_scope ?_ | refine awp_label ?_)
        refine awp_region tabOk fun K hK => ?_
        simp -dsimp -implicitDefEqProofs only [push_cast, ↓trAdd_f, ↓stOf_f, seval]
        try simp (disch := omega) only [wrap_i64, wrap_u8, wrap_u16, wrap_u32]
        refine hK _ ⟨1, by decide, by decide, ?_⟩
        rw [hsucc]
        simp only [← hw0]
        refine le_intro hB [] (by simp) (fun b _ => rfl) rfl ?_ ?_ rfl <;> simp -dsimp -implicitDefEqProofs only [z0r, z0o, encQ, push_cast, ↓trAdd_f, ↓stOf_f, seval]
        all_goals exact of_eq_true z0w
      · have hst : scanStep now until_ 0 x0 (left, one, soon) = (true, if one = none ∧ x0.wts ≤ now then some 0 else one, if left = false ∨ x0.wts < soon then x0.wts else soon) := by unfold scanStep; rw [if_neg (by simpa using h)]
        rw [hst] at hsucc
        clear h hst
        obtain ⟨z, hz⟩ : ∃ z, z = oneP (if one = none ∧ x0.wts ≤ now then some 0 else one) := ⟨_, rfl⟩
        obtain ⟨y, hy⟩ : ∃ y, y = if left = false ∨ x0.wts < soon then x0.wts else soon := ⟨_, rfl⟩
        have hone' : ∀ j, (if one = none ∧ x0.wts ≤ now then some 0 else one) = some j → j < 1 := fun j hj => by
          split at hj
          · cases hj; decide
          · have := hone j hj; omega
        obtain ⟨zr, zo, zw⟩ := oneP_facts hone' hz (by decide : 1 ≤ 40)
        rw [← hw0]
        refine awp_skip ?_
        refine awp_seq ?_
        refine awp_join { sl := [(0, .own 4 1 0 4), (1, .int .i64 now), (2, .int .i64 until_), (6, w0), (7, .int .i64 y), (8, .bool left), (10, .ptr 0 0), (11, .own 4 1 0 4), (12, .int .i64 4), (13, .int .i64 0)], st := [(0, .box (encQ x0)), (1, .box (encQ x1)), (2, .box (encQ x2)), (3, .box (encQ x3)), (4, .row 1 [[.ptr 0 0], [.ptr 1 0], [.ptr 2 0], [.ptr 3 0]])], nx := 40, n := 52 } ?_ (fun _ hl h => awp_le hl h) ?_
        · cases left with
          | false =>
            have e : y = x0.wts := by rw [hy, if_pos (.inl rfl)]
            try refine hK _ ?_
            repeat (first | refine awp_seq ?_ | refine awp_block ?_ | refine awp_skip ?_ | refine awp_scope ?_ | refine awp_label ?_)
            refine awp_region tabOk fun K hK => ?_
            simp -dsimp -implicitDefEqProofs only [push_cast, ↓trAdd_f, ↓stOf_f, seval]
            try refine hK _ ?_
            repeat (first | refine awp_seq ?_ | refine awp_block ?_ | refine awp_skip ?_ | refine awp_scope ?_ | refine awp_label ?_)
            refine awp_cond (b := true) (by simp -dsimp -implicitDefEqProofs only [push_cast, ↓trAdd_f, ↓stOf_f, seval]) (fun h => ?_) (fun h => ?_)
            · try refine hK _ ?_
              repeat (first | refine awp_seq ?_ | refine awp_block ?_ | refine awp_skip ?_ | refine awp_scope ?_ | refine awp_label ?_)
              refine awp_region tabOk fun K hK => ?_
              simp -dsimp -implicitDefEqProofs only [push_cast, ↓trAdd_f, ↓stOf_f, seval]
              refine hK _ ?_
              try simp only [encQ]
              refine le_intro hB [] (by simp) (fun b _ => rfl) rfl ?_ ?_ rfl <;> simp -dsimp -implicitDefEqProofs only [z0r, z0o, e, push_cast, ↓trAdd_f, ↓stOf_f, seval]
              all_goals exact of_eq_true z0w
            · simp at h
          | true =>
            try refine hK _ ?_
            repeat (first | refine awp_seq ?_ | refine awp_block ?_ | refine awp_skip ?_ | refine awp_scope ?_ | refine awp_label ?_)
            refine awp_region tabOk fun K hK => ?_
            simp -dsimp -implicitDefEqProofs only [push_cast, ↓trAdd_f, ↓stOf_f, seval]
            try refine hK _ ?_
            repeat (first | refine awp_seq ?_ | refine awp_block ?_ | refine awp_skip ?_ | refine awp_scope ?_ | refine awp_label ?_)
            refine awp_cond (b := decide (x0.wts < soon)) (by simp -dsimp -implicitDefEqProofs only [push_cast, ↓trAdd_f, ↓stOf_f, seval]) (fun h => ?_) (fun h => ?_)
            · have e : y = x0.wts := by rw [hy, if_pos (.inr (by simpa using h))]
              try refine hK _ ?_
              repeat (first | refine awp_seq ?_ | refine awp_block ?_ | refine awp_skip ?_ | refine awp_scope ?_ | refine awp_label ?_)
              refine awp_region tabOk fun K hK => ?_
              simp -dsimp -implicitDefEqProofs only [push_cast, ↓trAdd_f, ↓stOf_f, seval]
              refine hK _ ?_
              try simp only [encQ]
              refine le_intro hB [] (by simp) (fun b _ => rfl) rfl ?_ ?_ rfl <;> simp -dsimp -implicitDefEqProofs only [z0r, z0o, e, push_cast, ↓trAdd_f, ↓stOf_f, seval]
              all_goals exact of_eq_true z0w
            · have e : y = soon := by rw [hy, if_neg (by simp at h; simp; omega)]
              refine awp_skip ?_
              try simp only [encQ]
              refine le_intro hB [] (by simp) (fun b _ => rfl) rfl ?_ ?_ rfl <;> simp -dsimp -implicitDefEqProofs only [z0r, z0o, e, push_cast, ↓trAdd_f, ↓stOf_f, seval]
              all_goals exact of_eq_true z0w
        try simp only [encQ]
        try refine hK _ ?_
        repeat (first | refine awp_seq ?_ | refine awp_block ?_ | refine awp_skip ?_ | refine awp_scope ?_ | refine awp_label ?_)
        refine awp_region tabOk fun K hK => ?_
        simp -dsimp -implicitDefEqProofs only [push_cast, ↓trAdd_f, ↓stOf_f, seval]
        refine hK _ ?_
        refine awp_join { sl := [(0, .own 4 1 0 4), (1, .int .i64 now), (2, .int .i64 until_), (6, z), (7, .int .i64 y), (8, .bool true), (11, .own 4 1 0 4), (12, .int .i64 4), (13, .int .i64 0)], st := [(0, .box (encQ x0)), (1, .box (encQ x1)), (2, .box (encQ x2)), (3, .box (encQ x3)), (4, .row 1 [[.ptr 0 0], [.ptr 1 0], [.ptr 2 0], [.ptr 3 0]])], nx := 40, n := 52 } ?_ (fun _ hl h => awp_le hl h) ?_
        · cases one with
          | none =>
            have e0 : w0 = .nilp := hw0
            subst e0
            try refine hK _ ?_
            repeat (first | refine awp_seq ?_ | refine awp_block ?_ | refine awp_skip ?_ | refine awp_scope ?_ | refine awp_label ?_)
            refine awp_region tabOk fun K hK => ?_
            simp -dsimp -implicitDefEqProofs only [push_cast, ↓trAdd_f, ↓stOf_f, seval]
            try refine hK _ ?_
            repeat (first | refine awp_seq ?_ | refine awp_block ?_ | refine awp_skip ?_ | refine awp_scope ?_ | refine awp_label ?_)
            refine awp_cond (b := decide (x0.wts ≤ now)) (by simp -dsimp -implicitDefEqProofs only [push_cast, ↓trAdd_f, ↓stOf_f, seval]) (fun h => ?_) (fun h => ?_)
            · have e : z = .ptr 0 0 := by rw [hz, if_pos ⟨rfl, by simpa using h⟩]; rfl
              try refine hK _ ?_
              repeat (first | refine awp_seq ?_ | refine awp_block ?_ | refine awp_skip ?_ | refine awp_scope ?_ | refine awp_label ?_)
              refine awp_region tabOk fun K hK => ?_
              simp -dsimp -implicitDefEqProofs only [push_cast, ↓trAdd_f, ↓stOf_f, seval]
              refine hK _ ?_
              try simp only [encQ]
              refine le_intro hB [] (by simp) (fun b _ => rfl) rfl ?_ ?_ rfl <;> simp -dsimp -implicitDefEqProofs only [e, push_cast, ↓trAdd_f, ↓stOf_f, seval]
            · have e : z = .nilp := by rw [hz, if_neg (by simp at h; simp; omega)]; rfl
              refine awp_skip ?_
              try simp only [encQ]
              refine le_intro hB [] (by simp) (fun b _ => rfl) rfl ?_ ?_ rfl <;> simp -dsimp -implicitDefEqProofs only [e, push_cast, ↓trAdd_f, ↓stOf_f, seval]
          | some j =>
            have e0 : w0 = .ptr j 0 := hw0
            have e : z = .ptr j 0 := by rw [hz, if_neg (by simp)]; rfl
            have hj := hone j rfl
            have hj40 : j < 40 := by omega
            subst e0
            try refine hK _ ?_
            repeat (first | refine awp_seq ?_ | refine awp_block ?_ | refine awp_skip ?_ | refine awp_scope ?_ | refine awp_label ?_)
            refine awp_region tabOk fun K hK => ?_
            simp -dsimp -implicitDefEqProofs only [push_cast, ↓trAdd_f, ↓stOf_f, seval]
            try refine hK _ ?_
            repeat (first | refine awp_seq ?_ | refine awp_block ?_ | refine awp_skip ?_ | refine awp_scope ?_ | refine awp_label ?_)
            refine awp_cond (b := false) (by simp -dsimp -implicitDefEqProofs only [push_cast, ↓trAdd_f, ↓stOf_f, seval]) (fun h => ?_) (fun h => ?_)
            · simp at h
            refine awp_skip ?_
            try simp only [encQ]
            refine le_intro hB [] (by simp) (fun b _ => rfl) rfl ?_ ?_ rfl <;> simp -dsimp -implicitDefEqProofs only [e, hj40, renG, lk, push_cast, ↓trAdd_f, ↓stOf_f, seval]
        try refine hK _ ?_
        repeat (first | refine awp_seq ?_ | refine awp_block ?_ | refine awp_skip ?_ | refine awp_scope ?_ | refine awp_label ?_)
        refine awp_region tabOk fun K hK => ?_
        simp -dsimp -implicitDefEqProofs only [push_cast, ↓trAdd_f, ↓stOf_f, seval]
        try simp (disch := omega) only [wrap_i64, wrap_u8, wrap_u16, wrap_u32]
        refine hK _ ⟨1, by decide, by decide, ?_⟩
        rw [hsucc]
        simp only [← hz, ← hy, encQ]
        refine le_intro hB [] (by simp) (fun b _ => rfl) rfl ?_ ?_ rfl <;> simp -dsimp -implicitDefEqProofs only [zr, zo, push_cast, ↓trAdd_f, ↓stOf_f, seval]
        all_goals exact of_eq_true zw
    · have hx : ([x0, x1, x2, x3] : List QS).getD 1 zeroQ = x1 := rfl
      rw [hx] at hsucc
      obtain ⟨w0, hw0⟩ : ∃ w, w = oneP one := ⟨_, rfl⟩
      obtain ⟨z0r, z0o, z0w⟩ := oneP_facts hone hw0 (by decide : 1 ≤ 40)
      try refine hK _ ?_
      repeat (first | refine awp_seq ?_ | refine awp_block ?_ | refine awp_skip ?_ | refine awp_scope ?_ | refine awp_label ?_)
      refine awp_region tabOk fun K hK => ?_
      simp -dsimp -implicitDefEqProofs only [tn1, tn2, tn3, tn4, push_cast, ↓trAdd_f, ↓stOf_f, seval]
      try refine hK _ ?_
      repeat (first | refine awp_seq ?_ | refine awp_block ?_ | refine awp_skip ?_ | refine awp_scope ?_ | refine awp_label ?_)
      refine awp_region tabOk fun K hK => ?_
      simp -dsimp -implicitDefEqProofs only [push_cast, ↓trAdd_f, ↓stOf_f, seval]
      try refine hK _ ?_
      repeat (first | refine awp_seq ?_ | refine awp_block ?_ | refine awp_skip ?_ | refine awp_scope ?_ | refine awp_label ?_)
      refine awp_cond (b := decide (until_ ≤ x1.due)) (by simp -dsimp -implicitDefEqProofs only [push_cast, ↓trAdd_f, ↓stOf_f, seval]) (fun h => ?_) (fun h => ?_)
      · have hst : scanStep now until_ 1 x1 (left, one, soon) = (left, one, soon) := by unfold scanStep; rw [if_pos (by simpa using h)]
        rw [hst] at hsucc
        refine awp_exit rfl ?_
        try refine hK _ ?_
        repeat (first | refine awp_seq ?_ | refine awp_block ?_ | refine awp_skip ?_ | refine awp_scope ?_ | refine awp_label ?_)
        refine awp_region tabOk fun K hK => ?_
        simp -dsimp -implicitDefEqProofs only [push_cast, ↓trAdd_f, ↓stOf_f, seval]
        try simp (disch := omega) only [wrap_i64, wrap_u8, wrap_u16, wrap_u32]
        refine hK _ ⟨2, by decide, by decide, ?_⟩
        rw [hsucc]
        simp only [← hw0]
        refine le_intro hB [] (by simp) (fun b _ => rfl) rfl ?_ ?_ rfl <;> simp -dsimp -implicitDefEqProofs only [z0r, z0o, encQ, push_cast, ↓trAdd_f, ↓stOf_f, seval]
        all_goals exact of_eq_true z0w
      · have hst : scanStep now until_ 1 x1 (left, one, soon) = (true, if one = none ∧ x1.wts ≤ now then some 1 else one, if left = false ∨ x1.wts < soon then x1.wts else soon) := by unfold scanStep; rw [if_neg (by simpa using h)]
        rw [hst] at hsucc
        clear h hst
        obtain ⟨z, hz⟩ : ∃ z, z = oneP (if one = none ∧ x1.wts ≤ now then some 1 else one) := ⟨_, rfl⟩
        obtain ⟨y, hy⟩ : ∃ y, y = if left = false ∨ x1.wts < soon then x1.wts else soon := ⟨_, rfl⟩
        have hone' : ∀ j, (if one = none ∧ x1.wts ≤ now then some 1 else one) = some j → j < 2 := fun j hj => by
          split at hj
          · cases hj; decide
          · have := hone j hj; omega
        obtain ⟨zr, zo, zw⟩ := oneP_facts hone' hz (by decide : 2 ≤ 40)
        rw [← hw0]
        refine awp_skip ?_
        refine awp_seq ?_
        refine awp_join { sl := [(0, .own 4 1 0 4), (1, .int .i64 now), (2, .int .i64 until_), (6, w0), (7, .int .i64 y), (8, .bool left), (10, .ptr 1 0), (11, .own 4 1 0 4), (12, .int .i64 4), (13, .int .i64 1)], st := [(0, .box (encQ x0)), (1, .box (encQ x1)), (2, .box (encQ x2)), (3, .box (encQ x3)), (4, .row 1 [[.ptr 0 0], [.ptr 1 0], [.ptr 2 0], [.ptr 3 0]])], nx := 40, n := 52 } ?_ (fun _ hl h => awp_le hl h) ?_
        · cases left with
          | false =>
            have e : y = x1.wts := by rw [hy, if_pos (.inl rfl)]
            try refine hK _ ?_
            repeat (first | refine awp_seq ?_ | refine awp_block ?_ | refine awp_skip ?_ | refine awp_scope ?_ | refine awp_label ?_)
            refine awp_region tabOk fun K hK => ?_
            simp -dsimp -implicitDefEqProofs only [push_cast, ↓trAdd_f, ↓stOf_f, seval]
            try refine hK _ ?_
            repeat (first | refine awp_seq ?_ | refine awp_block ?_ | refine awp_skip ?_ | refine awp_scope ?_ | refine awp_label ?_)
            refine awp_cond (b := true) (by simp -dsimp -implicitDefEqProofs only [push_cast, ↓trAdd_f, ↓stOf_f, seval]) (fun h => ?_) (fun h => ?_)
            · try refine hK _ ?_
              repeat (first | refine awp_seq ?_ | refine awp_block ?_ | refine awp_skip ?_ | refine awp_scope ?_ | refine awp_label ?_)
              refine awp_region tabOk fun K hK => ?_
              simp -dsimp -implicitDefEqProofs only [push_cast, ↓trAdd_f, ↓stOf_f, seval]
              refine hK _ ?_
              try simp only [encQ]
              refine le_intro hB [] (by simp) (fun b _ => rfl) rfl ?_ ?_ rfl <;> simp -dsimp -implicitDefEqProofs only [z0r, z0o, e, push_cast, ↓trAdd_f, ↓stOf_f, seval]
              all_goals exact of_eq_true z0w
            · simp at h
          | true =>
            try refine hK _ ?_
            repeat (first | refine awp_seq ?_ | refine awp_block ?_ | refine awp_skip ?_ | refine awp_scope ?_ | refine awp_label ?_)
            refine awp_region tabOk fun K hK => ?_
            simp -dsimp -implicitDefEqProofs only [push_cast, ↓trAdd_f, ↓stOf_f, seval]
            try refine hK _ ?_
            repeat (first | refine awp_seq ?_ | refine awp_block ?_ | refine awp_skip ?_ | refine awp_scope ?_ | refine awp_label ?_)
            refine awp_cond (b := decide (x1.wts < soon)) (by simp -dsimp -implicitDefEqProofs only [push_cast, ↓trAdd_f, ↓stOf_f, seval]) (fun h => ?_) (fun h => ?_)
            · have e : y = x1.wts := by rw [hy, if_pos (.inr (by simpa using h))]
              try refine hK _ ?_
              repeat (first | refine awp_seq ?_ | refine awp_block ?_ | refine awp_skip ?_ | refine awp_scope ?_ | refine awp_label ?_)
              refine awp_region tabOk fun K hK => ?_
              simp -dsimp -implicitDefEqProofs only [push_cast, ↓trAdd_f, ↓stOf_f, seval]
              refine hK _ ?_
              try simp only [encQ]
              refine le_intro hB [] (by simp) (fun b _ => rfl) rfl ?_ ?_ rfl <;> simp -dsimp -implicitDefEqProofs only [z0r, z0o, e, push_cast, ↓trAdd_f, ↓stOf_f, seval]
              all_goals exact of_eq_true z0w
            · have e : y = soon := by rw [hy, if_neg (by simp at h; simp; omega)]
              refine awp_skip ?_
              try simp only [encQ]
              refine le_intro hB [] (by simp) (fun b _ => rfl) rfl ?_ ?_ rfl <;> simp -dsimp -implicitDefEqProofs only [z0r, z0o, e, push_cast, ↓trAdd_f, ↓stOf_f, seval]
              all_goals exact of_eq_true z0w
        try simp only [encQ]
        try refine hK _ ?_
        repeat (first | refine awp_seq ?_ | refine awp_block ?_ | refine awp_skip ?_ | refine awp_scope ?_ | refine awp_label ?_)
        refine awp_region tabOk fun K hK => ?_
        simp -dsimp -implicitDefEqProofs only [push_cast, ↓trAdd_f, ↓stOf_f, seval]
        refine hK _ ?_
        refine awp_join { sl := [(0, .own 4 1 0 4), (1, .int .i64 now), (2, .int .i64 until_), (6, z), (7, .int .i64 y), (8, .bool true), (11, .own 4 1 0 4), (12, .int .i64 4), (13, .int .i64 1)], st := [(0, .box (encQ x0)), (1, .box (encQ x1)), (2, .box (encQ x2)), (3, .box (encQ x3)), (4, .row 1 [[.ptr 0 0], [.ptr 1 0], [.ptr 2 0], [.ptr 3 0]])], nx := 40, n := 52 } ?_ (fun _ hl h => awp_le hl h) ?_
        · cases one with
          | none =>
            have e0 : w0 = .nilp := hw0
            subst e0
            try refine hK _ ?_
            repeat (first | refine awp_seq ?_ | refine awp_block ?_ | refine awp_skip ?_ | refine awp_scope ?_ | refine awp_label ?_)
            refine awp_region tabOk fun K hK => ?_
            simp -dsimp -implicitDefEqProofs only [push_cast, ↓trAdd_f, ↓stOf_f, seval]
            try refine hK _ ?_
            repeat (first | refine awp_seq ?_ | refine awp_block ?_ | refine awp_skip ?_ | refine awp_scope ?_ | refine awp_label ?_)
            refine awp_cond (b := decide (x1.wts ≤ now)) (by simp -dsimp -implicitDefEqProofs only [push_cast, ↓trAdd_f, ↓stOf_f, seval]) (fun h => ?_) (fun h => ?_)
            · have e : z = .ptr 1 0 := by rw [hz, if_pos ⟨rfl, by simpa using h⟩]; rfl
              try refine hK _ ?_
              repeat (first | refine awp_seq ?_ | refine awp_block ?_ | refine awp_skip ?_ | refine awp_scope ?_ | refine awp_label ?_)
              refine awp_region tabOk fun K hK => ?_
              simp -dsimp -implicitDefEqProofs only [push_cast, ↓trAdd_f, ↓stOf_f, seval]
              refine hK _ ?_
              try simp only [encQ]
              refine le_intro hB [] (by simp) (fun b _ => rfl) rfl ?_ ?_ rfl <;> simp -dsimp -implicitDefEqProofs only [e, push_cast, ↓trAdd_f, ↓stOf_f, seval]
            · have e : z = .nilp := by rw [hz, if_neg (by simp at h; simp; omega)]; rfl
              refine awp_skip ?_
              try simp only [encQ]
              refine le_intro hB [] (by simp) (fun b _ => rfl) rfl ?_ ?_ rfl <;> simp -dsimp -implicitDefEqProofs only [e, push_cast, ↓trAdd_f, ↓stOf_f, seval]
          | some j =>
            have e0 : w0 = .ptr j 0 := hw0
            have e : z = .ptr j 0 := by rw [hz, if_neg (by simp)]; rfl
            have hj := hone j rfl
            have hj40 : j < 40 := by omega
            subst e0
            try refine hK _ ?_
            repeat (first | refine awp_seq ?_ | refine awp_block ?_ | refine awp_skip ?_ | refine awp_scope ?_ | refine awp_label ?_)
            refine awp_region tabOk fun K hK => ?_
            simp -dsimp -implicitDefEqProofs only [push_cast, ↓trAdd_f, ↓stOf_f, seval]
            try refine hK _ ?_
            repeat (first | refine awp_seq ?_ | refine awp_block ?_ | refine awp_skip ?_ | refine awp_scope ?_ | refine awp_label ?_)
            refine awp_cond (b := false) (by simp -dsimp -implicitDefEqProofs only [push_cast, ↓trAdd_f, ↓stOf_f, seval]) (fun h => ?_) (fun h => ?_)
            · simp at h
            refine awp_skip ?_
            try simp only [encQ]
            refine le_intro hB [] (by simp) (fun b _ => rfl) rfl ?_ ?_ rfl <;> simp -dsimp -implicitDefEqProofs only [e, hj40, renG, lk, push_cast, ↓trAdd_f, ↓stOf_f, seval]
        try refine hK _ ?_
        repeat (first | refine awp_seq ?_ | refine awp_block ?_ | refine awp_skip ?_ | refine awp_scope ?_ | refine awp_label ?_)
        refine awp_region tabOk fun K hK => ?_
        simp -dsimp -implicitDefEqProofs only [push_cast, ↓trAdd_f, ↓stOf_f, seval]
        try simp (disch := omega) only [wrap_i64, wrap_u8, wrap_u16, wrap_u32]
        refine hK _ ⟨2, by decide, by decide, ?_⟩
        rw [hsucc]
        simp only [← hz, ← hy, encQ]
        refine le_intro hB [] (by simp) (fun b _ => rfl) rfl ?_ ?_ rfl <;> simp -dsimp -implicitDefEqProofs only [zr, zo, push_cast, ↓trAdd_f, ↓stOf_f, seval]
        all_goals exact of_eq_true zw
    · have hx : ([x0, x1, x2, x3] : List QS).getD 2 zeroQ = x2 := rfl
      rw [hx] at hsucc
      obtain ⟨w0, hw0⟩ : ∃ w, w = oneP one := ⟨_, rfl⟩
      obtain ⟨z0r, z0o, z0w⟩ := oneP_facts hone hw0 (by decide : 2 ≤ 40)
      try refine hK _ ?_
      repeat (first | refine awp_seq ?_ | refine awp_block ?_ | refine awp_skip ?_ | refine awp_scope ?_ | refine awp_label ?_)
      refine awp_region tabOk fun K hK => ?_
      simp -dsimp -implicitDefEqProofs only [tn1, tn2, tn3, tn4, push_cast, ↓trAdd_f, ↓stOf_f, seval]
      try refine hK _ ?_
      repeat (first | refine awp_seq ?_ | refine awp_block ?_ | refine awp_skip ?_ | refine awp_scope ?_ | refine awp_label ?_)
      refine awp_region tabOk fun K hK => ?_
      simp -dsimp -implicitDefEqProofs only [push_cast, ↓trAdd_f, ↓stOf_f, seval]
      try refine hK _ ?_
      repeat (first | refine awp_seq ?_ | refine awp_block ?_ | refine awp_skip ?_ | refine awp_scope ?_ | refine awp_label ?_)
      refine awp_cond (b := decide (until_ ≤ x2.due)) (by simp -dsimp -implicitDefEqProofs only [push_cast, ↓trAdd_f, ↓stOf_f, seval]) (fun h => ?_) (fun h => ?_)
      · have hst : scanStep now until_ 2 x2 (left, one, soon) = (left, one, soon) := by unfold scanStep; rw [if_pos (by simpa using h)]
        rw [hst] at hsucc
        refine awp_exit rfl ?_
        try refine hK _ ?_
        repeat (first | refine awp_seq ?_ | refine awp_block ?_ | refine awp_skip ?_ | refine awp_scope ?_ | refine awp_label ?_)
        refine awp_region tabOk fun K hK => ?_
        simp -dsimp -implicitDefEqProofs only [push_cast, ↓trAdd_f, ↓stOf_f, seval]
        try simp (disch := omega) only [wrap_i64, wrap_u8, wrap_u16, wrap_u32]
        refine hK _ ⟨3, by decide, by decide, ?_⟩
        rw [hsucc]
        simp only [← hw0]
        refine le_intro hB [] (by simp) (fun b _ => rfl) rfl ?_ ?_ rfl <;> simp -dsimp -implicitDefEqProofs only [z0r, z0o, encQ, push_cast, ↓trAdd_f, ↓stOf_f, seval]
        all_goals exact of_eq_true z0w
      · have hst : scanStep now until_ 2 x2 (left, one, soon) = (true, if one = none ∧ x2.wts ≤ now then some 2 else one, if left = false ∨ x2.wts < soon then x2.wts else soon) := by unfold scanStep; rw [if_neg (by simpa using h)]
        rw [hst] at hsucc
        clear h hst
        obtain ⟨z, hz⟩ : ∃ z, z = oneP (if one = none ∧ x2.wts ≤ now then some 2 else one) := ⟨_, rfl⟩
        obtain ⟨y, hy⟩ : ∃ y, y = if left = false ∨ x2.wts < soon then x2.wts else soon := ⟨_, rfl⟩
        have hone' : ∀ j, (if one = none ∧ x2.wts ≤ now then some 2 else one) = some j → j < 3 := fun j hj => by
          split at hj
          · cases hj; decide
          · have := hone j hj; omega
        obtain ⟨zr, zo, zw⟩ := oneP_facts hone' hz (by decide : 3 ≤ 40)
        rw [← hw0]
        refine awp_skip ?_
        refine awp_seq ?_
        refine awp_join { sl := [(0, .own 4 1 0 4), (1, .int .i64 now), (2, .int .i64 until_), (6, w0), (7, .int .i64 y), (8, .bool left), (10, .ptr 2 0), (11, .own 4 1 0 4), (12, .int .i64 4), (13, .int .i64 2)], st := [(0, .box (encQ x0)), (1, .box (encQ x1)), (2, .box (encQ x2)), (3, .box (encQ x3)), (4, .row 1 [[.ptr 0 0], [.ptr 1 0], [.ptr 2 0], [.ptr 3 0]])], nx := 40, n := 52 } ?_ (fun _ hl h => awp_le hl h) ?_
        · cases left with
          | false =>
            have e : y = x2.wts := by rw [hy, if_pos (.inl rfl)]
            try refine hK _ ?_
            repeat (first | refine awp_seq ?_ | refine awp_block ?_ | refine awp_skip ?_ | refine awp_scope ?_ | refine awp_label ?_)
            refine awp_region tabOk fun K hK => ?_
            simp -dsimp -implicitDefEqProofs only [push_cast, ↓trAdd_f, ↓stOf_f, seval]
            try refine hK _ ?_
            repeat (first | refine awp_seq ?_ | refine awp_block ?_ | refine awp_skip ?_ | refine awp_scope ?_ | refine awp_label ?_)
            refine awp_cond (b := true) (by simp -dsimp -implicitDefEqProofs only [push_cast, ↓trAdd_f, ↓stOf_f, seval]) (fun h => ?_) (fun h => ?_)
            · try refine hK _ ?_
              repeat (first | refine awp_seq ?_ | refine awp_block ?_ | refine awp_skip ?_ | refine awp_scope ?_ | refine awp_label ?_)
              refine awp_region tabOk fun K hK => ?_
              simp -dsimp -implicitDefEqProofs only [push_cast, ↓trAdd_f, ↓stOf_f, seval]
              refine hK _ ?_
              try simp only [encQ]
              refine le_intro hB [] (by simp) (fun b _ => rfl) rfl ?_ ?_ rfl <;> simp -dsimp -implicitDefEqProofs only [z0r, z0o, e, push_cast, ↓trAdd_f, ↓stOf_f, seval]
              all_goals exact of_eq_true z0w
            · simp at h
          | true =>
            try refine hK _ ?_
            repeat (first | refine awp_seq ?_ | refine awp_block ?_ | refine awp_skip ?_ | refine awp_scope ?_ | refine awp_label ?_)
            refine awp_region tabOk fun K hK => ?_
            simp -dsimp -implicitDefEqProofs only [push_cast, ↓trAdd_f, ↓stOf_f, seval]
            try refine hK _ ?_
            repeat (first | refine awp_seq ?_ | refine awp_block ?_ | refine awp_skip ?_ | refine awp_scope ?_ | refine awp_label ?_)
            refine awp_cond (b := decide (x2.wts < soon)) (by simp -dsimp -implicitDefEqProofs only [push_cast, ↓trAdd_f, ↓stOf_f, seval]) (fun h => ?_) (fun h => ?_)
            · have e : y = x2.wts := by rw [hy, if_pos (.inr (by simpa using h))]
              try refine hK _ ?_
              repeat (first | refine awp_seq ?_ | refine awp_block ?_ | refine awp_skip ?_ | refine awp_scope ?_ | refine awp_label ?_)
              refine awp_region tabOk fun K hK => ?_
              simp -dsimp -implicitDefEqProofs only [push_cast, ↓trAdd_f, ↓stOf_f, seval]
              refine hK _ ?_
              try simp only [encQ]
              refine le_intro hB [] (by simp) (fun b _ => rfl) rfl ?_ ?_ rfl <;> simp -dsimp -implicitDefEqProofs only [z0r, z0o, e, push_cast, ↓trAdd_f, ↓stOf_f, seval]
              all_goals exact of_eq_true z0w
            · have e : y = soon := by rw [hy, if_neg (by simp at h; simp; omega)]
              refine awp_skip ?_
              try simp only [encQ]
              refine le_intro hB [] (by simp) (fun b _ => rfl) rfl ?_ ?_ rfl <;> simp -dsimp -implicitDefEqProofs only [z0r, z0o, e, push_cast, ↓trAdd_f, ↓stOf_f, seval]
              all_goals exact of_eq_true z0w
        try simp only [encQ]
        try refine hK _ ?_
        repeat (first | refine awp_seq ?_ | refine awp_block ?_ | refine awp_skip ?_ | refine awp_scope ?_ | refine awp_label ?_)
        refine awp_region tabOk fun K hK => ?_
        simp -dsimp -implicitDefEqProofs only [push_cast, ↓trAdd_f, ↓stOf_f, seval]
        refine hK _ ?_
        refine awp_join { sl := [(0, .own 4 1 0 4), (1, .int .i64 now), (2, .int .i64 until_), (6, z), (7, .int .i64 y), (8, .bool true), (11, .own 4 1 0 4), (12, .int .i64 4), (13, .int .i64 2)], st := [(0, .box (encQ x0)), (1, .box (encQ x1)), (2, .box (encQ x2)), (3, .box (encQ x3)), (4, .row 1 [[.ptr 0 0], [.ptr 1 0], [.ptr 2 0], [.ptr 3 0]])], nx := 40, n := 52 } ?_ (fun _ hl h => awp_le hl h) ?_
        · cases one with
          | none =>
            have e0 : w0 = .nilp := hw0
            subst e0
            try refine hK _ ?_
            repeat (first | refine awp_seq ?_ | refine awp_block ?_ | refine awp_skip ?_ | refine awp_scope ?_ | refine awp_label ?_)
            refine awp_region tabOk fun K hK => ?_
            simp -dsimp -implicitDefEqProofs only [push_cast, ↓trAdd_f, ↓stOf_f, seval]
            try refine hK _ ?_
            repeat (first | refine awp_seq ?_ | refine awp_block ?_ | refine awp_skip ?_ | refine awp_scope ?_ | refine awp_label ?_)
            refine awp_cond (b := decide (x2.wts ≤ now)) (by simp -dsimp -implicitDefEqProofs only [push_cast, ↓trAdd_f, ↓stOf_f, seval]) (fun h => ?_) (fun h => ?_)
            · have e : z = .ptr 2 0 := by rw [hz, if_pos ⟨rfl, by simpa using h⟩]; rfl
              try refine hK _ ?_
              repeat (first | refine awp_seq ?_ | refine awp_block ?_ | refine awp_skip ?_ | refine awp_scope ?_ | refine awp_label ?_)
              refine awp_region tabOk fun K hK => ?_
              simp -dsimp -implicitDefEqProofs only [push_cast, ↓trAdd_f, ↓stOf_f, seval]
              refine hK _ ?_
              try simp only [encQ]
              refine le_intro hB [] (by simp) (fun b _ => rfl) rfl ?_ ?_ rfl <;> simp -dsimp -implicitDefEqProofs only [e, push_cast, ↓trAdd_f, ↓stOf_f, seval]
            · have e : z = .nilp := by rw [hz, if_neg (by simp at h; simp; omega)]; rfl
              refine awp_skip ?_
              try simp only [encQ]
              refine le_intro hB [] (by simp) (fun b _ => rfl) rfl ?_ ?_ rfl <;> simp -dsimp -implicitDefEqProofs only [e, push_cast, ↓trAdd_f, ↓stOf_f, seval]
          | some j =>
            have e0 : w0 = .ptr j 0 := hw0
            have e : z = .ptr j 0 := by rw [hz, if_neg (by simp)]; rfl
            have hj := hone j rfl
            have hj40 : j < 40 := by omega
            subst e0
            try refine hK _ ?_
            repeat (first | refine awp_seq ?_ | refine awp_block ?_ | refine awp_skip ?_ | refine awp_scope ?_ | refine awp_label ?_)
            refine awp_region tabOk fun K hK => ?_
            simp -dsimp -implicitDefEqProofs only [push_cast, ↓trAdd_f, ↓stOf_f, seval]
            try refine hK _ ?_
            repeat (first | refine awp_seq ?_ | refine awp_block ?_ | refine awp_skip ?_ | refine awp_scope ?_ | refine awp_label ?_)
            refine awp_cond (b := false) (by simp -dsimp -implicitDefEqProofs only [push_cast, ↓trAdd_f, ↓stOf_f, seval]) (fun h => ?_) (fun h => ?_)
            · simp at h
            refine awp_skip ?_
            try simp only [encQ]
            refine le_intro hB [] (by simp) (fun b _ => rfl) rfl ?_ ?_ rfl <;> simp -dsimp -implicitDefEqProofs only [e, hj40, renG, lk, push_cast, ↓trAdd_f, ↓stOf_f, seval]
        try refine hK _ ?_
        repeat (first | refine awp_seq ?_ | refine awp_block ?_ | refine awp_skip ?_ | refine awp_scope ?_ | refine awp_label ?_)
        refine awp_region tabOk fun K hK => ?_
        simp -dsimp -implicitDefEqProofs only [push_cast, ↓trAdd_f, ↓stOf_f, seval]
        try simp (disch := omega) only [wrap_i64, wrap_u8, wrap_u16, wrap_u32]
        refine hK _ ⟨3, by decide, by decide, ?_⟩
        rw [hsucc]
        simp only [← hz, ← hy, encQ]
        refine le_intro hB [] (by simp) (fun b _ => rfl) rfl ?_ ?_ rfl <;> simp -dsimp -implicitDefEqProofs only [zr, zo, push_cast, ↓trAdd_f, ↓stOf_f, seval]
        all_goals exact of_eq_true zw
    · have hx : ([x0, x1, x2, x3] : List QS).getD 3 zeroQ = x3 := rfl
      rw [hx] at hsucc
      obtain ⟨w0, hw0⟩ : ∃ w, w = oneP one := ⟨_, rfl⟩
      obtain ⟨z0r, z0o, z0w⟩ := oneP_facts hone hw0 (by decide : 3 ≤ 40)
      try refine hK _ ?_
      repeat (first | refine awp_seq ?_ | refine awp_block ?_ | refine awp_skip ?_ | refine awp_scope ?_ | refine awp_label ?_)
      refine awp_region tabOk fun K hK => ?_
      simp -dsimp -implicitDefEqProofs only [tn1, tn2, tn3, tn4, push_cast, ↓trAdd_f, ↓stOf_f, seval]
      try refine hK _ ?_
      repeat (first | refine awp_seq ?_ | refine awp_block ?_ | refine awp_skip ?_ | refine awp_scope ?_ | refine awp_label ?_)
      refine awp_region tabOk fun K hK => ?_
      simp -dsimp -implicitDefEqProofs only [push_cast, ↓trAdd_f, ↓stOf_f, seval]
      try refine hK _ ?_
      repeat (first | refine awp_seq ?_ | refine awp_block ?_ | refine awp_skip ?_ | refine awp_scope ?_ | refine awp_label ?_)
      refine awp_cond (b := decide (until_ ≤ x3.due)) (by simp -dsimp -implicitDefEqProofs only [push_cast, ↓trAdd_f, ↓stOf_f, seval]) (fun h => ?_) (fun h => ?_)
      · have hst : scanStep now until_ 3 x3 (left, one, soon) = (left, one, soon) := by unfold scanStep; rw [if_pos (by simpa using h)]
        rw [hst] at hsucc
        refine awp_exit rfl ?_
        try refine hK _ ?_
        repeat (first | refine awp_seq ?_ | refine awp_block ?_ | refine awp_skip ?_ | refine awp_scope ?_ | refine awp_label ?_)
        refine awp_region tabOk fun K hK => ?_
        simp -dsimp -implicitDefEqProofs only [push_cast, ↓trAdd_f, ↓stOf_f, seval]
        try simp (disch := omega) only [wrap_i64, wrap_u8, wrap_u16, wrap_u32]
        refine hK _ ⟨4, by decide, by decide, ?_⟩
        rw [hsucc]
        simp only [← hw0]
        refine le_intro hB [] (by simp) (fun b _ => rfl) rfl ?_ ?_ rfl <;> simp -dsimp -implicitDefEqProofs only [z0r, z0o, encQ, push_cast, ↓trAdd_f, ↓stOf_f, seval]
        all_goals exact of_eq_true z0w
      · have hst : scanStep now until_ 3 x3 (left, one, soon) = (true, if one = none ∧ x3.wts ≤ now then some 3 else one, if left = false ∨ x3.wts < soon then x3.wts else soon) := by unfold scanStep; rw [if_neg (by simpa using h)]
        rw [hst] at hsucc
        clear h hst
        obtain ⟨z, hz⟩ : ∃ z, z = oneP (if one = none ∧ x3.wts ≤ now then some 3 else one) := ⟨_, rfl⟩
        obtain ⟨y, hy⟩ : ∃ y, y = if left = false ∨ x3.wts < soon then x3.wts else soon := ⟨_, rfl⟩
        have hone' : ∀ j, (if one = none ∧ x3.wts ≤ now then some 3 else one) = some j → j < 4 := fun j hj => by
          split at hj
          · cases hj; decide
          · have := hone j hj; omega
        obtain ⟨zr, zo, zw⟩ := oneP_facts hone' hz (by decide : 4 ≤ 40)
        rw [← hw0]
        refine awp_skip ?_
        refine awp_seq ?_
        refine awp_join { sl := [(0, .own 4 1 0 4), (1, .int .i64 now), (2, .int .i64 until_), (6, w0), (7, .int .i64 y), (8, .bool left), (10, .ptr 3 0), (11, .own 4 1 0 4), (12, .int .i64 4), (13, .int .i64 3)], st := [(0, .box (encQ x0)), (1, .box (encQ x1)), (2, .box (encQ x2)), (3, .box (encQ x3)), (4, .row 1 [[.ptr 0 0], [.ptr 1 0], [.ptr 2 0], [.ptr 3 0]])], nx := 40, n := 52 } ?_ (fun _ hl h => awp_le hl h) ?_
        · cases left with
          | false =>
            have e : y = x3.wts := by rw [hy, if_pos (.inl rfl)]
            try refine hK _ ?_
            repeat (first | refine awp_seq ?_ | refine awp_block ?_ | refine awp_skip ?_ | refine awp_scope ?_ | refine awp_label ?_)
            refine awp_region tabOk fun K hK => ?_
            simp -dsimp -implicitDefEqProofs only [push_cast, ↓trAdd_f, ↓stOf_f, seval]
            try refine hK _ ?_
            repeat (first | refine awp_seq ?_ | refine awp_block ?_ | refine awp_skip ?_ | refine awp_scope ?_ | refine awp_label ?_)
            refine awp_cond (b := true) (by simp -dsimp -implicitDefEqProofs only [push_cast, ↓trAdd_f, ↓stOf_f, seval]) (fun h => ?_) (fun h => ?_)
            · try refine hK _ ?_
              repeat (first | refine awp_seq ?_ | refine awp_block ?_ | refine awp_skip ?_ | refine awp_scope ?_ | refine awp_label ?_)
              refine awp_region tabOk fun K hK => ?_
              simp -dsimp -implicitDefEqProofs only [push_cast, ↓trAdd_f, ↓stOf_f, seval]
              refine hK _ ?_
              try simp only [encQ]
              refine le_intro hB [] (by simp) (fun b _ => rfl) rfl ?_ ?_ rfl <;> simp -dsimp -implicitDefEqProofs only [z0r, z0o, e, push_cast, ↓trAdd_f, ↓stOf_f, seval]
              all_goals exact of_eq_true z0w
            · simp at h
          | true =>
            try refine hK _ ?_
            repeat (first | refine awp_seq ?_ | refine awp_block ?_ | refine awp_skip ?_ | refine awp_scope ?_ | refine awp_label ?_)
            refine awp_region tabOk fun K hK => ?_
            simp -dsimp -implicitDefEqProofs only [push_cast, ↓trAdd_f, ↓stOf_f, seval]
            try refine hK _ ?_
            repeat (first | refine awp_seq ?_ | refine awp_block ?_ | refine awp_skip ?_ | refine awp_scope ?_ | refine awp_label ?_)
            refine awp_cond (b := decide (x3.wts < soon)) (by simp -dsimp -implicitDefEqProofs only [push_cast, ↓trAdd_f, ↓stOf_f, seval]) (fun h => ?_) (fun h => ?_)
            · have e : y = x3.wts := by rw [hy, if_pos (.inr (by simpa using h))]
              try refine hK _ ?_
              repeat (first | refine awp_seq ?_ | refine awp_block ?_ | refine awp_skip ?_ | refine awp_scope ?_ | refine awp_label ?_)
              refine awp_region tabOk fun K hK => ?_
              simp -dsimp -implicitDefEqProofs only [push_cast, ↓trAdd_f, ↓stOf_f, seval]
              refine hK _ ?_
              try simp only [encQ]
              refine le_intro hB [] (by simp) (fun b _ => rfl) rfl ?_ ?_ rfl <;> simp -dsimp -implicitDefEqProofs only [z0r, z0o, e, push_cast, ↓trAdd_f, ↓stOf_f, seval]
              all_goals exact of_eq_true z0w
            · have e : y = soon := by rw [hy, if_neg (by simp at h; simp; omega)]
              refine awp_skip ?_
              try simp only [encQ]
              refine le_intro hB [] (by simp) (fun b _ => rfl) rfl ?_ ?_ rfl <;> simp -dsimp -implicitDefEqProofs only [z0r, z0o, e, push_cast, ↓trAdd_f, ↓stOf_f, seval]
              all_goals exact of_eq_true z0w
        try simp only [encQ]
        try refine hK _ ?_
        repeat (first | refine awp_seq ?_ | refine awp_block ?_ | refine awp_skip ?_ | refine awp_scope ?_ | refine awp_label ?_)
        refine awp_region tabOk fun K hK => ?_
        simp -dsimp -implicitDefEqProofs only [push_cast, ↓trAdd_f, ↓stOf_f, seval]
        refine hK _ ?_
        refine awp_join { sl := [(0, .own 4 1 0 4), (1, .int .i64 now), (2, .int .i64 until_), (6, z), (7, .int .i64 y), (8, .bool true), (11, .own 4 1 0 4), (12, .int .i64 4), (13, .int .i64 3)], st := [(0, .box (encQ x0)), (1, .box (encQ x1)), (2, .box (encQ x2)), (3, .box (encQ x3)), (4, .row 1 [[.ptr 0 0], [.ptr 1 0], [.ptr 2 0], [.ptr 3 0]])], nx := 40, n := 52 } ?_ (fun _ hl h => awp_le hl h) ?_
        · cases one with
          | none =>
            have e0 : w0 = .nilp := hw0
            subst e0
            try refine hK _ ?_
            repeat (first | refine awp_seq ?_ | refine awp_block ?_ | refine awp_skip ?_ | refine awp_scope ?_ | refine awp_label ?_)
            refine awp_region tabOk fun K hK => ?_
            simp -dsimp -implicitDefEqProofs only [push_cast, ↓trAdd_f, ↓stOf_f, seval]
            try refine hK _ ?_
            repeat (first | refine awp_seq ?_ | refine awp_block ?_ | refine awp_skip ?_ | refine awp_scope ?_ | refine awp_label ?_)
            refine awp_cond (b := decide (x3.wts ≤ now)) (by simp -dsimp -implicitDefEqProofs only [push_cast, ↓trAdd_f, ↓stOf_f, seval]) (fun h => ?_) (fun h => ?_)
            · have e : z = .ptr 3 0 := by rw [hz, if_pos ⟨rfl, by simpa using h⟩]; rfl
              try refine hK _ ?_
              repeat (first | refine awp_seq ?_ | refine awp_block ?_ | refine awp_skip ?_ | refine awp_scope ?_ | refine awp_label ?_)
              refine awp_region tabOk fun K hK => ?_
              simp -dsimp -implicitDefEqProofs only [push_cast, ↓trAdd_f, ↓stOf_f, seval]
              refine hK _ ?_
              try simp only [encQ]
              refine le_intro hB [] (by simp) (fun b _ => rfl) rfl ?_ ?_ rfl <;> simp -dsimp -implicitDefEqProofs only [e, push_cast, ↓trAdd_f, ↓stOf_f, seval]
            · have e : z = .nilp := by rw [hz, if_neg (by simp at h; simp; omega)]; rfl
              refine awp_skip ?_
              try simp only [encQ]
              refine le_intro hB [] (by simp) (fun b _ => rfl) rfl ?_ ?_ rfl <;> simp -dsimp -implicitDefEqProofs only [e, push_cast, ↓trAdd_f, ↓stOf_f, seval]
          | some j =>
            have e0 : w0 = .ptr j 0 := hw0
            have e : z = .ptr j 0 := by rw [hz, if_neg (by simp)]; rfl
            have hj := hone j rfl
            have hj40 : j < 40 := by omega
            subst e0
            try refine hK _ ?_
            repeat (first | refine awp_seq ?_ | refine awp_block ?_ | refine awp_skip ?_ | refine awp_scope ?_ | refine awp_label ?_)
            refine awp_region tabOk fun K hK => ?_
            simp -dsimp -implicitDefEqProofs only [push_cast, ↓trAdd_f, ↓stOf_f, seval]
            try refine hK _ ?_
            repeat (first | refine awp_seq ?_ | refine awp_block ?_ | refine awp_skip ?_ | refine awp_scope ?_ | refine awp_label ?_)
            refine awp_cond (b := false) (by simp -dsimp -implicitDefEqProofs only [push_cast, ↓trAdd_f, ↓stOf_f, seval]) (fun h => ?_) (fun h => ?_)
            · simp at h
            refine awp_skip ?_
            try simp only [encQ]
            refine le_intro hB [] (by simp) (fun b _ => rfl) rfl ?_ ?_ rfl <;> simp -dsimp -implicitDefEqProofs only [e, hj40, renG, lk, push_cast, ↓trAdd_f, ↓stOf_f, seval]
        try refine hK _ ?_
        repeat (first | refine awp_seq ?_ | refine awp_block ?_ | refine awp_skip ?_ | refine awp_scope ?_ | refine awp_label ?_)
        refine awp_region tabOk fun K hK => ?_
        simp -dsimp -implicitDefEqProofs only [push_cast, ↓trAdd_f, ↓stOf_f, seval]
        try simp (disch := omega) only [wrap_i64, wrap_u8, wrap_u16, wrap_u32]
        refine hK _ ⟨4, by decide, by decide, ?_⟩
        rw [hsucc]
        simp only [← hz, ← hy, encQ]
        refine le_intro hB [] (by simp) (fun b _ => rfl) rfl ?_ ?_ rfl <;> simp -dsimp -implicitDefEqProofs only [zr, zo, push_cast, ↓trAdd_f, ↓stOf_f, seval]
        all_goals exact of_eq_true zw
  · have he : k = 4 := by simp at h; omega
    have hd := hdone he
    subst he
    rw [← hd]
    obtain ⟨w0, hw0⟩ : ∃ w, w = oneP one := ⟨_, rfl⟩
    obtain ⟨z0r, z0o, z0w⟩ := oneP_facts hone hw0 (by decide : 4 ≤ 5)
    simp only [← hw0]
    refine awp_exit rfl ?_
    try refine hK _ ?_
    repeat (first | refine awp_seq ?_ | refine awp_block ?_ | refine awp_skip ?_ | refine awp_scope ?_ | refine awp_label ?_)
    refine awp_region tabOk fun K hK => ?_
    simp -dsimp -implicitDefEqProofs only [push_cast, ↓trAdd_f, ↓stOf_f, seval]
    refine hK _ (awp_ret ?_)
    simp -dsimp -implicitDefEqProofs only [z0o, push_cast, List.mem_append, List.mem_cons, List.mem_singleton, forall_eq_or_imp, forall_eq, ↓trAdd_f, ↓stOf_f, seval]


theorem choose5_ok (x0 x1 x2 x3 x4 : QS) (now until_ : Int) : FnS Try.prog 33 [.own 5 1 0 5, .int .i64 now, .int .i64 until_] [(0, .box (encQ x0)), (1, .box (encQ x1)), (2, .box (encQ x2)), (3, .box (encQ x3)), (4, .box (encQ x4)), (5, .row 1 [[.ptr 0 0], [.ptr 1 0], [.ptr 2 0], [.ptr 3 0], [.ptr 4 0]])]
    (.tup [oneP (scan now until_ [x0, x1, x2, x3, x4]).2.1, .int .i64 (scan now until_ [x0, x1, x2, x3, x4]).2.2, .bool (scan now until_ [x0, x1, x2, x3, x4]).1]) [(0, .box (encQ x0)), (1, .box (encQ x1)), (2, .box (encQ x2)), (3, .box (encQ x3)), (4, .box (encQ x4)), (5, .row 1 [[.ptr 0 0], [.ptr 1 0], [.ptr 2 0], [.ptr 3 0], [.ptr 4 0]])] := by
  refine fn_walkP tabOk Try.func33 rfl (by decide +kernel) Try.ntmps33 Try.results33 (by simp) fun B hB => ?_
  try simp only [encQ]
  try refine hK _ ?_
  repeat (first | refine awp_seq ?_ | refine awp_block ?_ | refine awp_skip ?_ | refine awp_scope ?_ | refine awp_label ?_)
  refine awp_region tabOk fun K hK => ?_
  simp -dsimp -implicitDefEqProofs only [push_cast, ↓trAdd_f, ↓stOf_f, seval]
  try refine hK _ ?_
  repeat (first | refine awp_seq ?_ | refine awp_block ?_ | refine awp_skip ?_ | refine awp_scope ?_ | refine awp_label ?_)
  refine awp_region tabOk fun K hK => ?_
  simp -dsimp -implicitDefEqProofs only [push_cast, ↓trAdd_f, ↓stOf_f, seval]
  refine hK _ (awp_block ?_)
  refine awp_for (fun k : Nat => { sl := [(0, .own 5 1 0 5), (1, .int .i64 now), (2, .int .i64 until_), (6, oneP (scanN now until_ [x0, x1, x2, x3, x4] k).2.1), (7, .int .i64 (scanN now until_ [x0, x1, x2, x3, x4] k).2.2), (8, .bool (scanN now until_ [x0, x1, x2, x3, x4] k).1), (11, .own 5 1 0 5), (12, .int .i64 5), (13, .int .i64 k)], st := [(0, .box (encQ x0)), (1, .box (encQ x1)), (2, .box (encQ x2)), (3, .box (encQ x3)), (4, .box (encQ x4)), (5, .row 1 [[.ptr 0 0], [.ptr 1 0], [.ptr 2 0], [.ptr 3 0], [.ptr 4 0]])], nx := 40, n := 52 }) (fun k => k ≤ 5) (fun k => 5 - k) 0 (Nat.zero_le _) ?_ fun k hk => ?_
  · have e0 : scanN now until_ [x0, x1, x2, x3, x4] 0 = (false, none, 0) := rfl
    refine le_intro hB [] (by simp) (fun b _ => rfl) rfl ?_ ?_ rfl <;> simp -dsimp -implicitDefEqProofs only [e0, oneP, encQ, push_cast, ↓trAdd_f, ↓stOf_f, seval]
  have hsc := scanN_spec now until_ [x0, x1, x2, x3, x4] k
  have hsucc : scanN now until_ [x0, x1, x2, x3, x4] (k + 1) = scanStep now until_ k (([x0, x1, x2, x3, x4] : List QS).getD k zeroQ) (scanN now until_ [x0, x1, x2, x3, x4] k) := rfl
  have hdone : k = 5 → scanN now until_ [x0, x1, x2, x3, x4] k = scan now until_ [x0, x1, x2, x3, x4] := fun e => by subst e; rfl
  generalize scanN now until_ [x0, x1, x2, x3, x4] k = r at *
  obtain ⟨left, one, soon⟩ := r
  try simp only at hsc hsucc hdone
  have hone : ∀ j, one = some j → j < k := fun j hj => (hsc.one j hj).1
  try simp only [encQ]
  try refine hK _ ?_
  repeat (first | refine awp_seq ?_ | refine awp_block ?_ | refine awp_skip ?_ | refine awp_scope ?_ | refine awp_label ?_)
  refine awp_region tabOk fun K hK => ?_
  simp -dsimp -implicitDefEqProofs only [push_cast, ↓trAdd_f, ↓stOf_f, seval]
  try refine hK _ ?_
  repeat (first | refine awp_seq ?_ | refine awp_block ?_ | refine awp_skip ?_ | refine awp_scope ?_ | refine awp_label ?_)
  refine awp_cond (b := decide ((k : Int) < 5)) (by simp -dsimp -implicitDefEqProofs only [push_cast, ↓trAdd_f, ↓stOf_f, seval]) (fun h => ?_) (fun h => ?_)
  · have hlt : k < 5 := by simp at h; omega
    clear h hdone hsc
    have : k = 0 ∨ k = 1 ∨ k = 2 ∨ k = 3 ∨ k = 4 := by omega
    rcases this with rfl | rfl | rfl | rfl | rfl
    · have hx : ([x0, x1, x2, x3, x4] : List QS).getD 0 zeroQ = x0 := rfl
      rw [hx] at hsucc
      obtain ⟨w0, hw0⟩ : ∃ w, w = oneP one := ⟨_, rfl⟩
      obtain ⟨z0r, z0o, z0w⟩ := oneP_facts hone hw0 (by decide : 0 ≤ 40)
      try refine hK _ ?_
      repeat (first | refine awp_seq ?_ | refine awp_block ?_ | refine awp_skip ?_ | refine awp_scope ?_ | refine awp_label ?_)
      refine awp_region tabOk fun K hK => ?_
      simp -dsimp -implicitDefEqProofs only [tn1, tn2, tn3, tn4, push_cast, ↓trAdd_f, ↓stOf_f, seval]
      try refine hK _ ?_
      repeat (first | refine awp_seq ?_ | refine awp_block ?_ | refine awp_skip ?_ | refine awp_scope ?_ | refine awp_label ?_)
      refine awp_region tabOk fun K hK => ?_
      simp -dsimp -implicitDefEqProofs only [push_cast, ↓trAdd_f, ↓stOf_f, seval]
      try refine hK _ ?_
      repeat (first | refine awp_seq ?_ | refine awp_block ?_ | refine awp_skip ?_ | refine awp_scope ?_ | refine awp_label ?_)
      refine awp_cond (b := decide (until_ ≤ x0.due)) (by simp -dsimp -implicitDefEqProofs only [push_cast, ↓trAdd_f, ↓stOf_f, seval]) (fun h => ?_) (fun h => ?_)
      · have hst : scanStep now until_ 0 x0 (left, one, soon) = (left, one, soon) := by unfold scanStep; rw [if_pos (by simpa using h)]
        rw [hst] at hsucc
        refine awp_exit rfl ?_
        try refine hK _ ?_
        repeat (first | refine awp_seq ?_ | refine awp_block ?_ | refine awp_skip ?_ | refine awp_scope ?_ | refine awp_label ?_)
        refine awp_region tabOk fun K hK => ?_
        simp -dsimp -implicitDefEqProofs only [push_cast, ↓trAdd_f, ↓stOf_f, seval]
        try simp (disch := omega) only [wrap_i64, wrap_u8, wrap_u16, wrap_u32]
        refine hK _ ⟨1, by decide, by decide, ?_⟩
        rw [hsucc]
        simp only [← hw0]
        refine le_intro hB [] (by simp) (fun b _ => rfl) rfl ?_ ?_ rfl <;> simp -dsimp -implicitDefEqProofs only [z0r, z0o, encQ, push_cast, ↓trAdd_f, ↓stOf_f, seval]
        all_goals exact of_eq_true z0w
      · have hst : scanStep now until_ 0 x0 (left, one, soon) = (true, if one = none ∧ x0.wts ≤ now then some 0 else one, if left = false ∨ x0.wts < soon then x0.wts else soon) := by unfold scanStep; rw [if_neg (by simpa using h)]
        rw [hst] at hsucc
        clear h hst
        obtain ⟨z, hz⟩ : ∃ z, z = oneP (if one = none ∧ x0.wts ≤ now then some 0 else one) := ⟨_, rfl⟩
        obtain ⟨y, hy⟩ : ∃ y, y = if left = false ∨ x0.wts < soon then x0.wts else soon := ⟨_, rfl⟩
        have hone' : ∀ j, (if one = none ∧ x0.wts ≤ now then some 0 else one) = some j → j < 1 := fun j hj => by
          split at hj
          · cases hj; decide
          · have := hone j hj; omega
        obtain ⟨zr, zo, zw⟩ := oneP_facts hone' hz (by decide : 1 ≤ 40)
        rw [← hw0]
        refine awp_skip ?_
        refine awp_seq ?_
        refine awp_join { sl := [(0, .own 5 1 0 5), (1, .int .i64 now), (2, .int .i64 until_), (6, w0), (7, .int .i64 y), (8, .bool left), (10, .ptr 0 0), (11, .own 5 1 0 5), (12, .int .i64 5), (13, .int .i64 0)], st := [(0, .box (encQ x0)), (1, .box (encQ x1)), (2, .box (encQ x2)), (3, .box (encQ x3)), (4, .box (encQ x4)), (5, .row 1 [[.ptr 0 0], [.ptr 1 0], [.ptr 2 0], [.ptr 3 0], [.ptr 4 0]])], nx := 40, n := 52 } ?_ (fun _ hl h => awp_le hl h) ?_
        · cases left with
          | false =>
            have e : y = x0.wts := by rw [hy, if_pos (.inl rfl)]
            try refine hK _ ?_
            repeat (first | refine awp_seq ?_ | refine awp_block ?_ | refine awp_skip ?_ | refine awp_scope ?_ | refine awp_label ?_)
            refine awp_region tabOk fun K hK => ?_
            simp -dsimp -implicitDefEqProofs only [push_cast, ↓trAdd_f, ↓stOf_f, seval]
            try refine hK _ ?_
            repeat (first | refine awp_seq ?_ | refine awp_block ?_ | refine awp_skip ?_ | refine awp_scope ?_ | refine awp_label ?_)
            refine awp_cond (b := true) (by simp -dsimp -implicitDefEqProofs only [push_cast, ↓trAdd_f, ↓stOf_f, seval]) (fun h => ?_) (fun h => ?_)
            · try refine hK _ ?_
              repeat (first | refine awp_seq ?_ | refine awp_block ?_ | refine awp_skip ?_ | refine awp_scope ?_ | refine awp_label ?_)
              refine awp_region tabOk fun K hK => ?_
              simp -dsimp -implicitDefEqProofs only [push_cast, ↓trAdd_f, ↓stOf_f, seval]
              refine hK _ ?_
              try simp only [encQ]
              refine le_intro hB [] (by simp) (fun b _ => rfl) rfl ?_ ?_ rfl <;> simp -dsimp -implicitDefEqProofs only [z0r, z0o, e, push_cast, ↓trAdd_f, ↓stOf_f, seval]
              all_goals exact of_eq_true z0w
            · simp at h
          | true =>
            try refine hK _ ?_
            repeat (first | refine awp_seq ?_ | refine awp_block ?_ | refine awp_skip ?_ | refine awp_scope ?_ | refine awp_label ?_)
            refine awp_region tabOk fun K hK => ?_
            simp -dsimp -implicitDefEqProofs only [push_cast, ↓trAdd_f, ↓stOf_f, seval]
            try refine hK _ ?_
            repeat (first | refine awp_seq ?_ | refine awp_block ?_ | refine awp_skip ?_ | refine awp_scope ?_ | refine awp_label ?_)
            refine awp_cond (b := decide (x0.wts < soon)) (by simp -dsimp -implicitDefEqProofs only [push_cast, ↓trAdd_f, ↓stOf_f, seval]) (fun h => ?_) (fun h => ?_)
            · have e : y = x0.wts := by rw [hy, if_pos (.inr (by simpa using h))]
              try refine hK _ ?_
              repeat (first | refine awp_seq ?_ | refine awp_block ?_ | refine awp_skip ?_ | refine awp_scope ?_ | refine awp_label ?_)
              refine awp_region tabOk fun K hK => ?_
              simp -dsimp -implicitDefEqProofs only [push_cast, ↓trAdd_f, ↓stOf_f, seval]
              refine hK _ ?_
              try simp only [encQ]
              refine le_intro hB [] (by simp) (fun b _ => rfl) rfl ?_ ?_ rfl <;> simp -dsimp -implicitDefEqProofs only [z0r, z0o, e, push_cast, ↓trAdd_f, ↓stOf_f, seval]
              all_goals exact of_eq_true z0w
            · have e : y = soon := by rw [hy, if_neg (by simp at h; simp; omega)]
              refine awp_skip ?_
              try simp only [encQ]
              refine le_intro hB [] (by simp) (fun b _ => rfl) rfl ?_ ?_ rfl <;> simp -dsimp -implicitDefEqProofs only [z0r, z0o, e, push_cast, ↓trAdd_f, ↓stOf_f, seval]
              all_goals exact of_eq_true z0w
        try simp only [encQ]
        try refine hK _ ?_
        repeat (first | refine awp_seq ?_ | refine awp_block ?_ | refine awp_skip ?_ | refine awp_scope ?_ | refine awp_label ?_)
        refine awp_region tabOk fun K hK => ?_
        simp -dsimp -implicitDefEqProofs only [push_cast, ↓trAdd_f, ↓stOf_f, seval]
        refine hK _ ?_
        refine awp_join { sl := [(0, .own 5 1 0 5), (1, .int .i64 now), (2, .int .i64 until_), (6, z), (7, .int .i64 y), (8, .bool true), (11, .own 5 1 0 5), (12, .int .i64 5), (13, .int .i64 0)], st := [(0, .box (encQ x0)), (1, .box (encQ x1)), (2, .box (encQ x2)), (3, .box (encQ x3)), (4, .box (encQ x4)), (5, .row 1 [[.ptr 0 0], [.ptr 1 0], [.ptr 2 0], [.ptr 3 0], [.ptr 4 0]])], nx := 40, n := 52 } ?_ (fun _ hl h => awp_le hl h) ?_
        · cases one with
          | none =>
            have e0 : w0 = .nilp := hw0
            subst e0
            try refine hK _ ?_
            repeat (first | refine awp_seq ?_ | refine awp_block ?_ | refine awp_skip ?_ | refine awp_scope ?_ | refine awp_label ?_)
            refine awp_region tabOk fun K hK => ?_
            simp -dsimp -implicitDefEqProofs only [push_cast, ↓trAdd_f, ↓stOf_f, seval]
            try refine hK _ ?_
            repeat (first | refine awp_seq ?_ | refine awp_block ?_ | refine awp_skip ?_ | refine awp_scope ?_ | refine awp_label ?_)
            refine awp_cond (b := decide (x0.wts ≤ now)) (by simp -dsimp -implicitDefEqProofs only [push_cast, ↓trAdd_f, ↓stOf_f, seval]) (fun h => ?_) (fun h => ?_)
            · have e : z = .ptr 0 0 := by rw [hz, if_pos ⟨rfl, by simpa using h⟩]; rfl
              try refine hK _ ?_
              repeat (first | refine awp_seq ?_ | refine awp_block ?_ | refine awp_skip ?_ | refine awp_scope ?_ | refine awp_label ?_)
              refine awp_region tabOk fun K hK => ?_
              simp -dsimp -implicitDefEqProofs only [push_cast, ↓trAdd_f, ↓stOf_f, seval]
              refine hK _ ?_
              try simp only [encQ]
              refine le_intro hB [] (by simp) (fun b _ => rfl) rfl ?_ ?_ rfl <;> simp -dsimp -implicitDefEqProofs only [e, push_cast, ↓trAdd_f, ↓stOf_f, seval]
            · have e : z = .nilp := by rw [hz, if_neg (by simp at h; simp; omega)]; rfl
              refine awp_skip ?_
              try simp only [encQ]
              refine le_intro hB [] (by simp) (fun b _ => rfl) rfl ?_ ?_ rfl <;> simp -dsimp -implicitDefEqProofs only [e, push_cast, ↓trAdd_f, ↓stOf_f, seval]
          | some j =>
            have e0 : w0 = .ptr j 0 := hw0
            have e : z = .ptr j 0 := by rw [hz, if_neg (by simp)]; rfl
            have hj := hone j rfl
            have hj40 : j < 40 := by omega
            subst e0
            try refine hK _ ?_
            repeat (first | refine awp_seq ?_ | refine awp_block ?_ | refine awp_skip ?_ | refine awp_scope ?_ | refine awp_label ?_)
            refine awp_region tabOk fun K hK => ?_
            simp -dsimp -implicitDefEqProofs only [push_cast, ↓trAdd_f, ↓stOf_f, seval]
            try refine hK _ ?_
            repeat (first | refine awp_seq ?_ | refine awp_block ?_ | refine awp_skip ?_ | refine awp_scope ?_ | refine awp_label ?_)
            refine awp_cond (b := false) (by simp -dsimp -implicitDefEqProofs only [push_cast, ↓trAdd_f, ↓stOf_f, seval]) (fun h => ?_) (fun h => ?_)
            · simp at h
            refine awp_skip ?_
            try simp only [encQ]
            refine le_intro hB [] (by simp) (fun b _ => rfl) rfl ?_ ?_ rfl <;> simp -dsimp -implicitDefEqProofs only [e, hj40, renG, lk, push_cast, ↓trAdd_f, ↓stOf_f, seval]
        try refine hK _ ?_
        repeat (first | refine awp_seq ?_ | refine awp_block ?_ | refine awp_skip ?_ | refine awp_scope ?_ | refine awp_label ?_)
        refine awp_region tabOk fun K hK => ?_
        simp -dsimp -implicitDefEqProofs only [push_cast, ↓trAdd_f, ↓stOf_f, seval]
        try simp (disch := omega) only [wrap_i64, wrap_u8, wrap_u16, wrap_u32]
        refine hK _ ⟨1, by decide, by decide, ?_⟩
        rw [hsucc]
        simp only [← hz, ← hy, encQ]
        refine le_intro hB [] (by simp) (fun b _ => rfl) rfl ?_ ?_ rfl <;> simp -dsimp -implicitDefEqProofs only [zr, zo, push_cast, ↓trAdd_f, ↓stOf_f, seval]
        all_goals exact of_eq_true zw
    · have hx : ([x0, x1, x2, x3, x4] : List QS).getD 1 zeroQ = x1 := rfl
      rw [hx] at hsucc
      obtain ⟨w0, hw0⟩ : ∃ w, w = oneP one := ⟨_, rfl⟩
      obtain ⟨z0r, z0o, z0w⟩ := oneP_facts hone hw0 (by decide : 1 ≤ 40)
      try refine hK _ ?_
      repeat (first | refine awp_seq ?_ | refine awp_block ?_ | refine awp_skip ?_ | refine awp_scope ?_ | refine awp_label ?_)
      refine awp_region tabOk fun K hK => ?_
      simp -dsimp -implicitDefEqProofs only [tn1, tn2, tn3, tn4, push_cast, ↓trAdd_f, ↓stOf_f, seval]
      try refine hK _ ?_
      repeat (first | refine awp_seq ?_ | refine awp_block ?_ | refine awp_skip ?_ | refine awp_scope ?_ | refine awp_label ?_)
      refine awp_region tabOk fun K hK => ?_
      simp -dsimp -implicitDefEqProofs only [push_cast, ↓trAdd_f, ↓stOf_f, seval]
      try refine hK _ ?_
      repeat (first | refine awp_seq ?_ | refine awp_block ?_ | refine awp_skip ?_ | refine awp_scope ?_ | refine awp_label ?_)
      refine awp_cond (b := decide (until_ ≤ x1.due)) (by simp -dsimp -implicitDefEqProofs only [push_cast, ↓trAdd_f, ↓stOf_f, seval]) (fun h => ?_) (fun h => ?_)
      · have hst : scanStep now until_ 1 x1 (left, one, soon) = (left, one, soon) := by unfold scanStep; rw [if_pos (by simpa using h)]
        rw [hst] at hsucc
        refine awp_exit rfl ?_
        try refine hK _ ?_
        repeat (first | refine awp_seq ?_ | refine awp_block ?_ | refine awp_skip ?_ | refine awp_scope ?_ | refine awp_label ?_)
        refine awp_region tabOk fun K hK => ?_
        simp -dsimp -implicitDefEqProofs only [push_cast, ↓trAdd_f, ↓stOf_f, seval]
        try simp (disch := omega) only [wrap_i64, wrap_u8, wrap_u16, wrap_u32]
        refine hK _ ⟨2, by decide, by decide, ?_⟩
        rw [hsucc]
        simp only [← hw0]
        refine le_intro hB [] (by simp) (fun b _ => rfl) rfl ?_ ?_ rfl <;> simp -dsimp -implicitDefEqProofs only [z0r, z0o, encQ, push_cast, ↓trAdd_f, ↓stOf_f, seval]
        all_goals exact of_eq_true z0w
      · have hst : scanStep now until_ 1 x1 (left, one, soon) = (true, if one = none ∧ x1.wts ≤ now then some 1 else one, if left = false ∨ x1.wts < soon then x1.wts else soon) := by unfold scanStep; rw [if_neg (by simpa using h)]
        rw [hst] at hsucc
        clear h hst
        obtain ⟨z, hz⟩ : ∃ z, z = oneP (if one = none ∧ x1.wts ≤ now then some 1 else one) := ⟨_, rfl⟩
        obtain ⟨y, hy⟩ : ∃ y, y = if left = false ∨ x1.wts < soon then x1.wts else soon := ⟨_, rfl⟩
        have hone' : ∀ j, (if one = none ∧ x1.wts ≤ now then some 1 else one) = some j → j < 2 := fun j hj => by
          split at hj
          · cases hj; decide
          · have := hone j hj; omega
        obtain ⟨zr, zo, zw⟩ := oneP_facts hone' hz (by decide : 2 ≤ 40)
        rw [← hw0]
        refine awp_skip ?_
        refine awp_seq ?_
        refine awp_join { sl := [(0, .own 5 1 0 5), (1, .int .i64 now), (2, .int .i64 until_), (6, w0), (7, .int .i64 y), (8, .bool left), (10, .ptr 1 0), (11, .own 5 1 0 5), (12, .int .i64 5), (13, .int .i64 1)], st := [(0, .box (encQ x0)), (1, .box (encQ x1)), (2, .box (encQ x2)), (3, .box (encQ x3)), (4, .box (encQ x4)), (5, .row 1 [[.ptr 0 0], [.ptr 1 0], [.ptr 2 0], [.ptr 3 0], [.ptr 4 0]])], nx := 40, n := 52 } ?_ (fun _ hl h => awp_le hl h) ?_
        · cases left with
          | false =>
            have e : y = x1.wts := by rw [hy, if_pos (.inl rfl)]
            try refine hK _ ?_
            repeat (first | refine awp_seq ?_ | refine awp_block ?_ | refine awp_skip ?_ | refine awp_scope ?_ | refine awp_label ?_)
            refine awp_region tabOk fun K hK => ?_
            simp -dsimp -implicitDefEqProofs only [push_cast, ↓trAdd_f, ↓stOf_f, seval]
            try refine hK _ ?_
            repeat (first | refine awp_seq ?_ | refine awp_block ?_ | refine awp_skip ?_ | refine awp_scope ?_ | refine awp_label ?_)
            refine awp_cond (b := true) (by simp -dsimp -implicitDefEqProofs only [push_cast, ↓trAdd_f, ↓stOf_f, seval]) (fun h => ?_) (fun h => ?_)
            · try refine hK _ ?_
              repeat (first | refine awp_seq ?_ | refine awp_block ?_ | refine awp_skip ?_ | refine awp_scope ?_ | refine awp_label ?_)
              refine awp_region tabOk fun K hK => ?_
              simp -dsimp -implicitDefEqProofs only [push_cast, ↓trAdd_f, ↓stOf_f, seval]
              refine hK _ ?_
              try simp only [encQ]
              refine le_intro hB [] (by simp) (fun b _ => rfl) rfl ?_ ?_ rfl <;> simp -dsimp -implicitDefEqProofs only [z0r, z0o, e, push_cast, ↓trAdd_f, ↓stOf_f, seval]
              all_goals exact of_eq_true z0w
            · simp at h
          | true =>
            try refine hK _ ?_
            repeat (first | refine awp_seq ?_ | refine awp_block ?_ | refine awp_skip ?_ | refine awp_scope ?_ | refine awp_label ?_)
            refine awp_region tabOk fun K hK => ?_
            simp -dsimp -implicitDefEqProofs only [push_cast, ↓trAdd_f, ↓stOf_f, seval]
            try refine hK _ ?_
            repeat (first | refine awp_seq ?_ | refine awp_block ?_ | refine awp_skip ?_ | refine awp_scope ?_ | refine awp_label ?_)
            refine awp_cond (b := decide (x1.wts < soon)) (by simp -dsimp -implicitDefEqProofs only [push_cast, ↓trAdd_f, ↓stOf_f, seval]) (fun h => ?_) (fun h => ?_)
            · have e : y = x1.wts := by rw [hy, if_pos (.inr (by simpa using h))]
              try refine hK _ ?_
              repeat (first | refine awp_seq ?_ | refine awp_block ?_ | refine awp_skip ?_ | refine awp_scope ?_ | refine awp_label ?_)
              refine awp_region tabOk fun K hK => ?_
              simp -dsimp -implicitDefEqProofs only [push_cast, ↓trAdd_f, ↓stOf_f, seval]
              refine hK _ ?_
              try simp only [encQ]
              refine le_intro hB [] (by simp) (fun b _ => rfl) rfl ?_ ?_ rfl <;> simp -dsimp -implicitDefEqProofs only [z0r, z0o, e, push_cast, ↓trAdd_f, ↓stOf_f, seval]
              all_goals exact of_eq_true z0w
            · have e : y = soon := by rw [hy, if_neg (by simp at h; simp; omega)]
              refine awp_skip ?_
              try simp only [encQ]
              refine le_intro hB [] (by simp) (fun b _ => rfl) rfl ?_ ?_ rfl <;> simp -dsimp -implicitDefEqProofs only [z0r, z0o, e, push_cast, ↓trAdd_f, ↓stOf_f, seval]
              all_goals exact of_eq_true z0w
        try simp only [encQ]
        try refine hK _ ?_
        repeat (first | refine awp_seq ?_ | refine awp_block ?_ | refine awp_skip ?_ | refine awp_scope ?_ | refine awp_label ?_)
        refine awp_region tabOk fun K hK => ?_
        simp -dsimp -implicitDefEqProofs only [push_cast, ↓trAdd_f, ↓stOf_f, seval]
        refine hK _ ?_
        refine awp_join { sl := [(0, .own 5 1 0 5), (1, .int .i64 now), (2, .int .i64 until_), (6, z), (7, .int .i64 y), (8, .bool true), (11, .own 5 1 0 5), (12, .int .i64 5), (13, .int .i64 1)], st := [(0, .box (encQ x0)), (1, .box (encQ x1)), (2, .box (encQ x2)), (3, .box (encQ x3)), (4, .box (encQ x4)), (5, .row 1 [[.ptr 0 0], [.ptr 1 0], [.ptr 2 0], [.ptr 3 0], [.ptr 4 0]])], nx := 40, n := 52 } ?_ (fun _ hl h => awp_le hl h) ?_
        · cases one with
          | none =>
            have e0 : w0 = .nilp := hw0
            subst e0
            try refine hK _ ?_
            repeat (first | refine awp_seq ?_ | refine awp_block ?_ | refine awp_skip ?_ | refine awp_scope ?_ | refine awp_label ?_)
            refine awp_region tabOk fun K hK => ?_
            simp -dsimp -implicitDefEqProofs only [push_cast, ↓trAdd_f, ↓stOf_f, seval]
            try refine hK _ ?_
            repeat (first | refine awp_seq ?_ | refine awp_block ?_ | refine awp_skip ?_ | refine awp_scope ?_ | refine awp_label ?_)
            refine awp_cond (b := decide (x1.wts ≤ now)) (by simp -dsimp -implicitDefEqProofs only [push_cast, ↓trAdd_f, ↓stOf_f, seval]) (fun h => ?_) (fun h => ?_)
            · have e : z = .ptr 1 0 := by rw [hz, if_pos ⟨rfl, by simpa using h⟩]; rfl
              try refine hK _ ?_
              repeat (first | refine awp_seq ?_ | refine awp_block ?_ | refine awp_skip ?_ | refine awp_scope ?_ | refine awp_label ?_)
              refine awp_region tabOk fun K hK => ?_
              simp -dsimp -implicitDefEqProofs only [push_cast, ↓trAdd_f, ↓stOf_f, seval]
              refine hK _ ?_
              try simp only [encQ]
              refine le_intro hB [] (by simp) (fun b _ => rfl) rfl ?_ ?_ rfl <;> simp -dsimp -implicitDefEqProofs only [e, push_cast, ↓trAdd_f, ↓stOf_f, seval]
            · have e : z = .nilp := by rw [hz, if_neg (by simp at h; simp; omega)]; rfl
              refine awp_skip ?_
              try simp only [encQ]
              refine le_intro hB [] (by simp) (fun b _ => rfl) rfl ?_ ?_ rfl <;> simp -dsimp -implicitDefEqProofs only [e, push_cast, ↓trAdd_f, ↓stOf_f, seval]
          | some j =>
            have e0 : w0 = .ptr j 0 := hw0
            have e : z = .ptr j 0 := by rw [hz, if_neg (by simp)]; rfl
            have hj := hone j rfl
            have hj40 : j < 40 := by omega
            subst e0
            try refine hK _ ?_
            repeat (first | refine awp_seq ?_ | refine awp_block ?_ | refine awp_skip ?_ | refine awp_scope ?_ | refine awp_label ?_)
            refine awp_region tabOk fun K hK => ?_
            simp -dsimp -implicitDefEqProofs only [push_cast, ↓trAdd_f, ↓stOf_f, seval]
            try refine hK _ ?_
            repeat (first | refine awp_seq ?_ | refine awp_block ?_ | refine awp_skip ?_ | refine awp_scope ?_ | refine awp_label ?_)
            refine awp_cond (b := false) (by simp -dsimp -implicitDefEqProofs only [push_cast, ↓trAdd_f, ↓stOf_f, seval]) (fun h => ?_) (fun h => ?_)
            · simp at h
            refine awp_skip ?_
            try simp only [encQ]
            refine le_intro hB [] (by simp) (fun b _ => rfl) rfl ?_ ?_ rfl <;> simp -dsimp -implicitDefEqProofs only [e, hj40, renG, lk, push_cast, ↓trAdd_f, ↓stOf_f, seval]
        try refine hK _ ?_
        repeat (first | refine awp_seq ?_ | refine awp_block ?_ | refine awp_skip ?_ | refine awp_scope ?_ | refine awp_label ?_)
        refine awp_region tabOk fun K hK => ?_
        simp -dsimp -implicitDefEqProofs only [push_cast, ↓trAdd_f, ↓stOf_f, seval]
        try simp (disch := omega) only [wrap_i64, wrap_u8, wrap_u16, wrap_u32]
        refine hK _ ⟨2, by decide, by decide, ?_⟩
        rw [hsucc]
        simp only [← hz, ← hy, encQ]
        refine le_intro hB [] (by simp) (fun b _ => rfl) rfl ?_ ?_ rfl <;> simp -dsimp -implicitDefEqProofs only [zr, zo, push_cast, ↓trAdd_f, ↓stOf_f, seval]
        all_goals exact of_eq_true zw
    · have hx : ([x0, x1, x2, x3, x4] : List QS).getD 2 zeroQ = x2 := rfl
      rw [hx] at hsucc
      obtain ⟨w0, hw0⟩ : ∃ w, w = oneP one := ⟨_, rfl⟩
      obtain ⟨z0r, z0o, z0w⟩ := oneP_facts hone hw0 (by decide : 2 ≤ 40)
      try refine hK _ ?_
      repeat (first | refine awp_seq ?_ | refine awp_block ?_ | refine awp_skip ?_ | refine awp_scope ?_ | refine awp_label ?_)
      refine awp_region tabOk fun K hK => ?_
      simp -dsimp -implicitDefEqProofs only [tn1, tn2, tn3, tn4, push_cast, ↓trAdd_f, ↓stOf_f, seval]
      try refine hK _ ?_
      repeat (first | refine awp_seq ?_ | refine awp_block ?_ | refine awp_skip ?_ | refine awp_scope ?_ | refine awp_label ?_)
      refine awp_region tabOk fun K hK => ?_
      simp -dsimp -implicitDefEqProofs only [push_cast, ↓trAdd_f, ↓stOf_f, seval]
      try refine hK _ ?_
      repeat (first | refine awp_seq ?_ | refine awp_block ?_ | refine awp_skip ?_ | refine awp_scope ?_ | refine awp_label ?_)
      refine awp_cond (b := decide (until_ ≤ x2.due)) (by simp -dsimp -implicitDefEqProofs only [push_cast, ↓trAdd_f, ↓stOf_f, seval]) (fun h => ?_) (fun h => ?_)
      · have hst : scanStep now until_ 2 x2 (left, one, soon) = (left, one, soon) := by unfold scanStep; rw [if_pos (by simpa using h)]
        rw [hst] at hsucc
        refine awp_exit rfl ?_
        try refine hK _ ?_
        repeat (first | refine awp_seq ?_ | refine awp_block ?_ | refine awp_skip ?_ | refine awp_scope ?_ | refine awp_label ?_)
        refine awp_region tabOk fun K hK => ?_
        simp -dsimp -implicitDefEqProofs only [push_cast, ↓trAdd_f, ↓stOf_f, seval]
        try simp (disch := omega) only [wrap_i64, wrap_u8, wrap_u16, wrap_u32]
        refine hK _ ⟨3, by decide, by decide, ?_⟩
        rw [hsucc]
        simp only [← hw0]
        refine le_intro hB [] (by simp) (fun b _ => rfl) rfl ?_ ?_ rfl <;> simp -dsimp -implicitDefEqProofs only [z0r, z0o, encQ, push_cast, ↓trAdd_f, ↓stOf_f, seval]
        all_goals exact of_eq_true z0w
      · have hst : scanStep now until_ 2 x2 (left, one, soon) = (true, if one = none ∧ x2.wts ≤ now then some 2 else one, if left = false ∨ x2.wts < soon then x2.wts else soon) := by unfold scanStep; rw [if_neg (by simpa using h)]
        rw [hst] at hsucc
        clear h hst
        obtain ⟨z, hz⟩ : ∃ z, z = oneP (if one = none ∧ x2.wts ≤ now then some 2 else one) := ⟨_, rfl⟩
        obtain ⟨y, hy⟩ : ∃ y, y = if left = false ∨ x2.wts < soon then x2.wts else soon := ⟨_, rfl⟩
        have hone' : ∀ j, (if one = none ∧ x2.wts ≤ now then some 2 else one) = some j → j < 3 := fun j hj => by
          split at hj
          · cases hj; decide
          · have := hone j hj; omega
        obtain ⟨zr, zo, zw⟩ := oneP_facts hone' hz (by decide : 3 ≤ 40)
        rw [← hw0]
        refine awp_skip ?_
        refine awp_seq ?_
        refine awp_join { sl := [(0, .own 5 1 0 5), (1, .int .i64 now), (2, .int .i64 until_), (6, w0), (7, .int .i64 y), (8, .bool left), (10, .ptr 2 0), (11, .own 5 1 0 5), (12, .int .i64 5), (13, .int .i64 2)], st := [(0, .box (encQ x0)), (1, .box (encQ x1)), (2, .box (encQ x2)), (3, .box (encQ x3)), (4, .box (encQ x4)), (5, .row 1 [[.ptr 0 0], [.ptr 1 0], [.ptr 2 0], [.ptr 3 0], [.ptr 4 0]])], nx := 40, n := 52 } ?_ (fun _ hl h => awp_le hl h) ?_
        · cases left with
          | false =>
            have e : y = x2.wts := by rw [hy, if_pos (.inl rfl)]
            try refine hK _ ?_
            repeat (first | refine awp_seq ?_ | refine awp_block ?_ | refine awp_skip ?_ | refine awp_scope ?_ | refine awp_label ?_)
            refine awp_region tabOk fun K hK => ?_
            simp -dsimp -implicitDefEqProofs only [push_cast, ↓trAdd_f, ↓stOf_f, seval]
            try refine hK _ ?_
            repeat (first | refine awp_seq ?_ | refine awp_block ?_ | refine awp_skip ?_ | refine awp_scope ?_ | refine awp_label ?_)
            refine awp_cond (b := true) (by simp -dsimp -implicitDefEqProofs only [push_cast, ↓trAdd_f, ↓stOf_f, seval]) (fun h => ?_) (fun h => ?_)
            · try refine hK _ ?_
              repeat (first | refine awp_seq ?_ | refine awp_block ?_ | refine awp_skip ?_ | refine awp_scope ?_ | refine awp_label ?_)
              refine awp_region tabOk fun K hK => ?_
              simp -dsimp -implicitDefEqProofs only [push_cast, ↓trAdd_f, ↓stOf_f, seval]
              refine hK _ ?_
              try simp only [encQ]
              refine le_intro hB [] (by simp) (fun b _ => rfl) rfl ?_ ?_ rfl <;> simp -dsimp -implicitDefEqProofs only [z0r, z0o, e, push_cast, ↓trAdd_f, ↓stOf_f, seval]
              all_goals exact of_eq_true z0w
            · simp at h
          | true =>
            try refine hK _ ?_
            repeat (first | refine awp_seq ?_ | refine awp_block ?_ | refine awp_skip ?_ | refine awp_scope ?_ | refine awp_label ?_)
            refine awp_region tabOk fun K hK => ?_
            simp -dsimp -implicitDefEqProofs only [push_cast, ↓trAdd_f, ↓stOf_f, seval]
            try refine hK _ ?_
            repeat (first | refine awp_seq ?_ | refine awp_block ?_ | refine awp_skip ?_ | refine awp_scope ?_ | refine awp_label ?_)
            refine awp_cond (b := decide (x2.wts < soon)) (by simp -dsimp -implicitDefEqProofs only [push_cast, ↓trAdd_f, ↓stOf_f, seval]) (fun h => ?_) (fun h => ?_)
            · have e : y = x2.wts := by rw [hy, if_pos (.inr (by simpa using h))]
              try refine hK _ ?_
              repeat (first | refine awp_seq ?_ | refine awp_block ?_ | refine awp_skip ?_ | refine awp_scope ?_ | refine awp_label ?_)
              refine awp_region tabOk fun K hK => ?_
              simp -dsimp -implicitDefEqProofs only [push_cast, ↓trAdd_f, ↓stOf_f, seval]
              refine hK _ ?_
              try simp only [encQ]
              refine le_intro hB [] (by simp) (fun b _ => rfl) rfl ?_ ?_ rfl <;> simp -dsimp -implicitDefEqProofs only [z0r, z0o, e, push_cast, ↓trAdd_f, ↓stOf_f, seval]
              all_goals exact of_eq_true z0w
            · have e : y = soon := by rw [hy, if_neg (by simp at h; simp; omega)]
              refine awp_skip ?_
              try simp only [encQ]
              refine le_intro hB [] (by simp) (fun b _ => rfl) rfl ?_ ?_ rfl <;> simp -dsimp -implicitDefEqProofs only [z0r, z0o, e, push_cast, ↓trAdd_f, ↓stOf_f, seval]
              all_goals exact of_eq_true z0w
        try simp only [encQ]
        try refine hK _ ?_
        repeat (first | refine awp_seq ?_ | refine awp_block ?_ | refine awp_skip ?_ | refine awp_scope ?_ | refine awp_label ?_)
        refine awp_region tabOk fun K hK => ?_
        simp -dsimp -implicitDefEqProofs only [push_cast, ↓trAdd_f, ↓stOf_f, seval]
        refine hK _ ?_
        refine awp_join { sl := [(0, .own 5 1 0 5), (1, .int .i64 now), (2, .int .i64 until_), (6, z), (7, .int .i64 y), (8, .bool true), (11, .own 5 1 0 5), (12, .int .i64 5), (13, .int .i64 2)], st := [(0, .box (encQ x0)), (1, .box (encQ x1)), (2, .box (encQ x2)), (3, .box (encQ x3)), (4, .box (encQ x4)), (5, .row 1 [[.ptr 0 0], [.ptr 1 0], [.ptr 2 0], [.ptr 3 0], [.ptr 4 0]])], nx := 40, n := 52 } ?_ (fun _ hl h => awp_le hl h) ?_
        · cases one with
          | none =>
            have e0 : w0 = .nilp := hw0
            subst e0
            try refine hK _ ?_
            repeat (first | refine awp_seq ?_ | refine awp_block ?_ | refine awp_skip ?_ | refine awp_scope ?_ | refine awp_label ?_)
            refine awp_region tabOk fun K hK => ?_
            simp -dsimp -implicitDefEqProofs only [push_cast, ↓trAdd_f, ↓stOf_f, seval]
            try refine hK _ ?_
            repeat (first | refine awp_seq ?_ | refine awp_block ?_ | refine awp_skip ?_ | refine awp_scope ?_ | refine awp_label ?_)
            refine awp_cond (b := decide (x2.wts ≤ now)) (by simp -dsimp -implicitDefEqProofs only [push_cast, ↓trAdd_f, ↓stOf_f, seval]) (fun h => ?_) (fun h => ?_)
            · have e : z = .ptr 2 0 := by rw [hz, if_pos ⟨rfl, by simpa using h⟩]; rfl
              try refine hK _ ?_
              repeat (first | refine awp_seq ?_ | refine awp_block ?_ | refine awp_skip ?_ | refine awp_scope ?_ | refine awp_label ?_)
              refine awp_region tabOk fun K hK => ?_
              simp -dsimp -implicitDefEqProofs only [push_cast, ↓trAdd_f, ↓stOf_f, seval]
              refine hK _ ?_
              try simp only [encQ]
              refine le_intro hB [] (by simp) (fun b _ => rfl) rfl ?_ ?_ rfl <;> simp -dsimp -implicitDefEqProofs only [e, push_cast, ↓trAdd_f, ↓stOf_f, seval]
            · have e : z = .nilp := by rw [hz, if_neg (by simp at h; simp; omega)]; rfl
              refine awp_skip ?_
              try simp only [encQ]
              refine le_intro hB [] (by simp) (fun b _ => rfl) rfl ?_ ?_ rfl <;> simp -dsimp -implicitDefEqProofs only [e, push_cast, ↓trAdd_f, ↓stOf_f, seval]
          | some j =>
            have e0 : w0 = .ptr j 0 := hw0
            have e : z = .ptr j 0 := by rw [hz, if_neg (by simp)]; rfl
            have hj := hone j rfl
            have hj40 : j < 40 := by omega
            subst e0
            try refine hK _ ?_
            repeat (first | refine awp_seq ?_ | refine awp_block ?_ | refine awp_skip ?_ | refine awp_scope ?_ | refine awp_label ?_)
            refine awp_region tabOk fun K hK => ?_
            simp -dsimp -implicitDefEqProofs only [push_cast, ↓trAdd_f, ↓stOf_f, seval]
            try refine hK _ ?_
            repeat (first | refine awp_seq ?_ | refine awp_block ?_ | refine awp_skip ?_ | refine awp_scope ?_ | refine awp_label ?_)
            refine awp_cond (b := false) (by simp -dsimp -implicitDefEqProofs only [push_cast, ↓trAdd_f, ↓stOf_f, seval]) (fun h => ?_) (fun h => ?_)
            · simp at h
            refine awp_skip ?_
            try simp only [encQ]
            refine le_intro hB [] (by simp) (fun b _ => rfl) rfl ?_ ?_ rfl <;> simp -dsimp -implicitDefEqProofs only [e, hj40, renG, lk, push_cast, ↓trAdd_f, ↓stOf_f, seval]
        try refine hK _ ?_
        repeat (first | refine awp_seq ?_ | refine awp_block ?_ | refine awp_skip ?_ | refine awp_scope ?_ | refine awp_label ?_)
        refine awp_region tabOk fun K hK => ?_
        simp -dsimp -implicitDefEqProofs only [push_cast, ↓trAdd_f, ↓stOf_f, seval]
        try simp (disch := omega) only [wrap_i64, wrap_u8, wrap_u16, wrap_u32]
        refine hK _ ⟨3, by decide, by decide, ?_⟩
        rw [hsucc]
        simp only [← hz, ← hy, encQ]
        refine le_intro hB [] (by simp) (fun b _ => rfl) rfl ?_ ?_ rfl <;> simp -dsimp -implicitDefEqProofs only [zr, zo, push_cast, ↓trAdd_f, ↓stOf_f, seval]
        all_goals exact of_eq_true zw
    · have hx : ([x0, x1, x2, x3, x4] : List QS).getD 3 zeroQ = x3 := rfl
      rw [hx] at hsucc
      obtain ⟨w0, hw0⟩ : ∃ w, w = oneP one := ⟨_, rfl⟩
      obtain ⟨z0r, z0o, z0w⟩ := oneP_facts hone hw0 (by decide : 3 ≤ 40)
      try refine hK _ ?_
      repeat (first | refine awp_seq ?_ | refine awp_block ?_ | refine awp_skip ?_ | refine awp_scope ?_ | refine awp_label ?_)
      refine awp_region tabOk fun K hK => ?_
      simp -dsimp -implicitDefEqProofs only [tn1, tn2, tn3, tn4, push_cast, ↓trAdd_f, ↓stOf_f, seval]
      try refine hK _ ?_
      repeat (first | refine awp_seq ?_ | refine awp_block ?_ | refine awp_skip ?_ | refine awp_scope ?_ | refine awp_label ?_)
      refine awp_region tabOk fun K hK => ?_
      simp -dsimp -implicitDefEqProofs only [push_cast, ↓trAdd_f, ↓stOf_f, seval]
      try refine hK _ ?_
      repeat (first | refine awp_seq ?_ | refine awp_block ?_ | refine awp_skip ?_ | refine awp_scope ?_ | refine awp_label ?_)
      refine awp_cond (b := decide (until_ ≤ x3.due)) (by simp -dsimp -implicitDefEqProofs only [push_cast, ↓trAdd_f, ↓stOf_f, seval]) (fun h => ?_) (fun h => ?_)
      · have hst : scanStep now until_ 3 x3 (left, one, soon) = (left, one, soon) := by unfold scanStep; rw [if_pos (by simpa using h)]
        rw [hst] at hsucc
        refine awp_exit rfl ?_
        try refine hK _ ?_
        repeat (first | refine awp_seq ?_ | refine awp_block ?_ | refine awp_skip ?_ | refine awp_scope ?_ | refine awp_label ?_)
        refine awp_region tabOk fun K hK => ?_
        simp -dsimp -implicitDefEqProofs only [push_cast, ↓trAdd_f, ↓stOf_f, seval]
        try simp (disch := omega) only [wrap_i64, wrap_u8, wrap_u16, wrap_u32]
        refine hK _ ⟨4, by decide, by decide, ?_⟩
        rw [hsucc]
        simp only [← hw0]
        refine le_intro hB [] (by simp) (fun b _ => rfl) rfl ?_ ?_ rfl <;> simp -dsimp -implicitDefEqProofs only [z0r, z0o, encQ, push_cast, ↓trAdd_f, ↓stOf_f, seval]
        all_goals exact of_eq_true z0w
      · have hst : scanStep now until_ 3 x3 (left, one, soon) = (true, if one = none ∧ x3.wts ≤ now then some 3 else one, if left = false ∨ x3.wts < soon then x3.wts else soon) := by unfold scanStep; rw [if_neg (by simpa using h)]
        rw [hst] at hsucc
        clear h hst
        obtain ⟨z, hz⟩ : ∃ z, z = oneP (if one = none ∧ x3.wts ≤ now then some 3 else one) := ⟨_, rfl⟩
        obtain ⟨y, hy⟩ : ∃ y, y = if left = false ∨ x3.wts < soon then x3.wts else soon := ⟨_, rfl⟩
        have hone' : ∀ j, (if one = none ∧ x3.wts ≤ now then some 3 else one) = some j → j < 4 := fun j hj => by
          split at hj
          · cases hj; decide
          · have := hone j hj; omega
        obtain ⟨zr, zo, zw⟩ := oneP_facts hone' hz (by decide : 4 ≤ 40)
        rw [← hw0]
        refine awp_skip ?_
        refine awp_seq ?_
        refine awp_join { sl := [(0, .own 5 1 0 5), (1, .int .i64 now), (2, .int .i64 until_), (6, w0), (7, .int .i64 y), (8, .bool left), (10, .ptr 3 0), (11, .own 5 1 0 5), (12, .int .i64 5), (13, .int .i64 3)], st := [(0, .box (encQ x0)), (1, .box (encQ x1)), (2, .box (encQ x2)), (3, .box (encQ x3)), (4, .box (encQ x4)), (5, .row 1 [[.ptr 0 0], [.ptr 1 0], [.ptr 2 0], [.ptr 3 0], [.ptr 4 0]])], nx := 40, n := 52 } ?_ (fun _ hl h => awp_le hl h) ?_
        · cases left with
          | false =>
            have e : y = x3.wts := by rw [hy, if_pos (.inl rfl)]
            try refine hK _ ?_
            repeat (first | refine awp_seq ?_ | refine awp_block ?_ | refine awp_skip ?_ | refine awp_scope ?_ | refine awp_label ?_)
            refine awp_region tabOk fun K hK => ?_
            simp -dsimp -implicitDefEqProofs only [push_cast, ↓trAdd_f, ↓stOf_f, seval]
            try refine hK _ ?_
            repeat (first | refine awp_seq ?_ | refine awp_block ?_ | refine awp_skip ?_ | refine awp_scope ?_ | refine awp_label ?_)
            refine awp_cond (b := true) (by simp -dsimp -implicitDefEqProofs only [push_cast, ↓trAdd_f, ↓stOf_f, seval]) (fun h => ?_) (fun h => ?_)
            · try refine hK _ ?_
              repeat (first | refine awp_seq ?_ | refine awp_block ?_ | refine awp_skip ?_ | refine awp_scope ?_ | refine awp_label ?_)
              refine awp_region tabOk fun K hK => ?_
              simp -dsimp -implicitDefEqProofs only [push_cast, ↓trAdd_f, ↓stOf_f, seval]
              refine hK _ ?_
              try simp only [encQ]
              refine le_intro hB [] (by simp) (fun b _ => rfl) rfl ?_ ?_ rfl <;> simp -dsimp -implicitDefEqProofs only [z0r, z0o, e, push_cast, ↓trAdd_f, ↓stOf_f, seval]
              all_goals exact of_eq_true z0w
            · simp at h
          | true =>
            try refine hK _ ?_
            repeat (first | refine awp_seq ?_ | refine awp_block ?_ | refine awp_skip ?_ | refine awp_scope ?_ | refine awp_label ?_)
            refine awp_region tabOk fun K hK => ?_
            simp -dsimp -implicitDefEqProofs only [push_cast, ↓trAdd_f, ↓stOf_f, seval]
            try refine hK _ ?_
            repeat (first | refine awp_seq ?_ | refine awp_block ?_ | refine awp_skip ?_ | refine awp_scope ?_ | refine awp_label ?_)
            refine awp_cond (b := decide (x3.wts < soon)) (by simp -dsimp -implicitDefEqProofs only [push_cast, ↓trAdd_f, ↓stOf_f, seval]) (fun h => ?_) (fun h => ?_)
            · have e : y = x3.wts := by rw [hy, if_pos (.inr (by simpa using h))]
              try refine hK _ ?_
              repeat (first | refine awp_seq ?_ | refine awp_block ?_ | refine awp_skip ?_ | refine awp_scope ?_ | refine awp_label ?_)
              refine awp_region tabOk fun K hK => ?_
              simp -dsimp -implicitDefEqProofs only [push_cast, ↓trAdd_f, ↓stOf_f, seval]
              refine hK _ ?_
              try simp only [encQ]
              refine le_intro hB [] (by simp) (fun b _ => rfl) rfl ?_ ?_ rfl <;> simp -dsimp -implicitDefEqProofs only [z0r, z0o, e, push_cast, ↓trAdd_f, ↓stOf_f, seval]
              all_goals exact of_eq_true z0w
            · have e : y = soon := by rw [hy, if_neg (by simp at h; simp; omega)]
              refine awp_skip ?_
              try simp only [encQ]
              refine le_intro hB [] (by simp) (fun b _ => rfl) rfl ?_ ?_ rfl <;> simp -dsimp -implicitDefEqProofs only [z0r, z0o, e, push_cast, ↓trAdd_f, ↓stOf_f, seval]
              all_goals exact of_eq_true z0w
        try simp only [encQ]
        try refine hK _ ?_
        repeat (first | refine awp_seq ?_ | refine awp_block ?_ | refine awp_skip ?_ | refine awp_scope ?_ | refine awp_label ?_)
        refine awp_region tabOk fun K hK => ?_
        simp -dsimp -implicitDefEqProofs only [push_cast, ↓trAdd_f, ↓stOf_f, seval]
        refine hK _ ?_
        refine awp_join { sl := [(0, .own 5 1 0 5), (1, .int .i64 now), (2, .int .i64 until_), (6, z), (7, .int .i64 y), (8, .bool true), (11, .own 5 1 0 5), (12, .int .i64 5), (13, .int .i64 3)], st := [(0, .box (encQ x0)), (1, .box (encQ x1)), (2, .box (encQ x2)), (3, .box (encQ x3)), (4, .box (encQ x4)), (5, .row 1 [[.ptr 0 0], [.ptr 1 0], [.ptr 2 0], [.ptr 3 0], [.ptr 4 0]])], nx := 40, n := 52 } ?_ (fun _ hl h => awp_le hl h) ?_
        · cases one with
          | none =>
            have e0 : w0 = .nilp := hw0
            subst e0
            try refine hK _ ?_
            repeat (first | refine awp_seq ?_ | refine awp_block ?_ | refine awp_skip ?_ | refine awp_scope ?_ | refine awp_label ?_)
            refine awp_region tabOk fun K hK => ?_
            simp -dsimp -implicitDefEqProofs only [push_cast, ↓trAdd_f, ↓stOf_f, seval]
            try refine hK _ ?_
            repeat (first | refine awp_seq ?_ | refine awp_block ?_ | refine awp_skip ?_ | refine awp_scope ?_ | refine awp_label ?_)
            refine awp_cond (b := decide (x3.wts ≤ now)) (by simp -dsimp -implicitDefEqProofs only [push_cast, ↓trAdd_f, ↓stOf_f, seval]) (fun h => ?_) (fun h => ?_)
            · have e : z = .ptr 3 0 := by rw [hz, if_pos ⟨rfl, by simpa using h⟩]; rfl
              try refine hK _ ?_
              repeat (first | refine awp_seq ?_ | refine awp_block ?_ | refine awp_skip ?_ | refine awp_scope ?_ | refine awp_label ?_)
              refine awp_region tabOk fun K hK => ?_
              simp -dsimp -implicitDefEqProofs only [push_cast, ↓trAdd_f, ↓stOf_f, seval]
              refine hK _ ?_
              try simp only [encQ]
              refine le_intro hB [] (by simp) (fun b _ => rfl) rfl ?_ ?_ rfl <;> simp -dsimp -implicitDefEqProofs only [e, push_cast, ↓trAdd_f, ↓stOf_f, seval]
            · have e : z = .nilp := by rw [hz, if_neg (by simp at h; simp; omega)]; rfl
              refine awp_skip ?_
              try simp only [encQ]
              refine le_intro hB [] (by simp) (fun b _ => rfl) rfl ?_ ?_ rfl <;> simp -dsimp -implicitDefEqProofs only [e, push_cast, ↓trAdd_f, ↓stOf_f, seval]
          | some j =>
            have e0 : w0 = .ptr j 0 := hw0
            have e : z = .ptr j 0 := by rw [hz, if_neg (by simp)]; rfl
            have hj := hone j rfl
            have hj40 : j < 40 := by omega
            subst e0
            try refine hK _ ?_
            repeat (first | refine awp_seq ?_ | refine awp_block ?_ | refine awp_skip ?_ | refine awp_scope ?_ | refine awp_label ?_)
            refine awp_region tabOk fun K hK => ?_
            simp -dsimp -implicitDefEqProofs only [push_cast, ↓trAdd_f, ↓stOf_f, seval]
            try refine hK _ ?_
            repeat (first | refine awp_seq ?_ | refine awp_block ?_ | refine awp_skip ?_ | refine awp_scope ?_ | refine awp_label ?_)
            refine awp_cond (b := false) (by simp -dsimp -implicitDefEqProofs only [push_cast, ↓trAdd_f, ↓stOf_f, seval]) (fun h => ?_) (fun h => ?_)
            · simp at h
            refine awp_skip ?_
            try simp only [encQ]
            refine le_intro hB [] (by simp) (fun b _ => rfl) rfl ?_ ?_ rfl <;> simp -dsimp -implicitDefEqProofs only [e, hj40, renG, lk, push_cast, ↓trAdd_f, ↓stOf_f, seval]
        try refine hK _ ?_
        repeat (first | refine awp_seq ?_ | refine awp_block ?_ | refine awp_skip ?_ | refine awp_scope ?_ | refine awp_label ?_)
        refine awp_region tabOk fun K hK => ?_
        simp -dsimp -implicitDefEqProofs only [push_cast, ↓trAdd_f, ↓stOf_f, seval]
        try simp (disch := omega) only [wrap_i64, wrap_u8, wrap_u16, wrap_u32]
        refine hK _ ⟨4, by decide, by decide, ?_⟩
        rw [hsucc]
        simp only [← hz, ← hy, encQ]
        refine le_intro hB [] (by simp) (fun b _ => rfl) rfl ?_ ?_ rfl <;> simp -dsimp -implicitDefEqProofs only [zr, zo, push_cast, ↓trAdd_f, ↓stOf_f, seval]
        all_goals exact of_eq_true zw
    · have hx : ([x0, x1, x2, x3, x4] : List QS).getD 4 zeroQ = x4 := rfl
      rw [hx] at hsucc
      obtain ⟨w0, hw0⟩ : ∃ w, w = oneP one := ⟨_, rfl⟩
      obtain ⟨z0r, z0o, z0w⟩ := oneP_facts hone hw0 (by decide : 4 ≤ 40)
      try refine hK _ ?_
      repeat (first | refine awp_seq ?_ | refine awp_block ?_ | refine awp_skip ?_ | refine awp_scope ?_ | refine awp_label ?_)
      refine awp_region tabOk fun K hK => ?_
      simp -dsimp -implicitDefEqProofs only [tn1, tn2, tn3, tn4, push_cast, ↓trAdd_f, ↓stOf_f, seval]
      try refine hK _ ?_
      repeat (first | refine awp_seq ?_ | refine awp_block ?_ | refine awp_skip ?_ | refine awp_scope ?_ | refine awp_label ?_)
      refine awp_region tabOk fun K hK => ?_
      simp -dsimp -implicitDefEqProofs only [push_cast, ↓trAdd_f, ↓stOf_f, seval]
      try refine hK _ ?_
      repeat (first | refine awp_seq ?_ | refine awp_block ?_ | refine awp_skip ?_ | refine awp_scope ?_ | refine awp_label ?_)
      refine awp_cond (b := decide (until_ ≤ x4.due)) (by simp -dsimp -implicitDefEqProofs only [push_cast, ↓trAdd_f, ↓stOf_f, seval]) (fun h => ?_) (fun h => ?_)
      · have hst : scanStep now until_ 4 x4 (left, one, soon) = (left, one, soon) := by unfold scanStep; rw [if_pos (by simpa using h)]
        rw [hst] at hsucc
        refine awp_exit rfl ?_
        try refine hK _ ?_
        repeat (first | refine awp_seq ?_ | refine awp_block ?_ | refine awp_skip ?_ | refine awp_scope ?_ | refine awp_label ?_)
        refine awp_region tabOk fun K hK => ?_
        simp -dsimp -implicitDefEqProofs only [push_cast, ↓trAdd_f, ↓stOf_f, seval]
        try simp (disch := omega) only [wrap_i64, wrap_u8, wrap_u16, wrap_u32]
        refine hK _ ⟨5, by decide, by decide, ?_⟩
        rw [hsucc]
        simp only [← hw0]
        refine le_intro hB [] (by simp) (fun b _ => rfl) rfl ?_ ?_ rfl <;> simp -dsimp -implicitDefEqProofs only [z0r, z0o, encQ, push_cast, ↓trAdd_f, ↓stOf_f, seval]
        all_goals exact of_eq_true z0w
      · have hst : scanStep now until_ 4 x4 (left, one, soon) = (true, if one = none ∧ x4.wts ≤ now then some 4 else one, if left = false ∨ x4.wts < soon then x4.wts else soon) := by unfold scanStep; rw [if_neg (by simpa using h)]
        rw [hst] at hsucc
        clear h hst
        obtain ⟨z, hz⟩ : ∃ z, z = oneP (if one = none ∧ x4.wts ≤ now then some 4 else one) := ⟨_, rfl⟩
        obtain ⟨y, hy⟩ : ∃ y, y = if left = false ∨ x4.wts < soon then x4.wts else soon := ⟨_, rfl⟩
        have hone' : ∀ j, (if one = none ∧ x4.wts ≤ now then some 4 else one) = some j → j < 5 := fun j hj => by
          split at hj
          · cases hj; decide
          · have := hone j hj; omega
        obtain ⟨zr, zo, zw⟩ := oneP_facts hone' hz (by decide : 5 ≤ 40)
        rw [← hw0]
        refine awp_skip ?_
        refine awp_seq ?_
        refine awp_join { sl := [(0, .own 5 1 0 5), (1, .int .i64 now), (2, .int .i64 until_), (6, w0), (7, .int .i64 y), (8, .bool left), (10, .ptr 4 0), (11, .own 5 1 0 5), (12, .int .i64 5), (13, .int .i64 4)], st := [(0, .box (encQ x0)), (1, .box (encQ x1)), (2, .box (encQ x2)), (3, .box (encQ x3)), (4, .box (encQ x4)), (5, .row 1 [[.ptr 0 0], [.ptr 1 0], [.ptr 2 0], [.ptr 3 0], [.ptr 4 0]])], nx := 40, n := 52 } ?_ (fun _ hl h => awp_le hl h) ?_
        · cases left with
          | false =>
            have e : y = x4.wts := by rw [hy, if_pos (.inl rfl)]
            try refine hK _ ?_
            repeat (first | refine awp_seq ?_ | refine awp_block ?_ | refine awp_skip ?_ | refine awp_scope ?_ | refine awp_label ?_)
            refine awp_region tabOk fun K hK => ?_
            simp -dsimp -implicitDefEqProofs only [push_cast, ↓trAdd_f, ↓stOf_f, seval]
            try refine hK _ ?_
            repeat (first | refine awp_seq ?_ | refine awp_block ?_ | refine awp_skip ?_ | refine awp_scope ?_ | refine awp_label ?_)
            refine awp_cond (b := true) (by simp -dsimp -implicitDefEqProofs only [push_cast, ↓trAdd_f, ↓stOf_f, seval]) (fun h => ?_) (fun h => ?_)
            · try refine hK _ ?_
              repeat (first | refine awp_seq ?_ | refine awp_block ?_ | refine awp_skip ?_ | refine awp_scope ?_ | refine awp_label ?_)
              refine awp_region tabOk fun K hK => ?_
              simp -dsimp -implicitDefEqProofs only [push_cast, ↓trAdd_f, ↓stOf_f, seval]
              refine hK _ ?_
              try simp only [encQ]
              refine le_intro hB [] (by simp) (fun b _ => rfl) rfl ?_ ?_ rfl <;> simp -dsimp -implicitDefEqProofs only [z0r, z0o, e, push_cast, ↓trAdd_f, ↓stOf_f, seval]
              all_goals exact of_eq_true z0w
            · simp at h
          | true =>
            try refine hK _ ?_
            repeat (first | refine awp_seq ?_ | refine awp_block ?_ | refine awp_skip ?_ | refine awp_scope ?_ | refine awp_label ?_)
            refine awp_region tabOk fun K hK => ?_
            simp -dsimp -implicitDefEqProofs only [push_cast, ↓trAdd_f, ↓stOf_f, seval]
            try refine hK _ ?_
            repeat (first | refine awp_seq ?_ | refine awp_block ?_ | refine awp_skip ?_ | refine awp_scope ?_ | refine awp_label ?_)
            refine awp_cond (b := decide (x4.wts < soon)) (by simp -dsimp -implicitDefEqProofs only [push_cast, ↓trAdd_f, ↓stOf_f, seval]) (fun h => ?_) (fun h => ?_)
            · have e : y = x4.wts := by rw [hy, if_pos (.inr (by simpa using h))]
              try refine hK _ ?_
              repeat (first | refine awp_seq ?_ | refine awp_block ?_ | refine awp_skip ?_ | refine awp_scope ?_ | refine awp_label ?_)
              refine awp_region tabOk fun K hK => ?_
              simp -dsimp -implicitDefEqProofs only [push_cast, ↓trAdd_f, ↓stOf_f, seval]
              refine hK _ ?_
              try simp only [encQ]
              refine le_intro hB [] (by simp) (fun b _ => rfl) rfl ?_ ?_ rfl <;> simp -dsimp -implicitDefEqProofs only [z0r, z0o, e, push_cast, ↓trAdd_f, ↓stOf_f, seval]
              all_goals exact of_eq_true z0w
            · have e : y = soon := by rw [hy, if_neg (by simp at h; simp; omega)]
              refine awp_skip ?_
              try simp only [encQ]
              refine le_intro hB [] (by simp) (fun b _ => rfl) rfl ?_ ?_ rfl <;> simp -dsimp -implicitDefEqProofs only [z0r, z0o, e, push_cast, ↓trAdd_f, ↓stOf_f, seval]
              all_goals exact of_eq_true z0w
        try simp only [encQ]
        try refine hK _ ?_
        repeat (first | refine awp_seq ?_ | refine awp_block ?_ | refine awp_skip ?_ | refine awp_scope ?_ | refine awp_label ?_)
        refine awp_region tabOk fun K hK => ?_
        simp -dsimp -implicitDefEqProofs only [push_cast, ↓trAdd_f, ↓stOf_f, seval]
        refine hK _ ?_
        refine awp_join { sl := [(0, .own 5 1 0 5), (1, .int .i64 now), (2, .int .i64 until_), (6, z), (7, .int .i64 y), (8, .bool true), (11, .own 5 1 0 5), (12, .int .i64 5), (13, .int .i64 4)], st := [(0, .box (encQ x0)), (1, .box (encQ x1)), (2, .box (encQ x2)), (3, .box (encQ x3)), (4, .box (encQ x4)), (5, .row 1 [[.ptr 0 0], [.ptr 1 0], [.ptr 2 0], [.ptr 3 0], [.ptr 4 0]])], nx := 40, n := 52 } ?_ (fun _ hl h => awp_le hl h) ?_
        · cases one with
          | none =>
            have e0 : w0 = .nilp := hw0
            subst e0
            try refine hK _ ?_
            repeat (first | refine awp_seq ?_ | refine awp_block ?_ | refine awp_skip ?_ | refine awp_scope ?_ | refine awp_label ?_)
            refine awp_region tabOk fun K hK => ?_
            simp -dsimp -implicitDefEqProofs only [push_cast, ↓trAdd_f, ↓stOf_f, seval]
            try refine hK _ ?_
            repeat (first | refine awp_seq ?_ | refine awp_block ?_ | refine awp_skip ?_ | refine awp_scope ?_ | refine awp_label ?_)
            refine awp_cond (b := decide (x4.wts ≤ now)) (by simp -dsimp -implicitDefEqProofs only [push_cast, ↓trAdd_f, ↓stOf_f, seval]) (fun h => ?_) (fun h => ?_)
            · have e : z = .ptr 4 0 := by rw [hz, if_pos ⟨rfl, by simpa using h⟩]; rfl
              try refine hK _ ?_
              repeat (first | refine awp_seq ?_ | refine awp_block ?_ | refine awp_skip ?_ | refine awp_scope ?_ | refine awp_label ?_)
              refine awp_region tabOk fun K hK => ?_
              simp -dsimp -implicitDefEqProofs only [push_cast, ↓trAdd_f, ↓stOf_f, seval]
              refine hK _ ?_
              try simp only [encQ]
              refine le_intro hB [] (by simp) (fun b _ => rfl) rfl ?_ ?_ rfl <;> simp -dsimp -implicitDefEqProofs only [e, push_cast, ↓trAdd_f, ↓stOf_f, seval]
            · have e : z = .nilp := by rw [hz, if_neg (by simp at h; simp; omega)]; rfl
              refine awp_skip ?_
              try simp only [encQ]
              refine le_intro hB [] (by simp) (fun b _ => rfl) rfl ?_ ?_ rfl <;> simp -dsimp -implicitDefEqProofs only [e, push_cast, ↓trAdd_f, ↓stOf_f, seval]
          | some j =>
            have e0 : w0 = .ptr j 0 := hw0
            have e : z = .ptr j 0 := by rw [hz, if_neg (by simp)]; rfl
            have hj := hone j rfl
            have hj40 : j < 40 := by omega
            subst e0
            try refine hK _ ?_
            repeat (first | refine awp_seq ?_ | refine awp_block ?_ | refine awp_skip ?_ | refine awp_scope ?_ | refine awp_label ?_)
            refine awp_region tabOk fun K hK => ?_
            simp -dsimp -implicitDefEqProofs only [push_cast, ↓trAdd_f, ↓stOf_f, seval]
            try refine hK _ ?_
            repeat (first | refine awp_seq ?_ | refine awp_block ?_ | refine awp_skip ?_ | refine awp_scope ?_ | refine awp_label ?_)
            refine awp_cond (b := false) (by simp -dsimp -implicitDefEqProofs only [push_cast, ↓trAdd_f, ↓stOf_f, seval]) (fun h => ?_) (fun h => ?_)
            · simp at h
            refine awp_skip ?_
            try simp only [encQ]
            refine le_intro hB [] (by simp) (fun b _ => rfl) rfl ?_ ?_ rfl <;> simp -dsimp -implicitDefEqProofs only [e, hj40, renG, lk, push_cast, ↓trAdd_f, ↓stOf_f, seval]
        try refine hK _ ?_
        repeat (first | refine awp_seq ?_ | refine awp_block ?_ | refine awp_skip ?_ | refine awp_scope ?_ | refine awp_label ?_)
        refine awp_region tabOk fun K hK => ?_
        simp -dsimp -implicitDefEqProofs only [push_cast, ↓trAdd_f, ↓stOf_f, seval]
        try simp (disch := omega) only [wrap_i64, wrap_u8, wrap_u16, wrap_u32]
        refine hK _ ⟨5, by decide, by decide, ?_⟩
        rw [hsucc]
        simp only [← hz, ← hy, encQ]
        refine le_intro hB [] (by simp) (fun b _ => rfl) rfl ?_ ?_ rfl <;> simp -dsimp -implicitDefEqProofs only [zr, zo, push_cast, ↓trAdd_f, ↓stOf_f, seval]
        all_goals exact of_eq_true zw
  · have he : k = 5 := by simp at h; omega
    have hd := hdone he
    subst he
    rw [← hd]
    obtain ⟨w0, hw0⟩ : ∃ w, w = oneP one := ⟨_, rfl⟩
    obtain ⟨z0r, z0o, z0w⟩ := oneP_facts hone hw0 (by decide : 5 ≤ 6)
    simp only [← hw0]
    refine awp_exit rfl ?_
    try refine hK _ ?_
    repeat (first | refine awp_seq ?_ | refine awp_block ?_ | refine awp_skip ?_ | refine awp_scope ?_ | refine awp_label ?_)
    refine awp_region tabOk fun K hK => ?_
    simp -dsimp -implicitDefEqProofs only [push_cast, ↓trAdd_f, ↓stOf_f, seval]
    refine hK _ (awp_ret ?_)
    simp -dsimp -implicitDefEqProofs only [z0o, push_cast, List.mem_append, List.mem_cons, List.mem_singleton, forall_eq_or_imp, forall_eq, ↓trAdd_f, ↓stOf_f, seval]

end Go.Proofs.YtahkpghgjjlgdaaFw
