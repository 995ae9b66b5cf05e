import Derived.Test.YtoifmpiikopelaaDoorJ5
/-
  The law TopTurns: updates, one behind the other.
-/
namespace Go.Proofs.YtoifmpiikopelaaDoorFw
open Go Go.Proofs
set_option maxRecDepth 100000
set_option maxHeartbeats 4000000
set_option linter.unusedVariables false
set_option linter.unusedSimpArgs false

attribute [push_cast] encP
def turAS (bs : List (List Int)) (key : Int) (i : Nat) : AS := { sl := [(0, .sl false 1 (bs.map encP)), (1, .int .i64 key), (5, .bool true), (6, .int .i64 i)], st := [], nx := 1000, n := 207 }
def turBS (bs : List (List Int)) (key : Int) (i : Nat) (f : Flash) : AS := { sl := [(0, .sl false 1 (bs.map encP)), (1, .int .i64 key), (5, .bool true), (7, .ptr 100 0), (9, .int .i64 i)], st := [(100, .box (encFlash f))], nx := 4000, n := 207 }
theorem lawTopTurns (bs : List (List Int)) (key : Int) (hbb : ∀ p ∈ bs, ∀ x ∈ p, byte x) :
    FnS Tryd.prog 11 [.sl false 1 (bs.map encP), .int .i64 key] [] (.bool true) [] := by
  refine fn_walk tabOk Tryd.func11 rfl (by decide +kernel) Tryd.ntmps11 Tryd.results11 (by simp) fun B hB => ?_
  try refine hK _ ?_
  repeat (first | refine awp_seq ?_ | refine awp_block ?_ | refine awp_skip ?_ | refine awp_scope ?_ | refine awp_label ?_)
  refine awp_region tabOk fun K hK => ?_
  simp -dsimp -implicitDefEqProofs only [push_cast, ↓trAdd_f, ↓stOf_f, seval]
  refine hK _ ?_
  try refine hK _ ?_
  repeat (first | refine awp_seq ?_ | refine awp_block ?_ | refine awp_skip ?_ | refine awp_scope ?_ | refine awp_label ?_)
  refine awp_region tabOk fun K hK => ?_
  simp -dsimp -implicitDefEqProofs only [push_cast, ↓trAdd_f, ↓stOf_f, seval]
  refine callK_simple head24_ok ?_ rfl fun _ => ?_
  · simp -dsimp -implicitDefEqProofs only [push_cast, List.mem_append, List.mem_cons, List.mem_singleton, forall_eq_or_imp, forall_eq, ↓trAdd_f, ↓stOf_f, seval]
  simp -dsimp -implicitDefEqProofs only [push_cast, ↓trAdd_f, ↓stOf_f, seval]
  refine hK _ ?_
  cases hA : decide ((bs.length : Int) < 1) with
  | true =>
    try refine hK _ ?_
    repeat (first | refine awp_seq ?_ | refine awp_block ?_ | refine awp_skip ?_ | refine awp_scope ?_ | refine awp_label ?_)
    refine awp_region tabOk fun K hK => ?_
    simp -dsimp -implicitDefEqProofs only [hA, push_cast, ↓trAdd_f, ↓stOf_f, seval]
    refine hK _ ?_
    try refine hK _ ?_
    repeat (first | refine awp_seq ?_ | refine awp_block ?_ | refine awp_skip ?_ | refine awp_scope ?_ | refine awp_label ?_)
    refine awp_cond (b := true) (by simp -dsimp -implicitDefEqProofs only [push_cast, ↓trAdd_f, ↓stOf_f, seval]) (fun h => ?_) (fun h => ?_)
    rotate_left
    · cases h
    try refine hK _ ?_
    repeat (first | refine awp_seq ?_ | refine awp_block ?_ | refine awp_skip ?_ | refine awp_scope ?_ | refine awp_label ?_)
    refine awp_region tabOk fun K hK => ?_
    simp -dsimp -implicitDefEqProofs only [push_cast, ↓trAdd_f, ↓stOf_f, seval]
    refine hK _ (awp_ret ?_)
    simp -dsimp -implicitDefEqProofs only [push_cast, List.mem_append, List.mem_cons, List.mem_singleton, forall_eq_or_imp, forall_eq, ↓trAdd_f, ↓stOf_f, seval]
  | false =>
  cases hQ : decide (5 < (bs.length : Int)) with
  | true =>
    try refine hK _ ?_
    repeat (first | refine awp_seq ?_ | refine awp_block ?_ | refine awp_skip ?_ | refine awp_scope ?_ | refine awp_label ?_)
    refine awp_region tabOk fun K hK => ?_
    simp -dsimp -implicitDefEqProofs only [hA, hQ, push_cast, ↓trAdd_f, ↓stOf_f, seval]
    refine hK _ ?_
    try refine hK _ ?_
    repeat (first | refine awp_seq ?_ | refine awp_block ?_ | refine awp_skip ?_ | refine awp_scope ?_ | refine awp_label ?_)
    refine awp_cond (b := true) (by simp -dsimp -implicitDefEqProofs only [push_cast, ↓trAdd_f, ↓stOf_f, seval]) (fun h => ?_) (fun h => ?_)
    rotate_left
    · cases h
    try refine hK _ ?_
    repeat (first | refine awp_seq ?_ | refine awp_block ?_ | refine awp_skip ?_ | refine awp_scope ?_ | refine awp_label ?_)
    refine awp_region tabOk fun K hK => ?_
    simp -dsimp -implicitDefEqProofs only [push_cast, ↓trAdd_f, ↓stOf_f, seval]
    refine hK _ (awp_ret ?_)
    simp -dsimp -implicitDefEqProofs only [push_cast, List.mem_append, List.mem_cons, List.mem_singleton, forall_eq_or_imp, forall_eq, ↓trAdd_f, ↓stOf_f, seval]
  | false =>
  cases hD : decide (key < 0) with
  | true =>
    try refine hK _ ?_
    repeat (first | refine awp_seq ?_ | refine awp_block ?_ | refine awp_skip ?_ | refine awp_scope ?_ | refine awp_label ?_)
    refine awp_region tabOk fun K hK => ?_
    simp -dsimp -implicitDefEqProofs only [hA, hQ, hD, push_cast, ↓trAdd_f, ↓stOf_f, seval]
    refine hK _ ?_
    try refine hK _ ?_
    repeat (first | refine awp_seq ?_ | refine awp_block ?_ | refine awp_skip ?_ | refine awp_scope ?_ | refine awp_label ?_)
    refine awp_cond (b := true) (by simp -dsimp -implicitDefEqProofs only [push_cast, ↓trAdd_f, ↓stOf_f, seval]) (fun h => ?_) (fun h => ?_)
    rotate_left
    · cases h
    try refine hK _ ?_
    repeat (first | refine awp_seq ?_ | refine awp_block ?_ | refine awp_skip ?_ | refine awp_scope ?_ | refine awp_label ?_)
    refine awp_region tabOk fun K hK => ?_
    simp -dsimp -implicitDefEqProofs only [push_cast, ↓trAdd_f, ↓stOf_f, seval]
    refine hK _ (awp_ret ?_)
    simp -dsimp -implicitDefEqProofs only [push_cast, List.mem_append, List.mem_cons, List.mem_singleton, forall_eq_or_imp, forall_eq, ↓trAdd_f, ↓stOf_f, seval]
  | false =>
  cases hE : decide (4294967296 ≤ key) with
  | true =>
    try refine hK _ ?_
    repeat (first | refine awp_seq ?_ | refine awp_block ?_ | refine awp_skip ?_ | refine awp_scope ?_ | refine awp_label ?_)
    refine awp_region tabOk fun K hK => ?_
    simp -dsimp -implicitDefEqProofs only [hA, hQ, hD, hE, push_cast, ↓trAdd_f, ↓stOf_f, seval]
    refine hK _ ?_
    try refine hK _ ?_
    repeat (first | refine awp_seq ?_ | refine awp_block ?_ | refine awp_skip ?_ | refine awp_scope ?_ | refine awp_label ?_)
    refine awp_cond (b := true) (by simp -dsimp -implicitDefEqProofs only [push_cast, ↓trAdd_f, ↓stOf_f, seval]) (fun h => ?_) (fun h => ?_)
    rotate_left
    · cases h
    try refine hK _ ?_
    repeat (first | refine awp_seq ?_ | refine awp_block ?_ | refine awp_skip ?_ | refine awp_scope ?_ | refine awp_label ?_)
    refine awp_region tabOk fun K hK => ?_
    simp -dsimp -implicitDefEqProofs only [push_cast, ↓trAdd_f, ↓stOf_f, seval]
    refine hK _ (awp_ret ?_)
    simp -dsimp -implicitDefEqProofs only [push_cast, List.mem_append, List.mem_cons, List.mem_singleton, forall_eq_or_imp, forall_eq, ↓trAdd_f, ↓stOf_f, seval]
  | false =>
  have ha1 := of_decide_eq_false hA
  have ha5 := of_decide_eq_false hQ
  have hk0 := of_decide_eq_false hD
  have hk4 := of_decide_eq_false hE
  have hmay : mayS key = true := may32 ⟨by omega, by omega⟩
  try refine hK _ ?_
  repeat (first | refine awp_seq ?_ | refine awp_block ?_ | refine awp_skip ?_ | refine awp_scope ?_ | refine awp_label ?_)
  refine awp_region tabOk fun K hK => ?_
  simp -dsimp -implicitDefEqProofs only [hA, hQ, hD, hE, push_cast, ↓trAdd_f, ↓stOf_f, seval]
  refine hK _ ?_
  try refine hK _ ?_
  repeat (first | refine awp_seq ?_ | refine awp_block ?_ | refine awp_skip ?_ | refine awp_scope ?_ | refine awp_label ?_)
  refine awp_cond (b := false) (by simp -dsimp -implicitDefEqProofs only [push_cast, ↓trAdd_f, ↓stOf_f, seval]) (fun h => ?_) (fun h => ?_)
  · cases h
  refine awp_skip ?_
  try refine hK _ ?_
  repeat (first | refine awp_seq ?_ | refine awp_block ?_ | refine awp_skip ?_ | refine awp_scope ?_ | refine awp_label ?_)
  refine awp_region tabOk fun K hK => ?_
  simp -dsimp -implicitDefEqProofs only [push_cast, ↓trAdd_f, ↓stOf_f, seval]
  refine hK _ (awp_block ?_)
  refine awp_for (fun i : Nat => turAS bs key i) (fun i => i ≤ bs.length ∧ ∀ j (h : j < bs.length), j < i → 1 ≤ (bs[j]).length ∧ (bs[j]).length ≤ 300) (fun i => bs.length - i) 0 ⟨Nat.zero_le _, fun j _ h => absurd h (by omega)⟩ ?_ fun i hi => ?_
  · simp only [turAS]
    refine le_intro hB [] (by simp) (fun b hb => absurd hb (Nat.not_lt_zero b)) rfl ?_ ?_ rfl <;> simp -dsimp -implicitDefEqProofs only [push_cast, ↓trAdd_f, ↓stOf_f, seval]
  obtain ⟨hi, hall⟩ := hi
  simp only [turAS]
  by_cases hlt : i < bs.length
  · have d : decide ((i : Int) < (bs.length : Int)) = true := decide_eq_true (by omega)
    have w : IntKind.i64.wrap ((i : Int) + 1) = (i : Int) + 1 := wrap_i64 (by omega) (by omega)
    have hg : (bs.map encP).getD i [] = encP bs[i] := getD_map encP _ _ hlt
    try refine hK _ ?_
    repeat (first | refine awp_seq ?_ | refine awp_block ?_ | refine awp_skip ?_ | refine awp_scope ?_ | refine awp_label ?_)
    refine awp_region tabOk fun K hK => ?_
    simp -dsimp -implicitDefEqProofs only [d, push_cast, ↓trAdd_f, ↓stOf_f, seval]
    try refine hK _ ?_
    repeat (first | refine awp_seq ?_ | refine awp_block ?_ | refine awp_skip ?_ | refine awp_scope ?_ | refine awp_label ?_)
    refine awp_cond (b := true) (by simp -dsimp -implicitDefEqProofs only [push_cast, ↓trAdd_f, ↓stOf_f, seval]) (fun h => ?_) (fun h => ?_)
    rotate_left
    · cases h
    refine awp_skip ?_
    have hgi : ∀ j (h : j < bs.length), j = i → bs[j] = bs[i] := fun j h e => by subst e; rfl
    generalize hbi : bs[i] = b at *
    cases hS : decide ((b.length : Int) < 1) with
    | true =>
      try refine hK _ ?_
      repeat (first | refine awp_seq ?_ | refine awp_block ?_ | refine awp_skip ?_ | refine awp_scope ?_ | refine awp_label ?_)
      refine awp_region tabOk fun K hK => ?_
      simp -dsimp -implicitDefEqProofs only [hg, encP, hS, push_cast, ↓trAdd_f, ↓stOf_f, seval]
      refine ⟨⟨by omega, by omega⟩, hK _ ?_⟩
      try refine hK _ ?_
      repeat (first | refine awp_seq ?_ | refine awp_block ?_ | refine awp_skip ?_ | refine awp_scope ?_ | refine awp_label ?_)
      refine awp_cond (b := true) (by simp -dsimp -implicitDefEqProofs only [push_cast, ↓trAdd_f, ↓stOf_f, seval]) (fun h => ?_) (fun h => ?_)
      rotate_left
      · cases h
      try refine hK _ ?_
      repeat (first | refine awp_seq ?_ | refine awp_block ?_ | refine awp_skip ?_ | refine awp_scope ?_ | refine awp_label ?_)
      refine awp_region tabOk fun K hK => ?_
      simp -dsimp -implicitDefEqProofs only [push_cast, ↓trAdd_f, ↓stOf_f, seval]
      refine hK _ (awp_ret ?_)
      simp -dsimp -implicitDefEqProofs only [push_cast, List.mem_append, List.mem_cons, List.mem_singleton, forall_eq_or_imp, forall_eq, ↓trAdd_f, ↓stOf_f, seval]
    | false =>
    cases hT : decide (300 < (b.length : Int)) with
    | true =>
      try refine hK _ ?_
      repeat (first | refine awp_seq ?_ | refine awp_block ?_ | refine awp_skip ?_ | refine awp_scope ?_ | refine awp_label ?_)
      refine awp_region tabOk fun K hK => ?_
      simp -dsimp -implicitDefEqProofs only [hg, encP, hS, hT, push_cast, ↓trAdd_f, ↓stOf_f, seval]
      refine ⟨⟨by omega, by omega⟩, ⟨by omega, by omega⟩, hK _ ?_⟩
      try refine hK _ ?_
      repeat (first | refine awp_seq ?_ | refine awp_block ?_ | refine awp_skip ?_ | refine awp_scope ?_ | refine awp_label ?_)
      refine awp_cond (b := true) (by simp -dsimp -implicitDefEqProofs only [push_cast, ↓trAdd_f, ↓stOf_f, seval]) (fun h => ?_) (fun h => ?_)
      rotate_left
      · cases h
      try refine hK _ ?_
      repeat (first | refine awp_seq ?_ | refine awp_block ?_ | refine awp_skip ?_ | refine awp_scope ?_ | refine awp_label ?_)
      refine awp_region tabOk fun K hK => ?_
      simp -dsimp -implicitDefEqProofs only [push_cast, ↓trAdd_f, ↓stOf_f, seval]
      refine hK _ (awp_ret ?_)
      simp -dsimp -implicitDefEqProofs only [push_cast, List.mem_append, List.mem_cons, List.mem_singleton, forall_eq_or_imp, forall_eq, ↓trAdd_f, ↓stOf_f, seval]
    | false =>
    have hS' := of_decide_eq_false hS
    have hT' := of_decide_eq_false hT
    try refine hK _ ?_
    repeat (first | refine awp_seq ?_ | refine awp_block ?_ | refine awp_skip ?_ | refine awp_scope ?_ | refine awp_label ?_)
    refine awp_region tabOk fun K hK => ?_
    simp -dsimp -implicitDefEqProofs only [hg, encP, hS, hT, push_cast, ↓trAdd_f, ↓stOf_f, seval]
    refine ⟨⟨by omega, by omega⟩, ⟨by omega, by omega⟩, hK _ ?_⟩
    try refine hK _ ?_
    repeat (first | refine awp_seq ?_ | refine awp_block ?_ | refine awp_skip ?_ | refine awp_scope ?_ | refine awp_label ?_)
    refine awp_cond (b := false) (by simp -dsimp -implicitDefEqProofs only [push_cast, ↓trAdd_f, ↓stOf_f, seval]) (fun h => ?_) (fun h => ?_)
    · cases h
    refine awp_skip ?_
    try refine hK _ ?_
    repeat (first | refine awp_seq ?_ | refine awp_block ?_ | refine awp_skip ?_ | refine awp_scope ?_ | refine awp_label ?_)
    refine awp_region tabOk fun K hK => ?_
    simp -dsimp -implicitDefEqProofs only [w, push_cast, ↓trAdd_f, ↓stOf_f, seval]
    refine hK _ ⟨i + 1, ⟨by omega, fun j h1 h2 => ?_⟩, by omega, ?_⟩
    · by_cases hj : j = i
      · rw [hgi j h1 hj]; exact ⟨by omega, by omega⟩
      · exact hall j h1 (by omega)
    refine le_intro hB [] (by simp) (fun b hb => absurd hb (Nat.not_lt_zero b)) rfl ?_ ?_ rfl <;> simp -dsimp -implicitDefEqProofs only [push_cast, ↓trAdd_f, ↓stOf_f, seval]
  have hie : i = bs.length := by omega
  subst hie
  have hall' : ∀ j (h : j < bs.length), 1 ≤ (bs[j]).length ∧ (bs[j]).length ≤ 300 := fun j h => hall j h h
  clear hall hi hlt
  have d : decide ((bs.length : Int) < (bs.length : Int)) = false := decide_eq_false (by omega)
  try refine hK _ ?_
  repeat (first | refine awp_seq ?_ | refine awp_block ?_ | refine awp_skip ?_ | refine awp_scope ?_ | refine awp_label ?_)
  refine awp_region tabOk fun K hK => ?_
  simp -dsimp -implicitDefEqProofs only [d, push_cast, ↓trAdd_f, ↓stOf_f, seval]
  try refine hK _ ?_
  repeat (first | refine awp_seq ?_ | refine awp_block ?_ | refine awp_skip ?_ | refine awp_scope ?_ | refine awp_label ?_)
  refine awp_cond (b := false) (by simp -dsimp -implicitDefEqProofs only [push_cast, ↓trAdd_f, ↓stOf_f, seval]) (fun h => ?_) (fun h => ?_)
  · cases h
  refine awp_exit rfl ?_
  have hgood : ∀ j (h : j < bs.length), (Img.mk j bs[j]).good := fun j h => img_good2 j _ ⟨by omega, by omega⟩ (hall' j h).1 (by have := (hall' j h).2; omega) (hbb _ (List.getElem_mem h))
  have h0 : 0 < bs.length := by omega
  have hg0 : (bs.map encP).getD 0 [] = encP bs[0] := getD_map encP _ _ h0
  have hm0 : (Img.mk 0 bs[0]).good := hgood 0 h0
  have hld := proved24_ok ⟨0, bs[0]⟩ key hm0 hmay
  have hT0 := laid_turn hm0 (laid_is hm0 key).2.2.2
  have hT1 : TurnOk (laidZ ⟨0, bs[0]⟩ key) (recL 0) ⟨0, bs[0]⟩ key ((1 + 1) % 2) (4 * ((1 : Nat) : Int) - 3) := by
    have e : 4 * ((1 : Nat) : Int) - 3 = 1 := by decide
    rw [e]; exact hT0
  try refine hK _ ?_
  repeat (first | refine awp_seq ?_ | refine awp_block ?_ | refine awp_skip ?_ | refine awp_scope ?_ | refine awp_label ?_)
  refine awp_region tabOk fun K hK => ?_
  simp -dsimp -implicitDefEqProofs only [hg0, encP, push_cast, ↓trAdd_f, ↓stOf_f, seval]
  refine ⟨by omega, ?_⟩
  refine callK_simple hld ?_ rfl fun _ => ?_
  · simp -dsimp -implicitDefEqProofs only [encImg, push_cast, List.mem_append, List.mem_cons, List.mem_singleton, forall_eq_or_imp, forall_eq, ↓trAdd_f, ↓stOf_f, seval]
  simp -dsimp -implicitDefEqProofs only [push_cast, ↓trAdd_f, ↓stOf_f, seval]
  refine hK _ ?_
  try refine hK _ ?_
  repeat (first | refine awp_seq ?_ | refine awp_block ?_ | refine awp_skip ?_ | refine awp_scope ?_ | refine awp_label ?_)
  refine awp_region tabOk fun K hK => ?_
  simp -dsimp -implicitDefEqProofs only [push_cast, ↓trAdd_f, ↓stOf_f, seval]
  refine hK _ ?_
  try refine hK _ ?_
  repeat (first | refine awp_seq ?_ | refine awp_block ?_ | refine awp_skip ?_ | refine awp_scope ?_ | refine awp_label ?_)
  refine awp_cond (b := false) (by simp -dsimp -implicitDefEqProofs only [push_cast, ↓trAdd_f, ↓stOf_f, seval]) (fun h => ?_) (fun h => ?_)
  · cases h
  refine awp_skip ?_
  try refine hK _ ?_
  repeat (first | refine awp_seq ?_ | refine awp_block ?_ | refine awp_skip ?_ | refine awp_scope ?_ | refine awp_label ?_)
  refine awp_region tabOk fun K hK => ?_
  simp -dsimp -implicitDefEqProofs only [push_cast, ↓trAdd_f, ↓stOf_f, seval]
  refine hK _ (awp_block ?_)
  refine awp_for (fun x : Nat × Flash => turBS bs key x.1 x.2) (fun x => 1 ≤ x.1 ∧ x.1 ≤ bs.length ∧ ∃ r p, TurnOk x.2 r p key ((x.1 + 1) % 2) (4 * (x.1 : Int) - 3) ∧ p.ver = (x.1 : Int) - 1) (fun x => bs.length - x.1) (1, laidZ ⟨0, bs[0]⟩ key) ⟨Nat.le_refl _, by show 1 ≤ bs.length; omega, recL 0, ⟨0, bs[0]⟩, hT1, rfl⟩ ?_ fun x hx => ?_
  · simp only [turBS]
    refine le_intro hB [(100, 1104)] (by simp) (fun b hb => absurd hb (Nat.not_lt_zero b)) rfl ?_ ?_ rfl <;> simp -dsimp -implicitDefEqProofs only [push_cast, ↓trAdd_f, ↓stOf_f, seval]
  obtain ⟨i, f⟩ := x
  obtain ⟨hi1, hi, r, p, hTO, hpv⟩ := hx
  simp only at hi1 hi hTO hpv
  simp only [turBS]
  clear hT0 hT1 hld hm0 hg0
  by_cases hlt : i < bs.length
  rotate_left
  · have hie : i = bs.length := by omega
    subst hie
    try refine hK _ ?_
    repeat (first | refine awp_seq ?_ | refine awp_block ?_ | refine awp_skip ?_ | refine awp_scope ?_ | refine awp_label ?_)
    refine awp_region tabOk fun K hK => ?_
    simp -dsimp -implicitDefEqProofs only [d, push_cast, ↓trAdd_f, ↓stOf_f, seval]
    try refine hK _ ?_
    repeat (first | refine awp_seq ?_ | refine awp_block ?_ | refine awp_skip ?_ | refine awp_scope ?_ | refine awp_label ?_)
    refine awp_cond (b := false) (by simp -dsimp -implicitDefEqProofs only [push_cast, ↓trAdd_f, ↓stOf_f, seval]) (fun h => ?_) (fun h => ?_)
    · cases h
    refine awp_exit rfl ?_
    try refine hK _ ?_
    repeat (first | refine awp_seq ?_ | refine awp_block ?_ | refine awp_skip ?_ | refine awp_scope ?_ | refine awp_label ?_)
    refine awp_region tabOk fun K hK => ?_
    simp -dsimp -implicitDefEqProofs only [push_cast, ↓trAdd_f, ↓stOf_f, seval]
    refine hK _ (awp_ret ?_)
    simp -dsimp -implicitDefEqProofs only [push_cast, List.mem_append, List.mem_cons, List.mem_singleton, forall_eq_or_imp, forall_eq, ↓trAdd_f, ↓stOf_f, seval]
  have d : decide ((i : Int) < (bs.length : Int)) = true := decide_eq_true (by omega)
  have w : IntKind.i64.wrap ((i : Int) + 1) = (i : Int) + 1 := wrap_i64 (by omega) (by omega)
  have w4 : IntKind.i64.wrap (4 * (i : Int)) = 4 * (i : Int) := wrap_i64 (by omega) (by omega)
  have w5 : IntKind.i64.wrap (1 + 4 * (i : Int)) = 1 + 4 * (i : Int) := wrap_i64 (by omega) (by omega)
  have hg : (bs.map encP).getD i [] = encP bs[i] := getD_map encP _ _ hlt
  have hm := hgood i hlt
  have hbi := hbb _ (List.getElem_mem hlt)
  obtain ⟨g, h', k, r', hI, hTO'⟩ := turn_step hTO hm hmay (by show p.ver < (i : Int); omega) (by omega) (by omega)
  generalize bs[i] = b at *
  obtain ⟨s, hsd⟩ : ∃ s : Nat, (i + 1) % 2 = s := ⟨_, rfl⟩
  rw [hsd] at hTO hI hTO'
  have hq4 := hTO'.seq
  have hss : s = 0 ∨ s = 1 := (by have := hTO.s1; omega)
  try refine hK _ ?_
  repeat (first | refine awp_seq ?_ | refine awp_block ?_ | refine awp_skip ?_ | refine awp_scope ?_ | refine awp_label ?_)
  refine awp_region tabOk fun K hK => ?_
  simp -dsimp -implicitDefEqProofs only [d, push_cast, ↓trAdd_f, ↓stOf_f, seval]
  try refine hK _ ?_
  repeat (first | refine awp_seq ?_ | refine awp_block ?_ | refine awp_skip ?_ | refine awp_scope ?_ | refine awp_label ?_)
  refine awp_cond (b := true) (by simp -dsimp -implicitDefEqProofs only [push_cast, ↓trAdd_f, ↓stOf_f, seval]) (fun h => ?_) (fun h => ?_)
  rotate_left
  · cases h
  refine awp_skip ?_
  rcases hss with hsS | hsS
  · subst hsS
    have hn0 : 1 ≤ 1 := by decide
    have rm1 : Int.tmod ((i : Int) + 1) 2 = 0 := by rw [Int.tmod_eq_emod_of_nonneg (by omega)]; omega
    have rm0 : Int.tmod (i : Int) 2 = 1 := by rw [Int.tmod_eq_emod_of_nonneg (by omega)]; omega
    have hlo : FnS Tryd.prog 38 [.agg (encFlash f), .int .i64 0, .agg (encImg ⟨i, b⟩), .int .i64 key] [] _ [] := loaded24_ok f 0 ⟨i, b⟩ key hTO.on.big (by decide) hm hmay
    rw [hI.load] at hlo
    have hbo := bootF_ok g key hI.big
    rw [show bootF g key = ⟨h', 1, ⟨i, b⟩, 0⟩ from hI.boot] at hbo
    have hwe := well1_ok h' hI.hbig
    rw [show wellF h' 1 = (k, 0) from hI.well] at hwe
    have hrd := read_ok k (by rw [hI.kbig.n70]; decide) hI.kbig.fine.good.block hI.kbig.fine.bytes
    rw [hI.read] at hrd
    have hpw := power_ok k (-1)
    rw [powSelf hI.down hI.left] at hpw
    have hba := bootF_ok k key hI.kbig
    rw [show bootF k key = ⟨k, 1, ⟨i, b⟩, 0⟩ from hI.again] at hba
    have hsm := sameRef_ok k k hI.kbig.fine.bytes hI.kbig.fine.bytes (by rw [hI.kbig.n70]; decide) (by rw [hI.kbig.wl]; decide)
    rw [sameF_self] at hsm
    obtain ⟨rseq, rs0, rs1, rv0, rv1, rtr⟩ := r'
    have h40 : rs0 = 4 := hI.st0
    have h41 : rs1 = 4 := hI.st1
    have hsq : rseq = 1 + 4 * (i : Int) := by have : rseq = 4 * (i : Int) - 3 + 4 := hq4; omega
    subst h40 h41 hsq
    clear hI hTO d hm hbb hall' hgood
    simp only at hbo hba
    have hstr := bytes_eq hbi hbi
    have hdb : decide (b = b) = true := decide_eq_true rfl
    rw [hdb] at hstr
    have hNX : ∃ r p, TurnOk k r p key ((i + 1 + 1) % 2) (4 * ((i + 1 : Nat) : Int) - 3) ∧ p.ver = ((i + 1 : Nat) : Int) - 1 := ⟨_, _, by
      rw [show (i + 1 + 1) % 2 = 1 by omega, show 4 * ((i + 1 : Nat) : Int) - 3 = 4 * (i : Int) - 3 + 4 by omega]; exact hTO', by show (i : Int) = _; omega⟩
    clear hTO'
    try refine hK _ ?_
    repeat (first | refine awp_seq ?_ | refine awp_block ?_ | refine awp_skip ?_ | refine awp_scope ?_ | refine awp_label ?_)
    refine awp_region tabOk fun K hK => ?_
    simp -dsimp -implicitDefEqProofs only [hg, encP, push_cast, ↓trAdd_f, ↓stOf_f, seval]
    refine ⟨⟨by omega, by omega⟩, hK _ ?_⟩
    try refine hK _ ?_
    repeat (first | refine awp_seq ?_ | refine awp_block ?_ | refine awp_skip ?_ | refine awp_scope ?_ | refine awp_label ?_)
    refine awp_region tabOk fun K hK => ?_
    simp -dsimp -implicitDefEqProofs only [w, rm1, push_cast, ↓trAdd_f, ↓stOf_f, seval]
    refine callK_simple hlo ?_ rfl fun _ => ?_
    · simp -dsimp -implicitDefEqProofs only [push_cast, List.mem_append, List.mem_cons, List.mem_singleton, forall_eq_or_imp, forall_eq, ↓trAdd_f, ↓stOf_f, seval]
    simp -dsimp -implicitDefEqProofs only [push_cast, ↓trAdd_f, ↓stOf_f, seval]
    refine hK _ ?_
    try refine hK _ ?_
    repeat (first | refine awp_seq ?_ | refine awp_block ?_ | refine awp_skip ?_ | refine awp_scope ?_ | refine awp_label ?_)
    refine awp_region tabOk fun K hK => ?_
    simp -dsimp -implicitDefEqProofs only [push_cast, ↓trAdd_f, ↓stOf_f, seval]
    refine callK_simple hbo ?_ rfl fun _ => ?_
    · simp -dsimp -implicitDefEqProofs only [push_cast, List.mem_append, List.mem_cons, List.mem_singleton, forall_eq_or_imp, forall_eq, ↓trAdd_f, ↓stOf_f, seval]
    simp -dsimp -implicitDefEqProofs only [push_cast, ↓trAdd_f, ↓stOf_f, seval]
    refine hK _ ?_
    try refine hK _ ?_
    repeat (first | refine awp_seq ?_ | refine awp_block ?_ | refine awp_skip ?_ | refine awp_scope ?_ | refine awp_label ?_)
    refine awp_region tabOk fun K hK => ?_
    simp -dsimp -implicitDefEqProofs only [push_cast, ↓trAdd_f, ↓stOf_f, seval]
    refine callK_simple hwe ?_ rfl fun _ => ?_
    · simp -dsimp -implicitDefEqProofs only [push_cast, List.mem_append, List.mem_cons, List.mem_singleton, forall_eq_or_imp, forall_eq, ↓trAdd_f, ↓stOf_f, seval]
    simp -dsimp -implicitDefEqProofs only [push_cast, ↓trAdd_f, ↓stOf_f, seval]
    refine hK _ ?_
    try refine hK _ ?_
    repeat (first | refine awp_seq ?_ | refine awp_block ?_ | refine awp_skip ?_ | refine awp_scope ?_ | refine awp_label ?_)
    refine awp_region tabOk fun K hK => ?_
    simp -dsimp -implicitDefEqProofs only [push_cast, ↓trAdd_f, ↓stOf_f, seval]
    refine callK_simple hrd ?_ rfl fun _ => ?_
    · simp -dsimp -implicitDefEqProofs only [push_cast, List.mem_append, List.mem_cons, List.mem_singleton, forall_eq_or_imp, forall_eq, ↓trAdd_f, ↓stOf_f, seval]
    simp -dsimp -implicitDefEqProofs only [encRec, push_cast, ↓trAdd_f, ↓stOf_f, seval]
    refine hK _ ?_
    have v0 : IntKind.i64.wrap 0 = 0 := rfl
    have v1 : IntKind.i64.wrap 1 = 1 := rfl
    have hii : ((i : Int) != (i : Int)) = false := by simp
    have hqq : ((1 + 4 * (i : Int)) != (1 + 4 * (i : Int))) = false := by simp
    try refine hK _ ?_
    repeat (first | refine awp_seq ?_ | refine awp_block ?_ | refine awp_skip ?_ | refine awp_scope ?_ | refine awp_label ?_)
    refine awp_draw tabOk (by kernel_rfl) (by kernel_rfl) fun K hK C hC => ?_
    simp -dsimp -implicitDefEqProofs only [hg, encP, rm0, w4, w5, hii, hqq, hstr, v0, v1, push_cast, ↓trAdd_f, ↓stOf_f, seval]
    refine ⟨isByte_enc _, ⟨by omega, by omega⟩, isByte_enc _, hC _ (by kernel_rfl), hK _ ?_⟩
    try refine hK _ ?_
    repeat (first | refine awp_seq ?_ | refine awp_block ?_ | refine awp_skip ?_ | refine awp_scope ?_ | refine awp_label ?_)
    refine awp_cond (b := false) (by simp -dsimp -implicitDefEqProofs only [push_cast, ↓trAdd_f, ↓stOf_f, seval]) (fun h => ?_) (fun h => ?_)
    · cases h
    refine awp_skip ?_
    try refine hK _ ?_
    repeat (first | refine awp_seq ?_ | refine awp_block ?_ | refine awp_skip ?_ | refine awp_scope ?_ | refine awp_label ?_)
    refine awp_region tabOk fun K hK => ?_
    simp -dsimp -implicitDefEqProofs only [push_cast, ↓trAdd_f, ↓stOf_f, seval]
    refine callK_simple hpw ?_ rfl fun _ => ?_
    · simp -dsimp -implicitDefEqProofs only [push_cast, List.mem_append, List.mem_cons, List.mem_singleton, forall_eq_or_imp, forall_eq, ↓trAdd_f, ↓stOf_f, seval]
    simp -dsimp -implicitDefEqProofs only [push_cast, ↓trAdd_f, ↓stOf_f, seval]
    refine callK_simple hba ?_ rfl fun _ => ?_
    · simp -dsimp -implicitDefEqProofs only [push_cast, List.mem_append, List.mem_cons, List.mem_singleton, forall_eq_or_imp, forall_eq, ↓trAdd_f, ↓stOf_f, seval]
    simp -dsimp -implicitDefEqProofs only [push_cast, ↓trAdd_f, ↓stOf_f, seval]
    refine hK _ ?_
    try refine hK _ ?_
    repeat (first | refine awp_seq ?_ | refine awp_block ?_ | refine awp_skip ?_ | refine awp_scope ?_ | refine awp_label ?_)
    refine awp_draw tabOk (by kernel_rfl) (by kernel_rfl) fun K hK C hC => ?_
    simp -dsimp -implicitDefEqProofs only [hii, push_cast, ↓trAdd_f, ↓stOf_f, seval]
    refine callK_simple hpw ?_ rfl fun _ => ?_
    · simp -dsimp -implicitDefEqProofs only [push_cast, List.mem_append, List.mem_cons, List.mem_singleton, forall_eq_or_imp, forall_eq, ↓trAdd_f, ↓stOf_f, seval]
    simp -dsimp -implicitDefEqProofs only [hii, push_cast, ↓trAdd_f, ↓stOf_f, seval]
    refine callK_simple hsm ?_ rfl fun _ => ?_
    · simp -dsimp -implicitDefEqProofs only [push_cast, List.mem_append, List.mem_cons, List.mem_singleton, forall_eq_or_imp, forall_eq, ↓trAdd_f, ↓stOf_f, seval]
    simp -dsimp -implicitDefEqProofs only [hii, push_cast, ↓trAdd_f, ↓stOf_f, seval]
    refine ⟨hC _ (by kernel_rfl), hK _ ?_⟩
    try refine hK _ ?_
    repeat (first | refine awp_seq ?_ | refine awp_block ?_ | refine awp_skip ?_ | refine awp_scope ?_ | refine awp_label ?_)
    refine awp_cond (b := false) (by simp -dsimp -implicitDefEqProofs only [push_cast, ↓trAdd_f, ↓stOf_f, seval]) (fun h => ?_) (fun h => ?_)
    · cases h
    refine awp_skip ?_
    try refine hK _ ?_
    repeat (first | refine awp_seq ?_ | refine awp_block ?_ | refine awp_skip ?_ | refine awp_scope ?_ | refine awp_label ?_)
    refine awp_region tabOk fun K hK => ?_
    simp -dsimp -implicitDefEqProofs only [push_cast, ↓trAdd_f, ↓stOf_f, seval]
    refine hK _ ?_
    try refine hK _ ?_
    repeat (first | refine awp_seq ?_ | refine awp_block ?_ | refine awp_skip ?_ | refine awp_scope ?_ | refine awp_label ?_)
    refine awp_region tabOk fun K hK => ?_
    simp -dsimp -implicitDefEqProofs only [w, push_cast, ↓trAdd_f, ↓stOf_f, seval]
    refine hK _ ⟨(i + 1, k), ⟨by show 1 ≤ i + 1; omega, by show i + 1 ≤ bs.length; omega, hNX⟩, by show bs.length - (i + 1) < bs.length - i; omega, ?_⟩
    refine le_intro hB [(100, 100)] (by simp) (fun b hb => absurd hb (Nat.not_lt_zero b)) rfl ?_ ?_ rfl <;> simp -dsimp -implicitDefEqProofs only [push_cast, ↓trAdd_f, ↓stOf_f, seval]
  · subst hsS
    have hn0 : 0 ≤ 1 := by decide
    have rm1 : Int.tmod ((i : Int) + 1) 2 = 1 := by rw [Int.tmod_eq_emod_of_nonneg (by omega)]; omega
    have rm0 : Int.tmod (i : Int) 2 = 0 := by rw [Int.tmod_eq_emod_of_nonneg (by omega)]; omega
    have hlo : FnS Tryd.prog 38 [.agg (encFlash f), .int .i64 1, .agg (encImg ⟨i, b⟩), .int .i64 key] [] _ [] := loaded24_ok f 1 ⟨i, b⟩ key hTO.on.big (by decide) hm hmay
    rw [hI.load] at hlo
    have hbo := bootF_ok g key hI.big
    rw [show bootF g key = ⟨h', 0, ⟨i, b⟩, 0⟩ from hI.boot] at hbo
    have hwe := well0_ok h' hI.hbig
    rw [show wellF h' 0 = (k, 0) from hI.well] at hwe
    have hrd := read_ok k (by rw [hI.kbig.n70]; decide) hI.kbig.fine.good.block hI.kbig.fine.bytes
    rw [hI.read] at hrd
    have hpw := power_ok k (-1)
    rw [powSelf hI.down hI.left] at hpw
    have hba := bootF_ok k key hI.kbig
    rw [show bootF k key = ⟨k, 0, ⟨i, b⟩, 0⟩ from hI.again] at hba
    have hsm := sameRef_ok k k hI.kbig.fine.bytes hI.kbig.fine.bytes (by rw [hI.kbig.n70]; decide) (by rw [hI.kbig.wl]; decide)
    rw [sameF_self] at hsm
    obtain ⟨rseq, rs0, rs1, rv0, rv1, rtr⟩ := r'
    have h40 : rs0 = 4 := hI.st0
    have h41 : rs1 = 4 := hI.st1
    have hsq : rseq = 1 + 4 * (i : Int) := by have : rseq = 4 * (i : Int) - 3 + 4 := hq4; omega
    subst h40 h41 hsq
    clear hI hTO d hm hbb hall' hgood
    simp only at hbo hba
    have hstr := bytes_eq hbi hbi
    have hdb : decide (b = b) = true := decide_eq_true rfl
    rw [hdb] at hstr
    have hNX : ∃ r p, TurnOk k r p key ((i + 1 + 1) % 2) (4 * ((i + 1 : Nat) : Int) - 3) ∧ p.ver = ((i + 1 : Nat) : Int) - 1 := ⟨_, _, by
      rw [show (i + 1 + 1) % 2 = 0 by omega, show 4 * ((i + 1 : Nat) : Int) - 3 = 4 * (i : Int) - 3 + 4 by omega]; exact hTO', by show (i : Int) = _; omega⟩
    clear hTO'
    try refine hK _ ?_
    repeat (first | refine awp_seq ?_ | refine awp_block ?_ | refine awp_skip ?_ | refine awp_scope ?_ | refine awp_label ?_)
    refine awp_region tabOk fun K hK => ?_
    simp -dsimp -implicitDefEqProofs only [hg, encP, push_cast, ↓trAdd_f, ↓stOf_f, seval]
    refine ⟨⟨by omega, by omega⟩, hK _ ?_⟩
    try refine hK _ ?_
    repeat (first | refine awp_seq ?_ | refine awp_block ?_ | refine awp_skip ?_ | refine awp_scope ?_ | refine awp_label ?_)
    refine awp_region tabOk fun K hK => ?_
    simp -dsimp -implicitDefEqProofs only [w, rm1, push_cast, ↓trAdd_f, ↓stOf_f, seval]
    refine callK_simple hlo ?_ rfl fun _ => ?_
    · simp -dsimp -implicitDefEqProofs only [push_cast, List.mem_append, List.mem_cons, List.mem_singleton, forall_eq_or_imp, forall_eq, ↓trAdd_f, ↓stOf_f, seval]
    simp -dsimp -implicitDefEqProofs only [push_cast, ↓trAdd_f, ↓stOf_f, seval]
    refine hK _ ?_
    try refine hK _ ?_
    repeat (first | refine awp_seq ?_ | refine awp_block ?_ | refine awp_skip ?_ | refine awp_scope ?_ | refine awp_label ?_)
    refine awp_region tabOk fun K hK => ?_
    simp -dsimp -implicitDefEqProofs only [push_cast, ↓trAdd_f, ↓stOf_f, seval]
    refine callK_simple hbo ?_ rfl fun _ => ?_
    · simp -dsimp -implicitDefEqProofs only [push_cast, List.mem_append, List.mem_cons, List.mem_singleton, forall_eq_or_imp, forall_eq, ↓trAdd_f, ↓stOf_f, seval]
    simp -dsimp -implicitDefEqProofs only [push_cast, ↓trAdd_f, ↓stOf_f, seval]
    refine hK _ ?_
    try refine hK _ ?_
    repeat (first | refine awp_seq ?_ | refine awp_block ?_ | refine awp_skip ?_ | refine awp_scope ?_ | refine awp_label ?_)
    refine awp_region tabOk fun K hK => ?_
    simp -dsimp -implicitDefEqProofs only [push_cast, ↓trAdd_f, ↓stOf_f, seval]
    refine callK_simple hwe ?_ rfl fun _ => ?_
    · simp -dsimp -implicitDefEqProofs only [push_cast, List.mem_append, List.mem_cons, List.mem_singleton, forall_eq_or_imp, forall_eq, ↓trAdd_f, ↓stOf_f, seval]
    simp -dsimp -implicitDefEqProofs only [push_cast, ↓trAdd_f, ↓stOf_f, seval]
    refine hK _ ?_
    try refine hK _ ?_
    repeat (first | refine awp_seq ?_ | refine awp_block ?_ | refine awp_skip ?_ | refine awp_scope ?_ | refine awp_label ?_)
    refine awp_region tabOk fun K hK => ?_
    simp -dsimp -implicitDefEqProofs only [push_cast, ↓trAdd_f, ↓stOf_f, seval]
    refine callK_simple hrd ?_ rfl fun _ => ?_
    · simp -dsimp -implicitDefEqProofs only [push_cast, List.mem_append, List.mem_cons, List.mem_singleton, forall_eq_or_imp, forall_eq, ↓trAdd_f, ↓stOf_f, seval]
    simp -dsimp -implicitDefEqProofs only [encRec, push_cast, ↓trAdd_f, ↓stOf_f, seval]
    refine hK _ ?_
    have v0 : IntKind.i64.wrap 0 = 0 := rfl
    have v1 : IntKind.i64.wrap 1 = 1 := rfl
    have hii : ((i : Int) != (i : Int)) = false := by simp
    have hqq : ((1 + 4 * (i : Int)) != (1 + 4 * (i : Int))) = false := by simp
    try refine hK _ ?_
    repeat (first | refine awp_seq ?_ | refine awp_block ?_ | refine awp_skip ?_ | refine awp_scope ?_ | refine awp_label ?_)
    refine awp_draw tabOk (by kernel_rfl) (by kernel_rfl) fun K hK C hC => ?_
    simp -dsimp -implicitDefEqProofs only [hg, encP, rm0, w4, w5, hii, hqq, hstr, v0, v1, push_cast, ↓trAdd_f, ↓stOf_f, seval]
    refine ⟨isByte_enc _, ⟨by omega, by omega⟩, isByte_enc _, hC _ (by kernel_rfl), hK _ ?_⟩
    try refine hK _ ?_
    repeat (first | refine awp_seq ?_ | refine awp_block ?_ | refine awp_skip ?_ | refine awp_scope ?_ | refine awp_label ?_)
    refine awp_cond (b := false) (by simp -dsimp -implicitDefEqProofs only [push_cast, ↓trAdd_f, ↓stOf_f, seval]) (fun h => ?_) (fun h => ?_)
    · cases h
    refine awp_skip ?_
    try refine hK _ ?_
    repeat (first | refine awp_seq ?_ | refine awp_block ?_ | refine awp_skip ?_ | refine awp_scope ?_ | refine awp_label ?_)
    refine awp_region tabOk fun K hK => ?_
    simp -dsimp -implicitDefEqProofs only [push_cast, ↓trAdd_f, ↓stOf_f, seval]
    refine callK_simple hpw ?_ rfl fun _ => ?_
    · simp -dsimp -implicitDefEqProofs only [push_cast, List.mem_append, List.mem_cons, List.mem_singleton, forall_eq_or_imp, forall_eq, ↓trAdd_f, ↓stOf_f, seval]
    simp -dsimp -implicitDefEqProofs only [push_cast, ↓trAdd_f, ↓stOf_f, seval]
    refine callK_simple hba ?_ rfl fun _ => ?_
    · simp -dsimp -implicitDefEqProofs only [push_cast, List.mem_append, List.mem_cons, List.mem_singleton, forall_eq_or_imp, forall_eq, ↓trAdd_f, ↓stOf_f, seval]
    simp -dsimp -implicitDefEqProofs only [push_cast, ↓trAdd_f, ↓stOf_f, seval]
    refine hK _ ?_
    try refine hK _ ?_
    repeat (first | refine awp_seq ?_ | refine awp_block ?_ | refine awp_skip ?_ | refine awp_scope ?_ | refine awp_label ?_)
    refine awp_draw tabOk (by kernel_rfl) (by kernel_rfl) fun K hK C hC => ?_
    simp -dsimp -implicitDefEqProofs only [hii, push_cast, ↓trAdd_f, ↓stOf_f, seval]
    refine callK_simple hpw ?_ rfl fun _ => ?_
    · simp -dsimp -implicitDefEqProofs only [push_cast, List.mem_append, List.mem_cons, List.mem_singleton, forall_eq_or_imp, forall_eq, ↓trAdd_f, ↓stOf_f, seval]
    simp -dsimp -implicitDefEqProofs only [hii, push_cast, ↓trAdd_f, ↓stOf_f, seval]
    refine callK_simple hsm ?_ rfl fun _ => ?_
    · simp -dsimp -implicitDefEqProofs only [push_cast, List.mem_append, List.mem_cons, List.mem_singleton, forall_eq_or_imp, forall_eq, ↓trAdd_f, ↓stOf_f, seval]
    simp -dsimp -implicitDefEqProofs only [hii, push_cast, ↓trAdd_f, ↓stOf_f, seval]
    refine ⟨hC _ (by kernel_rfl), hK _ ?_⟩
    try refine hK _ ?_
    repeat (first | refine awp_seq ?_ | refine awp_block ?_ | refine awp_skip ?_ | refine awp_scope ?_ | refine awp_label ?_)
    refine awp_cond (b := false) (by simp -dsimp -implicitDefEqProofs only [push_cast, ↓trAdd_f, ↓stOf_f, seval]) (fun h => ?_) (fun h => ?_)
    · cases h
    refine awp_skip ?_
    try refine hK _ ?_
    repeat (first | refine awp_seq ?_ | refine awp_block ?_ | refine awp_skip ?_ | refine awp_scope ?_ | refine awp_label ?_)
    refine awp_region tabOk fun K hK => ?_
    simp -dsimp -implicitDefEqProofs only [push_cast, ↓trAdd_f, ↓stOf_f, seval]
    refine hK _ ?_
    try refine hK _ ?_
    repeat (first | refine awp_seq ?_ | refine awp_block ?_ | refine awp_skip ?_ | refine awp_scope ?_ | refine awp_label ?_)
    refine awp_region tabOk fun K hK => ?_
    simp -dsimp -implicitDefEqProofs only [w, push_cast, ↓trAdd_f, ↓stOf_f, seval]
    refine hK _ ⟨(i + 1, k), ⟨by show 1 ≤ i + 1; omega, by show i + 1 ≤ bs.length; omega, hNX⟩, by show bs.length - (i + 1) < bs.length - i; omega, ?_⟩
    refine le_intro hB [(100, 100)] (by simp) (fun b hb => absurd hb (Nat.not_lt_zero b)) rfl ?_ ?_ rfl <;> simp -dsimp -implicitDefEqProofs only [push_cast, ↓trAdd_f, ↓stOf_f, seval]
end Go.Proofs.YtoifmpiikopelaaDoorFw

/-
  How the laws' arguments read.
-/
namespace Go.Proofs.YtoifmpiikopelaaDoorFw
open Go Go.Proofs
set_option linter.unusedVariables false
set_option linter.unusedSimpArgs false

theorem I64_wf {x : Int} (h : (Lit.int .i64 x).wf = true) : I64 x := by
  simpa [Lit.wf, IntKind.min, IntKind.max, IntKind.signed, IntKind.bits, I64] using h
theorem u8_wf {x : Int} (h : (Lit.int .u8 x).wf = true) : 0 ≤ x ∧ x ≤ 255 := by
  simpa [Lit.wf, IntKind.min, IntKind.max, IntKind.signed, IntKind.bits] using h
theorem u16_wf {x : Int} (h : (Lit.int .u16 x).wf = true) : 0 ≤ x ∧ x ≤ 65535 := by
  simpa [Lit.wf, IntKind.min, IntKind.max, IntKind.signed, IntKind.bits] using h
theorem u32_wf {x : Int} (h : (Lit.int .u32 x).wf = true) : 0 ≤ x ∧ x ≤ 4294967295 := by
  simpa [Lit.wf, IntKind.min, IntKind.max, IntKind.signed, IntKind.bits] using h
theorem opens3 : Opens Tryd.prog 3 1 (fun n : Int => [.int .i64 n]) I64 := (opens_int Tryd.underlying3 (by kernel_rfl)).conv (fun _ => rfl) fun y h => I64_wf h
theorem opens4 : Opens Tryd.prog 4 1 (fun b : Bool => [.bool b]) (fun _ => True) := opens_bool Tryd.underlying4 (by kernel_rfl)
theorem opens5 : Opens Tryd.prog 5 1 (fun n : Int => [.int .u8 n]) byte := (opens_int Tryd.underlying5 (by kernel_rfl)).conv (fun _ => rfl) fun y h => u8_wf h
theorem opens56 : Opens Tryd.prog 56 1 (fun n : Int => [.int .u16 n]) (fun n => 0 ≤ n ∧ n ≤ 65535) := (opens_int Tryd.underlying56 (by kernel_rfl)).conv (fun _ => rfl) fun y h => u16_wf h
theorem opens25 : Opens Tryd.prog 25 1 (fun n : Int => [.int .u32 n]) (fun n => 0 ≤ n ∧ n ≤ 4294967295) := (opens_int Tryd.underlying25 (by kernel_rfl)).conv (fun _ => rfl) fun y h => u32_wf h
theorem opens22 : Opens Tryd.prog 22 1 (fun l : List Int => [.sl false 1 (l.map encB)]) (fun l => l.length ≤ 140737488351232 ∧ ∀ b ∈ l, byte b) :=
  (opens_slice (B := 1) Tryd.underlying22 (by kernel_rfl) (by kernel_rfl) (by decide) (by decide) opens5).conv (fun _ => rfl) fun y h => ⟨h.2.1, h.2.2⟩
theorem opens28 : Opens Tryd.prog 28 1 (fun l : List (List Int) => [.sl false 1 (l.map encP)]) (fun l => l.length ≤ 140737488351232 ∧ ∀ p ∈ l, p.length ≤ 140737488351232 ∧ ∀ b ∈ p, byte b) :=
  (opens_slice (B := 24) Tryd.underlying28 (by kernel_rfl) (by kernel_rfl) (by decide) (by decide) opens22).conv (fun _ => rfl) fun y h => ⟨h.2.1, h.2.2⟩
def Img.wf (m : Img) : Prop := I64 m.ver ∧ m.body.length ≤ 140737488351232 ∧ ∀ b ∈ m.body, byte b
theorem opens24 : Opens Tryd.prog 24 2 encImg Img.wf :=
  (opens_struct Tryd.underlying24 (by kernel_rfl) (opensF_cons rfl opens3 (opensF_one rfl opens22)) (fun x : Img => (x.ver, x.body)) (fun p => ⟨p.1, p.2⟩) (fun _ => rfl)).conv (fun _ => rfl) fun y h => ⟨h.1, h.2⟩
end Go.Proofs.YtoifmpiikopelaaDoorFw

/-
  The law TopTurns, of arguments as they read.
-/
namespace Go.Proofs.YtoifmpiikopelaaDoorFw
open Go Go.Proofs
set_option linter.unusedVariables false
set_option linter.unusedSimpArgs false

theorem lawTopTurnsA (bs : List (List Int)) (key : Int) (hb : bs.length ≤ 140737488351232 ∧ ∀ p ∈ bs, p.length ≤ 140737488351232 ∧ ∀ b ∈ p, byte b) (_ : I64 key) :
    FnS Tryd.prog 11 [.sl false 1 (bs.map encP), .int .i64 key] [] (.bool true) [] := lawTopTurns bs key fun p hp => (hb.2 p hp).2
end Go.Proofs.YtoifmpiikopelaaDoorFw
