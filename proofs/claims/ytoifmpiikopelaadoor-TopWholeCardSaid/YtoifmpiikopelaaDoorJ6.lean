import Derived.Test.YtoifmpiikopelaaDoorJ5
/-
  The law TopWhole: an image that is saved whole is whole, with its key; without a block it is what its bytes are.
-/
namespace Go.Proofs.YtoifmpiikopelaaDoorFw
open Go Go.Proofs
set_option maxRecDepth 100000
set_option maxHeartbeats 4000000
set_option linter.unusedVariables false
set_option linter.unusedSimpArgs false

def whlS (m : Img) (key other : Int) (s k : Nat) (i : Nat) : AS := { sl := [(1, .int .i64 key), (2, .int .i64 other), (5, .ptr 100 0), (11, .bool true), (12, .int .i64 s), (13, .sl false 1 ((packS m key).map encB)), (15, .sl false 1 ((packS m other).map encB)), (17, .sl false 1 ((blocksOf (packS m key)).map encT)), (18, .int .i64 k), (19, .ptr 101 0), (20, .ptr 102 0), (21, .int .i64 i)], st := [(100, .box (encImg m)), (101, .box (encFlash (stF (newF 70) s (packS m key) 99 i))), (102, .box (encFlash (stF (newF 70) s (packS m key) k i)))], nx := 4000, n := 200 }
def whmS (m : Img) (key other : Int) (s k : Nat) (F G : Flash) (j : Nat) : AS := { sl := [(1, .int .i64 key), (2, .int .i64 other), (5, .ptr 100 0), (11, .bool true), (12, .int .i64 s), (13, .sl false 1 ((packS m key).map encB)), (15, .sl false 1 ((packS m other).map encB)), (17, .sl false 1 ((blocksOf (packS m key)).map encT)), (18, .int .i64 k), (19, .ptr 101 0), (20, .ptr 102 0), (24, .own 103 1 0 (packS m key).length), (25, .int .i64 j)], st := [(100, .box (encImg m)), (101, .box (encFlash F)), (102, .box (encFlash G)), (103, .row 1 ((leftF (packS m key) k j).map encB))], nx := 6000, n := 200 }
theorem lawTopWhole (m : Img) (key other : Int) (at_ : Bool) (skip : Int) (hmb : ∀ x ∈ m.body, byte x) (hsk : byte skip) :
    FnS Tryd.prog 7 [.agg (encImg m), .int .i64 key, .int .i64 other, .bool at_, .int .u8 skip] [] (.bool true) [] := by
  refine fn_walk tabOk Tryd.func7 rfl (by decide +kernel) Tryd.ntmps7 Tryd.results7 (by simp) fun B hB => ?_
  try refine hK _ ?_
  repeat (first | refine awp_seq ?_ | refine awp_block ?_ | refine awp_skip ?_ | refine awp_scope ?_ | refine awp_label ?_)
  refine awp_region tabOk fun K hK => ?_
  simp -dsimp -implicitDefEqProofs only [push_cast, ↓trAdd_f, ↓stOf_f, seval]
  refine hK _ ?_
  try refine hK _ ?_
  repeat (first | refine awp_seq ?_ | refine awp_block ?_ | refine awp_skip ?_ | refine awp_scope ?_ | refine awp_label ?_)
  refine awp_region tabOk fun K hK => ?_
  simp -dsimp -implicitDefEqProofs only [push_cast, ↓trAdd_f, ↓stOf_f, seval]
  refine callK_simple head24_ok ?_ rfl fun _ => ?_
  · simp -dsimp -implicitDefEqProofs only [push_cast, List.mem_append, List.mem_cons, List.mem_singleton, forall_eq_or_imp, forall_eq, ↓trAdd_f, ↓stOf_f, seval]
  simp -dsimp -implicitDefEqProofs only [push_cast, ↓trAdd_f, ↓stOf_f, seval]
  refine hK _ ?_
  try refine hK _ ?_
  repeat (first | refine awp_seq ?_ | refine awp_block ?_ | refine awp_skip ?_ | refine awp_scope ?_ | refine awp_label ?_)
  refine awp_region tabOk fun K hK => ?_
  simp -dsimp -implicitDefEqProofs only [push_cast, ↓trAdd_f, ↓stOf_f, seval]
  refine callK_simple (great24_ok m key) ?_ rfl fun _ => ?_
  · simp -dsimp -implicitDefEqProofs only [push_cast, List.mem_append, List.mem_cons, List.mem_singleton, forall_eq_or_imp, forall_eq, ↓trAdd_f, ↓stOf_f, seval]
  cases hA : greatB m key with
  | true =>
    simp -dsimp -implicitDefEqProofs only [push_cast, ↓trAdd_f, ↓stOf_f, seval]
    refine hK _ ?_
    try refine hK _ ?_
    repeat (first | refine awp_seq ?_ | refine awp_block ?_ | refine awp_skip ?_ | refine awp_scope ?_ | refine awp_label ?_)
    refine awp_cond (b := true) (by simp -dsimp -implicitDefEqProofs only [push_cast, ↓trAdd_f, ↓stOf_f, seval]) (fun h => ?_) (fun h => ?_)
    rotate_left
    · cases h
    try refine hK _ ?_
    repeat (first | refine awp_seq ?_ | refine awp_block ?_ | refine awp_skip ?_ | refine awp_scope ?_ | refine awp_label ?_)
    refine awp_region tabOk fun K hK => ?_
    simp -dsimp -implicitDefEqProofs only [push_cast, ↓trAdd_f, ↓stOf_f, seval]
    refine hK _ (awp_ret ?_)
    simp -dsimp -implicitDefEqProofs only [push_cast, List.mem_append, List.mem_cons, List.mem_singleton, forall_eq_or_imp, forall_eq, ↓trAdd_f, ↓stOf_f, seval]
  | false =>
  obtain ⟨hm, hk1, _⟩ := great_good hA hmb
  simp -dsimp -implicitDefEqProofs only [push_cast, ↓trAdd_f, ↓stOf_f, seval]
  refine callK_simple (great24_ok m other) ?_ rfl fun _ => ?_
  · simp -dsimp -implicitDefEqProofs only [push_cast, List.mem_append, List.mem_cons, List.mem_singleton, forall_eq_or_imp, forall_eq, ↓trAdd_f, ↓stOf_f, seval]
  cases hQ : greatB m other with
  | true =>
    simp -dsimp -implicitDefEqProofs only [push_cast, ↓trAdd_f, ↓stOf_f, seval]
    refine hK _ ?_
    try refine hK _ ?_
    repeat (first | refine awp_seq ?_ | refine awp_block ?_ | refine awp_skip ?_ | refine awp_scope ?_ | refine awp_label ?_)
    refine awp_cond (b := true) (by simp -dsimp -implicitDefEqProofs only [push_cast, ↓trAdd_f, ↓stOf_f, seval]) (fun h => ?_) (fun h => ?_)
    rotate_left
    · cases h
    try refine hK _ ?_
    repeat (first | refine awp_seq ?_ | refine awp_block ?_ | refine awp_skip ?_ | refine awp_scope ?_ | refine awp_label ?_)
    refine awp_region tabOk fun K hK => ?_
    simp -dsimp -implicitDefEqProofs only [push_cast, ↓trAdd_f, ↓stOf_f, seval]
    refine hK _ (awp_ret ?_)
    simp -dsimp -implicitDefEqProofs only [push_cast, List.mem_append, List.mem_cons, List.mem_singleton, forall_eq_or_imp, forall_eq, ↓trAdd_f, ↓stOf_f, seval]
  | false =>
  obtain ⟨_, hk2, _⟩ := great_good hQ hmb
  simp -dsimp -implicitDefEqProofs only [push_cast, ↓trAdd_f, ↓stOf_f, seval]
  refine hK _ ?_
  try refine hK _ ?_
  repeat (first | refine awp_seq ?_ | refine awp_block ?_ | refine awp_skip ?_ | refine awp_scope ?_ | refine awp_label ?_)
  refine awp_cond (b := false) (by simp -dsimp -implicitDefEqProofs only [push_cast, ↓trAdd_f, ↓stOf_f, seval]) (fun h => ?_) (fun h => ?_)
  · cases h
  refine awp_skip ?_
  try refine hK _ ?_
  repeat (first | refine awp_seq ?_ | refine awp_block ?_ | refine awp_skip ?_ | refine awp_scope ?_ | refine awp_label ?_)
  refine awp_region tabOk fun K hK => ?_
  simp -dsimp -implicitDefEqProofs only [push_cast, ↓trAdd_f, ↓stOf_f, seval]
  refine hK _ (awp_seq ?_)
  obtain ⟨s, hs1, hsb⟩ : ∃ s : Nat, s ≤ 1 ∧ s = if at_ = true then 1 else 0 := ⟨_, by split <;> decide, rfl⟩
  refine awp_join { sl := [(1, .int .i64 key), (2, .int .i64 other), (4, .int .u8 skip), (5, .ptr 100 0), (11, .bool true), (12, .int .i64 s)], st := [(100, .box (encImg m))], nx := 1000, n := 200 } ?_ (fun _ hl h => awp_le hl h) ?_
  · try refine hK _ ?_
    repeat (first | refine awp_seq ?_ | refine awp_block ?_ | refine awp_skip ?_ | refine awp_scope ?_ | refine awp_label ?_)
    refine awp_region tabOk fun K hK => ?_
    simp -dsimp -implicitDefEqProofs only [push_cast, ↓trAdd_f, ↓stOf_f, seval]
    try refine hK _ ?_
    repeat (first | refine awp_seq ?_ | refine awp_block ?_ | refine awp_skip ?_ | refine awp_scope ?_ | refine awp_label ?_)
    refine awp_cond (b := at_) (by simp -dsimp -implicitDefEqProofs only [push_cast, ↓trAdd_f, ↓stOf_f, seval]) (fun h => ?_) (fun h => ?_)
    · try refine hK _ ?_
      repeat (first | refine awp_seq ?_ | refine awp_block ?_ | refine awp_skip ?_ | refine awp_scope ?_ | refine awp_label ?_)
      refine awp_region tabOk fun K hK => ?_
      simp -dsimp -implicitDefEqProofs only [push_cast, ↓trAdd_f, ↓stOf_f, seval]
      refine hK _ ?_
      have e : s = 1 := by rw [hsb, h]; rfl
      subst e
      refine le_intro hB [(100, 0)] (by simp) (fun b hb => absurd hb (Nat.not_lt_zero b)) rfl ?_ ?_ rfl <;> simp -dsimp -implicitDefEqProofs only [push_cast, ↓trAdd_f, ↓stOf_f, seval]
    · have e : s = 0 := by rw [hsb, h]; rfl
      subst e
      refine awp_skip ?_
      refine le_intro hB [(100, 0)] (by simp) (fun b hb => absurd hb (Nat.not_lt_zero b)) rfl ?_ ?_ rfl <;> simp -dsimp -implicitDefEqProofs only [push_cast, ↓trAdd_f, ↓stOf_f, seval]
  have hpk1 := pack_ok m key hm.right hk1
  have hpk2 := pack_ok m other hm.right hk2
  have hpl := packS_len m key
  have hn1 := hm.n1
  have hn2 := hm.n2
  obtain ⟨hnb, hnb1⟩ := nb_pack hm key
  have hbb := packS_bytes hm key
  have hcb := packS_bytes hm other
  obtain ⟨k, hkm, hkn⟩ := u8_mod hsk hnb1
  have hst1 := fun i hi => st_step (s := s) (b := packS m key) 99 new_big rfl rfl hs1 hbb hnb (fun j hj => new_page (by omega)) i hi
  have hst2 := fun i hi => st_step (s := s) (b := packS m key) k new_big rfl rfl hs1 hbb hnb (fun j hj => new_page (by omega)) i hi
  have hskw := byte_w hsk
  have hbl := blocks_len (packS m key)
  try refine hK _ ?_
  repeat (first | refine awp_seq ?_ | refine awp_block ?_ | refine awp_skip ?_ | refine awp_scope ?_ | refine awp_label ?_)
  refine awp_region tabOk fun K hK => ?_
  simp -dsimp -implicitDefEqProofs only [push_cast, ↓trAdd_f, ↓stOf_f, seval]
  refine callK_simple hpk1 ?_ rfl fun _ => ?_
  · simp -dsimp -implicitDefEqProofs only [push_cast, List.mem_append, List.mem_cons, List.mem_singleton, forall_eq_or_imp, forall_eq, ↓trAdd_f, ↓stOf_f, seval]
  simp -dsimp -implicitDefEqProofs only [push_cast, ↓trAdd_f, ↓stOf_f, seval]
  refine hK _ ?_
  try refine hK _ ?_
  repeat (first | refine awp_seq ?_ | refine awp_block ?_ | refine awp_skip ?_ | refine awp_scope ?_ | refine awp_label ?_)
  refine awp_region tabOk fun K hK => ?_
  simp -dsimp -implicitDefEqProofs only [push_cast, ↓trAdd_f, ↓stOf_f, seval]
  refine callK_simple hpk2 ?_ rfl fun _ => ?_
  · simp -dsimp -implicitDefEqProofs only [push_cast, List.mem_append, List.mem_cons, List.mem_singleton, forall_eq_or_imp, forall_eq, ↓trAdd_f, ↓stOf_f, seval]
  simp -dsimp -implicitDefEqProofs only [push_cast, ↓trAdd_f, ↓stOf_f, seval]
  refine hK _ ?_
  try refine hK _ ?_
  repeat (first | refine awp_seq ?_ | refine awp_block ?_ | refine awp_skip ?_ | refine awp_scope ?_ | refine awp_label ?_)
  refine awp_region tabOk fun K hK => ?_
  simp -dsimp -implicitDefEqProofs only [push_cast, ↓trAdd_f, ↓stOf_f, seval]
  refine hK _ ?_
  try refine hK _ ?_
  repeat (first | refine awp_seq ?_ | refine awp_block ?_ | refine awp_skip ?_ | refine awp_scope ?_ | refine awp_label ?_)
  refine awp_cond (b := false) (by simp -dsimp -implicitDefEqProofs only [push_cast, ↓trAdd_f, ↓stOf_f, seval]) (fun h => ?_) (fun h => ?_)
  · cases h
  refine awp_skip ?_
  try refine hK _ ?_
  repeat (first | refine awp_seq ?_ | refine awp_block ?_ | refine awp_skip ?_ | refine awp_scope ?_ | refine awp_label ?_)
  refine awp_region tabOk fun K hK => ?_
  simp -dsimp -implicitDefEqProofs only [push_cast, ↓trAdd_f, ↓stOf_f, seval]
  refine callK_simple (blocks_ok (packS m key) (by omega)) ?_ rfl fun _ => ?_
  · simp -dsimp -implicitDefEqProofs only [push_cast, List.mem_append, List.mem_cons, List.mem_singleton, forall_eq_or_imp, forall_eq, ↓trAdd_f, ↓stOf_f, seval]
  simp -dsimp -implicitDefEqProofs only [push_cast, ↓trAdd_f, ↓stOf_f, seval]
  refine hK _ ?_
  try refine hK _ ?_
  repeat (first | refine awp_seq ?_ | refine awp_block ?_ | refine awp_skip ?_ | refine awp_scope ?_ | refine awp_label ?_)
  refine awp_region tabOk fun K hK => ?_
  simp -dsimp -implicitDefEqProofs only [hskw, hkm, hbl, push_cast, ↓trAdd_f, ↓stOf_f, seval]
  refine ⟨by omega, hK _ ?_⟩
  try refine hK _ ?_
  repeat (first | refine awp_seq ?_ | refine awp_block ?_ | refine awp_skip ?_ | refine awp_scope ?_ | refine awp_label ?_)
  refine awp_region tabOk fun K hK => ?_
  simp -dsimp -implicitDefEqProofs only [push_cast, ↓trAdd_f, ↓stOf_f, seval]
  refine callK_simple fresh_ok ?_ rfl fun _ => ?_
  · simp -dsimp -implicitDefEqProofs only [push_cast, List.mem_append, List.mem_cons, List.mem_singleton, forall_eq_or_imp, forall_eq, ↓trAdd_f, ↓stOf_f, seval]
  simp -dsimp -implicitDefEqProofs only [push_cast, ↓trAdd_f, ↓stOf_f, seval]
  refine hK _ ?_
  try refine hK _ ?_
  repeat (first | refine awp_seq ?_ | refine awp_block ?_ | refine awp_skip ?_ | refine awp_scope ?_ | refine awp_label ?_)
  refine awp_region tabOk fun K hK => ?_
  simp -dsimp -implicitDefEqProofs only [push_cast, ↓trAdd_f, ↓stOf_f, seval]
  refine callK_simple fresh_ok ?_ rfl fun _ => ?_
  · simp -dsimp -implicitDefEqProofs only [push_cast, List.mem_append, List.mem_cons, List.mem_singleton, forall_eq_or_imp, forall_eq, ↓trAdd_f, ↓stOf_f, seval]
  simp -dsimp -implicitDefEqProofs only [push_cast, ↓trAdd_f, ↓stOf_f, seval]
  refine hK _ ?_
  try refine hK _ ?_
  repeat (first | refine awp_seq ?_ | refine awp_block ?_ | refine awp_skip ?_ | refine awp_scope ?_ | refine awp_label ?_)
  refine awp_region tabOk fun K hK => ?_
  simp -dsimp -implicitDefEqProofs only [push_cast, ↓trAdd_f, ↓stOf_f, seval]
  refine hK _ (awp_block ?_)
  refine awp_for (fun i : Nat => whlS m key other s k i) (fun i => i ≤ nBlocks (packS m key)) (fun i => nBlocks (packS m key) - i) 0 (Nat.zero_le _) ?_ fun i hi => ?_
  · simp only [whlS, stF]
    refine le_intro hB [(100, 100), (101, 1256), (102, 1280)] (by simp) (fun b hb => absurd hb (Nat.not_lt_zero b)) rfl ?_ ?_ rfl <;> simp -dsimp -implicitDefEqProofs only [push_cast, ↓trAdd_f, ↓stOf_f, seval]
  simp only [whlS]
  by_cases hlt : i < nBlocks (packS m key)
  · have d : decide ((i : Int) < (nBlocks (packS m key) : Int)) = true := by simpa using hlt
    have w : IntKind.i64.wrap ((i : Int) + 1) = (i : Int) + 1 := wrap_i64 (by omega) (by omega)
    have hg := blocks_get (packS m key) i hlt
    have hp2 := piece_len (packS m key) i
    obtain ⟨o1, _, e1⟩ := hst1 i (by omega)
    obtain ⟨o2, _, e2⟩ := hst2 i (by omega)
    have hs1' := save_ok (stF (newF 70) s (packS m key) 99 i) s i true (pieceOf (packS m key) i) o1.big.fine (by omega) (by omega)
    have n1 : stF (newF 70) s (packS m key) 99 (i + 1) = (saveF (stF (newF 70) s (packS m key) 99 i) s i (pieceOf (packS m key) i)).1 := by show (if i = 99 then _ else _) = _; rw [if_neg (by omega)]
    have e1' := e1 hlt
    unfold stR at e1'
    rw [← n1, e1'] at hs1'
    try refine hK _ ?_
    repeat (first | refine awp_seq ?_ | refine awp_block ?_ | refine awp_skip ?_ | refine awp_scope ?_ | refine awp_label ?_)
    refine awp_region tabOk fun K hK => ?_
    simp -dsimp -implicitDefEqProofs only [hbl, d, push_cast, ↓trAdd_f, ↓stOf_f, seval]
    try refine hK _ ?_
    repeat (first | refine awp_seq ?_ | refine awp_block ?_ | refine awp_skip ?_ | refine awp_scope ?_ | refine awp_label ?_)
    refine awp_cond (b := true) (by simp -dsimp -implicitDefEqProofs only [push_cast, ↓trAdd_f, ↓stOf_f, seval]) (fun h => ?_) (fun h => ?_)
    rotate_left
    · cases h
    refine awp_skip ?_
    try refine hK _ ?_
    repeat (first | refine awp_seq ?_ | refine awp_block ?_ | refine awp_skip ?_ | refine awp_scope ?_ | refine awp_label ?_)
    refine awp_draw tabOk (by kernel_rfl) (by kernel_rfl) fun K hK C hC => ?_
    simp -dsimp -implicitDefEqProofs only [hg, hbl, push_cast, ↓trAdd_f, ↓stOf_f, seval]
    refine ⟨⟨by omega, by omega⟩, ?_⟩
    refine callK_simple hs1' ?_ rfl fun _ => ?_
    · simp -dsimp -implicitDefEqProofs only [push_cast, List.mem_append, List.mem_cons, List.mem_singleton, forall_eq_or_imp, forall_eq, ↓trAdd_f, ↓stOf_f, seval]
    simp -dsimp -implicitDefEqProofs only [push_cast, ↓trAdd_f, ↓stOf_f, seval]
    refine ⟨hC _ (by kernel_rfl), hK _ ?_⟩
    try refine hK _ ?_
    repeat (first | refine awp_seq ?_ | refine awp_block ?_ | refine awp_skip ?_ | refine awp_scope ?_ | refine awp_label ?_)
    refine awp_region tabOk fun K hK => ?_
    simp -dsimp -implicitDefEqProofs only [push_cast, ↓trAdd_f, ↓stOf_f, seval]
    refine hK _ ?_
    try refine hK _ ?_
    repeat (first | refine awp_seq ?_ | refine awp_block ?_ | refine awp_skip ?_ | refine awp_scope ?_ | refine awp_label ?_)
    refine awp_cond (b := false) (by simp -dsimp -implicitDefEqProofs only [push_cast, ↓trAdd_f, ↓stOf_f, seval]) (fun h => ?_) (fun h => ?_)
    · cases h
    refine awp_skip ?_
    try refine hK _ ?_
    repeat (first | refine awp_seq ?_ | refine awp_block ?_ | refine awp_skip ?_ | refine awp_scope ?_ | refine awp_label ?_)
    refine awp_region tabOk fun K hK => ?_
    simp -dsimp -implicitDefEqProofs only [push_cast, ↓trAdd_f, ↓stOf_f, seval]
    refine hK _ ?_
    by_cases hik : i = k
    · have n2 : stF (newF 70) s (packS m key) k (i + 1) = stF (newF 70) s (packS m key) k i := by show (if i = k then _ else _) = _; rw [if_pos hik]
      have dk : ((i : Int) != (k : Int)) = false := by simp; omega
      try refine hK _ ?_
      repeat (first | refine awp_seq ?_ | refine awp_block ?_ | refine awp_skip ?_ | refine awp_scope ?_ | refine awp_label ?_)
      refine awp_region tabOk fun K hK => ?_
      simp -dsimp -implicitDefEqProofs only [dk, push_cast, ↓trAdd_f, ↓stOf_f, seval]
      refine hK _ ?_
      try refine hK _ ?_
      repeat (first | refine awp_seq ?_ | refine awp_block ?_ | refine awp_skip ?_ | refine awp_scope ?_ | refine awp_label ?_)
      refine awp_cond (b := false) (by simp -dsimp -implicitDefEqProofs only [push_cast, ↓trAdd_f, ↓stOf_f, seval]) (fun h => ?_) (fun h => ?_)
      · cases h
      refine awp_skip ?_
      try refine hK _ ?_
      repeat (first | refine awp_seq ?_ | refine awp_block ?_ | refine awp_skip ?_ | refine awp_scope ?_ | refine awp_label ?_)
      refine awp_region tabOk fun K hK => ?_
      simp -dsimp -implicitDefEqProofs only [w, push_cast, ↓trAdd_f, ↓stOf_f, seval]
      refine hK _ ⟨i + 1, hlt, by omega, ?_⟩
      rw [n2]
      refine le_intro hB [(100, 100), (101, 101), (102, 102)] (by simp) (fun b hb => absurd hb (Nat.not_lt_zero b)) rfl ?_ ?_ rfl <;> simp -dsimp -implicitDefEqProofs only [push_cast, ↓trAdd_f, ↓stOf_f, seval]
    · have n2 : stF (newF 70) s (packS m key) k (i + 1) = (saveF (stF (newF 70) s (packS m key) k i) s i (pieceOf (packS m key) i)).1 := by show (if i = k then _ else _) = _; rw [if_neg hik]
      have e2' := e2 hlt
      unfold stR at e2'
      have hs2' := save_ok (stF (newF 70) s (packS m key) k i) s i true (pieceOf (packS m key) i) o2.big.fine (by omega) (by omega)
      rw [← n2, e2'] at hs2'
      have dk : ((i : Int) != (k : Int)) = true := by simp; omega
      try refine hK _ ?_
      repeat (first | refine awp_seq ?_ | refine awp_block ?_ | refine awp_skip ?_ | refine awp_scope ?_ | refine awp_label ?_)
      refine awp_region tabOk fun K hK => ?_
      simp -dsimp -implicitDefEqProofs only [dk, push_cast, ↓trAdd_f, ↓stOf_f, seval]
      refine hK _ ?_
      try refine hK _ ?_
      repeat (first | refine awp_seq ?_ | refine awp_block ?_ | refine awp_skip ?_ | refine awp_scope ?_ | refine awp_label ?_)
      refine awp_cond (b := true) (by simp -dsimp -implicitDefEqProofs only [push_cast, ↓trAdd_f, ↓stOf_f, seval]) (fun h => ?_) (fun h => ?_)
      rotate_left
      · cases h
      try refine hK _ ?_
      repeat (first | refine awp_seq ?_ | refine awp_block ?_ | refine awp_skip ?_ | refine awp_scope ?_ | refine awp_label ?_)
      refine awp_draw tabOk (by kernel_rfl) (by kernel_rfl) fun K hK C hC => ?_
      simp -dsimp -implicitDefEqProofs only [hg, hbl, push_cast, ↓trAdd_f, ↓stOf_f, seval]
      refine ⟨⟨by omega, by omega⟩, ?_⟩
      refine callK_simple hs2' ?_ rfl fun _ => ?_
      · simp -dsimp -implicitDefEqProofs only [push_cast, List.mem_append, List.mem_cons, List.mem_singleton, forall_eq_or_imp, forall_eq, ↓trAdd_f, ↓stOf_f, seval]
      simp -dsimp -implicitDefEqProofs only [push_cast, ↓trAdd_f, ↓stOf_f, seval]
      refine ⟨hC _ (by kernel_rfl), hK _ ?_⟩
      try refine hK _ ?_
      repeat (first | refine awp_seq ?_ | refine awp_block ?_ | refine awp_skip ?_ | refine awp_scope ?_ | refine awp_label ?_)
      refine awp_region tabOk fun K hK => ?_
      simp -dsimp -implicitDefEqProofs only [w, push_cast, ↓trAdd_f, ↓stOf_f, seval]
      refine hK _ ⟨i + 1, hlt, by omega, ?_⟩
      refine le_intro hB [(100, 100), (101, 101), (102, 102)] (by simp) (fun b hb => absurd hb (Nat.not_lt_zero b)) rfl ?_ ?_ rfl <;> simp -dsimp -implicitDefEqProofs only [push_cast, ↓trAdd_f, ↓stOf_f, seval]
  have hie : i = nBlocks (packS m key) := by omega
  subst hie
  have d : decide ((nBlocks (packS m key) : Int) < (nBlocks (packS m key) : Int)) = false := by simp
  obtain ⟨F1, F2, _⟩ := hst1 _ (Nat.le_refl _)
  obtain ⟨G1, G2, _⟩ := hst2 _ (Nat.le_refl _)
  have hst := stored_of F2 hnb
  have wF1 := whole_same hm hk1 hst F1.big.n70 hs1 F1.down
  have wF2 := whole_pack hm hk2 hst F1.big.n70 hs1 F1.down
  have hclean : (stF (newF 70) s (packS m key) 99 (nBlocks (packS m key))).pages.getD (2 + 34 * (1 - s)) [] = clean64 := by
    have hs' : s = 0 ∨ s = 1 := by omega
    rcases hs' with rfl | rfl
    · exact (F1.high 36 (by omega) (by omega)).trans (new_page (by decide))
    · exact (F1.low 2 (by omega) (by omega)).trans (new_page (by decide))
  have wF3 : wholeF (stF (newF 70) s (packS m key) 99 (nBlocks (packS m key))) (1 - s) key = (img0, false) := whole_clean hclean F1.big.n70 (by omega) F1.down
  have wG := less_is hm hkn G1.big.n70 hs1 G1.down G2
  have c1 := wholeF_ok (stF (newF 70) s (packS m key) 99 (nBlocks (packS m key))) s key F1.big hs1
  have c2 := wholeF_ok (stF (newF 70) s (packS m key) 99 (nBlocks (packS m key))) s other F1.big hs1
  have c3 := wholeF_ok (stF (newF 70) s (packS m key) 99 (nBlocks (packS m key))) (1 - s) key F1.big (by omega)
  have c4 := wholeF_ok (stF (newF 70) s (packS m key) k (nBlocks (packS m key))) s key G1.big hs1
  rw [wF1] at c1
  rw [wF3] at c3
  have hodd : (wholeF (stF (newF 70) s (packS m key) 99 (nBlocks (packS m key))) s other).2 = decide (packS m key = packS m other) := by
    rw [wF2]
    by_cases q : packS m key = packS m other
    · rw [if_pos ((pack_same m key other).1 q)]; simp [q]
    · rw [if_neg (fun e => q ((pack_same m key other).2 e))]; simp [q]
  rw [hodd] at c2
  rw [wG] at c4
  clear wF1 wF2 wF3 wG hodd hclean hst F1 F2 G1 G2 hst1 hst2
  generalize stF (newF 70) s (packS m key) 99 (nBlocks (packS m key)) = F at *
  generalize stF (newF 70) s (packS m key) k (nBlocks (packS m key)) = G at *
  generalize (wholeF F s other).1 = wo at *
  generalize (wholeF G s key).1 = wg at *
  try refine hK _ ?_
  repeat (first | refine awp_seq ?_ | refine awp_block ?_ | refine awp_skip ?_ | refine awp_scope ?_ | refine awp_label ?_)
  refine awp_region tabOk fun K hK => ?_
  simp -dsimp -implicitDefEqProofs only [hbl, d, push_cast, ↓trAdd_f, ↓stOf_f, seval]
  try refine hK _ ?_
  repeat (first | refine awp_seq ?_ | refine awp_block ?_ | refine awp_skip ?_ | refine awp_scope ?_ | refine awp_label ?_)
  refine awp_cond (b := false) (by simp -dsimp -implicitDefEqProofs only [push_cast, ↓trAdd_f, ↓stOf_f, seval]) (fun h => ?_) (fun h => ?_)
  · cases h
  refine awp_exit rfl ?_
  have hml : ((packS m key).map encB).length = (packS m key).length := by simp
  have hmt : ((packS m key).map encB).take (packS m key).length = (packS m key).map encB := List.take_of_length_le (by simp)
  try refine hK _ ?_
  repeat (first | refine awp_seq ?_ | refine awp_block ?_ | refine awp_skip ?_ | refine awp_scope ?_ | refine awp_label ?_)
  refine awp_region tabOk fun K hK => ?_
  simp -dsimp -implicitDefEqProofs only [hml, push_cast, ↓trAdd_f, ↓stOf_f, seval]
  refine ⟨by omega, hK _ ?_⟩
  have hbk : 64 * k + blkL (packS m key) k ≤ (packS m key).length := by unfold blkL; unfold nBlocks at hkn; omega
  have hb64 : blkL (packS m key) k ≤ 64 := by unfold blkL; omega
  have hgk := blocks_get (packS m key) k hkn
  have hpk := piece_len (packS m key) k
  have hpk' : (pieceOf (packS m key) k).length = blkL (packS m key) k := hpk
  try refine hK _ ?_
  repeat (first | refine awp_seq ?_ | refine awp_block ?_ | refine awp_skip ?_ | refine awp_scope ?_ | refine awp_label ?_)
  refine awp_region tabOk fun K hK => ?_
  simp -dsimp -implicitDefEqProofs only [push_cast, ↓trAdd_f, ↓stOf_f, seval]
  refine hK _ (awp_block ?_)
  refine awp_for (fun j : Nat => whmS m key other s k F G j) (fun j => j ≤ blkL (packS m key) k) (fun j => blkL (packS m key) k - j) 0 (Nat.zero_le _) ?_ fun j hj => ?_
  · simp only [whmS, left_zero]
    refine le_intro hB [(100, 100), (101, 101), (102, 102), (103, 4048)] (by simp) (fun b hb => absurd hb (Nat.not_lt_zero b)) rfl ?_ ?_ rfl <;> simp -dsimp -implicitDefEqProofs only [bytes_ren, bytes_okl, hmt, push_cast, ↓trAdd_f, ↓stOf_f, seval]
  have hll : ∀ j, j ≤ blkL (packS m key) k → ((leftF (packS m key) k j).map encB).length = (packS m key).length := fun j hj => by rw [List.length_map, left_len _ _ _ (by omega)]
  simp only [whmS]
  by_cases hltj : j < blkL (packS m key) k
  · have d2 : decide ((j : Int) < (blkL (packS m key) k : Int)) = true := by simpa using hltj
    have w : IntKind.i64.wrap ((j : Int) + 1) = (j : Int) + 1 := wrap_i64 (by omega) (by omega)
    have w1 : IntKind.i64.wrap (64 * (k : Int)) = 64 * (k : Int) := wrap_i64 (by omega) (by omega)
    have w2 : IntKind.i64.wrap (64 * (k : Int) + (j : Int)) = 64 * (k : Int) + (j : Int) := wrap_i64 (by omega) (by omega)
    have w3 : (64 * (k : Int) + (j : Int)).toNat = 64 * k + j := by omega
    have hset : ((leftF (packS m key) k j).map encB).set (64 * k + j) [.int .u8 255] = (leftF (packS m key) k (j + 1)).map encB := by rw [set_encB, left_succ _ _ _ (by omega)]
    have hlj := hll j hj
    have hll1 : (leftF (packS m key) k j).length = (packS m key).length := left_len _ _ _ (by omega)
    have hgd : ((leftF (packS m key) k j).map encB).getD (64 * k + j) [] = [.int .u8 ((leftF (packS m key) k j)[64 * k + j]'(by omega))] := getD_map encB _ _ (by omega)
    try refine hK _ ?_
    repeat (first | refine awp_seq ?_ | refine awp_block ?_ | refine awp_skip ?_ | refine awp_scope ?_ | refine awp_label ?_)
    refine awp_region tabOk fun K hK => ?_
    simp -dsimp -implicitDefEqProofs only [hgk, hbl, hpk', d2, push_cast, ↓trAdd_f, ↓stOf_f, seval]
    refine ⟨⟨by omega, by omega⟩, hK _ ?_⟩
    try refine hK _ ?_
    repeat (first | refine awp_seq ?_ | refine awp_block ?_ | refine awp_skip ?_ | refine awp_scope ?_ | refine awp_label ?_)
    refine awp_cond (b := true) (by simp -dsimp -implicitDefEqProofs only [push_cast, ↓trAdd_f, ↓stOf_f, seval]) (fun h => ?_) (fun h => ?_)
    rotate_left
    · cases h
    refine awp_skip ?_
    try refine hK _ ?_
    repeat (first | refine awp_seq ?_ | refine awp_block ?_ | refine awp_skip ?_ | refine awp_scope ?_ | refine awp_label ?_)
    refine awp_region tabOk fun K hK => ?_
    simp -dsimp -implicitDefEqProofs only [w1, w2, w3, hgd, hset, hlj, push_cast, ↓trAdd_f, ↓stOf_f, seval]
    refine ⟨⟨by omega, by omega⟩, by omega, hK _ ?_⟩
    try refine hK _ ?_
    repeat (first | refine awp_seq ?_ | refine awp_block ?_ | refine awp_skip ?_ | refine awp_scope ?_ | refine awp_label ?_)
    refine awp_region tabOk fun K hK => ?_
    simp -dsimp -implicitDefEqProofs only [w, push_cast, ↓trAdd_f, ↓stOf_f, seval]
    refine hK _ ⟨j + 1, hltj, by omega, ?_⟩
    refine le_intro hB [(100, 100), (101, 101), (102, 102), (103, 103)] (by simp) (fun b hb => absurd hb (Nat.not_lt_zero b)) rfl ?_ ?_ rfl <;> simp -dsimp -implicitDefEqProofs only [bytes_ren, bytes_okl, push_cast, ↓trAdd_f, ↓stOf_f, seval]
  have hje : j = blkL (packS m key) k := by omega
  subst hje
  have d2 : decide ((blkL (packS m key) k : Int) < (blkL (packS m key) k : Int)) = false := by simp
  try refine hK _ ?_
  repeat (first | refine awp_seq ?_ | refine awp_block ?_ | refine awp_skip ?_ | refine awp_scope ?_ | refine awp_label ?_)
  refine awp_region tabOk fun K hK => ?_
  simp -dsimp -implicitDefEqProofs only [hgk, hbl, hpk', d2, push_cast, ↓trAdd_f, ↓stOf_f, seval]
  refine ⟨⟨by omega, by omega⟩, hK _ ?_⟩
  try refine hK _ ?_
  repeat (first | refine awp_seq ?_ | refine awp_block ?_ | refine awp_skip ?_ | refine awp_scope ?_ | refine awp_label ?_)
  refine awp_cond (b := false) (by simp -dsimp -implicitDefEqProofs only [push_cast, ↓trAdd_f, ↓stOf_f, seval]) (fun h => ?_) (fun h => ?_)
  · cases h
  refine awp_exit rfl ?_
  have hlf := hll _ (Nat.le_refl _)
  have hlft : ((leftF (packS m key) k (blkL (packS m key) k)).map encB).take (packS m key).length = (leftF (packS m key) k (blkL (packS m key) k)).map encB := List.take_of_length_le (by omega)
  have hlb := left_bytes hbb k (blkL (packS m key) k)
  have hll2 : (leftF (packS m key) k (blkL (packS m key) k)).length = (packS m key).length := left_len _ _ _ hbk
  have hrd := readM_ok false (leftF (packS m key) k (blkL (packS m key) k)) key hlb (by omega)
  have hzz := bytes_fz (leftF (packS m key) k (blkL (packS m key) k))
  try refine hK _ ?_
  repeat (first | refine awp_seq ?_ | refine awp_block ?_ | refine awp_skip ?_ | refine awp_scope ?_ | refine awp_label ?_)
  refine awp_region tabOk fun K hK => ?_
  simp -dsimp -implicitDefEqProofs only [push_cast, ↓trAdd_f, ↓stOf_f, seval]
  refine callK_simple hrd ?_ rfl fun _ => ?_
  · simp -dsimp -implicitDefEqProofs only [hlf, hlft, hzz, push_cast, List.mem_append, List.mem_cons, List.mem_singleton, forall_eq_or_imp, forall_eq, ↓trAdd_f, ↓stOf_f, seval]
  generalize readM (leftF (packS m key) k (blkL (packS m key) k)) key = rr at *
  obtain ⟨ri, re⟩ := rr
  simp only at c4
  simp -dsimp -implicitDefEqProofs only [push_cast, ↓trAdd_f, ↓stOf_f, seval]
  refine hK _ ?_
  try refine hK _ ?_
  repeat (first | refine awp_seq ?_ | refine awp_block ?_ | refine awp_skip ?_ | refine awp_scope ?_ | refine awp_label ?_)
  refine awp_region tabOk fun K hK => ?_
  simp -dsimp -implicitDefEqProofs only [push_cast, ↓trAdd_f, ↓stOf_f, seval]
  refine callK_simple c1 ?_ rfl fun _ => ?_
  · simp -dsimp -implicitDefEqProofs only [push_cast, List.mem_append, List.mem_cons, List.mem_singleton, forall_eq_or_imp, forall_eq, ↓trAdd_f, ↓stOf_f, seval]
  simp -dsimp -implicitDefEqProofs only [push_cast, ↓trAdd_f, ↓stOf_f, seval]
  refine hK _ ?_
  have ws : IntKind.i64.wrap (1 - (s : Int)) = ((1 - s : Nat) : Int) := by rw [wrap_i64 (by omega) (by omega)]; omega
  try refine hK _ ?_
  repeat (first | refine awp_seq ?_ | refine awp_block ?_ | refine awp_skip ?_ | refine awp_scope ?_ | refine awp_label ?_)
  refine awp_region tabOk fun K hK => ?_
  simp -dsimp -implicitDefEqProofs only [ws, push_cast, ↓trAdd_f, ↓stOf_f, seval]
  refine callK_simple c3 ?_ rfl fun _ => ?_
  · simp -dsimp -implicitDefEqProofs only [push_cast, List.mem_append, List.mem_cons, List.mem_singleton, forall_eq_or_imp, forall_eq, ↓trAdd_f, ↓stOf_f, seval]
  simp -dsimp -implicitDefEqProofs only [img0, push_cast, ↓trAdd_f, ↓stOf_f, seval]
  refine hK _ ?_
  try refine hK _ ?_
  repeat (first | refine awp_seq ?_ | refine awp_block ?_ | refine awp_skip ?_ | refine awp_scope ?_ | refine awp_label ?_)
  refine awp_region tabOk fun K hK => ?_
  simp -dsimp -implicitDefEqProofs only [push_cast, ↓trAdd_f, ↓stOf_f, seval]
  refine callK_simple c2 ?_ rfl fun _ => ?_
  · simp -dsimp -implicitDefEqProofs only [push_cast, List.mem_append, List.mem_cons, List.mem_singleton, forall_eq_or_imp, forall_eq, ↓trAdd_f, ↓stOf_f, seval]
  simp -dsimp -implicitDefEqProofs only [push_cast, ↓trAdd_f, ↓stOf_f, seval]
  refine hK _ ?_
  try refine hK _ ?_
  repeat (first | refine awp_seq ?_ | refine awp_block ?_ | refine awp_skip ?_ | refine awp_scope ?_ | refine awp_label ?_)
  refine awp_region tabOk fun K hK => ?_
  simp -dsimp -implicitDefEqProofs only [push_cast, ↓trAdd_f, ↓stOf_f, seval]
  refine callK_simple c4 ?_ rfl fun _ => ?_
  · simp -dsimp -implicitDefEqProofs only [push_cast, List.mem_append, List.mem_cons, List.mem_singleton, forall_eq_or_imp, forall_eq, ↓trAdd_f, ↓stOf_f, seval]
  simp -dsimp -implicitDefEqProofs only [push_cast, ↓trAdd_f, ↓stOf_f, seval]
  refine hK _ ?_
  have hvv : (m.ver == m.ver) = true := by simp
  have hss := bytes_eq hmb hmb
  have hsc := bytes_eq hbb hcb
  have hmm : decide (m.body = m.body) = true := by simp
  rw [hmm] at hss
  generalize hdd : decide (packS m key = packS m other) = dd at *
  generalize hee : (re == 0) = ee at *
  have hdd2 : (dd == dd) = true := by simp
  have hee2 : (ee == ee) = true := by simp
  try refine hK _ ?_
  repeat (first | refine awp_seq ?_ | refine awp_block ?_ | refine awp_skip ?_ | refine awp_scope ?_ | refine awp_label ?_)
  refine awp_region tabOk fun K hK => ?_
  simp -dsimp -implicitDefEqProofs only [hvv, hss, hsc, hee, hdd2, hee2, push_cast, ↓trAdd_f, ↓stOf_f, seval]
  refine ⟨isByte_enc _, isByte_enc _, isByte_enc _, isByte_enc _, hK _ (awp_ret ?_)⟩
  simp -dsimp -implicitDefEqProofs only [push_cast, List.mem_append, List.mem_cons, List.mem_singleton, forall_eq_or_imp, forall_eq, ↓trAdd_f, ↓stOf_f, seval]
end Go.Proofs.YtoifmpiikopelaaDoorFw

/-
  How the laws' arguments read.
-/
namespace Go.Proofs.YtoifmpiikopelaaDoorFw
open Go Go.Proofs
set_option linter.unusedVariables false
set_option linter.unusedSimpArgs false

theorem I64_wf {x : Int} (h : (Lit.int .i64 x).wf = true) : I64 x := by
  simpa [Lit.wf, IntKind.min, IntKind.max, IntKind.signed, IntKind.bits, I64] using h
theorem u8_wf {x : Int} (h : (Lit.int .u8 x).wf = true) : 0 ≤ x ∧ x ≤ 255 := by
  simpa [Lit.wf, IntKind.min, IntKind.max, IntKind.signed, IntKind.bits] using h
theorem u16_wf {x : Int} (h : (Lit.int .u16 x).wf = true) : 0 ≤ x ∧ x ≤ 65535 := by
  simpa [Lit.wf, IntKind.min, IntKind.max, IntKind.signed, IntKind.bits] using h
theorem u32_wf {x : Int} (h : (Lit.int .u32 x).wf = true) : 0 ≤ x ∧ x ≤ 4294967295 := by
  simpa [Lit.wf, IntKind.min, IntKind.max, IntKind.signed, IntKind.bits] using h
theorem opens3 : Opens Tryd.prog 3 1 (fun n : Int => [.int .i64 n]) I64 := (opens_int Tryd.underlying3 (by kernel_rfl)).conv (fun _ => rfl) fun y h => I64_wf h
theorem opens4 : Opens Tryd.prog 4 1 (fun b : Bool => [.bool b]) (fun _ => True) := opens_bool Tryd.underlying4 (by kernel_rfl)
theorem opens5 : Opens Tryd.prog 5 1 (fun n : Int => [.int .u8 n]) byte := (opens_int Tryd.underlying5 (by kernel_rfl)).conv (fun _ => rfl) fun y h => u8_wf h
theorem opens56 : Opens Tryd.prog 56 1 (fun n : Int => [.int .u16 n]) (fun n => 0 ≤ n ∧ n ≤ 65535) := (opens_int Tryd.underlying56 (by kernel_rfl)).conv (fun _ => rfl) fun y h => u16_wf h
theorem opens25 : Opens Tryd.prog 25 1 (fun n : Int => [.int .u32 n]) (fun n => 0 ≤ n ∧ n ≤ 4294967295) := (opens_int Tryd.underlying25 (by kernel_rfl)).conv (fun _ => rfl) fun y h => u32_wf h
theorem opens22 : Opens Tryd.prog 22 1 (fun l : List Int => [.sl false 1 (l.map encB)]) (fun l => l.length ≤ 140737488351232 ∧ ∀ b ∈ l, byte b) :=
  (opens_slice (B := 1) Tryd.underlying22 (by kernel_rfl) (by kernel_rfl) (by decide) (by decide) opens5).conv (fun _ => rfl) fun y h => ⟨h.2.1, h.2.2⟩
theorem opens28 : Opens Tryd.prog 28 1 (fun l : List (List Int) => [.sl false 1 (l.map encP)]) (fun l => l.length ≤ 140737488351232 ∧ ∀ p ∈ l, p.length ≤ 140737488351232 ∧ ∀ b ∈ p, byte b) :=
  (opens_slice (B := 24) Tryd.underlying28 (by kernel_rfl) (by kernel_rfl) (by decide) (by decide) opens22).conv (fun _ => rfl) fun y h => ⟨h.2.1, h.2.2⟩
def Img.wf (m : Img) : Prop := I64 m.ver ∧ m.body.length ≤ 140737488351232 ∧ ∀ b ∈ m.body, byte b
theorem opens24 : Opens Tryd.prog 24 2 encImg Img.wf :=
  (opens_struct Tryd.underlying24 (by kernel_rfl) (opensF_cons rfl opens3 (opensF_one rfl opens22)) (fun x : Img => (x.ver, x.body)) (fun p => ⟨p.1, p.2⟩) (fun _ => rfl)).conv (fun _ => rfl) fun y h => ⟨h.1, h.2⟩
end Go.Proofs.YtoifmpiikopelaaDoorFw

/-
  The law TopWhole, of arguments as they read.
-/
namespace Go.Proofs.YtoifmpiikopelaaDoorFw
open Go Go.Proofs
set_option linter.unusedVariables false
set_option linter.unusedSimpArgs false

theorem lawTopWholeA (m : Img) (key other : Int) (at_ : Bool) (skip : Int) (hm : m.wf) (_ : I64 key) (_ : I64 other) (_ : True) (hs : byte skip) :
    FnS Tryd.prog 7 [.agg (encImg m), .int .i64 key, .int .i64 other, .bool at_, .int .u8 skip] [] (.bool true) [] := lawTopWhole m key other at_ skip hm.2.2 hs
end Go.Proofs.YtoifmpiikopelaaDoorFw
