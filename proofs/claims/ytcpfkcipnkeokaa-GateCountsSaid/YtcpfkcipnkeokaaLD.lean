/-
  The walk of the law GateCounts.
-/
import Derived.Test.YtcpfkcipnkeokaaPB
import Derived.Test.YtcpfkcipnkeokaaWL
namespace Go.Proofs.YtcpfkcipnkeokaaFw
open Go Go.Proofs
set_option maxRecDepth 100000
set_option maxHeartbeats 8000000
set_option linter.unusedVariables false
set_option linter.unusedSimpArgs false

theorem newOf_loop2 {l : List Route} {n room : Int} (h1 : 1 ≤ room) (h2 : room ≤ 64) (h : (newOf l n room).2 ≠ 0) : loopless l n = false := by
  cases hl : loopless l n with
  | false => rfl
  | true =>
    exfalso
    apply h
    have hr : rightR routeR l n = true := by
      unfold loopless at hl
      simp only [Bool.and_eq_true] at hl
      exact hl.1
    unfold newOf newG
    rw [if_neg (by simp [hr]), if_neg (by simp [hl]), if_neg (by simp; omega)]
theorem frame_wf_ok2 {f : Frame} (h : f.wf) : f.okB ∧ f.data.length ≤ 2 ^ 50 := ⟨fun b hb => h.2.2.2 b hb, by have := h.2.2.1; omega⟩
theorem toNat_four_i : Int.toNat 4 = 4 := rfl
theorem rep4 : List.replicate 4 [PV.int .i64 0] = ([0, 0, 0, 0] : List Int).map encI := rfl
/-- The counts so far. -/
structure Cnt (k : Nat) (G : Gate) (came went : List Int) : Prop where
  c4 : came.length = 4
  w4 : went.length = 4
  eq : ∀ i, i < 4 → came.getD i 0 = went.getD i 0 + held G i
  cb : ∀ i, i < 4 → 0 ≤ came.getD i 0 ∧ came.getD i 0 ≤ k * 16
  wb : ∀ i, i < 4 → 0 ≤ went.getD i 0 ∧ went.getD i 0 ≤ k
def cntS (l : List Route) (ops : List Deed) (room : Int) (k : Nat) (G : Gate) (came went : List Int) : AS :=
  { sl := [(0, .sl false 6 (l.map encRoute)), (2, .sl false 7 (ops.map encDeed)), (7, .bool true), (8, .int .i64 room), (9, .ptr 136 0), (11, .own 176 1 0 4), (12, .own 184 1 0 4), (13, .int .i64 k)], st := [(136, .box (encGate G)), (176, .row 1 (came.map encI)), (184, .row 1 (went.map encI))], nx := 192, n := 183 }
theorem gateCounts_ok (l : List Route) (rm : Int) (ops : List Deed) (hrm : 0 ≤ rm ∧ rm ≤ 255) (ho : ∀ x ∈ ops, x.f.wf) :
    FnS Try.prog 4 [.sl false 6 (l.map encRoute), .int .u8 rm, .sl false 7 (ops.map encDeed)] [] (.bool true) [] := by
  refine fn_walk tabOk Try.func4 rfl (by decide +kernel) Try.ntmps4 Try.results4 (by simp) fun B hB => ?_
  try refine hK _ ?_
  repeat (first | refine awp_seq ?_ | refine awp_block ?_ | refine awp_skip ?_ | refine awp_scope ?_ | refine awp_label ?_)
  refine awp_region tabOk fun K hK => ?_
  simp -dsimp -implicitDefEqProofs only [push_cast, ↓trAdd_f, ↓stOf_f, Nat.reduceBEq, Int.reduceBEq, Int.reduceBNe, Int.reduceNeg, Int.reduceAdd, Int.reduceSub, Int.reduceLT, Int.reduceLE, Int.reduceMul, Nat.reducePow, Int.reducePow, Nat.reduceAdd, Nat.reduceEqDiff, Nat.reduceLT, Nat.reduceLeDiff, Nat.reduceMul, Nat.reduceSub, reduceCtorEq, ↓reduceIte]
  try refine hK _ ?_
  repeat (first | refine awp_seq ?_ | refine awp_block ?_ | refine awp_skip ?_ | refine awp_scope ?_ | refine awp_label ?_)
  refine awp_region tabOk fun K hK => ?_
  simp -dsimp -implicitDefEqProofs only [push_cast, ↓trAdd_f, ↓stOf_f, Nat.reduceBEq, Int.reduceBEq, Int.reduceBNe, Int.reduceNeg, Int.reduceAdd, Int.reduceSub, Int.reduceLT, Int.reduceLE, Int.reduceMul, Nat.reducePow, Int.reducePow, Nat.reduceAdd, Nat.reduceEqDiff, Nat.reduceLT, Nat.reduceLeDiff, Nat.reduceMul, Nat.reduceSub, reduceCtorEq, ↓reduceIte]
  refine callK_simple head_ok ?_ rfl fun _ => ?_
  · simp -dsimp -implicitDefEqProofs only [take_map_len, restr, List.contains_nil, List.contains_cons, BEq.rfl, Nat.reduceBEq, implies_true, imp_self_i, false_imp_i, argsV, PV.fz, fzL, view, viewA, viewC, viewOk, viewOkA, viewOkC, seenV, ids, idsA, idsC, PV.scalar, PV.scalarA, PV.scalarC, wk, wkA, wkAL, wkC, wkL, wkB, blkLe, true_or, List.mem_cons, List.mem_singleton, List.not_mem_nil, forall_eq_or_imp, forall_eq, List.all_cons, List.all_nil, List.flatMap_cons, List.flatMap_nil, AS.get, getPV, lk, Int.cast_ofNat_Int, Int.natCast_one, Int.reduceBEq, Int.reduceBNe, Int.reduceNeg, int_toNat_zero_i, Nat.sub_zero, Int.natCast_zero, Int.reduceAdd, Int.reduceSub, Int.reduceLT, Int.reduceLE, Int.reduceMul, Int.zero_add, decide_true, decide_false, Nat.reducePow, Int.reducePow, Nat.reduceAdd, Nat.reduceEqDiff, Nat.reduceLT, Nat.reduceLeDiff, Nat.reduceMul, Nat.reduceSub, Nat.reduceBEq, Nat.le_refl, Nat.zero_add, Nat.add_zero, reduceCtorEq, or_true, true_or, or_false, false_or, if_true, if_false, ↓reduceIte, true_and, and_true, and_self, Bool.not_true, Bool.not_false, cond_true, cond_false, Bool.true_eq_false, Bool.false_eq_true, ne_eq, not_false_eq_true, not_true_eq_false, Bool.and_true, Bool.true_and, Bool.and_false, Bool.false_and, Bool.or_true, Bool.true_or, Bool.or_false, Bool.false_or, List.isEmpty_nil, List.map_cons, List.map_nil, List.length_cons, List.length_nil, List.length_map, List.getD_cons_zero, List.getD_cons_succ, List.getD_nil, List.getElem?_cons_zero, List.getElem?_cons_succ, List.getElem?_nil, List.take_succ_cons, List.take_zero, List.take_nil, List.drop_succ_cons, List.drop_zero, List.drop_nil, List.nil_append, List.cons_append, List.append_nil, Option.getD_some, Option.getD_none, Option.map_some, Option.map_none, Int.toNat_natCast, fz_byt, fz_frm, fz_hop, fz_int, fz_rows, fz_rt]
  simp -dsimp -implicitDefEqProofs only [push_cast, ↓trAdd_f, ↓stOf_f, Nat.reduceBEq, Int.reduceBEq, Int.reduceBNe, Int.reduceNeg, Int.reduceAdd, Int.reduceSub, Int.reduceLT, Int.reduceLE, Int.reduceMul, Nat.reducePow, Int.reducePow, Nat.reduceAdd, Nat.reduceEqDiff, Nat.reduceLT, Nat.reduceLeDiff, Nat.reduceMul, Nat.reduceSub, reduceCtorEq, ↓reduceIte]
  try refine hK _ ?_
  repeat (first | refine awp_seq ?_ | refine awp_block ?_ | refine awp_skip ?_ | refine awp_scope ?_ | refine awp_label ?_)
  refine awp_region tabOk fun K hK => ?_
  simp -dsimp -implicitDefEqProofs only [push_cast, ↓trAdd_f, ↓stOf_f, Nat.reduceBEq, Int.reduceBEq, Int.reduceBNe, Int.reduceNeg, Int.reduceAdd, Int.reduceSub, Int.reduceLT, Int.reduceLE, Int.reduceMul, Nat.reducePow, Int.reducePow, Nat.reduceAdd, Nat.reduceEqDiff, Nat.reduceLT, Nat.reduceLeDiff, Nat.reduceMul, Nat.reduceSub, reduceCtorEq, ↓reduceIte]
  have hcl := cut_len l 16
  refine callK_simple (cut_ok false l 16 (by decide)) ?_ rfl fun _ => ?_
  · simp -dsimp -implicitDefEqProofs only [take_map_len, restr, List.contains_nil, List.contains_cons, BEq.rfl, Nat.reduceBEq, implies_true, imp_self_i, false_imp_i, argsV, PV.fz, fzL, view, viewA, viewC, viewOk, viewOkA, viewOkC, seenV, ids, idsA, idsC, PV.scalar, PV.scalarA, PV.scalarC, wk, wkA, wkAL, wkC, wkL, wkB, blkLe, true_or, List.mem_cons, List.mem_singleton, List.not_mem_nil, forall_eq_or_imp, forall_eq, List.all_cons, List.all_nil, List.flatMap_cons, List.flatMap_nil, AS.get, getPV, lk, Int.cast_ofNat_Int, Int.natCast_one, Int.reduceBEq, Int.reduceBNe, Int.reduceNeg, int_toNat_zero_i, Nat.sub_zero, Int.natCast_zero, Int.reduceAdd, Int.reduceSub, Int.reduceLT, Int.reduceLE, Int.reduceMul, Int.zero_add, decide_true, decide_false, Nat.reducePow, Int.reducePow, Nat.reduceAdd, Nat.reduceEqDiff, Nat.reduceLT, Nat.reduceLeDiff, Nat.reduceMul, Nat.reduceSub, Nat.reduceBEq, Nat.le_refl, Nat.zero_add, Nat.add_zero, reduceCtorEq, or_true, true_or, or_false, false_or, if_true, if_false, ↓reduceIte, true_and, and_true, and_self, Bool.not_true, Bool.not_false, cond_true, cond_false, Bool.true_eq_false, Bool.false_eq_true, ne_eq, not_false_eq_true, not_true_eq_false, Bool.and_true, Bool.true_and, Bool.and_false, Bool.false_and, Bool.or_true, Bool.true_or, Bool.or_false, Bool.false_or, List.isEmpty_nil, List.map_cons, List.map_nil, List.length_cons, List.length_nil, List.length_map, List.getD_cons_zero, List.getD_cons_succ, List.getD_nil, List.getElem?_cons_zero, List.getElem?_cons_succ, List.getElem?_nil, List.take_succ_cons, List.take_zero, List.take_nil, List.drop_succ_cons, List.drop_zero, List.drop_nil, List.nil_append, List.cons_append, List.append_nil, Option.getD_some, Option.getD_none, Option.map_some, Option.map_none, Int.toNat_natCast, fz_byt, fz_frm, fz_hop, fz_int, fz_rows, fz_rt]
  have hci := cut_i64 l 16
  have hcn := cut_new l 16
  generalize hLc : cut l 16 = Lc at *
  simp -dsimp -implicitDefEqProofs only [push_cast, ↓trAdd_f, ↓stOf_f, Nat.reduceBEq, Int.reduceBEq, Int.reduceBNe, Int.reduceNeg, Int.reduceAdd, Int.reduceSub, Int.reduceLT, Int.reduceLE, Int.reduceMul, Nat.reducePow, Int.reducePow, Nat.reduceAdd, Nat.reduceEqDiff, Nat.reduceLT, Nat.reduceLeDiff, Nat.reduceMul, Nat.reduceSub, reduceCtorEq, ↓reduceIte]
  have ht : rm.tmod 64 = rm % 64 := Int.tmod_eq_emod_of_nonneg hrm.1
  try refine hK _ ?_
  repeat (first | refine awp_seq ?_ | refine awp_block ?_ | refine awp_skip ?_ | refine awp_scope ?_ | refine awp_label ?_)
  refine awp_region tabOk fun K hK => ?_
  simp -dsimp -implicitDefEqProofs only [ht, push_cast, ↓trAdd_f, ↓stOf_f, Nat.reduceBEq, Int.reduceBEq, Int.reduceBNe, Int.reduceNeg, Int.reduceAdd, Int.reduceSub, Int.reduceLT, Int.reduceLE, Int.reduceMul, Nat.reducePow, Int.reducePow, Nat.reduceAdd, Nat.reduceEqDiff, Nat.reduceLT, Nat.reduceLeDiff, Nat.reduceMul, Nat.reduceSub, reduceCtorEq, ↓reduceIte]
  try simp (disch := omega) only [wrap_i64, wrap_u8, wrap_u16, wrap_u32]
  refine ⟨by decide, ?_⟩
  have hr1 : 1 ≤ 1 + rm.tmod 64 := by rw [ht]; omega
  have hr2 : 1 + rm.tmod 64 ≤ 64 := by rw [ht]; omega
  generalize 1 + rm.tmod 64 = rn at *
  try refine hK _ ?_
  repeat (first | refine awp_seq ?_ | refine awp_block ?_ | refine awp_skip ?_ | refine awp_scope ?_ | refine awp_label ?_)
  refine awp_region tabOk fun K hK => ?_
  simp -dsimp -implicitDefEqProofs only [push_cast, ↓trAdd_f, ↓stOf_f, Nat.reduceBEq, Int.reduceBEq, Int.reduceBNe, Int.reduceNeg, Int.reduceAdd, Int.reduceSub, Int.reduceLT, Int.reduceLE, Int.reduceMul, Nat.reducePow, Int.reducePow, Nat.reduceAdd, Nat.reduceEqDiff, Nat.reduceLT, Nat.reduceLeDiff, Nat.reduceMul, Nat.reduceSub, reduceCtorEq, ↓reduceIte]
  refine callK_simple (new_ok false Lc 4 rn hci) ?_ rfl fun _ => ?_
  · simp -dsimp -implicitDefEqProofs only [take_map_len, restr, List.contains_nil, List.contains_cons, BEq.rfl, Nat.reduceBEq, implies_true, imp_self_i, false_imp_i, argsV, PV.fz, fzL, view, viewA, viewC, viewOk, viewOkA, viewOkC, seenV, ids, idsA, idsC, PV.scalar, PV.scalarA, PV.scalarC, wk, wkA, wkAL, wkC, wkL, wkB, blkLe, true_or, List.mem_cons, List.mem_singleton, List.not_mem_nil, forall_eq_or_imp, forall_eq, List.all_cons, List.all_nil, List.flatMap_cons, List.flatMap_nil, AS.get, getPV, lk, Int.cast_ofNat_Int, Int.natCast_one, Int.reduceBEq, Int.reduceBNe, Int.reduceNeg, int_toNat_zero_i, Nat.sub_zero, Int.natCast_zero, Int.reduceAdd, Int.reduceSub, Int.reduceLT, Int.reduceLE, Int.reduceMul, Int.zero_add, decide_true, decide_false, Nat.reducePow, Int.reducePow, Nat.reduceAdd, Nat.reduceEqDiff, Nat.reduceLT, Nat.reduceLeDiff, Nat.reduceMul, Nat.reduceSub, Nat.reduceBEq, Nat.le_refl, Nat.zero_add, Nat.add_zero, reduceCtorEq, or_true, true_or, or_false, false_or, if_true, if_false, ↓reduceIte, true_and, and_true, and_self, Bool.not_true, Bool.not_false, cond_true, cond_false, Bool.true_eq_false, Bool.false_eq_true, ne_eq, not_false_eq_true, not_true_eq_false, Bool.and_true, Bool.true_and, Bool.and_false, Bool.false_and, Bool.or_true, Bool.true_or, Bool.or_false, Bool.false_or, List.isEmpty_nil, List.map_cons, List.map_nil, List.length_cons, List.length_nil, List.length_map, List.getD_cons_zero, List.getD_cons_succ, List.getD_nil, List.getElem?_cons_zero, List.getElem?_cons_succ, List.getElem?_nil, List.take_succ_cons, List.take_zero, List.take_nil, List.drop_succ_cons, List.drop_zero, List.drop_nil, List.nil_append, List.cons_append, List.append_nil, Option.getD_some, Option.getD_none, Option.map_some, Option.map_none, Int.toNat_natCast, fz_byt, fz_frm, fz_hop, fz_int, fz_rows, fz_rt]
  have hgood : (newOf Lc 4 rn).2 = 0 → (newOf Lc 4 rn).1.good 4 0 ∧ (newOf Lc 4 rn).1.okB ∧ (newOf Lc 4 rn).1.routes = Lc := fun h => newOf_good (n := 4) h
  have hcap : (newOf Lc 4 rn).2 = 0 → (newOf Lc 4 rn).1 = { routes := Lc, cap := rn, out := List.replicate 4 [], lost := List.replicate 4 0 } := fun h => (newOf_zero h).2.2.2.2
  have hloop : (newOf Lc 4 rn).2 ≠ 0 → loopless Lc 4 = false := newOf_loop2 hr1 hr2
  generalize newOf Lc 4 rn = N at *
  obtain ⟨G0, e0⟩ := N
  simp -dsimp -implicitDefEqProofs only [encGate, push_cast, ↓trAdd_f, ↓stOf_f, Nat.reduceBEq, Int.reduceBEq, Int.reduceBNe, Int.reduceNeg, Int.reduceAdd, Int.reduceSub, Int.reduceLT, Int.reduceLE, Int.reduceMul, Nat.reducePow, Int.reducePow, Nat.reduceAdd, Nat.reduceEqDiff, Nat.reduceLT, Nat.reduceLeDiff, Nat.reduceMul, Nat.reduceSub, reduceCtorEq, ↓reduceIte]
  try refine hK _ ?_
  repeat (first | refine awp_seq ?_ | refine awp_block ?_ | refine awp_skip ?_ | refine awp_scope ?_ | refine awp_label ?_)
  refine awp_region tabOk fun K hK => ?_
  simp -dsimp -implicitDefEqProofs only [push_cast, ↓trAdd_f, ↓stOf_f, Nat.reduceBEq, Int.reduceBEq, Int.reduceBNe, Int.reduceNeg, Int.reduceAdd, Int.reduceSub, Int.reduceLT, Int.reduceLE, Int.reduceMul, Nat.reducePow, Int.reducePow, Nat.reduceAdd, Nat.reduceEqDiff, Nat.reduceLT, Nat.reduceLeDiff, Nat.reduceMul, Nat.reduceSub, reduceCtorEq, ↓reduceIte]
  try refine hK _ ?_
  repeat (first | refine awp_seq ?_ | refine awp_block ?_ | refine awp_skip ?_ | refine awp_scope ?_ | refine awp_label ?_)
  refine awp_cond (b := e0 != 0) (by simp -dsimp -implicitDefEqProofs only [push_cast, ↓trAdd_f, ↓stOf_f, Nat.reduceBEq, Int.reduceBEq, Int.reduceBNe, Int.reduceNeg, Int.reduceAdd, Int.reduceSub, Int.reduceLT, Int.reduceLE, Int.reduceMul, Nat.reducePow, Int.reducePow, Nat.reduceAdd, Nat.reduceEqDiff, Nat.reduceLT, Nat.reduceLeDiff, Nat.reduceMul, Nat.reduceSub, reduceCtorEq, ↓reduceIte]) (fun h => ?_) (fun h => ?_)
  · have hlf := hloop (by simpa using h)
    try refine hK _ ?_
    repeat (first | refine awp_seq ?_ | refine awp_block ?_ | refine awp_skip ?_ | refine awp_scope ?_ | refine awp_label ?_)
    refine awp_region tabOk fun K hK => ?_
    simp -dsimp -implicitDefEqProofs only [push_cast, ↓trAdd_f, ↓stOf_f, Nat.reduceBEq, Int.reduceBEq, Int.reduceBNe, Int.reduceNeg, Int.reduceAdd, Int.reduceSub, Int.reduceLT, Int.reduceLE, Int.reduceMul, Nat.reducePow, Int.reducePow, Nat.reduceAdd, Nat.reduceEqDiff, Nat.reduceLT, Nat.reduceLeDiff, Nat.reduceMul, Nat.reduceSub, reduceCtorEq, ↓reduceIte]
    refine callK_simple (loopless_ok false Lc 4 (by omega)) ?_ rfl fun _ => ?_
    · simp -dsimp -implicitDefEqProofs only [take_map_len, restr, List.contains_nil, List.contains_cons, BEq.rfl, Nat.reduceBEq, implies_true, imp_self_i, false_imp_i, argsV, PV.fz, fzL, view, viewA, viewC, viewOk, viewOkA, viewOkC, seenV, ids, idsA, idsC, PV.scalar, PV.scalarA, PV.scalarC, wk, wkA, wkAL, wkC, wkL, wkB, blkLe, true_or, List.mem_cons, List.mem_singleton, List.not_mem_nil, forall_eq_or_imp, forall_eq, List.all_cons, List.all_nil, List.flatMap_cons, List.flatMap_nil, AS.get, getPV, lk, Int.cast_ofNat_Int, Int.natCast_one, Int.reduceBEq, Int.reduceBNe, Int.reduceNeg, int_toNat_zero_i, Nat.sub_zero, Int.natCast_zero, Int.reduceAdd, Int.reduceSub, Int.reduceLT, Int.reduceLE, Int.reduceMul, Int.zero_add, decide_true, decide_false, Nat.reducePow, Int.reducePow, Nat.reduceAdd, Nat.reduceEqDiff, Nat.reduceLT, Nat.reduceLeDiff, Nat.reduceMul, Nat.reduceSub, Nat.reduceBEq, Nat.le_refl, Nat.zero_add, Nat.add_zero, reduceCtorEq, or_true, true_or, or_false, false_or, if_true, if_false, ↓reduceIte, true_and, and_true, and_self, Bool.not_true, Bool.not_false, cond_true, cond_false, Bool.true_eq_false, Bool.false_eq_true, ne_eq, not_false_eq_true, not_true_eq_false, Bool.and_true, Bool.true_and, Bool.and_false, Bool.false_and, Bool.or_true, Bool.true_or, Bool.or_false, Bool.false_or, List.isEmpty_nil, List.map_cons, List.map_nil, List.length_cons, List.length_nil, List.length_map, List.getD_cons_zero, List.getD_cons_succ, List.getD_nil, List.getElem?_cons_zero, List.getElem?_cons_succ, List.getElem?_nil, List.take_succ_cons, List.take_zero, List.take_nil, List.drop_succ_cons, List.drop_zero, List.drop_nil, List.nil_append, List.cons_append, List.append_nil, Option.getD_some, Option.getD_none, Option.map_some, Option.map_none, Int.toNat_natCast, fz_byt, fz_frm, fz_hop, fz_int, fz_rows, fz_rt]
    rw [hlf]
    simp -dsimp -implicitDefEqProofs only [push_cast, ↓trAdd_f, ↓stOf_f, Nat.reduceBEq, Int.reduceBEq, Int.reduceBNe, Int.reduceNeg, Int.reduceAdd, Int.reduceSub, Int.reduceLT, Int.reduceLE, Int.reduceMul, Nat.reducePow, Int.reducePow, Nat.reduceAdd, Nat.reduceEqDiff, Nat.reduceLT, Nat.reduceLeDiff, Nat.reduceMul, Nat.reduceSub, reduceCtorEq, ↓reduceIte]
    refine hK _ (awp_ret ?_)
    simp -dsimp -implicitDefEqProofs only [List.flatMap_cons, List.flatMap_nil, List.mem_append, Blk.ok, PV.ok, okL, List.length_append, take_map_len, implies_true, imp_self_i, false_imp_i, endOk, resVals, joinRes, view, viewA, viewC, viewOk, viewOkA, viewOkC, storeEnd, wk, wkA, wkAL, wkC, wkL, wkB, blkLe, true_or, PV.int.injEq, PV.bool.injEq, idsA, PV.fz, fzL, ids, idsC, fLoad, outP, TI.n, TI.isAgg, List.not_mem_nil, List.mem_cons, List.mem_singleton, forall_eq_or_imp, forall_eq, AS.get, getPV, lk, Int.cast_ofNat_Int, Int.natCast_one, Int.reduceBEq, Int.reduceBNe, Int.reduceNeg, int_toNat_zero_i, Nat.sub_zero, Int.natCast_zero, Int.reduceAdd, Int.reduceSub, Int.reduceLT, Int.reduceLE, Int.reduceMul, Int.zero_add, decide_true, decide_false, Nat.reducePow, Int.reducePow, Nat.reduceAdd, Nat.reduceEqDiff, Nat.reduceLT, Nat.reduceLeDiff, Nat.reduceMul, Nat.reduceSub, Nat.reduceBEq, Nat.le_refl, Nat.zero_add, Nat.add_zero, reduceCtorEq, or_true, true_or, or_false, false_or, if_true, if_false, ↓reduceIte, true_and, and_true, and_self, Bool.not_true, Bool.not_false, cond_true, cond_false, Bool.true_eq_false, Bool.false_eq_true, ne_eq, not_false_eq_true, not_true_eq_false, Bool.and_true, Bool.true_and, Bool.and_false, Bool.false_and, Bool.or_true, Bool.true_or, Bool.or_false, Bool.false_or, List.isEmpty_nil, List.map_cons, List.map_nil, List.length_cons, List.length_nil, List.length_map, List.getD_cons_zero, List.getD_cons_succ, List.getD_nil, List.getElem?_cons_zero, List.getElem?_cons_succ, List.getElem?_nil, List.take_succ_cons, List.take_zero, List.take_nil, List.drop_succ_cons, List.drop_zero, List.drop_nil, List.nil_append, List.cons_append, List.append_nil, Option.getD_some, Option.getD_none, Option.map_some, Option.map_none, Int.toNat_natCast, T_1, T_2, T_3, T_4, T_5, T_6, T_7, T_8, T_9, T_10, T_11, T_12, T_13, T_14, T_15, T_16, T_17, T_18, T_19, T_21, T_22, T_23, T_24, T_25, T_26, T_27, T_28, T_29, T_30, T_31, T_33, T_34, T_35, T_36, T_37, T_38, T_39, T_40, T_41, T_42, T_43, T_45, T_46, T_47, T_48, T_49, T_50, T_51, T_52, T_53, T_54, T_55, T_56, T_57, T_58, T_59, T_60, T_61, T_62, T_63, T_64, T_65, T_66, T_67, T_68, T_69, T_70, T_71, T_72, T_73, T_74, T_75, T_76, T_77, T_78, T_79, T_80, T_81, T_82, T_83, T_84, T_85, T_86, T_87, T_88, T_89, T_90, T_91, T_92, T_93, T_94, T_95, T_96, T_97, T_98, fz_byt, fz_frm, fz_hop, fz_int, fz_rows, fz_rt]
  have he0 : e0 = 0 := by simpa using h
  subst he0
  obtain ⟨hg1, hg2, hg3⟩ := hgood rfl
  have hG0 := hcap rfl
  clear h hgood hloop hcap
  have hcnt0 : Cnt 0 G0 [0, 0, 0, 0] [0, 0, 0, 0] := by
    refine ⟨rfl, rfl, fun i hi => ?_, fun i hi => ?_, fun i hi => ?_⟩
    · simp only at hG0
      subst hG0
      have : i = 0 ∨ i = 1 ∨ i = 2 ∨ i = 3 := by omega
      rcases this with rfl | rfl | rfl | rfl <;> rfl
    · have : i = 0 ∨ i = 1 ∨ i = 2 ∨ i = 3 := by omega
      rcases this with rfl | rfl | rfl | rfl <;> decide
    · have : i = 0 ∨ i = 1 ∨ i = 2 ∨ i = 3 := by omega
      rcases this with rfl | rfl | rfl | rfl <;> decide
  have hcap0 : G0.cap = rn := by simp only at hG0; rw [hG0]
  try refine hK _ ?_
  repeat (first | refine awp_seq ?_ | refine awp_block ?_ | refine awp_skip ?_ | refine awp_scope ?_ | refine awp_label ?_)
  refine awp_draw tabOk (by kernel_rfl) (by kernel_rfl) fun K hK C hC => ?_
  simp -dsimp -implicitDefEqProofs only [toNat_four_i, push_cast, ↓trAdd_f, ↓stOf_f, Nat.reduceBEq, Int.reduceBEq, Int.reduceBNe, Int.reduceNeg, Int.reduceAdd, Int.reduceSub, Int.reduceLT, Int.reduceLE, Int.reduceMul, Nat.reducePow, Int.reducePow, Nat.reduceAdd, Nat.reduceEqDiff, Nat.reduceLT, Nat.reduceLeDiff, Nat.reduceMul, Nat.reduceSub, reduceCtorEq, ↓reduceIte]
  refine ⟨hC _ (by kernel_rfl), ?_⟩
  clear hC C
  try refine hK _ ?_
  repeat (first | refine awp_seq ?_ | refine awp_block ?_ | refine awp_skip ?_ | refine awp_scope ?_ | refine awp_label ?_)
  refine awp_region tabOk fun K hK => ?_
  simp -dsimp -implicitDefEqProofs only [push_cast, ↓trAdd_f, ↓stOf_f, Nat.reduceBEq, Int.reduceBEq, Int.reduceBNe, Int.reduceNeg, Int.reduceAdd, Int.reduceSub, Int.reduceLT, Int.reduceLE, Int.reduceMul, Nat.reducePow, Int.reducePow, Nat.reduceAdd, Nat.reduceEqDiff, Nat.reduceLT, Nat.reduceLeDiff, Nat.reduceMul, Nat.reduceSub, reduceCtorEq, ↓reduceIte]
  refine hK _ (awp_block ?_)
  refine awp_for (fun x : Nat × Gate × List Int × List Int => cntS Lc ops rn x.1 x.2.1 x.2.2.1 x.2.2.2)
    (fun x => x.1 ≤ ops.length ∧ x.1 ≤ 40 ∧ x.2.1.good 4 (x.1 * 16 : Nat) ∧ x.2.1.routes = Lc ∧ x.2.1.cap = rn ∧ Cnt x.1 x.2.1 x.2.2.1 x.2.2.2) (fun x => 40 - x.1) (0, G0, [0, 0, 0, 0], [0, 0, 0, 0]) ⟨Nat.zero_le _, Nat.zero_le _, by simpa using hg1, hg3, hcap0, hcnt0⟩ ?_ fun x hx => ?_
  · simp only [cntS, encGate, rep4]
    refine le_intro hB [] (by simp) (fun b _ => rfl) rfl ?_ ?_ rfl <;> simp -dsimp -implicitDefEqProofs only [encI, List.forall_mem_cons, List.forall_mem_append, forall_nil_i, List.not_mem_nil, Int.natCast_zero, Int.natCast_add, Int.natCast_one, implies_true, imp_self_i, false_imp_i, slotsLe, storeLe, PV.ren, renL, renG, PV.ok, okL, Blk.ren, Blk.ok, distinct, wk, wkA, wkAL, wkC, wkL, wkB, blkLe, List.cons.injEq, true_or, PV.int.injEq, PV.bool.injEq, AS.get, getPV, lk, Int.cast_ofNat_Int, Int.natCast_one, Int.reduceBEq, Int.reduceBNe, Int.reduceNeg, int_toNat_zero_i, Nat.sub_zero, Int.natCast_zero, Int.reduceAdd, Int.reduceSub, Int.reduceLT, Int.reduceLE, Int.reduceMul, Int.zero_add, decide_true, decide_false, Nat.reducePow, Int.reducePow, Nat.reduceAdd, Nat.reduceEqDiff, Nat.reduceLT, Nat.reduceLeDiff, Nat.reduceMul, Nat.reduceSub, Nat.reduceBEq, Nat.le_refl, Nat.zero_add, Nat.add_zero, reduceCtorEq, or_true, true_or, or_false, false_or, if_true, if_false, ↓reduceIte, true_and, and_true, and_self, Bool.not_true, Bool.not_false, cond_true, cond_false, Bool.true_eq_false, Bool.false_eq_true, ne_eq, not_false_eq_true, not_true_eq_false, Bool.and_true, Bool.true_and, Bool.and_false, Bool.false_and, Bool.or_true, Bool.true_or, Bool.or_false, Bool.false_or, List.isEmpty_nil, List.map_cons, List.map_nil, List.length_cons, List.length_nil, List.length_map, List.getD_cons_zero, List.getD_cons_succ, List.getD_nil, List.getElem?_cons_zero, List.getElem?_cons_succ, List.getElem?_nil, List.take_succ_cons, List.take_zero, List.take_nil, List.drop_succ_cons, List.drop_zero, List.drop_nil, List.nil_append, List.cons_append, List.append_nil, Option.getD_some, Option.getD_none, Option.map_some, Option.map_none, Int.toNat_natCast, ok_frm, ok_hop, ok_int, ok_rows, ok_rt, ren_frm, ren_hop, ren_int, ren_rows, ren_rt]
  obtain ⟨k, G, came, went⟩ := x
  obtain ⟨hk1, hk2, hG1, hG3, hG4, hcn2⟩ := hx
  simp only at hk1 hk2 hG1 hG3 hG4 hcn2
  simp only [cntS, encGate]
  try refine hK _ ?_
  repeat (first | refine awp_seq ?_ | refine awp_block ?_ | refine awp_skip ?_ | refine awp_scope ?_ | refine awp_label ?_)
  refine awp_join ({ sl := (50, .bool (decide ((k : Int) < ops.length) && decide ((k : Int) < 40))) :: (cntS Lc ops rn k G came went).sl, st := (cntS Lc ops rn k G came went).st, nx := 192, n := 183 }) ?_ (fun _ hl h => awp_le hl h) ?_
  · try refine hK _ ?_
    repeat (first | refine awp_seq ?_ | refine awp_block ?_ | refine awp_skip ?_ | refine awp_scope ?_ | refine awp_label ?_)
    refine awp_region tabOk fun K hK => ?_
    simp -dsimp -implicitDefEqProofs only [push_cast, ↓trAdd_f, ↓stOf_f, Nat.reduceBEq, Int.reduceBEq, Int.reduceBNe, Int.reduceNeg, Int.reduceAdd, Int.reduceSub, Int.reduceLT, Int.reduceLE, Int.reduceMul, Nat.reducePow, Int.reducePow, Nat.reduceAdd, Nat.reduceEqDiff, Nat.reduceLT, Nat.reduceLeDiff, Nat.reduceMul, Nat.reduceSub, reduceCtorEq, ↓reduceIte]
    refine guardK_t (fun h => ?_) (fun h => ?_) <;> simp -dsimp -implicitDefEqProofs only [h, push_cast, ↓trAdd_f, ↓stOf_f, Nat.reduceBEq, Int.reduceBEq, Int.reduceBNe, Int.reduceNeg, Int.reduceAdd, Int.reduceSub, Int.reduceLT, Int.reduceLE, Int.reduceMul, Nat.reducePow, Int.reducePow, Nat.reduceAdd, Nat.reduceEqDiff, Nat.reduceLT, Nat.reduceLeDiff, Nat.reduceMul, Nat.reduceSub, reduceCtorEq, ↓reduceIte]
    all_goals
      refine hK _ ?_
      refine le_intro hB [] (by simp) (fun b _ => rfl) rfl ?_ ?_ rfl <;> simp -dsimp -implicitDefEqProofs only [cntS, encGate, h, Bool.true_and, Bool.false_and, List.forall_mem_cons, List.forall_mem_append, forall_nil_i, List.not_mem_nil, Int.natCast_zero, Int.natCast_add, Int.natCast_one, implies_true, imp_self_i, false_imp_i, slotsLe, storeLe, PV.ren, renL, renG, PV.ok, okL, Blk.ren, Blk.ok, distinct, wk, wkA, wkAL, wkC, wkL, wkB, blkLe, List.cons.injEq, true_or, PV.int.injEq, PV.bool.injEq, AS.get, getPV, lk, Int.cast_ofNat_Int, Int.natCast_one, Int.reduceBEq, Int.reduceBNe, Int.reduceNeg, int_toNat_zero_i, Nat.sub_zero, Int.natCast_zero, Int.reduceAdd, Int.reduceSub, Int.reduceLT, Int.reduceLE, Int.reduceMul, Int.zero_add, decide_true, decide_false, Nat.reducePow, Int.reducePow, Nat.reduceAdd, Nat.reduceEqDiff, Nat.reduceLT, Nat.reduceLeDiff, Nat.reduceMul, Nat.reduceSub, Nat.reduceBEq, Nat.le_refl, Nat.zero_add, Nat.add_zero, reduceCtorEq, or_true, true_or, or_false, false_or, if_true, if_false, ↓reduceIte, true_and, and_true, and_self, Bool.not_true, Bool.not_false, cond_true, cond_false, Bool.true_eq_false, Bool.false_eq_true, ne_eq, not_false_eq_true, not_true_eq_false, Bool.and_true, Bool.true_and, Bool.and_false, Bool.false_and, Bool.or_true, Bool.true_or, Bool.or_false, Bool.false_or, List.isEmpty_nil, List.map_cons, List.map_nil, List.length_cons, List.length_nil, List.length_map, List.getD_cons_zero, List.getD_cons_succ, List.getD_nil, List.getElem?_cons_zero, List.getElem?_cons_succ, List.getElem?_nil, List.take_succ_cons, List.take_zero, List.take_nil, List.drop_succ_cons, List.drop_zero, List.drop_nil, List.nil_append, List.cons_append, List.append_nil, Option.getD_some, Option.getD_none, Option.map_some, Option.map_none, Int.toNat_natCast, ok_frm, ok_hop, ok_int, ok_rows, ok_rt, ren_frm, ren_hop, ren_int, ren_rows, ren_rt]
  simp only [cntS, encGate]
  have hsm := hG1.small
  have hc4 := hcn2.c4
  have hw4 := hcn2.w4
  try refine hK _ ?_
  repeat (first | refine awp_seq ?_ | refine awp_block ?_ | refine awp_skip ?_ | refine awp_scope ?_ | refine awp_label ?_)
  refine awp_cond (b := (decide ((k : Int) < ops.length) && decide ((k : Int) < 40))) (by simp -dsimp -implicitDefEqProofs only [push_cast, ↓trAdd_f, ↓stOf_f, Nat.reduceBEq, Int.reduceBEq, Int.reduceBNe, Int.reduceNeg, Int.reduceAdd, Int.reduceSub, Int.reduceLT, Int.reduceLE, Int.reduceMul, Nat.reducePow, Int.reducePow, Nat.reduceAdd, Nat.reduceEqDiff, Nat.reduceLT, Nat.reduceLeDiff, Nat.reduceMul, Nat.reduceSub, reduceCtorEq, ↓reduceIte]) (fun h => ?_) (fun h => ?_)
  · have hlt : k < ops.length := by simp at h; omega
    have hk40 : k < 40 := by simp at h; omega
    clear h
    have hop := frame_wf_ok2 (ho _ (List.getElem_mem hlt))
    have hheq : hops2 Lc ops[k].bus (made ops[k].f) = hops G.routes ops[k].bus (made ops[k].f) := by rw [hG3, hops_eq _ _ _ hcn]
    have hnext : ∃ (G' : Gate) (came' went' : List Int), (ops[k].done = true → G' = doneG G ops[k].bus ∧ came' = came ∧ went' = if has G ops[k].bus = true then bump went ops[k].bus.toNat else went) ∧
        (ops[k].done = false → G' = inG G ops[k].bus (made ops[k].f) ∧ came' = countIn came (hops G.routes ops[k].bus (made ops[k].f)) ∧ went' = went) ∧ G'.good 4 ((k + 1) * 16 : Nat) ∧ G'.routes = Lc ∧ G'.cap = rn ∧ Cnt (k + 1) G' came' went' := by
      cases hd : ops[k].done with
      | true =>
        refine ⟨_, _, _, fun _ => ⟨rfl, rfl, rfl⟩, (by simp), ?_, by rw [doneG_routes]; exact hG3, ?_, ?_⟩
        · have := doneG_good hG1 ops[k].bus
          exact ⟨this.n4, this.outs, this.losts, this.cap1, this.cap64, this.rts, this.rt, this.row, fun x hx => by have := this.lst x hx; omega⟩
        · unfold doneG; split <;> exact hG4
        · cases hh : has G ops[k].bus with
          | false =>
            rw [doneG_not hh, if_neg (by simp)]
            exact ⟨hc4, hw4, hcn2.eq, fun i hi => by have := hcn2.cb i hi; omega, fun i hi => by have := hcn2.wb i hi; omega⟩
          | true =>
            rw [if_pos rfl]
            obtain ⟨b, hb, hb4, _⟩ := has_bus hG1 hh
            rw [hb] at hh ⊢
            rw [Int.toNat_natCast]
            refine ⟨hc4, by rw [bump_len]; exact hw4, fun i hi => ?_, fun i hi => by have := hcn2.cb i hi; omega, fun i hi => ?_⟩
            · rw [bump_getD _ _ _ (by omega), doneG_held hG1 hh i hi, hcn2.eq i hi]; omega
            · rw [bump_getD _ _ _ (by omega)]
              have := hcn2.wb i hi
              split <;> omega
      | false =>
        refine ⟨_, _, _, (by simp), fun _ => ⟨rfl, rfl, rfl⟩, ?_, by rw [inG_routes]; exact hG3, by rw [inG_cap]; exact hG4, ?_⟩
        · have := inG_good hG1 ops[k].bus (made ops[k].f)
          exact ⟨this.n4, this.outs, this.losts, this.cap1, this.cap64, this.rts, this.rt, this.row, fun x hx => by have := this.lst x hx; omega⟩
        · have hto := hops_to hG1 ops[k].bus (made ops[k].f)
          have hhl : (hops G.routes ops[k].bus (made ops[k].f)).length ≤ 16 := Nat.le_trans (hops_len _ _ _) hG1.rts
          refine ⟨by rw [countIn_len]; exact hc4, hw4, fun i hi => ?_, fun i hi => ?_, fun i hi => by have := hcn2.wb i hi; omega⟩
          · have := (countIn_held _ G came 4 _ hG1 hc4 hto i hi).1
            have := hcn2.eq i hi
            unfold inG; omega
          · have h1 := (countIn_held _ G came 4 _ hG1 hc4 hto i hi).2
            have := hcn2.cb i hi
            omega
    obtain ⟨G', came', went', hd1, hd2, hG'1, hG'3, hG'4, hcn'⟩ := hnext
    try refine hK _ ?_
    repeat (first | refine awp_seq ?_ | refine awp_block ?_ | refine awp_skip ?_ | refine awp_scope ?_ | refine awp_label ?_)
    refine awp_region tabOk fun K hK => ?_
    simp -dsimp -implicitDefEqProofs only [hlt, getD_map, encDeed, encFrame, push_cast, ↓trAdd_f, ↓stOf_f, Nat.reduceBEq, Int.reduceBEq, Int.reduceBNe, Int.reduceNeg, Int.reduceAdd, Int.reduceSub, Int.reduceLT, Int.reduceLE, Int.reduceMul, Nat.reducePow, Int.reducePow, Nat.reduceAdd, Nat.reduceEqDiff, Nat.reduceLT, Nat.reduceLeDiff, Nat.reduceMul, Nat.reduceSub, reduceCtorEq, ↓reduceIte]
    refine ⟨⟨by omega, by omega⟩, ?_⟩
    try refine hK _ ?_
    repeat (first | refine awp_seq ?_ | refine awp_block ?_ | refine awp_skip ?_ | refine awp_scope ?_ | refine awp_label ?_)
    refine awp_region tabOk fun K hK => ?_
    simp -dsimp -implicitDefEqProofs only [push_cast, ↓trAdd_f, ↓stOf_f, Nat.reduceBEq, Int.reduceBEq, Int.reduceBNe, Int.reduceNeg, Int.reduceAdd, Int.reduceSub, Int.reduceLT, Int.reduceLE, Int.reduceMul, Nat.reducePow, Int.reducePow, Nat.reduceAdd, Nat.reduceEqDiff, Nat.reduceLT, Nat.reduceLeDiff, Nat.reduceMul, Nat.reduceSub, reduceCtorEq, ↓reduceIte]
    try refine hK _ ?_
    repeat (first | refine awp_seq ?_ | refine awp_block ?_ | refine awp_skip ?_ | refine awp_scope ?_ | refine awp_label ?_)
    refine awp_join (cntS Lc ops rn k G' came' went') ?_ (fun _ hl h => awp_le hl h) ?_
    · try refine hK _ ?_
      repeat (first | refine awp_seq ?_ | refine awp_block ?_ | refine awp_skip ?_ | refine awp_scope ?_ | refine awp_label ?_)
      refine awp_cond (b := ops[k].done) (by simp -dsimp -implicitDefEqProofs only [push_cast, ↓trAdd_f, ↓stOf_f, Nat.reduceBEq, Int.reduceBEq, Int.reduceBNe, Int.reduceNeg, Int.reduceAdd, Int.reduceSub, Int.reduceLT, Int.reduceLE, Int.reduceMul, Nat.reducePow, Int.reducePow, Nat.reduceAdd, Nat.reduceEqDiff, Nat.reduceLT, Nat.reduceLeDiff, Nat.reduceMul, Nat.reduceSub, reduceCtorEq, ↓reduceIte]) (fun h => ?_) (fun h => ?_)
      · obtain ⟨hG', hc', hw'⟩ := hd1 h
        try refine hK _ ?_
        repeat (first | refine awp_seq ?_ | refine awp_block ?_ | refine awp_skip ?_ | refine awp_scope ?_ | refine awp_label ?_)
        refine awp_region tabOk fun K hK => ?_
        simp -dsimp -implicitDefEqProofs only [push_cast, ↓trAdd_f, ↓stOf_f, Nat.reduceBEq, Int.reduceBEq, Int.reduceBNe, Int.reduceNeg, Int.reduceAdd, Int.reduceSub, Int.reduceLT, Int.reduceLE, Int.reduceMul, Nat.reducePow, Int.reducePow, Nat.reduceAdd, Nat.reduceEqDiff, Nat.reduceLT, Nat.reduceLeDiff, Nat.reduceMul, Nat.reduceSub, reduceCtorEq, ↓reduceIte]
        refine callK_simple (next_ok G ops[k].bus) ?_ rfl fun _ => ?_
        · simp -dsimp -implicitDefEqProofs only [encGate, take_map_len, restr, List.contains_nil, List.contains_cons, BEq.rfl, Nat.reduceBEq, implies_true, imp_self_i, false_imp_i, argsV, PV.fz, fzL, view, viewA, viewC, viewOk, viewOkA, viewOkC, seenV, ids, idsA, idsC, PV.scalar, PV.scalarA, PV.scalarC, wk, wkA, wkAL, wkC, wkL, wkB, blkLe, true_or, List.mem_cons, List.mem_singleton, List.not_mem_nil, forall_eq_or_imp, forall_eq, List.all_cons, List.all_nil, List.flatMap_cons, List.flatMap_nil, AS.get, getPV, lk, Int.cast_ofNat_Int, Int.natCast_one, Int.reduceBEq, Int.reduceBNe, Int.reduceNeg, int_toNat_zero_i, Nat.sub_zero, Int.natCast_zero, Int.reduceAdd, Int.reduceSub, Int.reduceLT, Int.reduceLE, Int.reduceMul, Int.zero_add, decide_true, decide_false, Nat.reducePow, Int.reducePow, Nat.reduceAdd, Nat.reduceEqDiff, Nat.reduceLT, Nat.reduceLeDiff, Nat.reduceMul, Nat.reduceSub, Nat.reduceBEq, Nat.le_refl, Nat.zero_add, Nat.add_zero, reduceCtorEq, or_true, true_or, or_false, false_or, if_true, if_false, ↓reduceIte, true_and, and_true, and_self, Bool.not_true, Bool.not_false, cond_true, cond_false, Bool.true_eq_false, Bool.false_eq_true, ne_eq, not_false_eq_true, not_true_eq_false, Bool.and_true, Bool.true_and, Bool.and_false, Bool.false_and, Bool.or_true, Bool.true_or, Bool.or_false, Bool.false_or, List.isEmpty_nil, List.map_cons, List.map_nil, List.length_cons, List.length_nil, List.length_map, List.getD_cons_zero, List.getD_cons_succ, List.getD_nil, List.getElem?_cons_zero, List.getElem?_cons_succ, List.getElem?_nil, List.take_succ_cons, List.take_zero, List.take_nil, List.drop_succ_cons, List.drop_zero, List.drop_nil, List.nil_append, List.cons_append, List.append_nil, Option.getD_some, Option.getD_none, Option.map_some, Option.map_none, Int.toNat_natCast, fz_byt, fz_frm, fz_hop, fz_int, fz_rows, fz_rt]
        rw [next_snd]
        simp -dsimp -implicitDefEqProofs only [encFrame, push_cast, ↓trAdd_f, ↓stOf_f, Nat.reduceBEq, Int.reduceBEq, Int.reduceBNe, Int.reduceNeg, Int.reduceAdd, Int.reduceSub, Int.reduceLT, Int.reduceLE, Int.reduceMul, Nat.reducePow, Int.reducePow, Nat.reduceAdd, Nat.reduceEqDiff, Nat.reduceLT, Nat.reduceLeDiff, Nat.reduceMul, Nat.reduceSub, reduceCtorEq, ↓reduceIte]
        cases hh : has G ops[k].bus with
        | false =>
          rw [hh, if_neg (by simp)] at hw'
          try refine hK _ ?_
          repeat (first | refine awp_seq ?_ | refine awp_block ?_ | refine awp_skip ?_ | refine awp_scope ?_ | refine awp_label ?_)
          refine awp_region tabOk fun K hK => ?_
          simp -dsimp -implicitDefEqProofs only [hh, push_cast, ↓trAdd_f, ↓stOf_f, Nat.reduceBEq, Int.reduceBEq, Int.reduceBNe, Int.reduceNeg, Int.reduceAdd, Int.reduceSub, Int.reduceLT, Int.reduceLE, Int.reduceMul, Nat.reducePow, Int.reducePow, Nat.reduceAdd, Nat.reduceEqDiff, Nat.reduceLT, Nat.reduceLeDiff, Nat.reduceMul, Nat.reduceSub, reduceCtorEq, ↓reduceIte]
          try refine hK _ ?_
          repeat (first | refine awp_seq ?_ | refine awp_block ?_ | refine awp_skip ?_ | refine awp_scope ?_ | refine awp_label ?_)
          refine awp_cond (b := false) (by simp -dsimp -implicitDefEqProofs only [push_cast, ↓trAdd_f, ↓stOf_f, Nat.reduceBEq, Int.reduceBEq, Int.reduceBNe, Int.reduceNeg, Int.reduceAdd, Int.reduceSub, Int.reduceLT, Int.reduceLE, Int.reduceMul, Nat.reducePow, Int.reducePow, Nat.reduceAdd, Nat.reduceEqDiff, Nat.reduceLT, Nat.reduceLeDiff, Nat.reduceMul, Nat.reduceSub, reduceCtorEq, ↓reduceIte]) (fun h => ?_) (fun h => ?_)
          · simp at h
          try refine hK _ ?_
          repeat (first | refine awp_seq ?_ | refine awp_block ?_ | refine awp_skip ?_ | refine awp_scope ?_ | refine awp_label ?_)
          refine awp_region tabOk fun K hK => ?_
          simp -dsimp -implicitDefEqProofs only [hh, push_cast, ↓trAdd_f, ↓stOf_f, Nat.reduceBEq, Int.reduceBEq, Int.reduceBNe, Int.reduceNeg, Int.reduceAdd, Int.reduceSub, Int.reduceLT, Int.reduceLE, Int.reduceMul, Nat.reducePow, Int.reducePow, Nat.reduceAdd, Nat.reduceEqDiff, Nat.reduceLT, Nat.reduceLeDiff, Nat.reduceMul, Nat.reduceSub, reduceCtorEq, ↓reduceIte]
          try refine hK _ ?_
          repeat (first | refine awp_seq ?_ | refine awp_block ?_ | refine awp_skip ?_ | refine awp_scope ?_ | refine awp_label ?_)
          refine awp_cond (b := false) (by simp -dsimp -implicitDefEqProofs only [push_cast, ↓trAdd_f, ↓stOf_f, Nat.reduceBEq, Int.reduceBEq, Int.reduceBNe, Int.reduceNeg, Int.reduceAdd, Int.reduceSub, Int.reduceLT, Int.reduceLE, Int.reduceMul, Nat.reducePow, Int.reducePow, Nat.reduceAdd, Nat.reduceEqDiff, Nat.reduceLT, Nat.reduceLeDiff, Nat.reduceMul, Nat.reduceSub, reduceCtorEq, ↓reduceIte]) (fun h => ?_) (fun h => ?_)
          · simp at h
          refine awp_skip ?_
          try refine hK _ ?_
          repeat (first | refine awp_seq ?_ | refine awp_block ?_ | refine awp_skip ?_ | refine awp_scope ?_ | refine awp_label ?_)
          refine awp_region tabOk fun K hK => ?_
          simp -dsimp -implicitDefEqProofs only [push_cast, ↓trAdd_f, ↓stOf_f, Nat.reduceBEq, Int.reduceBEq, Int.reduceBNe, Int.reduceNeg, Int.reduceAdd, Int.reduceSub, Int.reduceLT, Int.reduceLE, Int.reduceMul, Nat.reducePow, Int.reducePow, Nat.reduceAdd, Nat.reduceEqDiff, Nat.reduceLT, Nat.reduceLeDiff, Nat.reduceMul, Nat.reduceSub, reduceCtorEq, ↓reduceIte]
          refine callK_simple (done_ok G ops[k].bus hsm) ?_ rfl fun _ => ?_
          · simp -dsimp -implicitDefEqProofs only [encGate, take_map_len, restr, List.contains_nil, List.contains_cons, BEq.rfl, Nat.reduceBEq, implies_true, imp_self_i, false_imp_i, argsV, PV.fz, fzL, view, viewA, viewC, viewOk, viewOkA, viewOkC, seenV, ids, idsA, idsC, PV.scalar, PV.scalarA, PV.scalarC, wk, wkA, wkAL, wkC, wkL, wkB, blkLe, true_or, List.mem_cons, List.mem_singleton, List.not_mem_nil, forall_eq_or_imp, forall_eq, List.all_cons, List.all_nil, List.flatMap_cons, List.flatMap_nil, AS.get, getPV, lk, Int.cast_ofNat_Int, Int.natCast_one, Int.reduceBEq, Int.reduceBNe, Int.reduceNeg, int_toNat_zero_i, Nat.sub_zero, Int.natCast_zero, Int.reduceAdd, Int.reduceSub, Int.reduceLT, Int.reduceLE, Int.reduceMul, Int.zero_add, decide_true, decide_false, Nat.reducePow, Int.reducePow, Nat.reduceAdd, Nat.reduceEqDiff, Nat.reduceLT, Nat.reduceLeDiff, Nat.reduceMul, Nat.reduceSub, Nat.reduceBEq, Nat.le_refl, Nat.zero_add, Nat.add_zero, reduceCtorEq, or_true, true_or, or_false, false_or, if_true, if_false, ↓reduceIte, true_and, and_true, and_self, Bool.not_true, Bool.not_false, cond_true, cond_false, Bool.true_eq_false, Bool.false_eq_true, ne_eq, not_false_eq_true, not_true_eq_false, Bool.and_true, Bool.true_and, Bool.and_false, Bool.false_and, Bool.or_true, Bool.true_or, Bool.or_false, Bool.false_or, List.isEmpty_nil, List.map_cons, List.map_nil, List.length_cons, List.length_nil, List.length_map, List.getD_cons_zero, List.getD_cons_succ, List.getD_nil, List.getElem?_cons_zero, List.getElem?_cons_succ, List.getElem?_nil, List.take_succ_cons, List.take_zero, List.take_nil, List.drop_succ_cons, List.drop_zero, List.drop_nil, List.nil_append, List.cons_append, List.append_nil, Option.getD_some, Option.getD_none, Option.map_some, Option.map_none, Int.toNat_natCast, fz_byt, fz_frm, fz_hop, fz_int, fz_rows, fz_rt]
          simp -dsimp -implicitDefEqProofs only [encGate, push_cast, ↓trAdd_f, ↓stOf_f, Nat.reduceBEq, Int.reduceBEq, Int.reduceBNe, Int.reduceNeg, Int.reduceAdd, Int.reduceSub, Int.reduceLT, Int.reduceLE, Int.reduceMul, Nat.reducePow, Int.reducePow, Nat.reduceAdd, Nat.reduceEqDiff, Nat.reduceLT, Nat.reduceLeDiff, Nat.reduceMul, Nat.reduceSub, reduceCtorEq, ↓reduceIte]
          refine hK _ ?_
          simp only [cntS, hG', hc', hw', encGate]
          refine le_intro hB [] (by simp) (fun b _ => rfl) rfl ?_ ?_ rfl <;> simp -dsimp -implicitDefEqProofs only [List.forall_mem_cons, List.forall_mem_append, forall_nil_i, List.not_mem_nil, Int.natCast_zero, Int.natCast_add, Int.natCast_one, implies_true, imp_self_i, false_imp_i, slotsLe, storeLe, PV.ren, renL, renG, PV.ok, okL, Blk.ren, Blk.ok, distinct, wk, wkA, wkAL, wkC, wkL, wkB, blkLe, List.cons.injEq, true_or, PV.int.injEq, PV.bool.injEq, AS.get, getPV, lk, Int.cast_ofNat_Int, Int.natCast_one, Int.reduceBEq, Int.reduceBNe, Int.reduceNeg, int_toNat_zero_i, Nat.sub_zero, Int.natCast_zero, Int.reduceAdd, Int.reduceSub, Int.reduceLT, Int.reduceLE, Int.reduceMul, Int.zero_add, decide_true, decide_false, Nat.reducePow, Int.reducePow, Nat.reduceAdd, Nat.reduceEqDiff, Nat.reduceLT, Nat.reduceLeDiff, Nat.reduceMul, Nat.reduceSub, Nat.reduceBEq, Nat.le_refl, Nat.zero_add, Nat.add_zero, reduceCtorEq, or_true, true_or, or_false, false_or, if_true, if_false, ↓reduceIte, true_and, and_true, and_self, Bool.not_true, Bool.not_false, cond_true, cond_false, Bool.true_eq_false, Bool.false_eq_true, ne_eq, not_false_eq_true, not_true_eq_false, Bool.and_true, Bool.true_and, Bool.and_false, Bool.false_and, Bool.or_true, Bool.true_or, Bool.or_false, Bool.false_or, List.isEmpty_nil, List.map_cons, List.map_nil, List.length_cons, List.length_nil, List.length_map, List.getD_cons_zero, List.getD_cons_succ, List.getD_nil, List.getElem?_cons_zero, List.getElem?_cons_succ, List.getElem?_nil, List.take_succ_cons, List.take_zero, List.take_nil, List.drop_succ_cons, List.drop_zero, List.drop_nil, List.nil_append, List.cons_append, List.append_nil, Option.getD_some, Option.getD_none, Option.map_some, Option.map_none, Int.toNat_natCast, ok_frm, ok_hop, ok_int, ok_rows, ok_rt, ren_frm, ren_hop, ren_int, ren_rows, ren_rt]
        | true =>
          rw [hh, if_pos rfl] at hw'
          obtain ⟨b, hb, hb4, _⟩ := has_bus hG1 hh
          have hb0 : decide ((b : Int) < 0) = false := by simp
          have hb3 : decide (3 < (b : Int)) = false := by simp; omega
          have hbw : b < went.length := by omega
          have hwb := hcn2.wb b hb4
          rw [show went.getD b 0 = went[b] by simp [List.getD, hbw]] at hwb
          have hbs := bump_set went b hbw
          rw [hb, Int.toNat_natCast] at hw'
          rw [hb] at hh hG'
          try refine hK _ ?_
          repeat (first | refine awp_seq ?_ | refine awp_block ?_ | refine awp_skip ?_ | refine awp_scope ?_ | refine awp_label ?_)
          refine awp_region tabOk fun K hK => ?_
          simp -dsimp -implicitDefEqProofs only [hh, hb, hb0, hb3, push_cast, ↓trAdd_f, ↓stOf_f, Nat.reduceBEq, Int.reduceBEq, Int.reduceBNe, Int.reduceNeg, Int.reduceAdd, Int.reduceSub, Int.reduceLT, Int.reduceLE, Int.reduceMul, Nat.reducePow, Int.reducePow, Nat.reduceAdd, Nat.reduceEqDiff, Nat.reduceLT, Nat.reduceLeDiff, Nat.reduceMul, Nat.reduceSub, reduceCtorEq, ↓reduceIte]
          try refine hK _ ?_
          repeat (first | refine awp_seq ?_ | refine awp_block ?_ | refine awp_skip ?_ | refine awp_scope ?_ | refine awp_label ?_)
          refine awp_cond (b := false) (by simp -dsimp -implicitDefEqProofs only [push_cast, ↓trAdd_f, ↓stOf_f, Nat.reduceBEq, Int.reduceBEq, Int.reduceBNe, Int.reduceNeg, Int.reduceAdd, Int.reduceSub, Int.reduceLT, Int.reduceLE, Int.reduceMul, Nat.reducePow, Int.reducePow, Nat.reduceAdd, Nat.reduceEqDiff, Nat.reduceLT, Nat.reduceLeDiff, Nat.reduceMul, Nat.reduceSub, reduceCtorEq, ↓reduceIte]) (fun h => ?_) (fun h => ?_)
          · simp at h
          try refine hK _ ?_
          repeat (first | refine awp_seq ?_ | refine awp_block ?_ | refine awp_skip ?_ | refine awp_scope ?_ | refine awp_label ?_)
          refine awp_region tabOk fun K hK => ?_
          simp -dsimp -implicitDefEqProofs only [hh, hb, push_cast, ↓trAdd_f, ↓stOf_f, Nat.reduceBEq, Int.reduceBEq, Int.reduceBNe, Int.reduceNeg, Int.reduceAdd, Int.reduceSub, Int.reduceLT, Int.reduceLE, Int.reduceMul, Nat.reducePow, Int.reducePow, Nat.reduceAdd, Nat.reduceEqDiff, Nat.reduceLT, Nat.reduceLeDiff, Nat.reduceMul, Nat.reduceSub, reduceCtorEq, ↓reduceIte]
          try refine hK _ ?_
          repeat (first | refine awp_seq ?_ | refine awp_block ?_ | refine awp_skip ?_ | refine awp_scope ?_ | refine awp_label ?_)
          refine awp_cond (b := true) (by simp -dsimp -implicitDefEqProofs only [push_cast, ↓trAdd_f, ↓stOf_f, Nat.reduceBEq, Int.reduceBEq, Int.reduceBNe, Int.reduceNeg, Int.reduceAdd, Int.reduceSub, Int.reduceLT, Int.reduceLE, Int.reduceMul, Nat.reducePow, Int.reducePow, Nat.reduceAdd, Nat.reduceEqDiff, Nat.reduceLT, Nat.reduceLeDiff, Nat.reduceMul, Nat.reduceSub, reduceCtorEq, ↓reduceIte]) (fun h => ?_) (fun h => ?_)
          · have gw : (went.map encI).getD b [] = [.int .i64 went[b]] := by rw [getD_map _ _ _ hbw]; rfl
            try refine hK _ ?_
            repeat (first | refine awp_seq ?_ | refine awp_block ?_ | refine awp_skip ?_ | refine awp_scope ?_ | refine awp_label ?_)
            refine awp_draw tabOk (by kernel_rfl) (by kernel_rfl) fun K hK C hC => ?_
            simp -dsimp -implicitDefEqProofs only [hb, hw4, gw, push_cast, ↓trAdd_f, ↓stOf_f, Nat.reduceBEq, Int.reduceBEq, Int.reduceBNe, Int.reduceNeg, Int.reduceAdd, Int.reduceSub, Int.reduceLT, Int.reduceLE, Int.reduceMul, Nat.reducePow, Int.reducePow, Nat.reduceAdd, Nat.reduceEqDiff, Nat.reduceLT, Nat.reduceLeDiff, Nat.reduceMul, Nat.reduceSub, reduceCtorEq, ↓reduceIte]
            try simp (disch := omega) only [wrap_i64, wrap_u8, wrap_u16, wrap_u32]
            rw [hbs]
            refine ⟨⟨by omega, by omega⟩, by omega, ⟨by omega, by omega⟩, by omega, hC _ (by kernel_rfl), hK _ ?_⟩
            clear hC C
            try refine hK _ ?_
            repeat (first | refine awp_seq ?_ | refine awp_block ?_ | refine awp_skip ?_ | refine awp_scope ?_ | refine awp_label ?_)
            refine awp_region tabOk fun K hK => ?_
            simp -dsimp -implicitDefEqProofs only [hb, push_cast, ↓trAdd_f, ↓stOf_f, Nat.reduceBEq, Int.reduceBEq, Int.reduceBNe, Int.reduceNeg, Int.reduceAdd, Int.reduceSub, Int.reduceLT, Int.reduceLE, Int.reduceMul, Nat.reducePow, Int.reducePow, Nat.reduceAdd, Nat.reduceEqDiff, Nat.reduceLT, Nat.reduceLeDiff, Nat.reduceMul, Nat.reduceSub, reduceCtorEq, ↓reduceIte]
            refine callK_simple (done_ok G b hsm) ?_ rfl fun _ => ?_
            · simp -dsimp -implicitDefEqProofs only [encGate, hb, take_map_len, restr, List.contains_nil, List.contains_cons, BEq.rfl, Nat.reduceBEq, implies_true, imp_self_i, false_imp_i, argsV, PV.fz, fzL, view, viewA, viewC, viewOk, viewOkA, viewOkC, seenV, ids, idsA, idsC, PV.scalar, PV.scalarA, PV.scalarC, wk, wkA, wkAL, wkC, wkL, wkB, blkLe, true_or, List.mem_cons, List.mem_singleton, List.not_mem_nil, forall_eq_or_imp, forall_eq, List.all_cons, List.all_nil, List.flatMap_cons, List.flatMap_nil, AS.get, getPV, lk, Int.cast_ofNat_Int, Int.natCast_one, Int.reduceBEq, Int.reduceBNe, Int.reduceNeg, int_toNat_zero_i, Nat.sub_zero, Int.natCast_zero, Int.reduceAdd, Int.reduceSub, Int.reduceLT, Int.reduceLE, Int.reduceMul, Int.zero_add, decide_true, decide_false, Nat.reducePow, Int.reducePow, Nat.reduceAdd, Nat.reduceEqDiff, Nat.reduceLT, Nat.reduceLeDiff, Nat.reduceMul, Nat.reduceSub, Nat.reduceBEq, Nat.le_refl, Nat.zero_add, Nat.add_zero, reduceCtorEq, or_true, true_or, or_false, false_or, if_true, if_false, ↓reduceIte, true_and, and_true, and_self, Bool.not_true, Bool.not_false, cond_true, cond_false, Bool.true_eq_false, Bool.false_eq_true, ne_eq, not_false_eq_true, not_true_eq_false, Bool.and_true, Bool.true_and, Bool.and_false, Bool.false_and, Bool.or_true, Bool.true_or, Bool.or_false, Bool.false_or, List.isEmpty_nil, List.map_cons, List.map_nil, List.length_cons, List.length_nil, List.length_map, List.getD_cons_zero, List.getD_cons_succ, List.getD_nil, List.getElem?_cons_zero, List.getElem?_cons_succ, List.getElem?_nil, List.take_succ_cons, List.take_zero, List.take_nil, List.drop_succ_cons, List.drop_zero, List.drop_nil, List.nil_append, List.cons_append, List.append_nil, Option.getD_some, Option.getD_none, Option.map_some, Option.map_none, Int.toNat_natCast, fz_byt, fz_frm, fz_hop, fz_int, fz_rows, fz_rt]
            simp -dsimp -implicitDefEqProofs only [encGate, push_cast, ↓trAdd_f, ↓stOf_f, Nat.reduceBEq, Int.reduceBEq, Int.reduceBNe, Int.reduceNeg, Int.reduceAdd, Int.reduceSub, Int.reduceLT, Int.reduceLE, Int.reduceMul, Nat.reducePow, Int.reducePow, Nat.reduceAdd, Nat.reduceEqDiff, Nat.reduceLT, Nat.reduceLeDiff, Nat.reduceMul, Nat.reduceSub, reduceCtorEq, ↓reduceIte]
            refine hK _ ?_
            simp only [cntS, hG', hc', hw', encGate]
            refine le_intro hB [] (by simp) (fun b _ => rfl) rfl ?_ ?_ rfl <;> simp -dsimp -implicitDefEqProofs only [List.forall_mem_cons, List.forall_mem_append, forall_nil_i, List.not_mem_nil, Int.natCast_zero, Int.natCast_add, Int.natCast_one, implies_true, imp_self_i, false_imp_i, slotsLe, storeLe, PV.ren, renL, renG, PV.ok, okL, Blk.ren, Blk.ok, distinct, wk, wkA, wkAL, wkC, wkL, wkB, blkLe, List.cons.injEq, true_or, PV.int.injEq, PV.bool.injEq, AS.get, getPV, lk, Int.cast_ofNat_Int, Int.natCast_one, Int.reduceBEq, Int.reduceBNe, Int.reduceNeg, int_toNat_zero_i, Nat.sub_zero, Int.natCast_zero, Int.reduceAdd, Int.reduceSub, Int.reduceLT, Int.reduceLE, Int.reduceMul, Int.zero_add, decide_true, decide_false, Nat.reducePow, Int.reducePow, Nat.reduceAdd, Nat.reduceEqDiff, Nat.reduceLT, Nat.reduceLeDiff, Nat.reduceMul, Nat.reduceSub, Nat.reduceBEq, Nat.le_refl, Nat.zero_add, Nat.add_zero, reduceCtorEq, or_true, true_or, or_false, false_or, if_true, if_false, ↓reduceIte, true_and, and_true, and_self, Bool.not_true, Bool.not_false, cond_true, cond_false, Bool.true_eq_false, Bool.false_eq_true, ne_eq, not_false_eq_true, not_true_eq_false, Bool.and_true, Bool.true_and, Bool.and_false, Bool.false_and, Bool.or_true, Bool.true_or, Bool.or_false, Bool.false_or, List.isEmpty_nil, List.map_cons, List.map_nil, List.length_cons, List.length_nil, List.length_map, List.getD_cons_zero, List.getD_cons_succ, List.getD_nil, List.getElem?_cons_zero, List.getElem?_cons_succ, List.getElem?_nil, List.take_succ_cons, List.take_zero, List.take_nil, List.drop_succ_cons, List.drop_zero, List.drop_nil, List.nil_append, List.cons_append, List.append_nil, Option.getD_some, Option.getD_none, Option.map_some, Option.map_none, Int.toNat_natCast, ok_frm, ok_hop, ok_int, ok_rows, ok_rt, ren_frm, ren_hop, ren_int, ren_rows, ren_rt]
          · simp at h
      · obtain ⟨hG', hc', hw'⟩ := hd2 h
        try refine hK _ ?_
        repeat (first | refine awp_seq ?_ | refine awp_block ?_ | refine awp_skip ?_ | refine awp_scope ?_ | refine awp_label ?_)
        refine awp_draw tabOk (by kernel_rfl) (by kernel_rfl) fun K hK C hC => ?_
        simp -dsimp -implicitDefEqProofs only [push_cast, ↓trAdd_f, ↓stOf_f, Nat.reduceBEq, Int.reduceBEq, Int.reduceBNe, Int.reduceNeg, Int.reduceAdd, Int.reduceSub, Int.reduceLT, Int.reduceLE, Int.reduceMul, Nat.reducePow, Int.reducePow, Nat.reduceAdd, Nat.reduceEqDiff, Nat.reduceLT, Nat.reduceLeDiff, Nat.reduceMul, Nat.reduceSub, reduceCtorEq, ↓reduceIte]
        refine callK_simple (made_ok ops[k].f hop.2) ?_ rfl fun _ => ?_
        · simp -dsimp -implicitDefEqProofs only [encFrame, take_map_len, restr, List.contains_nil, List.contains_cons, BEq.rfl, Nat.reduceBEq, implies_true, imp_self_i, false_imp_i, argsV, PV.fz, fzL, view, viewA, viewC, viewOk, viewOkA, viewOkC, seenV, ids, idsA, idsC, PV.scalar, PV.scalarA, PV.scalarC, wk, wkA, wkAL, wkC, wkL, wkB, blkLe, true_or, List.mem_cons, List.mem_singleton, List.not_mem_nil, forall_eq_or_imp, forall_eq, List.all_cons, List.all_nil, List.flatMap_cons, List.flatMap_nil, AS.get, getPV, lk, Int.cast_ofNat_Int, Int.natCast_one, Int.reduceBEq, Int.reduceBNe, Int.reduceNeg, int_toNat_zero_i, Nat.sub_zero, Int.natCast_zero, Int.reduceAdd, Int.reduceSub, Int.reduceLT, Int.reduceLE, Int.reduceMul, Int.zero_add, decide_true, decide_false, Nat.reducePow, Int.reducePow, Nat.reduceAdd, Nat.reduceEqDiff, Nat.reduceLT, Nat.reduceLeDiff, Nat.reduceMul, Nat.reduceSub, Nat.reduceBEq, Nat.le_refl, Nat.zero_add, Nat.add_zero, reduceCtorEq, or_true, true_or, or_false, false_or, if_true, if_false, ↓reduceIte, true_and, and_true, and_self, Bool.not_true, Bool.not_false, cond_true, cond_false, Bool.true_eq_false, Bool.false_eq_true, ne_eq, not_false_eq_true, not_true_eq_false, Bool.and_true, Bool.true_and, Bool.and_false, Bool.false_and, Bool.or_true, Bool.true_or, Bool.or_false, Bool.false_or, List.isEmpty_nil, List.map_cons, List.map_nil, List.length_cons, List.length_nil, List.length_map, List.getD_cons_zero, List.getD_cons_succ, List.getD_nil, List.getElem?_cons_zero, List.getElem?_cons_succ, List.getElem?_nil, List.take_succ_cons, List.take_zero, List.take_nil, List.drop_succ_cons, List.drop_zero, List.drop_nil, List.nil_append, List.cons_append, List.append_nil, Option.getD_some, Option.getD_none, Option.map_some, Option.map_none, Int.toNat_natCast, fz_byt, fz_frm, fz_hop, fz_int, fz_rows, fz_rt]
        simp -dsimp -implicitDefEqProofs only [encFrame, push_cast, ↓trAdd_f, ↓stOf_f, Nat.reduceBEq, Int.reduceBEq, Int.reduceBNe, Int.reduceNeg, Int.reduceAdd, Int.reduceSub, Int.reduceLT, Int.reduceLE, Int.reduceMul, Nat.reducePow, Int.reducePow, Nat.reduceAdd, Nat.reduceEqDiff, Nat.reduceLT, Nat.reduceLeDiff, Nat.reduceMul, Nat.reduceSub, reduceCtorEq, ↓reduceIte]
        refine callK_simple (hops12_ok false Lc (by omega) ops[k].bus (made ops[k].f)) ?_ rfl fun _ => ?_
        · simp -dsimp -implicitDefEqProofs only [encFrame, take_map_len, restr, List.contains_nil, List.contains_cons, BEq.rfl, Nat.reduceBEq, implies_true, imp_self_i, false_imp_i, argsV, PV.fz, fzL, view, viewA, viewC, viewOk, viewOkA, viewOkC, seenV, ids, idsA, idsC, PV.scalar, PV.scalarA, PV.scalarC, wk, wkA, wkAL, wkC, wkL, wkB, blkLe, true_or, List.mem_cons, List.mem_singleton, List.not_mem_nil, forall_eq_or_imp, forall_eq, List.all_cons, List.all_nil, List.flatMap_cons, List.flatMap_nil, AS.get, getPV, lk, Int.cast_ofNat_Int, Int.natCast_one, Int.reduceBEq, Int.reduceBNe, Int.reduceNeg, int_toNat_zero_i, Nat.sub_zero, Int.natCast_zero, Int.reduceAdd, Int.reduceSub, Int.reduceLT, Int.reduceLE, Int.reduceMul, Int.zero_add, decide_true, decide_false, Nat.reducePow, Int.reducePow, Nat.reduceAdd, Nat.reduceEqDiff, Nat.reduceLT, Nat.reduceLeDiff, Nat.reduceMul, Nat.reduceSub, Nat.reduceBEq, Nat.le_refl, Nat.zero_add, Nat.add_zero, reduceCtorEq, or_true, true_or, or_false, false_or, if_true, if_false, ↓reduceIte, true_and, and_true, and_self, Bool.not_true, Bool.not_false, cond_true, cond_false, Bool.true_eq_false, Bool.false_eq_true, ne_eq, not_false_eq_true, not_true_eq_false, Bool.and_true, Bool.true_and, Bool.and_false, Bool.false_and, Bool.or_true, Bool.true_or, Bool.or_false, Bool.false_or, List.isEmpty_nil, List.map_cons, List.map_nil, List.length_cons, List.length_nil, List.length_map, List.getD_cons_zero, List.getD_cons_succ, List.getD_nil, List.getElem?_cons_zero, List.getElem?_cons_succ, List.getElem?_nil, List.take_succ_cons, List.take_zero, List.take_nil, List.drop_succ_cons, List.drop_zero, List.drop_nil, List.nil_append, List.cons_append, List.append_nil, Option.getD_some, Option.getD_none, Option.map_some, Option.map_none, Int.toNat_natCast, fz_byt, fz_frm, fz_hop, fz_int, fz_rows, fz_rt]
        rw [hheq]
        have hto := hops_to hG1 ops[k].bus (made ops[k].f)
        have hhl : (hops G.routes ops[k].bus (made ops[k].f)).length ≤ 16 := Nat.le_trans (hops_len _ _ _) hG1.rts
        have hcb := fun j => countIn_held ((hops G.routes ops[k].bus (made ops[k].f)).take j) G came 4 _ hG1 hc4 (fun x hx => hto x (List.mem_of_mem_take hx))
        generalize hops G.routes ops[k].bus (made ops[k].f) = H at *
        simp -dsimp -implicitDefEqProofs only [push_cast, ↓trAdd_f, ↓stOf_f, Nat.reduceBEq, Int.reduceBEq, Int.reduceBNe, Int.reduceNeg, Int.reduceAdd, Int.reduceSub, Int.reduceLT, Int.reduceLE, Int.reduceMul, Nat.reducePow, Int.reducePow, Nat.reduceAdd, Nat.reduceEqDiff, Nat.reduceLT, Nat.reduceLeDiff, Nat.reduceMul, Nat.reduceSub, reduceCtorEq, ↓reduceIte]
        refine ⟨hC _ (by kernel_rfl), ?_⟩
        clear hC C
        try refine hK _ ?_
        repeat (first | refine awp_seq ?_ | refine awp_block ?_ | refine awp_skip ?_ | refine awp_scope ?_ | refine awp_label ?_)
        refine awp_region tabOk fun K hK => ?_
        simp -dsimp -implicitDefEqProofs only [push_cast, ↓trAdd_f, ↓stOf_f, Nat.reduceBEq, Int.reduceBEq, Int.reduceBNe, Int.reduceNeg, Int.reduceAdd, Int.reduceSub, Int.reduceLT, Int.reduceLE, Int.reduceMul, Nat.reducePow, Int.reducePow, Nat.reduceAdd, Nat.reduceEqDiff, Nat.reduceLT, Nat.reduceLeDiff, Nat.reduceMul, Nat.reduceSub, reduceCtorEq, ↓reduceIte]
        refine hK _ ?_
        refine awp_join { sl := [(0, .sl false 6 (Lc.map encRoute)), (2, .sl false 7 (ops.map encDeed)), (7, .bool true), (8, .int .i64 rn), (9, .ptr 136 0), (11, .own 176 1 0 4), (12, .own 184 1 0 4), (13, .int .i64 k), (14, .ptr 224 0)], st := [(136, .box (encGate G)), (176, .row 1 ((countIn came H).map encI)), (184, .row 1 (went.map encI)), (224, .box (encDeed ops[k]))], nx := 232, n := 183 } ?_ (fun _ hl h => awp_le hl h) ?_
        · refine awp_block ?_
          refine awp_for (fun j : Nat => { sl := [(0, .sl false 6 (Lc.map encRoute)), (2, .sl false 7 (ops.map encDeed)), (7, .bool true), (8, .int .i64 rn), (9, .ptr 136 0), (11, .own 176 1 0 4), (12, .own 184 1 0 4), (13, .int .i64 k), (14, .ptr 224 0), (17, .sl false 6 (H.map encHop)), (18, .int .i64 j)], st := [(136, .box (encGate G)), (176, .row 1 ((countIn came (H.take j)).map encI)), (184, .row 1 (went.map encI)), (224, .box (encDeed ops[k]))], nx := 232, n := 183 }) (fun j => j ≤ H.length) (fun j => H.length - j) 0 (Nat.zero_le _) ?_ fun j hj => ?_
          · have : countIn came [] = came := rfl
            refine le_intro hB [] (by simp) (fun b _ => rfl) rfl ?_ ?_ rfl <;> simp -dsimp -implicitDefEqProofs only [encGate, encDeed, encFrame, this, List.forall_mem_cons, List.forall_mem_append, forall_nil_i, List.not_mem_nil, Int.natCast_zero, Int.natCast_add, Int.natCast_one, implies_true, imp_self_i, false_imp_i, slotsLe, storeLe, PV.ren, renL, renG, PV.ok, okL, Blk.ren, Blk.ok, distinct, wk, wkA, wkAL, wkC, wkL, wkB, blkLe, List.cons.injEq, true_or, PV.int.injEq, PV.bool.injEq, AS.get, getPV, lk, Int.cast_ofNat_Int, Int.natCast_one, Int.reduceBEq, Int.reduceBNe, Int.reduceNeg, int_toNat_zero_i, Nat.sub_zero, Int.natCast_zero, Int.reduceAdd, Int.reduceSub, Int.reduceLT, Int.reduceLE, Int.reduceMul, Int.zero_add, decide_true, decide_false, Nat.reducePow, Int.reducePow, Nat.reduceAdd, Nat.reduceEqDiff, Nat.reduceLT, Nat.reduceLeDiff, Nat.reduceMul, Nat.reduceSub, Nat.reduceBEq, Nat.le_refl, Nat.zero_add, Nat.add_zero, reduceCtorEq, or_true, true_or, or_false, false_or, if_true, if_false, ↓reduceIte, true_and, and_true, and_self, Bool.not_true, Bool.not_false, cond_true, cond_false, Bool.true_eq_false, Bool.false_eq_true, ne_eq, not_false_eq_true, not_true_eq_false, Bool.and_true, Bool.true_and, Bool.and_false, Bool.false_and, Bool.or_true, Bool.true_or, Bool.or_false, Bool.false_or, List.isEmpty_nil, List.map_cons, List.map_nil, List.length_cons, List.length_nil, List.length_map, List.getD_cons_zero, List.getD_cons_succ, List.getD_nil, List.getElem?_cons_zero, List.getElem?_cons_succ, List.getElem?_nil, List.take_succ_cons, List.take_zero, List.take_nil, List.drop_succ_cons, List.drop_zero, List.drop_nil, List.nil_append, List.cons_append, List.append_nil, Option.getD_some, Option.getD_none, Option.map_some, Option.map_none, Int.toNat_natCast, ok_frm, ok_hop, ok_int, ok_rows, ok_rt, ren_frm, ren_hop, ren_int, ren_rows, ren_rt]
          simp only [encGate, encDeed, encFrame]
          try refine hK _ ?_
          repeat (first | refine awp_seq ?_ | refine awp_block ?_ | refine awp_skip ?_ | refine awp_scope ?_ | refine awp_label ?_)
          refine awp_region tabOk fun K hK => ?_
          simp -dsimp -implicitDefEqProofs only [push_cast, ↓trAdd_f, ↓stOf_f, Nat.reduceBEq, Int.reduceBEq, Int.reduceBNe, Int.reduceNeg, Int.reduceAdd, Int.reduceSub, Int.reduceLT, Int.reduceLE, Int.reduceMul, Nat.reducePow, Int.reducePow, Nat.reduceAdd, Nat.reduceEqDiff, Nat.reduceLT, Nat.reduceLeDiff, Nat.reduceMul, Nat.reduceSub, reduceCtorEq, ↓reduceIte]
          try refine hK _ ?_
          repeat (first | refine awp_seq ?_ | refine awp_block ?_ | refine awp_skip ?_ | refine awp_scope ?_ | refine awp_label ?_)
          refine awp_cond (b := decide ((j : Int) < H.length)) (by simp -dsimp -implicitDefEqProofs only [push_cast, ↓trAdd_f, ↓stOf_f, Nat.reduceBEq, Int.reduceBEq, Int.reduceBNe, Int.reduceNeg, Int.reduceAdd, Int.reduceSub, Int.reduceLT, Int.reduceLE, Int.reduceMul, Nat.reducePow, Int.reducePow, Nat.reduceAdd, Nat.reduceEqDiff, Nat.reduceLT, Nat.reduceLeDiff, Nat.reduceMul, Nat.reduceSub, reduceCtorEq, ↓reduceIte]) (fun h => ?_) (fun h => ?_)
          · have hjl : j < H.length := by simpa using h
            have hsucc := countIn_succ came H j hjl
            obtain ⟨ha0, ha4⟩ := hto _ (List.getElem_mem hjl)
            obtain ⟨a, ha⟩ := Int.eq_ofNat_of_zero_le ha0
            have hcj := hcb j a (by omega)
            have hca := hcn2.cb a (by omega)
            have hlj : ((H.take j).length : Int) ≤ 16 := by rw [List.length_take]; omega
            rw [ha, Int.toNat_natCast] at hsucc
            have hclj : (countIn came (H.take j)).length = 4 := by rw [countIn_len]; exact hc4
            generalize countIn came (H.take j) = c at *
            have hac : a < c.length := by omega
            have gc : (c.map encI).getD a [] = [.int .i64 c[a]] := by rw [getD_map _ _ _ hac]; rfl
            have hbs := bump_set c a hac
            rw [show c.getD a 0 = c[a] by simp [List.getD, hac]] at hcj
            try refine hK _ ?_
            repeat (first | refine awp_seq ?_ | refine awp_block ?_ | refine awp_skip ?_ | refine awp_scope ?_ | refine awp_label ?_)
            refine awp_draw tabOk (by kernel_rfl) (by kernel_rfl) fun K hK C hC => ?_
            simp -dsimp -implicitDefEqProofs only [hjl, getD_map, encHop, encFrame, ha, gc, hclj, push_cast, ↓trAdd_f, ↓stOf_f, Nat.reduceBEq, Int.reduceBEq, Int.reduceBNe, Int.reduceNeg, Int.reduceAdd, Int.reduceSub, Int.reduceLT, Int.reduceLE, Int.reduceMul, Nat.reducePow, Int.reducePow, Nat.reduceAdd, Nat.reduceEqDiff, Nat.reduceLT, Nat.reduceLeDiff, Nat.reduceMul, Nat.reduceSub, reduceCtorEq, ↓reduceIte]
            try simp (disch := omega) only [wrap_i64, wrap_u8, wrap_u16, wrap_u32]
            rw [hbs, ← hsucc]
            refine ⟨⟨by omega, by omega⟩, ⟨by omega, by omega⟩, ⟨by omega, by omega⟩, by omega, ⟨by omega, by omega⟩, by omega, hC _ (by kernel_rfl), hK _ ?_⟩
            clear hC C
            try refine hK _ ?_
            repeat (first | refine awp_seq ?_ | refine awp_block ?_ | refine awp_skip ?_ | refine awp_scope ?_ | refine awp_label ?_)
            refine awp_region tabOk fun K hK => ?_
            simp -dsimp -implicitDefEqProofs only [push_cast, ↓trAdd_f, ↓stOf_f, Nat.reduceBEq, Int.reduceBEq, Int.reduceBNe, Int.reduceNeg, Int.reduceAdd, Int.reduceSub, Int.reduceLT, Int.reduceLE, Int.reduceMul, Nat.reducePow, Int.reducePow, Nat.reduceAdd, Nat.reduceEqDiff, Nat.reduceLT, Nat.reduceLeDiff, Nat.reduceMul, Nat.reduceSub, reduceCtorEq, ↓reduceIte]
            try simp (disch := omega) only [wrap_i64, wrap_u8, wrap_u16, wrap_u32]
            refine hK _ ⟨j + 1, hjl, by omega, ?_⟩
            try simp only [encGate, encDeed, encFrame]
            refine le_intro hB [] (by simp) (fun b _ => rfl) rfl ?_ ?_ rfl <;> simp -dsimp -implicitDefEqProofs only [List.forall_mem_cons, List.forall_mem_append, forall_nil_i, List.not_mem_nil, Int.natCast_zero, Int.natCast_add, Int.natCast_one, implies_true, imp_self_i, false_imp_i, slotsLe, storeLe, PV.ren, renL, renG, PV.ok, okL, Blk.ren, Blk.ok, distinct, wk, wkA, wkAL, wkC, wkL, wkB, blkLe, List.cons.injEq, true_or, PV.int.injEq, PV.bool.injEq, AS.get, getPV, lk, Int.cast_ofNat_Int, Int.natCast_one, Int.reduceBEq, Int.reduceBNe, Int.reduceNeg, int_toNat_zero_i, Nat.sub_zero, Int.natCast_zero, Int.reduceAdd, Int.reduceSub, Int.reduceLT, Int.reduceLE, Int.reduceMul, Int.zero_add, decide_true, decide_false, Nat.reducePow, Int.reducePow, Nat.reduceAdd, Nat.reduceEqDiff, Nat.reduceLT, Nat.reduceLeDiff, Nat.reduceMul, Nat.reduceSub, Nat.reduceBEq, Nat.le_refl, Nat.zero_add, Nat.add_zero, reduceCtorEq, or_true, true_or, or_false, false_or, if_true, if_false, ↓reduceIte, true_and, and_true, and_self, Bool.not_true, Bool.not_false, cond_true, cond_false, Bool.true_eq_false, Bool.false_eq_true, ne_eq, not_false_eq_true, not_true_eq_false, Bool.and_true, Bool.true_and, Bool.and_false, Bool.false_and, Bool.or_true, Bool.true_or, Bool.or_false, Bool.false_or, List.isEmpty_nil, List.map_cons, List.map_nil, List.length_cons, List.length_nil, List.length_map, List.getD_cons_zero, List.getD_cons_succ, List.getD_nil, List.getElem?_cons_zero, List.getElem?_cons_succ, List.getElem?_nil, List.take_succ_cons, List.take_zero, List.take_nil, List.drop_succ_cons, List.drop_zero, List.drop_nil, List.nil_append, List.cons_append, List.append_nil, Option.getD_some, Option.getD_none, Option.map_some, Option.map_none, Int.toNat_natCast, ok_frm, ok_hop, ok_int, ok_rows, ok_rt, ren_frm, ren_hop, ren_int, ren_rows, ren_rt]
          · have he : j = H.length := by simp at h; omega
            subst he
            refine awp_exit rfl ?_
            rw [List.take_length]
            refine le_intro hB [] (by simp) (fun b _ => rfl) rfl ?_ ?_ rfl <;> simp -dsimp -implicitDefEqProofs only [encGate, encDeed, encFrame, List.forall_mem_cons, List.forall_mem_append, forall_nil_i, List.not_mem_nil, Int.natCast_zero, Int.natCast_add, Int.natCast_one, implies_true, imp_self_i, false_imp_i, slotsLe, storeLe, PV.ren, renL, renG, PV.ok, okL, Blk.ren, Blk.ok, distinct, wk, wkA, wkAL, wkC, wkL, wkB, blkLe, List.cons.injEq, true_or, PV.int.injEq, PV.bool.injEq, AS.get, getPV, lk, Int.cast_ofNat_Int, Int.natCast_one, Int.reduceBEq, Int.reduceBNe, Int.reduceNeg, int_toNat_zero_i, Nat.sub_zero, Int.natCast_zero, Int.reduceAdd, Int.reduceSub, Int.reduceLT, Int.reduceLE, Int.reduceMul, Int.zero_add, decide_true, decide_false, Nat.reducePow, Int.reducePow, Nat.reduceAdd, Nat.reduceEqDiff, Nat.reduceLT, Nat.reduceLeDiff, Nat.reduceMul, Nat.reduceSub, Nat.reduceBEq, Nat.le_refl, Nat.zero_add, Nat.add_zero, reduceCtorEq, or_true, true_or, or_false, false_or, if_true, if_false, ↓reduceIte, true_and, and_true, and_self, Bool.not_true, Bool.not_false, cond_true, cond_false, Bool.true_eq_false, Bool.false_eq_true, ne_eq, not_false_eq_true, not_true_eq_false, Bool.and_true, Bool.true_and, Bool.and_false, Bool.false_and, Bool.or_true, Bool.true_or, Bool.or_false, Bool.false_or, List.isEmpty_nil, List.map_cons, List.map_nil, List.length_cons, List.length_nil, List.length_map, List.getD_cons_zero, List.getD_cons_succ, List.getD_nil, List.getElem?_cons_zero, List.getElem?_cons_succ, List.getElem?_nil, List.take_succ_cons, List.take_zero, List.take_nil, List.drop_succ_cons, List.drop_zero, List.drop_nil, List.nil_append, List.cons_append, List.append_nil, Option.getD_some, Option.getD_none, Option.map_some, Option.map_none, Int.toNat_natCast, ok_frm, ok_hop, ok_int, ok_rows, ok_rt, ren_frm, ren_hop, ren_int, ren_rows, ren_rt]
        simp only [encGate, encDeed, encFrame]
        try refine hK _ ?_
        repeat (first | refine awp_seq ?_ | refine awp_block ?_ | refine awp_skip ?_ | refine awp_scope ?_ | refine awp_label ?_)
        refine awp_draw tabOk (by kernel_rfl) (by kernel_rfl) fun K hK C hC => ?_
        simp -dsimp -implicitDefEqProofs only [push_cast, ↓trAdd_f, ↓stOf_f, Nat.reduceBEq, Int.reduceBEq, Int.reduceBNe, Int.reduceNeg, Int.reduceAdd, Int.reduceSub, Int.reduceLT, Int.reduceLE, Int.reduceMul, Nat.reducePow, Int.reducePow, Nat.reduceAdd, Nat.reduceEqDiff, Nat.reduceLT, Nat.reduceLeDiff, Nat.reduceMul, Nat.reduceSub, reduceCtorEq, ↓reduceIte]
        refine callK_simple (made_ok ops[k].f hop.2) ?_ rfl fun _ => ?_
        · simp -dsimp -implicitDefEqProofs only [encFrame, take_map_len, restr, List.contains_nil, List.contains_cons, BEq.rfl, Nat.reduceBEq, implies_true, imp_self_i, false_imp_i, argsV, PV.fz, fzL, view, viewA, viewC, viewOk, viewOkA, viewOkC, seenV, ids, idsA, idsC, PV.scalar, PV.scalarA, PV.scalarC, wk, wkA, wkAL, wkC, wkL, wkB, blkLe, true_or, List.mem_cons, List.mem_singleton, List.not_mem_nil, forall_eq_or_imp, forall_eq, List.all_cons, List.all_nil, List.flatMap_cons, List.flatMap_nil, AS.get, getPV, lk, Int.cast_ofNat_Int, Int.natCast_one, Int.reduceBEq, Int.reduceBNe, Int.reduceNeg, int_toNat_zero_i, Nat.sub_zero, Int.natCast_zero, Int.reduceAdd, Int.reduceSub, Int.reduceLT, Int.reduceLE, Int.reduceMul, Int.zero_add, decide_true, decide_false, Nat.reducePow, Int.reducePow, Nat.reduceAdd, Nat.reduceEqDiff, Nat.reduceLT, Nat.reduceLeDiff, Nat.reduceMul, Nat.reduceSub, Nat.reduceBEq, Nat.le_refl, Nat.zero_add, Nat.add_zero, reduceCtorEq, or_true, true_or, or_false, false_or, if_true, if_false, ↓reduceIte, true_and, and_true, and_self, Bool.not_true, Bool.not_false, cond_true, cond_false, Bool.true_eq_false, Bool.false_eq_true, ne_eq, not_false_eq_true, not_true_eq_false, Bool.and_true, Bool.true_and, Bool.and_false, Bool.false_and, Bool.or_true, Bool.true_or, Bool.or_false, Bool.false_or, List.isEmpty_nil, List.map_cons, List.map_nil, List.length_cons, List.length_nil, List.length_map, List.getD_cons_zero, List.getD_cons_succ, List.getD_nil, List.getElem?_cons_zero, List.getElem?_cons_succ, List.getElem?_nil, List.take_succ_cons, List.take_zero, List.take_nil, List.drop_succ_cons, List.drop_zero, List.drop_nil, List.nil_append, List.cons_append, List.append_nil, Option.getD_some, Option.getD_none, Option.map_some, Option.map_none, Int.toNat_natCast, fz_byt, fz_frm, fz_hop, fz_int, fz_rows, fz_rt]
        simp -dsimp -implicitDefEqProofs only [encFrame, push_cast, ↓trAdd_f, ↓stOf_f, Nat.reduceBEq, Int.reduceBEq, Int.reduceBNe, Int.reduceNeg, Int.reduceAdd, Int.reduceSub, Int.reduceLT, Int.reduceLE, Int.reduceMul, Nat.reducePow, Int.reducePow, Nat.reduceAdd, Nat.reduceEqDiff, Nat.reduceLT, Nat.reduceLeDiff, Nat.reduceMul, Nat.reduceSub, reduceCtorEq, ↓reduceIte]
        refine callK_simple (in_ok2 G ops[k].bus (made ops[k].f) 4 _ hG1 (by omega)) ?_ rfl fun _ => ?_
        · simp -dsimp -implicitDefEqProofs only [encGate, encFrame, take_map_len, restr, List.contains_nil, List.contains_cons, BEq.rfl, Nat.reduceBEq, implies_true, imp_self_i, false_imp_i, argsV, PV.fz, fzL, view, viewA, viewC, viewOk, viewOkA, viewOkC, seenV, ids, idsA, idsC, PV.scalar, PV.scalarA, PV.scalarC, wk, wkA, wkAL, wkC, wkL, wkB, blkLe, true_or, List.mem_cons, List.mem_singleton, List.not_mem_nil, forall_eq_or_imp, forall_eq, List.all_cons, List.all_nil, List.flatMap_cons, List.flatMap_nil, AS.get, getPV, lk, Int.cast_ofNat_Int, Int.natCast_one, Int.reduceBEq, Int.reduceBNe, Int.reduceNeg, int_toNat_zero_i, Nat.sub_zero, Int.natCast_zero, Int.reduceAdd, Int.reduceSub, Int.reduceLT, Int.reduceLE, Int.reduceMul, Int.zero_add, decide_true, decide_false, Nat.reducePow, Int.reducePow, Nat.reduceAdd, Nat.reduceEqDiff, Nat.reduceLT, Nat.reduceLeDiff, Nat.reduceMul, Nat.reduceSub, Nat.reduceBEq, Nat.le_refl, Nat.zero_add, Nat.add_zero, reduceCtorEq, or_true, true_or, or_false, false_or, if_true, if_false, ↓reduceIte, true_and, and_true, and_self, Bool.not_true, Bool.not_false, cond_true, cond_false, Bool.true_eq_false, Bool.false_eq_true, ne_eq, not_false_eq_true, not_true_eq_false, Bool.and_true, Bool.true_and, Bool.and_false, Bool.false_and, Bool.or_true, Bool.true_or, Bool.or_false, Bool.false_or, List.isEmpty_nil, List.map_cons, List.map_nil, List.length_cons, List.length_nil, List.length_map, List.getD_cons_zero, List.getD_cons_succ, List.getD_nil, List.getElem?_cons_zero, List.getElem?_cons_succ, List.getElem?_nil, List.take_succ_cons, List.take_zero, List.take_nil, List.drop_succ_cons, List.drop_zero, List.drop_nil, List.nil_append, List.cons_append, List.append_nil, Option.getD_some, Option.getD_none, Option.map_some, Option.map_none, Int.toNat_natCast, fz_byt, fz_frm, fz_hop, fz_int, fz_rows, fz_rt]
        simp -dsimp -implicitDefEqProofs only [encGate, push_cast, ↓trAdd_f, ↓stOf_f, Nat.reduceBEq, Int.reduceBEq, Int.reduceBNe, Int.reduceNeg, Int.reduceAdd, Int.reduceSub, Int.reduceLT, Int.reduceLE, Int.reduceMul, Nat.reducePow, Int.reducePow, Nat.reduceAdd, Nat.reduceEqDiff, Nat.reduceLT, Nat.reduceLeDiff, Nat.reduceMul, Nat.reduceSub, reduceCtorEq, ↓reduceIte]
        refine ⟨hC _ (by kernel_rfl), hK _ ?_⟩
        simp only [cntS, hG', hc', hw', encGate]
        refine le_intro hB [] (by simp) (fun b _ => rfl) rfl ?_ ?_ rfl <;> simp -dsimp -implicitDefEqProofs only [List.forall_mem_cons, List.forall_mem_append, forall_nil_i, List.not_mem_nil, Int.natCast_zero, Int.natCast_add, Int.natCast_one, implies_true, imp_self_i, false_imp_i, slotsLe, storeLe, PV.ren, renL, renG, PV.ok, okL, Blk.ren, Blk.ok, distinct, wk, wkA, wkAL, wkC, wkL, wkB, blkLe, List.cons.injEq, true_or, PV.int.injEq, PV.bool.injEq, AS.get, getPV, lk, Int.cast_ofNat_Int, Int.natCast_one, Int.reduceBEq, Int.reduceBNe, Int.reduceNeg, int_toNat_zero_i, Nat.sub_zero, Int.natCast_zero, Int.reduceAdd, Int.reduceSub, Int.reduceLT, Int.reduceLE, Int.reduceMul, Int.zero_add, decide_true, decide_false, Nat.reducePow, Int.reducePow, Nat.reduceAdd, Nat.reduceEqDiff, Nat.reduceLT, Nat.reduceLeDiff, Nat.reduceMul, Nat.reduceSub, Nat.reduceBEq, Nat.le_refl, Nat.zero_add, Nat.add_zero, reduceCtorEq, or_true, true_or, or_false, false_or, if_true, if_false, ↓reduceIte, true_and, and_true, and_self, Bool.not_true, Bool.not_false, cond_true, cond_false, Bool.true_eq_false, Bool.false_eq_true, ne_eq, not_false_eq_true, not_true_eq_false, Bool.and_true, Bool.true_and, Bool.and_false, Bool.false_and, Bool.or_true, Bool.true_or, Bool.or_false, Bool.false_or, List.isEmpty_nil, List.map_cons, List.map_nil, List.length_cons, List.length_nil, List.length_map, List.getD_cons_zero, List.getD_cons_succ, List.getD_nil, List.getElem?_cons_zero, List.getElem?_cons_succ, List.getElem?_nil, List.take_succ_cons, List.take_zero, List.take_nil, List.drop_succ_cons, List.drop_zero, List.drop_nil, List.nil_append, List.cons_append, List.append_nil, Option.getD_some, Option.getD_none, Option.map_some, Option.map_none, Int.toNat_natCast, ok_frm, ok_hop, ok_int, ok_rows, ok_rt, ren_frm, ren_hop, ren_int, ren_rows, ren_rt]
    simp only [cntS, encGate]
    have hGo := hG'1.outs
    have hGl := hG'1.losts
    try refine hK _ ?_
    repeat (first | refine awp_seq ?_ | refine awp_block ?_ | refine awp_skip ?_ | refine awp_scope ?_ | refine awp_label ?_)
    refine awp_region tabOk fun K hK => ?_
    simp -dsimp -implicitDefEqProofs only [hGo, hGl, bne_self_eq_false, push_cast, ↓trAdd_f, ↓stOf_f, Nat.reduceBEq, Int.reduceBEq, Int.reduceBNe, Int.reduceNeg, Int.reduceAdd, Int.reduceSub, Int.reduceLT, Int.reduceLE, Int.reduceMul, Nat.reducePow, Int.reducePow, Nat.reduceAdd, Nat.reduceEqDiff, Nat.reduceLT, Nat.reduceLeDiff, Nat.reduceMul, Nat.reduceSub, reduceCtorEq, ↓reduceIte]
    try refine hK _ ?_
    repeat (first | refine awp_seq ?_ | refine awp_block ?_ | refine awp_skip ?_ | refine awp_scope ?_ | refine awp_label ?_)
    refine awp_cond (b := false) (by simp -dsimp -implicitDefEqProofs only [push_cast, ↓trAdd_f, ↓stOf_f, Nat.reduceBEq, Int.reduceBEq, Int.reduceBNe, Int.reduceNeg, Int.reduceAdd, Int.reduceSub, Int.reduceLT, Int.reduceLE, Int.reduceMul, Nat.reducePow, Int.reducePow, Nat.reduceAdd, Nat.reduceEqDiff, Nat.reduceLT, Nat.reduceLeDiff, Nat.reduceMul, Nat.reduceSub, reduceCtorEq, ↓reduceIte]) (fun h => ?_) (fun h => ?_)
    · simp at h
    clear h
    have hc4' := hcn'.c4
    have hw4' := hcn'.w4
    try refine hK _ ?_
    repeat (first | refine awp_seq ?_ | refine awp_block ?_ | refine awp_skip ?_ | refine awp_scope ?_ | refine awp_label ?_)
    refine awp_region tabOk fun K hK => ?_
    simp -dsimp -implicitDefEqProofs only [push_cast, ↓trAdd_f, ↓stOf_f, Nat.reduceBEq, Int.reduceBEq, Int.reduceBNe, Int.reduceNeg, Int.reduceAdd, Int.reduceSub, Int.reduceLT, Int.reduceLE, Int.reduceMul, Nat.reducePow, Int.reducePow, Nat.reduceAdd, Nat.reduceEqDiff, Nat.reduceLT, Nat.reduceLeDiff, Nat.reduceMul, Nat.reduceSub, reduceCtorEq, ↓reduceIte]
    refine hK _ (awp_block ?_)
    refine awp_for (fun i : Nat => { sl := (19, .int .i64 i) :: (cntS Lc ops rn k G' came' went').sl, st := (cntS Lc ops rn k G' came' went').st, nx := 192, n := 183 }) (fun i => i ≤ 4) (fun i => 4 - i) 0 (Nat.zero_le _) ?_ fun i hi => ?_
    · simp only [cntS, encGate]
      refine le_intro hB [] (by simp) (fun b _ => rfl) rfl ?_ ?_ rfl <;> simp -dsimp -implicitDefEqProofs only [List.forall_mem_cons, List.forall_mem_append, forall_nil_i, List.not_mem_nil, Int.natCast_zero, Int.natCast_add, Int.natCast_one, implies_true, imp_self_i, false_imp_i, slotsLe, storeLe, PV.ren, renL, renG, PV.ok, okL, Blk.ren, Blk.ok, distinct, wk, wkA, wkAL, wkC, wkL, wkB, blkLe, List.cons.injEq, true_or, PV.int.injEq, PV.bool.injEq, AS.get, getPV, lk, Int.cast_ofNat_Int, Int.natCast_one, Int.reduceBEq, Int.reduceBNe, Int.reduceNeg, int_toNat_zero_i, Nat.sub_zero, Int.natCast_zero, Int.reduceAdd, Int.reduceSub, Int.reduceLT, Int.reduceLE, Int.reduceMul, Int.zero_add, decide_true, decide_false, Nat.reducePow, Int.reducePow, Nat.reduceAdd, Nat.reduceEqDiff, Nat.reduceLT, Nat.reduceLeDiff, Nat.reduceMul, Nat.reduceSub, Nat.reduceBEq, Nat.le_refl, Nat.zero_add, Nat.add_zero, reduceCtorEq, or_true, true_or, or_false, false_or, if_true, if_false, ↓reduceIte, true_and, and_true, and_self, Bool.not_true, Bool.not_false, cond_true, cond_false, Bool.true_eq_false, Bool.false_eq_true, ne_eq, not_false_eq_true, not_true_eq_false, Bool.and_true, Bool.true_and, Bool.and_false, Bool.false_and, Bool.or_true, Bool.true_or, Bool.or_false, Bool.false_or, List.isEmpty_nil, List.map_cons, List.map_nil, List.length_cons, List.length_nil, List.length_map, List.getD_cons_zero, List.getD_cons_succ, List.getD_nil, List.getElem?_cons_zero, List.getElem?_cons_succ, List.getElem?_nil, List.take_succ_cons, List.take_zero, List.take_nil, List.drop_succ_cons, List.drop_zero, List.drop_nil, List.nil_append, List.cons_append, List.append_nil, Option.getD_some, Option.getD_none, Option.map_some, Option.map_none, Int.toNat_natCast, ok_frm, ok_hop, ok_int, ok_rows, ok_rt, ren_frm, ren_hop, ren_int, ren_rows, ren_rt]
    simp only [cntS, encGate]
    try refine hK _ ?_
    repeat (first | refine awp_seq ?_ | refine awp_block ?_ | refine awp_skip ?_ | refine awp_scope ?_ | refine awp_label ?_)
    refine awp_region tabOk fun K hK => ?_
    simp -dsimp -implicitDefEqProofs only [push_cast, ↓trAdd_f, ↓stOf_f, Nat.reduceBEq, Int.reduceBEq, Int.reduceBNe, Int.reduceNeg, Int.reduceAdd, Int.reduceSub, Int.reduceLT, Int.reduceLE, Int.reduceMul, Nat.reducePow, Int.reducePow, Nat.reduceAdd, Nat.reduceEqDiff, Nat.reduceLT, Nat.reduceLeDiff, Nat.reduceMul, Nat.reduceSub, reduceCtorEq, ↓reduceIte]
    try refine hK _ ?_
    repeat (first | refine awp_seq ?_ | refine awp_block ?_ | refine awp_skip ?_ | refine awp_scope ?_ | refine awp_label ?_)
    refine awp_cond (b := decide ((i : Int) < 4)) (by simp -dsimp -implicitDefEqProofs only [push_cast, ↓trAdd_f, ↓stOf_f, Nat.reduceBEq, Int.reduceBEq, Int.reduceBNe, Int.reduceNeg, Int.reduceAdd, Int.reduceSub, Int.reduceLT, Int.reduceLE, Int.reduceMul, Nat.reducePow, Int.reducePow, Nat.reduceAdd, Nat.reduceEqDiff, Nat.reduceLT, Nat.reduceLeDiff, Nat.reduceMul, Nat.reduceSub, reduceCtorEq, ↓reduceIte]) (fun h => ?_) (fun h => ?_)
    · have hi4 : i < 4 := by simp at h; omega
      clear h
      have hio : i < G'.out.length := by omega
      have hil : i < G'.lost.length := by omega
      have hic : i < came'.length := by omega
      have hiw : i < went'.length := by omega
      have go : (G'.out.map encRow).getD i [] = [.sl false 5 (G'.out[i].map (encFrame false))] := by rw [getD_map _ _ _ hio]; rfl
      have gl : (G'.lost.map encI).getD i [] = [.int .i64 G'.lost[i]] := by rw [getD_map _ _ _ hil]; rfl
      have gc : (came'.map encI).getD i [] = [.int .i64 came'[i]] := by rw [getD_map _ _ _ hic]; rfl
      have gw : (went'.map encI).getD i [] = [.int .i64 went'[i]] := by rw [getD_map _ _ _ hiw]; rfl
      have heq := hcn'.eq i hi4
      have hcb := hcn'.cb i hi4
      have hwb := hcn'.wb i hi4
      have hrw := hG'1.row _ (List.getElem_mem hio)
      have hls := hG'1.lst _ (List.getElem_mem hil)
      unfold held at heq
      rw [show came'.getD i 0 = came'[i] by simp [List.getD, hic]] at heq hcb
      rw [show went'.getD i 0 = went'[i] by simp [List.getD, hiw]] at heq hwb
      rw [show G'.out.getD i [] = G'.out[i] by simp [List.getD, hio], show G'.lost.getD i 0 = G'.lost[i] by simp [List.getD, hil]] at heq
      have q1 : decide (rn < (G'.out[i].length : Int)) = false := by simp; omega
      have q2 : decide (G'.lost[i] < 0) = false := by simp; omega
      have q3 : IntKind.i64.wrap (IntKind.i64.wrap (went'[i] + (G'.out[i].length : Int)) + G'.lost[i]) = came'[i] := by
        rw [wrap_i64 (n := went'[i] + (G'.out[i].length : Int)) (by omega) (by omega), wrap_i64 (by omega) (by omega)]; omega
      try refine hK _ ?_
      repeat (first | refine awp_seq ?_ | refine awp_block ?_ | refine awp_skip ?_ | refine awp_scope ?_ | refine awp_label ?_)
      refine awp_draw tabOk (by kernel_rfl) (by kernel_rfl) fun K hK C hC => ?_
      simp -dsimp -implicitDefEqProofs only [hGo, hGl, hc4', hw4', go, gl, gc, gw, q1, q2, q3, bne_self_eq_false, push_cast, ↓trAdd_f, ↓stOf_f, Nat.reduceBEq, Int.reduceBEq, Int.reduceBNe, Int.reduceNeg, Int.reduceAdd, Int.reduceSub, Int.reduceLT, Int.reduceLE, Int.reduceMul, Nat.reducePow, Int.reducePow, Nat.reduceAdd, Nat.reduceEqDiff, Nat.reduceLT, Nat.reduceLeDiff, Nat.reduceMul, Nat.reduceSub, reduceCtorEq, ↓reduceIte]
      refine ⟨⟨by omega, by omega⟩, ⟨by omega, by omega⟩, ⟨by omega, by omega⟩, by omega, ⟨by omega, by omega⟩, by omega, ⟨by omega, by omega⟩, ⟨by omega, by omega⟩, hC _ (by kernel_rfl), ?_⟩
      clear hC C
      try refine hK _ ?_
      repeat (first | refine awp_seq ?_ | refine awp_block ?_ | refine awp_skip ?_ | refine awp_scope ?_ | refine awp_label ?_)
      refine awp_cond (b := false) (by simp -dsimp -implicitDefEqProofs only [push_cast, ↓trAdd_f, ↓stOf_f, Nat.reduceBEq, Int.reduceBEq, Int.reduceBNe, Int.reduceNeg, Int.reduceAdd, Int.reduceSub, Int.reduceLT, Int.reduceLE, Int.reduceMul, Nat.reducePow, Int.reducePow, Nat.reduceAdd, Nat.reduceEqDiff, Nat.reduceLT, Nat.reduceLeDiff, Nat.reduceMul, Nat.reduceSub, reduceCtorEq, ↓reduceIte]) (fun h => ?_) (fun h => ?_)
      · simp at h
      clear h
      try refine hK _ ?_
      repeat (first | refine awp_seq ?_ | refine awp_block ?_ | refine awp_skip ?_ | refine awp_scope ?_ | refine awp_label ?_)
      refine awp_region tabOk fun K hK => ?_
      simp -dsimp -implicitDefEqProofs only [push_cast, ↓trAdd_f, ↓stOf_f, Nat.reduceBEq, Int.reduceBEq, Int.reduceBNe, Int.reduceNeg, Int.reduceAdd, Int.reduceSub, Int.reduceLT, Int.reduceLE, Int.reduceMul, Nat.reducePow, Int.reducePow, Nat.reduceAdd, Nat.reduceEqDiff, Nat.reduceLT, Nat.reduceLeDiff, Nat.reduceMul, Nat.reduceSub, reduceCtorEq, ↓reduceIte]
      try simp (disch := omega) only [wrap_i64, wrap_u8, wrap_u16, wrap_u32]
      refine hK _ ⟨i + 1, hi4, by omega, ?_⟩
      try simp only [cntS, encGate]
      refine le_intro hB [] (by simp) (fun b _ => rfl) rfl ?_ ?_ rfl <;> simp -dsimp -implicitDefEqProofs only [List.forall_mem_cons, List.forall_mem_append, forall_nil_i, List.not_mem_nil, Int.natCast_zero, Int.natCast_add, Int.natCast_one, implies_true, imp_self_i, false_imp_i, slotsLe, storeLe, PV.ren, renL, renG, PV.ok, okL, Blk.ren, Blk.ok, distinct, wk, wkA, wkAL, wkC, wkL, wkB, blkLe, List.cons.injEq, true_or, PV.int.injEq, PV.bool.injEq, AS.get, getPV, lk, Int.cast_ofNat_Int, Int.natCast_one, Int.reduceBEq, Int.reduceBNe, Int.reduceNeg, int_toNat_zero_i, Nat.sub_zero, Int.natCast_zero, Int.reduceAdd, Int.reduceSub, Int.reduceLT, Int.reduceLE, Int.reduceMul, Int.zero_add, decide_true, decide_false, Nat.reducePow, Int.reducePow, Nat.reduceAdd, Nat.reduceEqDiff, Nat.reduceLT, Nat.reduceLeDiff, Nat.reduceMul, Nat.reduceSub, Nat.reduceBEq, Nat.le_refl, Nat.zero_add, Nat.add_zero, reduceCtorEq, or_true, true_or, or_false, false_or, if_true, if_false, ↓reduceIte, true_and, and_true, and_self, Bool.not_true, Bool.not_false, cond_true, cond_false, Bool.true_eq_false, Bool.false_eq_true, ne_eq, not_false_eq_true, not_true_eq_false, Bool.and_true, Bool.true_and, Bool.and_false, Bool.false_and, Bool.or_true, Bool.true_or, Bool.or_false, Bool.false_or, List.isEmpty_nil, List.map_cons, List.map_nil, List.length_cons, List.length_nil, List.length_map, List.getD_cons_zero, List.getD_cons_succ, List.getD_nil, List.getElem?_cons_zero, List.getElem?_cons_succ, List.getElem?_nil, List.take_succ_cons, List.take_zero, List.take_nil, List.drop_succ_cons, List.drop_zero, List.drop_nil, List.nil_append, List.cons_append, List.append_nil, Option.getD_some, Option.getD_none, Option.map_some, Option.map_none, Int.toNat_natCast, ok_frm, ok_hop, ok_int, ok_rows, ok_rt, ren_frm, ren_hop, ren_int, ren_rows, ren_rt]
    · refine awp_exit rfl ?_
      try refine hK _ ?_
      repeat (first | refine awp_seq ?_ | refine awp_block ?_ | refine awp_skip ?_ | refine awp_scope ?_ | refine awp_label ?_)
      refine awp_region tabOk fun K hK => ?_
      simp -dsimp -implicitDefEqProofs only [push_cast, ↓trAdd_f, ↓stOf_f, Nat.reduceBEq, Int.reduceBEq, Int.reduceBNe, Int.reduceNeg, Int.reduceAdd, Int.reduceSub, Int.reduceLT, Int.reduceLE, Int.reduceMul, Nat.reducePow, Int.reducePow, Nat.reduceAdd, Nat.reduceEqDiff, Nat.reduceLT, Nat.reduceLeDiff, Nat.reduceMul, Nat.reduceSub, reduceCtorEq, ↓reduceIte]
      try simp (disch := omega) only [wrap_i64, wrap_u8, wrap_u16, wrap_u32]
      refine hK _ ⟨(k + 1, G', came', went'), ⟨hlt, hk40, hG'1, hG'3, hG'4, hcn'⟩, ?_, ?_⟩
      · show 40 - (k + 1) < 40 - k; omega
      simp only [cntS, encGate]
      refine le_intro hB [] (by simp) (fun b _ => rfl) rfl ?_ ?_ rfl <;> simp -dsimp -implicitDefEqProofs only [List.forall_mem_cons, List.forall_mem_append, forall_nil_i, List.not_mem_nil, Int.natCast_zero, Int.natCast_add, Int.natCast_one, implies_true, imp_self_i, false_imp_i, slotsLe, storeLe, PV.ren, renL, renG, PV.ok, okL, Blk.ren, Blk.ok, distinct, wk, wkA, wkAL, wkC, wkL, wkB, blkLe, List.cons.injEq, true_or, PV.int.injEq, PV.bool.injEq, AS.get, getPV, lk, Int.cast_ofNat_Int, Int.natCast_one, Int.reduceBEq, Int.reduceBNe, Int.reduceNeg, int_toNat_zero_i, Nat.sub_zero, Int.natCast_zero, Int.reduceAdd, Int.reduceSub, Int.reduceLT, Int.reduceLE, Int.reduceMul, Int.zero_add, decide_true, decide_false, Nat.reducePow, Int.reducePow, Nat.reduceAdd, Nat.reduceEqDiff, Nat.reduceLT, Nat.reduceLeDiff, Nat.reduceMul, Nat.reduceSub, Nat.reduceBEq, Nat.le_refl, Nat.zero_add, Nat.add_zero, reduceCtorEq, or_true, true_or, or_false, false_or, if_true, if_false, ↓reduceIte, true_and, and_true, and_self, Bool.not_true, Bool.not_false, cond_true, cond_false, Bool.true_eq_false, Bool.false_eq_true, ne_eq, not_false_eq_true, not_true_eq_false, Bool.and_true, Bool.true_and, Bool.and_false, Bool.false_and, Bool.or_true, Bool.true_or, Bool.or_false, Bool.false_or, List.isEmpty_nil, List.map_cons, List.map_nil, List.length_cons, List.length_nil, List.length_map, List.getD_cons_zero, List.getD_cons_succ, List.getD_nil, List.getElem?_cons_zero, List.getElem?_cons_succ, List.getElem?_nil, List.take_succ_cons, List.take_zero, List.take_nil, List.drop_succ_cons, List.drop_zero, List.drop_nil, List.nil_append, List.cons_append, List.append_nil, Option.getD_some, Option.getD_none, Option.map_some, Option.map_none, Int.toNat_natCast, ok_frm, ok_hop, ok_int, ok_rows, ok_rt, ren_frm, ren_hop, ren_int, ren_rows, ren_rt]
  · refine awp_exit rfl ?_
    try refine hK _ ?_
    repeat (first | refine awp_seq ?_ | refine awp_block ?_ | refine awp_skip ?_ | refine awp_scope ?_ | refine awp_label ?_)
    refine awp_region tabOk fun K hK => ?_
    simp -dsimp -implicitDefEqProofs only [push_cast, ↓trAdd_f, ↓stOf_f, Nat.reduceBEq, Int.reduceBEq, Int.reduceBNe, Int.reduceNeg, Int.reduceAdd, Int.reduceSub, Int.reduceLT, Int.reduceLE, Int.reduceMul, Nat.reducePow, Int.reducePow, Nat.reduceAdd, Nat.reduceEqDiff, Nat.reduceLT, Nat.reduceLeDiff, Nat.reduceMul, Nat.reduceSub, reduceCtorEq, ↓reduceIte]
    refine hK _ (awp_ret ?_)
    simp -dsimp -implicitDefEqProofs only [List.flatMap_cons, List.flatMap_nil, List.mem_append, Blk.ok, PV.ok, okL, List.length_append, take_map_len, implies_true, imp_self_i, false_imp_i, endOk, resVals, joinRes, view, viewA, viewC, viewOk, viewOkA, viewOkC, storeEnd, wk, wkA, wkAL, wkC, wkL, wkB, blkLe, true_or, PV.int.injEq, PV.bool.injEq, idsA, PV.fz, fzL, ids, idsC, fLoad, outP, TI.n, TI.isAgg, List.not_mem_nil, List.mem_cons, List.mem_singleton, forall_eq_or_imp, forall_eq, AS.get, getPV, lk, Int.cast_ofNat_Int, Int.natCast_one, Int.reduceBEq, Int.reduceBNe, Int.reduceNeg, int_toNat_zero_i, Nat.sub_zero, Int.natCast_zero, Int.reduceAdd, Int.reduceSub, Int.reduceLT, Int.reduceLE, Int.reduceMul, Int.zero_add, decide_true, decide_false, Nat.reducePow, Int.reducePow, Nat.reduceAdd, Nat.reduceEqDiff, Nat.reduceLT, Nat.reduceLeDiff, Nat.reduceMul, Nat.reduceSub, Nat.reduceBEq, Nat.le_refl, Nat.zero_add, Nat.add_zero, reduceCtorEq, or_true, true_or, or_false, false_or, if_true, if_false, ↓reduceIte, true_and, and_true, and_self, Bool.not_true, Bool.not_false, cond_true, cond_false, Bool.true_eq_false, Bool.false_eq_true, ne_eq, not_false_eq_true, not_true_eq_false, Bool.and_true, Bool.true_and, Bool.and_false, Bool.false_and, Bool.or_true, Bool.true_or, Bool.or_false, Bool.false_or, List.isEmpty_nil, List.map_cons, List.map_nil, List.length_cons, List.length_nil, List.length_map, List.getD_cons_zero, List.getD_cons_succ, List.getD_nil, List.getElem?_cons_zero, List.getElem?_cons_succ, List.getElem?_nil, List.take_succ_cons, List.take_zero, List.take_nil, List.drop_succ_cons, List.drop_zero, List.drop_nil, List.nil_append, List.cons_append, List.append_nil, Option.getD_some, Option.getD_none, Option.map_some, Option.map_none, Int.toNat_natCast, T_1, T_2, T_3, T_4, T_5, T_6, T_7, T_8, T_9, T_10, T_11, T_12, T_13, T_14, T_15, T_16, T_17, T_18, T_19, T_21, T_22, T_23, T_24, T_25, T_26, T_27, T_28, T_29, T_30, T_31, T_33, T_34, T_35, T_36, T_37, T_38, T_39, T_40, T_41, T_42, T_43, T_45, T_46, T_47, T_48, T_49, T_50, T_51, T_52, T_53, T_54, T_55, T_56, T_57, T_58, T_59, T_60, T_61, T_62, T_63, T_64, T_65, T_66, T_67, T_68, T_69, T_70, T_71, T_72, T_73, T_74, T_75, T_76, T_77, T_78, T_79, T_80, T_81, T_82, T_83, T_84, T_85, T_86, T_87, T_88, T_89, T_90, T_91, T_92, T_93, T_94, T_95, T_96, T_97, T_98, fz_byt, fz_frm, fz_hop, fz_int, fz_rows, fz_rt]
theorem lawGateCounts (y0 : List Route) (y1 : Int) (y2 : List Deed) (ok0 : y0.length * 48 ≤ 140737488351232 ∧ y0.length ≤ 140737488351232 ∧ ∀ r ∈ y0, r.wf) (ok1 : (Lit.int .u8 y1).wf = true) (ok2 : y2.length * 72 ≤ 140737488351232 ∧ y2.length ≤ 140737488351232 ∧ ∀ x ∈ y2, I64 x.bus ∧ x.f.wf) : FnS Try.prog 4 [.sl false 6 (y0.map encRoute), .int .u8 y1, .sl false 7 (y2.map encDeed)] [] (.bool true) [] :=
  gateCounts_ok y0 y1 y2 (u8_wf ok1) (fun x hx => (ok2.2.2 x hx).2)
end Go.Proofs.YtcpfkcipnkeokaaFw
