/-
  The walk of the law GateReach.
-/
import Derived.Test.YtcpfkcipnkeokaaWM
import Derived.Test.YtcpfkcipnkeokaaWL
namespace Go.Proofs.YtcpfkcipnkeokaaFw
open Go Go.Proofs
set_option maxRecDepth 100000
set_option maxHeartbeats 8000000
set_option linter.unusedVariables false
set_option linter.unusedSimpArgs false

theorem newOf_loop4 {l : List Route} {n room : Int} (h1 : 1 ≤ room) (h2 : room ≤ 64) (h : (newOf l n room).2 ≠ 0) : loopless l n = false := by
  cases hl : loopless l n with
  | false => rfl
  | true =>
    exfalso
    apply h
    have hr : rightR routeR l n = true := by
      unfold loopless at hl
      simp only [Bool.and_eq_true] at hl
      exact hl.1
    unfold newOf newG
    rw [if_neg (by simp [hr]), if_neg (by simp [hl]), if_neg (by simp; omega)]
theorem frame_wf_ok4 {f : Frame} (h : f.wf) : f.okB ∧ f.data.length ≤ 2 ^ 50 := ⟨fun b hb => h.2.2.2 b hb, by have := h.2.2.1; omega⟩
def encBo (b : Bool) : List PV := [.bool b]
theorem encBo_fz (b : Bool) : ∀ c ∈ encBo b, c.fz = true := by simp [encBo, PV.fz]
theorem ren_bo (l : List Bool) (r : Nat → Nat) : (l.map encBo).map (renL r) = l.map encBo := map_ren_fz _ (fz_map encBo_fz l) r
theorem ok_bo (l : List Bool) (S : Nat → Prop) : (∀ e ∈ l.map encBo, okL S e) = True := all_ok_fz _ (fz_map encBo_fz l) S
theorem rep_bo (n : Nat) : List.replicate n [PV.bool false] = (List.replicate n false).map encBo := by rw [List.map_replicate]; rfl
theorem lev_okB (l : List Route) : ∀ (n : Nat) (S : List Hop), (∀ h ∈ S, h.frame.okB) → ∀ h ∈ lev l n S, h.frame.okB
  | 0, S, _ => by simp [lev]
  | n + 1, S, hS => by
    intro h hh
    rcases List.mem_append.1 hh with hh | hh
    · exact hS h hh
    · refine lev_okB l n _ (fun y hy => ?_) h hh
      obtain ⟨z, hz, hy⟩ := List.mem_flatMap.1 hy
      exact hops_okB l z.to z.frame (hS z hz) y hy
def reS (want : List Hop) (k : Nat) (G : Gate) (seen : List Bool) : AS :=
  { sl := [(5, .bool true), (8, .ptr 168 0), (10, .sl false 6 (want.map encHop)), (11, .int .i64 k), (12, .own 312 1 0 want.length), (13, .int .i64 k)], st := [(168, .box (encGate G)), (312, .row 1 (seen.map encBo))], nx := 320, n := 138 }
/-- The search for a bus for which a frame waits: i, and whether the last one was it. -/
def reI (want : List Hop) (k : Nat) (G : Gate) (seen : List Bool) (i : Nat) (fd : Bool) : AS :=
  { sl := [(5, .bool true), (8, .ptr 168 0), (10, .sl false 6 (want.map encHop)), (11, .int .i64 k), (12, .own 312 1 0 want.length), (13, .int .i64 k), (14, .int .i64 (if fd then (i : Int) - 1 else -1)), (15, .ptr 360 0), (16, .int .i64 i)],
    st := [(168, .box (encGate G)), (312, .row 1 (seen.map encBo)), (360, .box (encFrame false (if fd then (next G ((i : Int) - 1)).1 else zeroF)))], nx := 368, n := 138 }
/-- The search for what is done among what is wanted. -/
def reF (want : List Hop) (k : Nat) (G : Gate) (seen : List Bool) (a : Int) (y : Frame) (j : Nat) (fd : Bool) : AS :=
  { sl := [(5, .bool true), (8, .ptr 168 0), (10, .sl false 6 (want.map encHop)), (11, .int .i64 k), (12, .own 312 1 0 want.length), (13, .int .i64 k), (14, .int .i64 a), (15, .ptr 360 0), (19, .bool fd), (20, .int .i64 j)],
    st := [(168, .box (encGate G)), (312, .row 1 ((if fd then seen.set (j - 1) true else seen).map encBo)), (360, .box (encFrame false y))], nx := 368, n := 138 }
theorem hop_eta (h : Hop) (a : Int) (y : Frame) : h = ⟨a, y⟩ ↔ h.to = a ∧ h.frame = y := by cases h; simp
theorem bo_set (l : List Bool) (j : Nat) : (l.map encBo).set j [.bool true] = (l.set j true).map encBo := by rw [List.map_set]; rfl
theorem gateReach_ok (l : List Route) (x : Sent) (hx : x.f.wf) :
    FnS Try.prog 6 [.sl false 6 (l.map encRoute), .agg (encSent x)] [] (.bool true) [] := by
  refine fn_walk tabOk Try.func6 rfl (by decide +kernel) Try.ntmps6 Try.results6 (by simp) fun B hB => ?_
  simp only [encSent, encFrame]
  try refine hK _ ?_
  repeat (first | refine awp_seq ?_ | refine awp_block ?_ | refine awp_skip ?_ | refine awp_scope ?_ | refine awp_label ?_)
  refine awp_region tabOk fun K hK => ?_
  simp -dsimp -implicitDefEqProofs only [push_cast, ↓trAdd_f, ↓stOf_f, Nat.reduceBEq, Int.reduceBEq, Int.reduceBNe, Int.reduceNeg, Int.reduceAdd, Int.reduceSub, Int.reduceLT, Int.reduceLE, Int.reduceMul, Nat.reducePow, Int.reducePow, Nat.reduceAdd, Nat.reduceEqDiff, Nat.reduceLT, Nat.reduceLeDiff, Nat.reduceMul, Nat.reduceSub, reduceCtorEq, ↓reduceIte]
  try refine hK _ ?_
  repeat (first | refine awp_seq ?_ | refine awp_block ?_ | refine awp_skip ?_ | refine awp_scope ?_ | refine awp_label ?_)
  refine awp_region tabOk fun K hK => ?_
  simp -dsimp -implicitDefEqProofs only [push_cast, ↓trAdd_f, ↓stOf_f, Nat.reduceBEq, Int.reduceBEq, Int.reduceBNe, Int.reduceNeg, Int.reduceAdd, Int.reduceSub, Int.reduceLT, Int.reduceLE, Int.reduceMul, Nat.reducePow, Int.reducePow, Nat.reduceAdd, Nat.reduceEqDiff, Nat.reduceLT, Nat.reduceLeDiff, Nat.reduceMul, Nat.reduceSub, reduceCtorEq, ↓reduceIte]
  refine callK_simple head_ok ?_ rfl fun _ => ?_
  · simp -dsimp -implicitDefEqProofs only [take_map_len, restr, List.contains_nil, List.contains_cons, BEq.rfl, Nat.reduceBEq, implies_true, imp_self_i, false_imp_i, argsV, PV.fz, fzL, view, viewA, viewC, viewOk, viewOkA, viewOkC, seenV, ids, idsA, idsC, PV.scalar, PV.scalarA, PV.scalarC, wk, wkA, wkAL, wkC, wkL, wkB, blkLe, true_or, List.mem_cons, List.mem_singleton, List.not_mem_nil, forall_eq_or_imp, forall_eq, List.all_cons, List.all_nil, List.flatMap_cons, List.flatMap_nil, AS.get, getPV, lk, Int.cast_ofNat_Int, Int.natCast_one, Int.reduceBEq, Int.reduceBNe, Int.reduceNeg, int_toNat_zero_i, Nat.sub_zero, Int.natCast_zero, Int.reduceAdd, Int.reduceSub, Int.reduceLT, Int.reduceLE, Int.reduceMul, Int.zero_add, decide_true, decide_false, Nat.reducePow, Int.reducePow, Nat.reduceAdd, Nat.reduceEqDiff, Nat.reduceLT, Nat.reduceLeDiff, Nat.reduceMul, Nat.reduceSub, Nat.reduceBEq, Nat.le_refl, Nat.zero_add, Nat.add_zero, reduceCtorEq, or_true, true_or, or_false, false_or, if_true, if_false, ↓reduceIte, true_and, and_true, and_self, Bool.not_true, Bool.not_false, cond_true, cond_false, Bool.true_eq_false, Bool.false_eq_true, ne_eq, not_false_eq_true, not_true_eq_false, Bool.and_true, Bool.true_and, Bool.and_false, Bool.false_and, Bool.or_true, Bool.true_or, Bool.or_false, Bool.false_or, List.isEmpty_nil, List.map_cons, List.map_nil, List.length_cons, List.length_nil, List.length_map, List.getD_cons_zero, List.getD_cons_succ, List.getD_nil, List.getElem?_cons_zero, List.getElem?_cons_succ, List.getElem?_nil, List.take_succ_cons, List.take_zero, List.take_nil, List.drop_succ_cons, List.drop_zero, List.drop_nil, List.nil_append, List.cons_append, List.append_nil, Option.getD_some, Option.getD_none, Option.map_some, Option.map_none, Int.toNat_natCast, fz_byt, fz_frm, fz_hop, fz_int, fz_rows, fz_rt]
  simp -dsimp -implicitDefEqProofs only [push_cast, ↓trAdd_f, ↓stOf_f, Nat.reduceBEq, Int.reduceBEq, Int.reduceBNe, Int.reduceNeg, Int.reduceAdd, Int.reduceSub, Int.reduceLT, Int.reduceLE, Int.reduceMul, Nat.reducePow, Int.reducePow, Nat.reduceAdd, Nat.reduceEqDiff, Nat.reduceLT, Nat.reduceLeDiff, Nat.reduceMul, Nat.reduceSub, reduceCtorEq, ↓reduceIte]
  try refine hK _ ?_
  repeat (first | refine awp_seq ?_ | refine awp_block ?_ | refine awp_skip ?_ | refine awp_scope ?_ | refine awp_label ?_)
  refine awp_region tabOk fun K hK => ?_
  simp -dsimp -implicitDefEqProofs only [push_cast, ↓trAdd_f, ↓stOf_f, Nat.reduceBEq, Int.reduceBEq, Int.reduceBNe, Int.reduceNeg, Int.reduceAdd, Int.reduceSub, Int.reduceLT, Int.reduceLE, Int.reduceMul, Nat.reducePow, Int.reducePow, Nat.reduceAdd, Nat.reduceEqDiff, Nat.reduceLT, Nat.reduceLeDiff, Nat.reduceMul, Nat.reduceSub, reduceCtorEq, ↓reduceIte]
  have hcl := cut_len l 8
  refine callK_simple (cut_ok false l 8 (by decide)) ?_ rfl fun _ => ?_
  · simp -dsimp -implicitDefEqProofs only [take_map_len, restr, List.contains_nil, List.contains_cons, BEq.rfl, Nat.reduceBEq, implies_true, imp_self_i, false_imp_i, argsV, PV.fz, fzL, view, viewA, viewC, viewOk, viewOkA, viewOkC, seenV, ids, idsA, idsC, PV.scalar, PV.scalarA, PV.scalarC, wk, wkA, wkAL, wkC, wkL, wkB, blkLe, true_or, List.mem_cons, List.mem_singleton, List.not_mem_nil, forall_eq_or_imp, forall_eq, List.all_cons, List.all_nil, List.flatMap_cons, List.flatMap_nil, AS.get, getPV, lk, Int.cast_ofNat_Int, Int.natCast_one, Int.reduceBEq, Int.reduceBNe, Int.reduceNeg, int_toNat_zero_i, Nat.sub_zero, Int.natCast_zero, Int.reduceAdd, Int.reduceSub, Int.reduceLT, Int.reduceLE, Int.reduceMul, Int.zero_add, decide_true, decide_false, Nat.reducePow, Int.reducePow, Nat.reduceAdd, Nat.reduceEqDiff, Nat.reduceLT, Nat.reduceLeDiff, Nat.reduceMul, Nat.reduceSub, Nat.reduceBEq, Nat.le_refl, Nat.zero_add, Nat.add_zero, reduceCtorEq, or_true, true_or, or_false, false_or, if_true, if_false, ↓reduceIte, true_and, and_true, and_self, Bool.not_true, Bool.not_false, cond_true, cond_false, Bool.true_eq_false, Bool.false_eq_true, ne_eq, not_false_eq_true, not_true_eq_false, Bool.and_true, Bool.true_and, Bool.and_false, Bool.false_and, Bool.or_true, Bool.true_or, Bool.or_false, Bool.false_or, List.isEmpty_nil, List.map_cons, List.map_nil, List.length_cons, List.length_nil, List.length_map, List.getD_cons_zero, List.getD_cons_succ, List.getD_nil, List.getElem?_cons_zero, List.getElem?_cons_succ, List.getElem?_nil, List.take_succ_cons, List.take_zero, List.take_nil, List.drop_succ_cons, List.drop_zero, List.drop_nil, List.nil_append, List.cons_append, List.append_nil, Option.getD_some, Option.getD_none, Option.map_some, Option.map_none, Int.toNat_natCast, fz_byt, fz_frm, fz_hop, fz_int, fz_rows, fz_rt]
  have hci := cut_i64 l 8
  have hcn := cut_new l 8
  generalize hLc : cut l 8 = Lc at *
  simp -dsimp -implicitDefEqProofs only [push_cast, ↓trAdd_f, ↓stOf_f, Nat.reduceBEq, Int.reduceBEq, Int.reduceBNe, Int.reduceNeg, Int.reduceAdd, Int.reduceSub, Int.reduceLT, Int.reduceLE, Int.reduceMul, Nat.reducePow, Int.reducePow, Nat.reduceAdd, Nat.reduceEqDiff, Nat.reduceLT, Nat.reduceLeDiff, Nat.reduceMul, Nat.reduceSub, reduceCtorEq, ↓reduceIte]
  have hbr := band_range x.bus 3 (w := 2) (by decide) (by decide)
  obtain ⟨b, hb⟩ := Int.eq_ofNat_of_zero_le hbr.1
  have hb4 : b < 4 := by omega
  have hxo := frame_wf_ok4 hx
  try refine hK _ ?_
  repeat (first | refine awp_seq ?_ | refine awp_block ?_ | refine awp_skip ?_ | refine awp_scope ?_ | refine awp_label ?_)
  refine awp_draw tabOk (by kernel_rfl) (by kernel_rfl) fun K hK C hC => ?_
  simp -dsimp -implicitDefEqProofs only [hb, push_cast, ↓trAdd_f, ↓stOf_f, Nat.reduceBEq, Int.reduceBEq, Int.reduceBNe, Int.reduceNeg, Int.reduceAdd, Int.reduceSub, Int.reduceLT, Int.reduceLE, Int.reduceMul, Nat.reducePow, Int.reducePow, Nat.reduceAdd, Nat.reduceEqDiff, Nat.reduceLT, Nat.reduceLeDiff, Nat.reduceMul, Nat.reduceSub, reduceCtorEq, ↓reduceIte]
  refine callK_simple (made_ok x.f hxo.2) ?_ rfl fun _ => ?_
  · simp -dsimp -implicitDefEqProofs only [encFrame, take_map_len, restr, List.contains_nil, List.contains_cons, BEq.rfl, Nat.reduceBEq, implies_true, imp_self_i, false_imp_i, argsV, PV.fz, fzL, view, viewA, viewC, viewOk, viewOkA, viewOkC, seenV, ids, idsA, idsC, PV.scalar, PV.scalarA, PV.scalarC, wk, wkA, wkAL, wkC, wkL, wkB, blkLe, true_or, List.mem_cons, List.mem_singleton, List.not_mem_nil, forall_eq_or_imp, forall_eq, List.all_cons, List.all_nil, List.flatMap_cons, List.flatMap_nil, AS.get, getPV, lk, Int.cast_ofNat_Int, Int.natCast_one, Int.reduceBEq, Int.reduceBNe, Int.reduceNeg, int_toNat_zero_i, Nat.sub_zero, Int.natCast_zero, Int.reduceAdd, Int.reduceSub, Int.reduceLT, Int.reduceLE, Int.reduceMul, Int.zero_add, decide_true, decide_false, Nat.reducePow, Int.reducePow, Nat.reduceAdd, Nat.reduceEqDiff, Nat.reduceLT, Nat.reduceLeDiff, Nat.reduceMul, Nat.reduceSub, Nat.reduceBEq, Nat.le_refl, Nat.zero_add, Nat.add_zero, reduceCtorEq, or_true, true_or, or_false, false_or, if_true, if_false, ↓reduceIte, true_and, and_true, and_self, Bool.not_true, Bool.not_false, cond_true, cond_false, Bool.true_eq_false, Bool.false_eq_true, ne_eq, not_false_eq_true, not_true_eq_false, Bool.and_true, Bool.true_and, Bool.and_false, Bool.false_and, Bool.or_true, Bool.true_or, Bool.or_false, Bool.false_or, List.isEmpty_nil, List.map_cons, List.map_nil, List.length_cons, List.length_nil, List.length_map, List.getD_cons_zero, List.getD_cons_succ, List.getD_nil, List.getElem?_cons_zero, List.getElem?_cons_succ, List.getElem?_nil, List.take_succ_cons, List.take_zero, List.take_nil, List.drop_succ_cons, List.drop_zero, List.drop_nil, List.nil_append, List.cons_append, List.append_nil, Option.getD_some, Option.getD_none, Option.map_some, Option.map_none, Int.toNat_natCast, fz_byt, fz_frm, fz_hop, fz_int, fz_rows, fz_rt]
  have hmo := made_okB _ hxo.1
  generalize made x.f = F at *
  simp -dsimp -implicitDefEqProofs only [encFrame, hb, push_cast, ↓trAdd_f, ↓stOf_f, Nat.reduceBEq, Int.reduceBEq, Int.reduceBNe, Int.reduceNeg, Int.reduceAdd, Int.reduceSub, Int.reduceLT, Int.reduceLE, Int.reduceMul, Nat.reducePow, Int.reducePow, Nat.reduceAdd, Nat.reduceEqDiff, Nat.reduceLT, Nat.reduceLeDiff, Nat.reduceMul, Nat.reduceSub, reduceCtorEq, ↓reduceIte]
  refine ⟨hC _ (by kernel_rfl), ?_⟩
  clear hC C
  try refine hK _ ?_
  repeat (first | refine awp_seq ?_ | refine awp_block ?_ | refine awp_skip ?_ | refine awp_scope ?_ | refine awp_label ?_)
  refine awp_region tabOk fun K hK => ?_
  simp -dsimp -implicitDefEqProofs only [push_cast, ↓trAdd_f, ↓stOf_f, Nat.reduceBEq, Int.reduceBEq, Int.reduceBNe, Int.reduceNeg, Int.reduceAdd, Int.reduceSub, Int.reduceLT, Int.reduceLE, Int.reduceMul, Nat.reducePow, Int.reducePow, Nat.reduceAdd, Nat.reduceEqDiff, Nat.reduceLT, Nat.reduceLeDiff, Nat.reduceMul, Nat.reduceSub, reduceCtorEq, ↓reduceIte]
  refine callK_simple (new_ok false Lc 4 64 hci) ?_ rfl fun _ => ?_
  · simp -dsimp -implicitDefEqProofs only [take_map_len, restr, List.contains_nil, List.contains_cons, BEq.rfl, Nat.reduceBEq, implies_true, imp_self_i, false_imp_i, argsV, PV.fz, fzL, view, viewA, viewC, viewOk, viewOkA, viewOkC, seenV, ids, idsA, idsC, PV.scalar, PV.scalarA, PV.scalarC, wk, wkA, wkAL, wkC, wkL, wkB, blkLe, true_or, List.mem_cons, List.mem_singleton, List.not_mem_nil, forall_eq_or_imp, forall_eq, List.all_cons, List.all_nil, List.flatMap_cons, List.flatMap_nil, AS.get, getPV, lk, Int.cast_ofNat_Int, Int.natCast_one, Int.reduceBEq, Int.reduceBNe, Int.reduceNeg, int_toNat_zero_i, Nat.sub_zero, Int.natCast_zero, Int.reduceAdd, Int.reduceSub, Int.reduceLT, Int.reduceLE, Int.reduceMul, Int.zero_add, decide_true, decide_false, Nat.reducePow, Int.reducePow, Nat.reduceAdd, Nat.reduceEqDiff, Nat.reduceLT, Nat.reduceLeDiff, Nat.reduceMul, Nat.reduceSub, Nat.reduceBEq, Nat.le_refl, Nat.zero_add, Nat.add_zero, reduceCtorEq, or_true, true_or, or_false, false_or, if_true, if_false, ↓reduceIte, true_and, and_true, and_self, Bool.not_true, Bool.not_false, cond_true, cond_false, Bool.true_eq_false, Bool.false_eq_true, ne_eq, not_false_eq_true, not_true_eq_false, Bool.and_true, Bool.true_and, Bool.and_false, Bool.false_and, Bool.or_true, Bool.true_or, Bool.or_false, Bool.false_or, List.isEmpty_nil, List.map_cons, List.map_nil, List.length_cons, List.length_nil, List.length_map, List.getD_cons_zero, List.getD_cons_succ, List.getD_nil, List.getElem?_cons_zero, List.getElem?_cons_succ, List.getElem?_nil, List.take_succ_cons, List.take_zero, List.take_nil, List.drop_succ_cons, List.drop_zero, List.drop_nil, List.nil_append, List.cons_append, List.append_nil, Option.getD_some, Option.getD_none, Option.map_some, Option.map_none, Int.toNat_natCast, fz_byt, fz_frm, fz_hop, fz_int, fz_rows, fz_rt]
  have hgood : (newOf Lc 4 64).2 = 0 → (newOf Lc 4 64).1.good 4 0 ∧ (newOf Lc 4 64).1.okB ∧ (newOf Lc 4 64).1.routes = Lc := fun h => newOf_good (n := 4) h
  have hcap : (newOf Lc 4 64).2 = 0 → loopless Lc 4 = true ∧ (newOf Lc 4 64).1 = { routes := Lc, cap := 64, out := List.replicate 4 [], lost := List.replicate 4 0 } := fun h => ⟨(newOf_zero h).2.1, (newOf_zero h).2.2.2.2⟩
  have hloop : (newOf Lc 4 64).2 ≠ 0 → loopless Lc 4 = false := newOf_loop4 (by decide) (by decide)
  generalize newOf Lc 4 64 = N at *
  obtain ⟨G0, e0⟩ := N
  simp -dsimp -implicitDefEqProofs only [encGate, push_cast, ↓trAdd_f, ↓stOf_f, Nat.reduceBEq, Int.reduceBEq, Int.reduceBNe, Int.reduceNeg, Int.reduceAdd, Int.reduceSub, Int.reduceLT, Int.reduceLE, Int.reduceMul, Nat.reducePow, Int.reducePow, Nat.reduceAdd, Nat.reduceEqDiff, Nat.reduceLT, Nat.reduceLeDiff, Nat.reduceMul, Nat.reduceSub, reduceCtorEq, ↓reduceIte]
  try refine hK _ ?_
  repeat (first | refine awp_seq ?_ | refine awp_block ?_ | refine awp_skip ?_ | refine awp_scope ?_ | refine awp_label ?_)
  refine awp_region tabOk fun K hK => ?_
  simp -dsimp -implicitDefEqProofs only [push_cast, ↓trAdd_f, ↓stOf_f, Nat.reduceBEq, Int.reduceBEq, Int.reduceBNe, Int.reduceNeg, Int.reduceAdd, Int.reduceSub, Int.reduceLT, Int.reduceLE, Int.reduceMul, Nat.reducePow, Int.reducePow, Nat.reduceAdd, Nat.reduceEqDiff, Nat.reduceLT, Nat.reduceLeDiff, Nat.reduceMul, Nat.reduceSub, reduceCtorEq, ↓reduceIte]
  try refine hK _ ?_
  repeat (first | refine awp_seq ?_ | refine awp_block ?_ | refine awp_skip ?_ | refine awp_scope ?_ | refine awp_label ?_)
  refine awp_cond (b := e0 != 0) (by simp -dsimp -implicitDefEqProofs only [push_cast, ↓trAdd_f, ↓stOf_f, Nat.reduceBEq, Int.reduceBEq, Int.reduceBNe, Int.reduceNeg, Int.reduceAdd, Int.reduceSub, Int.reduceLT, Int.reduceLE, Int.reduceMul, Nat.reducePow, Int.reducePow, Nat.reduceAdd, Nat.reduceEqDiff, Nat.reduceLT, Nat.reduceLeDiff, Nat.reduceMul, Nat.reduceSub, reduceCtorEq, ↓reduceIte]) (fun h => ?_) (fun h => ?_)
  · have hlf := hloop (by simpa using h)
    try refine hK _ ?_
    repeat (first | refine awp_seq ?_ | refine awp_block ?_ | refine awp_skip ?_ | refine awp_scope ?_ | refine awp_label ?_)
    refine awp_region tabOk fun K hK => ?_
    simp -dsimp -implicitDefEqProofs only [push_cast, ↓trAdd_f, ↓stOf_f, Nat.reduceBEq, Int.reduceBEq, Int.reduceBNe, Int.reduceNeg, Int.reduceAdd, Int.reduceSub, Int.reduceLT, Int.reduceLE, Int.reduceMul, Nat.reducePow, Int.reducePow, Nat.reduceAdd, Nat.reduceEqDiff, Nat.reduceLT, Nat.reduceLeDiff, Nat.reduceMul, Nat.reduceSub, reduceCtorEq, ↓reduceIte]
    refine callK_simple (loopless_ok false Lc 4 (by omega)) ?_ rfl fun _ => ?_
    · simp -dsimp -implicitDefEqProofs only [take_map_len, restr, List.contains_nil, List.contains_cons, BEq.rfl, Nat.reduceBEq, implies_true, imp_self_i, false_imp_i, argsV, PV.fz, fzL, view, viewA, viewC, viewOk, viewOkA, viewOkC, seenV, ids, idsA, idsC, PV.scalar, PV.scalarA, PV.scalarC, wk, wkA, wkAL, wkC, wkL, wkB, blkLe, true_or, List.mem_cons, List.mem_singleton, List.not_mem_nil, forall_eq_or_imp, forall_eq, List.all_cons, List.all_nil, List.flatMap_cons, List.flatMap_nil, AS.get, getPV, lk, Int.cast_ofNat_Int, Int.natCast_one, Int.reduceBEq, Int.reduceBNe, Int.reduceNeg, int_toNat_zero_i, Nat.sub_zero, Int.natCast_zero, Int.reduceAdd, Int.reduceSub, Int.reduceLT, Int.reduceLE, Int.reduceMul, Int.zero_add, decide_true, decide_false, Nat.reducePow, Int.reducePow, Nat.reduceAdd, Nat.reduceEqDiff, Nat.reduceLT, Nat.reduceLeDiff, Nat.reduceMul, Nat.reduceSub, Nat.reduceBEq, Nat.le_refl, Nat.zero_add, Nat.add_zero, reduceCtorEq, or_true, true_or, or_false, false_or, if_true, if_false, ↓reduceIte, true_and, and_true, and_self, Bool.not_true, Bool.not_false, cond_true, cond_false, Bool.true_eq_false, Bool.false_eq_true, ne_eq, not_false_eq_true, not_true_eq_false, Bool.and_true, Bool.true_and, Bool.and_false, Bool.false_and, Bool.or_true, Bool.true_or, Bool.or_false, Bool.false_or, List.isEmpty_nil, List.map_cons, List.map_nil, List.length_cons, List.length_nil, List.length_map, List.getD_cons_zero, List.getD_cons_succ, List.getD_nil, List.getElem?_cons_zero, List.getElem?_cons_succ, List.getElem?_nil, List.take_succ_cons, List.take_zero, List.take_nil, List.drop_succ_cons, List.drop_zero, List.drop_nil, List.nil_append, List.cons_append, List.append_nil, Option.getD_some, Option.getD_none, Option.map_some, Option.map_none, Int.toNat_natCast, fz_byt, fz_frm, fz_hop, fz_int, fz_rows, fz_rt]
    rw [hlf]
    simp -dsimp -implicitDefEqProofs only [push_cast, ↓trAdd_f, ↓stOf_f, Nat.reduceBEq, Int.reduceBEq, Int.reduceBNe, Int.reduceNeg, Int.reduceAdd, Int.reduceSub, Int.reduceLT, Int.reduceLE, Int.reduceMul, Nat.reducePow, Int.reducePow, Nat.reduceAdd, Nat.reduceEqDiff, Nat.reduceLT, Nat.reduceLeDiff, Nat.reduceMul, Nat.reduceSub, reduceCtorEq, ↓reduceIte]
    refine hK _ (awp_ret ?_)
    simp -dsimp -implicitDefEqProofs only [List.flatMap_cons, List.flatMap_nil, List.mem_append, Blk.ok, PV.ok, okL, List.length_append, take_map_len, implies_true, imp_self_i, false_imp_i, endOk, resVals, joinRes, view, viewA, viewC, viewOk, viewOkA, viewOkC, storeEnd, wk, wkA, wkAL, wkC, wkL, wkB, blkLe, true_or, PV.int.injEq, PV.bool.injEq, idsA, PV.fz, fzL, ids, idsC, fLoad, outP, TI.n, TI.isAgg, List.not_mem_nil, List.mem_cons, List.mem_singleton, forall_eq_or_imp, forall_eq, AS.get, getPV, lk, Int.cast_ofNat_Int, Int.natCast_one, Int.reduceBEq, Int.reduceBNe, Int.reduceNeg, int_toNat_zero_i, Nat.sub_zero, Int.natCast_zero, Int.reduceAdd, Int.reduceSub, Int.reduceLT, Int.reduceLE, Int.reduceMul, Int.zero_add, decide_true, decide_false, Nat.reducePow, Int.reducePow, Nat.reduceAdd, Nat.reduceEqDiff, Nat.reduceLT, Nat.reduceLeDiff, Nat.reduceMul, Nat.reduceSub, Nat.reduceBEq, Nat.le_refl, Nat.zero_add, Nat.add_zero, reduceCtorEq, or_true, true_or, or_false, false_or, if_true, if_false, ↓reduceIte, true_and, and_true, and_self, Bool.not_true, Bool.not_false, cond_true, cond_false, Bool.true_eq_false, Bool.false_eq_true, ne_eq, not_false_eq_true, not_true_eq_false, Bool.and_true, Bool.true_and, Bool.and_false, Bool.false_and, Bool.or_true, Bool.true_or, Bool.or_false, Bool.false_or, List.isEmpty_nil, List.map_cons, List.map_nil, List.length_cons, List.length_nil, List.length_map, List.getD_cons_zero, List.getD_cons_succ, List.getD_nil, List.getElem?_cons_zero, List.getElem?_cons_succ, List.getElem?_nil, List.take_succ_cons, List.take_zero, List.take_nil, List.drop_succ_cons, List.drop_zero, List.drop_nil, List.nil_append, List.cons_append, List.append_nil, Option.getD_some, Option.getD_none, Option.map_some, Option.map_none, Int.toNat_natCast, T_1, T_2, T_3, T_4, T_5, T_6, T_7, T_8, T_9, T_10, T_11, T_12, T_13, T_14, T_15, T_16, T_17, T_18, T_19, T_21, T_22, T_23, T_24, T_25, T_26, T_27, T_28, T_29, T_30, T_31, T_33, T_34, T_35, T_36, T_37, T_38, T_39, T_40, T_41, T_42, T_43, T_45, T_46, T_47, T_48, T_49, T_50, T_51, T_52, T_53, T_54, T_55, T_56, T_57, T_58, T_59, T_60, T_61, T_62, T_63, T_64, T_65, T_66, T_67, T_68, T_69, T_70, T_71, T_72, T_73, T_74, T_75, T_76, T_77, T_78, T_79, T_80, T_81, T_82, T_83, T_84, T_85, T_86, T_87, T_88, T_89, T_90, T_91, T_92, T_93, T_94, T_95, T_96, T_97, T_98, fz_byt, fz_frm, fz_hop, fz_int, fz_rows, fz_rt]
  have he0 : e0 = 0 := by simpa using h
  subst he0
  obtain ⟨hg1, hg2, hg3⟩ := hgood rfl
  obtain ⟨hll, hG0⟩ := hcap rfl
  clear h hgood hloop hcap
  simp only at hG0 hg1 hg2 hg3
  obtain ⟨kt, hkt⟩ := loopless_hts hll
  have hl4 : ∀ r ∈ Lc, 0 ≤ r.to ∧ r.to < 4 := by intro r hr; have := hg1.rt r (by rw [hg3]; exact hr); omega
  have hw0 : waitL G0 = [] := by rw [hG0]; rfl
  have hgoes := goes_first hw0 hg1.outs (by rw [hG0]) hg3 hl4 hcl (b : Int) F
  have hmost := reach_most hkt hcl ⟨(b : Int), F⟩
  have hB1 := inG_good hg1 b F
  have hB2 := inG_okB hg2 b F hmo
  have hB3 : (inG G0 b F).routes = Lc := by rw [inG_routes]; exact hg3
  have hB4 : (inG G0 b F).cap = 64 := by rw [inG_cap, hG0]
  have hwok : ∀ h ∈ lev Lc 5 (hp Lc ⟨(b : Int), F⟩), h.frame.okB := lev_okB Lc 5 _ (hops_okB Lc b F hmo)
  try refine hK _ ?_
  repeat (first | refine awp_seq ?_ | refine awp_block ?_ | refine awp_skip ?_ | refine awp_scope ?_ | refine awp_label ?_)
  refine awp_region tabOk fun K hK => ?_
  simp -dsimp -implicitDefEqProofs only [push_cast, ↓trAdd_f, ↓stOf_f, Nat.reduceBEq, Int.reduceBEq, Int.reduceBNe, Int.reduceNeg, Int.reduceAdd, Int.reduceSub, Int.reduceLT, Int.reduceLE, Int.reduceMul, Nat.reducePow, Int.reducePow, Nat.reduceAdd, Nat.reduceEqDiff, Nat.reduceLT, Nat.reduceLeDiff, Nat.reduceMul, Nat.reduceSub, reduceCtorEq, ↓reduceIte]
  refine callK_simple (reach_ok Lc b F hll hcl hcn) ?_ rfl fun _ => ?_
  · simp -dsimp -implicitDefEqProofs only [encFrame, take_map_len, restr, List.contains_nil, List.contains_cons, BEq.rfl, Nat.reduceBEq, implies_true, imp_self_i, false_imp_i, argsV, PV.fz, fzL, view, viewA, viewC, viewOk, viewOkA, viewOkC, seenV, ids, idsA, idsC, PV.scalar, PV.scalarA, PV.scalarC, wk, wkA, wkAL, wkC, wkL, wkB, blkLe, true_or, List.mem_cons, List.mem_singleton, List.not_mem_nil, forall_eq_or_imp, forall_eq, List.all_cons, List.all_nil, List.flatMap_cons, List.flatMap_nil, AS.get, getPV, lk, Int.cast_ofNat_Int, Int.natCast_one, Int.reduceBEq, Int.reduceBNe, Int.reduceNeg, int_toNat_zero_i, Nat.sub_zero, Int.natCast_zero, Int.reduceAdd, Int.reduceSub, Int.reduceLT, Int.reduceLE, Int.reduceMul, Int.zero_add, decide_true, decide_false, Nat.reducePow, Int.reducePow, Nat.reduceAdd, Nat.reduceEqDiff, Nat.reduceLT, Nat.reduceLeDiff, Nat.reduceMul, Nat.reduceSub, Nat.reduceBEq, Nat.le_refl, Nat.zero_add, Nat.add_zero, reduceCtorEq, or_true, true_or, or_false, false_or, if_true, if_false, ↓reduceIte, true_and, and_true, and_self, Bool.not_true, Bool.not_false, cond_true, cond_false, Bool.true_eq_false, Bool.false_eq_true, ne_eq, not_false_eq_true, not_true_eq_false, Bool.and_true, Bool.true_and, Bool.and_false, Bool.false_and, Bool.or_true, Bool.true_or, Bool.or_false, Bool.false_or, List.isEmpty_nil, List.map_cons, List.map_nil, List.length_cons, List.length_nil, List.length_map, List.getD_cons_zero, List.getD_cons_succ, List.getD_nil, List.getElem?_cons_zero, List.getElem?_cons_succ, List.getElem?_nil, List.take_succ_cons, List.take_zero, List.take_nil, List.drop_succ_cons, List.drop_zero, List.drop_nil, List.nil_append, List.cons_append, List.append_nil, Option.getD_some, Option.getD_none, Option.map_some, Option.map_none, Int.toNat_natCast, fz_byt, fz_frm, fz_hop, fz_int, fz_rows, fz_rt]
  generalize lev Lc 5 (hp Lc ⟨(b : Int), F⟩) = want at *
  simp -dsimp -implicitDefEqProofs only [push_cast, ↓trAdd_f, ↓stOf_f, Nat.reduceBEq, Int.reduceBEq, Int.reduceBNe, Int.reduceNeg, Int.reduceAdd, Int.reduceSub, Int.reduceLT, Int.reduceLE, Int.reduceMul, Nat.reducePow, Int.reducePow, Nat.reduceAdd, Nat.reduceEqDiff, Nat.reduceLT, Nat.reduceLeDiff, Nat.reduceMul, Nat.reduceSub, reduceCtorEq, ↓reduceIte]
  try refine hK _ ?_
  repeat (first | refine awp_seq ?_ | refine awp_block ?_ | refine awp_skip ?_ | refine awp_scope ?_ | refine awp_label ?_)
  refine awp_region tabOk fun K hK => ?_
  simp -dsimp -implicitDefEqProofs only [push_cast, ↓trAdd_f, ↓stOf_f, Nat.reduceBEq, Int.reduceBEq, Int.reduceBNe, Int.reduceNeg, Int.reduceAdd, Int.reduceSub, Int.reduceLT, Int.reduceLE, Int.reduceMul, Nat.reducePow, Int.reducePow, Nat.reduceAdd, Nat.reduceEqDiff, Nat.reduceLT, Nat.reduceLeDiff, Nat.reduceMul, Nat.reduceSub, reduceCtorEq, ↓reduceIte]
  refine callK_simple (in_ok2 G0 b F 4 _ hg1 (by omega)) ?_ rfl fun _ => ?_
  · simp -dsimp -implicitDefEqProofs only [encGate, encFrame, take_map_len, restr, List.contains_nil, List.contains_cons, BEq.rfl, Nat.reduceBEq, implies_true, imp_self_i, false_imp_i, argsV, PV.fz, fzL, view, viewA, viewC, viewOk, viewOkA, viewOkC, seenV, ids, idsA, idsC, PV.scalar, PV.scalarA, PV.scalarC, wk, wkA, wkAL, wkC, wkL, wkB, blkLe, true_or, List.mem_cons, List.mem_singleton, List.not_mem_nil, forall_eq_or_imp, forall_eq, List.all_cons, List.all_nil, List.flatMap_cons, List.flatMap_nil, AS.get, getPV, lk, Int.cast_ofNat_Int, Int.natCast_one, Int.reduceBEq, Int.reduceBNe, Int.reduceNeg, int_toNat_zero_i, Nat.sub_zero, Int.natCast_zero, Int.reduceAdd, Int.reduceSub, Int.reduceLT, Int.reduceLE, Int.reduceMul, Int.zero_add, decide_true, decide_false, Nat.reducePow, Int.reducePow, Nat.reduceAdd, Nat.reduceEqDiff, Nat.reduceLT, Nat.reduceLeDiff, Nat.reduceMul, Nat.reduceSub, Nat.reduceBEq, Nat.le_refl, Nat.zero_add, Nat.add_zero, reduceCtorEq, or_true, true_or, or_false, false_or, if_true, if_false, ↓reduceIte, true_and, and_true, and_self, Bool.not_true, Bool.not_false, cond_true, cond_false, Bool.true_eq_false, Bool.false_eq_true, ne_eq, not_false_eq_true, not_true_eq_false, Bool.and_true, Bool.true_and, Bool.and_false, Bool.false_and, Bool.or_true, Bool.true_or, Bool.or_false, Bool.false_or, List.isEmpty_nil, List.map_cons, List.map_nil, List.length_cons, List.length_nil, List.length_map, List.getD_cons_zero, List.getD_cons_succ, List.getD_nil, List.getElem?_cons_zero, List.getElem?_cons_succ, List.getElem?_nil, List.take_succ_cons, List.take_zero, List.take_nil, List.drop_succ_cons, List.drop_zero, List.drop_nil, List.nil_append, List.cons_append, List.append_nil, Option.getD_some, Option.getD_none, Option.map_some, Option.map_none, Int.toNat_natCast, fz_byt, fz_frm, fz_hop, fz_int, fz_rows, fz_rt]
  simp -dsimp -implicitDefEqProofs only [encGate, push_cast, ↓trAdd_f, ↓stOf_f, Nat.reduceBEq, Int.reduceBEq, Int.reduceBNe, Int.reduceNeg, Int.reduceAdd, Int.reduceSub, Int.reduceLT, Int.reduceLE, Int.reduceMul, Nat.reducePow, Int.reducePow, Nat.reduceAdd, Nat.reduceEqDiff, Nat.reduceLT, Nat.reduceLeDiff, Nat.reduceMul, Nat.reduceSub, reduceCtorEq, ↓reduceIte]
  generalize inG G0 b F = G1 at *
  try refine hK _ ?_
  repeat (first | refine awp_seq ?_ | refine awp_block ?_ | refine awp_skip ?_ | refine awp_scope ?_ | refine awp_label ?_)
  refine awp_region tabOk fun K hK => ?_
  simp -dsimp -implicitDefEqProofs only [push_cast, ↓trAdd_f, ↓stOf_f, Nat.reduceBEq, Int.reduceBEq, Int.reduceBNe, Int.reduceNeg, Int.reduceAdd, Int.reduceSub, Int.reduceLT, Int.reduceLE, Int.reduceMul, Nat.reducePow, Int.reducePow, Nat.reduceAdd, Nat.reduceEqDiff, Nat.reduceLT, Nat.reduceLeDiff, Nat.reduceMul, Nat.reduceSub, reduceCtorEq, ↓reduceIte]
  refine ⟨by omega, ?_⟩
  try refine hK _ ?_
  repeat (first | refine awp_seq ?_ | refine awp_block ?_ | refine awp_skip ?_ | refine awp_scope ?_ | refine awp_label ?_)
  refine awp_region tabOk fun K hK => ?_
  simp -dsimp -implicitDefEqProofs only [push_cast, ↓trAdd_f, ↓stOf_f, Nat.reduceBEq, Int.reduceBEq, Int.reduceBNe, Int.reduceNeg, Int.reduceAdd, Int.reduceSub, Int.reduceLT, Int.reduceLE, Int.reduceMul, Nat.reducePow, Int.reducePow, Nat.reduceAdd, Nat.reduceEqDiff, Nat.reduceLT, Nat.reduceLeDiff, Nat.reduceMul, Nat.reduceSub, reduceCtorEq, ↓reduceIte]
  refine hK _ (awp_block ?_)
  refine awp_for (fun x : Nat × Gate × List Bool => reS want x.1 x.2.1 x.2.2)
    (fun x => x.1 ≤ want.length ∧ x.2.1.good 4 ((x.1 + 1) * 16 : Nat) ∧ x.2.1.okB ∧ x.2.1.routes = Lc ∧ x.2.1.cap = 64 ∧ x.2.2.length = want.length ∧ (unseen want x.2.2).length + x.1 = want.length ∧ Goes Lc want x.2.2 x.2.1) (fun x => want.length - x.1)
    (0, G1, List.replicate want.length false) ⟨Nat.zero_le _, by simpa using hB1, hB2, hB3, hB4, by simp, by rw [unseen_all]; rfl, hgoes⟩ ?_ fun x hx => ?_
  · simp only [reS, encGate, rep_bo]
    refine le_intro hB [] (by simp) (fun b _ => rfl) rfl ?_ ?_ rfl <;> simp -dsimp -implicitDefEqProofs only [ren_bo, ok_bo, List.forall_mem_cons, List.forall_mem_append, forall_nil_i, List.not_mem_nil, Int.natCast_zero, Int.natCast_add, Int.natCast_one, implies_true, imp_self_i, false_imp_i, slotsLe, storeLe, PV.ren, renL, renG, PV.ok, okL, Blk.ren, Blk.ok, distinct, wk, wkA, wkAL, wkC, wkL, wkB, blkLe, List.cons.injEq, true_or, PV.int.injEq, PV.bool.injEq, AS.get, getPV, lk, Int.cast_ofNat_Int, Int.natCast_one, Int.reduceBEq, Int.reduceBNe, Int.reduceNeg, int_toNat_zero_i, Nat.sub_zero, Int.natCast_zero, Int.reduceAdd, Int.reduceSub, Int.reduceLT, Int.reduceLE, Int.reduceMul, Int.zero_add, decide_true, decide_false, Nat.reducePow, Int.reducePow, Nat.reduceAdd, Nat.reduceEqDiff, Nat.reduceLT, Nat.reduceLeDiff, Nat.reduceMul, Nat.reduceSub, Nat.reduceBEq, Nat.le_refl, Nat.zero_add, Nat.add_zero, reduceCtorEq, or_true, true_or, or_false, false_or, if_true, if_false, ↓reduceIte, true_and, and_true, and_self, Bool.not_true, Bool.not_false, cond_true, cond_false, Bool.true_eq_false, Bool.false_eq_true, ne_eq, not_false_eq_true, not_true_eq_false, Bool.and_true, Bool.true_and, Bool.and_false, Bool.false_and, Bool.or_true, Bool.true_or, Bool.or_false, Bool.false_or, List.isEmpty_nil, List.map_cons, List.map_nil, List.length_cons, List.length_nil, List.length_map, List.getD_cons_zero, List.getD_cons_succ, List.getD_nil, List.getElem?_cons_zero, List.getElem?_cons_succ, List.getElem?_nil, List.take_succ_cons, List.take_zero, List.take_nil, List.drop_succ_cons, List.drop_zero, List.drop_nil, List.nil_append, List.cons_append, List.append_nil, Option.getD_some, Option.getD_none, Option.map_some, Option.map_none, Int.toNat_natCast, ok_frm, ok_hop, ok_int, ok_rows, ok_rt, ren_frm, ren_hop, ren_int, ren_rows, ren_rt]
  obtain ⟨k, G, seen⟩ := x
  obtain ⟨hk, hA1, hA2, hA3, hA4, hA5, hA6, hA7⟩ := hx
  simp only at hk hA1 hA2 hA3 hA4 hA5 hA6 hA7
  clear hgoes hB1 hB2 hB3 hB4
  have hsm := hA1.small
  have hGo := hA1.outs
  simp only [reS, encGate]
  try refine hK _ ?_
  repeat (first | refine awp_seq ?_ | refine awp_block ?_ | refine awp_skip ?_ | refine awp_scope ?_ | refine awp_label ?_)
  refine awp_region tabOk fun K hK => ?_
  simp -dsimp -implicitDefEqProofs only [push_cast, ↓trAdd_f, ↓stOf_f, Nat.reduceBEq, Int.reduceBEq, Int.reduceBNe, Int.reduceNeg, Int.reduceAdd, Int.reduceSub, Int.reduceLT, Int.reduceLE, Int.reduceMul, Nat.reducePow, Int.reducePow, Nat.reduceAdd, Nat.reduceEqDiff, Nat.reduceLT, Nat.reduceLeDiff, Nat.reduceMul, Nat.reduceSub, reduceCtorEq, ↓reduceIte]
  try refine hK _ ?_
  repeat (first | refine awp_seq ?_ | refine awp_block ?_ | refine awp_skip ?_ | refine awp_scope ?_ | refine awp_label ?_)
  refine awp_cond (b := decide ((k : Int) < want.length)) (by simp -dsimp -implicitDefEqProofs only [push_cast, ↓trAdd_f, ↓stOf_f, Nat.reduceBEq, Int.reduceBEq, Int.reduceBNe, Int.reduceNeg, Int.reduceAdd, Int.reduceSub, Int.reduceLT, Int.reduceLE, Int.reduceMul, Nat.reducePow, Int.reducePow, Nat.reduceAdd, Nat.reduceEqDiff, Nat.reduceLT, Nat.reduceLeDiff, Nat.reduceMul, Nat.reduceSub, reduceCtorEq, ↓reduceIte]) (fun h => ?_) (fun h => ?_)
  · have hkw : k < want.length := by simpa using h
    clear h
    try refine hK _ ?_
    repeat (first | refine awp_seq ?_ | refine awp_block ?_ | refine awp_skip ?_ | refine awp_scope ?_ | refine awp_label ?_)
    refine awp_region tabOk fun K hK => ?_
    simp -dsimp -implicitDefEqProofs only [push_cast, ↓trAdd_f, ↓stOf_f, Nat.reduceBEq, Int.reduceBEq, Int.reduceBNe, Int.reduceNeg, Int.reduceAdd, Int.reduceSub, Int.reduceLT, Int.reduceLE, Int.reduceMul, Nat.reducePow, Int.reducePow, Nat.reduceAdd, Nat.reduceEqDiff, Nat.reduceLT, Nat.reduceLeDiff, Nat.reduceMul, Nat.reduceSub, reduceCtorEq, ↓reduceIte]
    try refine hK _ ?_
    repeat (first | refine awp_seq ?_ | refine awp_block ?_ | refine awp_skip ?_ | refine awp_scope ?_ | refine awp_label ?_)
    refine awp_region tabOk fun K hK => ?_
    simp -dsimp -implicitDefEqProofs only [push_cast, ↓trAdd_f, ↓stOf_f, Nat.reduceBEq, Int.reduceBEq, Int.reduceBNe, Int.reduceNeg, Int.reduceAdd, Int.reduceSub, Int.reduceLT, Int.reduceLE, Int.reduceMul, Nat.reducePow, Int.reducePow, Nat.reduceAdd, Nat.reduceEqDiff, Nat.reduceLT, Nat.reduceLeDiff, Nat.reduceMul, Nat.reduceSub, reduceCtorEq, ↓reduceIte]
    refine hK _ (awp_block ?_)
    refine awp_for (fun x : Nat × Bool => reI want k G seen x.1 x.2) (fun x => x.1 ≤ 4 ∧ if x.2 = true then 1 ≤ x.1 ∧ has G ((x.1 : Int) - 1) = true else ∀ j : Nat, j < x.1 → has G j = false) (fun x => 4 - x.1) (0, false) ⟨by decide, by simp⟩ ?_ fun x hx => ?_
    · simp only [reI, encGate, encFrame, zeroF, if_false, Bool.false_eq_true]
      refine le_intro hB [(360, 360)] (by simp) (fun b hb => absurd hb (Nat.not_lt_zero b)) rfl ?_ ?_ rfl <;> simp -dsimp -implicitDefEqProofs only [ren_bo, ok_bo, List.forall_mem_cons, List.forall_mem_append, forall_nil_i, List.not_mem_nil, Int.natCast_zero, Int.natCast_add, Int.natCast_one, implies_true, imp_self_i, false_imp_i, slotsLe, storeLe, PV.ren, renL, renG, PV.ok, okL, Blk.ren, Blk.ok, distinct, wk, wkA, wkAL, wkC, wkL, wkB, blkLe, List.cons.injEq, true_or, PV.int.injEq, PV.bool.injEq, AS.get, getPV, lk, Int.cast_ofNat_Int, Int.natCast_one, Int.reduceBEq, Int.reduceBNe, Int.reduceNeg, int_toNat_zero_i, Nat.sub_zero, Int.natCast_zero, Int.reduceAdd, Int.reduceSub, Int.reduceLT, Int.reduceLE, Int.reduceMul, Int.zero_add, decide_true, decide_false, Nat.reducePow, Int.reducePow, Nat.reduceAdd, Nat.reduceEqDiff, Nat.reduceLT, Nat.reduceLeDiff, Nat.reduceMul, Nat.reduceSub, Nat.reduceBEq, Nat.le_refl, Nat.zero_add, Nat.add_zero, reduceCtorEq, or_true, true_or, or_false, false_or, if_true, if_false, ↓reduceIte, true_and, and_true, and_self, Bool.not_true, Bool.not_false, cond_true, cond_false, Bool.true_eq_false, Bool.false_eq_true, ne_eq, not_false_eq_true, not_true_eq_false, Bool.and_true, Bool.true_and, Bool.and_false, Bool.false_and, Bool.or_true, Bool.true_or, Bool.or_false, Bool.false_or, List.isEmpty_nil, List.map_cons, List.map_nil, List.length_cons, List.length_nil, List.length_map, List.getD_cons_zero, List.getD_cons_succ, List.getD_nil, List.getElem?_cons_zero, List.getElem?_cons_succ, List.getElem?_nil, List.take_succ_cons, List.take_zero, List.take_nil, List.drop_succ_cons, List.drop_zero, List.drop_nil, List.nil_append, List.cons_append, List.append_nil, Option.getD_some, Option.getD_none, Option.map_some, Option.map_none, Int.toNat_natCast, ok_frm, ok_hop, ok_int, ok_rows, ok_rt, ren_frm, ren_hop, ren_int, ren_rows, ren_rt]
    obtain ⟨i, fd⟩ := x
    obtain ⟨hi4, hfd⟩ := hx
    simp only at hi4 hfd
    try refine hK _ ?_
    repeat (first | refine awp_seq ?_ | refine awp_block ?_ | refine awp_skip ?_ | refine awp_scope ?_ | refine awp_label ?_)
    refine awp_join ({ sl := (66, .bool (decide ((i : Int) < 4) && !fd)) :: (reI want k G seen i fd).sl, st := (reI want k G seen i fd).st, nx := 368, n := 138 }) ?_ (fun _ hl h => awp_le hl h) ?_
    · cases fd with
      | true =>
        have hneg : decide ((i : Int) - 1 < 0) = false := by simp at hfd; simp; omega
        simp only [reI, encGate, encFrame, if_true]
        try refine hK _ ?_
        repeat (first | refine awp_seq ?_ | refine awp_block ?_ | refine awp_skip ?_ | refine awp_scope ?_ | refine awp_label ?_)
        refine awp_region tabOk fun K hK => ?_
        simp -dsimp -implicitDefEqProofs only [push_cast, ↓trAdd_f, ↓stOf_f, Nat.reduceBEq, Int.reduceBEq, Int.reduceBNe, Int.reduceNeg, Int.reduceAdd, Int.reduceSub, Int.reduceLT, Int.reduceLE, Int.reduceMul, Nat.reducePow, Int.reducePow, Nat.reduceAdd, Nat.reduceEqDiff, Nat.reduceLT, Nat.reduceLeDiff, Nat.reduceMul, Nat.reduceSub, reduceCtorEq, ↓reduceIte]
        refine guardK_t (fun h => ?_) (fun h => ?_) <;> simp -dsimp -implicitDefEqProofs only [h, hneg, push_cast, ↓trAdd_f, ↓stOf_f, Nat.reduceBEq, Int.reduceBEq, Int.reduceBNe, Int.reduceNeg, Int.reduceAdd, Int.reduceSub, Int.reduceLT, Int.reduceLE, Int.reduceMul, Nat.reducePow, Int.reducePow, Nat.reduceAdd, Nat.reduceEqDiff, Nat.reduceLT, Nat.reduceLeDiff, Nat.reduceMul, Nat.reduceSub, reduceCtorEq, ↓reduceIte]
        all_goals
          refine hK _ ?_
          simp only [if_true, encGate, encFrame, reI]
          refine le_intro hB [] (by simp) (fun b _ => rfl) rfl ?_ ?_ rfl <;> simp -dsimp -implicitDefEqProofs only [ren_bo, ok_bo, h, Bool.true_and, Bool.false_and, Bool.not_true, List.forall_mem_cons, List.forall_mem_append, forall_nil_i, List.not_mem_nil, Int.natCast_zero, Int.natCast_add, Int.natCast_one, implies_true, imp_self_i, false_imp_i, slotsLe, storeLe, PV.ren, renL, renG, PV.ok, okL, Blk.ren, Blk.ok, distinct, wk, wkA, wkAL, wkC, wkL, wkB, blkLe, List.cons.injEq, true_or, PV.int.injEq, PV.bool.injEq, AS.get, getPV, lk, Int.cast_ofNat_Int, Int.natCast_one, Int.reduceBEq, Int.reduceBNe, Int.reduceNeg, int_toNat_zero_i, Nat.sub_zero, Int.natCast_zero, Int.reduceAdd, Int.reduceSub, Int.reduceLT, Int.reduceLE, Int.reduceMul, Int.zero_add, decide_true, decide_false, Nat.reducePow, Int.reducePow, Nat.reduceAdd, Nat.reduceEqDiff, Nat.reduceLT, Nat.reduceLeDiff, Nat.reduceMul, Nat.reduceSub, Nat.reduceBEq, Nat.le_refl, Nat.zero_add, Nat.add_zero, reduceCtorEq, or_true, true_or, or_false, false_or, if_true, if_false, ↓reduceIte, true_and, and_true, and_self, Bool.not_true, Bool.not_false, cond_true, cond_false, Bool.true_eq_false, Bool.false_eq_true, ne_eq, not_false_eq_true, not_true_eq_false, Bool.and_true, Bool.true_and, Bool.and_false, Bool.false_and, Bool.or_true, Bool.true_or, Bool.or_false, Bool.false_or, List.isEmpty_nil, List.map_cons, List.map_nil, List.length_cons, List.length_nil, List.length_map, List.getD_cons_zero, List.getD_cons_succ, List.getD_nil, List.getElem?_cons_zero, List.getElem?_cons_succ, List.getElem?_nil, List.take_succ_cons, List.take_zero, List.take_nil, List.drop_succ_cons, List.drop_zero, List.drop_nil, List.nil_append, List.cons_append, List.append_nil, Option.getD_some, Option.getD_none, Option.map_some, Option.map_none, Int.toNat_natCast, ok_frm, ok_hop, ok_int, ok_rows, ok_rt, ren_frm, ren_hop, ren_int, ren_rows, ren_rt]
      | false =>
        simp only [reI, encGate, encFrame, if_false, Bool.false_eq_true]
        try refine hK _ ?_
        repeat (first | refine awp_seq ?_ | refine awp_block ?_ | refine awp_skip ?_ | refine awp_scope ?_ | refine awp_label ?_)
        refine awp_region tabOk fun K hK => ?_
        simp -dsimp -implicitDefEqProofs only [push_cast, ↓trAdd_f, ↓stOf_f, Nat.reduceBEq, Int.reduceBEq, Int.reduceBNe, Int.reduceNeg, Int.reduceAdd, Int.reduceSub, Int.reduceLT, Int.reduceLE, Int.reduceMul, Nat.reducePow, Int.reducePow, Nat.reduceAdd, Nat.reduceEqDiff, Nat.reduceLT, Nat.reduceLeDiff, Nat.reduceMul, Nat.reduceSub, reduceCtorEq, ↓reduceIte]
        refine guardK_t (fun h => ?_) (fun h => ?_) <;> simp -dsimp -implicitDefEqProofs only [h, push_cast, ↓trAdd_f, ↓stOf_f, Nat.reduceBEq, Int.reduceBEq, Int.reduceBNe, Int.reduceNeg, Int.reduceAdd, Int.reduceSub, Int.reduceLT, Int.reduceLE, Int.reduceMul, Nat.reducePow, Int.reducePow, Nat.reduceAdd, Nat.reduceEqDiff, Nat.reduceLT, Nat.reduceLeDiff, Nat.reduceMul, Nat.reduceSub, reduceCtorEq, ↓reduceIte]
        all_goals
          refine hK _ ?_
          simp only [if_false, Bool.false_eq_true, encGate, encFrame, reI]
          refine le_intro hB [] (by simp) (fun b _ => rfl) rfl ?_ ?_ rfl <;> simp -dsimp -implicitDefEqProofs only [ren_bo, ok_bo, h, Bool.true_and, Bool.false_and, Bool.not_false, List.forall_mem_cons, List.forall_mem_append, forall_nil_i, List.not_mem_nil, Int.natCast_zero, Int.natCast_add, Int.natCast_one, implies_true, imp_self_i, false_imp_i, slotsLe, storeLe, PV.ren, renL, renG, PV.ok, okL, Blk.ren, Blk.ok, distinct, wk, wkA, wkAL, wkC, wkL, wkB, blkLe, List.cons.injEq, true_or, PV.int.injEq, PV.bool.injEq, AS.get, getPV, lk, Int.cast_ofNat_Int, Int.natCast_one, Int.reduceBEq, Int.reduceBNe, Int.reduceNeg, int_toNat_zero_i, Nat.sub_zero, Int.natCast_zero, Int.reduceAdd, Int.reduceSub, Int.reduceLT, Int.reduceLE, Int.reduceMul, Int.zero_add, decide_true, decide_false, Nat.reducePow, Int.reducePow, Nat.reduceAdd, Nat.reduceEqDiff, Nat.reduceLT, Nat.reduceLeDiff, Nat.reduceMul, Nat.reduceSub, Nat.reduceBEq, Nat.le_refl, Nat.zero_add, Nat.add_zero, reduceCtorEq, or_true, true_or, or_false, false_or, if_true, if_false, ↓reduceIte, true_and, and_true, and_self, Bool.not_true, Bool.not_false, cond_true, cond_false, Bool.true_eq_false, Bool.false_eq_true, ne_eq, not_false_eq_true, not_true_eq_false, Bool.and_true, Bool.true_and, Bool.and_false, Bool.false_and, Bool.or_true, Bool.true_or, Bool.or_false, Bool.false_or, List.isEmpty_nil, List.map_cons, List.map_nil, List.length_cons, List.length_nil, List.length_map, List.getD_cons_zero, List.getD_cons_succ, List.getD_nil, List.getElem?_cons_zero, List.getElem?_cons_succ, List.getElem?_nil, List.take_succ_cons, List.take_zero, List.take_nil, List.drop_succ_cons, List.drop_zero, List.drop_nil, List.nil_append, List.cons_append, List.append_nil, Option.getD_some, Option.getD_none, Option.map_some, Option.map_none, Int.toNat_natCast, ok_frm, ok_hop, ok_int, ok_rows, ok_rt, ren_frm, ren_hop, ren_int, ren_rows, ren_rt]
    try refine hK _ ?_
    repeat (first | refine awp_seq ?_ | refine awp_block ?_ | refine awp_skip ?_ | refine awp_scope ?_ | refine awp_label ?_)
    refine awp_cond (b := decide ((i : Int) < 4) && !fd) (by simp -dsimp -implicitDefEqProofs only [push_cast, ↓trAdd_f, ↓stOf_f, Nat.reduceBEq, Int.reduceBEq, Int.reduceBNe, Int.reduceNeg, Int.reduceAdd, Int.reduceSub, Int.reduceLT, Int.reduceLE, Int.reduceMul, Nat.reducePow, Int.reducePow, Nat.reduceAdd, Nat.reduceEqDiff, Nat.reduceLT, Nat.reduceLeDiff, Nat.reduceMul, Nat.reduceSub, reduceCtorEq, ↓reduceIte]) (fun h => ?_) (fun h => ?_)
    · have hfd0 : fd = false := by simp at h; exact h.2
      subst hfd0
      have hi : i < 4 := by simp at h; omega
      clear h
      simp only [if_false, Bool.false_eq_true] at hfd
      simp only [reI, encGate, encFrame, if_false, Bool.false_eq_true]
      try refine hK _ ?_
      repeat (first | refine awp_seq ?_ | refine awp_block ?_ | refine awp_skip ?_ | refine awp_scope ?_ | refine awp_label ?_)
      refine awp_region tabOk fun K hK => ?_
      simp -dsimp -implicitDefEqProofs only [push_cast, ↓trAdd_f, ↓stOf_f, Nat.reduceBEq, Int.reduceBEq, Int.reduceBNe, Int.reduceNeg, Int.reduceAdd, Int.reduceSub, Int.reduceLT, Int.reduceLE, Int.reduceMul, Nat.reducePow, Int.reducePow, Nat.reduceAdd, Nat.reduceEqDiff, Nat.reduceLT, Nat.reduceLeDiff, Nat.reduceMul, Nat.reduceSub, reduceCtorEq, ↓reduceIte]
      refine callK_simple (next_ok G i) ?_ rfl fun _ => ?_
      · simp -dsimp -implicitDefEqProofs only [encGate, take_map_len, restr, List.contains_nil, List.contains_cons, BEq.rfl, Nat.reduceBEq, implies_true, imp_self_i, false_imp_i, argsV, PV.fz, fzL, view, viewA, viewC, viewOk, viewOkA, viewOkC, seenV, ids, idsA, idsC, PV.scalar, PV.scalarA, PV.scalarC, wk, wkA, wkAL, wkC, wkL, wkB, blkLe, true_or, List.mem_cons, List.mem_singleton, List.not_mem_nil, forall_eq_or_imp, forall_eq, List.all_cons, List.all_nil, List.flatMap_cons, List.flatMap_nil, AS.get, getPV, lk, Int.cast_ofNat_Int, Int.natCast_one, Int.reduceBEq, Int.reduceBNe, Int.reduceNeg, int_toNat_zero_i, Nat.sub_zero, Int.natCast_zero, Int.reduceAdd, Int.reduceSub, Int.reduceLT, Int.reduceLE, Int.reduceMul, Int.zero_add, decide_true, decide_false, Nat.reducePow, Int.reducePow, Nat.reduceAdd, Nat.reduceEqDiff, Nat.reduceLT, Nat.reduceLeDiff, Nat.reduceMul, Nat.reduceSub, Nat.reduceBEq, Nat.le_refl, Nat.zero_add, Nat.add_zero, reduceCtorEq, or_true, true_or, or_false, false_or, if_true, if_false, ↓reduceIte, true_and, and_true, and_self, Bool.not_true, Bool.not_false, cond_true, cond_false, Bool.true_eq_false, Bool.false_eq_true, ne_eq, not_false_eq_true, not_true_eq_false, Bool.and_true, Bool.true_and, Bool.and_false, Bool.false_and, Bool.or_true, Bool.true_or, Bool.or_false, Bool.false_or, List.isEmpty_nil, List.map_cons, List.map_nil, List.length_cons, List.length_nil, List.length_map, List.getD_cons_zero, List.getD_cons_succ, List.getD_nil, List.getElem?_cons_zero, List.getElem?_cons_succ, List.getElem?_nil, List.take_succ_cons, List.take_zero, List.take_nil, List.drop_succ_cons, List.drop_zero, List.drop_nil, List.nil_append, List.cons_append, List.append_nil, Option.getD_some, Option.getD_none, Option.map_some, Option.map_none, Int.toNat_natCast, fz_byt, fz_frm, fz_hop, fz_int, fz_rows, fz_rt]
      have hns := next_snd G i
      have hno : has G i = false → ∀ j : Nat, j < i + 1 → has G j = false := fun h j hj => by
        by_cases e : j = i
        · subst e; exact h
        · exact hfd j (by omega)
      have hei : (((i + 1 : Nat) : Int) - 1) = i := by omega
      have hn1 : (next G (((i + 1 : Nat) : Int) - 1)).1 = (next G i).1 := by rw [hei]
      have hh1 : has G (((i + 1 : Nat) : Int) - 1) = has G i := by rw [hei]
      have hz : (next G i).2 = false → True := fun _ => trivial
      simp -dsimp -implicitDefEqProofs only [encFrame, hns, push_cast, ↓trAdd_f, ↓stOf_f, Nat.reduceBEq, Int.reduceBEq, Int.reduceBNe, Int.reduceNeg, Int.reduceAdd, Int.reduceSub, Int.reduceLT, Int.reduceLE, Int.reduceMul, Nat.reducePow, Int.reducePow, Nat.reduceAdd, Nat.reduceEqDiff, Nat.reduceLT, Nat.reduceLeDiff, Nat.reduceMul, Nat.reduceSub, reduceCtorEq, ↓reduceIte]
      try refine hK _ ?_
      repeat (first | refine awp_seq ?_ | refine awp_block ?_ | refine awp_skip ?_ | refine awp_scope ?_ | refine awp_label ?_)
      refine awp_region tabOk fun K hK => ?_
      simp -dsimp -implicitDefEqProofs only [hns, push_cast, ↓trAdd_f, ↓stOf_f, Nat.reduceBEq, Int.reduceBEq, Int.reduceBNe, Int.reduceNeg, Int.reduceAdd, Int.reduceSub, Int.reduceLT, Int.reduceLE, Int.reduceMul, Nat.reducePow, Int.reducePow, Nat.reduceAdd, Nat.reduceEqDiff, Nat.reduceLT, Nat.reduceLeDiff, Nat.reduceMul, Nat.reduceSub, reduceCtorEq, ↓reduceIte]
      try refine hK _ ?_
      repeat (first | refine awp_seq ?_ | refine awp_block ?_ | refine awp_skip ?_ | refine awp_scope ?_ | refine awp_label ?_)
      refine awp_cond (b := has G i) (by simp -dsimp -implicitDefEqProofs only [push_cast, ↓trAdd_f, ↓stOf_f, Nat.reduceBEq, Int.reduceBEq, Int.reduceBNe, Int.reduceNeg, Int.reduceAdd, Int.reduceSub, Int.reduceLT, Int.reduceLE, Int.reduceMul, Nat.reducePow, Int.reducePow, Nat.reduceAdd, Nat.reduceEqDiff, Nat.reduceLT, Nat.reduceLeDiff, Nat.reduceMul, Nat.reduceSub, reduceCtorEq, ↓reduceIte]) (fun h => ?_) (fun h => ?_)
      · try refine hK _ ?_
        repeat (first | refine awp_seq ?_ | refine awp_block ?_ | refine awp_skip ?_ | refine awp_scope ?_ | refine awp_label ?_)
        refine awp_region tabOk fun K hK => ?_
        simp -dsimp -implicitDefEqProofs only [push_cast, ↓trAdd_f, ↓stOf_f, Nat.reduceBEq, Int.reduceBEq, Int.reduceBNe, Int.reduceNeg, Int.reduceAdd, Int.reduceSub, Int.reduceLT, Int.reduceLE, Int.reduceMul, Nat.reducePow, Int.reducePow, Nat.reduceAdd, Nat.reduceEqDiff, Nat.reduceLT, Nat.reduceLeDiff, Nat.reduceMul, Nat.reduceSub, reduceCtorEq, ↓reduceIte]
        try refine hK _ ?_
        repeat (first | refine awp_seq ?_ | refine awp_block ?_ | refine awp_skip ?_ | refine awp_scope ?_ | refine awp_label ?_)
        refine awp_region tabOk fun K hK => ?_
        simp -dsimp -implicitDefEqProofs only [push_cast, ↓trAdd_f, ↓stOf_f, Nat.reduceBEq, Int.reduceBEq, Int.reduceBNe, Int.reduceNeg, Int.reduceAdd, Int.reduceSub, Int.reduceLT, Int.reduceLE, Int.reduceMul, Nat.reducePow, Int.reducePow, Nat.reduceAdd, Nat.reduceEqDiff, Nat.reduceLT, Nat.reduceLeDiff, Nat.reduceMul, Nat.reduceSub, reduceCtorEq, ↓reduceIte]
        try refine hK _ ?_
        repeat (first | refine awp_seq ?_ | refine awp_block ?_ | refine awp_skip ?_ | refine awp_scope ?_ | refine awp_label ?_)
        refine awp_region tabOk fun K hK => ?_
        simp -dsimp -implicitDefEqProofs only [push_cast, ↓trAdd_f, ↓stOf_f, Nat.reduceBEq, Int.reduceBEq, Int.reduceBNe, Int.reduceNeg, Int.reduceAdd, Int.reduceSub, Int.reduceLT, Int.reduceLE, Int.reduceMul, Nat.reducePow, Int.reducePow, Nat.reduceAdd, Nat.reduceEqDiff, Nat.reduceLT, Nat.reduceLeDiff, Nat.reduceMul, Nat.reduceSub, reduceCtorEq, ↓reduceIte]
        try simp (disch := omega) only [wrap_i64, wrap_u8, wrap_u16, wrap_u32]
        refine hK _ ⟨(i + 1, true), ⟨hi, ?_⟩, ?_, ?_⟩
        · simp only [if_true]; exact ⟨by omega, by rw [hh1]; exact h⟩
        · show 4 - (i + 1) < 4 - i; omega
        simp only [reI, encGate, encFrame, if_true, hn1, hei]
        refine le_intro hB [] (by simp) (fun b _ => rfl) rfl ?_ ?_ rfl <;> simp -dsimp -implicitDefEqProofs only [ren_bo, ok_bo, List.forall_mem_cons, List.forall_mem_append, forall_nil_i, List.not_mem_nil, Int.natCast_zero, Int.natCast_add, Int.natCast_one, implies_true, imp_self_i, false_imp_i, slotsLe, storeLe, PV.ren, renL, renG, PV.ok, okL, Blk.ren, Blk.ok, distinct, wk, wkA, wkAL, wkC, wkL, wkB, blkLe, List.cons.injEq, true_or, PV.int.injEq, PV.bool.injEq, AS.get, getPV, lk, Int.cast_ofNat_Int, Int.natCast_one, Int.reduceBEq, Int.reduceBNe, Int.reduceNeg, int_toNat_zero_i, Nat.sub_zero, Int.natCast_zero, Int.reduceAdd, Int.reduceSub, Int.reduceLT, Int.reduceLE, Int.reduceMul, Int.zero_add, decide_true, decide_false, Nat.reducePow, Int.reducePow, Nat.reduceAdd, Nat.reduceEqDiff, Nat.reduceLT, Nat.reduceLeDiff, Nat.reduceMul, Nat.reduceSub, Nat.reduceBEq, Nat.le_refl, Nat.zero_add, Nat.add_zero, reduceCtorEq, or_true, true_or, or_false, false_or, if_true, if_false, ↓reduceIte, true_and, and_true, and_self, Bool.not_true, Bool.not_false, cond_true, cond_false, Bool.true_eq_false, Bool.false_eq_true, ne_eq, not_false_eq_true, not_true_eq_false, Bool.and_true, Bool.true_and, Bool.and_false, Bool.false_and, Bool.or_true, Bool.true_or, Bool.or_false, Bool.false_or, List.isEmpty_nil, List.map_cons, List.map_nil, List.length_cons, List.length_nil, List.length_map, List.getD_cons_zero, List.getD_cons_succ, List.getD_nil, List.getElem?_cons_zero, List.getElem?_cons_succ, List.getElem?_nil, List.take_succ_cons, List.take_zero, List.take_nil, List.drop_succ_cons, List.drop_zero, List.drop_nil, List.nil_append, List.cons_append, List.append_nil, Option.getD_some, Option.getD_none, Option.map_some, Option.map_none, Int.toNat_natCast, ok_frm, ok_hop, ok_int, ok_rows, ok_rt, ren_frm, ren_hop, ren_int, ren_rows, ren_rt]
      · refine awp_skip ?_
        try refine hK _ ?_
        repeat (first | refine awp_seq ?_ | refine awp_block ?_ | refine awp_skip ?_ | refine awp_scope ?_ | refine awp_label ?_)
        refine awp_region tabOk fun K hK => ?_
        simp -dsimp -implicitDefEqProofs only [push_cast, ↓trAdd_f, ↓stOf_f, Nat.reduceBEq, Int.reduceBEq, Int.reduceBNe, Int.reduceNeg, Int.reduceAdd, Int.reduceSub, Int.reduceLT, Int.reduceLE, Int.reduceMul, Nat.reducePow, Int.reducePow, Nat.reduceAdd, Nat.reduceEqDiff, Nat.reduceLT, Nat.reduceLeDiff, Nat.reduceMul, Nat.reduceSub, reduceCtorEq, ↓reduceIte]
        try simp (disch := omega) only [wrap_i64, wrap_u8, wrap_u16, wrap_u32]
        refine hK _ ⟨(i + 1, false), ⟨hi, ?_⟩, ?_, ?_⟩
        · simp only [if_false, Bool.false_eq_true]; exact hno h
        · show 4 - (i + 1) < 4 - i; omega
        simp only [reI, encGate, encFrame, if_false, Bool.false_eq_true]
        refine le_intro hB [] (by simp) (fun b _ => rfl) rfl ?_ ?_ rfl <;> simp -dsimp -implicitDefEqProofs only [ren_bo, ok_bo, List.forall_mem_cons, List.forall_mem_append, forall_nil_i, List.not_mem_nil, Int.natCast_zero, Int.natCast_add, Int.natCast_one, implies_true, imp_self_i, false_imp_i, slotsLe, storeLe, PV.ren, renL, renG, PV.ok, okL, Blk.ren, Blk.ok, distinct, wk, wkA, wkAL, wkC, wkL, wkB, blkLe, List.cons.injEq, true_or, PV.int.injEq, PV.bool.injEq, AS.get, getPV, lk, Int.cast_ofNat_Int, Int.natCast_one, Int.reduceBEq, Int.reduceBNe, Int.reduceNeg, int_toNat_zero_i, Nat.sub_zero, Int.natCast_zero, Int.reduceAdd, Int.reduceSub, Int.reduceLT, Int.reduceLE, Int.reduceMul, Int.zero_add, decide_true, decide_false, Nat.reducePow, Int.reducePow, Nat.reduceAdd, Nat.reduceEqDiff, Nat.reduceLT, Nat.reduceLeDiff, Nat.reduceMul, Nat.reduceSub, Nat.reduceBEq, Nat.le_refl, Nat.zero_add, Nat.add_zero, reduceCtorEq, or_true, true_or, or_false, false_or, if_true, if_false, ↓reduceIte, true_and, and_true, and_self, Bool.not_true, Bool.not_false, cond_true, cond_false, Bool.true_eq_false, Bool.false_eq_true, ne_eq, not_false_eq_true, not_true_eq_false, Bool.and_true, Bool.true_and, Bool.and_false, Bool.false_and, Bool.or_true, Bool.true_or, Bool.or_false, Bool.false_or, List.isEmpty_nil, List.map_cons, List.map_nil, List.length_cons, List.length_nil, List.length_map, List.getD_cons_zero, List.getD_cons_succ, List.getD_nil, List.getElem?_cons_zero, List.getElem?_cons_succ, List.getElem?_nil, List.take_succ_cons, List.take_zero, List.take_nil, List.drop_succ_cons, List.drop_zero, List.drop_nil, List.nil_append, List.cons_append, List.append_nil, Option.getD_some, Option.getD_none, Option.map_some, Option.map_none, Int.toNat_natCast, ok_frm, ok_hop, ok_int, ok_rows, ok_rt, ren_frm, ren_hop, ren_int, ren_rows, ren_rt]
    · refine awp_exit rfl ?_
      have hfd1 : fd = true := by
        cases fd with
        | true => rfl
        | false =>
          exfalso
          have : i = 4 := by simp at h; omega
          subst this
          simp only [if_false, Bool.false_eq_true] at hfd
          have := goes_wait hA7
          have hw := none_wait hGo hfd
          have hp := hA7.length_eq
          rw [hw] at hp
          simp only [List.flatMap_nil, List.length_nil] at hp
          omega
      subst hfd1
      clear h
      simp only [if_true] at hfd
      obtain ⟨hi1, hhas⟩ := hfd
      obtain ⟨a, ha⟩ := Int.eq_ofNat_of_zero_le (show 0 ≤ (i : Int) - 1 by omega)
      rw [ha] at hhas
      simp only [reI, encGate, encFrame, if_true, ha]
      have hokw : (next G a).1.okB := next_okB hA2 a
      obtain ⟨i1, hi1, hi2, hi3, hi4'⟩ := goes_found hA7 hGo hhas
      have hnx := fun j h1 h2 h3 h4 => goes_next hkt hA7 hGo hA4 hA3 hl4 (by omega) hhas (i := j) h1 h2 h3 h4
      generalize hy : (next G a).1 = y at *
      have hneg : decide ((a : Int) < 0) = false := by simp
      try refine hK _ ?_
      repeat (first | refine awp_seq ?_ | refine awp_block ?_ | refine awp_skip ?_ | refine awp_scope ?_ | refine awp_label ?_)
      refine awp_region tabOk fun K hK => ?_
      simp -dsimp -implicitDefEqProofs only [hneg, push_cast, ↓trAdd_f, ↓stOf_f, Nat.reduceBEq, Int.reduceBEq, Int.reduceBNe, Int.reduceNeg, Int.reduceAdd, Int.reduceSub, Int.reduceLT, Int.reduceLE, Int.reduceMul, Nat.reducePow, Int.reducePow, Nat.reduceAdd, Nat.reduceEqDiff, Nat.reduceLT, Nat.reduceLeDiff, Nat.reduceMul, Nat.reduceSub, reduceCtorEq, ↓reduceIte]
      try refine hK _ ?_
      repeat (first | refine awp_seq ?_ | refine awp_block ?_ | refine awp_skip ?_ | refine awp_scope ?_ | refine awp_label ?_)
      refine awp_cond (b := false) (by simp -dsimp -implicitDefEqProofs only [push_cast, ↓trAdd_f, ↓stOf_f, Nat.reduceBEq, Int.reduceBEq, Int.reduceBNe, Int.reduceNeg, Int.reduceAdd, Int.reduceSub, Int.reduceLT, Int.reduceLE, Int.reduceMul, Nat.reducePow, Int.reducePow, Nat.reduceAdd, Nat.reduceEqDiff, Nat.reduceLT, Nat.reduceLeDiff, Nat.reduceMul, Nat.reduceSub, reduceCtorEq, ↓reduceIte]) (fun h => ?_) (fun h => ?_)
      · simp at h
      clear h
      refine awp_skip ?_
      try refine hK _ ?_
      repeat (first | refine awp_seq ?_ | refine awp_block ?_ | refine awp_skip ?_ | refine awp_scope ?_ | refine awp_label ?_)
      refine awp_region tabOk fun K hK => ?_
      simp -dsimp -implicitDefEqProofs only [push_cast, ↓trAdd_f, ↓stOf_f, Nat.reduceBEq, Int.reduceBEq, Int.reduceBNe, Int.reduceNeg, Int.reduceAdd, Int.reduceSub, Int.reduceLT, Int.reduceLE, Int.reduceMul, Nat.reducePow, Int.reducePow, Nat.reduceAdd, Nat.reduceEqDiff, Nat.reduceLT, Nat.reduceLeDiff, Nat.reduceMul, Nat.reduceSub, reduceCtorEq, ↓reduceIte]
      try refine hK _ ?_
      repeat (first | refine awp_seq ?_ | refine awp_block ?_ | refine awp_skip ?_ | refine awp_scope ?_ | refine awp_label ?_)
      refine awp_region tabOk fun K hK => ?_
      simp -dsimp -implicitDefEqProofs only [push_cast, ↓trAdd_f, ↓stOf_f, Nat.reduceBEq, Int.reduceBEq, Int.reduceBNe, Int.reduceNeg, Int.reduceAdd, Int.reduceSub, Int.reduceLT, Int.reduceLE, Int.reduceMul, Nat.reducePow, Int.reducePow, Nat.reduceAdd, Nat.reduceEqDiff, Nat.reduceLT, Nat.reduceLeDiff, Nat.reduceMul, Nat.reduceSub, reduceCtorEq, ↓reduceIte]
      refine hK _ (awp_block ?_)
      refine awp_for (fun x : Nat × Bool => reF want k G seen a y x.1 x.2) (fun x => x.1 ≤ want.length ∧ if x.2 = true then 1 ≤ x.1 ∧ ∃ h1 : x.1 - 1 < want.length, ∃ h2 : x.1 - 1 < seen.length, seen[x.1 - 1] = false ∧ want[x.1 - 1] = ⟨a, y⟩ else ∀ (j : Nat) (h1 : j < want.length) (h2 : j < seen.length), j < x.1 → ¬ (seen[j] = false ∧ want[j] = ⟨a, y⟩)) (fun x => want.length - x.1) (0, false) ⟨Nat.zero_le _, by simp⟩ ?_ fun x hx => ?_
      · simp only [reF, encGate, encFrame, if_false, Bool.false_eq_true]
        refine le_intro hB [] (by simp) (fun b _ => rfl) rfl ?_ ?_ rfl <;> simp -dsimp -implicitDefEqProofs only [ren_bo, ok_bo, List.forall_mem_cons, List.forall_mem_append, forall_nil_i, List.not_mem_nil, Int.natCast_zero, Int.natCast_add, Int.natCast_one, implies_true, imp_self_i, false_imp_i, slotsLe, storeLe, PV.ren, renL, renG, PV.ok, okL, Blk.ren, Blk.ok, distinct, wk, wkA, wkAL, wkC, wkL, wkB, blkLe, List.cons.injEq, true_or, PV.int.injEq, PV.bool.injEq, AS.get, getPV, lk, Int.cast_ofNat_Int, Int.natCast_one, Int.reduceBEq, Int.reduceBNe, Int.reduceNeg, int_toNat_zero_i, Nat.sub_zero, Int.natCast_zero, Int.reduceAdd, Int.reduceSub, Int.reduceLT, Int.reduceLE, Int.reduceMul, Int.zero_add, decide_true, decide_false, Nat.reducePow, Int.reducePow, Nat.reduceAdd, Nat.reduceEqDiff, Nat.reduceLT, Nat.reduceLeDiff, Nat.reduceMul, Nat.reduceSub, Nat.reduceBEq, Nat.le_refl, Nat.zero_add, Nat.add_zero, reduceCtorEq, or_true, true_or, or_false, false_or, if_true, if_false, ↓reduceIte, true_and, and_true, and_self, Bool.not_true, Bool.not_false, cond_true, cond_false, Bool.true_eq_false, Bool.false_eq_true, ne_eq, not_false_eq_true, not_true_eq_false, Bool.and_true, Bool.true_and, Bool.and_false, Bool.false_and, Bool.or_true, Bool.true_or, Bool.or_false, Bool.false_or, List.isEmpty_nil, List.map_cons, List.map_nil, List.length_cons, List.length_nil, List.length_map, List.getD_cons_zero, List.getD_cons_succ, List.getD_nil, List.getElem?_cons_zero, List.getElem?_cons_succ, List.getElem?_nil, List.take_succ_cons, List.take_zero, List.take_nil, List.drop_succ_cons, List.drop_zero, List.drop_nil, List.nil_append, List.cons_append, List.append_nil, Option.getD_some, Option.getD_none, Option.map_some, Option.map_none, Int.toNat_natCast, ok_frm, ok_hop, ok_int, ok_rows, ok_rt, ren_frm, ren_hop, ren_int, ren_rows, ren_rt]
      obtain ⟨j, fd⟩ := x
      obtain ⟨hjw, hfd⟩ := hx
      simp only at hjw hfd
      try refine hK _ ?_
      repeat (first | refine awp_seq ?_ | refine awp_block ?_ | refine awp_skip ?_ | refine awp_scope ?_ | refine awp_label ?_)
      refine awp_join ({ sl := (87, .bool (decide ((j : Int) < want.length) && !fd)) :: (reF want k G seen a y j fd).sl, st := (reF want k G seen a y j fd).st, nx := 368, n := 138 }) ?_ (fun _ hl h => awp_le hl h) ?_
      · simp only [reF, encGate, encFrame]
        try refine hK _ ?_
        repeat (first | refine awp_seq ?_ | refine awp_block ?_ | refine awp_skip ?_ | refine awp_scope ?_ | refine awp_label ?_)
        refine awp_region tabOk fun K hK => ?_
        simp -dsimp -implicitDefEqProofs only [push_cast, ↓trAdd_f, ↓stOf_f, Nat.reduceBEq, Int.reduceBEq, Int.reduceBNe, Int.reduceNeg, Int.reduceAdd, Int.reduceSub, Int.reduceLT, Int.reduceLE, Int.reduceMul, Nat.reducePow, Int.reducePow, Nat.reduceAdd, Nat.reduceEqDiff, Nat.reduceLT, Nat.reduceLeDiff, Nat.reduceMul, Nat.reduceSub, reduceCtorEq, ↓reduceIte]
        refine guardK_t (fun h => ?_) (fun h => ?_) <;> simp -dsimp -implicitDefEqProofs only [h, push_cast, ↓trAdd_f, ↓stOf_f, Nat.reduceBEq, Int.reduceBEq, Int.reduceBNe, Int.reduceNeg, Int.reduceAdd, Int.reduceSub, Int.reduceLT, Int.reduceLE, Int.reduceMul, Nat.reducePow, Int.reducePow, Nat.reduceAdd, Nat.reduceEqDiff, Nat.reduceLT, Nat.reduceLeDiff, Nat.reduceMul, Nat.reduceSub, reduceCtorEq, ↓reduceIte]
        all_goals
          refine hK _ ?_
          refine le_intro hB [] (by simp) (fun b _ => rfl) rfl ?_ ?_ rfl <;> simp -dsimp -implicitDefEqProofs only [reF, encGate, encFrame, ren_bo, ok_bo, h, Bool.true_and, Bool.false_and, List.forall_mem_cons, List.forall_mem_append, forall_nil_i, List.not_mem_nil, Int.natCast_zero, Int.natCast_add, Int.natCast_one, implies_true, imp_self_i, false_imp_i, slotsLe, storeLe, PV.ren, renL, renG, PV.ok, okL, Blk.ren, Blk.ok, distinct, wk, wkA, wkAL, wkC, wkL, wkB, blkLe, List.cons.injEq, true_or, PV.int.injEq, PV.bool.injEq, AS.get, getPV, lk, Int.cast_ofNat_Int, Int.natCast_one, Int.reduceBEq, Int.reduceBNe, Int.reduceNeg, int_toNat_zero_i, Nat.sub_zero, Int.natCast_zero, Int.reduceAdd, Int.reduceSub, Int.reduceLT, Int.reduceLE, Int.reduceMul, Int.zero_add, decide_true, decide_false, Nat.reducePow, Int.reducePow, Nat.reduceAdd, Nat.reduceEqDiff, Nat.reduceLT, Nat.reduceLeDiff, Nat.reduceMul, Nat.reduceSub, Nat.reduceBEq, Nat.le_refl, Nat.zero_add, Nat.add_zero, reduceCtorEq, or_true, true_or, or_false, false_or, if_true, if_false, ↓reduceIte, true_and, and_true, and_self, Bool.not_true, Bool.not_false, cond_true, cond_false, Bool.true_eq_false, Bool.false_eq_true, ne_eq, not_false_eq_true, not_true_eq_false, Bool.and_true, Bool.true_and, Bool.and_false, Bool.false_and, Bool.or_true, Bool.true_or, Bool.or_false, Bool.false_or, List.isEmpty_nil, List.map_cons, List.map_nil, List.length_cons, List.length_nil, List.length_map, List.getD_cons_zero, List.getD_cons_succ, List.getD_nil, List.getElem?_cons_zero, List.getElem?_cons_succ, List.getElem?_nil, List.take_succ_cons, List.take_zero, List.take_nil, List.drop_succ_cons, List.drop_zero, List.drop_nil, List.nil_append, List.cons_append, List.append_nil, Option.getD_some, Option.getD_none, Option.map_some, Option.map_none, Int.toNat_natCast, ok_frm, ok_hop, ok_int, ok_rows, ok_rt, ren_frm, ren_hop, ren_int, ren_rows, ren_rt]
      try refine hK _ ?_
      repeat (first | refine awp_seq ?_ | refine awp_block ?_ | refine awp_skip ?_ | refine awp_scope ?_ | refine awp_label ?_)
      refine awp_cond (b := decide ((j : Int) < want.length) && !fd) (by simp -dsimp -implicitDefEqProofs only [push_cast, ↓trAdd_f, ↓stOf_f, Nat.reduceBEq, Int.reduceBEq, Int.reduceBNe, Int.reduceNeg, Int.reduceAdd, Int.reduceSub, Int.reduceLT, Int.reduceLE, Int.reduceMul, Nat.reducePow, Int.reducePow, Nat.reduceAdd, Nat.reduceEqDiff, Nat.reduceLT, Nat.reduceLeDiff, Nat.reduceMul, Nat.reduceSub, reduceCtorEq, ↓reduceIte]) (fun h => ?_) (fun h => ?_)
      · have hfd0 : fd = false := by simp at h; exact h.2
        subst hfd0
        have hj : j < want.length := by simp at h; omega
        have hjs : j < seen.length := by omega
        clear h
        simp only [if_false, Bool.false_eq_true] at hfd
        simp only [reF, encGate, encFrame, if_false, Bool.false_eq_true]
        have hgs : (seen.map encBo).getD j [] = [.bool seen[j]] := by rw [getD_map _ _ _ hjs]; rfl
        try refine hK _ ?_
        repeat (first | refine awp_seq ?_ | refine awp_block ?_ | refine awp_skip ?_ | refine awp_scope ?_ | refine awp_label ?_)
        refine awp_join ({ sl := (112, .bool (!seen[j] && decide (want[j] = ⟨a, y⟩))) :: (reF want k G seen a y j false).sl, st := (reF want k G seen a y j false).st, nx := 700, n := 138 }) ?_ (fun _ hl h => awp_le hl h) ?_
        · cases hsj : seen[j] with
          | true =>
            try refine hK _ ?_
            repeat (first | refine awp_seq ?_ | refine awp_block ?_ | refine awp_skip ?_ | refine awp_scope ?_ | refine awp_label ?_)
            refine awp_draw tabOk (by kernel_rfl) (by kernel_rfl) fun K hK C hC => ?_
            simp -dsimp -implicitDefEqProofs only [hgs, hA5, hsj, List.length_map, push_cast, ↓trAdd_f, ↓stOf_f, Nat.reduceBEq, Int.reduceBEq, Int.reduceBNe, Int.reduceNeg, Int.reduceAdd, Int.reduceSub, Int.reduceLT, Int.reduceLE, Int.reduceMul, Nat.reducePow, Int.reducePow, Nat.reduceAdd, Nat.reduceEqDiff, Nat.reduceLT, Nat.reduceLeDiff, Nat.reduceMul, Nat.reduceSub, reduceCtorEq, ↓reduceIte]
            refine ⟨⟨by omega, by omega⟩, by omega, hC _ (by kernel_rfl), hK _ ?_⟩
            refine le_intro hB [] (by simp) (fun b _ => rfl) rfl ?_ ?_ rfl <;> simp -dsimp -implicitDefEqProofs only [reF, encGate, encFrame, ren_bo, ok_bo, List.forall_mem_cons, List.forall_mem_append, forall_nil_i, List.not_mem_nil, Int.natCast_zero, Int.natCast_add, Int.natCast_one, implies_true, imp_self_i, false_imp_i, slotsLe, storeLe, PV.ren, renL, renG, PV.ok, okL, Blk.ren, Blk.ok, distinct, wk, wkA, wkAL, wkC, wkL, wkB, blkLe, List.cons.injEq, true_or, PV.int.injEq, PV.bool.injEq, AS.get, getPV, lk, Int.cast_ofNat_Int, Int.natCast_one, Int.reduceBEq, Int.reduceBNe, Int.reduceNeg, int_toNat_zero_i, Nat.sub_zero, Int.natCast_zero, Int.reduceAdd, Int.reduceSub, Int.reduceLT, Int.reduceLE, Int.reduceMul, Int.zero_add, decide_true, decide_false, Nat.reducePow, Int.reducePow, Nat.reduceAdd, Nat.reduceEqDiff, Nat.reduceLT, Nat.reduceLeDiff, Nat.reduceMul, Nat.reduceSub, Nat.reduceBEq, Nat.le_refl, Nat.zero_add, Nat.add_zero, reduceCtorEq, or_true, true_or, or_false, false_or, if_true, if_false, ↓reduceIte, true_and, and_true, and_self, Bool.not_true, Bool.not_false, cond_true, cond_false, Bool.true_eq_false, Bool.false_eq_true, ne_eq, not_false_eq_true, not_true_eq_false, Bool.and_true, Bool.true_and, Bool.and_false, Bool.false_and, Bool.or_true, Bool.true_or, Bool.or_false, Bool.false_or, List.isEmpty_nil, List.map_cons, List.map_nil, List.length_cons, List.length_nil, List.length_map, List.getD_cons_zero, List.getD_cons_succ, List.getD_nil, List.getElem?_cons_zero, List.getElem?_cons_succ, List.getElem?_nil, List.take_succ_cons, List.take_zero, List.take_nil, List.drop_succ_cons, List.drop_zero, List.drop_nil, List.nil_append, List.cons_append, List.append_nil, Option.getD_some, Option.getD_none, Option.map_some, Option.map_none, Int.toNat_natCast, ok_frm, ok_hop, ok_int, ok_rows, ok_rt, ren_frm, ren_hop, ren_int, ren_rows, ren_rt]
          | false =>
            cases hto : want[j].to == (a : Int) with
            | false =>
              try refine hK _ ?_
              repeat (first | refine awp_seq ?_ | refine awp_block ?_ | refine awp_skip ?_ | refine awp_scope ?_ | refine awp_label ?_)
              refine awp_draw tabOk (by kernel_rfl) (by kernel_rfl) fun K hK C hC => ?_
              simp -dsimp -implicitDefEqProofs only [hgs, hA5, hsj, hj, getD_map, encHop, encFrame, hto, List.length_map, push_cast, ↓trAdd_f, ↓stOf_f, Nat.reduceBEq, Int.reduceBEq, Int.reduceBNe, Int.reduceNeg, Int.reduceAdd, Int.reduceSub, Int.reduceLT, Int.reduceLE, Int.reduceMul, Nat.reducePow, Int.reducePow, Nat.reduceAdd, Nat.reduceEqDiff, Nat.reduceLT, Nat.reduceLeDiff, Nat.reduceMul, Nat.reduceSub, reduceCtorEq, ↓reduceIte]
              refine ⟨⟨by omega, by omega⟩, ⟨by omega, by omega⟩, hC _ (by kernel_rfl), hK _ ?_⟩
              have hne : decide (want[j] = ⟨(a : Int), y⟩) = false := by
                rw [decide_eq_false_iff_not, hop_eta]
                exact fun e => by rw [e.1] at hto; simp at hto
              refine le_intro hB [] (by simp) (fun b _ => rfl) rfl ?_ ?_ rfl <;> simp -dsimp -implicitDefEqProofs only [reF, encGate, encFrame, ren_bo, ok_bo, hne, List.forall_mem_cons, List.forall_mem_append, forall_nil_i, List.not_mem_nil, Int.natCast_zero, Int.natCast_add, Int.natCast_one, implies_true, imp_self_i, false_imp_i, slotsLe, storeLe, PV.ren, renL, renG, PV.ok, okL, Blk.ren, Blk.ok, distinct, wk, wkA, wkAL, wkC, wkL, wkB, blkLe, List.cons.injEq, true_or, PV.int.injEq, PV.bool.injEq, AS.get, getPV, lk, Int.cast_ofNat_Int, Int.natCast_one, Int.reduceBEq, Int.reduceBNe, Int.reduceNeg, int_toNat_zero_i, Nat.sub_zero, Int.natCast_zero, Int.reduceAdd, Int.reduceSub, Int.reduceLT, Int.reduceLE, Int.reduceMul, Int.zero_add, decide_true, decide_false, Nat.reducePow, Int.reducePow, Nat.reduceAdd, Nat.reduceEqDiff, Nat.reduceLT, Nat.reduceLeDiff, Nat.reduceMul, Nat.reduceSub, Nat.reduceBEq, Nat.le_refl, Nat.zero_add, Nat.add_zero, reduceCtorEq, or_true, true_or, or_false, false_or, if_true, if_false, ↓reduceIte, true_and, and_true, and_self, Bool.not_true, Bool.not_false, cond_true, cond_false, Bool.true_eq_false, Bool.false_eq_true, ne_eq, not_false_eq_true, not_true_eq_false, Bool.and_true, Bool.true_and, Bool.and_false, Bool.false_and, Bool.or_true, Bool.true_or, Bool.or_false, Bool.false_or, List.isEmpty_nil, List.map_cons, List.map_nil, List.length_cons, List.length_nil, List.length_map, List.getD_cons_zero, List.getD_cons_succ, List.getD_nil, List.getElem?_cons_zero, List.getElem?_cons_succ, List.getElem?_nil, List.take_succ_cons, List.take_zero, List.take_nil, List.drop_succ_cons, List.drop_zero, List.drop_nil, List.nil_append, List.cons_append, List.append_nil, Option.getD_some, Option.getD_none, Option.map_some, Option.map_none, Int.toNat_natCast, ok_frm, ok_hop, ok_int, ok_rows, ok_rt, ren_frm, ren_hop, ren_int, ren_rows, ren_rt]
            | true =>
              have hfo := hwok _ (List.getElem_mem hj)
              try refine hK _ ?_
              repeat (first | refine awp_seq ?_ | refine awp_block ?_ | refine awp_skip ?_ | refine awp_scope ?_ | refine awp_label ?_)
              refine awp_draw tabOk (by kernel_rfl) (by kernel_rfl) fun K hK C hC => ?_
              simp -dsimp -implicitDefEqProofs only [hgs, hA5, hsj, hj, getD_map, encHop, encFrame, hto, List.length_map, push_cast, ↓trAdd_f, ↓stOf_f, Nat.reduceBEq, Int.reduceBEq, Int.reduceBNe, Int.reduceNeg, Int.reduceAdd, Int.reduceSub, Int.reduceLT, Int.reduceLE, Int.reduceMul, Nat.reducePow, Int.reducePow, Nat.reduceAdd, Nat.reduceEqDiff, Nat.reduceLT, Nat.reduceLeDiff, Nat.reduceMul, Nat.reduceSub, reduceCtorEq, ↓reduceIte]
              refine ⟨⟨by omega, by omega⟩, ⟨by omega, by omega⟩, ⟨by omega, by omega⟩, ?_⟩
              refine callK_simple (sameFrame_ok false false want[j].frame y hfo hokw) ?_ rfl fun _ => ?_
              · simp -dsimp -implicitDefEqProofs only [encFrame, take_map_len, restr, List.contains_nil, List.contains_cons, BEq.rfl, Nat.reduceBEq, implies_true, imp_self_i, false_imp_i, argsV, PV.fz, fzL, view, viewA, viewC, viewOk, viewOkA, viewOkC, seenV, ids, idsA, idsC, PV.scalar, PV.scalarA, PV.scalarC, wk, wkA, wkAL, wkC, wkL, wkB, blkLe, true_or, List.mem_cons, List.mem_singleton, List.not_mem_nil, forall_eq_or_imp, forall_eq, List.all_cons, List.all_nil, List.flatMap_cons, List.flatMap_nil, AS.get, getPV, lk, Int.cast_ofNat_Int, Int.natCast_one, Int.reduceBEq, Int.reduceBNe, Int.reduceNeg, int_toNat_zero_i, Nat.sub_zero, Int.natCast_zero, Int.reduceAdd, Int.reduceSub, Int.reduceLT, Int.reduceLE, Int.reduceMul, Int.zero_add, decide_true, decide_false, Nat.reducePow, Int.reducePow, Nat.reduceAdd, Nat.reduceEqDiff, Nat.reduceLT, Nat.reduceLeDiff, Nat.reduceMul, Nat.reduceSub, Nat.reduceBEq, Nat.le_refl, Nat.zero_add, Nat.add_zero, reduceCtorEq, or_true, true_or, or_false, false_or, if_true, if_false, ↓reduceIte, true_and, and_true, and_self, Bool.not_true, Bool.not_false, cond_true, cond_false, Bool.true_eq_false, Bool.false_eq_true, ne_eq, not_false_eq_true, not_true_eq_false, Bool.and_true, Bool.true_and, Bool.and_false, Bool.false_and, Bool.or_true, Bool.true_or, Bool.or_false, Bool.false_or, List.isEmpty_nil, List.map_cons, List.map_nil, List.length_cons, List.length_nil, List.length_map, List.getD_cons_zero, List.getD_cons_succ, List.getD_nil, List.getElem?_cons_zero, List.getElem?_cons_succ, List.getElem?_nil, List.take_succ_cons, List.take_zero, List.take_nil, List.drop_succ_cons, List.drop_zero, List.drop_nil, List.nil_append, List.cons_append, List.append_nil, Option.getD_some, Option.getD_none, Option.map_some, Option.map_none, Int.toNat_natCast, fz_byt, fz_frm, fz_hop, fz_int, fz_rows, fz_rt]
              simp -dsimp -implicitDefEqProofs only [push_cast, ↓trAdd_f, ↓stOf_f, Nat.reduceBEq, Int.reduceBEq, Int.reduceBNe, Int.reduceNeg, Int.reduceAdd, Int.reduceSub, Int.reduceLT, Int.reduceLE, Int.reduceMul, Nat.reducePow, Int.reducePow, Nat.reduceAdd, Nat.reduceEqDiff, Nat.reduceLT, Nat.reduceLeDiff, Nat.reduceMul, Nat.reduceSub, reduceCtorEq, ↓reduceIte]
              refine ⟨hC _ (by kernel_rfl), hK _ ?_⟩
              have hto' : want[j].to = (a : Int) := by simpa using hto
              have hne : decide (want[j] = ⟨(a : Int), y⟩) = decide (want[j].frame = y) := by
                rw [decide_eq_decide, hop_eta]
                exact ⟨fun e => e.2, fun e => ⟨hto', e⟩⟩
              refine le_intro hB [] (by simp) (fun b _ => rfl) rfl ?_ ?_ rfl <;> simp -dsimp -implicitDefEqProofs only [reF, encGate, encFrame, ren_bo, ok_bo, hne, List.forall_mem_cons, List.forall_mem_append, forall_nil_i, List.not_mem_nil, Int.natCast_zero, Int.natCast_add, Int.natCast_one, implies_true, imp_self_i, false_imp_i, slotsLe, storeLe, PV.ren, renL, renG, PV.ok, okL, Blk.ren, Blk.ok, distinct, wk, wkA, wkAL, wkC, wkL, wkB, blkLe, List.cons.injEq, true_or, PV.int.injEq, PV.bool.injEq, AS.get, getPV, lk, Int.cast_ofNat_Int, Int.natCast_one, Int.reduceBEq, Int.reduceBNe, Int.reduceNeg, int_toNat_zero_i, Nat.sub_zero, Int.natCast_zero, Int.reduceAdd, Int.reduceSub, Int.reduceLT, Int.reduceLE, Int.reduceMul, Int.zero_add, decide_true, decide_false, Nat.reducePow, Int.reducePow, Nat.reduceAdd, Nat.reduceEqDiff, Nat.reduceLT, Nat.reduceLeDiff, Nat.reduceMul, Nat.reduceSub, Nat.reduceBEq, Nat.le_refl, Nat.zero_add, Nat.add_zero, reduceCtorEq, or_true, true_or, or_false, false_or, if_true, if_false, ↓reduceIte, true_and, and_true, and_self, Bool.not_true, Bool.not_false, cond_true, cond_false, Bool.true_eq_false, Bool.false_eq_true, ne_eq, not_false_eq_true, not_true_eq_false, Bool.and_true, Bool.true_and, Bool.and_false, Bool.false_and, Bool.or_true, Bool.true_or, Bool.or_false, Bool.false_or, List.isEmpty_nil, List.map_cons, List.map_nil, List.length_cons, List.length_nil, List.length_map, List.getD_cons_zero, List.getD_cons_succ, List.getD_nil, List.getElem?_cons_zero, List.getElem?_cons_succ, List.getElem?_nil, List.take_succ_cons, List.take_zero, List.take_nil, List.drop_succ_cons, List.drop_zero, List.drop_nil, List.nil_append, List.cons_append, List.append_nil, Option.getD_some, Option.getD_none, Option.map_some, Option.map_none, Int.toNat_natCast, ok_frm, ok_hop, ok_int, ok_rows, ok_rt, ren_frm, ren_hop, ren_int, ren_rows, ren_rt]
        simp only [reF, encGate, encFrame, if_false, Bool.false_eq_true]
        try refine hK _ ?_
        repeat (first | refine awp_seq ?_ | refine awp_block ?_ | refine awp_skip ?_ | refine awp_scope ?_ | refine awp_label ?_)
        refine awp_cond (b := !seen[j] && decide (want[j] = ⟨(a : Int), y⟩)) (by simp -dsimp -implicitDefEqProofs only [push_cast, ↓trAdd_f, ↓stOf_f, Nat.reduceBEq, Int.reduceBEq, Int.reduceBNe, Int.reduceNeg, Int.reduceAdd, Int.reduceSub, Int.reduceLT, Int.reduceLE, Int.reduceMul, Nat.reducePow, Int.reducePow, Nat.reduceAdd, Nat.reduceEqDiff, Nat.reduceLT, Nat.reduceLeDiff, Nat.reduceMul, Nat.reduceSub, reduceCtorEq, ↓reduceIte]) (fun h => ?_) (fun h => ?_)
        · have hm : seen[j] = false ∧ want[j] = ⟨(a : Int), y⟩ := by simpa using h
          try refine hK _ ?_
          repeat (first | refine awp_seq ?_ | refine awp_block ?_ | refine awp_skip ?_ | refine awp_scope ?_ | refine awp_label ?_)
          refine awp_region tabOk fun K hK => ?_
          simp -dsimp -implicitDefEqProofs only [hA5, List.length_map, hgs, push_cast, ↓trAdd_f, ↓stOf_f, Nat.reduceBEq, Int.reduceBEq, Int.reduceBNe, Int.reduceNeg, Int.reduceAdd, Int.reduceSub, Int.reduceLT, Int.reduceLE, Int.reduceMul, Nat.reducePow, Int.reducePow, Nat.reduceAdd, Nat.reduceEqDiff, Nat.reduceLT, Nat.reduceLeDiff, Nat.reduceMul, Nat.reduceSub, reduceCtorEq, ↓reduceIte]
          refine ⟨⟨by omega, by omega⟩, by omega, ?_⟩
          rw [bo_set]
          try refine hK _ ?_
          repeat (first | refine awp_seq ?_ | refine awp_block ?_ | refine awp_skip ?_ | refine awp_scope ?_ | refine awp_label ?_)
          refine awp_region tabOk fun K hK => ?_
          simp -dsimp -implicitDefEqProofs only [push_cast, ↓trAdd_f, ↓stOf_f, Nat.reduceBEq, Int.reduceBEq, Int.reduceBNe, Int.reduceNeg, Int.reduceAdd, Int.reduceSub, Int.reduceLT, Int.reduceLE, Int.reduceMul, Nat.reducePow, Int.reducePow, Nat.reduceAdd, Nat.reduceEqDiff, Nat.reduceLT, Nat.reduceLeDiff, Nat.reduceMul, Nat.reduceSub, reduceCtorEq, ↓reduceIte]
          try refine hK _ ?_
          repeat (first | refine awp_seq ?_ | refine awp_block ?_ | refine awp_skip ?_ | refine awp_scope ?_ | refine awp_label ?_)
          refine awp_region tabOk fun K hK => ?_
          simp -dsimp -implicitDefEqProofs only [push_cast, ↓trAdd_f, ↓stOf_f, Nat.reduceBEq, Int.reduceBEq, Int.reduceBNe, Int.reduceNeg, Int.reduceAdd, Int.reduceSub, Int.reduceLT, Int.reduceLE, Int.reduceMul, Nat.reducePow, Int.reducePow, Nat.reduceAdd, Nat.reduceEqDiff, Nat.reduceLT, Nat.reduceLeDiff, Nat.reduceMul, Nat.reduceSub, reduceCtorEq, ↓reduceIte]
          try simp (disch := omega) only [wrap_i64, wrap_u8, wrap_u16, wrap_u32]
          refine hK _ ⟨(j + 1, true), ⟨hj, ?_⟩, ?_, ?_⟩
          · simp only [if_true, Nat.add_sub_cancel]; exact ⟨by omega, hj, hjs, hm⟩
          · show want.length - (j + 1) < want.length - j; omega
          simp only [reF, encGate, encFrame, if_true, Nat.add_sub_cancel]
          refine le_intro hB [] (by simp) (fun b _ => rfl) rfl ?_ ?_ rfl <;> simp -dsimp -implicitDefEqProofs only [ren_bo, ok_bo, List.forall_mem_cons, List.forall_mem_append, forall_nil_i, List.not_mem_nil, Int.natCast_zero, Int.natCast_add, Int.natCast_one, implies_true, imp_self_i, false_imp_i, slotsLe, storeLe, PV.ren, renL, renG, PV.ok, okL, Blk.ren, Blk.ok, distinct, wk, wkA, wkAL, wkC, wkL, wkB, blkLe, List.cons.injEq, true_or, PV.int.injEq, PV.bool.injEq, AS.get, getPV, lk, Int.cast_ofNat_Int, Int.natCast_one, Int.reduceBEq, Int.reduceBNe, Int.reduceNeg, int_toNat_zero_i, Nat.sub_zero, Int.natCast_zero, Int.reduceAdd, Int.reduceSub, Int.reduceLT, Int.reduceLE, Int.reduceMul, Int.zero_add, decide_true, decide_false, Nat.reducePow, Int.reducePow, Nat.reduceAdd, Nat.reduceEqDiff, Nat.reduceLT, Nat.reduceLeDiff, Nat.reduceMul, Nat.reduceSub, Nat.reduceBEq, Nat.le_refl, Nat.zero_add, Nat.add_zero, reduceCtorEq, or_true, true_or, or_false, false_or, if_true, if_false, ↓reduceIte, true_and, and_true, and_self, Bool.not_true, Bool.not_false, cond_true, cond_false, Bool.true_eq_false, Bool.false_eq_true, ne_eq, not_false_eq_true, not_true_eq_false, Bool.and_true, Bool.true_and, Bool.and_false, Bool.false_and, Bool.or_true, Bool.true_or, Bool.or_false, Bool.false_or, List.isEmpty_nil, List.map_cons, List.map_nil, List.length_cons, List.length_nil, List.length_map, List.getD_cons_zero, List.getD_cons_succ, List.getD_nil, List.getElem?_cons_zero, List.getElem?_cons_succ, List.getElem?_nil, List.take_succ_cons, List.take_zero, List.take_nil, List.drop_succ_cons, List.drop_zero, List.drop_nil, List.nil_append, List.cons_append, List.append_nil, Option.getD_some, Option.getD_none, Option.map_some, Option.map_none, Int.toNat_natCast, ok_frm, ok_hop, ok_int, ok_rows, ok_rt, ren_frm, ren_hop, ren_int, ren_rows, ren_rt]
        · refine awp_skip ?_
          have hm : ¬ (seen[j] = false ∧ want[j] = ⟨(a : Int), y⟩) := fun e => by rw [e.1, e.2] at h; simp at h
          try refine hK _ ?_
          repeat (first | refine awp_seq ?_ | refine awp_block ?_ | refine awp_skip ?_ | refine awp_scope ?_ | refine awp_label ?_)
          refine awp_region tabOk fun K hK => ?_
          simp -dsimp -implicitDefEqProofs only [push_cast, ↓trAdd_f, ↓stOf_f, Nat.reduceBEq, Int.reduceBEq, Int.reduceBNe, Int.reduceNeg, Int.reduceAdd, Int.reduceSub, Int.reduceLT, Int.reduceLE, Int.reduceMul, Nat.reducePow, Int.reducePow, Nat.reduceAdd, Nat.reduceEqDiff, Nat.reduceLT, Nat.reduceLeDiff, Nat.reduceMul, Nat.reduceSub, reduceCtorEq, ↓reduceIte]
          try simp (disch := omega) only [wrap_i64, wrap_u8, wrap_u16, wrap_u32]
          refine hK _ ⟨(j + 1, false), ⟨hj, ?_⟩, ?_, ?_⟩
          · simp only [if_false, Bool.false_eq_true]
            intro j' h1 h2 h3
            by_cases e : j' = j
            · subst e; exact hm
            · exact hfd j' h1 h2 (by omega)
          · show want.length - (j + 1) < want.length - j; omega
          simp only [reF, encGate, encFrame, if_false, Bool.false_eq_true]
          refine le_intro hB [] (by simp) (fun b _ => rfl) rfl ?_ ?_ rfl <;> simp -dsimp -implicitDefEqProofs only [ren_bo, ok_bo, List.forall_mem_cons, List.forall_mem_append, forall_nil_i, List.not_mem_nil, Int.natCast_zero, Int.natCast_add, Int.natCast_one, implies_true, imp_self_i, false_imp_i, slotsLe, storeLe, PV.ren, renL, renG, PV.ok, okL, Blk.ren, Blk.ok, distinct, wk, wkA, wkAL, wkC, wkL, wkB, blkLe, List.cons.injEq, true_or, PV.int.injEq, PV.bool.injEq, AS.get, getPV, lk, Int.cast_ofNat_Int, Int.natCast_one, Int.reduceBEq, Int.reduceBNe, Int.reduceNeg, int_toNat_zero_i, Nat.sub_zero, Int.natCast_zero, Int.reduceAdd, Int.reduceSub, Int.reduceLT, Int.reduceLE, Int.reduceMul, Int.zero_add, decide_true, decide_false, Nat.reducePow, Int.reducePow, Nat.reduceAdd, Nat.reduceEqDiff, Nat.reduceLT, Nat.reduceLeDiff, Nat.reduceMul, Nat.reduceSub, Nat.reduceBEq, Nat.le_refl, Nat.zero_add, Nat.add_zero, reduceCtorEq, or_true, true_or, or_false, false_or, if_true, if_false, ↓reduceIte, true_and, and_true, and_self, Bool.not_true, Bool.not_false, cond_true, cond_false, Bool.true_eq_false, Bool.false_eq_true, ne_eq, not_false_eq_true, not_true_eq_false, Bool.and_true, Bool.true_and, Bool.and_false, Bool.false_and, Bool.or_true, Bool.true_or, Bool.or_false, Bool.false_or, List.isEmpty_nil, List.map_cons, List.map_nil, List.length_cons, List.length_nil, List.length_map, List.getD_cons_zero, List.getD_cons_succ, List.getD_nil, List.getElem?_cons_zero, List.getElem?_cons_succ, List.getElem?_nil, List.take_succ_cons, List.take_zero, List.take_nil, List.drop_succ_cons, List.drop_zero, List.drop_nil, List.nil_append, List.cons_append, List.append_nil, Option.getD_some, Option.getD_none, Option.map_some, Option.map_none, Int.toNat_natCast, ok_frm, ok_hop, ok_int, ok_rows, ok_rt, ren_frm, ren_hop, ren_int, ren_rows, ren_rt]
      · refine awp_exit rfl ?_
        have hfd1 : fd = true := by
          cases fd with
          | true => rfl
          | false =>
            exfalso
            simp only [if_false, Bool.false_eq_true] at hfd
            exact hfd i1 hi1 hi2 (by simp at h; omega) ⟨hi3, hi4'⟩
        subst hfd1
        clear h
        simp only [if_true] at hfd
        obtain ⟨hj1, q1, q2, q3, q4⟩ := hfd
        have hgo := hnx _ q1 q2 q3 q4
        have hus := (unseen_set want seen _ q1 q2 q3).length_eq
        have hsl : (seen.set (j - 1) true).length = want.length := by simpa using hA5
        simp only [reF, encGate, encFrame, if_true]
        generalize seen.set (j - 1) true = seen' at *
        try refine hK _ ?_
        repeat (first | refine awp_seq ?_ | refine awp_block ?_ | refine awp_skip ?_ | refine awp_scope ?_ | refine awp_label ?_)
        refine awp_region tabOk fun K hK => ?_
        simp -dsimp -implicitDefEqProofs only [push_cast, ↓trAdd_f, ↓stOf_f, Nat.reduceBEq, Int.reduceBEq, Int.reduceBNe, Int.reduceNeg, Int.reduceAdd, Int.reduceSub, Int.reduceLT, Int.reduceLE, Int.reduceMul, Nat.reducePow, Int.reducePow, Nat.reduceAdd, Nat.reduceEqDiff, Nat.reduceLT, Nat.reduceLeDiff, Nat.reduceMul, Nat.reduceSub, reduceCtorEq, ↓reduceIte]
        try refine hK _ ?_
        repeat (first | refine awp_seq ?_ | refine awp_block ?_ | refine awp_skip ?_ | refine awp_scope ?_ | refine awp_label ?_)
        refine awp_cond (b := false) (by simp -dsimp -implicitDefEqProofs only [push_cast, ↓trAdd_f, ↓stOf_f, Nat.reduceBEq, Int.reduceBEq, Int.reduceBNe, Int.reduceNeg, Int.reduceAdd, Int.reduceSub, Int.reduceLT, Int.reduceLE, Int.reduceMul, Nat.reducePow, Int.reducePow, Nat.reduceAdd, Nat.reduceEqDiff, Nat.reduceLT, Nat.reduceLeDiff, Nat.reduceMul, Nat.reduceSub, reduceCtorEq, ↓reduceIte]) (fun h => ?_) (fun h => ?_)
        · simp at h
        clear h
        refine awp_skip ?_
        try refine hK _ ?_
        repeat (first | refine awp_seq ?_ | refine awp_block ?_ | refine awp_skip ?_ | refine awp_scope ?_ | refine awp_label ?_)
        refine awp_region tabOk fun K hK => ?_
        simp -dsimp -implicitDefEqProofs only [push_cast, ↓trAdd_f, ↓stOf_f, Nat.reduceBEq, Int.reduceBEq, Int.reduceBNe, Int.reduceNeg, Int.reduceAdd, Int.reduceSub, Int.reduceLT, Int.reduceLE, Int.reduceMul, Nat.reducePow, Int.reducePow, Nat.reduceAdd, Nat.reduceEqDiff, Nat.reduceLT, Nat.reduceLeDiff, Nat.reduceMul, Nat.reduceSub, reduceCtorEq, ↓reduceIte]
        try simp (disch := omega) only [wrap_i64, wrap_u8, wrap_u16, wrap_u32]
        try refine hK _ ?_
        repeat (first | refine awp_seq ?_ | refine awp_block ?_ | refine awp_skip ?_ | refine awp_scope ?_ | refine awp_label ?_)
        refine awp_draw tabOk (by kernel_rfl) (by kernel_rfl) fun K hK C hC => ?_
        simp -dsimp -implicitDefEqProofs only [push_cast, ↓trAdd_f, ↓stOf_f, Nat.reduceBEq, Int.reduceBEq, Int.reduceBNe, Int.reduceNeg, Int.reduceAdd, Int.reduceSub, Int.reduceLT, Int.reduceLE, Int.reduceMul, Nat.reducePow, Int.reducePow, Nat.reduceAdd, Nat.reduceEqDiff, Nat.reduceLT, Nat.reduceLeDiff, Nat.reduceMul, Nat.reduceSub, reduceCtorEq, ↓reduceIte]
        refine callK_simple (done_ok G a hsm) ?_ rfl fun _ => ?_
        · simp -dsimp -implicitDefEqProofs only [encGate, take_map_len, restr, List.contains_nil, List.contains_cons, BEq.rfl, Nat.reduceBEq, implies_true, imp_self_i, false_imp_i, argsV, PV.fz, fzL, view, viewA, viewC, viewOk, viewOkA, viewOkC, seenV, ids, idsA, idsC, PV.scalar, PV.scalarA, PV.scalarC, wk, wkA, wkAL, wkC, wkL, wkB, blkLe, true_or, List.mem_cons, List.mem_singleton, List.not_mem_nil, forall_eq_or_imp, forall_eq, List.all_cons, List.all_nil, List.flatMap_cons, List.flatMap_nil, AS.get, getPV, lk, Int.cast_ofNat_Int, Int.natCast_one, Int.reduceBEq, Int.reduceBNe, Int.reduceNeg, int_toNat_zero_i, Nat.sub_zero, Int.natCast_zero, Int.reduceAdd, Int.reduceSub, Int.reduceLT, Int.reduceLE, Int.reduceMul, Int.zero_add, decide_true, decide_false, Nat.reducePow, Int.reducePow, Nat.reduceAdd, Nat.reduceEqDiff, Nat.reduceLT, Nat.reduceLeDiff, Nat.reduceMul, Nat.reduceSub, Nat.reduceBEq, Nat.le_refl, Nat.zero_add, Nat.add_zero, reduceCtorEq, or_true, true_or, or_false, false_or, if_true, if_false, ↓reduceIte, true_and, and_true, and_self, Bool.not_true, Bool.not_false, cond_true, cond_false, Bool.true_eq_false, Bool.false_eq_true, ne_eq, not_false_eq_true, not_true_eq_false, Bool.and_true, Bool.true_and, Bool.and_false, Bool.false_and, Bool.or_true, Bool.true_or, Bool.or_false, Bool.false_or, List.isEmpty_nil, List.map_cons, List.map_nil, List.length_cons, List.length_nil, List.length_map, List.getD_cons_zero, List.getD_cons_succ, List.getD_nil, List.getElem?_cons_zero, List.getElem?_cons_succ, List.getElem?_nil, List.take_succ_cons, List.take_zero, List.take_nil, List.drop_succ_cons, List.drop_zero, List.drop_nil, List.nil_append, List.cons_append, List.append_nil, Option.getD_some, Option.getD_none, Option.map_some, Option.map_none, Int.toNat_natCast, fz_byt, fz_frm, fz_hop, fz_int, fz_rows, fz_rt]
        have hd1 := doneG_good hA1 a
        have hd2 := doneG_okB hA2 a
        have hd3 : (doneG G a).cap = 64 := by unfold doneG; split <;> exact hA4
        have hd4 : (doneG G a).routes = Lc := by rw [doneG_routes]; exact hA3
        generalize doneG G a = Gd at *
        simp -dsimp -implicitDefEqProofs only [encGate, push_cast, ↓trAdd_f, ↓stOf_f, Nat.reduceBEq, Int.reduceBEq, Int.reduceBNe, Int.reduceNeg, Int.reduceAdd, Int.reduceSub, Int.reduceLT, Int.reduceLE, Int.reduceMul, Nat.reducePow, Int.reducePow, Nat.reduceAdd, Nat.reduceEqDiff, Nat.reduceLT, Nat.reduceLeDiff, Nat.reduceMul, Nat.reduceSub, reduceCtorEq, ↓reduceIte]
        refine callK_simple (in_ok2 Gd a y 4 _ hd1 (by omega)) ?_ rfl fun _ => ?_
        · simp -dsimp -implicitDefEqProofs only [encGate, encFrame, take_map_len, restr, List.contains_nil, List.contains_cons, BEq.rfl, Nat.reduceBEq, implies_true, imp_self_i, false_imp_i, argsV, PV.fz, fzL, view, viewA, viewC, viewOk, viewOkA, viewOkC, seenV, ids, idsA, idsC, PV.scalar, PV.scalarA, PV.scalarC, wk, wkA, wkAL, wkC, wkL, wkB, blkLe, true_or, List.mem_cons, List.mem_singleton, List.not_mem_nil, forall_eq_or_imp, forall_eq, List.all_cons, List.all_nil, List.flatMap_cons, List.flatMap_nil, AS.get, getPV, lk, Int.cast_ofNat_Int, Int.natCast_one, Int.reduceBEq, Int.reduceBNe, Int.reduceNeg, int_toNat_zero_i, Nat.sub_zero, Int.natCast_zero, Int.reduceAdd, Int.reduceSub, Int.reduceLT, Int.reduceLE, Int.reduceMul, Int.zero_add, decide_true, decide_false, Nat.reducePow, Int.reducePow, Nat.reduceAdd, Nat.reduceEqDiff, Nat.reduceLT, Nat.reduceLeDiff, Nat.reduceMul, Nat.reduceSub, Nat.reduceBEq, Nat.le_refl, Nat.zero_add, Nat.add_zero, reduceCtorEq, or_true, true_or, or_false, false_or, if_true, if_false, ↓reduceIte, true_and, and_true, and_self, Bool.not_true, Bool.not_false, cond_true, cond_false, Bool.true_eq_false, Bool.false_eq_true, ne_eq, not_false_eq_true, not_true_eq_false, Bool.and_true, Bool.true_and, Bool.and_false, Bool.false_and, Bool.or_true, Bool.true_or, Bool.or_false, Bool.false_or, List.isEmpty_nil, List.map_cons, List.map_nil, List.length_cons, List.length_nil, List.length_map, List.getD_cons_zero, List.getD_cons_succ, List.getD_nil, List.getElem?_cons_zero, List.getElem?_cons_succ, List.getElem?_nil, List.take_succ_cons, List.take_zero, List.take_nil, List.drop_succ_cons, List.drop_zero, List.drop_nil, List.nil_append, List.cons_append, List.append_nil, Option.getD_some, Option.getD_none, Option.map_some, Option.map_none, Int.toNat_natCast, fz_byt, fz_frm, fz_hop, fz_int, fz_rows, fz_rt]
        have hf1 := inG_good hd1 a y
        have hf2 := inG_okB hd2 a y hokw
        have hf3 : (inG Gd a y).routes = Lc := by rw [inG_routes]; exact hd4
        have hf4 : (inG Gd a y).cap = 64 := by rw [inG_cap]; exact hd3
        generalize inG Gd a y = G' at *
        simp -dsimp -implicitDefEqProofs only [encGate, push_cast, ↓trAdd_f, ↓stOf_f, Nat.reduceBEq, Int.reduceBEq, Int.reduceBNe, Int.reduceNeg, Int.reduceAdd, Int.reduceSub, Int.reduceLT, Int.reduceLE, Int.reduceMul, Nat.reducePow, Int.reducePow, Nat.reduceAdd, Nat.reduceEqDiff, Nat.reduceLT, Nat.reduceLeDiff, Nat.reduceMul, Nat.reduceSub, reduceCtorEq, ↓reduceIte]
        refine ⟨hC _ (by kernel_rfl), hK _ ?_⟩
        clear hC C
        try refine hK _ ?_
        repeat (first | refine awp_seq ?_ | refine awp_block ?_ | refine awp_skip ?_ | refine awp_scope ?_ | refine awp_label ?_)
        refine awp_region tabOk fun K hK => ?_
        simp -dsimp -implicitDefEqProofs only [push_cast, ↓trAdd_f, ↓stOf_f, Nat.reduceBEq, Int.reduceBEq, Int.reduceBNe, Int.reduceNeg, Int.reduceAdd, Int.reduceSub, Int.reduceLT, Int.reduceLE, Int.reduceMul, Nat.reducePow, Int.reducePow, Nat.reduceAdd, Nat.reduceEqDiff, Nat.reduceLT, Nat.reduceLeDiff, Nat.reduceMul, Nat.reduceSub, reduceCtorEq, ↓reduceIte]
        try simp (disch := omega) only [wrap_i64, wrap_u8, wrap_u16, wrap_u32]
        refine hK _ ⟨(k + 1, G', seen'), ⟨hkw, ?_, hf2, hf3, hf4, hsl, ?_, hgo⟩, ?_, ?_⟩
        · exact ⟨hf1.n4, hf1.outs, hf1.losts, hf1.cap1, hf1.cap64, hf1.rts, hf1.rt, hf1.row, fun x hx => by have := hf1.lst x hx; omega⟩
        · simp only [List.length_cons] at hus; show (unseen want seen').length + (k + 1) = want.length; omega
        · show want.length - (k + 1) < want.length - k; omega
        simp only [reS, encGate]
        refine le_intro hB [] (by simp) (fun b _ => rfl) rfl ?_ ?_ rfl <;> simp -dsimp -implicitDefEqProofs only [ren_bo, ok_bo, List.forall_mem_cons, List.forall_mem_append, forall_nil_i, List.not_mem_nil, Int.natCast_zero, Int.natCast_add, Int.natCast_one, implies_true, imp_self_i, false_imp_i, slotsLe, storeLe, PV.ren, renL, renG, PV.ok, okL, Blk.ren, Blk.ok, distinct, wk, wkA, wkAL, wkC, wkL, wkB, blkLe, List.cons.injEq, true_or, PV.int.injEq, PV.bool.injEq, AS.get, getPV, lk, Int.cast_ofNat_Int, Int.natCast_one, Int.reduceBEq, Int.reduceBNe, Int.reduceNeg, int_toNat_zero_i, Nat.sub_zero, Int.natCast_zero, Int.reduceAdd, Int.reduceSub, Int.reduceLT, Int.reduceLE, Int.reduceMul, Int.zero_add, decide_true, decide_false, Nat.reducePow, Int.reducePow, Nat.reduceAdd, Nat.reduceEqDiff, Nat.reduceLT, Nat.reduceLeDiff, Nat.reduceMul, Nat.reduceSub, Nat.reduceBEq, Nat.le_refl, Nat.zero_add, Nat.add_zero, reduceCtorEq, or_true, true_or, or_false, false_or, if_true, if_false, ↓reduceIte, true_and, and_true, and_self, Bool.not_true, Bool.not_false, cond_true, cond_false, Bool.true_eq_false, Bool.false_eq_true, ne_eq, not_false_eq_true, not_true_eq_false, Bool.and_true, Bool.true_and, Bool.and_false, Bool.false_and, Bool.or_true, Bool.true_or, Bool.or_false, Bool.false_or, List.isEmpty_nil, List.map_cons, List.map_nil, List.length_cons, List.length_nil, List.length_map, List.getD_cons_zero, List.getD_cons_succ, List.getD_nil, List.getElem?_cons_zero, List.getElem?_cons_succ, List.getElem?_nil, List.take_succ_cons, List.take_zero, List.take_nil, List.drop_succ_cons, List.drop_zero, List.drop_nil, List.nil_append, List.cons_append, List.append_nil, Option.getD_some, Option.getD_none, Option.map_some, Option.map_none, Int.toNat_natCast, ok_frm, ok_hop, ok_int, ok_rows, ok_rt, ren_frm, ren_hop, ren_int, ren_rows, ren_rt]
  · refine awp_exit rfl ?_
    have hke : k = want.length := by simp at h; omega
    subst hke
    have hw0 : waits G = 0 := by
      rw [waits_wait G hGo]
      have h1 := goes_wait hA7
      omega
    try refine hK _ ?_
    repeat (first | refine awp_seq ?_ | refine awp_block ?_ | refine awp_skip ?_ | refine awp_scope ?_ | refine awp_label ?_)
    refine awp_region tabOk fun K hK => ?_
    simp -dsimp -implicitDefEqProofs only [push_cast, ↓trAdd_f, ↓stOf_f, Nat.reduceBEq, Int.reduceBEq, Int.reduceBNe, Int.reduceNeg, Int.reduceAdd, Int.reduceSub, Int.reduceLT, Int.reduceLE, Int.reduceMul, Nat.reducePow, Int.reducePow, Nat.reduceAdd, Nat.reduceEqDiff, Nat.reduceLT, Nat.reduceLeDiff, Nat.reduceMul, Nat.reduceSub, reduceCtorEq, ↓reduceIte]
    refine callK_simple (waits_ok G hsm) ?_ rfl fun _ => ?_
    · simp -dsimp -implicitDefEqProofs only [encGate, take_map_len, restr, List.contains_nil, List.contains_cons, BEq.rfl, Nat.reduceBEq, implies_true, imp_self_i, false_imp_i, argsV, PV.fz, fzL, view, viewA, viewC, viewOk, viewOkA, viewOkC, seenV, ids, idsA, idsC, PV.scalar, PV.scalarA, PV.scalarC, wk, wkA, wkAL, wkC, wkL, wkB, blkLe, true_or, List.mem_cons, List.mem_singleton, List.not_mem_nil, forall_eq_or_imp, forall_eq, List.all_cons, List.all_nil, List.flatMap_cons, List.flatMap_nil, AS.get, getPV, lk, Int.cast_ofNat_Int, Int.natCast_one, Int.reduceBEq, Int.reduceBNe, Int.reduceNeg, int_toNat_zero_i, Nat.sub_zero, Int.natCast_zero, Int.reduceAdd, Int.reduceSub, Int.reduceLT, Int.reduceLE, Int.reduceMul, Int.zero_add, decide_true, decide_false, Nat.reducePow, Int.reducePow, Nat.reduceAdd, Nat.reduceEqDiff, Nat.reduceLT, Nat.reduceLeDiff, Nat.reduceMul, Nat.reduceSub, Nat.reduceBEq, Nat.le_refl, Nat.zero_add, Nat.add_zero, reduceCtorEq, or_true, true_or, or_false, false_or, if_true, if_false, ↓reduceIte, true_and, and_true, and_self, Bool.not_true, Bool.not_false, cond_true, cond_false, Bool.true_eq_false, Bool.false_eq_true, ne_eq, not_false_eq_true, not_true_eq_false, Bool.and_true, Bool.true_and, Bool.and_false, Bool.false_and, Bool.or_true, Bool.true_or, Bool.or_false, Bool.false_or, List.isEmpty_nil, List.map_cons, List.map_nil, List.length_cons, List.length_nil, List.length_map, List.getD_cons_zero, List.getD_cons_succ, List.getD_nil, List.getElem?_cons_zero, List.getElem?_cons_succ, List.getElem?_nil, List.take_succ_cons, List.take_zero, List.take_nil, List.drop_succ_cons, List.drop_zero, List.drop_nil, List.nil_append, List.cons_append, List.append_nil, Option.getD_some, Option.getD_none, Option.map_some, Option.map_none, Int.toNat_natCast, fz_byt, fz_frm, fz_hop, fz_int, fz_rows, fz_rt]
    rw [hw0]
    simp -dsimp -implicitDefEqProofs only [push_cast, ↓trAdd_f, ↓stOf_f, Nat.reduceBEq, Int.reduceBEq, Int.reduceBNe, Int.reduceNeg, Int.reduceAdd, Int.reduceSub, Int.reduceLT, Int.reduceLE, Int.reduceMul, Nat.reducePow, Int.reducePow, Nat.reduceAdd, Nat.reduceEqDiff, Nat.reduceLT, Nat.reduceLeDiff, Nat.reduceMul, Nat.reduceSub, reduceCtorEq, ↓reduceIte]
    refine hK _ (awp_ret ?_)
    simp -dsimp -implicitDefEqProofs only [List.flatMap_cons, List.flatMap_nil, List.mem_append, Blk.ok, PV.ok, okL, List.length_append, take_map_len, implies_true, imp_self_i, false_imp_i, endOk, resVals, joinRes, view, viewA, viewC, viewOk, viewOkA, viewOkC, storeEnd, wk, wkA, wkAL, wkC, wkL, wkB, blkLe, true_or, PV.int.injEq, PV.bool.injEq, idsA, PV.fz, fzL, ids, idsC, fLoad, outP, TI.n, TI.isAgg, List.not_mem_nil, List.mem_cons, List.mem_singleton, forall_eq_or_imp, forall_eq, AS.get, getPV, lk, Int.cast_ofNat_Int, Int.natCast_one, Int.reduceBEq, Int.reduceBNe, Int.reduceNeg, int_toNat_zero_i, Nat.sub_zero, Int.natCast_zero, Int.reduceAdd, Int.reduceSub, Int.reduceLT, Int.reduceLE, Int.reduceMul, Int.zero_add, decide_true, decide_false, Nat.reducePow, Int.reducePow, Nat.reduceAdd, Nat.reduceEqDiff, Nat.reduceLT, Nat.reduceLeDiff, Nat.reduceMul, Nat.reduceSub, Nat.reduceBEq, Nat.le_refl, Nat.zero_add, Nat.add_zero, reduceCtorEq, or_true, true_or, or_false, false_or, if_true, if_false, ↓reduceIte, true_and, and_true, and_self, Bool.not_true, Bool.not_false, cond_true, cond_false, Bool.true_eq_false, Bool.false_eq_true, ne_eq, not_false_eq_true, not_true_eq_false, Bool.and_true, Bool.true_and, Bool.and_false, Bool.false_and, Bool.or_true, Bool.true_or, Bool.or_false, Bool.false_or, List.isEmpty_nil, List.map_cons, List.map_nil, List.length_cons, List.length_nil, List.length_map, List.getD_cons_zero, List.getD_cons_succ, List.getD_nil, List.getElem?_cons_zero, List.getElem?_cons_succ, List.getElem?_nil, List.take_succ_cons, List.take_zero, List.take_nil, List.drop_succ_cons, List.drop_zero, List.drop_nil, List.nil_append, List.cons_append, List.append_nil, Option.getD_some, Option.getD_none, Option.map_some, Option.map_none, Int.toNat_natCast, T_1, T_2, T_3, T_4, T_5, T_6, T_7, T_8, T_9, T_10, T_11, T_12, T_13, T_14, T_15, T_16, T_17, T_18, T_19, T_21, T_22, T_23, T_24, T_25, T_26, T_27, T_28, T_29, T_30, T_31, T_33, T_34, T_35, T_36, T_37, T_38, T_39, T_40, T_41, T_42, T_43, T_45, T_46, T_47, T_48, T_49, T_50, T_51, T_52, T_53, T_54, T_55, T_56, T_57, T_58, T_59, T_60, T_61, T_62, T_63, T_64, T_65, T_66, T_67, T_68, T_69, T_70, T_71, T_72, T_73, T_74, T_75, T_76, T_77, T_78, T_79, T_80, T_81, T_82, T_83, T_84, T_85, T_86, T_87, T_88, T_89, T_90, T_91, T_92, T_93, T_94, T_95, T_96, T_97, T_98, fz_byt, fz_frm, fz_hop, fz_int, fz_rows, fz_rt]
theorem lawGateReach (y0 : List Route) (y1 : Sent) (ok0 : y0.length * 48 ≤ 140737488351232 ∧ y0.length ≤ 140737488351232 ∧ ∀ r ∈ y0, r.wf) (ok1 : I64 y1.bus ∧ y1.f.wf) : FnS Try.prog 6 [.sl false 6 (y0.map encRoute), .agg (encSent y1)] [] (.bool true) [] :=
  gateReach_ok y0 y1 ok1.2
end Go.Proofs.YtcpfkcipnkeokaaFw
