/-
  Walks: package gate: Done, In.
-/
import Derived.Test.YtcpfkcipnkeokaaWG
namespace Go.Proofs.YtcpfkcipnkeokaaFw
open Go Go.Proofs
set_option maxRecDepth 100000
set_option linter.unusedVariables false
set_option linter.unusedSimpArgs false

def doneG (g : Gate) (bus : Int) : Gate := if has g bus then { g with out := chg doneF g.out bus } else g
theorem done_ok (g : Gate) (bus : Int) (hg : g.small) : FnS Try.prog 14 [.agg (encGate g), .int .i64 bus] [] (.agg (encGate (doneG g bus))) [] := by
  refine fn_walk tabOk Try.func14 rfl (by decide +kernel) Try.ntmps14 Try.results14 (by simp) fun B hB => ?_
  simp only [encGate]
  try refine hK _ ?_
  repeat (first | refine awp_seq ?_ | refine awp_block ?_ | refine awp_skip ?_ | refine awp_scope ?_ | refine awp_label ?_)
  refine awp_region tabOk fun K hK => ?_
  simp -dsimp -implicitDefEqProofs only [push_cast, ↓trAdd_f, ↓stOf_f, Nat.reduceBEq, Int.reduceBEq, Int.reduceBNe, Int.reduceNeg, Int.reduceAdd, Int.reduceSub, Int.reduceLT, Int.reduceLE, Int.reduceMul, Nat.reducePow, Int.reducePow, Nat.reduceAdd, Nat.reduceEqDiff, Nat.reduceLT, Nat.reduceLeDiff, Nat.reduceMul, Nat.reduceSub, reduceCtorEq, ↓reduceIte]
  try refine hK _ ?_
  repeat (first | refine awp_seq ?_ | refine awp_block ?_ | refine awp_skip ?_ | refine awp_scope ?_ | refine awp_label ?_)
  refine awp_region tabOk fun K hK => ?_
  simp -dsimp -implicitDefEqProofs only [push_cast, ↓trAdd_f, ↓stOf_f, Nat.reduceBEq, Int.reduceBEq, Int.reduceBNe, Int.reduceNeg, Int.reduceAdd, Int.reduceSub, Int.reduceLT, Int.reduceLE, Int.reduceMul, Nat.reducePow, Int.reducePow, Nat.reduceAdd, Nat.reduceEqDiff, Nat.reduceLT, Nat.reduceLeDiff, Nat.reduceMul, Nat.reduceSub, reduceCtorEq, ↓reduceIte]
  refine callK_simple (has_ok g bus) ?_ rfl fun _ => ?_
  · simp -dsimp -implicitDefEqProofs only [encGate, take_map_len, restr, List.contains_nil, List.contains_cons, BEq.rfl, Nat.reduceBEq, implies_true, imp_self_i, false_imp_i, argsV, PV.fz, fzL, view, viewA, viewC, viewOk, viewOkA, viewOkC, seenV, ids, idsA, idsC, PV.scalar, PV.scalarA, PV.scalarC, wk, wkA, wkAL, wkC, wkL, wkB, blkLe, true_or, List.mem_cons, List.mem_singleton, List.not_mem_nil, forall_eq_or_imp, forall_eq, List.all_cons, List.all_nil, List.flatMap_cons, List.flatMap_nil, AS.get, getPV, lk, Int.cast_ofNat_Int, Int.natCast_one, Int.reduceBEq, Int.reduceBNe, Int.reduceNeg, int_toNat_zero_i, Nat.sub_zero, Int.natCast_zero, Int.reduceAdd, Int.reduceSub, Int.reduceLT, Int.reduceLE, Int.reduceMul, Int.zero_add, decide_true, decide_false, Nat.reducePow, Int.reducePow, Nat.reduceAdd, Nat.reduceEqDiff, Nat.reduceLT, Nat.reduceLeDiff, Nat.reduceMul, Nat.reduceSub, Nat.reduceBEq, Nat.le_refl, Nat.zero_add, Nat.add_zero, reduceCtorEq, or_true, true_or, or_false, false_or, if_true, if_false, ↓reduceIte, true_and, and_true, and_self, Bool.not_true, Bool.not_false, cond_true, cond_false, Bool.true_eq_false, Bool.false_eq_true, ne_eq, not_false_eq_true, not_true_eq_false, Bool.and_true, Bool.true_and, Bool.and_false, Bool.false_and, Bool.or_true, Bool.true_or, Bool.or_false, Bool.false_or, List.isEmpty_nil, List.map_cons, List.map_nil, List.length_cons, List.length_nil, List.length_map, List.getD_cons_zero, List.getD_cons_succ, List.getD_nil, List.getElem?_cons_zero, List.getElem?_cons_succ, List.getElem?_nil, List.take_succ_cons, List.take_zero, List.take_nil, List.drop_succ_cons, List.drop_zero, List.drop_nil, List.nil_append, List.cons_append, List.append_nil, Option.getD_some, Option.getD_none, Option.map_some, Option.map_none, Int.toNat_natCast, fz_byt, fz_frm, fz_hop, fz_int, fz_rows, fz_rt]
  simp -dsimp -implicitDefEqProofs only [push_cast, ↓trAdd_f, ↓stOf_f, Nat.reduceBEq, Int.reduceBEq, Int.reduceBNe, Int.reduceNeg, Int.reduceAdd, Int.reduceSub, Int.reduceLT, Int.reduceLE, Int.reduceMul, Nat.reducePow, Int.reducePow, Nat.reduceAdd, Nat.reduceEqDiff, Nat.reduceLT, Nat.reduceLeDiff, Nat.reduceMul, Nat.reduceSub, reduceCtorEq, ↓reduceIte]
  try refine hK _ ?_
  repeat (first | refine awp_seq ?_ | refine awp_block ?_ | refine awp_skip ?_ | refine awp_scope ?_ | refine awp_label ?_)
  refine awp_cond (b := !has g bus) (by simp -dsimp -implicitDefEqProofs only [push_cast, ↓trAdd_f, ↓stOf_f, Nat.reduceBEq, Int.reduceBEq, Int.reduceBNe, Int.reduceNeg, Int.reduceAdd, Int.reduceSub, Int.reduceLT, Int.reduceLE, Int.reduceMul, Nat.reducePow, Int.reducePow, Nat.reduceAdd, Nat.reduceEqDiff, Nat.reduceLT, Nat.reduceLeDiff, Nat.reduceMul, Nat.reduceSub, reduceCtorEq, ↓reduceIte]) (fun h => ?_) (fun h => ?_)
  · try refine hK _ ?_
    repeat (first | refine awp_seq ?_ | refine awp_block ?_ | refine awp_skip ?_ | refine awp_scope ?_ | refine awp_label ?_)
    refine awp_region tabOk fun K hK => ?_
    simp -dsimp -implicitDefEqProofs only [push_cast, ↓trAdd_f, ↓stOf_f, Nat.reduceBEq, Int.reduceBEq, Int.reduceBNe, Int.reduceNeg, Int.reduceAdd, Int.reduceSub, Int.reduceLT, Int.reduceLE, Int.reduceMul, Nat.reducePow, Int.reducePow, Nat.reduceAdd, Nat.reduceEqDiff, Nat.reduceLT, Nat.reduceLeDiff, Nat.reduceMul, Nat.reduceSub, reduceCtorEq, ↓reduceIte]
    refine hK _ (awp_ret ?_)
    have h2 : has g bus = false := by simpa using h
    simp -dsimp -implicitDefEqProofs only [doneG, h2, List.flatMap_cons, List.flatMap_nil, List.mem_append, Blk.ok, PV.ok, okL, List.length_append, take_map_len, implies_true, imp_self_i, false_imp_i, endOk, resVals, joinRes, view, viewA, viewC, viewOk, viewOkA, viewOkC, storeEnd, wk, wkA, wkAL, wkC, wkL, wkB, blkLe, true_or, PV.int.injEq, PV.bool.injEq, idsA, PV.fz, fzL, ids, idsC, fLoad, outP, TI.n, TI.isAgg, List.not_mem_nil, List.mem_cons, List.mem_singleton, forall_eq_or_imp, forall_eq, AS.get, getPV, lk, Int.cast_ofNat_Int, Int.natCast_one, Int.reduceBEq, Int.reduceBNe, Int.reduceNeg, int_toNat_zero_i, Nat.sub_zero, Int.natCast_zero, Int.reduceAdd, Int.reduceSub, Int.reduceLT, Int.reduceLE, Int.reduceMul, Int.zero_add, decide_true, decide_false, Nat.reducePow, Int.reducePow, Nat.reduceAdd, Nat.reduceEqDiff, Nat.reduceLT, Nat.reduceLeDiff, Nat.reduceMul, Nat.reduceSub, Nat.reduceBEq, Nat.le_refl, Nat.zero_add, Nat.add_zero, reduceCtorEq, or_true, true_or, or_false, false_or, if_true, if_false, ↓reduceIte, true_and, and_true, and_self, Bool.not_true, Bool.not_false, cond_true, cond_false, Bool.true_eq_false, Bool.false_eq_true, ne_eq, not_false_eq_true, not_true_eq_false, Bool.and_true, Bool.true_and, Bool.and_false, Bool.false_and, Bool.or_true, Bool.true_or, Bool.or_false, Bool.false_or, List.isEmpty_nil, List.map_cons, List.map_nil, List.length_cons, List.length_nil, List.length_map, List.getD_cons_zero, List.getD_cons_succ, List.getD_nil, List.getElem?_cons_zero, List.getElem?_cons_succ, List.getElem?_nil, List.take_succ_cons, List.take_zero, List.take_nil, List.drop_succ_cons, List.drop_zero, List.drop_nil, List.nil_append, List.cons_append, List.append_nil, Option.getD_some, Option.getD_none, Option.map_some, Option.map_none, Int.toNat_natCast, T_1, T_2, T_3, T_4, T_5, T_6, T_7, T_8, T_9, T_10, T_11, T_12, T_13, T_14, T_15, T_16, T_17, T_18, T_19, T_21, T_22, T_23, T_24, T_25, T_26, T_27, T_28, T_29, T_30, T_31, T_33, T_34, T_35, T_36, T_37, T_38, T_39, T_40, T_41, T_42, T_43, T_45, T_46, T_47, T_48, T_49, T_50, T_51, T_52, T_53, T_54, T_55, T_56, T_57, T_58, T_59, T_60, T_61, T_62, T_63, T_64, T_65, T_66, T_67, T_68, T_69, T_70, T_71, T_72, T_73, T_74, T_75, T_76, T_77, T_78, T_79, T_80, T_81, T_82, T_83, T_84, T_85, T_86, T_87, T_88, T_89, T_90, T_91, T_92, T_93, T_94, T_95, T_96, T_97, T_98, fz_byt, fz_frm, fz_hop, fz_int, fz_rows, fz_rt]
  · have h2 : has g bus = true := by simpa using h
    try refine hK _ ?_
    repeat (first | refine awp_seq ?_ | refine awp_block ?_ | refine awp_skip ?_ | refine awp_scope ?_ | refine awp_label ?_)
    refine awp_region tabOk fun K hK => ?_
    simp -dsimp -implicitDefEqProofs only [push_cast, ↓trAdd_f, ↓stOf_f, Nat.reduceBEq, Int.reduceBEq, Int.reduceBNe, Int.reduceNeg, Int.reduceAdd, Int.reduceSub, Int.reduceLT, Int.reduceLE, Int.reduceMul, Nat.reducePow, Int.reducePow, Nat.reduceAdd, Nat.reduceEqDiff, Nat.reduceLT, Nat.reduceLeDiff, Nat.reduceMul, Nat.reduceSub, reduceCtorEq, ↓reduceIte]
    refine callK_simple (changed33_ok g bus hg ?_) ?_ rfl fun _ => ?_
    · intro i hi hl
      unfold has at h2
      subst hi
      have e : g.out.getD i [] = g.out[i] := by simp [List.getD, hl]
      simp only [Int.toNat_natCast, e] at h2
      simp at h2
      omega
    · simp -dsimp -implicitDefEqProofs only [encGate, take_map_len, restr, List.contains_nil, List.contains_cons, BEq.rfl, Nat.reduceBEq, implies_true, imp_self_i, false_imp_i, argsV, PV.fz, fzL, view, viewA, viewC, viewOk, viewOkA, viewOkC, seenV, ids, idsA, idsC, PV.scalar, PV.scalarA, PV.scalarC, wk, wkA, wkAL, wkC, wkL, wkB, blkLe, true_or, List.mem_cons, List.mem_singleton, List.not_mem_nil, forall_eq_or_imp, forall_eq, List.all_cons, List.all_nil, List.flatMap_cons, List.flatMap_nil, AS.get, getPV, lk, Int.cast_ofNat_Int, Int.natCast_one, Int.reduceBEq, Int.reduceBNe, Int.reduceNeg, int_toNat_zero_i, Nat.sub_zero, Int.natCast_zero, Int.reduceAdd, Int.reduceSub, Int.reduceLT, Int.reduceLE, Int.reduceMul, Int.zero_add, decide_true, decide_false, Nat.reducePow, Int.reducePow, Nat.reduceAdd, Nat.reduceEqDiff, Nat.reduceLT, Nat.reduceLeDiff, Nat.reduceMul, Nat.reduceSub, Nat.reduceBEq, Nat.le_refl, Nat.zero_add, Nat.add_zero, reduceCtorEq, or_true, true_or, or_false, false_or, if_true, if_false, ↓reduceIte, true_and, and_true, and_self, Bool.not_true, Bool.not_false, cond_true, cond_false, Bool.true_eq_false, Bool.false_eq_true, ne_eq, not_false_eq_true, not_true_eq_false, Bool.and_true, Bool.true_and, Bool.and_false, Bool.false_and, Bool.or_true, Bool.true_or, Bool.or_false, Bool.false_or, List.isEmpty_nil, List.map_cons, List.map_nil, List.length_cons, List.length_nil, List.length_map, List.getD_cons_zero, List.getD_cons_succ, List.getD_nil, List.getElem?_cons_zero, List.getElem?_cons_succ, List.getElem?_nil, List.take_succ_cons, List.take_zero, List.take_nil, List.drop_succ_cons, List.drop_zero, List.drop_nil, List.nil_append, List.cons_append, List.append_nil, Option.getD_some, Option.getD_none, Option.map_some, Option.map_none, Int.toNat_natCast, fz_byt, fz_frm, fz_hop, fz_int, fz_rows, fz_rt]
    simp -dsimp -implicitDefEqProofs only [encGate, push_cast, ↓trAdd_f, ↓stOf_f, Nat.reduceBEq, Int.reduceBEq, Int.reduceBNe, Int.reduceNeg, Int.reduceAdd, Int.reduceSub, Int.reduceLT, Int.reduceLE, Int.reduceMul, Nat.reducePow, Int.reducePow, Nat.reduceAdd, Nat.reduceEqDiff, Nat.reduceLT, Nat.reduceLeDiff, Nat.reduceMul, Nat.reduceSub, reduceCtorEq, ↓reduceIte]
    refine hK _ (awp_ret ?_)
    simp -dsimp -implicitDefEqProofs only [doneG, h2, List.flatMap_cons, List.flatMap_nil, List.mem_append, Blk.ok, PV.ok, okL, List.length_append, take_map_len, implies_true, imp_self_i, false_imp_i, endOk, resVals, joinRes, view, viewA, viewC, viewOk, viewOkA, viewOkC, storeEnd, wk, wkA, wkAL, wkC, wkL, wkB, blkLe, true_or, PV.int.injEq, PV.bool.injEq, idsA, PV.fz, fzL, ids, idsC, fLoad, outP, TI.n, TI.isAgg, List.not_mem_nil, List.mem_cons, List.mem_singleton, forall_eq_or_imp, forall_eq, AS.get, getPV, lk, Int.cast_ofNat_Int, Int.natCast_one, Int.reduceBEq, Int.reduceBNe, Int.reduceNeg, int_toNat_zero_i, Nat.sub_zero, Int.natCast_zero, Int.reduceAdd, Int.reduceSub, Int.reduceLT, Int.reduceLE, Int.reduceMul, Int.zero_add, decide_true, decide_false, Nat.reducePow, Int.reducePow, Nat.reduceAdd, Nat.reduceEqDiff, Nat.reduceLT, Nat.reduceLeDiff, Nat.reduceMul, Nat.reduceSub, Nat.reduceBEq, Nat.le_refl, Nat.zero_add, Nat.add_zero, reduceCtorEq, or_true, true_or, or_false, false_or, if_true, if_false, ↓reduceIte, true_and, and_true, and_self, Bool.not_true, Bool.not_false, cond_true, cond_false, Bool.true_eq_false, Bool.false_eq_true, ne_eq, not_false_eq_true, not_true_eq_false, Bool.and_true, Bool.true_and, Bool.and_false, Bool.false_and, Bool.or_true, Bool.true_or, Bool.or_false, Bool.false_or, List.isEmpty_nil, List.map_cons, List.map_nil, List.length_cons, List.length_nil, List.length_map, List.getD_cons_zero, List.getD_cons_succ, List.getD_nil, List.getElem?_cons_zero, List.getElem?_cons_succ, List.getElem?_nil, List.take_succ_cons, List.take_zero, List.take_nil, List.drop_succ_cons, List.drop_zero, List.drop_nil, List.nil_append, List.cons_append, List.append_nil, Option.getD_some, Option.getD_none, Option.map_some, Option.map_none, Int.toNat_natCast, T_1, T_2, T_3, T_4, T_5, T_6, T_7, T_8, T_9, T_10, T_11, T_12, T_13, T_14, T_15, T_16, T_17, T_18, T_19, T_21, T_22, T_23, T_24, T_25, T_26, T_27, T_28, T_29, T_30, T_31, T_33, T_34, T_35, T_36, T_37, T_38, T_39, T_40, T_41, T_42, T_43, T_45, T_46, T_47, T_48, T_49, T_50, T_51, T_52, T_53, T_54, T_55, T_56, T_57, T_58, T_59, T_60, T_61, T_62, T_63, T_64, T_65, T_66, T_67, T_68, T_69, T_70, T_71, T_72, T_73, T_74, T_75, T_76, T_77, T_78, T_79, T_80, T_81, T_82, T_83, T_84, T_85, T_86, T_87, T_88, T_89, T_90, T_91, T_92, T_93, T_94, T_95, T_96, T_97, T_98, fz_byt, fz_frm, fz_hop, fz_int, fz_rows, fz_rt]

def bump (l : List Int) (i : Nat) : List Int := l.set i (l.getD i 0 + 1)
theorem bump_set (l : List Int) (b : Nat) (h : b < l.length) : (l.map encI).set b [.int .i64 (l[b] + 1)] = (bump l b).map encI := by
  unfold bump
  rw [List.map_set, show l.getD b 0 = l[b] by simp [List.getD, h]]
  rfl
theorem bump_len (l : List Int) (b : Nat) : (bump l b).length = l.length := by simp [bump]
structure Gate.good (g : Gate) (n : Nat) (m : Int) : Prop where
  n4 : n ≤ 4
  outs : g.out.length = n
  losts : g.lost.length = n
  cap1 : 1 ≤ g.cap
  cap64 : g.cap ≤ 64
  rts : g.routes.length ≤ 16
  rt : ∀ r ∈ g.routes, 0 ≤ r.to ∧ r.to < n
  row : ∀ l ∈ g.out, (l.length : Int) ≤ g.cap
  lst : ∀ x ∈ g.lost, 0 ≤ x ∧ x ≤ m
theorem Gate.good.small {g : Gate} {n : Nat} {m : Int} (h : g.good n m) : g.small :=
  ⟨by have := h.rts; omega, by have := h.outs; have := h.n4; omega, by have := h.losts; have := h.n4; omega, fun l hl => by have := h.row l hl; have := h.cap64; omega⟩
def stepIn (g : Gate) (h : Hop) : Gate :=
  if decide (((g.out.getD h.to.toNat []).length : Int) < g.cap) = true then { g with out := chg (addF h) g.out h.to } else { g with lost := bump g.lost h.to.toNat }
theorem stepIn_good {g : Gate} {n : Nat} {m : Int} (hg : g.good n m) (h : Hop) (h0 : 0 ≤ h.to) (h1 : h.to < n) : (stepIn g h).good n (m + 1) := by
  obtain ⟨b, e⟩ := Int.eq_ofNat_of_zero_le h0
  have hb : b < n := by omega
  unfold stepIn
  split
  · rename_i hc
    have hc : ((g.out.getD h.to.toNat []).length : Int) < g.cap := by simpa using hc
    refine ⟨hg.n4, by rw [← hg.outs]; exact chg_len _ _ _, hg.losts, hg.cap1, hg.cap64, hg.rts, hg.rt, fun l hl => ?_, fun x hx => by have := hg.lst x hx; omega⟩
    simp only [chg, List.mem_mapIdx] at hl
    obtain ⟨i, hi, rfl⟩ := hl
    split
    · rename_i e2
      have : i = b := by omega
      subst this
      rw [e, Int.toNat_natCast, show g.out.getD i [] = g.out[i] by simp [List.getD, hi]] at hc
      simp only [addF, List.length_append, List.length_singleton]
      omega
    · exact hg.row _ (List.getElem_mem hi)
  · refine ⟨hg.n4, hg.outs, by simp [bump, hg.losts], hg.cap1, hg.cap64, hg.rts, hg.rt, hg.row, fun x hx => ?_⟩
    rcases List.mem_or_eq_of_mem_set hx with hx | rfl
    · have := hg.lst x hx; omega
    · have hb' : h.to.toNat < g.lost.length := by rw [hg.losts]; omega
      rw [show g.lost.getD h.to.toNat 0 = g.lost[h.to.toNat] by simp [List.getD, hb']]
      have := hg.lst _ (List.getElem_mem hb')
      omega
theorem foldIn_good {n : Nat} : ∀ (l : List Hop) (g : Gate) (m : Int), g.good n m → (∀ h ∈ l, 0 ≤ h.to ∧ h.to < (n : Int)) → (l.foldl stepIn g).good n (m + l.length)
  | [], g, m, hg, _ => by simpa using hg
  | h :: l, g, m, hg, hh => by
    have h1 := stepIn_good hg h (hh h (by simp)).1 (hh h (by simp)).2
    have h2 := foldIn_good l _ _ h1 fun x hx => hh x (by simp [hx])
    rw [List.foldl_cons, List.length_cons]
    have : m + ((l.length + 1 : Nat) : Int) = m + 1 + l.length := by omega
    rw [this]; exact h2
theorem foldIn_routes : ∀ (l : List Hop) (g : Gate), (l.foldl stepIn g).routes = g.routes ∧ (l.foldl stepIn g).cap = g.cap
  | [], g => ⟨rfl, rfl⟩
  | h :: l, g => by
    have h1 := foldIn_routes l (stepIn g h)
    rw [List.foldl_cons, h1.1, h1.2]
    unfold stepIn; split <;> exact ⟨rfl, rfl⟩
theorem hops_to {g : Gate} {n : Nat} {m : Int} (hg : g.good n m) (bus : Int) (f : Frame) : ∀ h ∈ hops g.routes bus f, 0 ≤ h.to ∧ h.to < n := by
  intro h hh
  obtain ⟨r, hr, rfl⟩ := List.mem_map.1 hh
  exact hg.rt r (List.mem_filter.1 hr).1
def inG (g : Gate) (bus : Int) (f : Frame) : Gate := (hops g.routes bus f).foldl stepIn g
theorem in_ok2 (g : Gate) (bus : Int) (f : Frame) (n : Nat) (m : Int) (hg : g.good n m) (hm : m ≤ 1000000000) : FnS Try.prog 16 [.agg (encGate g), .int .i64 bus, .agg (encFrame false f)] [] (.agg (encGate (inG g bus f))) [] := by
  refine fn_walk tabOk Try.func16 rfl (by decide +kernel) Try.ntmps16 Try.results16 (by simp) fun B hB => ?_
  simp only [encGate, encFrame]
  try refine hK _ ?_
  repeat (first | refine awp_seq ?_ | refine awp_block ?_ | refine awp_skip ?_ | refine awp_scope ?_ | refine awp_label ?_)
  refine awp_region tabOk fun K hK => ?_
  simp -dsimp -implicitDefEqProofs only [push_cast, ↓trAdd_f, ↓stOf_f, Nat.reduceBEq, Int.reduceBEq, Int.reduceBNe, Int.reduceNeg, Int.reduceAdd, Int.reduceSub, Int.reduceLT, Int.reduceLE, Int.reduceMul, Nat.reducePow, Int.reducePow, Nat.reduceAdd, Nat.reduceEqDiff, Nat.reduceLT, Nat.reduceLeDiff, Nat.reduceMul, Nat.reduceSub, reduceCtorEq, ↓reduceIte]
  try refine hK _ ?_
  repeat (first | refine awp_seq ?_ | refine awp_block ?_ | refine awp_skip ?_ | refine awp_scope ?_ | refine awp_label ?_)
  refine awp_region tabOk fun K hK => ?_
  simp -dsimp -implicitDefEqProofs only [push_cast, ↓trAdd_f, ↓stOf_f, Nat.reduceBEq, Int.reduceBEq, Int.reduceBNe, Int.reduceNeg, Int.reduceAdd, Int.reduceSub, Int.reduceLT, Int.reduceLE, Int.reduceMul, Nat.reducePow, Int.reducePow, Nat.reduceAdd, Nat.reduceEqDiff, Nat.reduceLT, Nat.reduceLeDiff, Nat.reduceMul, Nat.reduceSub, reduceCtorEq, ↓reduceIte]
  refine callK_simple (rHops_ok false g.routes (by have := hg.rts; omega) bus f) ?_ rfl fun _ => ?_
  · simp -dsimp -implicitDefEqProofs only [encFrame, take_map_len, restr, List.contains_nil, List.contains_cons, BEq.rfl, Nat.reduceBEq, implies_true, imp_self_i, false_imp_i, argsV, PV.fz, fzL, view, viewA, viewC, viewOk, viewOkA, viewOkC, seenV, ids, idsA, idsC, PV.scalar, PV.scalarA, PV.scalarC, wk, wkA, wkAL, wkC, wkL, wkB, blkLe, true_or, List.mem_cons, List.mem_singleton, List.not_mem_nil, forall_eq_or_imp, forall_eq, List.all_cons, List.all_nil, List.flatMap_cons, List.flatMap_nil, AS.get, getPV, lk, Int.cast_ofNat_Int, Int.natCast_one, Int.reduceBEq, Int.reduceBNe, Int.reduceNeg, int_toNat_zero_i, Nat.sub_zero, Int.natCast_zero, Int.reduceAdd, Int.reduceSub, Int.reduceLT, Int.reduceLE, Int.reduceMul, Int.zero_add, decide_true, decide_false, Nat.reducePow, Int.reducePow, Nat.reduceAdd, Nat.reduceEqDiff, Nat.reduceLT, Nat.reduceLeDiff, Nat.reduceMul, Nat.reduceSub, Nat.reduceBEq, Nat.le_refl, Nat.zero_add, Nat.add_zero, reduceCtorEq, or_true, true_or, or_false, false_or, if_true, if_false, ↓reduceIte, true_and, and_true, and_self, Bool.not_true, Bool.not_false, cond_true, cond_false, Bool.true_eq_false, Bool.false_eq_true, ne_eq, not_false_eq_true, not_true_eq_false, Bool.and_true, Bool.true_and, Bool.and_false, Bool.false_and, Bool.or_true, Bool.true_or, Bool.or_false, Bool.false_or, List.isEmpty_nil, List.map_cons, List.map_nil, List.length_cons, List.length_nil, List.length_map, List.getD_cons_zero, List.getD_cons_succ, List.getD_nil, List.getElem?_cons_zero, List.getElem?_cons_succ, List.getElem?_nil, List.take_succ_cons, List.take_zero, List.take_nil, List.drop_succ_cons, List.drop_zero, List.drop_nil, List.nil_append, List.cons_append, List.append_nil, Option.getD_some, Option.getD_none, Option.map_some, Option.map_none, Int.toNat_natCast, fz_byt, fz_frm, fz_hop, fz_int, fz_rows, fz_rt]
  simp -dsimp -implicitDefEqProofs only [push_cast, ↓trAdd_f, ↓stOf_f, Nat.reduceBEq, Int.reduceBEq, Int.reduceBNe, Int.reduceNeg, Int.reduceAdd, Int.reduceSub, Int.reduceLT, Int.reduceLE, Int.reduceMul, Nat.reducePow, Int.reducePow, Nat.reduceAdd, Nat.reduceEqDiff, Nat.reduceLT, Nat.reduceLeDiff, Nat.reduceMul, Nat.reduceSub, reduceCtorEq, ↓reduceIte]
  refine hK _ (awp_block ?_)
  have hto := hops_to hg bus f
  have hlen : (hops g.routes bus f).length ≤ 16 := Nat.le_trans (hops_len _ _ _) hg.rts
  have hin : inG g bus f = (hops g.routes bus f).foldl stepIn g := rfl
  revert hto hlen hin
  generalize hops g.routes bus f = H
  intro hto hlen hin
  refine awp_for (fun k : Nat => { sl := [(3, .ptr 0 0), (6, .ptr 16 0), (13, .sl false 6 (H.map encHop)), (14, .int .i64 H.length), (15, .int .i64 k)], st := [(0, .box (encGate ((H.take k).foldl stepIn g))), (16, .box (encGate zeroG))], nx := 24, n := 48 }) (fun k => k ≤ H.length) (fun k => H.length - k) 0 (Nat.zero_le _) ?_ fun k hk => ?_
  · simp only [List.take_zero, List.foldl_nil, encGate, zeroG]
    refine le_intro hB [] (by simp) (fun b _ => rfl) rfl ?_ ?_ rfl <;> simp -dsimp -implicitDefEqProofs only [List.forall_mem_cons, List.forall_mem_append, forall_nil_i, List.not_mem_nil, Int.natCast_zero, Int.natCast_add, Int.natCast_one, implies_true, imp_self_i, false_imp_i, slotsLe, storeLe, PV.ren, renL, renG, PV.ok, okL, Blk.ren, Blk.ok, distinct, wk, wkA, wkAL, wkC, wkL, wkB, blkLe, List.cons.injEq, true_or, PV.int.injEq, PV.bool.injEq, AS.get, getPV, lk, Int.cast_ofNat_Int, Int.natCast_one, Int.reduceBEq, Int.reduceBNe, Int.reduceNeg, int_toNat_zero_i, Nat.sub_zero, Int.natCast_zero, Int.reduceAdd, Int.reduceSub, Int.reduceLT, Int.reduceLE, Int.reduceMul, Int.zero_add, decide_true, decide_false, Nat.reducePow, Int.reducePow, Nat.reduceAdd, Nat.reduceEqDiff, Nat.reduceLT, Nat.reduceLeDiff, Nat.reduceMul, Nat.reduceSub, Nat.reduceBEq, Nat.le_refl, Nat.zero_add, Nat.add_zero, reduceCtorEq, or_true, true_or, or_false, false_or, if_true, if_false, ↓reduceIte, true_and, and_true, and_self, Bool.not_true, Bool.not_false, cond_true, cond_false, Bool.true_eq_false, Bool.false_eq_true, ne_eq, not_false_eq_true, not_true_eq_false, Bool.and_true, Bool.true_and, Bool.and_false, Bool.false_and, Bool.or_true, Bool.true_or, Bool.or_false, Bool.false_or, List.isEmpty_nil, List.map_cons, List.map_nil, List.length_cons, List.length_nil, List.length_map, List.getD_cons_zero, List.getD_cons_succ, List.getD_nil, List.getElem?_cons_zero, List.getElem?_cons_succ, List.getElem?_nil, List.take_succ_cons, List.take_zero, List.take_nil, List.drop_succ_cons, List.drop_zero, List.drop_nil, List.nil_append, List.cons_append, List.append_nil, Option.getD_some, Option.getD_none, Option.map_some, Option.map_none, Int.toNat_natCast, ok_frm, ok_hop, ok_int, ok_rows, ok_rt, ren_frm, ren_hop, ren_int, ren_rows, ren_rt]
  have hgk := foldIn_good (H.take k) g m hg fun h hh => hto h (List.mem_of_mem_take hh)
  have hlk : ((H.take k).length : Int) ≤ 16 := by rw [List.length_take]; omega
  simp only [encGate, zeroG]
  try refine hK _ ?_
  repeat (first | refine awp_seq ?_ | refine awp_block ?_ | refine awp_skip ?_ | refine awp_scope ?_ | refine awp_label ?_)
  refine awp_region tabOk fun K hK => ?_
  simp -dsimp -implicitDefEqProofs only [push_cast, ↓trAdd_f, ↓stOf_f, Nat.reduceBEq, Int.reduceBEq, Int.reduceBNe, Int.reduceNeg, Int.reduceAdd, Int.reduceSub, Int.reduceLT, Int.reduceLE, Int.reduceMul, Nat.reducePow, Int.reducePow, Nat.reduceAdd, Nat.reduceEqDiff, Nat.reduceLT, Nat.reduceLeDiff, Nat.reduceMul, Nat.reduceSub, reduceCtorEq, ↓reduceIte]
  try refine hK _ ?_
  repeat (first | refine awp_seq ?_ | refine awp_block ?_ | refine awp_skip ?_ | refine awp_scope ?_ | refine awp_label ?_)
  refine awp_cond (b := decide ((k : Int) < H.length)) (by simp -dsimp -implicitDefEqProofs only [push_cast, ↓trAdd_f, ↓stOf_f, Nat.reduceBEq, Int.reduceBEq, Int.reduceBNe, Int.reduceNeg, Int.reduceAdd, Int.reduceSub, Int.reduceLT, Int.reduceLE, Int.reduceMul, Nat.reducePow, Int.reducePow, Nat.reduceAdd, Nat.reduceEqDiff, Nat.reduceLT, Nat.reduceLeDiff, Nat.reduceMul, Nat.reduceSub, reduceCtorEq, ↓reduceIte]) (fun h => ?_) (fun h => ?_)
  · have hlt : k < H.length := by simpa using h
    have hnext : (H.take (k + 1)).foldl stepIn g = stepIn ((H.take k).foldl stepIn g) H[k] := by
      rw [List.take_succ_eq_append_getElem hlt, List.foldl_append]; rfl
    have ht := hto H[k] (List.getElem_mem hlt)
    revert hgk hnext
    generalize (H.take k).foldl stepIn g = G
    intro hgk hnext
    obtain ⟨b, hb⟩ := Int.eq_ofNat_of_zero_le ht.1
    have hbo : b < G.out.length := by rw [hgk.outs]; omega
    have hbl : b < G.lost.length := by rw [hgk.losts]; omega
    have hrowb := hgk.row _ (List.getElem_mem hbo)
    have hc64 := hgk.cap64
    try refine hK _ ?_
    repeat (first | refine awp_seq ?_ | refine awp_block ?_ | refine awp_skip ?_ | refine awp_scope ?_ | refine awp_label ?_)
    refine awp_region tabOk fun K hK => ?_
    simp -dsimp -implicitDefEqProofs only [hlt, getD_map, encHop, encFrame, push_cast, ↓trAdd_f, ↓stOf_f, Nat.reduceBEq, Int.reduceBEq, Int.reduceBNe, Int.reduceNeg, Int.reduceAdd, Int.reduceSub, Int.reduceLT, Int.reduceLE, Int.reduceMul, Nat.reducePow, Int.reducePow, Nat.reduceAdd, Nat.reduceEqDiff, Nat.reduceLT, Nat.reduceLeDiff, Nat.reduceMul, Nat.reduceSub, reduceCtorEq, ↓reduceIte]
    refine ⟨⟨by omega, by omega⟩, ?_⟩
    try refine hK _ ?_
    repeat (first | refine awp_seq ?_ | refine awp_block ?_ | refine awp_skip ?_ | refine awp_scope ?_ | refine awp_label ?_)
    refine awp_draw tabOk (by kernel_rfl) (by kernel_rfl) fun K hK C hC => ?_
    simp -dsimp -implicitDefEqProofs only [hb, hbo, getD_map, encRow, push_cast, ↓trAdd_f, ↓stOf_f, Nat.reduceBEq, Int.reduceBEq, Int.reduceBNe, Int.reduceNeg, Int.reduceAdd, Int.reduceSub, Int.reduceLT, Int.reduceLE, Int.reduceMul, Nat.reducePow, Int.reducePow, Nat.reduceAdd, Nat.reduceEqDiff, Nat.reduceLT, Nat.reduceLeDiff, Nat.reduceMul, Nat.reduceSub, reduceCtorEq, ↓reduceIte]
    refine ⟨⟨by omega, by omega⟩, hC _ (by kernel_rfl), ?_⟩
    have hgo : G.out.getD H[k].to.toNat [] = G.out[b] := by rw [hb, Int.toNat_natCast]; simp [List.getD, hbo]
    try refine hK _ ?_
    repeat (first | refine awp_seq ?_ | refine awp_block ?_ | refine awp_skip ?_ | refine awp_scope ?_ | refine awp_label ?_)
    refine awp_cond (b := decide ((G.out[b].length : Int) < G.cap)) (by simp -dsimp -implicitDefEqProofs only [push_cast, ↓trAdd_f, ↓stOf_f, Nat.reduceBEq, Int.reduceBEq, Int.reduceBNe, Int.reduceNeg, Int.reduceAdd, Int.reduceSub, Int.reduceLT, Int.reduceLE, Int.reduceMul, Nat.reducePow, Int.reducePow, Nat.reduceAdd, Nat.reduceEqDiff, Nat.reduceLT, Nat.reduceLeDiff, Nat.reduceMul, Nat.reduceSub, reduceCtorEq, ↓reduceIte]) (fun h => ?_) (fun h => ?_)
    · have hst : stepIn G H[k] = { G with out := chg (addF H[k]) G.out b } := by
        unfold stepIn; rw [hgo, if_pos h, hb]
      try refine hK _ ?_
      repeat (first | refine awp_seq ?_ | refine awp_block ?_ | refine awp_skip ?_ | refine awp_scope ?_ | refine awp_label ?_)
      refine awp_region tabOk fun K hK => ?_
      simp -dsimp -implicitDefEqProofs only [encGate, push_cast, ↓trAdd_f, ↓stOf_f, Nat.reduceBEq, Int.reduceBEq, Int.reduceBNe, Int.reduceNeg, Int.reduceAdd, Int.reduceSub, Int.reduceLT, Int.reduceLE, Int.reduceMul, Nat.reducePow, Int.reducePow, Nat.reduceAdd, Nat.reduceEqDiff, Nat.reduceLT, Nat.reduceLeDiff, Nat.reduceMul, Nat.reduceSub, reduceCtorEq, ↓reduceIte]
      refine ⟨32, [], [], { args := [.agg (encGate G), .int .i64 b, .fn (.func 36) [] [.ptr 0 0]], st0 := [(0, .box (encHop H[k]))], res := .agg (encGate { G with out := chg (addF H[k]) G.out b }), st1 := [(0, .box (encHop H[k]))], r := [48] }, rfl, changed36_ok G b H[k] hgk.small (fun _ _ _ => trivial), ?_, ?_⟩
      · simp -dsimp -implicitDefEqProofs only [encHop, encFrame, encGate, hb, fCall, argsOk, argOk, lentOk, CallO.ren, CallO.keep, seenIds, distinct, blksOk, Blk.ok, PV.ok, okL, PV.ren, renL, Blk.ren, List.isEmpty_cons, List.isEmpty_nil, List.contains_nil, List.contains_cons, BEq.rfl, range_one_i, and_true, true_and, forall_nil_i, List.forall_mem_cons, Option.some.injEq, Blk.box.injEq, Blk.row.injEq, List.cons.injEq, take_map_len, restr, List.contains_nil, List.contains_cons, BEq.rfl, Nat.reduceBEq, implies_true, imp_self_i, false_imp_i, argsV, PV.fz, fzL, view, viewA, viewC, viewOk, viewOkA, viewOkC, seenV, ids, idsA, idsC, PV.scalar, PV.scalarA, PV.scalarC, wk, wkA, wkAL, wkC, wkL, wkB, blkLe, true_or, List.mem_cons, List.mem_singleton, List.not_mem_nil, forall_eq_or_imp, forall_eq, List.all_cons, List.all_nil, List.flatMap_cons, List.flatMap_nil, AS.get, getPV, lk, Int.cast_ofNat_Int, Int.natCast_one, Int.reduceBEq, Int.reduceBNe, Int.reduceNeg, int_toNat_zero_i, Nat.sub_zero, Int.natCast_zero, Int.reduceAdd, Int.reduceSub, Int.reduceLT, Int.reduceLE, Int.reduceMul, Int.zero_add, decide_true, decide_false, Nat.reducePow, Int.reducePow, Nat.reduceAdd, Nat.reduceEqDiff, Nat.reduceLT, Nat.reduceLeDiff, Nat.reduceMul, Nat.reduceSub, Nat.reduceBEq, Nat.le_refl, Nat.zero_add, Nat.add_zero, reduceCtorEq, or_true, true_or, or_false, false_or, if_true, if_false, ↓reduceIte, true_and, and_true, and_self, Bool.not_true, Bool.not_false, cond_true, cond_false, Bool.true_eq_false, Bool.false_eq_true, ne_eq, not_false_eq_true, not_true_eq_false, Bool.and_true, Bool.true_and, Bool.and_false, Bool.false_and, Bool.or_true, Bool.true_or, Bool.or_false, Bool.false_or, List.isEmpty_nil, List.map_cons, List.map_nil, List.length_cons, List.length_nil, List.length_map, List.getD_cons_zero, List.getD_cons_succ, List.getD_nil, List.getElem?_cons_zero, List.getElem?_cons_succ, List.getElem?_nil, List.take_succ_cons, List.take_zero, List.take_nil, List.drop_succ_cons, List.drop_zero, List.drop_nil, List.nil_append, List.cons_append, List.append_nil, Option.getD_some, Option.getD_none, Option.map_some, Option.map_none, Int.toNat_natCast, fz_byt, fz_frm, fz_hop, fz_int, fz_rows, fz_rt]
      simp -dsimp -implicitDefEqProofs only [encHop, encFrame, encGate, hb, PV.fz, fzL, fCall, CallO.ren, CallO.keep, seenIds, PV.ren, renL, Blk.ren, List.isEmpty_cons, List.isEmpty_nil, push_cast, ↓trAdd_f, ↓stOf_f, Nat.reduceBEq, Int.reduceBEq, Int.reduceBNe, Int.reduceNeg, Int.reduceAdd, Int.reduceSub, Int.reduceLT, Int.reduceLE, Int.reduceMul, Nat.reducePow, Int.reducePow, Nat.reduceAdd, Nat.reduceEqDiff, Nat.reduceLT, Nat.reduceLeDiff, Nat.reduceMul, Nat.reduceSub, reduceCtorEq, ↓reduceIte]
      refine hK _ (awp_exit rfl ?_)
      try refine hK _ ?_
      repeat (first | refine awp_seq ?_ | refine awp_block ?_ | refine awp_skip ?_ | refine awp_scope ?_ | refine awp_label ?_)
      refine awp_region tabOk fun K hK => ?_
      simp -dsimp -implicitDefEqProofs only [push_cast, ↓trAdd_f, ↓stOf_f, Nat.reduceBEq, Int.reduceBEq, Int.reduceBNe, Int.reduceNeg, Int.reduceAdd, Int.reduceSub, Int.reduceLT, Int.reduceLE, Int.reduceMul, Nat.reducePow, Int.reducePow, Nat.reduceAdd, Nat.reduceEqDiff, Nat.reduceLT, Nat.reduceLeDiff, Nat.reduceMul, Nat.reduceSub, reduceCtorEq, ↓reduceIte]
      try simp (disch := omega) only [wrap_i64, wrap_u8, wrap_u16, wrap_u32]
      refine hK _ ⟨k + 1, hlt, by omega, ?_⟩
      rw [hnext, hst]
      simp only [encGate, zeroG]
      refine le_intro hB [] (by simp) (fun b _ => rfl) rfl ?_ ?_ rfl <;> simp -dsimp -implicitDefEqProofs only [List.forall_mem_cons, List.forall_mem_append, forall_nil_i, List.not_mem_nil, Int.natCast_zero, Int.natCast_add, Int.natCast_one, implies_true, imp_self_i, false_imp_i, slotsLe, storeLe, PV.ren, renL, renG, PV.ok, okL, Blk.ren, Blk.ok, distinct, wk, wkA, wkAL, wkC, wkL, wkB, blkLe, List.cons.injEq, true_or, PV.int.injEq, PV.bool.injEq, AS.get, getPV, lk, Int.cast_ofNat_Int, Int.natCast_one, Int.reduceBEq, Int.reduceBNe, Int.reduceNeg, int_toNat_zero_i, Nat.sub_zero, Int.natCast_zero, Int.reduceAdd, Int.reduceSub, Int.reduceLT, Int.reduceLE, Int.reduceMul, Int.zero_add, decide_true, decide_false, Nat.reducePow, Int.reducePow, Nat.reduceAdd, Nat.reduceEqDiff, Nat.reduceLT, Nat.reduceLeDiff, Nat.reduceMul, Nat.reduceSub, Nat.reduceBEq, Nat.le_refl, Nat.zero_add, Nat.add_zero, reduceCtorEq, or_true, true_or, or_false, false_or, if_true, if_false, ↓reduceIte, true_and, and_true, and_self, Bool.not_true, Bool.not_false, cond_true, cond_false, Bool.true_eq_false, Bool.false_eq_true, ne_eq, not_false_eq_true, not_true_eq_false, Bool.and_true, Bool.true_and, Bool.and_false, Bool.false_and, Bool.or_true, Bool.true_or, Bool.or_false, Bool.false_or, List.isEmpty_nil, List.map_cons, List.map_nil, List.length_cons, List.length_nil, List.length_map, List.getD_cons_zero, List.getD_cons_succ, List.getD_nil, List.getElem?_cons_zero, List.getElem?_cons_succ, List.getElem?_nil, List.take_succ_cons, List.take_zero, List.take_nil, List.drop_succ_cons, List.drop_zero, List.drop_nil, List.nil_append, List.cons_append, List.append_nil, Option.getD_some, Option.getD_none, Option.map_some, Option.map_none, Int.toNat_natCast, ok_frm, ok_hop, ok_int, ok_rows, ok_rt, ren_frm, ren_hop, ren_int, ren_rows, ren_rt]
    · have hst : stepIn G H[k] = { G with lost := bump G.lost b } := by
        unfold stepIn; rw [hgo, if_neg (by rw [h]; simp), hb, Int.toNat_natCast]
      refine awp_skip ?_
      try refine hK _ ?_
      repeat (first | refine awp_seq ?_ | refine awp_block ?_ | refine awp_skip ?_ | refine awp_scope ?_ | refine awp_label ?_)
      refine awp_region tabOk fun K hK => ?_
      simp -dsimp -implicitDefEqProofs only [push_cast, ↓trAdd_f, ↓stOf_f, Nat.reduceBEq, Int.reduceBEq, Int.reduceBNe, Int.reduceNeg, Int.reduceAdd, Int.reduceSub, Int.reduceLT, Int.reduceLE, Int.reduceMul, Nat.reducePow, Int.reducePow, Nat.reduceAdd, Nat.reduceEqDiff, Nat.reduceLT, Nat.reduceLeDiff, Nat.reduceMul, Nat.reduceSub, reduceCtorEq, ↓reduceIte]
      have hlb := hgk.lst _ (List.getElem_mem hbl)
      have hbs := bump_set G.lost b hbl
      have hbn := bump_len G.lost b
      have htk : ((bump G.lost b).map encI).take G.lost.length = (bump G.lost b).map encI := List.take_of_length_le (by simp [hbn])
      have hl1 := hgk.losts
      have hl2 := hgk.n4
      refine ⟨by omega, ?_⟩
      try refine hK _ ?_
      repeat (first | refine awp_seq ?_ | refine awp_block ?_ | refine awp_skip ?_ | refine awp_scope ?_ | refine awp_label ?_)
      refine awp_region tabOk fun K hK => ?_
      simp -dsimp -implicitDefEqProofs only [hbl, getD_map, encI, push_cast, ↓trAdd_f, ↓stOf_f, Nat.reduceBEq, Int.reduceBEq, Int.reduceBNe, Int.reduceNeg, Int.reduceAdd, Int.reduceSub, Int.reduceLT, Int.reduceLE, Int.reduceMul, Nat.reducePow, Int.reducePow, Nat.reduceAdd, Nat.reduceEqDiff, Nat.reduceLT, Nat.reduceLeDiff, Nat.reduceMul, Nat.reduceSub, reduceCtorEq, ↓reduceIte]
      try simp (disch := omega) only [wrap_i64, wrap_u8, wrap_u16, wrap_u32]
      rw [hbs]
      refine ⟨⟨by omega, by omega⟩, ⟨by omega, by omega⟩, hK _ ?_⟩
      try refine hK _ ?_
      repeat (first | refine awp_seq ?_ | refine awp_block ?_ | refine awp_skip ?_ | refine awp_scope ?_ | refine awp_label ?_)
      refine awp_region tabOk fun K hK => ?_
      simp -dsimp -implicitDefEqProofs only [push_cast, ↓trAdd_f, ↓stOf_f, Nat.reduceBEq, Int.reduceBEq, Int.reduceBNe, Int.reduceNeg, Int.reduceAdd, Int.reduceSub, Int.reduceLT, Int.reduceLE, Int.reduceMul, Nat.reducePow, Int.reducePow, Nat.reduceAdd, Nat.reduceEqDiff, Nat.reduceLT, Nat.reduceLeDiff, Nat.reduceMul, Nat.reduceSub, reduceCtorEq, ↓reduceIte]
      try simp (disch := omega) only [wrap_i64, wrap_u8, wrap_u16, wrap_u32]
      refine hK _ ⟨k + 1, hlt, by omega, ?_⟩
      rw [hnext, hst]
      simp only [encGate, zeroG]
      refine AS.le_trans (le_frz _ [160] ?_ ?_ ?_) ?_
      · simp -dsimp -implicitDefEqProofs only [hbn, htk, take_map_len, PV.fz, fzL, AS.frz, frzOkA, frzOkC, frzOkB, frzA, frzC, frzB, viewC, viewOkC, delAll, del, List.contains_nil, List.contains_cons, BEq.rfl, Nat.reduceBEq, List.forall_mem_cons, forall_nil_i, List.not_mem_nil, implies_true, imp_self_i, false_imp_i, List.length_set, Option.isSome_some, Nat.le_refl, Nat.zero_add, AS.get, getPV, lk, Int.cast_ofNat_Int, Int.natCast_one, Int.reduceBEq, Int.reduceBNe, Int.reduceNeg, int_toNat_zero_i, Nat.sub_zero, Int.natCast_zero, Int.reduceAdd, Int.reduceSub, Int.reduceLT, Int.reduceLE, Int.reduceMul, Int.zero_add, decide_true, decide_false, Nat.reducePow, Int.reducePow, Nat.reduceAdd, Nat.reduceEqDiff, Nat.reduceLT, Nat.reduceLeDiff, Nat.reduceMul, Nat.reduceSub, Nat.reduceBEq, Nat.le_refl, Nat.zero_add, Nat.add_zero, reduceCtorEq, or_true, true_or, or_false, false_or, if_true, if_false, ↓reduceIte, true_and, and_true, and_self, Bool.not_true, Bool.not_false, cond_true, cond_false, Bool.true_eq_false, Bool.false_eq_true, ne_eq, not_false_eq_true, not_true_eq_false, Bool.and_true, Bool.true_and, Bool.and_false, Bool.false_and, Bool.or_true, Bool.true_or, Bool.or_false, Bool.false_or, List.isEmpty_nil, List.map_cons, List.map_nil, List.length_cons, List.length_nil, List.length_map, List.getD_cons_zero, List.getD_cons_succ, List.getD_nil, List.getElem?_cons_zero, List.getElem?_cons_succ, List.getElem?_nil, List.take_succ_cons, List.take_zero, List.take_nil, List.drop_succ_cons, List.drop_zero, List.drop_nil, List.nil_append, List.cons_append, List.append_nil, Option.getD_some, Option.getD_none, Option.map_some, Option.map_none, Int.toNat_natCast, fz_byt, fz_frm, fz_hop, fz_int, fz_rows, fz_rt]
      · simp -dsimp -implicitDefEqProofs only [hbn, htk, take_map_len, PV.fz, fzL, AS.frz, frzOkA, frzOkC, frzOkB, frzA, frzC, frzB, viewC, viewOkC, delAll, del, List.contains_nil, List.contains_cons, BEq.rfl, Nat.reduceBEq, List.forall_mem_cons, forall_nil_i, List.not_mem_nil, implies_true, imp_self_i, false_imp_i, List.length_set, Option.isSome_some, Nat.le_refl, Nat.zero_add, AS.get, getPV, lk, Int.cast_ofNat_Int, Int.natCast_one, Int.reduceBEq, Int.reduceBNe, Int.reduceNeg, int_toNat_zero_i, Nat.sub_zero, Int.natCast_zero, Int.reduceAdd, Int.reduceSub, Int.reduceLT, Int.reduceLE, Int.reduceMul, Int.zero_add, decide_true, decide_false, Nat.reducePow, Int.reducePow, Nat.reduceAdd, Nat.reduceEqDiff, Nat.reduceLT, Nat.reduceLeDiff, Nat.reduceMul, Nat.reduceSub, Nat.reduceBEq, Nat.le_refl, Nat.zero_add, Nat.add_zero, reduceCtorEq, or_true, true_or, or_false, false_or, if_true, if_false, ↓reduceIte, true_and, and_true, and_self, Bool.not_true, Bool.not_false, cond_true, cond_false, Bool.true_eq_false, Bool.false_eq_true, ne_eq, not_false_eq_true, not_true_eq_false, Bool.and_true, Bool.true_and, Bool.and_false, Bool.false_and, Bool.or_true, Bool.true_or, Bool.or_false, Bool.false_or, List.isEmpty_nil, List.map_cons, List.map_nil, List.length_cons, List.length_nil, List.length_map, List.getD_cons_zero, List.getD_cons_succ, List.getD_nil, List.getElem?_cons_zero, List.getElem?_cons_succ, List.getElem?_nil, List.take_succ_cons, List.take_zero, List.take_nil, List.drop_succ_cons, List.drop_zero, List.drop_nil, List.nil_append, List.cons_append, List.append_nil, Option.getD_some, Option.getD_none, Option.map_some, Option.map_none, Int.toNat_natCast, fz_byt, fz_frm, fz_hop, fz_int, fz_rows, fz_rt]
      · simp -dsimp -implicitDefEqProofs only [hbn, htk, take_map_len, PV.fz, fzL, AS.frz, frzOkA, frzOkC, frzOkB, frzA, frzC, frzB, viewC, viewOkC, delAll, del, List.contains_nil, List.contains_cons, BEq.rfl, Nat.reduceBEq, List.forall_mem_cons, forall_nil_i, List.not_mem_nil, implies_true, imp_self_i, false_imp_i, List.length_set, Option.isSome_some, Nat.le_refl, Nat.zero_add, AS.get, getPV, lk, Int.cast_ofNat_Int, Int.natCast_one, Int.reduceBEq, Int.reduceBNe, Int.reduceNeg, int_toNat_zero_i, Nat.sub_zero, Int.natCast_zero, Int.reduceAdd, Int.reduceSub, Int.reduceLT, Int.reduceLE, Int.reduceMul, Int.zero_add, decide_true, decide_false, Nat.reducePow, Int.reducePow, Nat.reduceAdd, Nat.reduceEqDiff, Nat.reduceLT, Nat.reduceLeDiff, Nat.reduceMul, Nat.reduceSub, Nat.reduceBEq, Nat.le_refl, Nat.zero_add, Nat.add_zero, reduceCtorEq, or_true, true_or, or_false, false_or, if_true, if_false, ↓reduceIte, true_and, and_true, and_self, Bool.not_true, Bool.not_false, cond_true, cond_false, Bool.true_eq_false, Bool.false_eq_true, ne_eq, not_false_eq_true, not_true_eq_false, Bool.and_true, Bool.true_and, Bool.and_false, Bool.false_and, Bool.or_true, Bool.true_or, Bool.or_false, Bool.false_or, List.isEmpty_nil, List.map_cons, List.map_nil, List.length_cons, List.length_nil, List.length_map, List.getD_cons_zero, List.getD_cons_succ, List.getD_nil, List.getElem?_cons_zero, List.getElem?_cons_succ, List.getElem?_nil, List.take_succ_cons, List.take_zero, List.take_nil, List.drop_succ_cons, List.drop_zero, List.drop_nil, List.nil_append, List.cons_append, List.append_nil, Option.getD_some, Option.getD_none, Option.map_some, Option.map_none, Int.toNat_natCast, fz_byt, fz_frm, fz_hop, fz_int, fz_rows, fz_rt]
      simp -dsimp -implicitDefEqProofs only [hbn, htk, take_map_len, PV.fz, fzL, AS.frz, frzOkA, frzOkC, frzOkB, frzA, frzC, frzB, viewC, viewOkC, delAll, del, List.contains_nil, List.contains_cons, BEq.rfl, Nat.reduceBEq, List.forall_mem_cons, forall_nil_i, List.not_mem_nil, implies_true, imp_self_i, false_imp_i, List.length_set, Option.isSome_some, Nat.le_refl, Nat.zero_add, AS.get, getPV, lk, Int.cast_ofNat_Int, Int.natCast_one, Int.reduceBEq, Int.reduceBNe, Int.reduceNeg, int_toNat_zero_i, Nat.sub_zero, Int.natCast_zero, Int.reduceAdd, Int.reduceSub, Int.reduceLT, Int.reduceLE, Int.reduceMul, Int.zero_add, decide_true, decide_false, Nat.reducePow, Int.reducePow, Nat.reduceAdd, Nat.reduceEqDiff, Nat.reduceLT, Nat.reduceLeDiff, Nat.reduceMul, Nat.reduceSub, Nat.reduceBEq, Nat.le_refl, Nat.zero_add, Nat.add_zero, reduceCtorEq, or_true, true_or, or_false, false_or, if_true, if_false, ↓reduceIte, true_and, and_true, and_self, Bool.not_true, Bool.not_false, cond_true, cond_false, Bool.true_eq_false, Bool.false_eq_true, ne_eq, not_false_eq_true, not_true_eq_false, Bool.and_true, Bool.true_and, Bool.and_false, Bool.false_and, Bool.or_true, Bool.true_or, Bool.or_false, Bool.false_or, List.isEmpty_nil, List.map_cons, List.map_nil, List.length_cons, List.length_nil, List.length_map, List.getD_cons_zero, List.getD_cons_succ, List.getD_nil, List.getElem?_cons_zero, List.getElem?_cons_succ, List.getElem?_nil, List.take_succ_cons, List.take_zero, List.take_nil, List.drop_succ_cons, List.drop_zero, List.drop_nil, List.nil_append, List.cons_append, List.append_nil, Option.getD_some, Option.getD_none, Option.map_some, Option.map_none, Int.toNat_natCast, fz_byt, fz_frm, fz_hop, fz_int, fz_rows, fz_rt]
      refine le_intro hB [] (by simp) (fun b _ => rfl) rfl ?_ ?_ rfl <;> simp -dsimp -implicitDefEqProofs only [List.forall_mem_cons, List.forall_mem_append, forall_nil_i, List.not_mem_nil, Int.natCast_zero, Int.natCast_add, Int.natCast_one, implies_true, imp_self_i, false_imp_i, slotsLe, storeLe, PV.ren, renL, renG, PV.ok, okL, Blk.ren, Blk.ok, distinct, wk, wkA, wkAL, wkC, wkL, wkB, blkLe, List.cons.injEq, true_or, PV.int.injEq, PV.bool.injEq, AS.get, getPV, lk, Int.cast_ofNat_Int, Int.natCast_one, Int.reduceBEq, Int.reduceBNe, Int.reduceNeg, int_toNat_zero_i, Nat.sub_zero, Int.natCast_zero, Int.reduceAdd, Int.reduceSub, Int.reduceLT, Int.reduceLE, Int.reduceMul, Int.zero_add, decide_true, decide_false, Nat.reducePow, Int.reducePow, Nat.reduceAdd, Nat.reduceEqDiff, Nat.reduceLT, Nat.reduceLeDiff, Nat.reduceMul, Nat.reduceSub, Nat.reduceBEq, Nat.le_refl, Nat.zero_add, Nat.add_zero, reduceCtorEq, or_true, true_or, or_false, false_or, if_true, if_false, ↓reduceIte, true_and, and_true, and_self, Bool.not_true, Bool.not_false, cond_true, cond_false, Bool.true_eq_false, Bool.false_eq_true, ne_eq, not_false_eq_true, not_true_eq_false, Bool.and_true, Bool.true_and, Bool.and_false, Bool.false_and, Bool.or_true, Bool.true_or, Bool.or_false, Bool.false_or, List.isEmpty_nil, List.map_cons, List.map_nil, List.length_cons, List.length_nil, List.length_map, List.getD_cons_zero, List.getD_cons_succ, List.getD_nil, List.getElem?_cons_zero, List.getElem?_cons_succ, List.getElem?_nil, List.take_succ_cons, List.take_zero, List.take_nil, List.drop_succ_cons, List.drop_zero, List.drop_nil, List.nil_append, List.cons_append, List.append_nil, Option.getD_some, Option.getD_none, Option.map_some, Option.map_none, Int.toNat_natCast, ok_frm, ok_hop, ok_int, ok_rows, ok_rt, ren_frm, ren_hop, ren_int, ren_rows, ren_rt]
  · have he : k = H.length := by simp at h; omega
    subst he
    rw [List.take_length, ← hin] at *
    refine awp_exit rfl ?_
    try refine hK _ ?_
    repeat (first | refine awp_seq ?_ | refine awp_block ?_ | refine awp_skip ?_ | refine awp_scope ?_ | refine awp_label ?_)
    refine awp_region tabOk fun K hK => ?_
    simp -dsimp -implicitDefEqProofs only [push_cast, ↓trAdd_f, ↓stOf_f, Nat.reduceBEq, Int.reduceBEq, Int.reduceBNe, Int.reduceNeg, Int.reduceAdd, Int.reduceSub, Int.reduceLT, Int.reduceLE, Int.reduceMul, Nat.reducePow, Int.reducePow, Nat.reduceAdd, Nat.reduceEqDiff, Nat.reduceLT, Nat.reduceLeDiff, Nat.reduceMul, Nat.reduceSub, reduceCtorEq, ↓reduceIte]
    refine hK _ (awp_ret ?_)
    simp -dsimp -implicitDefEqProofs only [List.flatMap_cons, List.flatMap_nil, List.mem_append, Blk.ok, PV.ok, okL, List.length_append, take_map_len, implies_true, imp_self_i, false_imp_i, endOk, resVals, joinRes, view, viewA, viewC, viewOk, viewOkA, viewOkC, storeEnd, wk, wkA, wkAL, wkC, wkL, wkB, blkLe, true_or, PV.int.injEq, PV.bool.injEq, idsA, PV.fz, fzL, ids, idsC, fLoad, outP, TI.n, TI.isAgg, List.not_mem_nil, List.mem_cons, List.mem_singleton, forall_eq_or_imp, forall_eq, AS.get, getPV, lk, Int.cast_ofNat_Int, Int.natCast_one, Int.reduceBEq, Int.reduceBNe, Int.reduceNeg, int_toNat_zero_i, Nat.sub_zero, Int.natCast_zero, Int.reduceAdd, Int.reduceSub, Int.reduceLT, Int.reduceLE, Int.reduceMul, Int.zero_add, decide_true, decide_false, Nat.reducePow, Int.reducePow, Nat.reduceAdd, Nat.reduceEqDiff, Nat.reduceLT, Nat.reduceLeDiff, Nat.reduceMul, Nat.reduceSub, Nat.reduceBEq, Nat.le_refl, Nat.zero_add, Nat.add_zero, reduceCtorEq, or_true, true_or, or_false, false_or, if_true, if_false, ↓reduceIte, true_and, and_true, and_self, Bool.not_true, Bool.not_false, cond_true, cond_false, Bool.true_eq_false, Bool.false_eq_true, ne_eq, not_false_eq_true, not_true_eq_false, Bool.and_true, Bool.true_and, Bool.and_false, Bool.false_and, Bool.or_true, Bool.true_or, Bool.or_false, Bool.false_or, List.isEmpty_nil, List.map_cons, List.map_nil, List.length_cons, List.length_nil, List.length_map, List.getD_cons_zero, List.getD_cons_succ, List.getD_nil, List.getElem?_cons_zero, List.getElem?_cons_succ, List.getElem?_nil, List.take_succ_cons, List.take_zero, List.take_nil, List.drop_succ_cons, List.drop_zero, List.drop_nil, List.nil_append, List.cons_append, List.append_nil, Option.getD_some, Option.getD_none, Option.map_some, Option.map_none, Int.toNat_natCast, T_1, T_2, T_3, T_4, T_5, T_6, T_7, T_8, T_9, T_10, T_11, T_12, T_13, T_14, T_15, T_16, T_17, T_18, T_19, T_21, T_22, T_23, T_24, T_25, T_26, T_27, T_28, T_29, T_30, T_31, T_33, T_34, T_35, T_36, T_37, T_38, T_39, T_40, T_41, T_42, T_43, T_45, T_46, T_47, T_48, T_49, T_50, T_51, T_52, T_53, T_54, T_55, T_56, T_57, T_58, T_59, T_60, T_61, T_62, T_63, T_64, T_65, T_66, T_67, T_68, T_69, T_70, T_71, T_72, T_73, T_74, T_75, T_76, T_77, T_78, T_79, T_80, T_81, T_82, T_83, T_84, T_85, T_86, T_87, T_88, T_89, T_90, T_91, T_92, T_93, T_94, T_95, T_96, T_97, T_98, fz_byt, fz_frm, fz_hop, fz_int, fz_rows, fz_rt]
end Go.Proofs.YtcpfkcipnkeokaaFw
