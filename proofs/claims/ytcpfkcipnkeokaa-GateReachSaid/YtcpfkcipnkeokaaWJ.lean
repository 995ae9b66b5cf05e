/-
  The walk of route.Loopless.
-/
import Derived.Test.YtcpfkcipnkeokaaPL
import Derived.Test.YtcpfkcipnkeokaaFwW
namespace Go.Proofs.YtcpfkcipnkeokaaFw
open Go Go.Proofs
set_option maxRecDepth 100000
set_option maxHeartbeats 4000000
set_option linter.unusedVariables false
set_option linter.unusedSimpArgs false

def hcells (h : Nat → Int) : List PV := [.int .i64 (h 0), .int .i64 (h 1), .int .i64 (h 2), .int .i64 (h 3)]
theorem hc_len (h : Nat → Int) : (hcells h).length = 4 := rfl
theorem hc_get (h : Nat → Int) (i : Nat) (hi : i < 4) : (hcells h).getD i .any = .int .i64 (h i) := by
  match i, hi with
  | 0, _ => rfl
  | 1, _ => rfl
  | 2, _ => rfl
  | 3, _ => rfl
theorem hc_take (h : Nat → Int) : (hcells h).take 4 = hcells h := rfl
theorem hc_splice (h : Nat → Int) (i : Nat) (x : Int) (hi : i < 4) : (hcells h).take i ++ [PV.int .i64 x] ++ (hcells h).drop (i + 1) = hcells (fun j => if j = i then x else h j) := by
  match i, hi with
  | 0, _ => rfl
  | 1, _ => rfl
  | 2, _ => rfl
  | 3, _ => rfl
theorem hc_fz (h : Nat → Int) : ∀ c ∈ hcells h, c.fz = true := by simp [hcells, PV.fz]
theorem hc_ren (h : Nat → Int) (r : Nat → Nat) : renL r (hcells h) = hcells h := rfl
theorem hc_ok (h : Nat → Int) (S : Nat → Prop) : okL S (hcells h) = True := by simp [hcells, okL, PV.ok]
theorem hc_kinds (h : Nat → Int) : ofKinds [TK.int .i64, TK.int .i64, TK.int .i64, TK.int .i64] (hcells h) = True := by simp [hcells, ofKinds, ofKind]
theorem hc_like (g h : Nat → Int) : likeCells (hcells g) (hcells h) = True := by simp [hcells, likeCells, likeLeaf]
theorem hc_eqc (g h : Nat → Int) : eqCells (hcells g) (hcells h) = same4 g h := by simp [hcells, eqCells, eqLeaf, same4]
theorem relax_max (h : Nat → Int) (r : Route) (b : Nat) (hb : r.to.toNat = b) : relax h r = fun j => if j = b then max (h b) (h r.src.toNat + 1) else h j := by
  funext j
  unfold relax
  subst hb
  split
  · unfold mx; omega
  · rfl
theorem sweep_succ (h : Nat → Int) (l : List Route) (k : Nat) (hk : k < l.length) : sweep h (l.take (k + 1)) = relax (sweep h (l.take k)) l[k] := by
  unfold sweep
  rw [List.take_succ_eq_append_getElem hk, List.foldl_append]; rfl
theorem right_of {p : Int → Route → Bool} {l : List Route} {n : Int} (h : rightR p l n = true) : 1 ≤ n ∧ n ≤ 4 ∧ l.length ≤ 16 ∧ ∀ r ∈ l, p n r = true := by
  unfold rightR at h
  simp at h
  exact ⟨by omega, by omega, by omega, h.2⟩
theorem routeG_in {l : List Route} {n : Int} (h : ∀ r ∈ l, routeG n r = true) : ∀ r ∈ l, 0 ≤ r.src ∧ r.src < n ∧ 0 ≤ r.to ∧ r.to < n := by
  intro r hr
  have := h r hr
  unfold routeG at this
  simp at this
  omega

def loopG (l : List Route) (n : Int) : Bool := rightR routeG l n && loopB l n
theorem rLoop_ok (t : Bool) (l : List Route) (n : Int) : FnS Try.prog 30 [.sl t 6 (l.map encRoute), .int .i64 n] [] (.bool (loopG l n)) [] := by
  refine fn_walk tabOk Try.func30 rfl (by decide +kernel) Try.ntmps30 Try.results30 (by simp) fun B hB => ?_
  try refine hK _ ?_
  repeat (first | refine awp_seq ?_ | refine awp_block ?_ | refine awp_skip ?_ | refine awp_scope ?_ | refine awp_label ?_)
  refine awp_region tabOk fun K hK => ?_
  simp -dsimp -implicitDefEqProofs only [push_cast, ↓trAdd_f, ↓stOf_f, Nat.reduceBEq, Int.reduceBEq, Int.reduceBNe, Int.reduceNeg, Int.reduceAdd, Int.reduceSub, Int.reduceLT, Int.reduceLE, Int.reduceMul, Nat.reducePow, Int.reducePow, Nat.reduceAdd, Nat.reduceEqDiff, Nat.reduceLT, Nat.reduceLeDiff, Nat.reduceMul, Nat.reduceSub, reduceCtorEq, ↓reduceIte]
  try refine hK _ ?_
  repeat (first | refine awp_seq ?_ | refine awp_block ?_ | refine awp_skip ?_ | refine awp_scope ?_ | refine awp_label ?_)
  refine awp_region tabOk fun K hK => ?_
  simp -dsimp -implicitDefEqProofs only [push_cast, ↓trAdd_f, ↓stOf_f, Nat.reduceBEq, Int.reduceBEq, Int.reduceBNe, Int.reduceNeg, Int.reduceAdd, Int.reduceSub, Int.reduceLT, Int.reduceLE, Int.reduceMul, Nat.reducePow, Int.reducePow, Nat.reduceAdd, Nat.reduceEqDiff, Nat.reduceLT, Nat.reduceLeDiff, Nat.reduceMul, Nat.reduceSub, reduceCtorEq, ↓reduceIte]
  refine callK_simple (rRight_ok t l n) ?_ rfl fun _ => ?_
  · simp -dsimp -implicitDefEqProofs only [take_map_len, restr, List.contains_nil, List.contains_cons, BEq.rfl, Nat.reduceBEq, implies_true, imp_self_i, false_imp_i, argsV, PV.fz, fzL, view, viewA, viewC, viewOk, viewOkA, viewOkC, seenV, ids, idsA, idsC, PV.scalar, PV.scalarA, PV.scalarC, wk, wkA, wkAL, wkC, wkL, wkB, blkLe, true_or, List.mem_cons, List.mem_singleton, List.not_mem_nil, forall_eq_or_imp, forall_eq, List.all_cons, List.all_nil, List.flatMap_cons, List.flatMap_nil, AS.get, getPV, lk, Int.cast_ofNat_Int, Int.natCast_one, Int.reduceBEq, Int.reduceBNe, Int.reduceNeg, int_toNat_zero_i, Nat.sub_zero, Int.natCast_zero, Int.reduceAdd, Int.reduceSub, Int.reduceLT, Int.reduceLE, Int.reduceMul, Int.zero_add, decide_true, decide_false, Nat.reducePow, Int.reducePow, Nat.reduceAdd, Nat.reduceEqDiff, Nat.reduceLT, Nat.reduceLeDiff, Nat.reduceMul, Nat.reduceSub, Nat.reduceBEq, Nat.le_refl, Nat.zero_add, Nat.add_zero, reduceCtorEq, or_true, true_or, or_false, false_or, if_true, if_false, ↓reduceIte, true_and, and_true, and_self, Bool.not_true, Bool.not_false, cond_true, cond_false, Bool.true_eq_false, Bool.false_eq_true, ne_eq, not_false_eq_true, not_true_eq_false, Bool.and_true, Bool.true_and, Bool.and_false, Bool.false_and, Bool.or_true, Bool.true_or, Bool.or_false, Bool.false_or, List.isEmpty_nil, List.map_cons, List.map_nil, List.length_cons, List.length_nil, List.length_map, List.getD_cons_zero, List.getD_cons_succ, List.getD_nil, List.getElem?_cons_zero, List.getElem?_cons_succ, List.getElem?_nil, List.take_succ_cons, List.take_zero, List.take_nil, List.drop_succ_cons, List.drop_zero, List.drop_nil, List.nil_append, List.cons_append, List.append_nil, Option.getD_some, Option.getD_none, Option.map_some, Option.map_none, Int.toNat_natCast, fz_byt, fz_frm, fz_hop, fz_int, fz_rows, fz_rt]
  simp -dsimp -implicitDefEqProofs only [push_cast, ↓trAdd_f, ↓stOf_f, Nat.reduceBEq, Int.reduceBEq, Int.reduceBNe, Int.reduceNeg, Int.reduceAdd, Int.reduceSub, Int.reduceLT, Int.reduceLE, Int.reduceMul, Nat.reducePow, Int.reducePow, Nat.reduceAdd, Nat.reduceEqDiff, Nat.reduceLT, Nat.reduceLeDiff, Nat.reduceMul, Nat.reduceSub, reduceCtorEq, ↓reduceIte]
  try refine hK _ ?_
  repeat (first | refine awp_seq ?_ | refine awp_block ?_ | refine awp_skip ?_ | refine awp_scope ?_ | refine awp_label ?_)
  refine awp_cond (b := !rightR routeG l n) (by simp -dsimp -implicitDefEqProofs only [push_cast, ↓trAdd_f, ↓stOf_f, Nat.reduceBEq, Int.reduceBEq, Int.reduceBNe, Int.reduceNeg, Int.reduceAdd, Int.reduceSub, Int.reduceLT, Int.reduceLE, Int.reduceMul, Nat.reducePow, Int.reducePow, Nat.reduceAdd, Nat.reduceEqDiff, Nat.reduceLT, Nat.reduceLeDiff, Nat.reduceMul, Nat.reduceSub, reduceCtorEq, ↓reduceIte]) (fun h => ?_) (fun h => ?_)
  · try refine hK _ ?_
    repeat (first | refine awp_seq ?_ | refine awp_block ?_ | refine awp_skip ?_ | refine awp_scope ?_ | refine awp_label ?_)
    refine awp_region tabOk fun K hK => ?_
    simp -dsimp -implicitDefEqProofs only [push_cast, ↓trAdd_f, ↓stOf_f, Nat.reduceBEq, Int.reduceBEq, Int.reduceBNe, Int.reduceNeg, Int.reduceAdd, Int.reduceSub, Int.reduceLT, Int.reduceLE, Int.reduceMul, Nat.reducePow, Int.reducePow, Nat.reduceAdd, Nat.reduceEqDiff, Nat.reduceLT, Nat.reduceLeDiff, Nat.reduceMul, Nat.reduceSub, reduceCtorEq, ↓reduceIte]
    refine hK _ (awp_ret ?_)
    have h2 : rightR routeG l n = false := by simpa using h
    simp -dsimp -implicitDefEqProofs only [loopG, h2, List.flatMap_cons, List.flatMap_nil, List.mem_append, Blk.ok, PV.ok, okL, List.length_append, take_map_len, implies_true, imp_self_i, false_imp_i, endOk, resVals, joinRes, view, viewA, viewC, viewOk, viewOkA, viewOkC, storeEnd, wk, wkA, wkAL, wkC, wkL, wkB, blkLe, true_or, PV.int.injEq, PV.bool.injEq, idsA, PV.fz, fzL, ids, idsC, fLoad, outP, TI.n, TI.isAgg, List.not_mem_nil, List.mem_cons, List.mem_singleton, forall_eq_or_imp, forall_eq, AS.get, getPV, lk, Int.cast_ofNat_Int, Int.natCast_one, Int.reduceBEq, Int.reduceBNe, Int.reduceNeg, int_toNat_zero_i, Nat.sub_zero, Int.natCast_zero, Int.reduceAdd, Int.reduceSub, Int.reduceLT, Int.reduceLE, Int.reduceMul, Int.zero_add, decide_true, decide_false, Nat.reducePow, Int.reducePow, Nat.reduceAdd, Nat.reduceEqDiff, Nat.reduceLT, Nat.reduceLeDiff, Nat.reduceMul, Nat.reduceSub, Nat.reduceBEq, Nat.le_refl, Nat.zero_add, Nat.add_zero, reduceCtorEq, or_true, true_or, or_false, false_or, if_true, if_false, ↓reduceIte, true_and, and_true, and_self, Bool.not_true, Bool.not_false, cond_true, cond_false, Bool.true_eq_false, Bool.false_eq_true, ne_eq, not_false_eq_true, not_true_eq_false, Bool.and_true, Bool.true_and, Bool.and_false, Bool.false_and, Bool.or_true, Bool.true_or, Bool.or_false, Bool.false_or, List.isEmpty_nil, List.map_cons, List.map_nil, List.length_cons, List.length_nil, List.length_map, List.getD_cons_zero, List.getD_cons_succ, List.getD_nil, List.getElem?_cons_zero, List.getElem?_cons_succ, List.getElem?_nil, List.take_succ_cons, List.take_zero, List.take_nil, List.drop_succ_cons, List.drop_zero, List.drop_nil, List.nil_append, List.cons_append, List.append_nil, Option.getD_some, Option.getD_none, Option.map_some, Option.map_none, Int.toNat_natCast, T_1, T_2, T_3, T_4, T_5, T_6, T_7, T_8, T_9, T_10, T_11, T_12, T_13, T_14, T_15, T_16, T_17, T_18, T_19, T_21, T_22, T_23, T_24, T_25, T_26, T_27, T_28, T_29, T_30, T_31, T_33, T_34, T_35, T_36, T_37, T_38, T_39, T_40, T_41, T_42, T_43, T_45, T_46, T_47, T_48, T_49, T_50, T_51, T_52, T_53, T_54, T_55, T_56, T_57, T_58, T_59, T_60, T_61, T_62, T_63, T_64, T_65, T_66, T_67, T_68, T_69, T_70, T_71, T_72, T_73, T_74, T_75, T_76, T_77, T_78, T_79, T_80, T_81, T_82, T_83, T_84, T_85, T_86, T_87, T_88, T_89, T_90, T_91, T_92, T_93, T_94, T_95, T_96, T_97, T_98, fz_byt, fz_frm, fz_hop, fz_int, fz_rows, fz_rt]
  have h2 : rightR routeG l n = true := by simpa using h
  obtain ⟨hn1, hn4, hl16, hrt⟩ := right_of h2
  have hin := routeG_in hrt
  obtain ⟨n, rfl⟩ := Int.eq_ofNat_of_zero_le (by omega : 0 ≤ n)
  have hin4 : inR l 4 := fun r hr => by have := hin r hr; omega
  try refine hK _ ?_
  repeat (first | refine awp_seq ?_ | refine awp_block ?_ | refine awp_skip ?_ | refine awp_scope ?_ | refine awp_label ?_)
  refine awp_region tabOk fun K hK => ?_
  simp -dsimp -implicitDefEqProofs only [push_cast, ↓trAdd_f, ↓stOf_f, Nat.reduceBEq, Int.reduceBEq, Int.reduceBNe, Int.reduceNeg, Int.reduceAdd, Int.reduceSub, Int.reduceLT, Int.reduceLE, Int.reduceMul, Nat.reducePow, Int.reducePow, Nat.reduceAdd, Nat.reduceEqDiff, Nat.reduceLT, Nat.reduceLeDiff, Nat.reduceMul, Nat.reduceSub, reduceCtorEq, ↓reduceIte]
  try refine hK _ ?_
  repeat (first | refine awp_seq ?_ | refine awp_block ?_ | refine awp_skip ?_ | refine awp_scope ?_ | refine awp_label ?_)
  refine awp_region tabOk fun K hK => ?_
  simp -dsimp -implicitDefEqProofs only [push_cast, ↓trAdd_f, ↓stOf_f, Nat.reduceBEq, Int.reduceBEq, Int.reduceBNe, Int.reduceNeg, Int.reduceAdd, Int.reduceSub, Int.reduceLT, Int.reduceLE, Int.reduceMul, Nat.reducePow, Int.reducePow, Nat.reduceAdd, Nat.reduceEqDiff, Nat.reduceLT, Nat.reduceLeDiff, Nat.reduceMul, Nat.reduceSub, reduceCtorEq, ↓reduceIte]
  refine hK _ ?_
  refine awp_join { sl := [(0, .sl t 6 (l.map encRoute)), (5, .ptr 40 0)], st := [(40, .box (hcells (sweeps n (fun _ => 0) l)))], nx := 48, n := 68 } ?_ (fun _ hl h => awp_le hl h) ?_
  · refine awp_block ?_
    refine awp_for (fun x : Nat × (Nat → Int) => { sl := [(0, .sl t 6 (l.map encRoute)), (5, .ptr 40 0), (16, .int .i64 n), (17, .int .i64 x.1)], st := [(40, .box (hcells x.2))], nx := 48, n := 68 })
      (fun x => x.1 ≤ n ∧ sweeps n (fun _ => 0) l = sweeps (n - x.1) x.2 l ∧ inv l x.2 (x.1 * 16)) (fun x => n - x.1) (0, fun _ => 0) ⟨Nat.zero_le _, rfl, by simpa using inv0 l⟩ ?_ fun x hx => ?_
    · refine le_intro hB [] (by simp) (fun b _ => rfl) rfl ?_ ?_ rfl <;> simp -dsimp -implicitDefEqProofs only [hcells, List.forall_mem_cons, List.forall_mem_append, forall_nil_i, List.not_mem_nil, Int.natCast_zero, Int.natCast_add, Int.natCast_one, implies_true, imp_self_i, false_imp_i, slotsLe, storeLe, PV.ren, renL, renG, PV.ok, okL, Blk.ren, Blk.ok, distinct, wk, wkA, wkAL, wkC, wkL, wkB, blkLe, List.cons.injEq, true_or, PV.int.injEq, PV.bool.injEq, AS.get, getPV, lk, Int.cast_ofNat_Int, Int.natCast_one, Int.reduceBEq, Int.reduceBNe, Int.reduceNeg, int_toNat_zero_i, Nat.sub_zero, Int.natCast_zero, Int.reduceAdd, Int.reduceSub, Int.reduceLT, Int.reduceLE, Int.reduceMul, Int.zero_add, decide_true, decide_false, Nat.reducePow, Int.reducePow, Nat.reduceAdd, Nat.reduceEqDiff, Nat.reduceLT, Nat.reduceLeDiff, Nat.reduceMul, Nat.reduceSub, Nat.reduceBEq, Nat.le_refl, Nat.zero_add, Nat.add_zero, reduceCtorEq, or_true, true_or, or_false, false_or, if_true, if_false, ↓reduceIte, true_and, and_true, and_self, Bool.not_true, Bool.not_false, cond_true, cond_false, Bool.true_eq_false, Bool.false_eq_true, ne_eq, not_false_eq_true, not_true_eq_false, Bool.and_true, Bool.true_and, Bool.and_false, Bool.false_and, Bool.or_true, Bool.true_or, Bool.or_false, Bool.false_or, List.isEmpty_nil, List.map_cons, List.map_nil, List.length_cons, List.length_nil, List.length_map, List.getD_cons_zero, List.getD_cons_succ, List.getD_nil, List.getElem?_cons_zero, List.getElem?_cons_succ, List.getElem?_nil, List.take_succ_cons, List.take_zero, List.take_nil, List.drop_succ_cons, List.drop_zero, List.drop_nil, List.nil_append, List.cons_append, List.append_nil, Option.getD_some, Option.getD_none, Option.map_some, Option.map_none, Int.toNat_natCast, ok_frm, ok_hop, ok_int, ok_rows, ok_rt, ren_frm, ren_hop, ren_int, ren_rows, ren_rt]
    obtain ⟨k, hh⟩ := x
    obtain ⟨hk, hsw, hinv⟩ := hx
    simp only at hk hsw hinv
    have hinvj : ∀ j, j ≤ l.length → ∀ v, 0 ≤ sweep hh (l.take j) v ∧ sweep hh (l.take j) v ≤ 1000 := by
      intro j hj v
      have hlj : (l.take j).length ≤ 16 := by rw [List.length_take]; omega
      have := sweep_inv (L := l) (l.take j) hh (k * 16) (fun r hr => List.mem_of_mem_take hr) hinv (by omega) v
      omega
    try refine hK _ ?_
    repeat (first | refine awp_seq ?_ | refine awp_block ?_ | refine awp_skip ?_ | refine awp_scope ?_ | refine awp_label ?_)
    refine awp_region tabOk fun K hK => ?_
    simp -dsimp -implicitDefEqProofs only [push_cast, ↓trAdd_f, ↓stOf_f, Nat.reduceBEq, Int.reduceBEq, Int.reduceBNe, Int.reduceNeg, Int.reduceAdd, Int.reduceSub, Int.reduceLT, Int.reduceLE, Int.reduceMul, Nat.reducePow, Int.reducePow, Nat.reduceAdd, Nat.reduceEqDiff, Nat.reduceLT, Nat.reduceLeDiff, Nat.reduceMul, Nat.reduceSub, reduceCtorEq, ↓reduceIte]
    try refine hK _ ?_
    repeat (first | refine awp_seq ?_ | refine awp_block ?_ | refine awp_skip ?_ | refine awp_scope ?_ | refine awp_label ?_)
    refine awp_cond (b := decide ((k : Int) < n)) (by simp -dsimp -implicitDefEqProofs only [push_cast, ↓trAdd_f, ↓stOf_f, Nat.reduceBEq, Int.reduceBEq, Int.reduceBNe, Int.reduceNeg, Int.reduceAdd, Int.reduceSub, Int.reduceLT, Int.reduceLE, Int.reduceMul, Nat.reducePow, Int.reducePow, Nat.reduceAdd, Nat.reduceEqDiff, Nat.reduceLT, Nat.reduceLeDiff, Nat.reduceMul, Nat.reduceSub, reduceCtorEq, ↓reduceIte]) (fun h => ?_) (fun h => ?_)
    · have hlt : k < n := by simpa using h
      try refine hK _ ?_
      repeat (first | refine awp_seq ?_ | refine awp_block ?_ | refine awp_skip ?_ | refine awp_scope ?_ | refine awp_label ?_)
      refine awp_region tabOk fun K hK => ?_
      simp -dsimp -implicitDefEqProofs only [hc_len, hc_take, push_cast, ↓trAdd_f, ↓stOf_f, Nat.reduceBEq, Int.reduceBEq, Int.reduceBNe, Int.reduceNeg, Int.reduceAdd, Int.reduceSub, Int.reduceLT, Int.reduceLE, Int.reduceMul, Nat.reducePow, Int.reducePow, Nat.reduceAdd, Nat.reduceEqDiff, Nat.reduceLT, Nat.reduceLeDiff, Nat.reduceMul, Nat.reduceSub, reduceCtorEq, ↓reduceIte]
      try refine hK _ ?_
      repeat (first | refine awp_seq ?_ | refine awp_block ?_ | refine awp_skip ?_ | refine awp_scope ?_ | refine awp_label ?_)
      refine awp_region tabOk fun K hK => ?_
      simp -dsimp -implicitDefEqProofs only [push_cast, ↓trAdd_f, ↓stOf_f, Nat.reduceBEq, Int.reduceBEq, Int.reduceBNe, Int.reduceNeg, Int.reduceAdd, Int.reduceSub, Int.reduceLT, Int.reduceLE, Int.reduceMul, Nat.reducePow, Int.reducePow, Nat.reduceAdd, Nat.reduceEqDiff, Nat.reduceLT, Nat.reduceLeDiff, Nat.reduceMul, Nat.reduceSub, reduceCtorEq, ↓reduceIte]
      refine hK _ (awp_block ?_)
      refine awp_for (fun j : Nat => { sl := [(0, .sl t 6 (l.map encRoute)), (5, .ptr 40 0), (6, .ptr 64 0), (16, .int .i64 n), (17, .int .i64 k), (20, .sl t 6 (l.map encRoute)), (21, .int .i64 l.length), (22, .int .i64 j)], st := [(40, .box (hcells (sweep hh (l.take j)))), (64, .box (hcells hh))], nx := 72, n := 68 }) (fun j => j ≤ l.length) (fun j => l.length - j) 0 (Nat.zero_le _) ?_ fun j hj => ?_
      · refine le_intro hB [] (by simp) (fun b _ => rfl) rfl ?_ ?_ rfl <;> simp -dsimp -implicitDefEqProofs only [hc_ren, hc_ok, sweep, List.foldl_nil, List.forall_mem_cons, List.forall_mem_append, forall_nil_i, List.not_mem_nil, Int.natCast_zero, Int.natCast_add, Int.natCast_one, implies_true, imp_self_i, false_imp_i, slotsLe, storeLe, PV.ren, renL, renG, PV.ok, okL, Blk.ren, Blk.ok, distinct, wk, wkA, wkAL, wkC, wkL, wkB, blkLe, List.cons.injEq, true_or, PV.int.injEq, PV.bool.injEq, AS.get, getPV, lk, Int.cast_ofNat_Int, Int.natCast_one, Int.reduceBEq, Int.reduceBNe, Int.reduceNeg, int_toNat_zero_i, Nat.sub_zero, Int.natCast_zero, Int.reduceAdd, Int.reduceSub, Int.reduceLT, Int.reduceLE, Int.reduceMul, Int.zero_add, decide_true, decide_false, Nat.reducePow, Int.reducePow, Nat.reduceAdd, Nat.reduceEqDiff, Nat.reduceLT, Nat.reduceLeDiff, Nat.reduceMul, Nat.reduceSub, Nat.reduceBEq, Nat.le_refl, Nat.zero_add, Nat.add_zero, reduceCtorEq, or_true, true_or, or_false, false_or, if_true, if_false, ↓reduceIte, true_and, and_true, and_self, Bool.not_true, Bool.not_false, cond_true, cond_false, Bool.true_eq_false, Bool.false_eq_true, ne_eq, not_false_eq_true, not_true_eq_false, Bool.and_true, Bool.true_and, Bool.and_false, Bool.false_and, Bool.or_true, Bool.true_or, Bool.or_false, Bool.false_or, List.isEmpty_nil, List.map_cons, List.map_nil, List.length_cons, List.length_nil, List.length_map, List.getD_cons_zero, List.getD_cons_succ, List.getD_nil, List.getElem?_cons_zero, List.getElem?_cons_succ, List.getElem?_nil, List.take_succ_cons, List.take_zero, List.take_nil, List.drop_succ_cons, List.drop_zero, List.drop_nil, List.nil_append, List.cons_append, List.append_nil, Option.getD_some, Option.getD_none, Option.map_some, Option.map_none, Int.toNat_natCast, ok_frm, ok_hop, ok_int, ok_rows, ok_rt, ren_frm, ren_hop, ren_int, ren_rows, ren_rt]
      try refine hK _ ?_
      repeat (first | refine awp_seq ?_ | refine awp_block ?_ | refine awp_skip ?_ | refine awp_scope ?_ | refine awp_label ?_)
      refine awp_region tabOk fun K hK => ?_
      simp -dsimp -implicitDefEqProofs only [push_cast, ↓trAdd_f, ↓stOf_f, Nat.reduceBEq, Int.reduceBEq, Int.reduceBNe, Int.reduceNeg, Int.reduceAdd, Int.reduceSub, Int.reduceLT, Int.reduceLE, Int.reduceMul, Nat.reducePow, Int.reducePow, Nat.reduceAdd, Nat.reduceEqDiff, Nat.reduceLT, Nat.reduceLeDiff, Nat.reduceMul, Nat.reduceSub, reduceCtorEq, ↓reduceIte]
      try refine hK _ ?_
      repeat (first | refine awp_seq ?_ | refine awp_block ?_ | refine awp_skip ?_ | refine awp_scope ?_ | refine awp_label ?_)
      refine awp_cond (b := decide ((j : Int) < l.length)) (by simp -dsimp -implicitDefEqProofs only [push_cast, ↓trAdd_f, ↓stOf_f, Nat.reduceBEq, Int.reduceBEq, Int.reduceBNe, Int.reduceNeg, Int.reduceAdd, Int.reduceSub, Int.reduceLT, Int.reduceLE, Int.reduceMul, Nat.reducePow, Int.reducePow, Nat.reduceAdd, Nat.reduceEqDiff, Nat.reduceLT, Nat.reduceLeDiff, Nat.reduceMul, Nat.reduceSub, reduceCtorEq, ↓reduceIte]) (fun h => ?_) (fun h => ?_)
      · have hjl : j < l.length := by simpa using h
        have hsucc := sweep_succ hh l j hjl
        have hb := hin _ (List.getElem_mem hjl)
        obtain ⟨a, ha⟩ := Int.eq_ofNat_of_zero_le hb.1
        obtain ⟨b, hbb⟩ := Int.eq_ofNat_of_zero_le hb.2.2.1
        have ha4 : a < 4 := by omega
        have hb4 : b < 4 := by omega
        have hv := (hinvj j hj a)
        have hrel := relax_max (sweep hh (l.take j)) l[j] b (by rw [hbb]; rfl)
        rw [ha, Int.toNat_natCast] at hrel
        try refine hK _ ?_
        repeat (first | refine awp_seq ?_ | refine awp_block ?_ | refine awp_skip ?_ | refine awp_scope ?_ | refine awp_label ?_)
        refine awp_region tabOk fun K hK => ?_
        simp -dsimp -implicitDefEqProofs only [hjl, getD_map, encRoute, push_cast, ↓trAdd_f, ↓stOf_f, Nat.reduceBEq, Int.reduceBEq, Int.reduceBNe, Int.reduceNeg, Int.reduceAdd, Int.reduceSub, Int.reduceLT, Int.reduceLE, Int.reduceMul, Nat.reducePow, Int.reducePow, Nat.reduceAdd, Nat.reduceEqDiff, Nat.reduceLT, Nat.reduceLeDiff, Nat.reduceMul, Nat.reduceSub, reduceCtorEq, ↓reduceIte]
        refine ⟨⟨by omega, by omega⟩, ?_⟩
        try refine hK _ ?_
        repeat (first | refine awp_seq ?_ | refine awp_block ?_ | refine awp_skip ?_ | refine awp_scope ?_ | refine awp_label ?_)
        refine awp_draw tabOk (by kernel_rfl) (by kernel_rfl) fun K hK C hC => ?_
        simp -dsimp -implicitDefEqProofs only [ha, hbb, Nat.mul_one, hc_len, hc_get, ha4, hb4, push_cast, ↓trAdd_f, ↓stOf_f, Nat.reduceBEq, Int.reduceBEq, Int.reduceBNe, Int.reduceNeg, Int.reduceAdd, Int.reduceSub, Int.reduceLT, Int.reduceLE, Int.reduceMul, Nat.reducePow, Int.reducePow, Nat.reduceAdd, Nat.reduceEqDiff, Nat.reduceLT, Nat.reduceLeDiff, Nat.reduceMul, Nat.reduceSub, reduceCtorEq, ↓reduceIte]
        try simp (disch := omega) only [wrap_i64, wrap_u8, wrap_u16, wrap_u32]
        rw [hc_splice _ b _ hb4, ← hrel, ← hsucc]
        refine ⟨⟨by omega, by omega⟩, by omega, ⟨by omega, by omega⟩, by omega, ⟨by omega, by omega⟩, by omega, hC _ (by kernel_rfl), hK _ ?_⟩
        try refine hK _ ?_
        repeat (first | refine awp_seq ?_ | refine awp_block ?_ | refine awp_skip ?_ | refine awp_scope ?_ | refine awp_label ?_)
        refine awp_region tabOk fun K hK => ?_
        simp -dsimp -implicitDefEqProofs only [push_cast, ↓trAdd_f, ↓stOf_f, Nat.reduceBEq, Int.reduceBEq, Int.reduceBNe, Int.reduceNeg, Int.reduceAdd, Int.reduceSub, Int.reduceLT, Int.reduceLE, Int.reduceMul, Nat.reducePow, Int.reducePow, Nat.reduceAdd, Nat.reduceEqDiff, Nat.reduceLT, Nat.reduceLeDiff, Nat.reduceMul, Nat.reduceSub, reduceCtorEq, ↓reduceIte]
        try simp (disch := omega) only [wrap_i64, wrap_u8, wrap_u16, wrap_u32]
        refine hK _ ⟨j + 1, hjl, by omega, ?_⟩
        refine le_intro hB [] (by simp) (fun b _ => rfl) rfl ?_ ?_ rfl <;> simp -dsimp -implicitDefEqProofs only [hc_ren, hc_ok, List.forall_mem_cons, List.forall_mem_append, forall_nil_i, List.not_mem_nil, Int.natCast_zero, Int.natCast_add, Int.natCast_one, implies_true, imp_self_i, false_imp_i, slotsLe, storeLe, PV.ren, renL, renG, PV.ok, okL, Blk.ren, Blk.ok, distinct, wk, wkA, wkAL, wkC, wkL, wkB, blkLe, List.cons.injEq, true_or, PV.int.injEq, PV.bool.injEq, AS.get, getPV, lk, Int.cast_ofNat_Int, Int.natCast_one, Int.reduceBEq, Int.reduceBNe, Int.reduceNeg, int_toNat_zero_i, Nat.sub_zero, Int.natCast_zero, Int.reduceAdd, Int.reduceSub, Int.reduceLT, Int.reduceLE, Int.reduceMul, Int.zero_add, decide_true, decide_false, Nat.reducePow, Int.reducePow, Nat.reduceAdd, Nat.reduceEqDiff, Nat.reduceLT, Nat.reduceLeDiff, Nat.reduceMul, Nat.reduceSub, Nat.reduceBEq, Nat.le_refl, Nat.zero_add, Nat.add_zero, reduceCtorEq, or_true, true_or, or_false, false_or, if_true, if_false, ↓reduceIte, true_and, and_true, and_self, Bool.not_true, Bool.not_false, cond_true, cond_false, Bool.true_eq_false, Bool.false_eq_true, ne_eq, not_false_eq_true, not_true_eq_false, Bool.and_true, Bool.true_and, Bool.and_false, Bool.false_and, Bool.or_true, Bool.true_or, Bool.or_false, Bool.false_or, List.isEmpty_nil, List.map_cons, List.map_nil, List.length_cons, List.length_nil, List.length_map, List.getD_cons_zero, List.getD_cons_succ, List.getD_nil, List.getElem?_cons_zero, List.getElem?_cons_succ, List.getElem?_nil, List.take_succ_cons, List.take_zero, List.take_nil, List.drop_succ_cons, List.drop_zero, List.drop_nil, List.nil_append, List.cons_append, List.append_nil, Option.getD_some, Option.getD_none, Option.map_some, Option.map_none, Int.toNat_natCast, ok_frm, ok_hop, ok_int, ok_rows, ok_rt, ren_frm, ren_hop, ren_int, ren_rows, ren_rt]
      · have he : j = l.length := by simp at h; omega
        subst he
        rw [List.take_length]
        refine awp_exit rfl ?_
        try refine hK _ ?_
        repeat (first | refine awp_seq ?_ | refine awp_block ?_ | refine awp_skip ?_ | refine awp_scope ?_ | refine awp_label ?_)
        refine awp_region tabOk fun K hK => ?_
        simp -dsimp -implicitDefEqProofs only [hc_len, hc_take, hc_kinds, hc_like, hc_eqc, push_cast, ↓trAdd_f, ↓stOf_f, Nat.reduceBEq, Int.reduceBEq, Int.reduceBNe, Int.reduceNeg, Int.reduceAdd, Int.reduceSub, Int.reduceLT, Int.reduceLE, Int.reduceMul, Nat.reducePow, Int.reducePow, Nat.reduceAdd, Nat.reduceEqDiff, Nat.reduceLT, Nat.reduceLeDiff, Nat.reduceMul, Nat.reduceSub, reduceCtorEq, ↓reduceIte]
        have hstep : sweeps (n - k) hh l = if same4 hh (sweep hh l) = true then sweep hh l else sweeps (n - (k + 1)) (sweep hh l) l := by
          rw [show n - k = (n - (k + 1)) + 1 by omega]; rfl
        try refine hK _ ?_
        repeat (first | refine awp_seq ?_ | refine awp_block ?_ | refine awp_skip ?_ | refine awp_scope ?_ | refine awp_label ?_)
        refine awp_cond (b := same4 hh (sweep hh l)) (by simp -dsimp -implicitDefEqProofs only [push_cast, ↓trAdd_f, ↓stOf_f, Nat.reduceBEq, Int.reduceBEq, Int.reduceBNe, Int.reduceNeg, Int.reduceAdd, Int.reduceSub, Int.reduceLT, Int.reduceLE, Int.reduceMul, Nat.reducePow, Int.reducePow, Nat.reduceAdd, Nat.reduceEqDiff, Nat.reduceLT, Nat.reduceLeDiff, Nat.reduceMul, Nat.reduceSub, reduceCtorEq, ↓reduceIte]) (fun h => ?_) (fun h => ?_)
        · rw [if_pos h] at hstep
          refine awp_exit rfl ?_
          rw [hsw, hstep]
          refine le_intro hB [] (by simp) (fun b _ => rfl) rfl ?_ ?_ rfl <;> simp -dsimp -implicitDefEqProofs only [hc_ren, hc_ok, List.forall_mem_cons, List.forall_mem_append, forall_nil_i, List.not_mem_nil, Int.natCast_zero, Int.natCast_add, Int.natCast_one, implies_true, imp_self_i, false_imp_i, slotsLe, storeLe, PV.ren, renL, renG, PV.ok, okL, Blk.ren, Blk.ok, distinct, wk, wkA, wkAL, wkC, wkL, wkB, blkLe, List.cons.injEq, true_or, PV.int.injEq, PV.bool.injEq, AS.get, getPV, lk, Int.cast_ofNat_Int, Int.natCast_one, Int.reduceBEq, Int.reduceBNe, Int.reduceNeg, int_toNat_zero_i, Nat.sub_zero, Int.natCast_zero, Int.reduceAdd, Int.reduceSub, Int.reduceLT, Int.reduceLE, Int.reduceMul, Int.zero_add, decide_true, decide_false, Nat.reducePow, Int.reducePow, Nat.reduceAdd, Nat.reduceEqDiff, Nat.reduceLT, Nat.reduceLeDiff, Nat.reduceMul, Nat.reduceSub, Nat.reduceBEq, Nat.le_refl, Nat.zero_add, Nat.add_zero, reduceCtorEq, or_true, true_or, or_false, false_or, if_true, if_false, ↓reduceIte, true_and, and_true, and_self, Bool.not_true, Bool.not_false, cond_true, cond_false, Bool.true_eq_false, Bool.false_eq_true, ne_eq, not_false_eq_true, not_true_eq_false, Bool.and_true, Bool.true_and, Bool.and_false, Bool.false_and, Bool.or_true, Bool.true_or, Bool.or_false, Bool.false_or, List.isEmpty_nil, List.map_cons, List.map_nil, List.length_cons, List.length_nil, List.length_map, List.getD_cons_zero, List.getD_cons_succ, List.getD_nil, List.getElem?_cons_zero, List.getElem?_cons_succ, List.getElem?_nil, List.take_succ_cons, List.take_zero, List.take_nil, List.drop_succ_cons, List.drop_zero, List.drop_nil, List.nil_append, List.cons_append, List.append_nil, Option.getD_some, Option.getD_none, Option.map_some, Option.map_none, Int.toNat_natCast, ok_frm, ok_hop, ok_int, ok_rows, ok_rt, ren_frm, ren_hop, ren_int, ren_rows, ren_rt]
        · rw [h, if_neg (by simp)] at hstep
          try refine hK _ ?_
          repeat (first | refine awp_seq ?_ | refine awp_block ?_ | refine awp_skip ?_ | refine awp_scope ?_ | refine awp_label ?_)
          refine awp_region tabOk fun K hK => ?_
          simp -dsimp -implicitDefEqProofs only [push_cast, ↓trAdd_f, ↓stOf_f, Nat.reduceBEq, Int.reduceBEq, Int.reduceBNe, Int.reduceNeg, Int.reduceAdd, Int.reduceSub, Int.reduceLT, Int.reduceLE, Int.reduceMul, Nat.reducePow, Int.reducePow, Nat.reduceAdd, Nat.reduceEqDiff, Nat.reduceLT, Nat.reduceLeDiff, Nat.reduceMul, Nat.reduceSub, reduceCtorEq, ↓reduceIte]
          try simp (disch := omega) only [wrap_i64, wrap_u8, wrap_u16, wrap_u32]
          refine hK _ ⟨(k + 1, sweep hh l), ⟨hlt, ?_, ?_⟩, ?_, ?_⟩
          · rw [hsw, hstep]
          · have := sweep_inv (L := l) l hh (k * 16) (fun r hr => hr) hinv (by omega)
            intro v
            obtain ⟨q1, q2, q3⟩ := this v
            refine ⟨q1, ?_, q3⟩
            show sweep hh l v ≤ _
            omega
          · show n - (k + 1) < n - k; omega
          refine le_intro hB [] (by simp) (fun b _ => rfl) rfl ?_ ?_ rfl <;> simp -dsimp -implicitDefEqProofs only [hc_ren, hc_ok, List.forall_mem_cons, List.forall_mem_append, forall_nil_i, List.not_mem_nil, Int.natCast_zero, Int.natCast_add, Int.natCast_one, implies_true, imp_self_i, false_imp_i, slotsLe, storeLe, PV.ren, renL, renG, PV.ok, okL, Blk.ren, Blk.ok, distinct, wk, wkA, wkAL, wkC, wkL, wkB, blkLe, List.cons.injEq, true_or, PV.int.injEq, PV.bool.injEq, AS.get, getPV, lk, Int.cast_ofNat_Int, Int.natCast_one, Int.reduceBEq, Int.reduceBNe, Int.reduceNeg, int_toNat_zero_i, Nat.sub_zero, Int.natCast_zero, Int.reduceAdd, Int.reduceSub, Int.reduceLT, Int.reduceLE, Int.reduceMul, Int.zero_add, decide_true, decide_false, Nat.reducePow, Int.reducePow, Nat.reduceAdd, Nat.reduceEqDiff, Nat.reduceLT, Nat.reduceLeDiff, Nat.reduceMul, Nat.reduceSub, Nat.reduceBEq, Nat.le_refl, Nat.zero_add, Nat.add_zero, reduceCtorEq, or_true, true_or, or_false, false_or, if_true, if_false, ↓reduceIte, true_and, and_true, and_self, Bool.not_true, Bool.not_false, cond_true, cond_false, Bool.true_eq_false, Bool.false_eq_true, ne_eq, not_false_eq_true, not_true_eq_false, Bool.and_true, Bool.true_and, Bool.and_false, Bool.false_and, Bool.or_true, Bool.true_or, Bool.or_false, Bool.false_or, List.isEmpty_nil, List.map_cons, List.map_nil, List.length_cons, List.length_nil, List.length_map, List.getD_cons_zero, List.getD_cons_succ, List.getD_nil, List.getElem?_cons_zero, List.getElem?_cons_succ, List.getElem?_nil, List.take_succ_cons, List.take_zero, List.take_nil, List.drop_succ_cons, List.drop_zero, List.drop_nil, List.nil_append, List.cons_append, List.append_nil, Option.getD_some, Option.getD_none, Option.map_some, Option.map_none, Int.toNat_natCast, ok_frm, ok_hop, ok_int, ok_rows, ok_rt, ren_frm, ren_hop, ren_int, ren_rows, ren_rt]
    · have he : k = n := by simp at h; omega
      subst he
      refine awp_exit rfl ?_
      rw [hsw, Nat.sub_self, sweeps]
      refine le_intro hB [] (by simp) (fun b _ => rfl) rfl ?_ ?_ rfl <;> simp -dsimp -implicitDefEqProofs only [hc_ren, hc_ok, List.forall_mem_cons, List.forall_mem_append, forall_nil_i, List.not_mem_nil, Int.natCast_zero, Int.natCast_add, Int.natCast_one, implies_true, imp_self_i, false_imp_i, slotsLe, storeLe, PV.ren, renL, renG, PV.ok, okL, Blk.ren, Blk.ok, distinct, wk, wkA, wkAL, wkC, wkL, wkB, blkLe, List.cons.injEq, true_or, PV.int.injEq, PV.bool.injEq, AS.get, getPV, lk, Int.cast_ofNat_Int, Int.natCast_one, Int.reduceBEq, Int.reduceBNe, Int.reduceNeg, int_toNat_zero_i, Nat.sub_zero, Int.natCast_zero, Int.reduceAdd, Int.reduceSub, Int.reduceLT, Int.reduceLE, Int.reduceMul, Int.zero_add, decide_true, decide_false, Nat.reducePow, Int.reducePow, Nat.reduceAdd, Nat.reduceEqDiff, Nat.reduceLT, Nat.reduceLeDiff, Nat.reduceMul, Nat.reduceSub, Nat.reduceBEq, Nat.le_refl, Nat.zero_add, Nat.add_zero, reduceCtorEq, or_true, true_or, or_false, false_or, if_true, if_false, ↓reduceIte, true_and, and_true, and_self, Bool.not_true, Bool.not_false, cond_true, cond_false, Bool.true_eq_false, Bool.false_eq_true, ne_eq, not_false_eq_true, not_true_eq_false, Bool.and_true, Bool.true_and, Bool.and_false, Bool.false_and, Bool.or_true, Bool.true_or, Bool.or_false, Bool.false_or, List.isEmpty_nil, List.map_cons, List.map_nil, List.length_cons, List.length_nil, List.length_map, List.getD_cons_zero, List.getD_cons_succ, List.getD_nil, List.getElem?_cons_zero, List.getElem?_cons_succ, List.getElem?_nil, List.take_succ_cons, List.take_zero, List.take_nil, List.drop_succ_cons, List.drop_zero, List.drop_nil, List.nil_append, List.cons_append, List.append_nil, Option.getD_some, Option.getD_none, Option.map_some, Option.map_none, Int.toNat_natCast, ok_frm, ok_hop, ok_int, ok_rows, ok_rt, ren_frm, ren_hop, ren_int, ren_rows, ren_rt]
  · try refine hK _ ?_
    repeat (first | refine awp_seq ?_ | refine awp_block ?_ | refine awp_skip ?_ | refine awp_scope ?_ | refine awp_label ?_)
    refine awp_region tabOk fun K hK => ?_
    simp -dsimp -implicitDefEqProofs only [hc_len, hc_take, push_cast, ↓trAdd_f, ↓stOf_f, Nat.reduceBEq, Int.reduceBEq, Int.reduceBNe, Int.reduceNeg, Int.reduceAdd, Int.reduceSub, Int.reduceLT, Int.reduceLE, Int.reduceMul, Nat.reducePow, Int.reducePow, Nat.reduceAdd, Nat.reduceEqDiff, Nat.reduceLT, Nat.reduceLeDiff, Nat.reduceMul, Nat.reduceSub, reduceCtorEq, ↓reduceIte]
    try refine hK _ ?_
    repeat (first | refine awp_seq ?_ | refine awp_block ?_ | refine awp_skip ?_ | refine awp_scope ?_ | refine awp_label ?_)
    refine awp_region tabOk fun K hK => ?_
    simp -dsimp -implicitDefEqProofs only [push_cast, ↓trAdd_f, ↓stOf_f, Nat.reduceBEq, Int.reduceBEq, Int.reduceBNe, Int.reduceNeg, Int.reduceAdd, Int.reduceSub, Int.reduceLT, Int.reduceLE, Int.reduceMul, Nat.reducePow, Int.reducePow, Nat.reduceAdd, Nat.reduceEqDiff, Nat.reduceLT, Nat.reduceLeDiff, Nat.reduceMul, Nat.reduceSub, reduceCtorEq, ↓reduceIte]
    refine hK _ (awp_block ?_)
    generalize hsws : sweeps n (fun _ => 0) l = hh
    have hinv : inv l hh (4 * 16) := by
      obtain ⟨B', hB', hi⟩ := sweeps_inv (l := l) n (fun _ => 0) 0 (inv0 l) (by have := Nat.mul_le_mul (show n ≤ 4 by omega) hl16; omega)
      rw [hsws] at hi
      have := Nat.mul_le_mul (show n ≤ 4 by omega) hl16
      intro v
      have := hi v
      refine ⟨this.1, ?_, this.2.2⟩
      have h3 := this.2.1
      omega
    have hinvj : ∀ j, j ≤ l.length → ∀ v, 0 ≤ sweep hh (l.take j) v ∧ sweep hh (l.take j) v ≤ 1000 := by
      intro j hj v
      have hlj : (l.take j).length ≤ 16 := by rw [List.length_take]; omega
      have := sweep_inv (L := l) (l.take j) hh (4 * 16) (fun r hr => List.mem_of_mem_take hr) hinv (by omega) v
      omega
    refine awp_for (fun j : Nat => { sl := [(0, .sl t 6 (l.map encRoute)), (5, .ptr 40 0), (9, .ptr 56 0), (45, .sl t 6 (l.map encRoute)), (46, .int .i64 l.length), (47, .int .i64 j)], st := [(40, .box (hcells (sweep hh (l.take j)))), (56, .box (hcells hh))], nx := 72, n := 68 }) (fun j => j ≤ l.length) (fun j => l.length - j) 0 (Nat.zero_le _) ?_ fun j hj => ?_
    · refine le_intro hB [] (by simp) (fun b _ => rfl) rfl ?_ ?_ rfl <;> simp -dsimp -implicitDefEqProofs only [hc_ren, hc_ok, sweep, List.foldl_nil, List.forall_mem_cons, List.forall_mem_append, forall_nil_i, List.not_mem_nil, Int.natCast_zero, Int.natCast_add, Int.natCast_one, implies_true, imp_self_i, false_imp_i, slotsLe, storeLe, PV.ren, renL, renG, PV.ok, okL, Blk.ren, Blk.ok, distinct, wk, wkA, wkAL, wkC, wkL, wkB, blkLe, List.cons.injEq, true_or, PV.int.injEq, PV.bool.injEq, AS.get, getPV, lk, Int.cast_ofNat_Int, Int.natCast_one, Int.reduceBEq, Int.reduceBNe, Int.reduceNeg, int_toNat_zero_i, Nat.sub_zero, Int.natCast_zero, Int.reduceAdd, Int.reduceSub, Int.reduceLT, Int.reduceLE, Int.reduceMul, Int.zero_add, decide_true, decide_false, Nat.reducePow, Int.reducePow, Nat.reduceAdd, Nat.reduceEqDiff, Nat.reduceLT, Nat.reduceLeDiff, Nat.reduceMul, Nat.reduceSub, Nat.reduceBEq, Nat.le_refl, Nat.zero_add, Nat.add_zero, reduceCtorEq, or_true, true_or, or_false, false_or, if_true, if_false, ↓reduceIte, true_and, and_true, and_self, Bool.not_true, Bool.not_false, cond_true, cond_false, Bool.true_eq_false, Bool.false_eq_true, ne_eq, not_false_eq_true, not_true_eq_false, Bool.and_true, Bool.true_and, Bool.and_false, Bool.false_and, Bool.or_true, Bool.true_or, Bool.or_false, Bool.false_or, List.isEmpty_nil, List.map_cons, List.map_nil, List.length_cons, List.length_nil, List.length_map, List.getD_cons_zero, List.getD_cons_succ, List.getD_nil, List.getElem?_cons_zero, List.getElem?_cons_succ, List.getElem?_nil, List.take_succ_cons, List.take_zero, List.take_nil, List.drop_succ_cons, List.drop_zero, List.drop_nil, List.nil_append, List.cons_append, List.append_nil, Option.getD_some, Option.getD_none, Option.map_some, Option.map_none, Int.toNat_natCast, ok_frm, ok_hop, ok_int, ok_rows, ok_rt, ren_frm, ren_hop, ren_int, ren_rows, ren_rt]
    try refine hK _ ?_
    repeat (first | refine awp_seq ?_ | refine awp_block ?_ | refine awp_skip ?_ | refine awp_scope ?_ | refine awp_label ?_)
    refine awp_region tabOk fun K hK => ?_
    simp -dsimp -implicitDefEqProofs only [push_cast, ↓trAdd_f, ↓stOf_f, Nat.reduceBEq, Int.reduceBEq, Int.reduceBNe, Int.reduceNeg, Int.reduceAdd, Int.reduceSub, Int.reduceLT, Int.reduceLE, Int.reduceMul, Nat.reducePow, Int.reducePow, Nat.reduceAdd, Nat.reduceEqDiff, Nat.reduceLT, Nat.reduceLeDiff, Nat.reduceMul, Nat.reduceSub, reduceCtorEq, ↓reduceIte]
    try refine hK _ ?_
    repeat (first | refine awp_seq ?_ | refine awp_block ?_ | refine awp_skip ?_ | refine awp_scope ?_ | refine awp_label ?_)
    refine awp_cond (b := decide ((j : Int) < l.length)) (by simp -dsimp -implicitDefEqProofs only [push_cast, ↓trAdd_f, ↓stOf_f, Nat.reduceBEq, Int.reduceBEq, Int.reduceBNe, Int.reduceNeg, Int.reduceAdd, Int.reduceSub, Int.reduceLT, Int.reduceLE, Int.reduceMul, Nat.reducePow, Int.reducePow, Nat.reduceAdd, Nat.reduceEqDiff, Nat.reduceLT, Nat.reduceLeDiff, Nat.reduceMul, Nat.reduceSub, reduceCtorEq, ↓reduceIte]) (fun h => ?_) (fun h => ?_)
    · have hjl : j < l.length := by simpa using h
      have hsucc := sweep_succ hh l j hjl
      have hb := hin _ (List.getElem_mem hjl)
      obtain ⟨a, ha⟩ := Int.eq_ofNat_of_zero_le hb.1
      obtain ⟨b, hbb⟩ := Int.eq_ofNat_of_zero_le hb.2.2.1
      have ha4 : a < 4 := by omega
      have hb4 : b < 4 := by omega
      have hv := (hinvj j hj a)
      have hrel := relax_max (sweep hh (l.take j)) l[j] b (by rw [hbb]; rfl)
      rw [ha, Int.toNat_natCast] at hrel
      try refine hK _ ?_
      repeat (first | refine awp_seq ?_ | refine awp_block ?_ | refine awp_skip ?_ | refine awp_scope ?_ | refine awp_label ?_)
      refine awp_region tabOk fun K hK => ?_
      simp -dsimp -implicitDefEqProofs only [hjl, getD_map, encRoute, push_cast, ↓trAdd_f, ↓stOf_f, Nat.reduceBEq, Int.reduceBEq, Int.reduceBNe, Int.reduceNeg, Int.reduceAdd, Int.reduceSub, Int.reduceLT, Int.reduceLE, Int.reduceMul, Nat.reducePow, Int.reducePow, Nat.reduceAdd, Nat.reduceEqDiff, Nat.reduceLT, Nat.reduceLeDiff, Nat.reduceMul, Nat.reduceSub, reduceCtorEq, ↓reduceIte]
      refine ⟨⟨by omega, by omega⟩, ?_⟩
      try refine hK _ ?_
      repeat (first | refine awp_seq ?_ | refine awp_block ?_ | refine awp_skip ?_ | refine awp_scope ?_ | refine awp_label ?_)
      refine awp_draw tabOk (by kernel_rfl) (by kernel_rfl) fun K hK C hC => ?_
      simp -dsimp -implicitDefEqProofs only [ha, hbb, Nat.mul_one, hc_len, hc_get, ha4, hb4, push_cast, ↓trAdd_f, ↓stOf_f, Nat.reduceBEq, Int.reduceBEq, Int.reduceBNe, Int.reduceNeg, Int.reduceAdd, Int.reduceSub, Int.reduceLT, Int.reduceLE, Int.reduceMul, Nat.reducePow, Int.reducePow, Nat.reduceAdd, Nat.reduceEqDiff, Nat.reduceLT, Nat.reduceLeDiff, Nat.reduceMul, Nat.reduceSub, reduceCtorEq, ↓reduceIte]
      try simp (disch := omega) only [wrap_i64, wrap_u8, wrap_u16, wrap_u32]
      rw [hc_splice _ b _ hb4, ← hrel, ← hsucc]
      refine ⟨⟨by omega, by omega⟩, by omega, ⟨by omega, by omega⟩, by omega, ⟨by omega, by omega⟩, by omega, hC _ (by kernel_rfl), hK _ ?_⟩
      try refine hK _ ?_
      repeat (first | refine awp_seq ?_ | refine awp_block ?_ | refine awp_skip ?_ | refine awp_scope ?_ | refine awp_label ?_)
      refine awp_region tabOk fun K hK => ?_
      simp -dsimp -implicitDefEqProofs only [push_cast, ↓trAdd_f, ↓stOf_f, Nat.reduceBEq, Int.reduceBEq, Int.reduceBNe, Int.reduceNeg, Int.reduceAdd, Int.reduceSub, Int.reduceLT, Int.reduceLE, Int.reduceMul, Nat.reducePow, Int.reducePow, Nat.reduceAdd, Nat.reduceEqDiff, Nat.reduceLT, Nat.reduceLeDiff, Nat.reduceMul, Nat.reduceSub, reduceCtorEq, ↓reduceIte]
      try simp (disch := omega) only [wrap_i64, wrap_u8, wrap_u16, wrap_u32]
      refine hK _ ⟨j + 1, hjl, by omega, ?_⟩
      refine le_intro hB [] (by simp) (fun b _ => rfl) rfl ?_ ?_ rfl <;> simp -dsimp -implicitDefEqProofs only [hc_ren, hc_ok, List.forall_mem_cons, List.forall_mem_append, forall_nil_i, List.not_mem_nil, Int.natCast_zero, Int.natCast_add, Int.natCast_one, implies_true, imp_self_i, false_imp_i, slotsLe, storeLe, PV.ren, renL, renG, PV.ok, okL, Blk.ren, Blk.ok, distinct, wk, wkA, wkAL, wkC, wkL, wkB, blkLe, List.cons.injEq, true_or, PV.int.injEq, PV.bool.injEq, AS.get, getPV, lk, Int.cast_ofNat_Int, Int.natCast_one, Int.reduceBEq, Int.reduceBNe, Int.reduceNeg, int_toNat_zero_i, Nat.sub_zero, Int.natCast_zero, Int.reduceAdd, Int.reduceSub, Int.reduceLT, Int.reduceLE, Int.reduceMul, Int.zero_add, decide_true, decide_false, Nat.reducePow, Int.reducePow, Nat.reduceAdd, Nat.reduceEqDiff, Nat.reduceLT, Nat.reduceLeDiff, Nat.reduceMul, Nat.reduceSub, Nat.reduceBEq, Nat.le_refl, Nat.zero_add, Nat.add_zero, reduceCtorEq, or_true, true_or, or_false, false_or, if_true, if_false, ↓reduceIte, true_and, and_true, and_self, Bool.not_true, Bool.not_false, cond_true, cond_false, Bool.true_eq_false, Bool.false_eq_true, ne_eq, not_false_eq_true, not_true_eq_false, Bool.and_true, Bool.true_and, Bool.and_false, Bool.false_and, Bool.or_true, Bool.true_or, Bool.or_false, Bool.false_or, List.isEmpty_nil, List.map_cons, List.map_nil, List.length_cons, List.length_nil, List.length_map, List.getD_cons_zero, List.getD_cons_succ, List.getD_nil, List.getElem?_cons_zero, List.getElem?_cons_succ, List.getElem?_nil, List.take_succ_cons, List.take_zero, List.take_nil, List.drop_succ_cons, List.drop_zero, List.drop_nil, List.nil_append, List.cons_append, List.append_nil, Option.getD_some, Option.getD_none, Option.map_some, Option.map_none, Int.toNat_natCast, ok_frm, ok_hop, ok_int, ok_rows, ok_rt, ren_frm, ren_hop, ren_int, ren_rows, ren_rt]
    · have he : j = l.length := by simp at h; omega
      subst he
      rw [List.take_length]
      refine awp_exit rfl ?_
      try refine hK _ ?_
      repeat (first | refine awp_seq ?_ | refine awp_block ?_ | refine awp_skip ?_ | refine awp_scope ?_ | refine awp_label ?_)
      refine awp_region tabOk fun K hK => ?_
      simp -dsimp -implicitDefEqProofs only [hc_len, hc_take, hc_kinds, hc_like, hc_eqc, push_cast, ↓trAdd_f, ↓stOf_f, Nat.reduceBEq, Int.reduceBEq, Int.reduceBNe, Int.reduceNeg, Int.reduceAdd, Int.reduceSub, Int.reduceLT, Int.reduceLE, Int.reduceMul, Nat.reducePow, Int.reducePow, Nat.reduceAdd, Nat.reduceEqDiff, Nat.reduceLT, Nat.reduceLeDiff, Nat.reduceMul, Nat.reduceSub, reduceCtorEq, ↓reduceIte]
      have hlb : loopG l n = same4 hh (sweep hh l) := by
        unfold loopG loopB
        rw [h2, Bool.true_and, Int.toNat_natCast, hsws]
      refine hK _ (awp_ret ?_)
      rw [hlb]
      simp -dsimp -implicitDefEqProofs only [List.flatMap_cons, List.flatMap_nil, List.mem_append, Blk.ok, PV.ok, okL, List.length_append, take_map_len, implies_true, imp_self_i, false_imp_i, endOk, resVals, joinRes, view, viewA, viewC, viewOk, viewOkA, viewOkC, storeEnd, wk, wkA, wkAL, wkC, wkL, wkB, blkLe, true_or, PV.int.injEq, PV.bool.injEq, idsA, PV.fz, fzL, ids, idsC, fLoad, outP, TI.n, TI.isAgg, List.not_mem_nil, List.mem_cons, List.mem_singleton, forall_eq_or_imp, forall_eq, AS.get, getPV, lk, Int.cast_ofNat_Int, Int.natCast_one, Int.reduceBEq, Int.reduceBNe, Int.reduceNeg, int_toNat_zero_i, Nat.sub_zero, Int.natCast_zero, Int.reduceAdd, Int.reduceSub, Int.reduceLT, Int.reduceLE, Int.reduceMul, Int.zero_add, decide_true, decide_false, Nat.reducePow, Int.reducePow, Nat.reduceAdd, Nat.reduceEqDiff, Nat.reduceLT, Nat.reduceLeDiff, Nat.reduceMul, Nat.reduceSub, Nat.reduceBEq, Nat.le_refl, Nat.zero_add, Nat.add_zero, reduceCtorEq, or_true, true_or, or_false, false_or, if_true, if_false, ↓reduceIte, true_and, and_true, and_self, Bool.not_true, Bool.not_false, cond_true, cond_false, Bool.true_eq_false, Bool.false_eq_true, ne_eq, not_false_eq_true, not_true_eq_false, Bool.and_true, Bool.true_and, Bool.and_false, Bool.false_and, Bool.or_true, Bool.true_or, Bool.or_false, Bool.false_or, List.isEmpty_nil, List.map_cons, List.map_nil, List.length_cons, List.length_nil, List.length_map, List.getD_cons_zero, List.getD_cons_succ, List.getD_nil, List.getElem?_cons_zero, List.getElem?_cons_succ, List.getElem?_nil, List.take_succ_cons, List.take_zero, List.take_nil, List.drop_succ_cons, List.drop_zero, List.drop_nil, List.nil_append, List.cons_append, List.append_nil, Option.getD_some, Option.getD_none, Option.map_some, Option.map_none, Int.toNat_natCast, T_1, T_2, T_3, T_4, T_5, T_6, T_7, T_8, T_9, T_10, T_11, T_12, T_13, T_14, T_15, T_16, T_17, T_18, T_19, T_21, T_22, T_23, T_24, T_25, T_26, T_27, T_28, T_29, T_30, T_31, T_33, T_34, T_35, T_36, T_37, T_38, T_39, T_40, T_41, T_42, T_43, T_45, T_46, T_47, T_48, T_49, T_50, T_51, T_52, T_53, T_54, T_55, T_56, T_57, T_58, T_59, T_60, T_61, T_62, T_63, T_64, T_65, T_66, T_67, T_68, T_69, T_70, T_71, T_72, T_73, T_74, T_75, T_76, T_77, T_78, T_79, T_80, T_81, T_82, T_83, T_84, T_85, T_86, T_87, T_88, T_89, T_90, T_91, T_92, T_93, T_94, T_95, T_96, T_97, T_98, fz_byt, fz_frm, fz_hop, fz_int, fz_rows, fz_rt]
end Go.Proofs.YtcpfkcipnkeokaaFw
