import Derived.Test.YtoifmpiikopelaaFwTab
import Derived.Test.YtoifmpiikopelaaFwZ4
/-
  What an operation's evaluation may use.
-/
namespace Go.Proofs.YtoifmpiikopelaaFw
open Go Go.Proofs
set_option linter.unusedVariables false
set_option linter.unusedSimpArgs false
attribute [push_cast] take_map_len List.length_append List.all_cons List.all_nil PV.scalar PV.scalarA PV.scalarC VT.fr seenV ids idsA idsC List.forall_mem_cons List.not_mem_nil forall_nil_i evalOps_nil and_fold andNot_fold implies_true imp_self_i false_imp_i evalOps_op evalOps_guard optK_some guardK_tt guardK_ff guardK_tf guardK_ft guardK_und opK fstep dstOf gv fitsN AS.app ins del insO insAll delAll initS argSlots ev pvConst pvCell fPick fBin fUn fEq fLen fMax fIndexAddr fIndex fFieldAddr fField fLoad fStore fAlloc fBox fBuild fFill fBuildSlice fMake fAppend fCopy fNilS fConvS fMakeC isC64 fCap fIface rowOf chunks zeroRow outP TI.n TI.isAgg splice PV.cells PV.celled fExtract fNil fConv fConvB fCmp fEqA eqCells eqLeaf likeCells likeLeaf ofKinds ofKind fSlice optI asI stOf trAdd reach idOf named named.namedL inBlk restr writes Op.operands Call.operands List.flatMap_cons List.flatMap_nil List.contains_cons List.contains_nil BEq.rfl AS.get getPV lk Int.cast_ofNat_Int Int.natCast_one int_toNat_zero_i Nat.sub_zero Int.natCast_zero Int.zero_add decide_true decide_false Nat.le_refl Nat.zero_add Nat.add_zero or_true true_or or_false false_or if_true if_false true_and and_true and_self Bool.not_true Bool.not_false cond_true cond_false Bool.true_eq_false Bool.false_eq_true ne_eq not_false_eq_true not_true_eq_false Bool.and_true Bool.true_and Bool.and_false Bool.false_and Bool.or_true Bool.true_or Bool.or_false Bool.false_or List.isEmpty_nil List.map_cons List.map_nil List.length_cons List.length_nil List.length_map List.getD_cons_zero List.getD_cons_succ List.getD_nil List.getElem?_cons_zero List.getElem?_cons_succ List.getElem?_nil List.take_succ_cons List.take_zero List.take_nil List.drop_succ_cons List.drop_zero List.drop_nil List.nil_append List.cons_append List.append_nil Option.getD_some Option.getD_none Option.map_some Option.map_none Int.toNat_natCast T_1 T_2 T_3 T_4 T_5 T_6 T_7 T_8 T_9 T_10 T_11 T_12 T_13 T_14 T_15 T_16 T_17 T_18 T_19 T_21 T_22 T_23 T_24 T_25 T_26 T_27 T_28 T_29 T_30 T_32 T_34 T_35 T_36 T_38 T_39 T_40 T_41 T_42 T_44 T_45 T_46 T_47 T_48 T_49 T_51 T_52 T_54 T_55 T_56 T_57 T_58 T_59 T_60 T_61 T_62 T_63 T_64 T_65 T_66 T_67 T_69 T_70 T_72 T_73 T_74 T_75 T_76 T_77 T_78 T_79 T_80 T_81 T_82 T_83 T_84 T_85 T_86 T_87 T_88 T_89 T_90 T_91 T_92 T_93 T_94 T_95 T_96 T_97 T_98 T_99 T_100 T_101 T_102 T_103 T_104
end Go.Proofs.YtoifmpiikopelaaFw

/-
  Data of the parts of texts, and small walks: tp.in, slices.Clone, SameBytes, tprecv.New, Text, ticks, fail.
-/
namespace Go.Proofs.YtoifmpiikopelaaFw
open Go Go.Proofs
set_option maxRecDepth 100000
set_option maxHeartbeats 4000000
set_option linter.unusedVariables false
set_option linter.unusedSimpArgs false

def encB (n : Int) : List PV := [.int .u8 n]
theorem encB_fz (n : Int) : ∀ c ∈ encB n, c.fz = true := by simp [encB, PV.fz]
def byte (n : Int) : Prop := 0 ≤ n ∧ n ≤ 255
theorem ba_loop (l : List UInt8) : ∀ (k i : Nat) (r : List UInt8), l.length - i = k → ByteArray.toList.loop ⟨l.toArray⟩ i r = r.reverse ++ l.drop i
  | 0, i, r, h => by
    unfold ByteArray.toList.loop
    have h1 : ¬ i < (⟨l.toArray⟩ : ByteArray).size := by show ¬ i < l.toArray.size; simp; omega
    rw [if_neg h1, List.drop_of_length_le (by omega), List.append_nil]
  | k + 1, i, r, h => by
    unfold ByteArray.toList.loop
    have hi : i < l.length := by omega
    have h1 : i < (⟨l.toArray⟩ : ByteArray).size := by show i < l.toArray.size; simpa using hi
    rw [if_pos h1, ba_loop l k (i + 1) _ (by omega), List.drop_eq_getElem_cons hi]
    have : (⟨l.toArray⟩ : ByteArray).get! i = l[i] := by
      show l.toArray[i]! = l[i]
      simp [hi]
    rw [this]; simp
theorem ba_toList (l : List UInt8) : (⟨l.toArray⟩ : ByteArray).toList = l := by
  unfold ByteArray.toList
  rw [ba_loop l l.length 0 [] (by omega)]; rfl
theorem u8_inj : ∀ (a b : List Int), (∀ x ∈ a, byte x) → (∀ x ∈ b, byte x) → (a.map encB).map leafByte = (b.map encB).map leafByte → a = b
  | [], [], _, _, _ => rfl
  | [], _ :: _, _, _, h => by simp at h
  | _ :: _, [], _, _, h => by simp at h
  | x :: a, y :: b, ha, hb, h => by
    simp only [List.map_cons, List.cons.injEq] at h
    have h1 := ha x (by simp)
    have h2 := hb y (by simp)
    have h3 := congrArg UInt8.toNat h.1
    simp only [leafByte, encB, UInt8.toNat_ofNat'] at h3
    unfold byte at h1 h2
    have : x = y := by omega
    rw [this, u8_inj a b (fun z hz => ha z (by simp [hz])) (fun z hz => hb z (by simp [hz])) h.2]
theorem bytes_eq {a b : List Int} (ha : ∀ x ∈ a, byte x) (hb : ∀ x ∈ b, byte x) : ((bytesOf (a.map encB)).toList == (bytesOf (b.map encB)).toList) = decide (a = b) := by
  unfold bytesOf
  rw [ba_toList, ba_toList]
  rw [Bool.eq_iff_iff]
  simp only [beq_iff_eq, decide_eq_true_eq]
  exact ⟨u8_inj a b ha hb, fun h => by rw [h]⟩
theorem isByte_enc (a : List Int) : ∀ e ∈ a.map encB, isByte e := by
  intro e he
  obtain ⟨x, _, rfl⟩ := List.mem_map.1 he
  trivial
theorem sameBytes_ok (t t' : Bool) (a b : List Int) (ha : ∀ x ∈ a, byte x) (hb : ∀ x ∈ b, byte x) : FnS Try.prog 8 [.sl t 1 (a.map encB), .sl t' 1 (b.map encB)] [] (.bool (decide (a = b))) [] := by
  have he := bytes_eq ha hb
  refine fn_walk tabOk Try.func8 rfl (by decide +kernel) Try.ntmps8 Try.results8 (by simp) fun B hB => ?_
  try refine hK _ ?_
  repeat (first | refine awp_seq ?_ | refine awp_block ?_ | refine awp_skip ?_ | refine awp_scope ?_ | refine awp_label ?_)
  refine awp_region tabOk fun K hK => ?_
  simp -dsimp -implicitDefEqProofs only [push_cast, ↓trAdd_f, ↓stOf_f, Nat.reduceBEq, Int.reduceBEq, Int.reduceBNe, Int.reduceNeg, Int.reduceAdd, Int.reduceSub, Int.reduceLT, Int.reduceLE, Int.reduceMul, Nat.reducePow, Int.reducePow, Nat.reduceAdd, Nat.reduceEqDiff, Nat.reduceLT, Nat.reduceLeDiff, Nat.reduceMul, Nat.reduceSub, reduceCtorEq, ↓reduceIte]
  try refine hK _ ?_
  repeat (first | refine awp_seq ?_ | refine awp_block ?_ | refine awp_skip ?_ | refine awp_scope ?_ | refine awp_label ?_)
  refine awp_region tabOk fun K hK => ?_
  simp -dsimp -implicitDefEqProofs only [he, push_cast, ↓trAdd_f, ↓stOf_f, Nat.reduceBEq, Int.reduceBEq, Int.reduceBNe, Int.reduceNeg, Int.reduceAdd, Int.reduceSub, Int.reduceLT, Int.reduceLE, Int.reduceMul, Nat.reducePow, Int.reducePow, Nat.reduceAdd, Nat.reduceEqDiff, Nat.reduceLT, Nat.reduceLeDiff, Nat.reduceMul, Nat.reduceSub, reduceCtorEq, ↓reduceIte]
  refine ⟨isByte_enc a, isByte_enc b, hK _ (awp_ret ?_)⟩
  simp -dsimp -implicitDefEqProofs only [List.flatMap_cons, List.flatMap_nil, List.mem_append, Blk.ok, PV.ok, okL, List.length_append, take_map_len, implies_true, imp_self_i, false_imp_i, endOk, endOkP, resVals, joinRes, view, viewA, viewC, viewOk, viewOkA, viewOkC, storeEnd, wk, wkA, wkAL, wkC, wkL, wkB, blkLe, true_or, PV.int.injEq, PV.bool.injEq, idsA, PV.fz, fzL, ids, idsC, fLoad, outP, TI.n, TI.isAgg, List.not_mem_nil, List.mem_cons, List.mem_singleton, forall_eq_or_imp, forall_eq, AS.get, getPV, lk, Int.cast_ofNat_Int, Int.natCast_one, Int.reduceBEq, Int.reduceBNe, Int.reduceNeg, int_toNat_zero_i, Nat.sub_zero, Int.natCast_zero, Int.reduceAdd, Int.reduceSub, Int.reduceLT, Int.reduceLE, Int.reduceMul, Int.zero_add, decide_true, decide_false, Nat.reducePow, Int.reducePow, Nat.reduceAdd, Nat.reduceEqDiff, Nat.reduceLT, Nat.reduceLeDiff, Nat.reduceMul, Nat.reduceSub, Nat.reduceBEq, Nat.le_refl, Nat.zero_add, Nat.add_zero, reduceCtorEq, or_true, true_or, or_false, false_or, if_true, if_false, ↓reduceIte, true_and, and_true, and_self, Bool.not_true, Bool.not_false, cond_true, cond_false, Bool.true_eq_false, Bool.false_eq_true, ne_eq, not_false_eq_true, not_true_eq_false, Bool.and_true, Bool.true_and, Bool.and_false, Bool.false_and, Bool.or_true, Bool.true_or, Bool.or_false, Bool.false_or, List.isEmpty_nil, List.map_cons, List.map_nil, List.length_cons, List.length_nil, List.length_map, List.getD_cons_zero, List.getD_cons_succ, List.getD_nil, List.getElem?_cons_zero, List.getElem?_cons_succ, List.getElem?_nil, List.take_succ_cons, List.take_zero, List.take_nil, List.drop_succ_cons, List.drop_zero, List.drop_nil, List.nil_append, List.cons_append, List.append_nil, Option.getD_some, Option.getD_none, Option.map_some, Option.map_none, Int.toNat_natCast, T_1, T_2, T_3, T_4, T_5, T_6, T_7, T_8, T_9, T_10, T_11, T_12, T_13, T_14, T_15, T_16, T_17, T_18, T_19, T_21, T_22, T_23, T_24, T_25, T_26, T_27, T_28, T_29, T_30, T_32, T_34, T_35, T_36, T_38, T_39, T_40, T_41, T_42, T_44, T_45, T_46, T_47, T_48, T_49, T_51, T_52, T_54, T_55, T_56, T_57, T_58, T_59, T_60, T_61, T_62, T_63, T_64, T_65, T_66, T_67, T_69, T_70, T_72, T_73, T_74, T_75, T_76, T_77, T_78, T_79, T_80, T_81, T_82, T_83, T_84, T_85, T_86, T_87, T_88, T_89, T_90, T_91, T_92, T_93, T_94, T_95, T_96, T_97, T_98, T_99, T_100, T_101, T_102, T_103, T_104]

structure Pdu where
  kind : Int
  len : Int
  num : Int
  say : Int
  block : Int
  gap : Int
  data : List Int
def encPdu (p : Pdu) : List PV := [.int .i64 p.kind, .int .i64 p.len, .int .i64 p.num, .int .i64 p.say, .int .i64 p.block, .int .i64 p.gap, .sl false 1 (p.data.map encB)]
theorem encPdu_fz (p : Pdu) : ∀ c ∈ encPdu p, c.fz = true := by simp [encPdu, PV.fz, encB_fz]
structure Snd where
  st : Int
  text : List Int
  pos : Int
  num : Int
  left : Int
  gap : Int
  clk : Int
  waits : Int
  err : Int
def encSnd (s : Snd) : List PV := [.int .i64 s.st, .sl false 1 (s.text.map encB), .int .i64 s.pos, .int .i64 s.num, .int .i64 s.left, .int .i64 s.gap, .int .i64 s.clk, .int .i64 s.waits, .int .i64 s.err]
structure Rcv where
  st : Int
  len : Int
  got : List Int
  num : Int
  left : Int
  block : Int
  gap : Int
  clk : Int
  room : Int
  err : Int
def encRcv (r : Rcv) : List PV := [.int .i64 r.st, .int .i64 r.len, .sl false 1 (r.got.map encB), .int .i64 r.num, .int .i64 r.left, .int .i64 r.block, .int .i64 r.gap, .int .i64 r.clk, .int .i64 r.room, .int .i64 r.err]
def pdu0 : Pdu := ⟨0, 0, 0, 0, 0, 0, []⟩
attribute [push_cast] encPdu encSnd encRcv

theorem bytes_fz0 (l : List Int) : ∀ e ∈ l.map encB, ∀ c ∈ e, c.fz = true := fz_map encB_fz l
theorem bytes_fz (l : List Int) : (∀ e ∈ l.map encB, ∀ c ∈ e, c.fz = true) = True := eq_true (fz_map encB_fz l)
theorem bytes_ren (l : List Int) (r : Nat → Nat) : (l.map encB).map (renL r) = l.map encB := map_ren_fz _ (bytes_fz0 l) r
theorem bytes_okl (l : List Int) (S : Nat → Prop) : (∀ e ∈ l.map encB, okL S e) = True := all_ok_fz _ (bytes_fz0 l) S
attribute [push_cast] bytes_ren bytes_okl
theorem in_ok (n lo hi : Int) : FnS Try.prog 19 [.int .i64 n, .int .i64 lo, .int .i64 hi] [] (.bool (decide (lo ≤ n) && decide (n ≤ hi))) [] := by
  refine fn_walk tabOk Try.func19 rfl (by decide +kernel) Try.ntmps19 Try.results19 (by simp) fun B hB => ?_
  try refine hK _ ?_
  repeat (first | refine awp_seq ?_ | refine awp_block ?_ | refine awp_skip ?_ | refine awp_scope ?_ | refine awp_label ?_)
  refine awp_region tabOk fun K hK => ?_
  simp -dsimp -implicitDefEqProofs only [push_cast, ↓trAdd_f, ↓stOf_f, Nat.reduceBEq, Int.reduceBEq, Int.reduceBNe, Int.reduceNeg, Int.reduceAdd, Int.reduceSub, Int.reduceLT, Int.reduceLE, Int.reduceMul, Nat.reducePow, Int.reducePow, Nat.reduceAdd, Nat.reduceEqDiff, Nat.reduceLT, Nat.reduceLeDiff, Nat.reduceMul, Nat.reduceSub, reduceCtorEq, ↓reduceIte]
  refine hK _ ?_
  cases hA : decide (lo ≤ n) with
  | true =>
    try refine hK _ ?_
    repeat (first | refine awp_seq ?_ | refine awp_block ?_ | refine awp_skip ?_ | refine awp_scope ?_ | refine awp_label ?_)
    refine awp_region tabOk fun K hK => ?_
    simp -dsimp -implicitDefEqProofs only [hA, push_cast, ↓trAdd_f, ↓stOf_f, Nat.reduceBEq, Int.reduceBEq, Int.reduceBNe, Int.reduceNeg, Int.reduceAdd, Int.reduceSub, Int.reduceLT, Int.reduceLE, Int.reduceMul, Nat.reducePow, Int.reducePow, Nat.reduceAdd, Nat.reduceEqDiff, Nat.reduceLT, Nat.reduceLeDiff, Nat.reduceMul, Nat.reduceSub, reduceCtorEq, ↓reduceIte]
    refine hK _ (awp_ret ?_)
    simp -dsimp -implicitDefEqProofs only [List.flatMap_cons, List.flatMap_nil, List.mem_append, Blk.ok, PV.ok, okL, List.length_append, take_map_len, implies_true, imp_self_i, false_imp_i, endOk, endOkP, resVals, joinRes, view, viewA, viewC, viewOk, viewOkA, viewOkC, storeEnd, wk, wkA, wkAL, wkC, wkL, wkB, blkLe, true_or, PV.int.injEq, PV.bool.injEq, idsA, PV.fz, fzL, ids, idsC, fLoad, outP, TI.n, TI.isAgg, List.not_mem_nil, List.mem_cons, List.mem_singleton, forall_eq_or_imp, forall_eq, AS.get, getPV, lk, Int.cast_ofNat_Int, Int.natCast_one, Int.reduceBEq, Int.reduceBNe, Int.reduceNeg, int_toNat_zero_i, Nat.sub_zero, Int.natCast_zero, Int.reduceAdd, Int.reduceSub, Int.reduceLT, Int.reduceLE, Int.reduceMul, Int.zero_add, decide_true, decide_false, Nat.reducePow, Int.reducePow, Nat.reduceAdd, Nat.reduceEqDiff, Nat.reduceLT, Nat.reduceLeDiff, Nat.reduceMul, Nat.reduceSub, Nat.reduceBEq, Nat.le_refl, Nat.zero_add, Nat.add_zero, reduceCtorEq, or_true, true_or, or_false, false_or, if_true, if_false, ↓reduceIte, true_and, and_true, and_self, Bool.not_true, Bool.not_false, cond_true, cond_false, Bool.true_eq_false, Bool.false_eq_true, ne_eq, not_false_eq_true, not_true_eq_false, Bool.and_true, Bool.true_and, Bool.and_false, Bool.false_and, Bool.or_true, Bool.true_or, Bool.or_false, Bool.false_or, List.isEmpty_nil, List.map_cons, List.map_nil, List.length_cons, List.length_nil, List.length_map, List.getD_cons_zero, List.getD_cons_succ, List.getD_nil, List.getElem?_cons_zero, List.getElem?_cons_succ, List.getElem?_nil, List.take_succ_cons, List.take_zero, List.take_nil, List.drop_succ_cons, List.drop_zero, List.drop_nil, List.nil_append, List.cons_append, List.append_nil, Option.getD_some, Option.getD_none, Option.map_some, Option.map_none, Int.toNat_natCast, T_1, T_2, T_3, T_4, T_5, T_6, T_7, T_8, T_9, T_10, T_11, T_12, T_13, T_14, T_15, T_16, T_17, T_18, T_19, T_21, T_22, T_23, T_24, T_25, T_26, T_27, T_28, T_29, T_30, T_32, T_34, T_35, T_36, T_38, T_39, T_40, T_41, T_42, T_44, T_45, T_46, T_47, T_48, T_49, T_51, T_52, T_54, T_55, T_56, T_57, T_58, T_59, T_60, T_61, T_62, T_63, T_64, T_65, T_66, T_67, T_69, T_70, T_72, T_73, T_74, T_75, T_76, T_77, T_78, T_79, T_80, T_81, T_82, T_83, T_84, T_85, T_86, T_87, T_88, T_89, T_90, T_91, T_92, T_93, T_94, T_95, T_96, T_97, T_98, T_99, T_100, T_101, T_102, T_103, T_104]
  | false =>
    try refine hK _ ?_
    repeat (first | refine awp_seq ?_ | refine awp_block ?_ | refine awp_skip ?_ | refine awp_scope ?_ | refine awp_label ?_)
    refine awp_region tabOk fun K hK => ?_
    simp -dsimp -implicitDefEqProofs only [hA, push_cast, ↓trAdd_f, ↓stOf_f, Nat.reduceBEq, Int.reduceBEq, Int.reduceBNe, Int.reduceNeg, Int.reduceAdd, Int.reduceSub, Int.reduceLT, Int.reduceLE, Int.reduceMul, Nat.reducePow, Int.reducePow, Nat.reduceAdd, Nat.reduceEqDiff, Nat.reduceLT, Nat.reduceLeDiff, Nat.reduceMul, Nat.reduceSub, reduceCtorEq, ↓reduceIte]
    refine hK _ (awp_ret ?_)
    simp -dsimp -implicitDefEqProofs only [List.flatMap_cons, List.flatMap_nil, List.mem_append, Blk.ok, PV.ok, okL, List.length_append, take_map_len, implies_true, imp_self_i, false_imp_i, endOk, endOkP, resVals, joinRes, view, viewA, viewC, viewOk, viewOkA, viewOkC, storeEnd, wk, wkA, wkAL, wkC, wkL, wkB, blkLe, true_or, PV.int.injEq, PV.bool.injEq, idsA, PV.fz, fzL, ids, idsC, fLoad, outP, TI.n, TI.isAgg, List.not_mem_nil, List.mem_cons, List.mem_singleton, forall_eq_or_imp, forall_eq, AS.get, getPV, lk, Int.cast_ofNat_Int, Int.natCast_one, Int.reduceBEq, Int.reduceBNe, Int.reduceNeg, int_toNat_zero_i, Nat.sub_zero, Int.natCast_zero, Int.reduceAdd, Int.reduceSub, Int.reduceLT, Int.reduceLE, Int.reduceMul, Int.zero_add, decide_true, decide_false, Nat.reducePow, Int.reducePow, Nat.reduceAdd, Nat.reduceEqDiff, Nat.reduceLT, Nat.reduceLeDiff, Nat.reduceMul, Nat.reduceSub, Nat.reduceBEq, Nat.le_refl, Nat.zero_add, Nat.add_zero, reduceCtorEq, or_true, true_or, or_false, false_or, if_true, if_false, ↓reduceIte, true_and, and_true, and_self, Bool.not_true, Bool.not_false, cond_true, cond_false, Bool.true_eq_false, Bool.false_eq_true, ne_eq, not_false_eq_true, not_true_eq_false, Bool.and_true, Bool.true_and, Bool.and_false, Bool.false_and, Bool.or_true, Bool.true_or, Bool.or_false, Bool.false_or, List.isEmpty_nil, List.map_cons, List.map_nil, List.length_cons, List.length_nil, List.length_map, List.getD_cons_zero, List.getD_cons_succ, List.getD_nil, List.getElem?_cons_zero, List.getElem?_cons_succ, List.getElem?_nil, List.take_succ_cons, List.take_zero, List.take_nil, List.drop_succ_cons, List.drop_zero, List.drop_nil, List.nil_append, List.cons_append, List.append_nil, Option.getD_some, Option.getD_none, Option.map_some, Option.map_none, Int.toNat_natCast, T_1, T_2, T_3, T_4, T_5, T_6, T_7, T_8, T_9, T_10, T_11, T_12, T_13, T_14, T_15, T_16, T_17, T_18, T_19, T_21, T_22, T_23, T_24, T_25, T_26, T_27, T_28, T_29, T_30, T_32, T_34, T_35, T_36, T_38, T_39, T_40, T_41, T_42, T_44, T_45, T_46, T_47, T_48, T_49, T_51, T_52, T_54, T_55, T_56, T_57, T_58, T_59, T_60, T_61, T_62, T_63, T_64, T_65, T_66, T_67, T_69, T_70, T_72, T_73, T_74, T_75, T_76, T_77, T_78, T_79, T_80, T_81, T_82, T_83, T_84, T_85, T_86, T_87, T_88, T_89, T_90, T_91, T_92, T_93, T_94, T_95, T_96, T_97, T_98, T_99, T_100, T_101, T_102, T_103, T_104]
theorem clone_ok (l : List Int) (h0 : l ≠ []) (hl : l.length ≤ 2 ^ 40) : FnS Try.prog 20 [.sl false 1 (l.map encB)] [] (.sl false 1 (l.map encB)) [] := by
  have hne : (l.map encB).isEmpty = false := by cases l <;> simp at h0 ⊢
  refine fn_walk tabOk Try.func20 rfl (by decide +kernel) Try.ntmps20 Try.results20 (by simp) fun B hB => ?_
  try refine hK _ ?_
  repeat (first | refine awp_seq ?_ | refine awp_block ?_ | refine awp_skip ?_ | refine awp_scope ?_ | refine awp_label ?_)
  refine awp_region tabOk fun K hK => ?_
  simp -dsimp -implicitDefEqProofs only [push_cast, ↓trAdd_f, ↓stOf_f, Nat.reduceBEq, Int.reduceBEq, Int.reduceBNe, Int.reduceNeg, Int.reduceAdd, Int.reduceSub, Int.reduceLT, Int.reduceLE, Int.reduceMul, Nat.reducePow, Int.reducePow, Nat.reduceAdd, Nat.reduceEqDiff, Nat.reduceLT, Nat.reduceLeDiff, Nat.reduceMul, Nat.reduceSub, reduceCtorEq, ↓reduceIte]
  refine hK _ ?_
  try refine hK _ ?_
  repeat (first | refine awp_seq ?_ | refine awp_block ?_ | refine awp_skip ?_ | refine awp_scope ?_ | refine awp_label ?_)
  refine awp_region tabOk fun K hK => ?_
  simp -dsimp -implicitDefEqProofs only [hne, push_cast, ↓trAdd_f, ↓stOf_f, Nat.reduceBEq, Int.reduceBEq, Int.reduceBNe, Int.reduceNeg, Int.reduceAdd, Int.reduceSub, Int.reduceLT, Int.reduceLE, Int.reduceMul, Nat.reducePow, Int.reducePow, Nat.reduceAdd, Nat.reduceEqDiff, Nat.reduceLT, Nat.reduceLeDiff, Nat.reduceMul, Nat.reduceSub, reduceCtorEq, ↓reduceIte]
  refine hK _ ?_
  try refine hK _ ?_
  repeat (first | refine awp_seq ?_ | refine awp_block ?_ | refine awp_skip ?_ | refine awp_scope ?_ | refine awp_label ?_)
  refine awp_cond (b := false) (by simp -dsimp -implicitDefEqProofs only [push_cast, ↓trAdd_f, ↓stOf_f, Nat.reduceBEq, Int.reduceBEq, Int.reduceBNe, Int.reduceNeg, Int.reduceAdd, Int.reduceSub, Int.reduceLT, Int.reduceLE, Int.reduceMul, Nat.reducePow, Int.reducePow, Nat.reduceAdd, Nat.reduceEqDiff, Nat.reduceLT, Nat.reduceLeDiff, Nat.reduceMul, Nat.reduceSub, reduceCtorEq, ↓reduceIte]) (fun h => ?_) (fun h => ?_)
  · cases h
  refine awp_skip ?_
  try refine hK _ ?_
  repeat (first | refine awp_seq ?_ | refine awp_block ?_ | refine awp_skip ?_ | refine awp_scope ?_ | refine awp_label ?_)
  refine awp_region tabOk fun K hK => ?_
  simp -dsimp -implicitDefEqProofs only [push_cast, ↓trAdd_f, ↓stOf_f, Nat.reduceBEq, Int.reduceBEq, Int.reduceBNe, Int.reduceNeg, Int.reduceAdd, Int.reduceSub, Int.reduceLT, Int.reduceLE, Int.reduceMul, Nat.reducePow, Int.reducePow, Nat.reduceAdd, Nat.reduceEqDiff, Nat.reduceLT, Nat.reduceLeDiff, Nat.reduceMul, Nat.reduceSub, reduceCtorEq, ↓reduceIte]
  have hz := bytes_fz l
  refine ⟨⟨by omega, by omega⟩, hK _ (awp_ret ?_)⟩
  simp -dsimp -implicitDefEqProofs only [hz, List.flatMap_cons, List.flatMap_nil, List.mem_append, Blk.ok, PV.ok, okL, List.length_append, take_map_len, implies_true, imp_self_i, false_imp_i, endOk, endOkP, resVals, joinRes, view, viewA, viewC, viewOk, viewOkA, viewOkC, storeEnd, wk, wkA, wkAL, wkC, wkL, wkB, blkLe, true_or, PV.int.injEq, PV.bool.injEq, idsA, PV.fz, fzL, ids, idsC, fLoad, outP, TI.n, TI.isAgg, List.not_mem_nil, List.mem_cons, List.mem_singleton, forall_eq_or_imp, forall_eq, AS.get, getPV, lk, Int.cast_ofNat_Int, Int.natCast_one, Int.reduceBEq, Int.reduceBNe, Int.reduceNeg, int_toNat_zero_i, Nat.sub_zero, Int.natCast_zero, Int.reduceAdd, Int.reduceSub, Int.reduceLT, Int.reduceLE, Int.reduceMul, Int.zero_add, decide_true, decide_false, Nat.reducePow, Int.reducePow, Nat.reduceAdd, Nat.reduceEqDiff, Nat.reduceLT, Nat.reduceLeDiff, Nat.reduceMul, Nat.reduceSub, Nat.reduceBEq, Nat.le_refl, Nat.zero_add, Nat.add_zero, reduceCtorEq, or_true, true_or, or_false, false_or, if_true, if_false, ↓reduceIte, true_and, and_true, and_self, Bool.not_true, Bool.not_false, cond_true, cond_false, Bool.true_eq_false, Bool.false_eq_true, ne_eq, not_false_eq_true, not_true_eq_false, Bool.and_true, Bool.true_and, Bool.and_false, Bool.false_and, Bool.or_true, Bool.true_or, Bool.or_false, Bool.false_or, List.isEmpty_nil, List.map_cons, List.map_nil, List.length_cons, List.length_nil, List.length_map, List.getD_cons_zero, List.getD_cons_succ, List.getD_nil, List.getElem?_cons_zero, List.getElem?_cons_succ, List.getElem?_nil, List.take_succ_cons, List.take_zero, List.take_nil, List.drop_succ_cons, List.drop_zero, List.drop_nil, List.nil_append, List.cons_append, List.append_nil, Option.getD_some, Option.getD_none, Option.map_some, Option.map_none, Int.toNat_natCast, T_1, T_2, T_3, T_4, T_5, T_6, T_7, T_8, T_9, T_10, T_11, T_12, T_13, T_14, T_15, T_16, T_17, T_18, T_19, T_21, T_22, T_23, T_24, T_25, T_26, T_27, T_28, T_29, T_30, T_32, T_34, T_35, T_36, T_38, T_39, T_40, T_41, T_42, T_44, T_45, T_46, T_47, T_48, T_49, T_51, T_52, T_54, T_55, T_56, T_57, T_58, T_59, T_60, T_61, T_62, T_63, T_64, T_65, T_66, T_67, T_69, T_70, T_72, T_73, T_74, T_75, T_76, T_77, T_78, T_79, T_80, T_81, T_82, T_83, T_84, T_85, T_86, T_87, T_88, T_89, T_90, T_91, T_92, T_93, T_94, T_95, T_96, T_97, T_98, T_99, T_100, T_101, T_102, T_103, T_104]
theorem rcvNew_ok (room block gap : Int) : FnS Try.prog 9 [.int .i64 room, .int .i64 block, .int .i64 gap] [] (.agg (encRcv ⟨0, 0, [], 0, 0, block, gap, 0, room, 0⟩)) [] := by
  refine fn_walk tabOk Try.func9 rfl (by decide +kernel) Try.ntmps9 Try.results9 (by simp) fun B hB => ?_
  try refine hK _ ?_
  repeat (first | refine awp_seq ?_ | refine awp_block ?_ | refine awp_skip ?_ | refine awp_scope ?_ | refine awp_label ?_)
  refine awp_region tabOk fun K hK => ?_
  simp -dsimp -implicitDefEqProofs only [push_cast, ↓trAdd_f, ↓stOf_f, Nat.reduceBEq, Int.reduceBEq, Int.reduceBNe, Int.reduceNeg, Int.reduceAdd, Int.reduceSub, Int.reduceLT, Int.reduceLE, Int.reduceMul, Nat.reducePow, Int.reducePow, Nat.reduceAdd, Nat.reduceEqDiff, Nat.reduceLT, Nat.reduceLeDiff, Nat.reduceMul, Nat.reduceSub, reduceCtorEq, ↓reduceIte]
  refine hK _ ?_
  try refine hK _ ?_
  repeat (first | refine awp_seq ?_ | refine awp_block ?_ | refine awp_skip ?_ | refine awp_scope ?_ | refine awp_label ?_)
  refine awp_region tabOk fun K hK => ?_
  simp -dsimp -implicitDefEqProofs only [push_cast, ↓trAdd_f, ↓stOf_f, Nat.reduceBEq, Int.reduceBEq, Int.reduceBNe, Int.reduceNeg, Int.reduceAdd, Int.reduceSub, Int.reduceLT, Int.reduceLE, Int.reduceMul, Nat.reducePow, Int.reducePow, Nat.reduceAdd, Nat.reduceEqDiff, Nat.reduceLT, Nat.reduceLeDiff, Nat.reduceMul, Nat.reduceSub, reduceCtorEq, ↓reduceIte]
  refine hK _ (awp_ret ?_)
  simp -dsimp -implicitDefEqProofs only [encRcv, List.flatMap_cons, List.flatMap_nil, List.mem_append, Blk.ok, PV.ok, okL, List.length_append, take_map_len, implies_true, imp_self_i, false_imp_i, endOk, endOkP, resVals, joinRes, view, viewA, viewC, viewOk, viewOkA, viewOkC, storeEnd, wk, wkA, wkAL, wkC, wkL, wkB, blkLe, true_or, PV.int.injEq, PV.bool.injEq, idsA, PV.fz, fzL, ids, idsC, fLoad, outP, TI.n, TI.isAgg, List.not_mem_nil, List.mem_cons, List.mem_singleton, forall_eq_or_imp, forall_eq, AS.get, getPV, lk, Int.cast_ofNat_Int, Int.natCast_one, Int.reduceBEq, Int.reduceBNe, Int.reduceNeg, int_toNat_zero_i, Nat.sub_zero, Int.natCast_zero, Int.reduceAdd, Int.reduceSub, Int.reduceLT, Int.reduceLE, Int.reduceMul, Int.zero_add, decide_true, decide_false, Nat.reducePow, Int.reducePow, Nat.reduceAdd, Nat.reduceEqDiff, Nat.reduceLT, Nat.reduceLeDiff, Nat.reduceMul, Nat.reduceSub, Nat.reduceBEq, Nat.le_refl, Nat.zero_add, Nat.add_zero, reduceCtorEq, or_true, true_or, or_false, false_or, if_true, if_false, ↓reduceIte, true_and, and_true, and_self, Bool.not_true, Bool.not_false, cond_true, cond_false, Bool.true_eq_false, Bool.false_eq_true, ne_eq, not_false_eq_true, not_true_eq_false, Bool.and_true, Bool.true_and, Bool.and_false, Bool.false_and, Bool.or_true, Bool.true_or, Bool.or_false, Bool.false_or, List.isEmpty_nil, List.map_cons, List.map_nil, List.length_cons, List.length_nil, List.length_map, List.getD_cons_zero, List.getD_cons_succ, List.getD_nil, List.getElem?_cons_zero, List.getElem?_cons_succ, List.getElem?_nil, List.take_succ_cons, List.take_zero, List.take_nil, List.drop_succ_cons, List.drop_zero, List.drop_nil, List.nil_append, List.cons_append, List.append_nil, Option.getD_some, Option.getD_none, Option.map_some, Option.map_none, Int.toNat_natCast, T_1, T_2, T_3, T_4, T_5, T_6, T_7, T_8, T_9, T_10, T_11, T_12, T_13, T_14, T_15, T_16, T_17, T_18, T_19, T_21, T_22, T_23, T_24, T_25, T_26, T_27, T_28, T_29, T_30, T_32, T_34, T_35, T_36, T_38, T_39, T_40, T_41, T_42, T_44, T_45, T_46, T_47, T_48, T_49, T_51, T_52, T_54, T_55, T_56, T_57, T_58, T_59, T_60, T_61, T_62, T_63, T_64, T_65, T_66, T_67, T_69, T_70, T_72, T_73, T_74, T_75, T_76, T_77, T_78, T_79, T_80, T_81, T_82, T_83, T_84, T_85, T_86, T_87, T_88, T_89, T_90, T_91, T_92, T_93, T_94, T_95, T_96, T_97, T_98, T_99, T_100, T_101, T_102, T_103, T_104]
theorem text_ok (r : Rcv) : FnS Try.prog 6 [.agg (encRcv r)] [] (.tup [.sl false 1 ((if r.st = 3 then r.got else []).map encB), .bool (r.st == 3)]) [] := by
  refine fn_walk tabOk Try.func6 rfl (by decide +kernel) Try.ntmps6 Try.results6 (by simp) fun B hB => ?_
  try refine hK _ ?_
  repeat (first | refine awp_seq ?_ | refine awp_block ?_ | refine awp_skip ?_ | refine awp_scope ?_ | refine awp_label ?_)
  refine awp_region tabOk fun K hK => ?_
  simp -dsimp -implicitDefEqProofs only [push_cast, ↓trAdd_f, ↓stOf_f, Nat.reduceBEq, Int.reduceBEq, Int.reduceBNe, Int.reduceNeg, Int.reduceAdd, Int.reduceSub, Int.reduceLT, Int.reduceLE, Int.reduceMul, Nat.reducePow, Int.reducePow, Nat.reduceAdd, Nat.reduceEqDiff, Nat.reduceLT, Nat.reduceLeDiff, Nat.reduceMul, Nat.reduceSub, reduceCtorEq, ↓reduceIte]
  refine hK _ ?_
  cases hA : (r.st != 3) with
  | true =>
    have h3 : ¬ r.st = 3 := by simpa using hA
    have h4 : (r.st == 3) = false := by simpa using h3
    rw [if_neg h3, h4]
    try refine hK _ ?_
    repeat (first | refine awp_seq ?_ | refine awp_block ?_ | refine awp_skip ?_ | refine awp_scope ?_ | refine awp_label ?_)
    refine awp_region tabOk fun K hK => ?_
    simp -dsimp -implicitDefEqProofs only [hA, push_cast, ↓trAdd_f, ↓stOf_f, Nat.reduceBEq, Int.reduceBEq, Int.reduceBNe, Int.reduceNeg, Int.reduceAdd, Int.reduceSub, Int.reduceLT, Int.reduceLE, Int.reduceMul, Nat.reducePow, Int.reducePow, Nat.reduceAdd, Nat.reduceEqDiff, Nat.reduceLT, Nat.reduceLeDiff, Nat.reduceMul, Nat.reduceSub, reduceCtorEq, ↓reduceIte]
    refine hK _ ?_
    try refine hK _ ?_
    repeat (first | refine awp_seq ?_ | refine awp_block ?_ | refine awp_skip ?_ | refine awp_scope ?_ | refine awp_label ?_)
    refine awp_cond (b := true) (by simp -dsimp -implicitDefEqProofs only [push_cast, ↓trAdd_f, ↓stOf_f, Nat.reduceBEq, Int.reduceBEq, Int.reduceBNe, Int.reduceNeg, Int.reduceAdd, Int.reduceSub, Int.reduceLT, Int.reduceLE, Int.reduceMul, Nat.reducePow, Int.reducePow, Nat.reduceAdd, Nat.reduceEqDiff, Nat.reduceLT, Nat.reduceLeDiff, Nat.reduceMul, Nat.reduceSub, reduceCtorEq, ↓reduceIte]) (fun h => ?_) (fun h => ?_)
    rotate_left
    · cases h
    try refine hK _ ?_
    repeat (first | refine awp_seq ?_ | refine awp_block ?_ | refine awp_skip ?_ | refine awp_scope ?_ | refine awp_label ?_)
    refine awp_region tabOk fun K hK => ?_
    simp -dsimp -implicitDefEqProofs only [push_cast, ↓trAdd_f, ↓stOf_f, Nat.reduceBEq, Int.reduceBEq, Int.reduceBNe, Int.reduceNeg, Int.reduceAdd, Int.reduceSub, Int.reduceLT, Int.reduceLE, Int.reduceMul, Nat.reducePow, Int.reducePow, Nat.reduceAdd, Nat.reduceEqDiff, Nat.reduceLT, Nat.reduceLeDiff, Nat.reduceMul, Nat.reduceSub, reduceCtorEq, ↓reduceIte]
    refine hK _ (awp_ret ?_)
    simp -dsimp -implicitDefEqProofs only [List.flatMap_cons, List.flatMap_nil, List.mem_append, Blk.ok, PV.ok, okL, List.length_append, take_map_len, implies_true, imp_self_i, false_imp_i, endOk, endOkP, resVals, joinRes, view, viewA, viewC, viewOk, viewOkA, viewOkC, storeEnd, wk, wkA, wkAL, wkC, wkL, wkB, blkLe, true_or, PV.int.injEq, PV.bool.injEq, idsA, PV.fz, fzL, ids, idsC, fLoad, outP, TI.n, TI.isAgg, List.not_mem_nil, List.mem_cons, List.mem_singleton, forall_eq_or_imp, forall_eq, AS.get, getPV, lk, Int.cast_ofNat_Int, Int.natCast_one, Int.reduceBEq, Int.reduceBNe, Int.reduceNeg, int_toNat_zero_i, Nat.sub_zero, Int.natCast_zero, Int.reduceAdd, Int.reduceSub, Int.reduceLT, Int.reduceLE, Int.reduceMul, Int.zero_add, decide_true, decide_false, Nat.reducePow, Int.reducePow, Nat.reduceAdd, Nat.reduceEqDiff, Nat.reduceLT, Nat.reduceLeDiff, Nat.reduceMul, Nat.reduceSub, Nat.reduceBEq, Nat.le_refl, Nat.zero_add, Nat.add_zero, reduceCtorEq, or_true, true_or, or_false, false_or, if_true, if_false, ↓reduceIte, true_and, and_true, and_self, Bool.not_true, Bool.not_false, cond_true, cond_false, Bool.true_eq_false, Bool.false_eq_true, ne_eq, not_false_eq_true, not_true_eq_false, Bool.and_true, Bool.true_and, Bool.and_false, Bool.false_and, Bool.or_true, Bool.true_or, Bool.or_false, Bool.false_or, List.isEmpty_nil, List.map_cons, List.map_nil, List.length_cons, List.length_nil, List.length_map, List.getD_cons_zero, List.getD_cons_succ, List.getD_nil, List.getElem?_cons_zero, List.getElem?_cons_succ, List.getElem?_nil, List.take_succ_cons, List.take_zero, List.take_nil, List.drop_succ_cons, List.drop_zero, List.drop_nil, List.nil_append, List.cons_append, List.append_nil, Option.getD_some, Option.getD_none, Option.map_some, Option.map_none, Int.toNat_natCast, T_1, T_2, T_3, T_4, T_5, T_6, T_7, T_8, T_9, T_10, T_11, T_12, T_13, T_14, T_15, T_16, T_17, T_18, T_19, T_21, T_22, T_23, T_24, T_25, T_26, T_27, T_28, T_29, T_30, T_32, T_34, T_35, T_36, T_38, T_39, T_40, T_41, T_42, T_44, T_45, T_46, T_47, T_48, T_49, T_51, T_52, T_54, T_55, T_56, T_57, T_58, T_59, T_60, T_61, T_62, T_63, T_64, T_65, T_66, T_67, T_69, T_70, T_72, T_73, T_74, T_75, T_76, T_77, T_78, T_79, T_80, T_81, T_82, T_83, T_84, T_85, T_86, T_87, T_88, T_89, T_90, T_91, T_92, T_93, T_94, T_95, T_96, T_97, T_98, T_99, T_100, T_101, T_102, T_103, T_104]
  | false =>
    have h3 : r.st = 3 := by simpa using hA
    have h4 : (r.st == 3) = true := by simpa using h3
    rw [if_pos h3, h4]
    try refine hK _ ?_
    repeat (first | refine awp_seq ?_ | refine awp_block ?_ | refine awp_skip ?_ | refine awp_scope ?_ | refine awp_label ?_)
    refine awp_region tabOk fun K hK => ?_
    simp -dsimp -implicitDefEqProofs only [hA, push_cast, ↓trAdd_f, ↓stOf_f, Nat.reduceBEq, Int.reduceBEq, Int.reduceBNe, Int.reduceNeg, Int.reduceAdd, Int.reduceSub, Int.reduceLT, Int.reduceLE, Int.reduceMul, Nat.reducePow, Int.reducePow, Nat.reduceAdd, Nat.reduceEqDiff, Nat.reduceLT, Nat.reduceLeDiff, Nat.reduceMul, Nat.reduceSub, reduceCtorEq, ↓reduceIte]
    refine hK _ ?_
    try refine hK _ ?_
    repeat (first | refine awp_seq ?_ | refine awp_block ?_ | refine awp_skip ?_ | refine awp_scope ?_ | refine awp_label ?_)
    refine awp_cond (b := false) (by simp -dsimp -implicitDefEqProofs only [push_cast, ↓trAdd_f, ↓stOf_f, Nat.reduceBEq, Int.reduceBEq, Int.reduceBNe, Int.reduceNeg, Int.reduceAdd, Int.reduceSub, Int.reduceLT, Int.reduceLE, Int.reduceMul, Nat.reducePow, Int.reducePow, Nat.reduceAdd, Nat.reduceEqDiff, Nat.reduceLT, Nat.reduceLeDiff, Nat.reduceMul, Nat.reduceSub, reduceCtorEq, ↓reduceIte]) (fun h => ?_) (fun h => ?_)
    · cases h
    refine awp_skip ?_
    try refine hK _ ?_
    repeat (first | refine awp_seq ?_ | refine awp_block ?_ | refine awp_skip ?_ | refine awp_scope ?_ | refine awp_label ?_)
    refine awp_region tabOk fun K hK => ?_
    simp -dsimp -implicitDefEqProofs only [push_cast, ↓trAdd_f, ↓stOf_f, Nat.reduceBEq, Int.reduceBEq, Int.reduceBNe, Int.reduceNeg, Int.reduceAdd, Int.reduceSub, Int.reduceLT, Int.reduceLE, Int.reduceMul, Nat.reducePow, Int.reducePow, Nat.reduceAdd, Nat.reduceEqDiff, Nat.reduceLT, Nat.reduceLeDiff, Nat.reduceMul, Nat.reduceSub, reduceCtorEq, ↓reduceIte]
    refine hK _ (awp_ret ?_)
    simp -dsimp -implicitDefEqProofs only [List.flatMap_cons, List.flatMap_nil, List.mem_append, Blk.ok, PV.ok, okL, List.length_append, take_map_len, implies_true, imp_self_i, false_imp_i, endOk, endOkP, resVals, joinRes, view, viewA, viewC, viewOk, viewOkA, viewOkC, storeEnd, wk, wkA, wkAL, wkC, wkL, wkB, blkLe, true_or, PV.int.injEq, PV.bool.injEq, idsA, PV.fz, fzL, ids, idsC, fLoad, outP, TI.n, TI.isAgg, List.not_mem_nil, List.mem_cons, List.mem_singleton, forall_eq_or_imp, forall_eq, AS.get, getPV, lk, Int.cast_ofNat_Int, Int.natCast_one, Int.reduceBEq, Int.reduceBNe, Int.reduceNeg, int_toNat_zero_i, Nat.sub_zero, Int.natCast_zero, Int.reduceAdd, Int.reduceSub, Int.reduceLT, Int.reduceLE, Int.reduceMul, Int.zero_add, decide_true, decide_false, Nat.reducePow, Int.reducePow, Nat.reduceAdd, Nat.reduceEqDiff, Nat.reduceLT, Nat.reduceLeDiff, Nat.reduceMul, Nat.reduceSub, Nat.reduceBEq, Nat.le_refl, Nat.zero_add, Nat.add_zero, reduceCtorEq, or_true, true_or, or_false, false_or, if_true, if_false, ↓reduceIte, true_and, and_true, and_self, Bool.not_true, Bool.not_false, cond_true, cond_false, Bool.true_eq_false, Bool.false_eq_true, ne_eq, not_false_eq_true, not_true_eq_false, Bool.and_true, Bool.true_and, Bool.and_false, Bool.false_and, Bool.or_true, Bool.true_or, Bool.or_false, Bool.false_or, List.isEmpty_nil, List.map_cons, List.map_nil, List.length_cons, List.length_nil, List.length_map, List.getD_cons_zero, List.getD_cons_succ, List.getD_nil, List.getElem?_cons_zero, List.getElem?_cons_succ, List.getElem?_nil, List.take_succ_cons, List.take_zero, List.take_nil, List.drop_succ_cons, List.drop_zero, List.drop_nil, List.nil_append, List.cons_append, List.append_nil, Option.getD_some, Option.getD_none, Option.map_some, Option.map_none, Int.toNat_natCast, T_1, T_2, T_3, T_4, T_5, T_6, T_7, T_8, T_9, T_10, T_11, T_12, T_13, T_14, T_15, T_16, T_17, T_18, T_19, T_21, T_22, T_23, T_24, T_25, T_26, T_27, T_28, T_29, T_30, T_32, T_34, T_35, T_36, T_38, T_39, T_40, T_41, T_42, T_44, T_45, T_46, T_47, T_48, T_49, T_51, T_52, T_54, T_55, T_56, T_57, T_58, T_59, T_60, T_61, T_62, T_63, T_64, T_65, T_66, T_67, T_69, T_70, T_72, T_73, T_74, T_75, T_76, T_77, T_78, T_79, T_80, T_81, T_82, T_83, T_84, T_85, T_86, T_87, T_88, T_89, T_90, T_91, T_92, T_93, T_94, T_95, T_96, T_97, T_98, T_99, T_100, T_101, T_102, T_103, T_104]
theorem rcvFail_ok (r : Rcv) (e : Int) : FnS Try.prog 28 [.ptr 0 0, .int .i64 e] [(0, .box (encRcv r))] (.tup []) [(0, .box (encRcv { r with st := 4, err := e }))] := by
  refine fn_walk tabOk Try.func28 rfl (by decide +kernel) Try.ntmps28 Try.results28 (by simp) fun B hB => ?_
  try refine hK _ ?_
  repeat (first | refine awp_seq ?_ | refine awp_block ?_ | refine awp_skip ?_ | refine awp_scope ?_ | refine awp_label ?_)
  refine awp_region tabOk fun K hK => ?_
  simp -dsimp -implicitDefEqProofs only [push_cast, ↓trAdd_f, ↓stOf_f, Nat.reduceBEq, Int.reduceBEq, Int.reduceBNe, Int.reduceNeg, Int.reduceAdd, Int.reduceSub, Int.reduceLT, Int.reduceLE, Int.reduceMul, Nat.reducePow, Int.reducePow, Nat.reduceAdd, Nat.reduceEqDiff, Nat.reduceLT, Nat.reduceLeDiff, Nat.reduceMul, Nat.reduceSub, reduceCtorEq, ↓reduceIte]
  refine hK _ ?_
  simp -dsimp -implicitDefEqProofs only [encRcv, List.flatMap_cons, List.flatMap_nil, List.mem_append, Blk.ok, PV.ok, okL, List.length_append, take_map_len, implies_true, imp_self_i, false_imp_i, endOk, endOkP, resVals, joinRes, view, viewA, viewC, viewOk, viewOkA, viewOkC, storeEnd, wk, wkA, wkAL, wkC, wkL, wkB, blkLe, true_or, PV.int.injEq, PV.bool.injEq, idsA, PV.fz, fzL, ids, idsC, fLoad, outP, TI.n, TI.isAgg, List.not_mem_nil, List.mem_cons, List.mem_singleton, forall_eq_or_imp, forall_eq, AS.get, getPV, lk, Int.cast_ofNat_Int, Int.natCast_one, Int.reduceBEq, Int.reduceBNe, Int.reduceNeg, int_toNat_zero_i, Nat.sub_zero, Int.natCast_zero, Int.reduceAdd, Int.reduceSub, Int.reduceLT, Int.reduceLE, Int.reduceMul, Int.zero_add, decide_true, decide_false, Nat.reducePow, Int.reducePow, Nat.reduceAdd, Nat.reduceEqDiff, Nat.reduceLT, Nat.reduceLeDiff, Nat.reduceMul, Nat.reduceSub, Nat.reduceBEq, Nat.le_refl, Nat.zero_add, Nat.add_zero, reduceCtorEq, or_true, true_or, or_false, false_or, if_true, if_false, ↓reduceIte, true_and, and_true, and_self, Bool.not_true, Bool.not_false, cond_true, cond_false, Bool.true_eq_false, Bool.false_eq_true, ne_eq, not_false_eq_true, not_true_eq_false, Bool.and_true, Bool.true_and, Bool.and_false, Bool.false_and, Bool.or_true, Bool.true_or, Bool.or_false, Bool.false_or, List.isEmpty_nil, List.map_cons, List.map_nil, List.length_cons, List.length_nil, List.length_map, List.getD_cons_zero, List.getD_cons_succ, List.getD_nil, List.getElem?_cons_zero, List.getElem?_cons_succ, List.getElem?_nil, List.take_succ_cons, List.take_zero, List.take_nil, List.drop_succ_cons, List.drop_zero, List.drop_nil, List.nil_append, List.cons_append, List.append_nil, Option.getD_some, Option.getD_none, Option.map_some, Option.map_none, Int.toNat_natCast, T_1, T_2, T_3, T_4, T_5, T_6, T_7, T_8, T_9, T_10, T_11, T_12, T_13, T_14, T_15, T_16, T_17, T_18, T_19, T_21, T_22, T_23, T_24, T_25, T_26, T_27, T_28, T_29, T_30, T_32, T_34, T_35, T_36, T_38, T_39, T_40, T_41, T_42, T_44, T_45, T_46, T_47, T_48, T_49, T_51, T_52, T_54, T_55, T_56, T_57, T_58, T_59, T_60, T_61, T_62, T_63, T_64, T_65, T_66, T_67, T_69, T_70, T_72, T_73, T_74, T_75, T_76, T_77, T_78, T_79, T_80, T_81, T_82, T_83, T_84, T_85, T_86, T_87, T_88, T_89, T_90, T_91, T_92, T_93, T_94, T_95, T_96, T_97, T_98, T_99, T_100, T_101, T_102, T_103, T_104]
end Go.Proofs.YtoifmpiikopelaaFw

/-
  Walks: a receiver's goOn, ticks, begin, head; a sender's New, Next, ticks.
-/
namespace Go.Proofs.YtoifmpiikopelaaFw
open Go Go.Proofs
set_option maxRecDepth 100000
set_option maxHeartbeats 4000000
set_option linter.unusedVariables false
set_option linter.unusedSimpArgs false

def flowP (r : Rcv) : Pdu := ⟨4, 0, 0, 0, r.block, r.gap, []⟩
theorem goOn_ok (r : Rcv) : FnS Try.prog 31 [.ptr 0 0] [(0, .box (encRcv r))] (.agg (encPdu (flowP r) ++ [.bool true])) [(0, .box (encRcv r))] := by
  refine fn_walk tabOk Try.func31 rfl (by decide +kernel) Try.ntmps31 Try.results31 (by simp) fun B hB => ?_
  try refine hK _ ?_
  repeat (first | refine awp_seq ?_ | refine awp_block ?_ | refine awp_skip ?_ | refine awp_scope ?_ | refine awp_label ?_)
  refine awp_region tabOk fun K hK => ?_
  simp -dsimp -implicitDefEqProofs only [push_cast, ↓trAdd_f, ↓stOf_f, Nat.reduceBEq, Int.reduceBEq, Int.reduceBNe, Int.reduceNeg, Int.reduceAdd, Int.reduceSub, Int.reduceLT, Int.reduceLE, Int.reduceMul, Nat.reducePow, Int.reducePow, Nat.reduceAdd, Nat.reduceEqDiff, Nat.reduceLT, Nat.reduceLeDiff, Nat.reduceMul, Nat.reduceSub, reduceCtorEq, ↓reduceIte]
  refine hK _ ?_
  try refine hK _ ?_
  repeat (first | refine awp_seq ?_ | refine awp_block ?_ | refine awp_skip ?_ | refine awp_scope ?_ | refine awp_label ?_)
  refine awp_draw tabOk (by kernel_rfl) (by kernel_rfl) fun K hK C hC => ?_
  simp -dsimp -implicitDefEqProofs only [push_cast, ↓trAdd_f, ↓stOf_f, Nat.reduceBEq, Int.reduceBEq, Int.reduceBNe, Int.reduceNeg, Int.reduceAdd, Int.reduceSub, Int.reduceLT, Int.reduceLE, Int.reduceMul, Nat.reducePow, Int.reducePow, Nat.reduceAdd, Nat.reduceEqDiff, Nat.reduceLT, Nat.reduceLeDiff, Nat.reduceMul, Nat.reduceSub, reduceCtorEq, ↓reduceIte]
  refine ⟨hC _ (by kernel_rfl), hK _ (awp_ret ?_)⟩
  simp -dsimp -implicitDefEqProofs only [encRcv, encPdu, flowP, List.flatMap_cons, List.flatMap_nil, List.mem_append, Blk.ok, PV.ok, okL, List.length_append, take_map_len, implies_true, imp_self_i, false_imp_i, endOk, endOkP, resVals, joinRes, view, viewA, viewC, viewOk, viewOkA, viewOkC, storeEnd, wk, wkA, wkAL, wkC, wkL, wkB, blkLe, true_or, PV.int.injEq, PV.bool.injEq, idsA, PV.fz, fzL, ids, idsC, fLoad, outP, TI.n, TI.isAgg, List.not_mem_nil, List.mem_cons, List.mem_singleton, forall_eq_or_imp, forall_eq, AS.get, getPV, lk, Int.cast_ofNat_Int, Int.natCast_one, Int.reduceBEq, Int.reduceBNe, Int.reduceNeg, int_toNat_zero_i, Nat.sub_zero, Int.natCast_zero, Int.reduceAdd, Int.reduceSub, Int.reduceLT, Int.reduceLE, Int.reduceMul, Int.zero_add, decide_true, decide_false, Nat.reducePow, Int.reducePow, Nat.reduceAdd, Nat.reduceEqDiff, Nat.reduceLT, Nat.reduceLeDiff, Nat.reduceMul, Nat.reduceSub, Nat.reduceBEq, Nat.le_refl, Nat.zero_add, Nat.add_zero, reduceCtorEq, or_true, true_or, or_false, false_or, if_true, if_false, ↓reduceIte, true_and, and_true, and_self, Bool.not_true, Bool.not_false, cond_true, cond_false, Bool.true_eq_false, Bool.false_eq_true, ne_eq, not_false_eq_true, not_true_eq_false, Bool.and_true, Bool.true_and, Bool.and_false, Bool.false_and, Bool.or_true, Bool.true_or, Bool.or_false, Bool.false_or, List.isEmpty_nil, List.map_cons, List.map_nil, List.length_cons, List.length_nil, List.length_map, List.getD_cons_zero, List.getD_cons_succ, List.getD_nil, List.getElem?_cons_zero, List.getElem?_cons_succ, List.getElem?_nil, List.take_succ_cons, List.take_zero, List.take_nil, List.drop_succ_cons, List.drop_zero, List.drop_nil, List.nil_append, List.cons_append, List.append_nil, Option.getD_some, Option.getD_none, Option.map_some, Option.map_none, Int.toNat_natCast, T_1, T_2, T_3, T_4, T_5, T_6, T_7, T_8, T_9, T_10, T_11, T_12, T_13, T_14, T_15, T_16, T_17, T_18, T_19, T_21, T_22, T_23, T_24, T_25, T_26, T_27, T_28, T_29, T_30, T_32, T_34, T_35, T_36, T_38, T_39, T_40, T_41, T_42, T_44, T_45, T_46, T_47, T_48, T_49, T_51, T_52, T_54, T_55, T_56, T_57, T_58, T_59, T_60, T_61, T_62, T_63, T_64, T_65, T_66, T_67, T_69, T_70, T_72, T_73, T_74, T_75, T_76, T_77, T_78, T_79, T_80, T_81, T_82, T_83, T_84, T_85, T_86, T_87, T_88, T_89, T_90, T_91, T_92, T_93, T_94, T_95, T_96, T_97, T_98, T_99, T_100, T_101, T_102, T_103, T_104]
def tickR (r : Rcv) : Rcv := if r.st = 2 then (if 100 < r.clk + 1 then { r with clk := r.clk + 1, st := 4, err := 181 } else { r with clk := r.clk + 1 }) else r
theorem rcvTick_ok (r : Rcv) (h0 : 0 ≤ r.clk) (h1 : r.clk ≤ 1000) : FnS Try.prog 18 [.agg (encRcv r)] [] (.agg (encRcv (tickR r))) [] := by
  have w : IntKind.i64.wrap (r.clk + 1) = r.clk + 1 := wrap_i64 (by omega) (by omega)
  unfold tickR
  refine fn_walk tabOk Try.func18 rfl (by decide +kernel) Try.ntmps18 Try.results18 (by simp) fun B hB => ?_
  try refine hK _ ?_
  repeat (first | refine awp_seq ?_ | refine awp_block ?_ | refine awp_skip ?_ | refine awp_scope ?_ | refine awp_label ?_)
  refine awp_region tabOk fun K hK => ?_
  simp -dsimp -implicitDefEqProofs only [push_cast, ↓trAdd_f, ↓stOf_f, Nat.reduceBEq, Int.reduceBEq, Int.reduceBNe, Int.reduceNeg, Int.reduceAdd, Int.reduceSub, Int.reduceLT, Int.reduceLE, Int.reduceMul, Nat.reducePow, Int.reducePow, Nat.reduceAdd, Nat.reduceEqDiff, Nat.reduceLT, Nat.reduceLeDiff, Nat.reduceMul, Nat.reduceSub, reduceCtorEq, ↓reduceIte]
  refine hK _ ?_
  cases hA : (r.st != 2) with
  | true =>
    have h2 : ¬ r.st = 2 := by simpa using hA
    rw [if_neg h2]
    try refine hK _ ?_
    repeat (first | refine awp_seq ?_ | refine awp_block ?_ | refine awp_skip ?_ | refine awp_scope ?_ | refine awp_label ?_)
    refine awp_region tabOk fun K hK => ?_
    simp -dsimp -implicitDefEqProofs only [hA, push_cast, ↓trAdd_f, ↓stOf_f, Nat.reduceBEq, Int.reduceBEq, Int.reduceBNe, Int.reduceNeg, Int.reduceAdd, Int.reduceSub, Int.reduceLT, Int.reduceLE, Int.reduceMul, Nat.reducePow, Int.reducePow, Nat.reduceAdd, Nat.reduceEqDiff, Nat.reduceLT, Nat.reduceLeDiff, Nat.reduceMul, Nat.reduceSub, reduceCtorEq, ↓reduceIte]
    refine hK _ ?_
    try refine hK _ ?_
    repeat (first | refine awp_seq ?_ | refine awp_block ?_ | refine awp_skip ?_ | refine awp_scope ?_ | refine awp_label ?_)
    refine awp_cond (b := true) (by simp -dsimp -implicitDefEqProofs only [push_cast, ↓trAdd_f, ↓stOf_f, Nat.reduceBEq, Int.reduceBEq, Int.reduceBNe, Int.reduceNeg, Int.reduceAdd, Int.reduceSub, Int.reduceLT, Int.reduceLE, Int.reduceMul, Nat.reducePow, Int.reducePow, Nat.reduceAdd, Nat.reduceEqDiff, Nat.reduceLT, Nat.reduceLeDiff, Nat.reduceMul, Nat.reduceSub, reduceCtorEq, ↓reduceIte]) (fun h => ?_) (fun h => ?_)
    rotate_left
    · cases h
    try refine hK _ ?_
    repeat (first | refine awp_seq ?_ | refine awp_block ?_ | refine awp_skip ?_ | refine awp_scope ?_ | refine awp_label ?_)
    refine awp_region tabOk fun K hK => ?_
    simp -dsimp -implicitDefEqProofs only [push_cast, ↓trAdd_f, ↓stOf_f, Nat.reduceBEq, Int.reduceBEq, Int.reduceBNe, Int.reduceNeg, Int.reduceAdd, Int.reduceSub, Int.reduceLT, Int.reduceLE, Int.reduceMul, Nat.reducePow, Int.reducePow, Nat.reduceAdd, Nat.reduceEqDiff, Nat.reduceLT, Nat.reduceLeDiff, Nat.reduceMul, Nat.reduceSub, reduceCtorEq, ↓reduceIte]
    refine hK _ (awp_ret ?_)
    simp -dsimp -implicitDefEqProofs only [encRcv, List.flatMap_cons, List.flatMap_nil, List.mem_append, Blk.ok, PV.ok, okL, List.length_append, take_map_len, implies_true, imp_self_i, false_imp_i, endOk, endOkP, resVals, joinRes, view, viewA, viewC, viewOk, viewOkA, viewOkC, storeEnd, wk, wkA, wkAL, wkC, wkL, wkB, blkLe, true_or, PV.int.injEq, PV.bool.injEq, idsA, PV.fz, fzL, ids, idsC, fLoad, outP, TI.n, TI.isAgg, List.not_mem_nil, List.mem_cons, List.mem_singleton, forall_eq_or_imp, forall_eq, AS.get, getPV, lk, Int.cast_ofNat_Int, Int.natCast_one, Int.reduceBEq, Int.reduceBNe, Int.reduceNeg, int_toNat_zero_i, Nat.sub_zero, Int.natCast_zero, Int.reduceAdd, Int.reduceSub, Int.reduceLT, Int.reduceLE, Int.reduceMul, Int.zero_add, decide_true, decide_false, Nat.reducePow, Int.reducePow, Nat.reduceAdd, Nat.reduceEqDiff, Nat.reduceLT, Nat.reduceLeDiff, Nat.reduceMul, Nat.reduceSub, Nat.reduceBEq, Nat.le_refl, Nat.zero_add, Nat.add_zero, reduceCtorEq, or_true, true_or, or_false, false_or, if_true, if_false, ↓reduceIte, true_and, and_true, and_self, Bool.not_true, Bool.not_false, cond_true, cond_false, Bool.true_eq_false, Bool.false_eq_true, ne_eq, not_false_eq_true, not_true_eq_false, Bool.and_true, Bool.true_and, Bool.and_false, Bool.false_and, Bool.or_true, Bool.true_or, Bool.or_false, Bool.false_or, List.isEmpty_nil, List.map_cons, List.map_nil, List.length_cons, List.length_nil, List.length_map, List.getD_cons_zero, List.getD_cons_succ, List.getD_nil, List.getElem?_cons_zero, List.getElem?_cons_succ, List.getElem?_nil, List.take_succ_cons, List.take_zero, List.take_nil, List.drop_succ_cons, List.drop_zero, List.drop_nil, List.nil_append, List.cons_append, List.append_nil, Option.getD_some, Option.getD_none, Option.map_some, Option.map_none, Int.toNat_natCast, T_1, T_2, T_3, T_4, T_5, T_6, T_7, T_8, T_9, T_10, T_11, T_12, T_13, T_14, T_15, T_16, T_17, T_18, T_19, T_21, T_22, T_23, T_24, T_25, T_26, T_27, T_28, T_29, T_30, T_32, T_34, T_35, T_36, T_38, T_39, T_40, T_41, T_42, T_44, T_45, T_46, T_47, T_48, T_49, T_51, T_52, T_54, T_55, T_56, T_57, T_58, T_59, T_60, T_61, T_62, T_63, T_64, T_65, T_66, T_67, T_69, T_70, T_72, T_73, T_74, T_75, T_76, T_77, T_78, T_79, T_80, T_81, T_82, T_83, T_84, T_85, T_86, T_87, T_88, T_89, T_90, T_91, T_92, T_93, T_94, T_95, T_96, T_97, T_98, T_99, T_100, T_101, T_102, T_103, T_104]
  | false =>
    have h2 : r.st = 2 := by simpa using hA
    rw [if_pos h2]
    try refine hK _ ?_
    repeat (first | refine awp_seq ?_ | refine awp_block ?_ | refine awp_skip ?_ | refine awp_scope ?_ | refine awp_label ?_)
    refine awp_region tabOk fun K hK => ?_
    simp -dsimp -implicitDefEqProofs only [hA, push_cast, ↓trAdd_f, ↓stOf_f, Nat.reduceBEq, Int.reduceBEq, Int.reduceBNe, Int.reduceNeg, Int.reduceAdd, Int.reduceSub, Int.reduceLT, Int.reduceLE, Int.reduceMul, Nat.reducePow, Int.reducePow, Nat.reduceAdd, Nat.reduceEqDiff, Nat.reduceLT, Nat.reduceLeDiff, Nat.reduceMul, Nat.reduceSub, reduceCtorEq, ↓reduceIte]
    refine hK _ ?_
    try refine hK _ ?_
    repeat (first | refine awp_seq ?_ | refine awp_block ?_ | refine awp_skip ?_ | refine awp_scope ?_ | refine awp_label ?_)
    refine awp_cond (b := false) (by simp -dsimp -implicitDefEqProofs only [push_cast, ↓trAdd_f, ↓stOf_f, Nat.reduceBEq, Int.reduceBEq, Int.reduceBNe, Int.reduceNeg, Int.reduceAdd, Int.reduceSub, Int.reduceLT, Int.reduceLE, Int.reduceMul, Nat.reducePow, Int.reducePow, Nat.reduceAdd, Nat.reduceEqDiff, Nat.reduceLT, Nat.reduceLeDiff, Nat.reduceMul, Nat.reduceSub, reduceCtorEq, ↓reduceIte]) (fun h => ?_) (fun h => ?_)
    · cases h
    refine awp_skip ?_
    try refine hK _ ?_
    repeat (first | refine awp_seq ?_ | refine awp_block ?_ | refine awp_skip ?_ | refine awp_scope ?_ | refine awp_label ?_)
    refine awp_region tabOk fun K hK => ?_
    simp -dsimp -implicitDefEqProofs only [push_cast, ↓trAdd_f, ↓stOf_f, Nat.reduceBEq, Int.reduceBEq, Int.reduceBNe, Int.reduceNeg, Int.reduceAdd, Int.reduceSub, Int.reduceLT, Int.reduceLE, Int.reduceMul, Nat.reducePow, Int.reducePow, Nat.reduceAdd, Nat.reduceEqDiff, Nat.reduceLT, Nat.reduceLeDiff, Nat.reduceMul, Nat.reduceSub, reduceCtorEq, ↓reduceIte]
    refine hK _ ?_
    try refine hK _ ?_
    repeat (first | refine awp_seq ?_ | refine awp_block ?_ | refine awp_skip ?_ | refine awp_scope ?_ | refine awp_label ?_)
    refine awp_region tabOk fun K hK => ?_
    simp -dsimp -implicitDefEqProofs only [w, push_cast, ↓trAdd_f, ↓stOf_f, Nat.reduceBEq, Int.reduceBEq, Int.reduceBNe, Int.reduceNeg, Int.reduceAdd, Int.reduceSub, Int.reduceLT, Int.reduceLE, Int.reduceMul, Nat.reducePow, Int.reducePow, Nat.reduceAdd, Nat.reduceEqDiff, Nat.reduceLT, Nat.reduceLeDiff, Nat.reduceMul, Nat.reduceSub, reduceCtorEq, ↓reduceIte]
    refine hK _ ?_
    cases hQ : decide (100 < r.clk + 1) with
    | true =>
      rw [if_pos (of_decide_eq_true hQ)]
      try refine hK _ ?_
      repeat (first | refine awp_seq ?_ | refine awp_block ?_ | refine awp_skip ?_ | refine awp_scope ?_ | refine awp_label ?_)
      refine awp_region tabOk fun K hK => ?_
      simp -dsimp -implicitDefEqProofs only [hQ, push_cast, ↓trAdd_f, ↓stOf_f, Nat.reduceBEq, Int.reduceBEq, Int.reduceBNe, Int.reduceNeg, Int.reduceAdd, Int.reduceSub, Int.reduceLT, Int.reduceLE, Int.reduceMul, Nat.reducePow, Int.reducePow, Nat.reduceAdd, Nat.reduceEqDiff, Nat.reduceLT, Nat.reduceLeDiff, Nat.reduceMul, Nat.reduceSub, reduceCtorEq, ↓reduceIte]
      refine hK _ ?_
      try refine hK _ ?_
      repeat (first | refine awp_seq ?_ | refine awp_block ?_ | refine awp_skip ?_ | refine awp_scope ?_ | refine awp_label ?_)
      refine awp_cond (b := true) (by simp -dsimp -implicitDefEqProofs only [push_cast, ↓trAdd_f, ↓stOf_f, Nat.reduceBEq, Int.reduceBEq, Int.reduceBNe, Int.reduceNeg, Int.reduceAdd, Int.reduceSub, Int.reduceLT, Int.reduceLE, Int.reduceMul, Nat.reducePow, Int.reducePow, Nat.reduceAdd, Nat.reduceEqDiff, Nat.reduceLT, Nat.reduceLeDiff, Nat.reduceMul, Nat.reduceSub, reduceCtorEq, ↓reduceIte]) (fun h => ?_) (fun h => ?_)
      rotate_left
      · cases h
      try refine hK _ ?_
      repeat (first | refine awp_seq ?_ | refine awp_block ?_ | refine awp_skip ?_ | refine awp_scope ?_ | refine awp_label ?_)
      refine awp_region tabOk fun K hK => ?_
      simp -dsimp -implicitDefEqProofs only [push_cast, ↓trAdd_f, ↓stOf_f, Nat.reduceBEq, Int.reduceBEq, Int.reduceBNe, Int.reduceNeg, Int.reduceAdd, Int.reduceSub, Int.reduceLT, Int.reduceLE, Int.reduceMul, Nat.reducePow, Int.reducePow, Nat.reduceAdd, Nat.reduceEqDiff, Nat.reduceLT, Nat.reduceLeDiff, Nat.reduceMul, Nat.reduceSub, reduceCtorEq, ↓reduceIte]
      refine ⟨28, [], [], { args := [.ptr 0 0, .int .i64 181], st0 := [(0, .box (encRcv { r with clk := r.clk + 1 }))], res := .tup [], st1 := [(0, .box (encRcv { r with clk := r.clk + 1, st := 4, err := 181 }))], r := [56] }, rfl, .inl (rcvFail_ok _ 181), ?_, ?_⟩
      · simp -dsimp -implicitDefEqProofs only [encRcv, fCall, argsOk, argOk, lentOk, CallO.ren, CallO.keep, seenIds, distinct, blksOk, Blk.ok, PV.ok, okL, PV.ren, renL, Blk.ren, List.isEmpty_cons, List.isEmpty_nil, List.contains_nil, List.contains_cons, BEq.rfl, range_one_i, and_true, true_and, forall_nil_i, List.forall_mem_cons, Option.some.injEq, Blk.box.injEq, Blk.row.injEq, List.cons.injEq, take_map_len, restr, List.contains_nil, List.contains_cons, BEq.rfl, Nat.reduceBEq, implies_true, imp_self_i, false_imp_i, argsV, PV.fz, fzL, view, viewA, viewC, viewOk, viewOkA, viewOkC, seenV, ids, idsA, idsC, PV.scalar, PV.scalarA, PV.scalarC, VT.fr, wk, wkA, wkAL, wkC, wkL, wkB, blkLe, true_or, List.mem_cons, List.mem_singleton, List.not_mem_nil, forall_eq_or_imp, forall_eq, List.all_cons, List.all_nil, List.flatMap_cons, List.flatMap_nil, AS.get, getPV, lk, Int.cast_ofNat_Int, Int.natCast_one, Int.reduceBEq, Int.reduceBNe, Int.reduceNeg, int_toNat_zero_i, Nat.sub_zero, Int.natCast_zero, Int.reduceAdd, Int.reduceSub, Int.reduceLT, Int.reduceLE, Int.reduceMul, Int.zero_add, decide_true, decide_false, Nat.reducePow, Int.reducePow, Nat.reduceAdd, Nat.reduceEqDiff, Nat.reduceLT, Nat.reduceLeDiff, Nat.reduceMul, Nat.reduceSub, Nat.reduceBEq, Nat.le_refl, Nat.zero_add, Nat.add_zero, reduceCtorEq, or_true, true_or, or_false, false_or, if_true, if_false, ↓reduceIte, true_and, and_true, and_self, Bool.not_true, Bool.not_false, cond_true, cond_false, Bool.true_eq_false, Bool.false_eq_true, ne_eq, not_false_eq_true, not_true_eq_false, Bool.and_true, Bool.true_and, Bool.and_false, Bool.false_and, Bool.or_true, Bool.true_or, Bool.or_false, Bool.false_or, List.isEmpty_nil, List.map_cons, List.map_nil, List.length_cons, List.length_nil, List.length_map, List.getD_cons_zero, List.getD_cons_succ, List.getD_nil, List.getElem?_cons_zero, List.getElem?_cons_succ, List.getElem?_nil, List.take_succ_cons, List.take_zero, List.take_nil, List.drop_succ_cons, List.drop_zero, List.drop_nil, List.nil_append, List.cons_append, List.append_nil, Option.getD_some, Option.getD_none, Option.map_some, Option.map_none, Int.toNat_natCast]
      simp -dsimp -implicitDefEqProofs only [encRcv, PV.fz, fzL, fCall, CallO.ren, CallO.keep, seenIds, PV.ren, renL, Blk.ren, List.isEmpty_cons, List.isEmpty_nil, push_cast, ↓trAdd_f, ↓stOf_f, Nat.reduceBEq, Int.reduceBEq, Int.reduceBNe, Int.reduceNeg, Int.reduceAdd, Int.reduceSub, Int.reduceLT, Int.reduceLE, Int.reduceMul, Nat.reducePow, Int.reducePow, Nat.reduceAdd, Nat.reduceEqDiff, Nat.reduceLT, Nat.reduceLeDiff, Nat.reduceMul, Nat.reduceSub, reduceCtorEq, ↓reduceIte]
      refine hK _ ?_
      try refine hK _ ?_
      repeat (first | refine awp_seq ?_ | refine awp_block ?_ | refine awp_skip ?_ | refine awp_scope ?_ | refine awp_label ?_)
      refine awp_region tabOk fun K hK => ?_
      simp -dsimp -implicitDefEqProofs only [push_cast, ↓trAdd_f, ↓stOf_f, Nat.reduceBEq, Int.reduceBEq, Int.reduceBNe, Int.reduceNeg, Int.reduceAdd, Int.reduceSub, Int.reduceLT, Int.reduceLE, Int.reduceMul, Nat.reducePow, Int.reducePow, Nat.reduceAdd, Nat.reduceEqDiff, Nat.reduceLT, Nat.reduceLeDiff, Nat.reduceMul, Nat.reduceSub, reduceCtorEq, ↓reduceIte]
      refine hK _ (awp_ret ?_)
      simp -dsimp -implicitDefEqProofs only [encRcv, List.flatMap_cons, List.flatMap_nil, List.mem_append, Blk.ok, PV.ok, okL, List.length_append, take_map_len, implies_true, imp_self_i, false_imp_i, endOk, endOkP, resVals, joinRes, view, viewA, viewC, viewOk, viewOkA, viewOkC, storeEnd, wk, wkA, wkAL, wkC, wkL, wkB, blkLe, true_or, PV.int.injEq, PV.bool.injEq, idsA, PV.fz, fzL, ids, idsC, fLoad, outP, TI.n, TI.isAgg, List.not_mem_nil, List.mem_cons, List.mem_singleton, forall_eq_or_imp, forall_eq, AS.get, getPV, lk, Int.cast_ofNat_Int, Int.natCast_one, Int.reduceBEq, Int.reduceBNe, Int.reduceNeg, int_toNat_zero_i, Nat.sub_zero, Int.natCast_zero, Int.reduceAdd, Int.reduceSub, Int.reduceLT, Int.reduceLE, Int.reduceMul, Int.zero_add, decide_true, decide_false, Nat.reducePow, Int.reducePow, Nat.reduceAdd, Nat.reduceEqDiff, Nat.reduceLT, Nat.reduceLeDiff, Nat.reduceMul, Nat.reduceSub, Nat.reduceBEq, Nat.le_refl, Nat.zero_add, Nat.add_zero, reduceCtorEq, or_true, true_or, or_false, false_or, if_true, if_false, ↓reduceIte, true_and, and_true, and_self, Bool.not_true, Bool.not_false, cond_true, cond_false, Bool.true_eq_false, Bool.false_eq_true, ne_eq, not_false_eq_true, not_true_eq_false, Bool.and_true, Bool.true_and, Bool.and_false, Bool.false_and, Bool.or_true, Bool.true_or, Bool.or_false, Bool.false_or, List.isEmpty_nil, List.map_cons, List.map_nil, List.length_cons, List.length_nil, List.length_map, List.getD_cons_zero, List.getD_cons_succ, List.getD_nil, List.getElem?_cons_zero, List.getElem?_cons_succ, List.getElem?_nil, List.take_succ_cons, List.take_zero, List.take_nil, List.drop_succ_cons, List.drop_zero, List.drop_nil, List.nil_append, List.cons_append, List.append_nil, Option.getD_some, Option.getD_none, Option.map_some, Option.map_none, Int.toNat_natCast, T_1, T_2, T_3, T_4, T_5, T_6, T_7, T_8, T_9, T_10, T_11, T_12, T_13, T_14, T_15, T_16, T_17, T_18, T_19, T_21, T_22, T_23, T_24, T_25, T_26, T_27, T_28, T_29, T_30, T_32, T_34, T_35, T_36, T_38, T_39, T_40, T_41, T_42, T_44, T_45, T_46, T_47, T_48, T_49, T_51, T_52, T_54, T_55, T_56, T_57, T_58, T_59, T_60, T_61, T_62, T_63, T_64, T_65, T_66, T_67, T_69, T_70, T_72, T_73, T_74, T_75, T_76, T_77, T_78, T_79, T_80, T_81, T_82, T_83, T_84, T_85, T_86, T_87, T_88, T_89, T_90, T_91, T_92, T_93, T_94, T_95, T_96, T_97, T_98, T_99, T_100, T_101, T_102, T_103, T_104]
    | false =>
      rw [if_neg (of_decide_eq_false hQ)]
      try refine hK _ ?_
      repeat (first | refine awp_seq ?_ | refine awp_block ?_ | refine awp_skip ?_ | refine awp_scope ?_ | refine awp_label ?_)
      refine awp_region tabOk fun K hK => ?_
      simp -dsimp -implicitDefEqProofs only [hQ, push_cast, ↓trAdd_f, ↓stOf_f, Nat.reduceBEq, Int.reduceBEq, Int.reduceBNe, Int.reduceNeg, Int.reduceAdd, Int.reduceSub, Int.reduceLT, Int.reduceLE, Int.reduceMul, Nat.reducePow, Int.reducePow, Nat.reduceAdd, Nat.reduceEqDiff, Nat.reduceLT, Nat.reduceLeDiff, Nat.reduceMul, Nat.reduceSub, reduceCtorEq, ↓reduceIte]
      refine hK _ ?_
      try refine hK _ ?_
      repeat (first | refine awp_seq ?_ | refine awp_block ?_ | refine awp_skip ?_ | refine awp_scope ?_ | refine awp_label ?_)
      refine awp_cond (b := false) (by simp -dsimp -implicitDefEqProofs only [push_cast, ↓trAdd_f, ↓stOf_f, Nat.reduceBEq, Int.reduceBEq, Int.reduceBNe, Int.reduceNeg, Int.reduceAdd, Int.reduceSub, Int.reduceLT, Int.reduceLE, Int.reduceMul, Nat.reducePow, Int.reducePow, Nat.reduceAdd, Nat.reduceEqDiff, Nat.reduceLT, Nat.reduceLeDiff, Nat.reduceMul, Nat.reduceSub, reduceCtorEq, ↓reduceIte]) (fun h => ?_) (fun h => ?_)
      · cases h
      refine awp_skip ?_
      try refine hK _ ?_
      repeat (first | refine awp_seq ?_ | refine awp_block ?_ | refine awp_skip ?_ | refine awp_scope ?_ | refine awp_label ?_)
      refine awp_region tabOk fun K hK => ?_
      simp -dsimp -implicitDefEqProofs only [push_cast, ↓trAdd_f, ↓stOf_f, Nat.reduceBEq, Int.reduceBEq, Int.reduceBNe, Int.reduceNeg, Int.reduceAdd, Int.reduceSub, Int.reduceLT, Int.reduceLE, Int.reduceMul, Nat.reducePow, Int.reducePow, Nat.reduceAdd, Nat.reduceEqDiff, Nat.reduceLT, Nat.reduceLeDiff, Nat.reduceMul, Nat.reduceSub, reduceCtorEq, ↓reduceIte]
      refine hK _ (awp_ret ?_)
      simp -dsimp -implicitDefEqProofs only [encRcv, List.flatMap_cons, List.flatMap_nil, List.mem_append, Blk.ok, PV.ok, okL, List.length_append, take_map_len, implies_true, imp_self_i, false_imp_i, endOk, endOkP, resVals, joinRes, view, viewA, viewC, viewOk, viewOkA, viewOkC, storeEnd, wk, wkA, wkAL, wkC, wkL, wkB, blkLe, true_or, PV.int.injEq, PV.bool.injEq, idsA, PV.fz, fzL, ids, idsC, fLoad, outP, TI.n, TI.isAgg, List.not_mem_nil, List.mem_cons, List.mem_singleton, forall_eq_or_imp, forall_eq, AS.get, getPV, lk, Int.cast_ofNat_Int, Int.natCast_one, Int.reduceBEq, Int.reduceBNe, Int.reduceNeg, int_toNat_zero_i, Nat.sub_zero, Int.natCast_zero, Int.reduceAdd, Int.reduceSub, Int.reduceLT, Int.reduceLE, Int.reduceMul, Int.zero_add, decide_true, decide_false, Nat.reducePow, Int.reducePow, Nat.reduceAdd, Nat.reduceEqDiff, Nat.reduceLT, Nat.reduceLeDiff, Nat.reduceMul, Nat.reduceSub, Nat.reduceBEq, Nat.le_refl, Nat.zero_add, Nat.add_zero, reduceCtorEq, or_true, true_or, or_false, false_or, if_true, if_false, ↓reduceIte, true_and, and_true, and_self, Bool.not_true, Bool.not_false, cond_true, cond_false, Bool.true_eq_false, Bool.false_eq_true, ne_eq, not_false_eq_true, not_true_eq_false, Bool.and_true, Bool.true_and, Bool.and_false, Bool.false_and, Bool.or_true, Bool.true_or, Bool.or_false, Bool.false_or, List.isEmpty_nil, List.map_cons, List.map_nil, List.length_cons, List.length_nil, List.length_map, List.getD_cons_zero, List.getD_cons_succ, List.getD_nil, List.getElem?_cons_zero, List.getElem?_cons_succ, List.getElem?_nil, List.take_succ_cons, List.take_zero, List.take_nil, List.drop_succ_cons, List.drop_zero, List.drop_nil, List.nil_append, List.cons_append, List.append_nil, Option.getD_some, Option.getD_none, Option.map_some, Option.map_none, Int.toNat_natCast, T_1, T_2, T_3, T_4, T_5, T_6, T_7, T_8, T_9, T_10, T_11, T_12, T_13, T_14, T_15, T_16, T_17, T_18, T_19, T_21, T_22, T_23, T_24, T_25, T_26, T_27, T_28, T_29, T_30, T_32, T_34, T_35, T_36, T_38, T_39, T_40, T_41, T_42, T_44, T_45, T_46, T_47, T_48, T_49, T_51, T_52, T_54, T_55, T_56, T_57, T_58, T_59, T_60, T_61, T_62, T_63, T_64, T_65, T_66, T_67, T_69, T_70, T_72, T_73, T_74, T_75, T_76, T_77, T_78, T_79, T_80, T_81, T_82, T_83, T_84, T_85, T_86, T_87, T_88, T_89, T_90, T_91, T_92, T_93, T_94, T_95, T_96, T_97, T_98, T_99, T_100, T_101, T_102, T_103, T_104]
theorem sndNew_ok (b : List Int) (h1 : 8 ≤ b.length) (h2 : b.length ≤ 4095) : FnS Try.prog 10 [.sl false 1 (b.map encB)] [] (.tup [.agg (encSnd ⟨1, b, 6, 1, -1, 0, 0, 0, 0⟩), .agg (encPdu ⟨2, b.length, 0, 0, 0, 0, b.take 6⟩), .int .i64 0]) [] := by
  have d1 : ((b.length : Int) == 0) = false := by rw [beq_eq_false_iff_ne]; omega
  have d2 : decide (4095 < (b.length : Int)) = false := decide_eq_false (by omega)
  have d3 : decide ((b.length : Int) ≤ 7) = false := decide_eq_false (by omega)
  have hz := bytes_fz b
  refine fn_walk tabOk Try.func10 rfl (by decide +kernel) Try.ntmps10 Try.results10 (by simp) fun B hB => ?_
  try refine hK _ ?_
  repeat (first | refine awp_seq ?_ | refine awp_block ?_ | refine awp_skip ?_ | refine awp_scope ?_ | refine awp_label ?_)
  refine awp_region tabOk fun K hK => ?_
  simp -dsimp -implicitDefEqProofs only [push_cast, ↓trAdd_f, ↓stOf_f, Nat.reduceBEq, Int.reduceBEq, Int.reduceBNe, Int.reduceNeg, Int.reduceAdd, Int.reduceSub, Int.reduceLT, Int.reduceLE, Int.reduceMul, Nat.reducePow, Int.reducePow, Nat.reduceAdd, Nat.reduceEqDiff, Nat.reduceLT, Nat.reduceLeDiff, Nat.reduceMul, Nat.reduceSub, reduceCtorEq, ↓reduceIte]
  refine hK _ ?_
  try refine hK _ ?_
  repeat (first | refine awp_seq ?_ | refine awp_block ?_ | refine awp_skip ?_ | refine awp_scope ?_ | refine awp_label ?_)
  refine awp_region tabOk fun K hK => ?_
  simp -dsimp -implicitDefEqProofs only [d1, push_cast, ↓trAdd_f, ↓stOf_f, Nat.reduceBEq, Int.reduceBEq, Int.reduceBNe, Int.reduceNeg, Int.reduceAdd, Int.reduceSub, Int.reduceLT, Int.reduceLE, Int.reduceMul, Nat.reducePow, Int.reducePow, Nat.reduceAdd, Nat.reduceEqDiff, Nat.reduceLT, Nat.reduceLeDiff, Nat.reduceMul, Nat.reduceSub, reduceCtorEq, ↓reduceIte]
  refine hK _ ?_
  try refine hK _ ?_
  repeat (first | refine awp_seq ?_ | refine awp_block ?_ | refine awp_skip ?_ | refine awp_scope ?_ | refine awp_label ?_)
  refine awp_cond (b := false) (by simp -dsimp -implicitDefEqProofs only [push_cast, ↓trAdd_f, ↓stOf_f, Nat.reduceBEq, Int.reduceBEq, Int.reduceBNe, Int.reduceNeg, Int.reduceAdd, Int.reduceSub, Int.reduceLT, Int.reduceLE, Int.reduceMul, Nat.reducePow, Int.reducePow, Nat.reduceAdd, Nat.reduceEqDiff, Nat.reduceLT, Nat.reduceLeDiff, Nat.reduceMul, Nat.reduceSub, reduceCtorEq, ↓reduceIte]) (fun h => ?_) (fun h => ?_)
  · cases h
  refine awp_skip ?_
  try refine hK _ ?_
  repeat (first | refine awp_seq ?_ | refine awp_block ?_ | refine awp_skip ?_ | refine awp_scope ?_ | refine awp_label ?_)
  refine awp_region tabOk fun K hK => ?_
  simp -dsimp -implicitDefEqProofs only [d2, push_cast, ↓trAdd_f, ↓stOf_f, Nat.reduceBEq, Int.reduceBEq, Int.reduceBNe, Int.reduceNeg, Int.reduceAdd, Int.reduceSub, Int.reduceLT, Int.reduceLE, Int.reduceMul, Nat.reducePow, Int.reducePow, Nat.reduceAdd, Nat.reduceEqDiff, Nat.reduceLT, Nat.reduceLeDiff, Nat.reduceMul, Nat.reduceSub, reduceCtorEq, ↓reduceIte]
  refine hK _ ?_
  try refine hK _ ?_
  repeat (first | refine awp_seq ?_ | refine awp_block ?_ | refine awp_skip ?_ | refine awp_scope ?_ | refine awp_label ?_)
  refine awp_cond (b := false) (by simp -dsimp -implicitDefEqProofs only [push_cast, ↓trAdd_f, ↓stOf_f, Nat.reduceBEq, Int.reduceBEq, Int.reduceBNe, Int.reduceNeg, Int.reduceAdd, Int.reduceSub, Int.reduceLT, Int.reduceLE, Int.reduceMul, Nat.reducePow, Int.reducePow, Nat.reduceAdd, Nat.reduceEqDiff, Nat.reduceLT, Nat.reduceLeDiff, Nat.reduceMul, Nat.reduceSub, reduceCtorEq, ↓reduceIte]) (fun h => ?_) (fun h => ?_)
  · cases h
  refine awp_skip ?_
  try refine hK _ ?_
  repeat (first | refine awp_seq ?_ | refine awp_block ?_ | refine awp_skip ?_ | refine awp_scope ?_ | refine awp_label ?_)
  refine awp_region tabOk fun K hK => ?_
  simp -dsimp -implicitDefEqProofs only [push_cast, ↓trAdd_f, ↓stOf_f, Nat.reduceBEq, Int.reduceBEq, Int.reduceBNe, Int.reduceNeg, Int.reduceAdd, Int.reduceSub, Int.reduceLT, Int.reduceLE, Int.reduceMul, Nat.reducePow, Int.reducePow, Nat.reduceAdd, Nat.reduceEqDiff, Nat.reduceLT, Nat.reduceLeDiff, Nat.reduceMul, Nat.reduceSub, reduceCtorEq, ↓reduceIte]
  refine ⟨⟨by omega, by omega⟩, hK _ ?_⟩
  try refine hK _ ?_
  repeat (first | refine awp_seq ?_ | refine awp_block ?_ | refine awp_skip ?_ | refine awp_scope ?_ | refine awp_label ?_)
  refine awp_region tabOk fun K hK => ?_
  simp -dsimp -implicitDefEqProofs only [d3, push_cast, ↓trAdd_f, ↓stOf_f, Nat.reduceBEq, Int.reduceBEq, Int.reduceBNe, Int.reduceNeg, Int.reduceAdd, Int.reduceSub, Int.reduceLT, Int.reduceLE, Int.reduceMul, Nat.reducePow, Int.reducePow, Nat.reduceAdd, Nat.reduceEqDiff, Nat.reduceLT, Nat.reduceLeDiff, Nat.reduceMul, Nat.reduceSub, reduceCtorEq, ↓reduceIte]
  refine hK _ ?_
  try refine hK _ ?_
  repeat (first | refine awp_seq ?_ | refine awp_block ?_ | refine awp_skip ?_ | refine awp_scope ?_ | refine awp_label ?_)
  refine awp_cond (b := false) (by simp -dsimp -implicitDefEqProofs only [push_cast, ↓trAdd_f, ↓stOf_f, Nat.reduceBEq, Int.reduceBEq, Int.reduceBNe, Int.reduceNeg, Int.reduceAdd, Int.reduceSub, Int.reduceLT, Int.reduceLE, Int.reduceMul, Nat.reducePow, Int.reducePow, Nat.reduceAdd, Nat.reduceEqDiff, Nat.reduceLT, Nat.reduceLeDiff, Nat.reduceMul, Nat.reduceSub, reduceCtorEq, ↓reduceIte]) (fun h => ?_) (fun h => ?_)
  · cases h
  refine awp_skip ?_
  try refine hK _ ?_
  repeat (first | refine awp_seq ?_ | refine awp_block ?_ | refine awp_skip ?_ | refine awp_scope ?_ | refine awp_label ?_)
  refine awp_draw tabOk (by kernel_rfl) (by kernel_rfl) fun K hK C hC => ?_
  simp -dsimp -implicitDefEqProofs only [push_cast, ↓trAdd_f, ↓stOf_f, Nat.reduceBEq, Int.reduceBEq, Int.reduceBNe, Int.reduceNeg, Int.reduceAdd, Int.reduceSub, Int.reduceLT, Int.reduceLE, Int.reduceMul, Nat.reducePow, Int.reducePow, Nat.reduceAdd, Nat.reduceEqDiff, Nat.reduceLT, Nat.reduceLeDiff, Nat.reduceMul, Nat.reduceSub, reduceCtorEq, ↓reduceIte]
  have h6 : Int.toNat 6 = 6 := rfl
  have ht6 : (b.map encB).take 6 = (b.take 6).map encB := List.map_take.symm
  have hz6 := bytes_fz (b.take 6)
  have h6b : 6 ≤ b.length := by omega
  refine ⟨by omega, hC _ (by kernel_rfl), hK _ (awp_ret ?_)⟩
  simp -dsimp -implicitDefEqProofs only [encSnd, encPdu, hz, h6, ht6, hz6, h6b, List.flatMap_cons, List.flatMap_nil, List.mem_append, Blk.ok, PV.ok, okL, List.length_append, take_map_len, implies_true, imp_self_i, false_imp_i, endOk, endOkP, resVals, joinRes, view, viewA, viewC, viewOk, viewOkA, viewOkC, storeEnd, wk, wkA, wkAL, wkC, wkL, wkB, blkLe, true_or, PV.int.injEq, PV.bool.injEq, idsA, PV.fz, fzL, ids, idsC, fLoad, outP, TI.n, TI.isAgg, List.not_mem_nil, List.mem_cons, List.mem_singleton, forall_eq_or_imp, forall_eq, AS.get, getPV, lk, Int.cast_ofNat_Int, Int.natCast_one, Int.reduceBEq, Int.reduceBNe, Int.reduceNeg, int_toNat_zero_i, Nat.sub_zero, Int.natCast_zero, Int.reduceAdd, Int.reduceSub, Int.reduceLT, Int.reduceLE, Int.reduceMul, Int.zero_add, decide_true, decide_false, Nat.reducePow, Int.reducePow, Nat.reduceAdd, Nat.reduceEqDiff, Nat.reduceLT, Nat.reduceLeDiff, Nat.reduceMul, Nat.reduceSub, Nat.reduceBEq, Nat.le_refl, Nat.zero_add, Nat.add_zero, reduceCtorEq, or_true, true_or, or_false, false_or, if_true, if_false, ↓reduceIte, true_and, and_true, and_self, Bool.not_true, Bool.not_false, cond_true, cond_false, Bool.true_eq_false, Bool.false_eq_true, ne_eq, not_false_eq_true, not_true_eq_false, Bool.and_true, Bool.true_and, Bool.and_false, Bool.false_and, Bool.or_true, Bool.true_or, Bool.or_false, Bool.false_or, List.isEmpty_nil, List.map_cons, List.map_nil, List.length_cons, List.length_nil, List.length_map, List.getD_cons_zero, List.getD_cons_succ, List.getD_nil, List.getElem?_cons_zero, List.getElem?_cons_succ, List.getElem?_nil, List.take_succ_cons, List.take_zero, List.take_nil, List.drop_succ_cons, List.drop_zero, List.drop_nil, List.nil_append, List.cons_append, List.append_nil, Option.getD_some, Option.getD_none, Option.map_some, Option.map_none, Int.toNat_natCast, T_1, T_2, T_3, T_4, T_5, T_6, T_7, T_8, T_9, T_10, T_11, T_12, T_13, T_14, T_15, T_16, T_17, T_18, T_19, T_21, T_22, T_23, T_24, T_25, T_26, T_27, T_28, T_29, T_30, T_32, T_34, T_35, T_36, T_38, T_39, T_40, T_41, T_42, T_44, T_45, T_46, T_47, T_48, T_49, T_51, T_52, T_54, T_55, T_56, T_57, T_58, T_59, T_60, T_61, T_62, T_63, T_64, T_65, T_66, T_67, T_69, T_70, T_72, T_73, T_74, T_75, T_76, T_77, T_78, T_79, T_80, T_81, T_82, T_83, T_84, T_85, T_86, T_87, T_88, T_89, T_90, T_91, T_92, T_93, T_94, T_95, T_96, T_97, T_98, T_99, T_100, T_101, T_102, T_103, T_104]
def tickS (s : Snd) : Snd := if s.st = 2 then { s with clk := s.clk + 1 } else s
theorem sndTick_ok (s : Snd) (hs : s.st = 2 ∨ s.st = 3) (h0 : 0 ≤ s.clk) (h1 : s.clk ≤ 1000) : FnS Try.prog 17 [.agg (encSnd s)] [] (.agg (encSnd (tickS s))) [] := by
  have w : IntKind.i64.wrap (s.clk + 1) = s.clk + 1 := wrap_i64 (by omega) (by omega)
  have hmin : min (s.clk + 1) 1099511627776 = s.clk + 1 := by omega
  obtain ⟨st, text, pos, num, left, gap, clk, waits, err⟩ := s
  simp only at hs h0 h1 w hmin
  unfold tickS
  rcases hs with rfl | rfl
  · rw [if_pos rfl]
    refine fn_walk tabOk Try.func17 rfl (by decide +kernel) Try.ntmps17 Try.results17 (by simp) fun B hB => ?_
    try refine hK _ ?_
    repeat (first | refine awp_seq ?_ | refine awp_block ?_ | refine awp_skip ?_ | refine awp_scope ?_ | refine awp_label ?_)
    refine awp_region tabOk fun K hK => ?_
    simp -dsimp -implicitDefEqProofs only [push_cast, ↓trAdd_f, ↓stOf_f, Nat.reduceBEq, Int.reduceBEq, Int.reduceBNe, Int.reduceNeg, Int.reduceAdd, Int.reduceSub, Int.reduceLT, Int.reduceLE, Int.reduceMul, Nat.reducePow, Int.reducePow, Nat.reduceAdd, Nat.reduceEqDiff, Nat.reduceLT, Nat.reduceLeDiff, Nat.reduceMul, Nat.reduceSub, reduceCtorEq, ↓reduceIte]
    refine hK _ ?_
    try refine hK _ ?_
    repeat (first | refine awp_seq ?_ | refine awp_block ?_ | refine awp_skip ?_ | refine awp_scope ?_ | refine awp_label ?_)
    refine awp_region tabOk fun K hK => ?_
    simp -dsimp -implicitDefEqProofs only [push_cast, ↓trAdd_f, ↓stOf_f, Nat.reduceBEq, Int.reduceBEq, Int.reduceBNe, Int.reduceNeg, Int.reduceAdd, Int.reduceSub, Int.reduceLT, Int.reduceLE, Int.reduceMul, Nat.reducePow, Int.reducePow, Nat.reduceAdd, Nat.reduceEqDiff, Nat.reduceLT, Nat.reduceLeDiff, Nat.reduceMul, Nat.reduceSub, reduceCtorEq, ↓reduceIte]
    refine hK _ ?_
    try refine hK _ ?_
    repeat (first | refine awp_seq ?_ | refine awp_block ?_ | refine awp_skip ?_ | refine awp_scope ?_ | refine awp_label ?_)
    refine awp_cond (b := false) (by simp -dsimp -implicitDefEqProofs only [push_cast, ↓trAdd_f, ↓stOf_f, Nat.reduceBEq, Int.reduceBEq, Int.reduceBNe, Int.reduceNeg, Int.reduceAdd, Int.reduceSub, Int.reduceLT, Int.reduceLE, Int.reduceMul, Nat.reducePow, Int.reducePow, Nat.reduceAdd, Nat.reduceEqDiff, Nat.reduceLT, Nat.reduceLeDiff, Nat.reduceMul, Nat.reduceSub, reduceCtorEq, ↓reduceIte]) (fun h => ?_) (fun h => ?_)
    · cases h
    refine awp_skip ?_
    try refine hK _ ?_
    repeat (first | refine awp_seq ?_ | refine awp_block ?_ | refine awp_skip ?_ | refine awp_scope ?_ | refine awp_label ?_)
    refine awp_region tabOk fun K hK => ?_
    simp -dsimp -implicitDefEqProofs only [push_cast, ↓trAdd_f, ↓stOf_f, Nat.reduceBEq, Int.reduceBEq, Int.reduceBNe, Int.reduceNeg, Int.reduceAdd, Int.reduceSub, Int.reduceLT, Int.reduceLE, Int.reduceMul, Nat.reducePow, Int.reducePow, Nat.reduceAdd, Nat.reduceEqDiff, Nat.reduceLT, Nat.reduceLeDiff, Nat.reduceMul, Nat.reduceSub, reduceCtorEq, ↓reduceIte]
    refine hK _ ?_
    try refine hK _ ?_
    repeat (first | refine awp_seq ?_ | refine awp_block ?_ | refine awp_skip ?_ | refine awp_scope ?_ | refine awp_label ?_)
    refine awp_region tabOk fun K hK => ?_
    simp -dsimp -implicitDefEqProofs only [w, hmin, push_cast, ↓trAdd_f, ↓stOf_f, Nat.reduceBEq, Int.reduceBEq, Int.reduceBNe, Int.reduceNeg, Int.reduceAdd, Int.reduceSub, Int.reduceLT, Int.reduceLE, Int.reduceMul, Nat.reducePow, Int.reducePow, Nat.reduceAdd, Nat.reduceEqDiff, Nat.reduceLT, Nat.reduceLeDiff, Nat.reduceMul, Nat.reduceSub, reduceCtorEq, ↓reduceIte]
    refine hK _ ?_
    try refine hK _ ?_
    repeat (first | refine awp_seq ?_ | refine awp_block ?_ | refine awp_skip ?_ | refine awp_scope ?_ | refine awp_label ?_)
    refine awp_region tabOk fun K hK => ?_
    simp -dsimp -implicitDefEqProofs only [push_cast, ↓trAdd_f, ↓stOf_f, Nat.reduceBEq, Int.reduceBEq, Int.reduceBNe, Int.reduceNeg, Int.reduceAdd, Int.reduceSub, Int.reduceLT, Int.reduceLE, Int.reduceMul, Nat.reducePow, Int.reducePow, Nat.reduceAdd, Nat.reduceEqDiff, Nat.reduceLT, Nat.reduceLeDiff, Nat.reduceMul, Nat.reduceSub, reduceCtorEq, ↓reduceIte]
    refine hK _ ?_
    try refine hK _ ?_
    repeat (first | refine awp_seq ?_ | refine awp_block ?_ | refine awp_skip ?_ | refine awp_scope ?_ | refine awp_label ?_)
    refine awp_cond (b := false) (by simp -dsimp -implicitDefEqProofs only [push_cast, ↓trAdd_f, ↓stOf_f, Nat.reduceBEq, Int.reduceBEq, Int.reduceBNe, Int.reduceNeg, Int.reduceAdd, Int.reduceSub, Int.reduceLT, Int.reduceLE, Int.reduceMul, Nat.reducePow, Int.reducePow, Nat.reduceAdd, Nat.reduceEqDiff, Nat.reduceLT, Nat.reduceLeDiff, Nat.reduceMul, Nat.reduceSub, reduceCtorEq, ↓reduceIte]) (fun h => ?_) (fun h => ?_)
    · cases h
    refine awp_skip ?_
    try refine hK _ ?_
    repeat (first | refine awp_seq ?_ | refine awp_block ?_ | refine awp_skip ?_ | refine awp_scope ?_ | refine awp_label ?_)
    refine awp_region tabOk fun K hK => ?_
    simp -dsimp -implicitDefEqProofs only [push_cast, ↓trAdd_f, ↓stOf_f, Nat.reduceBEq, Int.reduceBEq, Int.reduceBNe, Int.reduceNeg, Int.reduceAdd, Int.reduceSub, Int.reduceLT, Int.reduceLE, Int.reduceMul, Nat.reducePow, Int.reducePow, Nat.reduceAdd, Nat.reduceEqDiff, Nat.reduceLT, Nat.reduceLeDiff, Nat.reduceMul, Nat.reduceSub, reduceCtorEq, ↓reduceIte]
    refine hK _ (awp_ret ?_)
    simp -dsimp -implicitDefEqProofs only [encSnd, List.flatMap_cons, List.flatMap_nil, List.mem_append, Blk.ok, PV.ok, okL, List.length_append, take_map_len, implies_true, imp_self_i, false_imp_i, endOk, endOkP, resVals, joinRes, view, viewA, viewC, viewOk, viewOkA, viewOkC, storeEnd, wk, wkA, wkAL, wkC, wkL, wkB, blkLe, true_or, PV.int.injEq, PV.bool.injEq, idsA, PV.fz, fzL, ids, idsC, fLoad, outP, TI.n, TI.isAgg, List.not_mem_nil, List.mem_cons, List.mem_singleton, forall_eq_or_imp, forall_eq, AS.get, getPV, lk, Int.cast_ofNat_Int, Int.natCast_one, Int.reduceBEq, Int.reduceBNe, Int.reduceNeg, int_toNat_zero_i, Nat.sub_zero, Int.natCast_zero, Int.reduceAdd, Int.reduceSub, Int.reduceLT, Int.reduceLE, Int.reduceMul, Int.zero_add, decide_true, decide_false, Nat.reducePow, Int.reducePow, Nat.reduceAdd, Nat.reduceEqDiff, Nat.reduceLT, Nat.reduceLeDiff, Nat.reduceMul, Nat.reduceSub, Nat.reduceBEq, Nat.le_refl, Nat.zero_add, Nat.add_zero, reduceCtorEq, or_true, true_or, or_false, false_or, if_true, if_false, ↓reduceIte, true_and, and_true, and_self, Bool.not_true, Bool.not_false, cond_true, cond_false, Bool.true_eq_false, Bool.false_eq_true, ne_eq, not_false_eq_true, not_true_eq_false, Bool.and_true, Bool.true_and, Bool.and_false, Bool.false_and, Bool.or_true, Bool.true_or, Bool.or_false, Bool.false_or, List.isEmpty_nil, List.map_cons, List.map_nil, List.length_cons, List.length_nil, List.length_map, List.getD_cons_zero, List.getD_cons_succ, List.getD_nil, List.getElem?_cons_zero, List.getElem?_cons_succ, List.getElem?_nil, List.take_succ_cons, List.take_zero, List.take_nil, List.drop_succ_cons, List.drop_zero, List.drop_nil, List.nil_append, List.cons_append, List.append_nil, Option.getD_some, Option.getD_none, Option.map_some, Option.map_none, Int.toNat_natCast, T_1, T_2, T_3, T_4, T_5, T_6, T_7, T_8, T_9, T_10, T_11, T_12, T_13, T_14, T_15, T_16, T_17, T_18, T_19, T_21, T_22, T_23, T_24, T_25, T_26, T_27, T_28, T_29, T_30, T_32, T_34, T_35, T_36, T_38, T_39, T_40, T_41, T_42, T_44, T_45, T_46, T_47, T_48, T_49, T_51, T_52, T_54, T_55, T_56, T_57, T_58, T_59, T_60, T_61, T_62, T_63, T_64, T_65, T_66, T_67, T_69, T_70, T_72, T_73, T_74, T_75, T_76, T_77, T_78, T_79, T_80, T_81, T_82, T_83, T_84, T_85, T_86, T_87, T_88, T_89, T_90, T_91, T_92, T_93, T_94, T_95, T_96, T_97, T_98, T_99, T_100, T_101, T_102, T_103, T_104]
  · rw [if_neg (by show ¬ (3 : Int) = 2; decide)]
    refine fn_walk tabOk Try.func17 rfl (by decide +kernel) Try.ntmps17 Try.results17 (by simp) fun B hB => ?_
    try refine hK _ ?_
    repeat (first | refine awp_seq ?_ | refine awp_block ?_ | refine awp_skip ?_ | refine awp_scope ?_ | refine awp_label ?_)
    refine awp_region tabOk fun K hK => ?_
    simp -dsimp -implicitDefEqProofs only [push_cast, ↓trAdd_f, ↓stOf_f, Nat.reduceBEq, Int.reduceBEq, Int.reduceBNe, Int.reduceNeg, Int.reduceAdd, Int.reduceSub, Int.reduceLT, Int.reduceLE, Int.reduceMul, Nat.reducePow, Int.reducePow, Nat.reduceAdd, Nat.reduceEqDiff, Nat.reduceLT, Nat.reduceLeDiff, Nat.reduceMul, Nat.reduceSub, reduceCtorEq, ↓reduceIte]
    refine hK _ ?_
    try refine hK _ ?_
    repeat (first | refine awp_seq ?_ | refine awp_block ?_ | refine awp_skip ?_ | refine awp_scope ?_ | refine awp_label ?_)
    refine awp_region tabOk fun K hK => ?_
    simp -dsimp -implicitDefEqProofs only [push_cast, ↓trAdd_f, ↓stOf_f, Nat.reduceBEq, Int.reduceBEq, Int.reduceBNe, Int.reduceNeg, Int.reduceAdd, Int.reduceSub, Int.reduceLT, Int.reduceLE, Int.reduceMul, Nat.reducePow, Int.reducePow, Nat.reduceAdd, Nat.reduceEqDiff, Nat.reduceLT, Nat.reduceLeDiff, Nat.reduceMul, Nat.reduceSub, reduceCtorEq, ↓reduceIte]
    refine hK _ ?_
    try refine hK _ ?_
    repeat (first | refine awp_seq ?_ | refine awp_block ?_ | refine awp_skip ?_ | refine awp_scope ?_ | refine awp_label ?_)
    refine awp_cond (b := true) (by simp -dsimp -implicitDefEqProofs only [push_cast, ↓trAdd_f, ↓stOf_f, Nat.reduceBEq, Int.reduceBEq, Int.reduceBNe, Int.reduceNeg, Int.reduceAdd, Int.reduceSub, Int.reduceLT, Int.reduceLE, Int.reduceMul, Nat.reducePow, Int.reducePow, Nat.reduceAdd, Nat.reduceEqDiff, Nat.reduceLT, Nat.reduceLeDiff, Nat.reduceMul, Nat.reduceSub, reduceCtorEq, ↓reduceIte]) (fun h => ?_) (fun h => ?_)
    rotate_left
    · cases h
    try refine hK _ ?_
    repeat (first | refine awp_seq ?_ | refine awp_block ?_ | refine awp_skip ?_ | refine awp_scope ?_ | refine awp_label ?_)
    refine awp_region tabOk fun K hK => ?_
    simp -dsimp -implicitDefEqProofs only [push_cast, ↓trAdd_f, ↓stOf_f, Nat.reduceBEq, Int.reduceBEq, Int.reduceBNe, Int.reduceNeg, Int.reduceAdd, Int.reduceSub, Int.reduceLT, Int.reduceLE, Int.reduceMul, Nat.reducePow, Int.reducePow, Nat.reduceAdd, Nat.reduceEqDiff, Nat.reduceLT, Nat.reduceLeDiff, Nat.reduceMul, Nat.reduceSub, reduceCtorEq, ↓reduceIte]
    refine hK _ (awp_ret ?_)
    simp -dsimp -implicitDefEqProofs only [encSnd, List.flatMap_cons, List.flatMap_nil, List.mem_append, Blk.ok, PV.ok, okL, List.length_append, take_map_len, implies_true, imp_self_i, false_imp_i, endOk, endOkP, resVals, joinRes, view, viewA, viewC, viewOk, viewOkA, viewOkC, storeEnd, wk, wkA, wkAL, wkC, wkL, wkB, blkLe, true_or, PV.int.injEq, PV.bool.injEq, idsA, PV.fz, fzL, ids, idsC, fLoad, outP, TI.n, TI.isAgg, List.not_mem_nil, List.mem_cons, List.mem_singleton, forall_eq_or_imp, forall_eq, AS.get, getPV, lk, Int.cast_ofNat_Int, Int.natCast_one, Int.reduceBEq, Int.reduceBNe, Int.reduceNeg, int_toNat_zero_i, Nat.sub_zero, Int.natCast_zero, Int.reduceAdd, Int.reduceSub, Int.reduceLT, Int.reduceLE, Int.reduceMul, Int.zero_add, decide_true, decide_false, Nat.reducePow, Int.reducePow, Nat.reduceAdd, Nat.reduceEqDiff, Nat.reduceLT, Nat.reduceLeDiff, Nat.reduceMul, Nat.reduceSub, Nat.reduceBEq, Nat.le_refl, Nat.zero_add, Nat.add_zero, reduceCtorEq, or_true, true_or, or_false, false_or, if_true, if_false, ↓reduceIte, true_and, and_true, and_self, Bool.not_true, Bool.not_false, cond_true, cond_false, Bool.true_eq_false, Bool.false_eq_true, ne_eq, not_false_eq_true, not_true_eq_false, Bool.and_true, Bool.true_and, Bool.and_false, Bool.false_and, Bool.or_true, Bool.true_or, Bool.or_false, Bool.false_or, List.isEmpty_nil, List.map_cons, List.map_nil, List.length_cons, List.length_nil, List.length_map, List.getD_cons_zero, List.getD_cons_succ, List.getD_nil, List.getElem?_cons_zero, List.getElem?_cons_succ, List.getElem?_nil, List.take_succ_cons, List.take_zero, List.take_nil, List.drop_succ_cons, List.drop_zero, List.drop_nil, List.nil_append, List.cons_append, List.append_nil, Option.getD_some, Option.getD_none, Option.map_some, Option.map_none, Int.toNat_natCast, T_1, T_2, T_3, T_4, T_5, T_6, T_7, T_8, T_9, T_10, T_11, T_12, T_13, T_14, T_15, T_16, T_17, T_18, T_19, T_21, T_22, T_23, T_24, T_25, T_26, T_27, T_28, T_29, T_30, T_32, T_34, T_35, T_36, T_38, T_39, T_40, T_41, T_42, T_44, T_45, T_46, T_47, T_48, T_49, T_51, T_52, T_54, T_55, T_56, T_57, T_58, T_59, T_60, T_61, T_62, T_63, T_64, T_65, T_66, T_67, T_69, T_70, T_72, T_73, T_74, T_75, T_76, T_77, T_78, T_79, T_80, T_81, T_82, T_83, T_84, T_85, T_86, T_87, T_88, T_89, T_90, T_91, T_92, T_93, T_94, T_95, T_96, T_97, T_98, T_99, T_100, T_101, T_102, T_103, T_104]
/-- The next part of a text, from p on; and who sends it, behind it. -/
def partP (s : Snd) (p : Nat) : Pdu := ⟨3, 0, s.num, 0, 0, 0, (s.text.drop p).take (min (p + 7) s.text.length - p)⟩
def nextS (s : Snd) (p : Nat) : Snd := { s with st := if p + 7 < s.text.length then 2 else 3, pos := min (p + 7) s.text.length, num := (s.num + 1) % 16, clk := 0 }
theorem next3_ok (s : Snd) (hs : s.st ≠ 2) : FnS Try.prog 16 [.agg (encSnd s)] [] (.tup [.agg (encSnd s), .agg (encPdu pdu0), .bool false]) [] := by
  have hA : (s.st != 2) = true := by simpa using hs
  refine fn_walk tabOk Try.func16 rfl (by decide +kernel) Try.ntmps16 Try.results16 (by simp) fun B hB => ?_
  try refine hK _ ?_
  repeat (first | refine awp_seq ?_ | refine awp_block ?_ | refine awp_skip ?_ | refine awp_scope ?_ | refine awp_label ?_)
  refine awp_region tabOk fun K hK => ?_
  simp -dsimp -implicitDefEqProofs only [push_cast, ↓trAdd_f, ↓stOf_f, Nat.reduceBEq, Int.reduceBEq, Int.reduceBNe, Int.reduceNeg, Int.reduceAdd, Int.reduceSub, Int.reduceLT, Int.reduceLE, Int.reduceMul, Nat.reducePow, Int.reducePow, Nat.reduceAdd, Nat.reduceEqDiff, Nat.reduceLT, Nat.reduceLeDiff, Nat.reduceMul, Nat.reduceSub, reduceCtorEq, ↓reduceIte]
  refine hK _ ?_
  try refine hK _ ?_
  repeat (first | refine awp_seq ?_ | refine awp_block ?_ | refine awp_skip ?_ | refine awp_scope ?_ | refine awp_label ?_)
  refine awp_region tabOk fun K hK => ?_
  simp -dsimp -implicitDefEqProofs only [hA, push_cast, ↓trAdd_f, ↓stOf_f, Nat.reduceBEq, Int.reduceBEq, Int.reduceBNe, Int.reduceNeg, Int.reduceAdd, Int.reduceSub, Int.reduceLT, Int.reduceLE, Int.reduceMul, Nat.reducePow, Int.reducePow, Nat.reduceAdd, Nat.reduceEqDiff, Nat.reduceLT, Nat.reduceLeDiff, Nat.reduceMul, Nat.reduceSub, reduceCtorEq, ↓reduceIte]
  refine hK _ ?_
  try refine hK _ ?_
  repeat (first | refine awp_seq ?_ | refine awp_block ?_ | refine awp_skip ?_ | refine awp_scope ?_ | refine awp_label ?_)
  refine awp_cond (b := true) (by simp -dsimp -implicitDefEqProofs only [push_cast, ↓trAdd_f, ↓stOf_f, Nat.reduceBEq, Int.reduceBEq, Int.reduceBNe, Int.reduceNeg, Int.reduceAdd, Int.reduceSub, Int.reduceLT, Int.reduceLE, Int.reduceMul, Nat.reducePow, Int.reducePow, Nat.reduceAdd, Nat.reduceEqDiff, Nat.reduceLT, Nat.reduceLeDiff, Nat.reduceMul, Nat.reduceSub, reduceCtorEq, ↓reduceIte]) (fun h => ?_) (fun h => ?_)
  rotate_left
  · cases h
  try refine hK _ ?_
  repeat (first | refine awp_seq ?_ | refine awp_block ?_ | refine awp_skip ?_ | refine awp_scope ?_ | refine awp_label ?_)
  refine awp_region tabOk fun K hK => ?_
  simp -dsimp -implicitDefEqProofs only [push_cast, ↓trAdd_f, ↓stOf_f, Nat.reduceBEq, Int.reduceBEq, Int.reduceBNe, Int.reduceNeg, Int.reduceAdd, Int.reduceSub, Int.reduceLT, Int.reduceLE, Int.reduceMul, Nat.reducePow, Int.reducePow, Nat.reduceAdd, Nat.reduceEqDiff, Nat.reduceLT, Nat.reduceLeDiff, Nat.reduceMul, Nat.reduceSub, reduceCtorEq, ↓reduceIte]
  refine hK _ (awp_ret ?_)
  simp -dsimp -implicitDefEqProofs only [encSnd, encPdu, pdu0, List.flatMap_cons, List.flatMap_nil, List.mem_append, Blk.ok, PV.ok, okL, List.length_append, take_map_len, implies_true, imp_self_i, false_imp_i, endOk, endOkP, resVals, joinRes, view, viewA, viewC, viewOk, viewOkA, viewOkC, storeEnd, wk, wkA, wkAL, wkC, wkL, wkB, blkLe, true_or, PV.int.injEq, PV.bool.injEq, idsA, PV.fz, fzL, ids, idsC, fLoad, outP, TI.n, TI.isAgg, List.not_mem_nil, List.mem_cons, List.mem_singleton, forall_eq_or_imp, forall_eq, AS.get, getPV, lk, Int.cast_ofNat_Int, Int.natCast_one, Int.reduceBEq, Int.reduceBNe, Int.reduceNeg, int_toNat_zero_i, Nat.sub_zero, Int.natCast_zero, Int.reduceAdd, Int.reduceSub, Int.reduceLT, Int.reduceLE, Int.reduceMul, Int.zero_add, decide_true, decide_false, Nat.reducePow, Int.reducePow, Nat.reduceAdd, Nat.reduceEqDiff, Nat.reduceLT, Nat.reduceLeDiff, Nat.reduceMul, Nat.reduceSub, Nat.reduceBEq, Nat.le_refl, Nat.zero_add, Nat.add_zero, reduceCtorEq, or_true, true_or, or_false, false_or, if_true, if_false, ↓reduceIte, true_and, and_true, and_self, Bool.not_true, Bool.not_false, cond_true, cond_false, Bool.true_eq_false, Bool.false_eq_true, ne_eq, not_false_eq_true, not_true_eq_false, Bool.and_true, Bool.true_and, Bool.and_false, Bool.false_and, Bool.or_true, Bool.true_or, Bool.or_false, Bool.false_or, List.isEmpty_nil, List.map_cons, List.map_nil, List.length_cons, List.length_nil, List.length_map, List.getD_cons_zero, List.getD_cons_succ, List.getD_nil, List.getElem?_cons_zero, List.getElem?_cons_succ, List.getElem?_nil, List.take_succ_cons, List.take_zero, List.take_nil, List.drop_succ_cons, List.drop_zero, List.drop_nil, List.nil_append, List.cons_append, List.append_nil, Option.getD_some, Option.getD_none, Option.map_some, Option.map_none, Int.toNat_natCast, T_1, T_2, T_3, T_4, T_5, T_6, T_7, T_8, T_9, T_10, T_11, T_12, T_13, T_14, T_15, T_16, T_17, T_18, T_19, T_21, T_22, T_23, T_24, T_25, T_26, T_27, T_28, T_29, T_30, T_32, T_34, T_35, T_36, T_38, T_39, T_40, T_41, T_42, T_44, T_45, T_46, T_47, T_48, T_49, T_51, T_52, T_54, T_55, T_56, T_57, T_58, T_59, T_60, T_61, T_62, T_63, T_64, T_65, T_66, T_67, T_69, T_70, T_72, T_73, T_74, T_75, T_76, T_77, T_78, T_79, T_80, T_81, T_82, T_83, T_84, T_85, T_86, T_87, T_88, T_89, T_90, T_91, T_92, T_93, T_94, T_95, T_96, T_97, T_98, T_99, T_100, T_101, T_102, T_103, T_104]
theorem next2_ok (s : Snd) (p : Nat) (hs : s.st = 2) (hp : s.pos = p) (hl : p < s.text.length) (h4 : s.text.length ≤ 4095) (hg : s.gap = 0) (hc : 0 ≤ s.clk) (hle : s.left = -1) (hn : 0 ≤ s.num ∧ s.num < 16) :
    FnS Try.prog 16 [.agg (encSnd s)] [] (.tup [.agg (encSnd (nextS s p)), .agg (encPdu (partP s p)), .bool true]) [] := by
  obtain ⟨st, text, pos, num, left, gap, clk, waits, err⟩ := s
  simp only at hs hp hl h4 hg hc hle hn
  subst hs hp hg hle
  have dc : decide (clk < 0) = false := decide_eq_false (by omega)
  have w2 : IntKind.i64.wrap (num + 1) = num + 1 := wrap_i64 (by omega) (by omega)
  have w3 : Int.tmod (num + 1) 16 = (num + 1) % 16 := Int.tmod_eq_emod_of_nonneg (by omega)
  have w1 : IntKind.i64.wrap ((p : Int) + 7) = (p : Int) + 7 := wrap_i64 (by omega) (by omega)
  have hz := bytes_fz text
  unfold nextS partP
  simp only
  generalize htt : min (p + 7) text.length = to at *
  have hmin : min ((p : Int) + 7) (text.length : Int) = (to : Int) := by omega
  have hdt : ((text.map encB).drop p).take (to - p) = ((text.drop p).take (to - p)).map encB := by rw [List.map_take, List.map_drop]
  have hdz := bytes_fz ((text.drop p).take (to - p))
  have hlt : (p + 7 < text.length) = (to ≠ text.length) := by apply propext; omega
  have ht1 : p ≤ to := by omega
  have ht2 : to ≤ text.length := by omega
  have hk1 : Int.toNat (p : Int) = p := rfl
  have hk2 : Int.toNat (to : Int) = to := rfl
  generalize hpp : (text.drop p).take (to - p) = part at *
  refine fn_walk tabOk Try.func16 rfl (by decide +kernel) Try.ntmps16 Try.results16 (by simp) fun B hB => ?_
  try refine hK _ ?_
  repeat (first | refine awp_seq ?_ | refine awp_block ?_ | refine awp_skip ?_ | refine awp_scope ?_ | refine awp_label ?_)
  refine awp_region tabOk fun K hK => ?_
  simp -dsimp -implicitDefEqProofs only [push_cast, ↓trAdd_f, ↓stOf_f, Nat.reduceBEq, Int.reduceBEq, Int.reduceBNe, Int.reduceNeg, Int.reduceAdd, Int.reduceSub, Int.reduceLT, Int.reduceLE, Int.reduceMul, Nat.reducePow, Int.reducePow, Nat.reduceAdd, Nat.reduceEqDiff, Nat.reduceLT, Nat.reduceLeDiff, Nat.reduceMul, Nat.reduceSub, reduceCtorEq, ↓reduceIte]
  refine hK _ ?_
  try refine hK _ ?_
  repeat (first | refine awp_seq ?_ | refine awp_block ?_ | refine awp_skip ?_ | refine awp_scope ?_ | refine awp_label ?_)
  refine awp_region tabOk fun K hK => ?_
  simp -dsimp -implicitDefEqProofs only [dc, push_cast, ↓trAdd_f, ↓stOf_f, Nat.reduceBEq, Int.reduceBEq, Int.reduceBNe, Int.reduceNeg, Int.reduceAdd, Int.reduceSub, Int.reduceLT, Int.reduceLE, Int.reduceMul, Nat.reducePow, Int.reducePow, Nat.reduceAdd, Nat.reduceEqDiff, Nat.reduceLT, Nat.reduceLeDiff, Nat.reduceMul, Nat.reduceSub, reduceCtorEq, ↓reduceIte]
  refine hK _ ?_
  try refine hK _ ?_
  repeat (first | refine awp_seq ?_ | refine awp_block ?_ | refine awp_skip ?_ | refine awp_scope ?_ | refine awp_label ?_)
  refine awp_cond (b := false) (by simp -dsimp -implicitDefEqProofs only [push_cast, ↓trAdd_f, ↓stOf_f, Nat.reduceBEq, Int.reduceBEq, Int.reduceBNe, Int.reduceNeg, Int.reduceAdd, Int.reduceSub, Int.reduceLT, Int.reduceLE, Int.reduceMul, Nat.reducePow, Int.reducePow, Nat.reduceAdd, Nat.reduceEqDiff, Nat.reduceLT, Nat.reduceLeDiff, Nat.reduceMul, Nat.reduceSub, reduceCtorEq, ↓reduceIte]) (fun h => ?_) (fun h => ?_)
  · cases h
  refine awp_skip ?_
  try refine hK _ ?_
  repeat (first | refine awp_seq ?_ | refine awp_block ?_ | refine awp_skip ?_ | refine awp_scope ?_ | refine awp_label ?_)
  refine awp_region tabOk fun K hK => ?_
  simp -dsimp -implicitDefEqProofs only [push_cast, ↓trAdd_f, ↓stOf_f, Nat.reduceBEq, Int.reduceBEq, Int.reduceBNe, Int.reduceNeg, Int.reduceAdd, Int.reduceSub, Int.reduceLT, Int.reduceLE, Int.reduceMul, Nat.reducePow, Int.reducePow, Nat.reduceAdd, Nat.reduceEqDiff, Nat.reduceLT, Nat.reduceLeDiff, Nat.reduceMul, Nat.reduceSub, reduceCtorEq, ↓reduceIte]
  refine hK _ ?_
  try refine hK _ ?_
  repeat (first | refine awp_seq ?_ | refine awp_block ?_ | refine awp_skip ?_ | refine awp_scope ?_ | refine awp_label ?_)
  refine awp_draw tabOk (by kernel_rfl) (by kernel_rfl) fun K hK C hC => ?_
  simp -dsimp -implicitDefEqProofs only [w1, hmin, push_cast, ↓trAdd_f, ↓stOf_f, Nat.reduceBEq, Int.reduceBEq, Int.reduceBNe, Int.reduceNeg, Int.reduceAdd, Int.reduceSub, Int.reduceLT, Int.reduceLE, Int.reduceMul, Nat.reducePow, Int.reducePow, Nat.reduceAdd, Nat.reduceEqDiff, Nat.reduceLT, Nat.reduceLeDiff, Nat.reduceMul, Nat.reduceSub, reduceCtorEq, ↓reduceIte]
  refine ⟨hC _ (by kernel_rfl), hK _ ?_⟩
  try refine hK _ ?_
  repeat (first | refine awp_seq ?_ | refine awp_block ?_ | refine awp_skip ?_ | refine awp_scope ?_ | refine awp_label ?_)
  refine awp_draw tabOk (by kernel_rfl) (by kernel_rfl) fun K hK C hC => ?_
  simp -dsimp -implicitDefEqProofs only [hk1, hk2, hdt, push_cast, ↓trAdd_f, ↓stOf_f, Nat.reduceBEq, Int.reduceBEq, Int.reduceBNe, Int.reduceNeg, Int.reduceAdd, Int.reduceSub, Int.reduceLT, Int.reduceLE, Int.reduceMul, Nat.reducePow, Int.reducePow, Nat.reduceAdd, Nat.reduceEqDiff, Nat.reduceLT, Nat.reduceLeDiff, Nat.reduceMul, Nat.reduceSub, reduceCtorEq, ↓reduceIte]
  refine ⟨⟨by omega, by omega, by omega, fun m hm => ?_⟩, hC _ (by kernel_rfl), hK _ ?_⟩
  · cases hm; exact ⟨rfl, rfl⟩
  try refine hK _ ?_
  repeat (first | refine awp_seq ?_ | refine awp_block ?_ | refine awp_skip ?_ | refine awp_scope ?_ | refine awp_label ?_)
  refine awp_region tabOk fun K hK => ?_
  simp -dsimp -implicitDefEqProofs only [w2, w3, push_cast, ↓trAdd_f, ↓stOf_f, Nat.reduceBEq, Int.reduceBEq, Int.reduceBNe, Int.reduceNeg, Int.reduceAdd, Int.reduceSub, Int.reduceLT, Int.reduceLE, Int.reduceMul, Nat.reducePow, Int.reducePow, Nat.reduceAdd, Nat.reduceEqDiff, Nat.reduceLT, Nat.reduceLeDiff, Nat.reduceMul, Nat.reduceSub, reduceCtorEq, ↓reduceIte]
  refine ⟨by decide, hK _ ?_⟩
  by_cases he : to = text.length
  · have d : ((to : Int) == (text.length : Int)) = true := by rw [beq_iff_eq]; omega
    have hst : (if p + 7 < text.length then (2 : Int) else 3) = 3 := if_neg (by omega)
    try refine hK _ ?_
    repeat (first | refine awp_seq ?_ | refine awp_block ?_ | refine awp_skip ?_ | refine awp_scope ?_ | refine awp_label ?_)
    refine awp_region tabOk fun K hK => ?_
    simp -dsimp -implicitDefEqProofs only [d, push_cast, ↓trAdd_f, ↓stOf_f, Nat.reduceBEq, Int.reduceBEq, Int.reduceBNe, Int.reduceNeg, Int.reduceAdd, Int.reduceSub, Int.reduceLT, Int.reduceLE, Int.reduceMul, Nat.reducePow, Int.reducePow, Nat.reduceAdd, Nat.reduceEqDiff, Nat.reduceLT, Nat.reduceLeDiff, Nat.reduceMul, Nat.reduceSub, reduceCtorEq, ↓reduceIte]
    refine hK _ ?_
    try refine hK _ ?_
    repeat (first | refine awp_seq ?_ | refine awp_block ?_ | refine awp_skip ?_ | refine awp_scope ?_ | refine awp_label ?_)
    refine awp_cond (b := true) (by simp -dsimp -implicitDefEqProofs only [push_cast, ↓trAdd_f, ↓stOf_f, Nat.reduceBEq, Int.reduceBEq, Int.reduceBNe, Int.reduceNeg, Int.reduceAdd, Int.reduceSub, Int.reduceLT, Int.reduceLE, Int.reduceMul, Nat.reducePow, Int.reducePow, Nat.reduceAdd, Nat.reduceEqDiff, Nat.reduceLT, Nat.reduceLeDiff, Nat.reduceMul, Nat.reduceSub, reduceCtorEq, ↓reduceIte]) (fun h => ?_) (fun h => ?_)
    rotate_left
    · cases h
    try refine hK _ ?_
    repeat (first | refine awp_seq ?_ | refine awp_block ?_ | refine awp_skip ?_ | refine awp_scope ?_ | refine awp_label ?_)
    refine awp_region tabOk fun K hK => ?_
    simp -dsimp -implicitDefEqProofs only [push_cast, ↓trAdd_f, ↓stOf_f, Nat.reduceBEq, Int.reduceBEq, Int.reduceBNe, Int.reduceNeg, Int.reduceAdd, Int.reduceSub, Int.reduceLT, Int.reduceLE, Int.reduceMul, Nat.reducePow, Int.reducePow, Nat.reduceAdd, Nat.reduceEqDiff, Nat.reduceLT, Nat.reduceLeDiff, Nat.reduceMul, Nat.reduceSub, reduceCtorEq, ↓reduceIte]
    refine hK _ ?_
    try refine hK _ ?_
    repeat (first | refine awp_seq ?_ | refine awp_block ?_ | refine awp_skip ?_ | refine awp_scope ?_ | refine awp_label ?_)
    refine awp_draw tabOk (by kernel_rfl) (by kernel_rfl) fun K hK C hC => ?_
    simp -dsimp -implicitDefEqProofs only [push_cast, ↓trAdd_f, ↓stOf_f, Nat.reduceBEq, Int.reduceBEq, Int.reduceBNe, Int.reduceNeg, Int.reduceAdd, Int.reduceSub, Int.reduceLT, Int.reduceLE, Int.reduceMul, Nat.reducePow, Int.reducePow, Nat.reduceAdd, Nat.reduceEqDiff, Nat.reduceLT, Nat.reduceLeDiff, Nat.reduceMul, Nat.reduceSub, reduceCtorEq, ↓reduceIte]
    refine ⟨hC _ (by kernel_rfl), hK _ (awp_ret ?_)⟩
    simp -dsimp -implicitDefEqProofs only [encSnd, encPdu, hst, hdz, hmin, List.flatMap_cons, List.flatMap_nil, List.mem_append, Blk.ok, PV.ok, okL, List.length_append, take_map_len, implies_true, imp_self_i, false_imp_i, endOk, endOkP, resVals, joinRes, view, viewA, viewC, viewOk, viewOkA, viewOkC, storeEnd, wk, wkA, wkAL, wkC, wkL, wkB, blkLe, true_or, PV.int.injEq, PV.bool.injEq, idsA, PV.fz, fzL, ids, idsC, fLoad, outP, TI.n, TI.isAgg, List.not_mem_nil, List.mem_cons, List.mem_singleton, forall_eq_or_imp, forall_eq, AS.get, getPV, lk, Int.cast_ofNat_Int, Int.natCast_one, Int.reduceBEq, Int.reduceBNe, Int.reduceNeg, int_toNat_zero_i, Nat.sub_zero, Int.natCast_zero, Int.reduceAdd, Int.reduceSub, Int.reduceLT, Int.reduceLE, Int.reduceMul, Int.zero_add, decide_true, decide_false, Nat.reducePow, Int.reducePow, Nat.reduceAdd, Nat.reduceEqDiff, Nat.reduceLT, Nat.reduceLeDiff, Nat.reduceMul, Nat.reduceSub, Nat.reduceBEq, Nat.le_refl, Nat.zero_add, Nat.add_zero, reduceCtorEq, or_true, true_or, or_false, false_or, if_true, if_false, ↓reduceIte, true_and, and_true, and_self, Bool.not_true, Bool.not_false, cond_true, cond_false, Bool.true_eq_false, Bool.false_eq_true, ne_eq, not_false_eq_true, not_true_eq_false, Bool.and_true, Bool.true_and, Bool.and_false, Bool.false_and, Bool.or_true, Bool.true_or, Bool.or_false, Bool.false_or, List.isEmpty_nil, List.map_cons, List.map_nil, List.length_cons, List.length_nil, List.length_map, List.getD_cons_zero, List.getD_cons_succ, List.getD_nil, List.getElem?_cons_zero, List.getElem?_cons_succ, List.getElem?_nil, List.take_succ_cons, List.take_zero, List.take_nil, List.drop_succ_cons, List.drop_zero, List.drop_nil, List.nil_append, List.cons_append, List.append_nil, Option.getD_some, Option.getD_none, Option.map_some, Option.map_none, Int.toNat_natCast, T_1, T_2, T_3, T_4, T_5, T_6, T_7, T_8, T_9, T_10, T_11, T_12, T_13, T_14, T_15, T_16, T_17, T_18, T_19, T_21, T_22, T_23, T_24, T_25, T_26, T_27, T_28, T_29, T_30, T_32, T_34, T_35, T_36, T_38, T_39, T_40, T_41, T_42, T_44, T_45, T_46, T_47, T_48, T_49, T_51, T_52, T_54, T_55, T_56, T_57, T_58, T_59, T_60, T_61, T_62, T_63, T_64, T_65, T_66, T_67, T_69, T_70, T_72, T_73, T_74, T_75, T_76, T_77, T_78, T_79, T_80, T_81, T_82, T_83, T_84, T_85, T_86, T_87, T_88, T_89, T_90, T_91, T_92, T_93, T_94, T_95, T_96, T_97, T_98, T_99, T_100, T_101, T_102, T_103, T_104]
  · have d : ((to : Int) == (text.length : Int)) = false := by rw [beq_eq_false_iff_ne]; omega
    have hst : (if p + 7 < text.length then (2 : Int) else 3) = 2 := if_pos (by omega)
    try refine hK _ ?_
    repeat (first | refine awp_seq ?_ | refine awp_block ?_ | refine awp_skip ?_ | refine awp_scope ?_ | refine awp_label ?_)
    refine awp_region tabOk fun K hK => ?_
    simp -dsimp -implicitDefEqProofs only [d, push_cast, ↓trAdd_f, ↓stOf_f, Nat.reduceBEq, Int.reduceBEq, Int.reduceBNe, Int.reduceNeg, Int.reduceAdd, Int.reduceSub, Int.reduceLT, Int.reduceLE, Int.reduceMul, Nat.reducePow, Int.reducePow, Nat.reduceAdd, Nat.reduceEqDiff, Nat.reduceLT, Nat.reduceLeDiff, Nat.reduceMul, Nat.reduceSub, reduceCtorEq, ↓reduceIte]
    refine hK _ ?_
    try refine hK _ ?_
    repeat (first | refine awp_seq ?_ | refine awp_block ?_ | refine awp_skip ?_ | refine awp_scope ?_ | refine awp_label ?_)
    refine awp_cond (b := false) (by simp -dsimp -implicitDefEqProofs only [push_cast, ↓trAdd_f, ↓stOf_f, Nat.reduceBEq, Int.reduceBEq, Int.reduceBNe, Int.reduceNeg, Int.reduceAdd, Int.reduceSub, Int.reduceLT, Int.reduceLE, Int.reduceMul, Nat.reducePow, Int.reducePow, Nat.reduceAdd, Nat.reduceEqDiff, Nat.reduceLT, Nat.reduceLeDiff, Nat.reduceMul, Nat.reduceSub, reduceCtorEq, ↓reduceIte]) (fun h => ?_) (fun h => ?_)
    · cases h
    refine awp_skip ?_
    try refine hK _ ?_
    repeat (first | refine awp_seq ?_ | refine awp_block ?_ | refine awp_skip ?_ | refine awp_scope ?_ | refine awp_label ?_)
    refine awp_region tabOk fun K hK => ?_
    simp -dsimp -implicitDefEqProofs only [push_cast, ↓trAdd_f, ↓stOf_f, Nat.reduceBEq, Int.reduceBEq, Int.reduceBNe, Int.reduceNeg, Int.reduceAdd, Int.reduceSub, Int.reduceLT, Int.reduceLE, Int.reduceMul, Nat.reducePow, Int.reducePow, Nat.reduceAdd, Nat.reduceEqDiff, Nat.reduceLT, Nat.reduceLeDiff, Nat.reduceMul, Nat.reduceSub, reduceCtorEq, ↓reduceIte]
    refine hK _ ?_
    try refine hK _ ?_
    repeat (first | refine awp_seq ?_ | refine awp_block ?_ | refine awp_skip ?_ | refine awp_scope ?_ | refine awp_label ?_)
    refine awp_cond (b := false) (by simp -dsimp -implicitDefEqProofs only [push_cast, ↓trAdd_f, ↓stOf_f, Nat.reduceBEq, Int.reduceBEq, Int.reduceBNe, Int.reduceNeg, Int.reduceAdd, Int.reduceSub, Int.reduceLT, Int.reduceLE, Int.reduceMul, Nat.reducePow, Int.reducePow, Nat.reduceAdd, Nat.reduceEqDiff, Nat.reduceLT, Nat.reduceLeDiff, Nat.reduceMul, Nat.reduceSub, reduceCtorEq, ↓reduceIte]) (fun h => ?_) (fun h => ?_)
    · cases h
    refine awp_skip ?_
    try refine hK _ ?_
    repeat (first | refine awp_seq ?_ | refine awp_block ?_ | refine awp_skip ?_ | refine awp_scope ?_ | refine awp_label ?_)
    refine awp_draw tabOk (by kernel_rfl) (by kernel_rfl) fun K hK C hC => ?_
    simp -dsimp -implicitDefEqProofs only [push_cast, ↓trAdd_f, ↓stOf_f, Nat.reduceBEq, Int.reduceBEq, Int.reduceBNe, Int.reduceNeg, Int.reduceAdd, Int.reduceSub, Int.reduceLT, Int.reduceLE, Int.reduceMul, Nat.reducePow, Int.reducePow, Nat.reduceAdd, Nat.reduceEqDiff, Nat.reduceLT, Nat.reduceLeDiff, Nat.reduceMul, Nat.reduceSub, reduceCtorEq, ↓reduceIte]
    refine ⟨hC _ (by kernel_rfl), hK _ (awp_ret ?_)⟩
    simp -dsimp -implicitDefEqProofs only [encSnd, encPdu, hst, hdz, hmin, List.flatMap_cons, List.flatMap_nil, List.mem_append, Blk.ok, PV.ok, okL, List.length_append, take_map_len, implies_true, imp_self_i, false_imp_i, endOk, endOkP, resVals, joinRes, view, viewA, viewC, viewOk, viewOkA, viewOkC, storeEnd, wk, wkA, wkAL, wkC, wkL, wkB, blkLe, true_or, PV.int.injEq, PV.bool.injEq, idsA, PV.fz, fzL, ids, idsC, fLoad, outP, TI.n, TI.isAgg, List.not_mem_nil, List.mem_cons, List.mem_singleton, forall_eq_or_imp, forall_eq, AS.get, getPV, lk, Int.cast_ofNat_Int, Int.natCast_one, Int.reduceBEq, Int.reduceBNe, Int.reduceNeg, int_toNat_zero_i, Nat.sub_zero, Int.natCast_zero, Int.reduceAdd, Int.reduceSub, Int.reduceLT, Int.reduceLE, Int.reduceMul, Int.zero_add, decide_true, decide_false, Nat.reducePow, Int.reducePow, Nat.reduceAdd, Nat.reduceEqDiff, Nat.reduceLT, Nat.reduceLeDiff, Nat.reduceMul, Nat.reduceSub, Nat.reduceBEq, Nat.le_refl, Nat.zero_add, Nat.add_zero, reduceCtorEq, or_true, true_or, or_false, false_or, if_true, if_false, ↓reduceIte, true_and, and_true, and_self, Bool.not_true, Bool.not_false, cond_true, cond_false, Bool.true_eq_false, Bool.false_eq_true, ne_eq, not_false_eq_true, not_true_eq_false, Bool.and_true, Bool.true_and, Bool.and_false, Bool.false_and, Bool.or_true, Bool.true_or, Bool.or_false, Bool.false_or, List.isEmpty_nil, List.map_cons, List.map_nil, List.length_cons, List.length_nil, List.length_map, List.getD_cons_zero, List.getD_cons_succ, List.getD_nil, List.getElem?_cons_zero, List.getElem?_cons_succ, List.getElem?_nil, List.take_succ_cons, List.take_zero, List.take_nil, List.drop_succ_cons, List.drop_zero, List.drop_nil, List.nil_append, List.cons_append, List.append_nil, Option.getD_some, Option.getD_none, Option.map_some, Option.map_none, Int.toNat_natCast, T_1, T_2, T_3, T_4, T_5, T_6, T_7, T_8, T_9, T_10, T_11, T_12, T_13, T_14, T_15, T_16, T_17, T_18, T_19, T_21, T_22, T_23, T_24, T_25, T_26, T_27, T_28, T_29, T_30, T_32, T_34, T_35, T_36, T_38, T_39, T_40, T_41, T_42, T_44, T_45, T_46, T_47, T_48, T_49, T_51, T_52, T_54, T_55, T_56, T_57, T_58, T_59, T_60, T_61, T_62, T_63, T_64, T_65, T_66, T_67, T_69, T_70, T_72, T_73, T_74, T_75, T_76, T_77, T_78, T_79, T_80, T_81, T_82, T_83, T_84, T_85, T_86, T_87, T_88, T_89, T_90, T_91, T_92, T_93, T_94, T_95, T_96, T_97, T_98, T_99, T_100, T_101, T_102, T_103, T_104]
end Go.Proofs.YtoifmpiikopelaaFw
