import Derived.Test.YtihippjbbcpggaaFwTab
import Derived.Test.YtihippjbbcpggaaFwZ
import Derived.Lib.MakeNoZero
/-
  What an operation's evaluation may use.
-/
namespace Go.Proofs.YtihippjbbcpggaaFw
open Go Go.Proofs
set_option linter.unusedVariables false
set_option linter.unusedSimpArgs false
attribute [push_cast] take_map_len List.length_append List.all_cons List.all_nil PV.scalar PV.scalarA PV.scalarC seenV ids idsA idsC List.forall_mem_cons List.not_mem_nil forall_nil_i evalOps_nil and_fold andNot_fold implies_true imp_self_i false_imp_i evalOps_op evalOps_guard optK_some guardK_tt guardK_ff guardK_tf guardK_ft guardK_und opK fstep dstOf gv fitsN AS.app ins del insO insAll delAll initS argSlots ev pvConst pvCell fPick fBin fUn fEq fLen fMax fIndexAddr fIndex fFieldAddr fField fLoad fStore fAlloc fBox fBuild fFill fBuildSlice fMake fAppend fCopy fNilS rowOf chunks zeroRow outP TI.n TI.isAgg splice PV.cells PV.celled fExtract fNil fConv fConvB fCmp fEqA eqCells eqLeaf likeCells likeLeaf ofKinds ofKind fSlice optI asI stOf trAdd reach idOf named named.namedL inBlk restr writes Op.operands Call.operands List.flatMap_cons List.flatMap_nil List.contains_cons List.contains_nil BEq.rfl AS.get getPV lk Int.cast_ofNat_Int Int.natCast_one int_toNat_zero_i Nat.sub_zero Int.natCast_zero Int.zero_add decide_true decide_false Nat.le_refl Nat.zero_add Nat.add_zero or_true true_or or_false false_or if_true if_false true_and and_true and_self Bool.not_true Bool.not_false cond_true cond_false Bool.true_eq_false Bool.false_eq_true ne_eq not_false_eq_true not_true_eq_false Bool.and_true Bool.true_and Bool.and_false Bool.false_and Bool.or_true Bool.true_or Bool.or_false Bool.false_or List.isEmpty_nil List.map_cons List.map_nil List.length_cons List.length_nil List.length_map List.getD_cons_zero List.getD_cons_succ List.getD_nil List.getElem?_cons_zero List.getElem?_cons_succ List.getElem?_nil List.take_succ_cons List.take_zero List.take_nil List.drop_succ_cons List.drop_zero List.drop_nil List.nil_append List.cons_append List.append_nil Option.getD_some Option.getD_none Option.map_some Option.map_none Int.toNat_natCast T_1 T_2 T_3 T_4 T_5 T_6 T_7 T_8 T_9 T_10 T_11 T_12 T_13 T_14 T_15 T_16 T_17 T_18 T_19 T_21 T_22 T_23 T_24 T_25 T_26 T_27 T_28 T_29 T_30 T_31 T_33 T_34 T_36 T_37 T_38 T_39 T_40 T_41 T_42 T_43 T_44 T_45 T_46 T_47 T_48 T_49 T_50 T_51 T_52 T_53 T_54 T_55 T_56 T_57 T_59 T_60 T_61 T_62 T_63 T_64 T_65 T_66 T_68 T_69 T_70 T_72 T_73 T_75 T_76 T_77 T_78 T_79 T_80 T_81 T_82 T_83 T_84 T_85 T_86 T_87 T_88 T_89 List.forall_mem_append Int.natCast_add slotsLe storeLe PV.ren renL renG PV.ok okL Blk.ren Blk.ok distinct wk wkA wkAL wkC wkL wkB blkLe List.cons.injEq PV.int.injEq PV.bool.injEq endOk endOkP resVals joinRes view viewA viewC viewOk viewOkA viewOkC storeEnd PV.fz fzL argsV fCall argsOk argOk lentOk CallO.ren CallO.keep seenIds blksOk List.isEmpty_cons range_one_i Option.some.injEq Blk.box.injEq Blk.row.injEq AS.frz frzOkA frzOkC frzOkB frzA frzC frzB List.length_set Option.isSome_some
end Go.Proofs.YtihippjbbcpggaaFw

/-
  Walks: bytes.Equal, slices.Equal, the documents' Same and SameBytes.
-/
namespace Go.Proofs.YtihippjbbcpggaaFw
open Go Go.Proofs
set_option maxRecDepth 100000
set_option maxHeartbeats 4000000
set_option linter.unusedVariables false
set_option linter.unusedSimpArgs false

def encB (n : Int) : List PV := [.int .u8 n]
theorem encB_fz (n : Int) : ∀ c ∈ encB n, c.fz = true := by simp [encB, PV.fz]
def byte (n : Int) : Prop := 0 ≤ n ∧ n ≤ 255
theorem ba_loop (l : List UInt8) : ∀ (k i : Nat) (r : List UInt8), l.length - i = k → ByteArray.toList.loop ⟨l.toArray⟩ i r = r.reverse ++ l.drop i
  | 0, i, r, h => by
    unfold ByteArray.toList.loop
    have h1 : ¬ i < (⟨l.toArray⟩ : ByteArray).size := by show ¬ i < l.toArray.size; simp; omega
    rw [if_neg h1, List.drop_of_length_le (by omega), List.append_nil]
  | k + 1, i, r, h => by
    unfold ByteArray.toList.loop
    have hi : i < l.length := by omega
    have h1 : i < (⟨l.toArray⟩ : ByteArray).size := by show i < l.toArray.size; simpa using hi
    rw [if_pos h1, ba_loop l k (i + 1) _ (by omega), List.drop_eq_getElem_cons hi]
    have : (⟨l.toArray⟩ : ByteArray).get! i = l[i] := by
      show l.toArray[i]! = l[i]
      simp [hi]
    rw [this]; simp
theorem ba_toList (l : List UInt8) : (⟨l.toArray⟩ : ByteArray).toList = l := by
  unfold ByteArray.toList
  rw [ba_loop l l.length 0 [] (by omega)]; rfl
theorem u8_inj : ∀ (a b : List Int), (∀ x ∈ a, byte x) → (∀ x ∈ b, byte x) → (a.map encB).map leafByte = (b.map encB).map leafByte → a = b
  | [], [], _, _, _ => rfl
  | [], _ :: _, _, _, h => by simp at h
  | _ :: _, [], _, _, h => by simp at h
  | x :: a, y :: b, ha, hb, h => by
    simp only [List.map_cons, List.cons.injEq] at h
    have h1 := ha x (by simp)
    have h2 := hb y (by simp)
    have h3 := congrArg UInt8.toNat h.1
    simp only [leafByte, encB, UInt8.toNat_ofNat'] at h3
    unfold byte at h1 h2
    have : x = y := by omega
    rw [this, u8_inj a b (fun z hz => ha z (by simp [hz])) (fun z hz => hb z (by simp [hz])) h.2]
theorem bytes_eq {a b : List Int} (ha : ∀ x ∈ a, byte x) (hb : ∀ x ∈ b, byte x) : ((bytesOf (a.map encB)).toList == (bytesOf (b.map encB)).toList) = decide (a = b) := by
  unfold bytesOf
  rw [ba_toList, ba_toList]
  rw [Bool.eq_iff_iff]
  simp only [beq_iff_eq, decide_eq_true_eq]
  exact ⟨u8_inj a b ha hb, fun h => by rw [h]⟩
theorem isByte_enc (a : List Int) : ∀ e ∈ a.map encB, isByte e := by
  intro e he
  obtain ⟨x, _, rfl⟩ := List.mem_map.1 he
  trivial
theorem equal_ok (t t' : Bool) (a b : List Int) (ha : ∀ x ∈ a, byte x) (hb : ∀ x ∈ b, byte x) : FnS Try.prog 31 [.sl t 1 (a.map encB), .sl t' 1 (b.map encB)] [] (.bool (decide (a = b))) [] := by
  have he := bytes_eq ha hb
  refine fn_walk tabOk Try.func31 rfl (by decide +kernel) Try.ntmps31 Try.results31 (by simp) fun B hB => ?_
  try refine hK _ ?_
  repeat (first | refine awp_seq ?_ | refine awp_block ?_ | refine awp_skip ?_ | refine awp_scope ?_ | refine awp_label ?_)
  refine awp_region tabOk fun K hK => ?_
  simp -dsimp -implicitDefEqProofs only [push_cast, ↓trAdd_f, ↓stOf_f, seval]
  try refine hK _ ?_
  repeat (first | refine awp_seq ?_ | refine awp_block ?_ | refine awp_skip ?_ | refine awp_scope ?_ | refine awp_label ?_)
  refine awp_region tabOk fun K hK => ?_
  simp -dsimp -implicitDefEqProofs only [he, push_cast, ↓trAdd_f, ↓stOf_f, seval]
  refine ⟨isByte_enc a, isByte_enc b, hK _ (awp_ret ?_)⟩
  simp -dsimp -implicitDefEqProofs only [push_cast, List.mem_append, List.mem_cons, List.mem_singleton, forall_eq_or_imp, forall_eq, ↓trAdd_f, ↓stOf_f, seval]
theorem sameBytes_ok (t t' : Bool) (a b : List Int) (ha : ∀ x ∈ a, byte x) (hb : ∀ x ∈ b, byte x) : FnS Try.prog 21 [.sl t 1 (a.map encB), .sl t' 1 (b.map encB)] [] (.bool (decide (a = b))) [] := by
  have he := bytes_eq ha hb
  refine fn_walk tabOk Try.func21 rfl (by decide +kernel) Try.ntmps21 Try.results21 (by simp) fun B hB => ?_
  try refine hK _ ?_
  repeat (first | refine awp_seq ?_ | refine awp_block ?_ | refine awp_skip ?_ | refine awp_scope ?_ | refine awp_label ?_)
  refine awp_region tabOk fun K hK => ?_
  simp -dsimp -implicitDefEqProofs only [push_cast, ↓trAdd_f, ↓stOf_f, seval]
  try refine hK _ ?_
  repeat (first | refine awp_seq ?_ | refine awp_block ?_ | refine awp_skip ?_ | refine awp_scope ?_ | refine awp_label ?_)
  refine awp_region tabOk fun K hK => ?_
  simp -dsimp -implicitDefEqProofs only [he, push_cast, ↓trAdd_f, ↓stOf_f, seval]
  refine ⟨isByte_enc a, isByte_enc b, hK _ (awp_ret ?_)⟩
  simp -dsimp -implicitDefEqProofs only [push_cast, List.mem_append, List.mem_cons, List.mem_singleton, forall_eq_or_imp, forall_eq, ↓trAdd_f, ↓stOf_f, seval]
def encI (n : Int) : List PV := [.int .i64 n]
theorem encI_fz (n : Int) : ∀ c ∈ encI n, c.fz = true := by simp [encI, PV.fz]
theorem refSame_ok (t t' : Bool) (l m : List Int) (hn : l.length ≤ 2 ^ 40) : FnS Try.prog 33 [.sl t 1 (l.map encI), .sl t' 1 (m.map encI)] [] (.bool (decide (l = m))) [] := by
  refine fn_walk tabOk Try.func33 rfl (by decide +kernel) Try.ntmps33 Try.results33 (by simp) fun B hB => ?_
  try refine hK _ ?_
  repeat (first | refine awp_seq ?_ | refine awp_block ?_ | refine awp_skip ?_ | refine awp_scope ?_ | refine awp_label ?_)
  refine awp_region tabOk fun K hK => ?_
  simp -dsimp -implicitDefEqProofs only [push_cast, ↓trAdd_f, ↓stOf_f, seval]
  try refine hK _ ?_
  repeat (first | refine awp_seq ?_ | refine awp_block ?_ | refine awp_skip ?_ | refine awp_scope ?_ | refine awp_label ?_)
  refine awp_region tabOk fun K hK => ?_
  simp -dsimp -implicitDefEqProofs only [push_cast, ↓trAdd_f, ↓stOf_f, seval]
  try refine hK _ ?_
  repeat (first | refine awp_seq ?_ | refine awp_block ?_ | refine awp_skip ?_ | refine awp_scope ?_ | refine awp_label ?_)
  refine awp_cond (b := (l.length : Int) != m.length) (by simp -dsimp -implicitDefEqProofs only [push_cast, ↓trAdd_f, ↓stOf_f, seval]) (fun h => ?_) (fun h => ?_)
  · try refine hK _ ?_
    repeat (first | refine awp_seq ?_ | refine awp_block ?_ | refine awp_skip ?_ | refine awp_scope ?_ | refine awp_label ?_)
    refine awp_region tabOk fun K hK => ?_
    simp -dsimp -implicitDefEqProofs only [push_cast, ↓trAdd_f, ↓stOf_f, seval]
    refine hK _ (awp_ret ?_)
    have : l ≠ m := fun e => by subst e; simp at h
    simp -dsimp -implicitDefEqProofs only [this, decide_false, push_cast, List.mem_append, List.mem_cons, List.mem_singleton, forall_eq_or_imp, forall_eq, ↓trAdd_f, ↓stOf_f, seval]
  · have hlen : l.length = m.length := by simp at h; omega
    try refine hK _ ?_
    repeat (first | refine awp_seq ?_ | refine awp_block ?_ | refine awp_skip ?_ | refine awp_scope ?_ | refine awp_label ?_)
    refine awp_region tabOk fun K hK => ?_
    simp -dsimp -implicitDefEqProofs only [push_cast, ↓trAdd_f, ↓stOf_f, seval]
    refine hK _ (awp_block ?_)
    refine awp_for (fun k : Nat => { sl := [(0, .sl t 1 (l.map encI)), (1, .sl t' 1 (m.map encI)), (5, .int .i64 k)], st := [], nx := 0, n := 26 }) (fun k => k ≤ l.length ∧ l.take k = m.take k) (fun k => l.length - k) 0 ⟨Nat.zero_le _, rfl⟩ ?_ fun k hk => ?_
    · refine le_intro hB [] (by simp) (fun b _ => rfl) rfl ?_ ?_ rfl <;> simp -dsimp -implicitDefEqProofs only [push_cast, ↓trAdd_f, ↓stOf_f, seval]
    · try refine hK _ ?_
      repeat (first | refine awp_seq ?_ | refine awp_block ?_ | refine awp_skip ?_ | refine awp_scope ?_ | refine awp_label ?_)
      refine awp_region tabOk fun K hK => ?_
      simp -dsimp -implicitDefEqProofs only [push_cast, ↓trAdd_f, ↓stOf_f, seval]
      try refine hK _ ?_
      repeat (first | refine awp_seq ?_ | refine awp_block ?_ | refine awp_skip ?_ | refine awp_scope ?_ | refine awp_label ?_)
      refine awp_cond (b := decide ((k : Int) < l.length)) (by simp -dsimp -implicitDefEqProofs only [push_cast, ↓trAdd_f, ↓stOf_f, seval]) (fun h => ?_) (fun h => ?_)
      · have hlt : k < l.length := by simpa using h
        have hlt' : k < m.length := by omega
        try refine hK _ ?_
        repeat (first | refine awp_seq ?_ | refine awp_block ?_ | refine awp_skip ?_ | refine awp_scope ?_ | refine awp_label ?_)
        refine awp_draw tabOk (by kernel_rfl) (by kernel_rfl) fun K hK C hC => ?_
        simp -dsimp -implicitDefEqProofs only [hlt, hlt', getD_map, encI, push_cast, ↓trAdd_f, ↓stOf_f, seval]
        refine ⟨⟨by omega, by omega⟩, ⟨by omega, by omega⟩, hC _ (by kernel_rfl), ?_⟩
        try refine hK _ ?_
        repeat (first | refine awp_seq ?_ | refine awp_block ?_ | refine awp_skip ?_ | refine awp_scope ?_ | refine awp_label ?_)
        refine awp_cond (b := l[k] != m[k]) (by simp -dsimp -implicitDefEqProofs only [push_cast, ↓trAdd_f, ↓stOf_f, seval]) (fun h => ?_) (fun h => ?_)
        · try refine hK _ ?_
          repeat (first | refine awp_seq ?_ | refine awp_block ?_ | refine awp_skip ?_ | refine awp_scope ?_ | refine awp_label ?_)
          refine awp_region tabOk fun K hK => ?_
          simp -dsimp -implicitDefEqProofs only [push_cast, ↓trAdd_f, ↓stOf_f, seval]
          refine hK _ (awp_ret ?_)
          have hne : l[k] ≠ m[k] := by simpa using h
          have : l ≠ m := fun e => hne (by subst e; rfl)
          simp -dsimp -implicitDefEqProofs only [this, decide_false, push_cast, List.mem_append, List.mem_cons, List.mem_singleton, forall_eq_or_imp, forall_eq, ↓trAdd_f, ↓stOf_f, seval]
        · have he : l[k] = m[k] := by simpa using h
          try refine hK _ ?_
          repeat (first | refine awp_seq ?_ | refine awp_block ?_ | refine awp_skip ?_ | refine awp_scope ?_ | refine awp_label ?_)
          refine awp_region tabOk fun K hK => ?_
          simp -dsimp -implicitDefEqProofs only [push_cast, ↓trAdd_f, ↓stOf_f, seval]
          try simp (disch := omega) only [wrap_i64, wrap_u8, wrap_u16, wrap_u32]
          refine hK _ ⟨k + 1, ⟨hlt, ?_⟩, by omega, ?_⟩
          · rw [List.take_succ_eq_append_getElem hlt, List.take_succ_eq_append_getElem hlt', hk.2, he]
          refine le_intro hB [] (by simp) (fun b _ => rfl) rfl ?_ ?_ rfl <;> simp -dsimp -implicitDefEqProofs only [push_cast, ↓trAdd_f, ↓stOf_f, seval]
      · have he : k = l.length := by have := hk.1; simp at h; omega
        subst he
        refine awp_exit rfl ?_
        try refine hK _ ?_
        repeat (first | refine awp_seq ?_ | refine awp_block ?_ | refine awp_skip ?_ | refine awp_scope ?_ | refine awp_label ?_)
        refine awp_region tabOk fun K hK => ?_
        simp -dsimp -implicitDefEqProofs only [push_cast, ↓trAdd_f, ↓stOf_f, seval]
        refine hK _ (awp_ret ?_)
        have : l = m := by have := hk.2; rwa [List.take_length, hlen, List.take_length] at this
        simp -dsimp -implicitDefEqProofs only [this, decide_true, push_cast, List.mem_append, List.mem_cons, List.mem_singleton, forall_eq_or_imp, forall_eq, ↓trAdd_f, ↓stOf_f, seval]
theorem slicesEqual_ok (t t' : Bool) (l m : List Int) (hn : l.length ≤ 2 ^ 40) : FnS Try.prog 32 [.sl t 1 (l.map encI), .sl t' 1 (m.map encI)] [] (.bool (decide (l = m))) [] := by
  refine fn_walk tabOk Try.func32 rfl (by decide +kernel) Try.ntmps32 Try.results32 (by simp) fun B hB => ?_
  try refine hK _ ?_
  repeat (first | refine awp_seq ?_ | refine awp_block ?_ | refine awp_skip ?_ | refine awp_scope ?_ | refine awp_label ?_)
  refine awp_region tabOk fun K hK => ?_
  simp -dsimp -implicitDefEqProofs only [push_cast, ↓trAdd_f, ↓stOf_f, seval]
  try refine hK _ ?_
  repeat (first | refine awp_seq ?_ | refine awp_block ?_ | refine awp_skip ?_ | refine awp_scope ?_ | refine awp_label ?_)
  refine awp_region tabOk fun K hK => ?_
  simp -dsimp -implicitDefEqProofs only [push_cast, ↓trAdd_f, ↓stOf_f, seval]
  try refine hK _ ?_
  repeat (first | refine awp_seq ?_ | refine awp_block ?_ | refine awp_skip ?_ | refine awp_scope ?_ | refine awp_label ?_)
  refine awp_cond (b := (l.length : Int) != m.length) (by simp -dsimp -implicitDefEqProofs only [push_cast, ↓trAdd_f, ↓stOf_f, seval]) (fun h => ?_) (fun h => ?_)
  · try refine hK _ ?_
    repeat (first | refine awp_seq ?_ | refine awp_block ?_ | refine awp_skip ?_ | refine awp_scope ?_ | refine awp_label ?_)
    refine awp_region tabOk fun K hK => ?_
    simp -dsimp -implicitDefEqProofs only [push_cast, ↓trAdd_f, ↓stOf_f, seval]
    refine hK _ (awp_ret ?_)
    have : l ≠ m := fun e => by subst e; simp at h
    simp -dsimp -implicitDefEqProofs only [this, decide_false, push_cast, List.mem_append, List.mem_cons, List.mem_singleton, forall_eq_or_imp, forall_eq, ↓trAdd_f, ↓stOf_f, seval]
  · have hlen : l.length = m.length := by simp at h; omega
    try refine hK _ ?_
    repeat (first | refine awp_seq ?_ | refine awp_block ?_ | refine awp_skip ?_ | refine awp_scope ?_ | refine awp_label ?_)
    refine awp_region tabOk fun K hK => ?_
    simp -dsimp -implicitDefEqProofs only [push_cast, ↓trAdd_f, ↓stOf_f, seval]
    refine hK _ (awp_block ?_)
    refine awp_for (fun k : Nat => { sl := [(0, .sl t 1 (l.map encI)), (1, .sl t' 1 (m.map encI)), (12, .int .i64 l.length), (13, .int .i64 k)], st := [], nx := 0, n := 26 }) (fun k => k ≤ l.length ∧ l.take k = m.take k) (fun k => l.length - k) 0 ⟨Nat.zero_le _, rfl⟩ ?_ fun k hk => ?_
    · refine le_intro hB [] (by simp) (fun b _ => rfl) rfl ?_ ?_ rfl <;> simp -dsimp -implicitDefEqProofs only [push_cast, ↓trAdd_f, ↓stOf_f, seval]
    · try refine hK _ ?_
      repeat (first | refine awp_seq ?_ | refine awp_block ?_ | refine awp_skip ?_ | refine awp_scope ?_ | refine awp_label ?_)
      refine awp_region tabOk fun K hK => ?_
      simp -dsimp -implicitDefEqProofs only [push_cast, ↓trAdd_f, ↓stOf_f, seval]
      try refine hK _ ?_
      repeat (first | refine awp_seq ?_ | refine awp_block ?_ | refine awp_skip ?_ | refine awp_scope ?_ | refine awp_label ?_)
      refine awp_cond (b := decide ((k : Int) < l.length)) (by simp -dsimp -implicitDefEqProofs only [push_cast, ↓trAdd_f, ↓stOf_f, seval]) (fun h => ?_) (fun h => ?_)
      · have hlt : k < l.length := by simpa using h
        have hlt' : k < m.length := by omega
        try refine hK _ ?_
        repeat (first | refine awp_seq ?_ | refine awp_block ?_ | refine awp_skip ?_ | refine awp_scope ?_ | refine awp_label ?_)
        refine awp_region tabOk fun K hK => ?_
        simp -dsimp -implicitDefEqProofs only [push_cast, ↓trAdd_f, ↓stOf_f, seval]
        try refine hK _ ?_
        repeat (first | refine awp_seq ?_ | refine awp_block ?_ | refine awp_skip ?_ | refine awp_scope ?_ | refine awp_label ?_)
        refine awp_draw tabOk (by kernel_rfl) (by kernel_rfl) fun K hK C hC => ?_
        simp -dsimp -implicitDefEqProofs only [hlt, hlt', getD_map, encI, push_cast, ↓trAdd_f, ↓stOf_f, seval]
        refine ⟨⟨by omega, by omega⟩, ⟨by omega, by omega⟩, hC _ (by kernel_rfl), ?_⟩
        try refine hK _ ?_
        repeat (first | refine awp_seq ?_ | refine awp_block ?_ | refine awp_skip ?_ | refine awp_scope ?_ | refine awp_label ?_)
        refine awp_cond (b := l[k] != m[k]) (by simp -dsimp -implicitDefEqProofs only [push_cast, ↓trAdd_f, ↓stOf_f, seval]) (fun h => ?_) (fun h => ?_)
        · try refine hK _ ?_
          repeat (first | refine awp_seq ?_ | refine awp_block ?_ | refine awp_skip ?_ | refine awp_scope ?_ | refine awp_label ?_)
          refine awp_region tabOk fun K hK => ?_
          simp -dsimp -implicitDefEqProofs only [push_cast, ↓trAdd_f, ↓stOf_f, seval]
          refine hK _ (awp_ret ?_)
          have hne : l[k] ≠ m[k] := by simpa using h
          have : l ≠ m := fun e => hne (by subst e; rfl)
          simp -dsimp -implicitDefEqProofs only [this, decide_false, push_cast, List.mem_append, List.mem_cons, List.mem_singleton, forall_eq_or_imp, forall_eq, ↓trAdd_f, ↓stOf_f, seval]
        · have he : l[k] = m[k] := by simpa using h
          try refine hK _ ?_
          repeat (first | refine awp_seq ?_ | refine awp_block ?_ | refine awp_skip ?_ | refine awp_scope ?_ | refine awp_label ?_)
          refine awp_region tabOk fun K hK => ?_
          simp -dsimp -implicitDefEqProofs only [push_cast, ↓trAdd_f, ↓stOf_f, seval]
          try simp (disch := omega) only [wrap_i64, wrap_u8, wrap_u16, wrap_u32]
          refine hK _ ⟨k + 1, ⟨hlt, ?_⟩, by omega, ?_⟩
          · rw [List.take_succ_eq_append_getElem hlt, List.take_succ_eq_append_getElem hlt', hk.2, he]
          refine le_intro hB [] (by simp) (fun b _ => rfl) rfl ?_ ?_ rfl <;> simp -dsimp -implicitDefEqProofs only [push_cast, ↓trAdd_f, ↓stOf_f, seval]
      · have he : k = l.length := by have := hk.1; simp at h; omega
        subst he
        refine awp_exit rfl ?_
        try refine hK _ ?_
        repeat (first | refine awp_seq ?_ | refine awp_block ?_ | refine awp_skip ?_ | refine awp_scope ?_ | refine awp_label ?_)
        refine awp_region tabOk fun K hK => ?_
        simp -dsimp -implicitDefEqProofs only [push_cast, ↓trAdd_f, ↓stOf_f, seval]
        refine hK _ (awp_ret ?_)
        have : l = m := by have := hk.2; rwa [List.take_length, hlen, List.take_length] at this
        simp -dsimp -implicitDefEqProofs only [this, decide_true, push_cast, List.mem_append, List.mem_cons, List.mem_singleton, forall_eq_or_imp, forall_eq, ↓trAdd_f, ↓stOf_f, seval]
end Go.Proofs.YtihippjbbcpggaaFw

/-
  Walks: slices.Min, slices.Max.
-/
namespace Go.Proofs.YtihippjbbcpggaaFw
open Go Go.Proofs
set_option maxRecDepth 100000
set_option maxHeartbeats 4000000
set_option linter.unusedVariables false
set_option linter.unusedSimpArgs false

def foldF (g : Int → Int → Int) : List Int → Int
  | [] => 0
  | x :: l => l.foldl g x
theorem foldF_succ (g : Int → Int → Int) (l : List Int) (k : Nat) (h0 : 1 ≤ k) (h : k < l.length) : foldF g (l.take (k + 1)) = g (foldF g (l.take k)) l[k] := by
  match l, k, h0 with
  | [], _, _ => simp at h
  | x :: l, k + 1, _ =>
    have hk : k < l.length := by simpa using h
    rw [List.take_succ_cons, List.take_succ_cons]
    show (l.take (k + 1)).foldl g x = g ((l.take k).foldl g x) l[k]
    rw [List.take_succ_eq_append_getElem hk, List.foldl_append]; rfl
theorem foldF_one (g : Int → Int → Int) (l : List Int) (h : 0 < l.length) : foldF g (l.take 1) = l[0] := by
  match l with
  | [] => simp at h
  | x :: l => rfl
theorem min_ok (t : Bool) (l : List Int) (hl : l.length ≤ 2 ^ 40) (h1 : 1 ≤ l.length) : FnS Try.prog 26 [.sl t 1 (l.map encI)] [] (.int .i64 (foldF min l)) [] := by
  have hlt0 : 0 < l.length := h1
  refine fn_walk tabOk Try.func26 rfl (by decide +kernel) Try.ntmps26 Try.results26 (by simp) fun B hB => ?_
  try refine hK _ ?_
  repeat (first | refine awp_seq ?_ | refine awp_block ?_ | refine awp_skip ?_ | refine awp_scope ?_ | refine awp_label ?_)
  refine awp_region tabOk fun K hK => ?_
  simp -dsimp -implicitDefEqProofs only [push_cast, ↓trAdd_f, ↓stOf_f, seval]
  try refine hK _ ?_
  repeat (first | refine awp_seq ?_ | refine awp_block ?_ | refine awp_skip ?_ | refine awp_scope ?_ | refine awp_label ?_)
  refine awp_region tabOk fun K hK => ?_
  simp -dsimp -implicitDefEqProofs only [push_cast, ↓trAdd_f, ↓stOf_f, seval]
  try refine hK _ ?_
  repeat (first | refine awp_seq ?_ | refine awp_block ?_ | refine awp_skip ?_ | refine awp_scope ?_ | refine awp_label ?_)
  refine awp_cond (b := decide ((l.length : Int) < 1)) (by simp -dsimp -implicitDefEqProofs only [push_cast, ↓trAdd_f, ↓stOf_f, seval]) (fun h => ?_) (fun h => ?_)
  · simp at h; omega
  refine awp_skip ?_
  try refine hK _ ?_
  repeat (first | refine awp_seq ?_ | refine awp_block ?_ | refine awp_skip ?_ | refine awp_scope ?_ | refine awp_label ?_)
  refine awp_region tabOk fun K hK => ?_
  simp -dsimp -implicitDefEqProofs only [hlt0, getD_map, encI, push_cast, ↓trAdd_f, ↓stOf_f, seval]
  refine ⟨by omega, hK _ ?_⟩
  try refine hK _ ?_
  repeat (first | refine awp_seq ?_ | refine awp_block ?_ | refine awp_skip ?_ | refine awp_scope ?_ | refine awp_label ?_)
  refine awp_region tabOk fun K hK => ?_
  simp -dsimp -implicitDefEqProofs only [push_cast, ↓trAdd_f, ↓stOf_f, seval]
  refine hK _ (awp_block ?_)
  refine awp_for (fun k : Nat => { sl := [(0, .sl t 1 (l.map encI)), (3, .int .i64 (foldF min (l.take k))), (4, .int .i64 k)], st := [], nx := 0, n := 25 }) (fun k => 1 ≤ k ∧ k ≤ l.length) (fun k => l.length - k) 1 ⟨Nat.le_refl _, h1⟩ ?_ fun k hk => ?_
  · have e0 := foldF_one min l hlt0
    refine le_intro hB [] (by simp) (fun b _ => rfl) rfl ?_ ?_ rfl <;> simp -dsimp -implicitDefEqProofs only [e0, push_cast, ↓trAdd_f, ↓stOf_f, seval]
  try refine hK _ ?_
  repeat (first | refine awp_seq ?_ | refine awp_block ?_ | refine awp_skip ?_ | refine awp_scope ?_ | refine awp_label ?_)
  refine awp_region tabOk fun K hK => ?_
  simp -dsimp -implicitDefEqProofs only [push_cast, ↓trAdd_f, ↓stOf_f, seval]
  try refine hK _ ?_
  repeat (first | refine awp_seq ?_ | refine awp_block ?_ | refine awp_skip ?_ | refine awp_scope ?_ | refine awp_label ?_)
  refine awp_cond (b := decide ((k : Int) < l.length)) (by simp -dsimp -implicitDefEqProofs only [push_cast, ↓trAdd_f, ↓stOf_f, seval]) (fun h => ?_) (fun h => ?_)
  · have hlt : k < l.length := by simpa using h
    have hsucc := foldF_succ min l k hk.1 hlt
    try refine hK _ ?_
    repeat (first | refine awp_seq ?_ | refine awp_block ?_ | refine awp_skip ?_ | refine awp_scope ?_ | refine awp_label ?_)
    refine awp_region tabOk fun K hK => ?_
    simp -dsimp -implicitDefEqProofs only [hlt, getD_map, encI, push_cast, ↓trAdd_f, ↓stOf_f, seval]
    refine ⟨⟨by omega, by omega⟩, hK _ ?_⟩
    try refine hK _ ?_
    repeat (first | refine awp_seq ?_ | refine awp_block ?_ | refine awp_skip ?_ | refine awp_scope ?_ | refine awp_label ?_)
    refine awp_region tabOk fun K hK => ?_
    simp -dsimp -implicitDefEqProofs only [push_cast, ↓trAdd_f, ↓stOf_f, seval]
    try simp (disch := omega) only [wrap_i64, wrap_u8, wrap_u16, wrap_u32]
    refine hK _ ⟨k + 1, by omega, by omega, ?_⟩
    refine le_intro hB [] (by simp) (fun b _ => rfl) rfl ?_ ?_ rfl <;> simp -dsimp -implicitDefEqProofs only [hsucc, push_cast, ↓trAdd_f, ↓stOf_f, seval]
  have he : k = l.length := by simp at h; omega
  subst he
  rw [List.take_length]
  refine awp_exit rfl ?_
  try refine hK _ ?_
  repeat (first | refine awp_seq ?_ | refine awp_block ?_ | refine awp_skip ?_ | refine awp_scope ?_ | refine awp_label ?_)
  refine awp_region tabOk fun K hK => ?_
  simp -dsimp -implicitDefEqProofs only [push_cast, ↓trAdd_f, ↓stOf_f, seval]
  refine hK _ (awp_ret ?_)
  simp -dsimp -implicitDefEqProofs only [push_cast, List.mem_append, List.mem_cons, List.mem_singleton, forall_eq_or_imp, forall_eq, ↓trAdd_f, ↓stOf_f, seval]
theorem max_ok (t : Bool) (l : List Int) (hl : l.length ≤ 2 ^ 40) (h1 : 1 ≤ l.length) : FnS Try.prog 27 [.sl t 1 (l.map encI)] [] (.int .i64 (foldF max l)) [] := by
  have hlt0 : 0 < l.length := h1
  refine fn_walk tabOk Try.func27 rfl (by decide +kernel) Try.ntmps27 Try.results27 (by simp) fun B hB => ?_
  try refine hK _ ?_
  repeat (first | refine awp_seq ?_ | refine awp_block ?_ | refine awp_skip ?_ | refine awp_scope ?_ | refine awp_label ?_)
  refine awp_region tabOk fun K hK => ?_
  simp -dsimp -implicitDefEqProofs only [push_cast, ↓trAdd_f, ↓stOf_f, seval]
  try refine hK _ ?_
  repeat (first | refine awp_seq ?_ | refine awp_block ?_ | refine awp_skip ?_ | refine awp_scope ?_ | refine awp_label ?_)
  refine awp_region tabOk fun K hK => ?_
  simp -dsimp -implicitDefEqProofs only [push_cast, ↓trAdd_f, ↓stOf_f, seval]
  try refine hK _ ?_
  repeat (first | refine awp_seq ?_ | refine awp_block ?_ | refine awp_skip ?_ | refine awp_scope ?_ | refine awp_label ?_)
  refine awp_cond (b := decide ((l.length : Int) < 1)) (by simp -dsimp -implicitDefEqProofs only [push_cast, ↓trAdd_f, ↓stOf_f, seval]) (fun h => ?_) (fun h => ?_)
  · simp at h; omega
  refine awp_skip ?_
  try refine hK _ ?_
  repeat (first | refine awp_seq ?_ | refine awp_block ?_ | refine awp_skip ?_ | refine awp_scope ?_ | refine awp_label ?_)
  refine awp_region tabOk fun K hK => ?_
  simp -dsimp -implicitDefEqProofs only [hlt0, getD_map, encI, push_cast, ↓trAdd_f, ↓stOf_f, seval]
  refine ⟨by omega, hK _ ?_⟩
  try refine hK _ ?_
  repeat (first | refine awp_seq ?_ | refine awp_block ?_ | refine awp_skip ?_ | refine awp_scope ?_ | refine awp_label ?_)
  refine awp_region tabOk fun K hK => ?_
  simp -dsimp -implicitDefEqProofs only [push_cast, ↓trAdd_f, ↓stOf_f, seval]
  refine hK _ (awp_block ?_)
  refine awp_for (fun k : Nat => { sl := [(0, .sl t 1 (l.map encI)), (3, .int .i64 (foldF max (l.take k))), (4, .int .i64 k)], st := [], nx := 0, n := 25 }) (fun k => 1 ≤ k ∧ k ≤ l.length) (fun k => l.length - k) 1 ⟨Nat.le_refl _, h1⟩ ?_ fun k hk => ?_
  · have e0 := foldF_one max l hlt0
    refine le_intro hB [] (by simp) (fun b _ => rfl) rfl ?_ ?_ rfl <;> simp -dsimp -implicitDefEqProofs only [e0, push_cast, ↓trAdd_f, ↓stOf_f, seval]
  try refine hK _ ?_
  repeat (first | refine awp_seq ?_ | refine awp_block ?_ | refine awp_skip ?_ | refine awp_scope ?_ | refine awp_label ?_)
  refine awp_region tabOk fun K hK => ?_
  simp -dsimp -implicitDefEqProofs only [push_cast, ↓trAdd_f, ↓stOf_f, seval]
  try refine hK _ ?_
  repeat (first | refine awp_seq ?_ | refine awp_block ?_ | refine awp_skip ?_ | refine awp_scope ?_ | refine awp_label ?_)
  refine awp_cond (b := decide ((k : Int) < l.length)) (by simp -dsimp -implicitDefEqProofs only [push_cast, ↓trAdd_f, ↓stOf_f, seval]) (fun h => ?_) (fun h => ?_)
  · have hlt : k < l.length := by simpa using h
    have hsucc := foldF_succ max l k hk.1 hlt
    try refine hK _ ?_
    repeat (first | refine awp_seq ?_ | refine awp_block ?_ | refine awp_skip ?_ | refine awp_scope ?_ | refine awp_label ?_)
    refine awp_region tabOk fun K hK => ?_
    simp -dsimp -implicitDefEqProofs only [hlt, getD_map, encI, push_cast, ↓trAdd_f, ↓stOf_f, seval]
    refine ⟨⟨by omega, by omega⟩, hK _ ?_⟩
    try refine hK _ ?_
    repeat (first | refine awp_seq ?_ | refine awp_block ?_ | refine awp_skip ?_ | refine awp_scope ?_ | refine awp_label ?_)
    refine awp_region tabOk fun K hK => ?_
    simp -dsimp -implicitDefEqProofs only [push_cast, ↓trAdd_f, ↓stOf_f, seval]
    try simp (disch := omega) only [wrap_i64, wrap_u8, wrap_u16, wrap_u32]
    refine hK _ ⟨k + 1, by omega, by omega, ?_⟩
    refine le_intro hB [] (by simp) (fun b _ => rfl) rfl ?_ ?_ rfl <;> simp -dsimp -implicitDefEqProofs only [hsucc, push_cast, ↓trAdd_f, ↓stOf_f, seval]
  have he : k = l.length := by simp at h; omega
  subst he
  rw [List.take_length]
  refine awp_exit rfl ?_
  try refine hK _ ?_
  repeat (first | refine awp_seq ?_ | refine awp_block ?_ | refine awp_skip ?_ | refine awp_scope ?_ | refine awp_label ?_)
  refine awp_region tabOk fun K hK => ?_
  simp -dsimp -implicitDefEqProofs only [push_cast, ↓trAdd_f, ↓stOf_f, seval]
  refine hK _ (awp_ret ?_)
  simp -dsimp -implicitDefEqProofs only [push_cast, List.mem_append, List.mem_cons, List.mem_singleton, forall_eq_or_imp, forall_eq, ↓trAdd_f, ↓stOf_f, seval]
end Go.Proofs.YtihippjbbcpggaaFw

/-
  Walks: flash.Right's function, slices.IndexFunc and ContainsFunc of it.
-/
namespace Go.Proofs.YtihippjbbcpggaaFw
open Go Go.Proofs
set_option maxRecDepth 100000
set_option maxHeartbeats 4000000
set_option linter.unusedVariables false
set_option linter.unusedSimpArgs false

def encP (p : List Int) : List PV := [.sl false 1 (p.map encB)]
def badFrom : List (List Int) → Nat → Int
  | [], _ => -1
  | p :: ps, k => if p.length = 64 then badFrom ps (k + 1) else k
theorem badFrom_neg : ∀ (ps : List (List Int)) (k : Nat), (badFrom ps k < 0 ↔ ∀ p ∈ ps, p.length = 64)
  | [], k => by simp [badFrom]
  | p :: ps, k => by
    unfold badFrom
    by_cases h : p.length = 64
    · rw [if_pos h, badFrom_neg ps (k + 1)]; simp [h]
    · rw [if_neg h]; simp [h]
theorem notBlock_ok (t : Bool) (p : List Int) : FnS Try.prog 29 [.sl t 1 (p.map encB)] [] (.bool ((p.length : Int) != 64)) [] := by
  refine fn_walk tabOk Try.func29 rfl (by decide +kernel) Try.ntmps29 Try.results29 (by simp) fun B hB => ?_
  try refine hK _ ?_
  repeat (first | refine awp_seq ?_ | refine awp_block ?_ | refine awp_skip ?_ | refine awp_scope ?_ | refine awp_label ?_)
  refine awp_region tabOk fun K hK => ?_
  simp -dsimp -implicitDefEqProofs only [push_cast, ↓trAdd_f, ↓stOf_f, seval]
  try refine hK _ ?_
  repeat (first | refine awp_seq ?_ | refine awp_block ?_ | refine awp_skip ?_ | refine awp_scope ?_ | refine awp_label ?_)
  refine awp_region tabOk fun K hK => ?_
  simp -dsimp -implicitDefEqProofs only [push_cast, ↓trAdd_f, ↓stOf_f, seval]
  refine hK _ (awp_ret ?_)
  simp -dsimp -implicitDefEqProofs only [push_cast, List.mem_append, List.mem_cons, List.mem_singleton, forall_eq_or_imp, forall_eq, ↓trAdd_f, ↓stOf_f, seval]
theorem indexBad_ok (t : Bool) (ps : List (List Int)) (hl : ps.length ≤ 2 ^ 40) : FnS Try.prog 47 [.sl t 1 (ps.map encP), .fn (.func 29) [] []] [] (.int .i64 (badFrom ps 0)) [] := by
  refine fn_walk tabOk Try.func47 rfl (by decide +kernel) Try.ntmps47 Try.results47 (by simp) fun B hB => ?_
  try refine hK _ ?_
  repeat (first | refine awp_seq ?_ | refine awp_block ?_ | refine awp_skip ?_ | refine awp_scope ?_ | refine awp_label ?_)
  refine awp_region tabOk fun K hK => ?_
  simp -dsimp -implicitDefEqProofs only [push_cast, ↓trAdd_f, ↓stOf_f, seval]
  try refine hK _ ?_
  repeat (first | refine awp_seq ?_ | refine awp_block ?_ | refine awp_skip ?_ | refine awp_scope ?_ | refine awp_label ?_)
  refine awp_region tabOk fun K hK => ?_
  simp -dsimp -implicitDefEqProofs only [push_cast, ↓trAdd_f, ↓stOf_f, seval]
  refine hK _ (awp_block ?_)
  refine awp_for (fun k : Nat => { sl := [(0, .sl t 1 (ps.map encP)), (1, .fn (.func 29) [] []), (7, .int .i64 ps.length), (8, .int .i64 k)], st := [], nx := 0, n := 19 }) (fun k => k ≤ ps.length ∧ badFrom (ps.drop k) k = badFrom ps 0) (fun k => ps.length - k) 0 ⟨Nat.zero_le _, rfl⟩ ?_ fun k hk => ?_
  · refine le_intro hB [] (by simp) (fun b _ => rfl) rfl ?_ ?_ rfl <;> simp -dsimp -implicitDefEqProofs only [push_cast, ↓trAdd_f, ↓stOf_f, seval]
  obtain ⟨hk, hb⟩ := hk
  try refine hK _ ?_
  repeat (first | refine awp_seq ?_ | refine awp_block ?_ | refine awp_skip ?_ | refine awp_scope ?_ | refine awp_label ?_)
  refine awp_region tabOk fun K hK => ?_
  simp -dsimp -implicitDefEqProofs only [push_cast, ↓trAdd_f, ↓stOf_f, seval]
  try refine hK _ ?_
  repeat (first | refine awp_seq ?_ | refine awp_block ?_ | refine awp_skip ?_ | refine awp_scope ?_ | refine awp_label ?_)
  refine awp_cond (b := decide ((k : Int) < ps.length)) (by simp -dsimp -implicitDefEqProofs only [push_cast, ↓trAdd_f, ↓stOf_f, seval]) (fun h => ?_) (fun h => ?_)
  · have hlt : k < ps.length := by simpa using h
    rw [List.drop_eq_getElem_cons hlt] at hb
    try refine hK _ ?_
    repeat (first | refine awp_seq ?_ | refine awp_block ?_ | refine awp_skip ?_ | refine awp_scope ?_ | refine awp_label ?_)
    refine awp_region tabOk fun K hK => ?_
    simp -dsimp -implicitDefEqProofs only [push_cast, ↓trAdd_f, ↓stOf_f, seval]
    try refine hK _ ?_
    repeat (first | refine awp_seq ?_ | refine awp_block ?_ | refine awp_skip ?_ | refine awp_scope ?_ | refine awp_label ?_)
    refine awp_region tabOk fun K hK => ?_
    simp -dsimp -implicitDefEqProofs only [hlt, getD_map, encP, push_cast, ↓trAdd_f, ↓stOf_f, seval]
    refine ⟨⟨by omega, by omega⟩, ?_⟩
    refine callK_simple (notBlock_ok false ps[k]) ?_ rfl fun _ => ?_
    · simp -dsimp -implicitDefEqProofs only [push_cast, List.mem_append, List.mem_cons, List.mem_singleton, forall_eq_or_imp, forall_eq, ↓trAdd_f, ↓stOf_f, seval]
    simp -dsimp -implicitDefEqProofs only [push_cast, ↓trAdd_f, ↓stOf_f, seval]
    try refine hK _ ?_
    repeat (first | refine awp_seq ?_ | refine awp_block ?_ | refine awp_skip ?_ | refine awp_scope ?_ | refine awp_label ?_)
    refine awp_cond (b := (ps[k].length : Int) != 64) (by simp -dsimp -implicitDefEqProofs only [push_cast, ↓trAdd_f, ↓stOf_f, seval]) (fun h => ?_) (fun h => ?_)
    · have hne : ps[k].length ≠ 64 := by simp at h; omega
      have e : badFrom ps 0 = k := by rw [← hb]; unfold badFrom; rw [if_neg hne]
      try refine hK _ ?_
      repeat (first | refine awp_seq ?_ | refine awp_block ?_ | refine awp_skip ?_ | refine awp_scope ?_ | refine awp_label ?_)
      refine awp_region tabOk fun K hK => ?_
      simp -dsimp -implicitDefEqProofs only [push_cast, ↓trAdd_f, ↓stOf_f, seval]
      refine hK _ (awp_ret ?_)
      rw [e]
      simp -dsimp -implicitDefEqProofs only [push_cast, List.mem_append, List.mem_cons, List.mem_singleton, forall_eq_or_imp, forall_eq, ↓trAdd_f, ↓stOf_f, seval]
    have he : ps[k].length = 64 := by simp at h; omega
    refine awp_skip ?_
    try refine hK _ ?_
    repeat (first | refine awp_seq ?_ | refine awp_block ?_ | refine awp_skip ?_ | refine awp_scope ?_ | refine awp_label ?_)
    refine awp_region tabOk fun K hK => ?_
    simp -dsimp -implicitDefEqProofs only [push_cast, ↓trAdd_f, ↓stOf_f, seval]
    try simp (disch := omega) only [wrap_i64, wrap_u8, wrap_u16, wrap_u32]
    refine hK _ ⟨k + 1, ⟨by omega, by rw [← hb]; conv => rhs; unfold badFrom; rw [if_pos he]⟩, by omega, ?_⟩
    refine le_intro hB [] (by simp) (fun b _ => rfl) rfl ?_ ?_ rfl <;> simp -dsimp -implicitDefEqProofs only [push_cast, ↓trAdd_f, ↓stOf_f, seval]
  have he : k = ps.length := by simp at h; omega
  subst he
  rw [List.drop_length] at hb
  refine awp_exit rfl ?_
  try refine hK _ ?_
  repeat (first | refine awp_seq ?_ | refine awp_block ?_ | refine awp_skip ?_ | refine awp_scope ?_ | refine awp_label ?_)
  refine awp_region tabOk fun K hK => ?_
  simp -dsimp -implicitDefEqProofs only [push_cast, ↓trAdd_f, ↓stOf_f, seval]
  refine hK _ (awp_ret ?_)
  rw [← hb]
  simp -dsimp -implicitDefEqProofs only [badFrom, push_cast, List.mem_append, List.mem_cons, List.mem_singleton, forall_eq_or_imp, forall_eq, ↓trAdd_f, ↓stOf_f, seval]
theorem containsBad_ok (t : Bool) (ps : List (List Int)) (hl : ps.length ≤ 2 ^ 40) : FnS Try.prog 28 [.sl t 1 (ps.map encP), .fn (.func 29) [] []] [] (.bool (decide (0 ≤ badFrom ps 0))) [] := by
  refine fn_walk tabOk Try.func28 rfl (by decide +kernel) Try.ntmps28 Try.results28 (by simp) fun B hB => ?_
  try refine hK _ ?_
  repeat (first | refine awp_seq ?_ | refine awp_block ?_ | refine awp_skip ?_ | refine awp_scope ?_ | refine awp_label ?_)
  refine awp_region tabOk fun K hK => ?_
  simp -dsimp -implicitDefEqProofs only [push_cast, ↓trAdd_f, ↓stOf_f, seval]
  try refine hK _ ?_
  repeat (first | refine awp_seq ?_ | refine awp_block ?_ | refine awp_skip ?_ | refine awp_scope ?_ | refine awp_label ?_)
  refine awp_region tabOk fun K hK => ?_
  simp -dsimp -implicitDefEqProofs only [push_cast, ↓trAdd_f, ↓stOf_f, seval]
  refine callK_simple (indexBad_ok t ps hl) ?_ rfl fun _ => ?_
  · simp -dsimp -implicitDefEqProofs only [push_cast, List.mem_append, List.mem_cons, List.mem_singleton, forall_eq_or_imp, forall_eq, ↓trAdd_f, ↓stOf_f, seval]
  simp -dsimp -implicitDefEqProofs only [push_cast, ↓trAdd_f, ↓stOf_f, seval]
  refine hK _ (awp_ret ?_)
  simp -dsimp -implicitDefEqProofs only [push_cast, List.mem_append, List.mem_cons, List.mem_singleton, forall_eq_or_imp, forall_eq, ↓trAdd_f, ↓stOf_f, seval]
end Go.Proofs.YtihippjbbcpggaaFw

/-
  Walks: both Rights of a flash.
-/
namespace Go.Proofs.YtihippjbbcpggaaFw
open Go Go.Proofs
set_option maxRecDepth 100000
set_option maxHeartbeats 4000000
set_option linter.unusedVariables false
set_option linter.unusedSimpArgs false

structure Flash where
  pages : List (List Int)
  wear : List Int
  left : Int
  down : Bool
def encFlash (f : Flash) : List PV := [.sl false 1 (f.pages.map encP), .sl false 1 (f.wear.map encI), .int .i64 f.left, .bool f.down]
structure Flash.ok (f : Flash) : Prop where
  n1 : 1 ≤ f.pages.length
  n80 : f.pages.length ≤ 80
  wear : f.wear.length = f.pages.length
  left : -1 ≤ f.left
  down : f.down = true → f.left = 0
  w0 : 0 ≤ foldF min f.wear
  w1 : foldF max f.wear ≤ 1099511627776
  block : ∀ p ∈ f.pages, p.length = 64
def badHead (f : Flash) : Bool := decide ((f.pages.length : Int) < 1) || decide (80 < (f.pages.length : Int)) || ((f.wear.length : Int) != f.pages.length) || decide (f.left < -1) || (f.down && (f.left != 0)) || decide (foldF min f.wear < 0) || decide (1099511627776 < foldF max f.wear)
def rightF (f : Flash) : Bool := !badHead f && !decide (0 ≤ badFrom f.pages 0)
theorem right_ok (f : Flash) (hl : f.pages.length ≤ 2 ^ 40) (hw : f.wear.length ≤ 2 ^ 40) : FnS Try.prog 11 [.agg (encFlash f)] [] (.bool (rightF f)) [] := by
  obtain ⟨ps, w, left, down⟩ := f
  simp only at hl hw
  refine fn_walk tabOk Try.func11 rfl (by decide +kernel) Try.ntmps11 Try.results11 (by simp) fun B hB => ?_
  try refine hK _ ?_
  repeat (first | refine awp_seq ?_ | refine awp_block ?_ | refine awp_skip ?_ | refine awp_scope ?_ | refine awp_label ?_)
  refine awp_region tabOk fun K hK => ?_
  simp -dsimp -implicitDefEqProofs only [encFlash, push_cast, ↓trAdd_f, ↓stOf_f, seval]
  try refine hK _ ?_
  repeat (first | refine awp_seq ?_ | refine awp_block ?_ | refine awp_skip ?_ | refine awp_scope ?_ | refine awp_label ?_)
  refine awp_region tabOk fun K hK => ?_
  simp -dsimp -implicitDefEqProofs only [push_cast, ↓trAdd_f, ↓stOf_f, seval]
  try refine hK _ ?_
  repeat (first | refine awp_seq ?_ | refine awp_block ?_ | refine awp_skip ?_ | refine awp_scope ?_ | refine awp_label ?_)
  refine awp_join ({ sl := [(1, .ptr 0 0), (45, .bool (badHead ⟨ps, w, left, down⟩))], st := [(0, .box [.sl false 1 (ps.map encP), .sl false 1 (w.map encI), .int .i64 left, .bool down])], nx := 8, n := 50 }) ?_ (fun _ hl h => awp_le hl h) ?_
  · cases h1 : decide ((ps.length : Int) < 1) <;> cases h2 : decide (80 < (ps.length : Int)) <;> cases h3 : ((w.length : Int) != ps.length) <;> cases h4 : decide (left < -1) <;> cases down <;> cases h5 : (left != 0)
    all_goals
      first
        | (have e : badHead ⟨ps, w, left, true⟩ = true := by simp only [badHead, h1, h2, h3, h4, h5]; rfl
           try refine hK _ ?_
           repeat (first | refine awp_seq ?_ | refine awp_block ?_ | refine awp_skip ?_ | refine awp_scope ?_ | refine awp_label ?_)
           refine awp_region tabOk fun K hK => ?_
           simp -dsimp -implicitDefEqProofs only [h1, h2, h3, h4, h5, push_cast, ↓trAdd_f, ↓stOf_f, seval]
           refine hK _ ?_
           refine le_intro hB [] (by simp) (fun b _ => rfl) rfl ?_ ?_ rfl <;> simp -dsimp -implicitDefEqProofs only [e, push_cast, ↓trAdd_f, ↓stOf_f, seval]
           done)
        | (have e : badHead ⟨ps, w, left, false⟩ = true := by simp only [badHead, h1, h2, h3, h4, h5]; rfl
           try refine hK _ ?_
           repeat (first | refine awp_seq ?_ | refine awp_block ?_ | refine awp_skip ?_ | refine awp_scope ?_ | refine awp_label ?_)
           refine awp_region tabOk fun K hK => ?_
           simp -dsimp -implicitDefEqProofs only [h1, h2, h3, h4, h5, push_cast, ↓trAdd_f, ↓stOf_f, seval]
           refine hK _ ?_
           refine le_intro hB [] (by simp) (fun b _ => rfl) rfl ?_ ?_ rfl <;> simp -dsimp -implicitDefEqProofs only [e, push_cast, ↓trAdd_f, ↓stOf_f, seval]
           done)
        | skip
    all_goals
      have hw1 : 1 ≤ w.length := by simp at h1 h3; omega
      try refine hK _ ?_
      repeat (first | refine awp_seq ?_ | refine awp_block ?_ | refine awp_skip ?_ | refine awp_scope ?_ | refine awp_label ?_)
      refine awp_region tabOk fun K hK => ?_
      simp -dsimp -implicitDefEqProofs only [h1, h2, h3, h4, h5, push_cast, ↓trAdd_f, ↓stOf_f, seval]
      refine callK_simple (min_ok false w hw hw1) ?_ rfl fun _ => ?_
      · simp -dsimp -implicitDefEqProofs only [push_cast, List.mem_append, List.mem_cons, List.mem_singleton, forall_eq_or_imp, forall_eq, ↓trAdd_f, ↓stOf_f, seval]
      cases h6 : decide (foldF min w < 0)
      · simp -dsimp -implicitDefEqProofs only [h6, push_cast, ↓trAdd_f, ↓stOf_f, seval]
        refine callK_simple (max_ok false w hw hw1) ?_ rfl fun _ => ?_
        · simp -dsimp -implicitDefEqProofs only [push_cast, List.mem_append, List.mem_cons, List.mem_singleton, forall_eq_or_imp, forall_eq, ↓trAdd_f, ↓stOf_f, seval]
        simp -dsimp -implicitDefEqProofs only [push_cast, ↓trAdd_f, ↓stOf_f, seval]
        refine hK _ ?_
        first
          | (have e : badHead ⟨ps, w, left, true⟩ = decide (1099511627776 < foldF max w) := by simp only [badHead, h1, h2, h3, h4, h5, h6]; rfl
             refine le_intro hB [] (by simp) (fun b _ => rfl) rfl ?_ ?_ rfl <;> simp -dsimp -implicitDefEqProofs only [e, push_cast, ↓trAdd_f, ↓stOf_f, seval]
             done)
          | (have e : badHead ⟨ps, w, left, false⟩ = decide (1099511627776 < foldF max w) := by simp only [badHead, h1, h2, h3, h4, h5, h6]; rfl
             refine le_intro hB [] (by simp) (fun b _ => rfl) rfl ?_ ?_ rfl <;> simp -dsimp -implicitDefEqProofs only [e, push_cast, ↓trAdd_f, ↓stOf_f, seval]
             done)
      · simp -dsimp -implicitDefEqProofs only [h6, push_cast, ↓trAdd_f, ↓stOf_f, seval]
        refine hK _ ?_
        first
          | (have e : badHead ⟨ps, w, left, true⟩ = true := by simp only [badHead, h1, h2, h3, h4, h5, h6]; rfl
             refine le_intro hB [] (by simp) (fun b _ => rfl) rfl ?_ ?_ rfl <;> simp -dsimp -implicitDefEqProofs only [e, push_cast, ↓trAdd_f, ↓stOf_f, seval]
             done)
          | (have e : badHead ⟨ps, w, left, false⟩ = true := by simp only [badHead, h1, h2, h3, h4, h5, h6]; rfl
             refine le_intro hB [] (by simp) (fun b _ => rfl) rfl ?_ ?_ rfl <;> simp -dsimp -implicitDefEqProofs only [e, push_cast, ↓trAdd_f, ↓stOf_f, seval]
             done)
  have hr : rightF ⟨ps, w, left, down⟩ = (!badHead ⟨ps, w, left, down⟩ && !decide (0 ≤ badFrom ps 0)) := rfl
  rw [hr]
  generalize badHead ⟨ps, w, left, down⟩ = bh
  try refine hK _ ?_
  repeat (first | refine awp_seq ?_ | refine awp_block ?_ | refine awp_skip ?_ | refine awp_scope ?_ | refine awp_label ?_)
  refine awp_cond (b := bh) (by simp -dsimp -implicitDefEqProofs only [push_cast, ↓trAdd_f, ↓stOf_f, seval]) (fun h => ?_) (fun h => ?_)
  · subst h
    try refine hK _ ?_
    repeat (first | refine awp_seq ?_ | refine awp_block ?_ | refine awp_skip ?_ | refine awp_scope ?_ | refine awp_label ?_)
    refine awp_region tabOk fun K hK => ?_
    simp -dsimp -implicitDefEqProofs only [push_cast, ↓trAdd_f, ↓stOf_f, seval]
    refine hK _ (awp_ret ?_)
    simp -dsimp -implicitDefEqProofs only [push_cast, List.mem_append, List.mem_cons, List.mem_singleton, forall_eq_or_imp, forall_eq, ↓trAdd_f, ↓stOf_f, seval]
  subst h
  refine awp_skip ?_
  try refine hK _ ?_
  repeat (first | refine awp_seq ?_ | refine awp_block ?_ | refine awp_skip ?_ | refine awp_scope ?_ | refine awp_label ?_)
  refine awp_region tabOk fun K hK => ?_
  simp -dsimp -implicitDefEqProofs only [push_cast, ↓trAdd_f, ↓stOf_f, seval]
  refine callK_simple (containsBad_ok false ps hl) ?_ rfl fun _ => ?_
  · simp -dsimp -implicitDefEqProofs only [push_cast, List.mem_append, List.mem_cons, List.mem_singleton, forall_eq_or_imp, forall_eq, ↓trAdd_f, ↓stOf_f, seval]
  simp -dsimp -implicitDefEqProofs only [push_cast, ↓trAdd_f, ↓stOf_f, seval]
  refine hK _ (awp_ret ?_)
  simp -dsimp -implicitDefEqProofs only [push_cast, List.mem_append, List.mem_cons, List.mem_singleton, forall_eq_or_imp, forall_eq, ↓trAdd_f, ↓stOf_f, seval]
end Go.Proofs.YtihippjbbcpggaaFw

/-
  Walks: both Powers.
-/
namespace Go.Proofs.YtihippjbbcpggaaFw
open Go Go.Proofs
set_option maxRecDepth 100000
set_option maxHeartbeats 4000000
set_option linter.unusedVariables false
set_option linter.unusedSimpArgs false

def powerF (f : Flash) (left : Int) : Flash := { f with left := left, down := false }
theorem power_ok (f : Flash) (left : Int) : FnS Try.prog 22 [.agg (encFlash f), .int .i64 left] [] (.agg (encFlash (powerF f left))) [] := by
  refine fn_walk tabOk Try.func22 rfl (by decide +kernel) Try.ntmps22 Try.results22 (by simp) fun B hB => ?_
  try refine hK _ ?_
  repeat (first | refine awp_seq ?_ | refine awp_block ?_ | refine awp_skip ?_ | refine awp_scope ?_ | refine awp_label ?_)
  refine awp_region tabOk fun K hK => ?_
  simp -dsimp -implicitDefEqProofs only [encFlash, push_cast, ↓trAdd_f, ↓stOf_f, seval]
  try refine hK _ ?_
  repeat (first | refine awp_seq ?_ | refine awp_block ?_ | refine awp_skip ?_ | refine awp_scope ?_ | refine awp_label ?_)
  refine awp_region tabOk fun K hK => ?_
  simp -dsimp -implicitDefEqProofs only [push_cast, ↓trAdd_f, ↓stOf_f, seval]
  try refine hK _ ?_
  repeat (first | refine awp_seq ?_ | refine awp_block ?_ | refine awp_skip ?_ | refine awp_scope ?_ | refine awp_label ?_)
  refine awp_region tabOk fun K hK => ?_
  simp -dsimp -implicitDefEqProofs only [push_cast, ↓trAdd_f, ↓stOf_f, seval]
  refine hK _ (awp_ret ?_)
  simp -dsimp -implicitDefEqProofs only [powerF, encFlash, push_cast, List.mem_append, List.mem_cons, List.mem_singleton, forall_eq_or_imp, forall_eq, ↓trAdd_f, ↓stOf_f, seval]
theorem refPower_ok (f : Flash) (left : Int) : FnS Try.prog 23 [.agg (encFlash f), .int .i64 left] [] (.agg (encFlash (powerF f left))) [] := by
  refine fn_walk tabOk Try.func23 rfl (by decide +kernel) Try.ntmps23 Try.results23 (by simp) fun B hB => ?_
  try refine hK _ ?_
  repeat (first | refine awp_seq ?_ | refine awp_block ?_ | refine awp_skip ?_ | refine awp_scope ?_ | refine awp_label ?_)
  refine awp_region tabOk fun K hK => ?_
  simp -dsimp -implicitDefEqProofs only [encFlash, push_cast, ↓trAdd_f, ↓stOf_f, seval]
  try refine hK _ ?_
  repeat (first | refine awp_seq ?_ | refine awp_block ?_ | refine awp_skip ?_ | refine awp_scope ?_ | refine awp_label ?_)
  refine awp_region tabOk fun K hK => ?_
  simp -dsimp -implicitDefEqProofs only [push_cast, ↓trAdd_f, ↓stOf_f, seval]
  try refine hK _ ?_
  repeat (first | refine awp_seq ?_ | refine awp_block ?_ | refine awp_skip ?_ | refine awp_scope ?_ | refine awp_label ?_)
  refine awp_region tabOk fun K hK => ?_
  simp -dsimp -implicitDefEqProofs only [push_cast, ↓trAdd_f, ↓stOf_f, seval]
  try refine hK _ ?_
  repeat (first | refine awp_seq ?_ | refine awp_block ?_ | refine awp_skip ?_ | refine awp_scope ?_ | refine awp_label ?_)
  refine awp_region tabOk fun K hK => ?_
  simp -dsimp -implicitDefEqProofs only [push_cast, ↓trAdd_f, ↓stOf_f, seval]
  refine hK _ (awp_ret ?_)
  simp -dsimp -implicitDefEqProofs only [powerF, encFlash, push_cast, List.mem_append, List.mem_cons, List.mem_singleton, forall_eq_or_imp, forall_eq, ↓trAdd_f, ↓stOf_f, seval]
end Go.Proofs.YtihippjbbcpggaaFw

/-
  Walks: Great, the document's Right, both Sames.
-/
namespace Go.Proofs.YtihippjbbcpggaaFw
open Go Go.Proofs
set_option maxRecDepth 100000
set_option maxHeartbeats 4000000
set_option linter.unusedVariables false
set_option linter.unusedSimpArgs false

def Flash.bytes (f : Flash) : Prop := ∀ p ∈ f.pages, ∀ x ∈ p, byte x
def sameF (f g : Flash) : Bool := decide (f.pages = g.pages) && (decide (f.wear = g.wear) && ((f.left == g.left) && (f.down == g.down)))
theorem pages_len_ne {α : Type} {l m : List α} (h : (l.length : Int) ≠ m.length) : l ≠ m := fun e => h (by rw [e])
theorem equalPages_ok (ps qs : List (List Int)) (hp : ∀ p ∈ ps, ∀ x ∈ p, byte x) (hq : ∀ p ∈ qs, ∀ x ∈ p, byte x) (hl : ps.length ≤ 2 ^ 40) :
    FnS Try.prog 30 [.sl false 1 (ps.map encP), .sl false 1 (qs.map encP), .fn (.func 31) [] []] [] (.bool (decide (ps = qs))) [] := by
  refine fn_walk tabOk Try.func30 rfl (by decide +kernel) Try.ntmps30 Try.results30 (by simp) fun B hB => ?_
  try refine hK _ ?_
  repeat (first | refine awp_seq ?_ | refine awp_block ?_ | refine awp_skip ?_ | refine awp_scope ?_ | refine awp_label ?_)
  refine awp_region tabOk fun K hK => ?_
  simp -dsimp -implicitDefEqProofs only [push_cast, ↓trAdd_f, ↓stOf_f, seval]
  try refine hK _ ?_
  repeat (first | refine awp_seq ?_ | refine awp_block ?_ | refine awp_skip ?_ | refine awp_scope ?_ | refine awp_label ?_)
  refine awp_region tabOk fun K hK => ?_
  simp -dsimp -implicitDefEqProofs only [push_cast, ↓trAdd_f, ↓stOf_f, seval]
  try refine hK _ ?_
  repeat (first | refine awp_seq ?_ | refine awp_block ?_ | refine awp_skip ?_ | refine awp_scope ?_ | refine awp_label ?_)
  refine awp_cond (b := (ps.length : Int) != qs.length) (by simp -dsimp -implicitDefEqProofs only [push_cast, ↓trAdd_f, ↓stOf_f, seval]) (fun h => ?_) (fun h => ?_)
  · try refine hK _ ?_
    repeat (first | refine awp_seq ?_ | refine awp_block ?_ | refine awp_skip ?_ | refine awp_scope ?_ | refine awp_label ?_)
    refine awp_region tabOk fun K hK => ?_
    simp -dsimp -implicitDefEqProofs only [push_cast, ↓trAdd_f, ↓stOf_f, seval]
    refine hK _ (awp_ret ?_)
    have : ps ≠ qs := pages_len_ne (by simpa using h)
    simp -dsimp -implicitDefEqProofs only [this, decide_false, push_cast, List.mem_append, List.mem_cons, List.mem_singleton, forall_eq_or_imp, forall_eq, ↓trAdd_f, ↓stOf_f, seval]
  have hlen : ps.length = qs.length := by simp at h; omega
  refine awp_skip ?_
  try refine hK _ ?_
  repeat (first | refine awp_seq ?_ | refine awp_block ?_ | refine awp_skip ?_ | refine awp_scope ?_ | refine awp_label ?_)
  refine awp_region tabOk fun K hK => ?_
  simp -dsimp -implicitDefEqProofs only [push_cast, ↓trAdd_f, ↓stOf_f, seval]
  refine hK _ (awp_block ?_)
  refine awp_for (fun k : Nat => { sl := [(0, .sl false 1 (ps.map encP)), (1, .sl false 1 (qs.map encP)), (2, .fn (.func 31) [] []), (15, .sl false 1 (ps.map encP)), (16, .int .i64 ps.length), (17, .int .i64 k)], st := [], nx := 0, n := 32 }) (fun k => k ≤ ps.length ∧ ps.take k = qs.take k) (fun k => ps.length - k) 0 ⟨Nat.zero_le _, rfl⟩ ?_ fun k hk => ?_
  · refine le_intro hB [] (by simp) (fun b _ => rfl) rfl ?_ ?_ rfl <;> simp -dsimp -implicitDefEqProofs only [push_cast, ↓trAdd_f, ↓stOf_f, seval]
  obtain ⟨hk, he⟩ := hk
  try refine hK _ ?_
  repeat (first | refine awp_seq ?_ | refine awp_block ?_ | refine awp_skip ?_ | refine awp_scope ?_ | refine awp_label ?_)
  refine awp_region tabOk fun K hK => ?_
  simp -dsimp -implicitDefEqProofs only [push_cast, ↓trAdd_f, ↓stOf_f, seval]
  try refine hK _ ?_
  repeat (first | refine awp_seq ?_ | refine awp_block ?_ | refine awp_skip ?_ | refine awp_scope ?_ | refine awp_label ?_)
  refine awp_cond (b := decide ((k : Int) < ps.length)) (by simp -dsimp -implicitDefEqProofs only [push_cast, ↓trAdd_f, ↓stOf_f, seval]) (fun h => ?_) (fun h => ?_)
  · have hlt : k < ps.length := by simpa using h
    have hlt' : k < qs.length := by omega
    try refine hK _ ?_
    repeat (first | refine awp_seq ?_ | refine awp_block ?_ | refine awp_skip ?_ | refine awp_scope ?_ | refine awp_label ?_)
    refine awp_region tabOk fun K hK => ?_
    simp -dsimp -implicitDefEqProofs only [hlt, hlt', getD_map, encP, push_cast, ↓trAdd_f, ↓stOf_f, seval]
    refine ⟨⟨by omega, by omega⟩, hK _ ?_⟩
    try refine hK _ ?_
    repeat (first | refine awp_seq ?_ | refine awp_block ?_ | refine awp_skip ?_ | refine awp_scope ?_ | refine awp_label ?_)
    refine awp_region tabOk fun K hK => ?_
    simp -dsimp -implicitDefEqProofs only [hlt, hlt', getD_map, encP, push_cast, ↓trAdd_f, ↓stOf_f, seval]
    refine ⟨⟨by omega, by omega⟩, hK _ ?_⟩
    try refine hK _ ?_
    repeat (first | refine awp_seq ?_ | refine awp_block ?_ | refine awp_skip ?_ | refine awp_scope ?_ | refine awp_label ?_)
    refine awp_region tabOk fun K hK => ?_
    simp -dsimp -implicitDefEqProofs only [push_cast, ↓trAdd_f, ↓stOf_f, seval]
    refine callK_simple (equal_ok false false ps[k] qs[k] (hp _ (List.getElem_mem hlt)) (hq _ (List.getElem_mem hlt'))) ?_ rfl fun _ => ?_
    · simp -dsimp -implicitDefEqProofs only [push_cast, List.mem_append, List.mem_cons, List.mem_singleton, forall_eq_or_imp, forall_eq, ↓trAdd_f, ↓stOf_f, seval]
    simp -dsimp -implicitDefEqProofs only [push_cast, ↓trAdd_f, ↓stOf_f, seval]
    try refine hK _ ?_
    repeat (first | refine awp_seq ?_ | refine awp_block ?_ | refine awp_skip ?_ | refine awp_scope ?_ | refine awp_label ?_)
    refine awp_cond (b := !decide (ps[k] = qs[k])) (by simp -dsimp -implicitDefEqProofs only [push_cast, ↓trAdd_f, ↓stOf_f, seval]) (fun h => ?_) (fun h => ?_)
    · try refine hK _ ?_
      repeat (first | refine awp_seq ?_ | refine awp_block ?_ | refine awp_skip ?_ | refine awp_scope ?_ | refine awp_label ?_)
      refine awp_region tabOk fun K hK => ?_
      simp -dsimp -implicitDefEqProofs only [push_cast, ↓trAdd_f, ↓stOf_f, seval]
      refine hK _ (awp_ret ?_)
      have hne : ps[k] ≠ qs[k] := by simpa using h
      have : ps ≠ qs := fun e => hne (by subst e; rfl)
      simp -dsimp -implicitDefEqProofs only [this, decide_false, push_cast, List.mem_append, List.mem_cons, List.mem_singleton, forall_eq_or_imp, forall_eq, ↓trAdd_f, ↓stOf_f, seval]
    have hee : ps[k] = qs[k] := by simpa using h
    refine awp_skip ?_
    try refine hK _ ?_
    repeat (first | refine awp_seq ?_ | refine awp_block ?_ | refine awp_skip ?_ | refine awp_scope ?_ | refine awp_label ?_)
    refine awp_region tabOk fun K hK => ?_
    simp -dsimp -implicitDefEqProofs only [push_cast, ↓trAdd_f, ↓stOf_f, seval]
    try simp (disch := omega) only [wrap_i64, wrap_u8, wrap_u16, wrap_u32]
    refine hK _ ⟨k + 1, ⟨hlt, ?_⟩, by omega, ?_⟩
    · rw [List.take_succ_eq_append_getElem hlt, List.take_succ_eq_append_getElem hlt', he, hee]
    refine le_intro hB [] (by simp) (fun b _ => rfl) rfl ?_ ?_ rfl <;> simp -dsimp -implicitDefEqProofs only [push_cast, ↓trAdd_f, ↓stOf_f, seval]
  have hke : k = ps.length := by simp at h; omega
  subst hke
  refine awp_exit rfl ?_
  try refine hK _ ?_
  repeat (first | refine awp_seq ?_ | refine awp_block ?_ | refine awp_skip ?_ | refine awp_scope ?_ | refine awp_label ?_)
  refine awp_region tabOk fun K hK => ?_
  simp -dsimp -implicitDefEqProofs only [push_cast, ↓trAdd_f, ↓stOf_f, seval]
  refine hK _ (awp_ret ?_)
  have : ps = qs := by rwa [List.take_length, hlen, List.take_length] at he
  simp -dsimp -implicitDefEqProofs only [this, decide_true, push_cast, List.mem_append, List.mem_cons, List.mem_singleton, forall_eq_or_imp, forall_eq, ↓trAdd_f, ↓stOf_f, seval]
theorem same_ok (f g : Flash) (hf : f.bytes) (hg : g.bytes) (h1 : f.pages.length ≤ 2 ^ 40) (h2 : f.wear.length ≤ 2 ^ 40) : FnS Try.prog 13 [.agg (encFlash f), .agg (encFlash g)] [] (.bool (sameF f g)) [] := by
  refine fn_walk tabOk Try.func13 rfl (by decide +kernel) Try.ntmps13 Try.results13 (by simp) fun B hB => ?_
  try refine hK _ ?_
  repeat (first | refine awp_seq ?_ | refine awp_block ?_ | refine awp_skip ?_ | refine awp_scope ?_ | refine awp_label ?_)
  refine awp_region tabOk fun K hK => ?_
  simp -dsimp -implicitDefEqProofs only [encFlash, push_cast, ↓trAdd_f, ↓stOf_f, seval]
  try refine hK _ ?_
  repeat (first | refine awp_seq ?_ | refine awp_block ?_ | refine awp_skip ?_ | refine awp_scope ?_ | refine awp_label ?_)
  refine awp_region tabOk fun K hK => ?_
  simp -dsimp -implicitDefEqProofs only [push_cast, ↓trAdd_f, ↓stOf_f, seval]
  refine callK_simple (equalPages_ok _ _ hf hg h1) ?_ rfl fun _ => ?_
  · simp -dsimp -implicitDefEqProofs only [push_cast, List.mem_append, List.mem_cons, List.mem_singleton, forall_eq_or_imp, forall_eq, ↓trAdd_f, ↓stOf_f, seval]
  cases hp : decide (f.pages = g.pages)
  · have e : sameF f g = false := by simp only [sameF, hp, Bool.false_and]
    simp -dsimp -implicitDefEqProofs only [push_cast, ↓trAdd_f, ↓stOf_f, seval]
    refine hK _ (awp_ret ?_)
    simp -dsimp -implicitDefEqProofs only [e, push_cast, List.mem_append, List.mem_cons, List.mem_singleton, forall_eq_or_imp, forall_eq, ↓trAdd_f, ↓stOf_f, seval]
  simp -dsimp -implicitDefEqProofs only [push_cast, ↓trAdd_f, ↓stOf_f, seval]
  refine callK_simple (slicesEqual_ok false false f.wear g.wear h2) ?_ rfl fun _ => ?_
  · simp -dsimp -implicitDefEqProofs only [push_cast, List.mem_append, List.mem_cons, List.mem_singleton, forall_eq_or_imp, forall_eq, ↓trAdd_f, ↓stOf_f, seval]
  cases hw : decide (f.wear = g.wear)
  · have e : sameF f g = false := by simp only [sameF, hp, hw, Bool.false_and, Bool.and_false]
    simp -dsimp -implicitDefEqProofs only [push_cast, ↓trAdd_f, ↓stOf_f, seval]
    refine hK _ (awp_ret ?_)
    simp -dsimp -implicitDefEqProofs only [e, push_cast, List.mem_append, List.mem_cons, List.mem_singleton, forall_eq_or_imp, forall_eq, ↓trAdd_f, ↓stOf_f, seval]
  simp -dsimp -implicitDefEqProofs only [push_cast, ↓trAdd_f, ↓stOf_f, seval]
  cases hl : f.left == g.left
  · have e : sameF f g = false := by simp only [sameF, hp, hw, hl, Bool.false_and, Bool.and_false]
    simp -dsimp -implicitDefEqProofs only [push_cast, ↓trAdd_f, ↓stOf_f, seval]
    refine hK _ (awp_ret ?_)
    simp -dsimp -implicitDefEqProofs only [e, push_cast, List.mem_append, List.mem_cons, List.mem_singleton, forall_eq_or_imp, forall_eq, ↓trAdd_f, ↓stOf_f, seval]
  simp -dsimp -implicitDefEqProofs only [push_cast, ↓trAdd_f, ↓stOf_f, seval]
  refine hK _ (awp_ret ?_)
  have e : sameF f g = (f.down == g.down) := by simp only [sameF, hp, hw, hl, Bool.true_and]
  simp -dsimp -implicitDefEqProofs only [e, push_cast, List.mem_append, List.mem_cons, List.mem_singleton, forall_eq_or_imp, forall_eq, ↓trAdd_f, ↓stOf_f, seval]
theorem sameRef_ok (f g : Flash) (hf : f.bytes) (hg : g.bytes) (h1 : f.pages.length ≤ 2 ^ 40) (h2 : f.wear.length ≤ 2 ^ 40) : FnS Try.prog 14 [.agg (encFlash f), .agg (encFlash g)] [] (.bool (sameF f g)) [] := by
  refine fn_walk tabOk Try.func14 rfl (by decide +kernel) Try.ntmps14 Try.results14 (by simp) fun B hB => ?_
  try refine hK _ ?_
  repeat (first | refine awp_seq ?_ | refine awp_block ?_ | refine awp_skip ?_ | refine awp_scope ?_ | refine awp_label ?_)
  refine awp_region tabOk fun K hK => ?_
  simp -dsimp -implicitDefEqProofs only [encFlash, push_cast, ↓trAdd_f, ↓stOf_f, seval]
  try refine hK _ ?_
  repeat (first | refine awp_seq ?_ | refine awp_block ?_ | refine awp_skip ?_ | refine awp_scope ?_ | refine awp_label ?_)
  refine awp_region tabOk fun K hK => ?_
  simp -dsimp -implicitDefEqProofs only [push_cast, ↓trAdd_f, ↓stOf_f, seval]
  cases hn : ((f.pages.length : Int) != g.pages.length)
  rotate_left
  · have hne : f.pages ≠ g.pages := pages_len_ne (by simpa using hn)
    have e : sameF f g = false := by simp [sameF, hne]
    simp -dsimp -implicitDefEqProofs only [push_cast, ↓trAdd_f, ↓stOf_f, seval]
    refine hK _ ?_
    try refine hK _ ?_
    repeat (first | refine awp_seq ?_ | refine awp_block ?_ | refine awp_skip ?_ | refine awp_scope ?_ | refine awp_label ?_)
    refine awp_cond (b := true) (by simp -dsimp -implicitDefEqProofs only [push_cast, ↓trAdd_f, ↓stOf_f, seval]) (fun h => ?_) (fun h => ?_)
    · try refine hK _ ?_
      repeat (first | refine awp_seq ?_ | refine awp_block ?_ | refine awp_skip ?_ | refine awp_scope ?_ | refine awp_label ?_)
      refine awp_region tabOk fun K hK => ?_
      simp -dsimp -implicitDefEqProofs only [push_cast, ↓trAdd_f, ↓stOf_f, seval]
      refine hK _ (awp_ret ?_)
      simp -dsimp -implicitDefEqProofs only [e, push_cast, List.mem_append, List.mem_cons, List.mem_singleton, forall_eq_or_imp, forall_eq, ↓trAdd_f, ↓stOf_f, seval]
    · cases h
  have hlen : f.pages.length = g.pages.length := by simp at hn; omega
  simp -dsimp -implicitDefEqProofs only [push_cast, ↓trAdd_f, ↓stOf_f, seval]
  refine callK_simple (refSame_ok false false f.wear g.wear h2) ?_ rfl fun _ => ?_
  · simp -dsimp -implicitDefEqProofs only [push_cast, List.mem_append, List.mem_cons, List.mem_singleton, forall_eq_or_imp, forall_eq, ↓trAdd_f, ↓stOf_f, seval]
  cases hw : decide (f.wear = g.wear)
  · have e : sameF f g = false := by simp [sameF, hw]
    simp -dsimp -implicitDefEqProofs only [push_cast, ↓trAdd_f, ↓stOf_f, seval]
    refine hK _ ?_
    try refine hK _ ?_
    repeat (first | refine awp_seq ?_ | refine awp_block ?_ | refine awp_skip ?_ | refine awp_scope ?_ | refine awp_label ?_)
    refine awp_cond (b := true) (by simp -dsimp -implicitDefEqProofs only [push_cast, ↓trAdd_f, ↓stOf_f, seval]) (fun h => ?_) (fun h => ?_)
    · try refine hK _ ?_
      repeat (first | refine awp_seq ?_ | refine awp_block ?_ | refine awp_skip ?_ | refine awp_scope ?_ | refine awp_label ?_)
      refine awp_region tabOk fun K hK => ?_
      simp -dsimp -implicitDefEqProofs only [push_cast, ↓trAdd_f, ↓stOf_f, seval]
      refine hK _ (awp_ret ?_)
      simp -dsimp -implicitDefEqProofs only [e, push_cast, List.mem_append, List.mem_cons, List.mem_singleton, forall_eq_or_imp, forall_eq, ↓trAdd_f, ↓stOf_f, seval]
    · cases h
  simp -dsimp -implicitDefEqProofs only [push_cast, ↓trAdd_f, ↓stOf_f, seval]
  cases hl : f.left != g.left
  rotate_left
  · have e : sameF f g = false := by simp at hl; simp [sameF, hl]
    simp -dsimp -implicitDefEqProofs only [push_cast, ↓trAdd_f, ↓stOf_f, seval]
    refine hK _ ?_
    try refine hK _ ?_
    repeat (first | refine awp_seq ?_ | refine awp_block ?_ | refine awp_skip ?_ | refine awp_scope ?_ | refine awp_label ?_)
    refine awp_cond (b := true) (by simp -dsimp -implicitDefEqProofs only [push_cast, ↓trAdd_f, ↓stOf_f, seval]) (fun h => ?_) (fun h => ?_)
    · try refine hK _ ?_
      repeat (first | refine awp_seq ?_ | refine awp_block ?_ | refine awp_skip ?_ | refine awp_scope ?_ | refine awp_label ?_)
      refine awp_region tabOk fun K hK => ?_
      simp -dsimp -implicitDefEqProofs only [push_cast, ↓trAdd_f, ↓stOf_f, seval]
      refine hK _ (awp_ret ?_)
      simp -dsimp -implicitDefEqProofs only [e, push_cast, List.mem_append, List.mem_cons, List.mem_singleton, forall_eq_or_imp, forall_eq, ↓trAdd_f, ↓stOf_f, seval]
    · cases h
  simp -dsimp -implicitDefEqProofs only [push_cast, ↓trAdd_f, ↓stOf_f, seval]
  refine hK _ ?_
  try refine hK _ ?_
  repeat (first | refine awp_seq ?_ | refine awp_block ?_ | refine awp_skip ?_ | refine awp_scope ?_ | refine awp_label ?_)
  refine awp_cond (b := !(f.down == g.down)) (by simp -dsimp -implicitDefEqProofs only [push_cast, ↓trAdd_f, ↓stOf_f, seval]) (fun h => ?_) (fun h => ?_)
  · have e : sameF f g = false := by
      have h' : (f.down == g.down) = false := by cases hq : f.down <;> cases hr : g.down <;> simp_all
      simp [sameF, h']
    try refine hK _ ?_
    repeat (first | refine awp_seq ?_ | refine awp_block ?_ | refine awp_skip ?_ | refine awp_scope ?_ | refine awp_label ?_)
    refine awp_region tabOk fun K hK => ?_
    simp -dsimp -implicitDefEqProofs only [push_cast, ↓trAdd_f, ↓stOf_f, seval]
    refine hK _ (awp_ret ?_)
    simp -dsimp -implicitDefEqProofs only [e, push_cast, List.mem_append, List.mem_cons, List.mem_singleton, forall_eq_or_imp, forall_eq, ↓trAdd_f, ↓stOf_f, seval]
  have hd : f.down = g.down := by simpa using h
  have hl' : f.left = g.left := by simpa using hl
  refine awp_skip ?_
  try refine hK _ ?_
  repeat (first | refine awp_seq ?_ | refine awp_block ?_ | refine awp_skip ?_ | refine awp_scope ?_ | refine awp_label ?_)
  refine awp_region tabOk fun K hK => ?_
  simp -dsimp -implicitDefEqProofs only [push_cast, ↓trAdd_f, ↓stOf_f, seval]
  refine hK _ (awp_block ?_)
  refine awp_for (fun k : Nat => { sl := [(2, .ptr 0 0), (3, .ptr 1 0), (5, .int .i64 k)], st := [(0, .box (encFlash f)), (1, .box (encFlash g))], nx := 16, n := 54 }) (fun k => k ≤ f.pages.length ∧ f.pages.take k = g.pages.take k) (fun k => f.pages.length - k) 0 ⟨Nat.zero_le _, rfl⟩ ?_ fun k hk => ?_
  · refine le_intro hB [(1, 8)] (by simp) (fun b hb => absurd hb (Nat.not_lt_zero b)) rfl ?_ ?_ rfl <;> simp -dsimp -implicitDefEqProofs only [encFlash, push_cast, ↓trAdd_f, ↓stOf_f, seval]
  obtain ⟨hk, he⟩ := hk
  try refine hK _ ?_
  repeat (first | refine awp_seq ?_ | refine awp_block ?_ | refine awp_skip ?_ | refine awp_scope ?_ | refine awp_label ?_)
  refine awp_region tabOk fun K hK => ?_
  simp -dsimp -implicitDefEqProofs only [encFlash, push_cast, ↓trAdd_f, ↓stOf_f, seval]
  try refine hK _ ?_
  repeat (first | refine awp_seq ?_ | refine awp_block ?_ | refine awp_skip ?_ | refine awp_scope ?_ | refine awp_label ?_)
  refine awp_cond (b := decide ((k : Int) < f.pages.length)) (by simp -dsimp -implicitDefEqProofs only [push_cast, ↓trAdd_f, ↓stOf_f, seval]) (fun h => ?_) (fun h => ?_)
  · have hlt : k < f.pages.length := by simpa using h
    have hlt' : k < g.pages.length := by omega
    try refine hK _ ?_
    repeat (first | refine awp_seq ?_ | refine awp_block ?_ | refine awp_skip ?_ | refine awp_scope ?_ | refine awp_label ?_)
    refine awp_draw tabOk (by kernel_rfl) (by kernel_rfl) fun K hK C hC => ?_
    simp -dsimp -implicitDefEqProofs only [hlt, hlt', getD_map, encP, push_cast, ↓trAdd_f, ↓stOf_f, seval]
    refine ⟨⟨by omega, by omega⟩, ⟨by omega, by omega⟩, ?_⟩
    refine callK_simple (sameBytes_ok false false f.pages[k] g.pages[k] (hf _ (List.getElem_mem hlt)) (hg _ (List.getElem_mem hlt'))) ?_ rfl fun _ => ?_
    · simp -dsimp -implicitDefEqProofs only [push_cast, List.mem_append, List.mem_cons, List.mem_singleton, forall_eq_or_imp, forall_eq, ↓trAdd_f, ↓stOf_f, seval]
    simp -dsimp -implicitDefEqProofs only [push_cast, ↓trAdd_f, ↓stOf_f, seval]
    refine ⟨hC _ (by kernel_rfl), ?_⟩
    try refine hK _ ?_
    repeat (first | refine awp_seq ?_ | refine awp_block ?_ | refine awp_skip ?_ | refine awp_scope ?_ | refine awp_label ?_)
    refine awp_cond (b := !decide (f.pages[k] = g.pages[k])) (by simp -dsimp -implicitDefEqProofs only [push_cast, ↓trAdd_f, ↓stOf_f, seval]) (fun h => ?_) (fun h => ?_)
    · try refine hK _ ?_
      repeat (first | refine awp_seq ?_ | refine awp_block ?_ | refine awp_skip ?_ | refine awp_scope ?_ | refine awp_label ?_)
      refine awp_region tabOk fun K hK => ?_
      simp -dsimp -implicitDefEqProofs only [push_cast, ↓trAdd_f, ↓stOf_f, seval]
      refine hK _ (awp_ret ?_)
      have hne : f.pages[k] ≠ g.pages[k] := by simpa using h
      have hne2 : f.pages ≠ g.pages := fun e => hne (by simp [e])
      have e : sameF f g = false := by simp [sameF, hne2]
      simp -dsimp -implicitDefEqProofs only [e, push_cast, List.mem_append, List.mem_cons, List.mem_singleton, forall_eq_or_imp, forall_eq, ↓trAdd_f, ↓stOf_f, seval]
    have hee : f.pages[k] = g.pages[k] := by simpa using h
    refine awp_skip ?_
    try refine hK _ ?_
    repeat (first | refine awp_seq ?_ | refine awp_block ?_ | refine awp_skip ?_ | refine awp_scope ?_ | refine awp_label ?_)
    refine awp_region tabOk fun K hK => ?_
    simp -dsimp -implicitDefEqProofs only [push_cast, ↓trAdd_f, ↓stOf_f, seval]
    try simp (disch := omega) only [wrap_i64, wrap_u8, wrap_u16, wrap_u32]
    refine hK _ ⟨k + 1, ⟨hlt, ?_⟩, by omega, ?_⟩
    · rw [List.take_succ_eq_append_getElem hlt, List.take_succ_eq_append_getElem hlt', he, hee]
    refine le_intro hB [] (by simp) (fun b _ => rfl) rfl ?_ ?_ rfl <;> simp -dsimp -implicitDefEqProofs only [encFlash, push_cast, ↓trAdd_f, ↓stOf_f, seval]
  have hke : k = f.pages.length := by simp at h; omega
  subst hke
  refine awp_exit rfl ?_
  try refine hK _ ?_
  repeat (first | refine awp_seq ?_ | refine awp_block ?_ | refine awp_skip ?_ | refine awp_scope ?_ | refine awp_label ?_)
  refine awp_region tabOk fun K hK => ?_
  simp -dsimp -implicitDefEqProofs only [push_cast, ↓trAdd_f, ↓stOf_f, seval]
  refine hK _ (awp_ret ?_)
  have hpp : f.pages = g.pages := by rwa [List.take_length, hlen, List.take_length] at he
  have e : sameF f g = true := by simp at hw; simp [sameF, hpp, hw, hl', hd]
  simp -dsimp -implicitDefEqProofs only [e, push_cast, List.mem_append, List.mem_cons, List.mem_singleton, forall_eq_or_imp, forall_eq, ↓trAdd_f, ↓stOf_f, seval]
end Go.Proofs.YtihippjbbcpggaaFw

/-
  Walks: Great, the document's Right.
-/
namespace Go.Proofs.YtihippjbbcpggaaFw
open Go Go.Proofs
set_option maxRecDepth 100000
set_option maxHeartbeats 4000000
set_option linter.unusedVariables false
set_option linter.unusedSimpArgs false

theorem foldl_min (l : List Int) : ∀ a, (∀ x ∈ a :: l, l.foldl min a ≤ x) ∧ l.foldl min a ∈ a :: l := by
  induction l with
  | nil => intro a; simp
  | cons b l ih =>
    intro a
    obtain ⟨h1, h2⟩ := ih (min a b)
    have h3 := h1 (min a b) (by simp)
    refine ⟨fun x hx => ?_, ?_⟩
    · simp only [List.foldl_cons]
      rcases List.mem_cons.1 hx with rfl | hx
      · omega
      · rcases List.mem_cons.1 hx with rfl | hx
        · omega
        · exact h1 x (by simp [hx])
    · simp only [List.foldl_cons]
      rcases List.mem_cons.1 h2 with h2 | h2
      · rw [h2]
        by_cases hab : a ≤ b
        · rw [Int.min_eq_left hab]; simp
        · rw [Int.min_eq_right (by omega)]; simp
      · simp [h2]
theorem foldl_max (l : List Int) : ∀ a, (∀ x ∈ a :: l, x ≤ l.foldl max a) ∧ l.foldl max a ∈ a :: l := by
  induction l with
  | nil => intro a; simp
  | cons b l ih =>
    intro a
    obtain ⟨h1, h2⟩ := ih (max a b)
    have h3 := h1 (max a b) (by simp)
    refine ⟨fun x hx => ?_, ?_⟩
    · simp only [List.foldl_cons]
      rcases List.mem_cons.1 hx with rfl | hx
      · omega
      · rcases List.mem_cons.1 hx with rfl | hx
        · omega
        · exact h1 x (by simp [hx])
    · simp only [List.foldl_cons]
      rcases List.mem_cons.1 h2 with h2 | h2
      · rw [h2]
        by_cases hab : a ≤ b
        · rw [Int.max_eq_right hab]; simp
        · rw [Int.max_eq_left (by omega)]; simp
      · simp [h2]
theorem foldF_min (l : List Int) (h : 1 ≤ l.length) : 0 ≤ foldF min l ↔ ∀ x ∈ l, 0 ≤ x := by
  match l with
  | [] => simp at h
  | a :: l =>
    obtain ⟨h1, h2⟩ := foldl_min l a
    exact ⟨fun hh x hx => Int.le_trans hh (h1 x hx), fun hh => hh _ h2⟩
theorem foldF_max (l : List Int) (h : 1 ≤ l.length) (m : Int) : foldF max l ≤ m ↔ ∀ x ∈ l, x ≤ m := by
  match l with
  | [] => simp at h
  | a :: l =>
    obtain ⟨h1, h2⟩ := foldl_max l a
    exact ⟨fun hh x hx => Int.le_trans (h1 x hx) hh, fun hh => hh _ h2⟩
/-- The document's word of a flash that may be so. -/
structure Flash.good (f : Flash) : Prop where
  n1 : 1 ≤ f.pages.length
  n80 : f.pages.length ≤ 80
  wl : f.wear.length = f.pages.length
  left : -1 ≤ f.left
  down : f.down = true → f.left = 0
  wear : ∀ x ∈ f.wear, 0 ≤ x ∧ x ≤ 1099511627776
  block : ∀ p ∈ f.pages, p.length = 64
def headB (f : Flash) : Bool := decide ((f.pages.length : Int) < 1) || decide (80 < (f.pages.length : Int)) || ((f.wear.length : Int) != f.pages.length) || decide (f.left < -1) || (f.down && (f.left != 0))
theorem headB_iff (f : Flash) : headB f = false ↔ 1 ≤ f.pages.length ∧ f.pages.length ≤ 80 ∧ f.wear.length = f.pages.length ∧ -1 ≤ f.left ∧ (f.down = true → f.left = 0) := by
  unfold headB
  simp only [Bool.or_eq_false_iff, decide_eq_false_iff_not, bne_eq_false_iff_eq, Bool.and_eq_false_imp]
  constructor
  · rintro ⟨⟨⟨⟨h1, h2⟩, h3⟩, h4⟩, h5⟩
    exact ⟨by omega, by omega, by omega, by omega, h5⟩
  · rintro ⟨h1, h2, h3, h4, h5⟩
    exact ⟨⟨⟨⟨by omega, by omega⟩, by omega⟩, by omega⟩, h5⟩
theorem right_iff (f : Flash) : rightF f = true ↔ f.good := by
  have hb : badHead f = (headB f || decide (foldF min f.wear < 0) || decide (1099511627776 < foldF max f.wear)) := rfl
  unfold rightF
  rw [Bool.and_eq_true, Bool.not_eq_true', Bool.not_eq_true', hb]
  simp only [Bool.or_eq_false_iff, decide_eq_false_iff_not, headB_iff]
  have hneg := badFrom_neg f.pages 0
  constructor
  · rintro ⟨⟨⟨⟨h1, h2, h3, h4, h5⟩, h6⟩, h7⟩, h8⟩
    have hw : 1 ≤ f.wear.length := by omega
    have h6' := (foldF_min f.wear hw).1 (by omega)
    have h7' := (foldF_max f.wear hw 1099511627776).1 (by omega)
    exact ⟨h1, h2, h3, h4, h5, fun x hx => ⟨h6' x hx, h7' x hx⟩, hneg.1 (by omega)⟩
  · rintro ⟨h1, h2, h3, h4, h5, h6, h7⟩
    have hw : 1 ≤ f.wear.length := by omega
    have h6' := (foldF_min f.wear hw).2 fun x hx => (h6 x hx).1
    have h7' := (foldF_max f.wear hw 1099511627776).2 fun x hx => (h6 x hx).2
    have h8 := hneg.2 h7
    exact ⟨⟨⟨⟨h1, h2, h3, h4, h5⟩, by omega⟩, by omega⟩, by omega⟩
theorem rightF_false {f : Flash} (h : ¬ f.good) : rightF f = false := by
  cases e : rightF f with
  | false => rfl
  | true => exact (h ((right_iff f).1 e)).elim

theorem rightRef_ok (f : Flash) : FnS Try.prog 12 [.agg (encFlash f)] [] (.bool (rightF f)) [] := by
  refine fn_walk tabOk Try.func12 rfl (by decide +kernel) Try.ntmps12 Try.results12 (by simp) fun B hB => ?_
  try refine hK _ ?_
  repeat (first | refine awp_seq ?_ | refine awp_block ?_ | refine awp_skip ?_ | refine awp_scope ?_ | refine awp_label ?_)
  refine awp_region tabOk fun K hK => ?_
  simp -dsimp -implicitDefEqProofs only [encFlash, push_cast, ↓trAdd_f, ↓stOf_f, seval]
  try refine hK _ ?_
  repeat (first | refine awp_seq ?_ | refine awp_block ?_ | refine awp_skip ?_ | refine awp_scope ?_ | refine awp_label ?_)
  refine awp_join ({ sl := [(1, .ptr 0 0), (36, .bool (headB f))], st := [(0, .box (encFlash f))], nx := 8, n := 67 }) ?_ (fun _ hl h => awp_le hl h) ?_
  · try refine hK _ ?_
    repeat (first | refine awp_seq ?_ | refine awp_block ?_ | refine awp_skip ?_ | refine awp_scope ?_ | refine awp_label ?_)
    refine awp_region tabOk fun K hK => ?_
    simp -dsimp -implicitDefEqProofs only [push_cast, ↓trAdd_f, ↓stOf_f, seval]
    iterate 6 (all_goals (try (first | refine guardK_f (fun h => ?_) (fun h => ?_) <;> simp -dsimp -implicitDefEqProofs only [h, push_cast, ↓trAdd_f, ↓stOf_f, seval] | refine guardK_t (fun h => ?_) (fun h => ?_) <;> simp -dsimp -implicitDefEqProofs only [h, push_cast, ↓trAdd_f, ↓stOf_f, seval])))
    all_goals
      refine hK _ ?_
      refine le_intro hB [] (by simp) (fun b _ => rfl) rfl ?_ ?_ rfl <;> simp -dsimp -implicitDefEqProofs only [encFlash, headB, Bool.true_or, Bool.false_or, Bool.or_true, Bool.or_false, Bool.true_and, Bool.false_and, *, push_cast, ↓trAdd_f, ↓stOf_f, seval]
  try refine hK _ ?_
  repeat (first | refine awp_seq ?_ | refine awp_block ?_ | refine awp_skip ?_ | refine awp_scope ?_ | refine awp_label ?_)
  refine awp_cond (b := headB f) (by simp -dsimp -implicitDefEqProofs only [push_cast, ↓trAdd_f, ↓stOf_f, seval]) (fun h => ?_) (fun h => ?_)
  · have e : rightF f = false := rightF_false fun hg => by
      have := (headB_iff f).2 ⟨hg.n1, hg.n80, hg.wl, hg.left, hg.down⟩
      rw [h] at this; cases this
    try refine hK _ ?_
    repeat (first | refine awp_seq ?_ | refine awp_block ?_ | refine awp_skip ?_ | refine awp_scope ?_ | refine awp_label ?_)
    refine awp_region tabOk fun K hK => ?_
    simp -dsimp -implicitDefEqProofs only [push_cast, ↓trAdd_f, ↓stOf_f, seval]
    refine hK _ (awp_ret ?_)
    simp -dsimp -implicitDefEqProofs only [e, push_cast, List.mem_append, List.mem_cons, List.mem_singleton, forall_eq_or_imp, forall_eq, ↓trAdd_f, ↓stOf_f, seval]
  obtain ⟨g1, g2, g3, g4, g5⟩ := (headB_iff f).1 h
  refine awp_skip ?_
  try refine hK _ ?_
  repeat (first | refine awp_seq ?_ | refine awp_block ?_ | refine awp_skip ?_ | refine awp_scope ?_ | refine awp_label ?_)
  refine awp_region tabOk fun K hK => ?_
  simp -dsimp -implicitDefEqProofs only [push_cast, ↓trAdd_f, ↓stOf_f, seval]
  refine hK _ (awp_block ?_)
  refine awp_for (fun k : Nat => { sl := [(1, .ptr 0 0), (3, .int .i64 k)], st := [(0, .box (encFlash f))], nx := 8, n := 67 }) (fun k => k ≤ f.pages.length ∧ ∀ (i : Nat) (h1 : i < f.pages.length) (h2 : i < f.wear.length), i < k → f.pages[i].length = 64 ∧ 0 ≤ f.wear[i] ∧ f.wear[i] ≤ 1099511627776) (fun k => f.pages.length - k) 0 ⟨Nat.zero_le _, fun i _ _ hi => absurd hi (Nat.not_lt_zero i)⟩ ?_ fun k hk => ?_
  · refine le_intro hB [] (by simp) (fun b _ => rfl) rfl ?_ ?_ rfl <;> simp -dsimp -implicitDefEqProofs only [encFlash, push_cast, ↓trAdd_f, ↓stOf_f, seval]
  obtain ⟨hk, he⟩ := hk
  try refine hK _ ?_
  repeat (first | refine awp_seq ?_ | refine awp_block ?_ | refine awp_skip ?_ | refine awp_scope ?_ | refine awp_label ?_)
  refine awp_region tabOk fun K hK => ?_
  simp -dsimp -implicitDefEqProofs only [encFlash, push_cast, ↓trAdd_f, ↓stOf_f, seval]
  try refine hK _ ?_
  repeat (first | refine awp_seq ?_ | refine awp_block ?_ | refine awp_skip ?_ | refine awp_scope ?_ | refine awp_label ?_)
  refine awp_cond (b := decide ((k : Int) < f.pages.length)) (by simp -dsimp -implicitDefEqProofs only [push_cast, ↓trAdd_f, ↓stOf_f, seval]) (fun h => ?_) (fun h => ?_)
  · have hlt : k < f.pages.length := by simpa using h
    have hlt' : k < f.wear.length := by omega
    try refine hK _ ?_
    repeat (first | refine awp_seq ?_ | refine awp_block ?_ | refine awp_skip ?_ | refine awp_scope ?_ | refine awp_label ?_)
    refine awp_join ({ sl := [(1, .ptr 0 0), (3, .int .i64 k), (66, .bool (((f.pages[k].length : Int) != 64) || decide (f.wear[k] < 0) || decide (1099511627776 < f.wear[k])))], st := [(0, .box (encFlash f))], nx := 8, n := 67 }) ?_ (fun _ hl h => awp_le hl h) ?_
    · try refine hK _ ?_
      repeat (first | refine awp_seq ?_ | refine awp_block ?_ | refine awp_skip ?_ | refine awp_scope ?_ | refine awp_label ?_)
      refine awp_region tabOk fun K hK => ?_
      simp -dsimp -implicitDefEqProofs only [hlt, hlt', getD_map, encP, encI, push_cast, ↓trAdd_f, ↓stOf_f, seval]
      refine ⟨⟨by omega, by omega⟩, ?_⟩
      cases c1 : ((f.pages[k].length : Int) != 64)
      rotate_left
      · simp -dsimp -implicitDefEqProofs only [hlt, hlt', getD_map, encP, encI, push_cast, ↓trAdd_f, ↓stOf_f, seval]
        refine hK _ ?_
        refine le_intro hB [] (by simp) (fun b _ => rfl) rfl ?_ ?_ rfl <;> simp -dsimp -implicitDefEqProofs only [encFlash, Bool.true_or, c1, push_cast, ↓trAdd_f, ↓stOf_f, seval]
      simp -dsimp -implicitDefEqProofs only [hlt, hlt', getD_map, encP, encI, push_cast, ↓trAdd_f, ↓stOf_f, seval]
      refine ⟨⟨by omega, by omega⟩, ?_⟩
      cases c2 : decide (f.wear[k] < 0)
      rotate_left
      · simp -dsimp -implicitDefEqProofs only [hlt, hlt', getD_map, encP, encI, push_cast, ↓trAdd_f, ↓stOf_f, seval]
        refine hK _ ?_
        refine le_intro hB [] (by simp) (fun b _ => rfl) rfl ?_ ?_ rfl <;> simp -dsimp -implicitDefEqProofs only [encFlash, Bool.true_or, Bool.or_true, c1, c2, push_cast, ↓trAdd_f, ↓stOf_f, seval]
      simp -dsimp -implicitDefEqProofs only [hlt, hlt', getD_map, encP, encI, push_cast, ↓trAdd_f, ↓stOf_f, seval]
      refine ⟨⟨by omega, by omega⟩, hK _ ?_⟩
      refine le_intro hB [] (by simp) (fun b _ => rfl) rfl ?_ ?_ rfl <;> simp -dsimp -implicitDefEqProofs only [encFlash, Bool.false_or, c1, c2, push_cast, ↓trAdd_f, ↓stOf_f, seval]
    try refine hK _ ?_
    repeat (first | refine awp_seq ?_ | refine awp_block ?_ | refine awp_skip ?_ | refine awp_scope ?_ | refine awp_label ?_)
    refine awp_cond (b := (((f.pages[k].length : Int) != 64) || decide (f.wear[k] < 0) || decide (1099511627776 < f.wear[k]))) (by simp -dsimp -implicitDefEqProofs only [push_cast, ↓trAdd_f, ↓stOf_f, seval]) (fun h => ?_) (fun h => ?_)
    · have e : rightF f = false := rightF_false fun hg => by
        have b1 := hg.block _ (List.getElem_mem hlt)
        have b2 := hg.wear _ (List.getElem_mem hlt')
        simp at h; omega
      try refine hK _ ?_
      repeat (first | refine awp_seq ?_ | refine awp_block ?_ | refine awp_skip ?_ | refine awp_scope ?_ | refine awp_label ?_)
      refine awp_region tabOk fun K hK => ?_
      simp -dsimp -implicitDefEqProofs only [push_cast, ↓trAdd_f, ↓stOf_f, seval]
      refine hK _ (awp_ret ?_)
      simp -dsimp -implicitDefEqProofs only [e, push_cast, List.mem_append, List.mem_cons, List.mem_singleton, forall_eq_or_imp, forall_eq, ↓trAdd_f, ↓stOf_f, seval]
    refine awp_skip ?_
    try refine hK _ ?_
    repeat (first | refine awp_seq ?_ | refine awp_block ?_ | refine awp_skip ?_ | refine awp_scope ?_ | refine awp_label ?_)
    refine awp_region tabOk fun K hK => ?_
    simp -dsimp -implicitDefEqProofs only [push_cast, ↓trAdd_f, ↓stOf_f, seval]
    try simp (disch := omega) only [wrap_i64, wrap_u8, wrap_u16, wrap_u32]
    refine hK _ ⟨k + 1, ⟨hlt, fun i h1 h2 hi => ?_⟩, by omega, ?_⟩
    · by_cases hik : i = k
      · subst hik
        simp at h; omega
      · exact he i h1 h2 (by omega)
    refine le_intro hB [] (by simp) (fun b _ => rfl) rfl ?_ ?_ rfl <;> simp -dsimp -implicitDefEqProofs only [encFlash, push_cast, ↓trAdd_f, ↓stOf_f, seval]
  have hke : k = f.pages.length := by simp at h; omega
  subst hke
  refine awp_exit rfl ?_
  try refine hK _ ?_
  repeat (first | refine awp_seq ?_ | refine awp_block ?_ | refine awp_skip ?_ | refine awp_scope ?_ | refine awp_label ?_)
  refine awp_region tabOk fun K hK => ?_
  simp -dsimp -implicitDefEqProofs only [push_cast, ↓trAdd_f, ↓stOf_f, seval]
  refine hK _ (awp_ret ?_)
  have e : rightF f = true := (right_iff f).2 ⟨g1, g2, g3, g4, g5, fun x hx => by
      obtain ⟨i, hi, rfl⟩ := List.mem_iff_getElem.1 hx
      exact (he i (by omega) hi (by omega)).2, fun p hp => by
      obtain ⟨i, hi, rfl⟩ := List.mem_iff_getElem.1 hp
      exact (he i hi (by omega) hi).1⟩
  simp -dsimp -implicitDefEqProofs only [e, push_cast, List.mem_append, List.mem_cons, List.mem_singleton, forall_eq_or_imp, forall_eq, ↓trAdd_f, ↓stOf_f, seval]

def greatF (f : Flash) : Bool := decide (100 < (f.pages.length : Int)) || decide (100 < (f.wear.length : Int)) || f.pages.any fun p => decide (100 < (p.length : Int))
theorem great_ok (f : Flash) : FnS Try.prog 10 [.agg (encFlash f)] [] (.bool (greatF f)) [] := by
  refine fn_walk tabOk Try.func10 rfl (by decide +kernel) Try.ntmps10 Try.results10 (by simp) fun B hB => ?_
  try refine hK _ ?_
  repeat (first | refine awp_seq ?_ | refine awp_block ?_ | refine awp_skip ?_ | refine awp_scope ?_ | refine awp_label ?_)
  refine awp_region tabOk fun K hK => ?_
  simp -dsimp -implicitDefEqProofs only [encFlash, push_cast, ↓trAdd_f, ↓stOf_f, seval]
  try refine hK _ ?_
  repeat (first | refine awp_seq ?_ | refine awp_block ?_ | refine awp_skip ?_ | refine awp_scope ?_ | refine awp_label ?_)
  refine awp_join ({ sl := [(1, .ptr 0 0), (13, .bool (decide (100 < (f.pages.length : Int)) || decide (100 < (f.wear.length : Int))))], st := [(0, .box (encFlash f))], nx := 8, n := 28 }) ?_ (fun _ hl h => awp_le hl h) ?_
  · try refine hK _ ?_
    repeat (first | refine awp_seq ?_ | refine awp_block ?_ | refine awp_skip ?_ | refine awp_scope ?_ | refine awp_label ?_)
    refine awp_region tabOk fun K hK => ?_
    simp -dsimp -implicitDefEqProofs only [push_cast, ↓trAdd_f, ↓stOf_f, seval]
    iterate 2 (all_goals (try (first | refine guardK_f (fun h => ?_) (fun h => ?_) <;> simp -dsimp -implicitDefEqProofs only [h, push_cast, ↓trAdd_f, ↓stOf_f, seval] | refine guardK_t (fun h => ?_) (fun h => ?_) <;> simp -dsimp -implicitDefEqProofs only [h, push_cast, ↓trAdd_f, ↓stOf_f, seval])))
    all_goals
      refine hK _ ?_
      refine le_intro hB [] (by simp) (fun b _ => rfl) rfl ?_ ?_ rfl <;> simp -dsimp -implicitDefEqProofs only [encFlash, Bool.true_or, Bool.false_or, *, push_cast, ↓trAdd_f, ↓stOf_f, seval]
  have hg : greatF f = ((decide (100 < (f.pages.length : Int)) || decide (100 < (f.wear.length : Int))) || f.pages.any fun p => decide (100 < (p.length : Int))) := rfl
  rw [hg]
  try refine hK _ ?_
  repeat (first | refine awp_seq ?_ | refine awp_block ?_ | refine awp_skip ?_ | refine awp_scope ?_ | refine awp_label ?_)
  refine awp_cond (b := (decide (100 < (f.pages.length : Int)) || decide (100 < (f.wear.length : Int)))) (by simp -dsimp -implicitDefEqProofs only [push_cast, ↓trAdd_f, ↓stOf_f, seval]) (fun h => ?_) (fun h => ?_)
  · rw [h, Bool.true_or]
    try refine hK _ ?_
    repeat (first | refine awp_seq ?_ | refine awp_block ?_ | refine awp_skip ?_ | refine awp_scope ?_ | refine awp_label ?_)
    refine awp_region tabOk fun K hK => ?_
    simp -dsimp -implicitDefEqProofs only [push_cast, ↓trAdd_f, ↓stOf_f, seval]
    refine hK _ (awp_ret ?_)
    simp -dsimp -implicitDefEqProofs only [push_cast, List.mem_append, List.mem_cons, List.mem_singleton, forall_eq_or_imp, forall_eq, ↓trAdd_f, ↓stOf_f, seval]
  rw [h, Bool.false_or]
  have hl : f.pages.length ≤ 100 := by simp at h; omega
  refine awp_skip ?_
  try refine hK _ ?_
  repeat (first | refine awp_seq ?_ | refine awp_block ?_ | refine awp_skip ?_ | refine awp_scope ?_ | refine awp_label ?_)
  refine awp_region tabOk fun K hK => ?_
  simp -dsimp -implicitDefEqProofs only [push_cast, ↓trAdd_f, ↓stOf_f, seval]
  refine hK _ (awp_block ?_)
  refine awp_for (fun k : Nat => { sl := [(1, .ptr 0 0), (3, .int .i64 k)], st := [(0, .box (encFlash f))], nx := 8, n := 28 }) (fun k => k ≤ f.pages.length ∧ (f.pages.drop k).any (fun p => decide (100 < (p.length : Int))) = f.pages.any fun p => decide (100 < (p.length : Int))) (fun k => f.pages.length - k) 0 ⟨Nat.zero_le _, rfl⟩ ?_ fun k hk => ?_
  · refine le_intro hB [] (by simp) (fun b _ => rfl) rfl ?_ ?_ rfl <;> simp -dsimp -implicitDefEqProofs only [encFlash, push_cast, ↓trAdd_f, ↓stOf_f, seval]
  obtain ⟨hk, he⟩ := hk
  try refine hK _ ?_
  repeat (first | refine awp_seq ?_ | refine awp_block ?_ | refine awp_skip ?_ | refine awp_scope ?_ | refine awp_label ?_)
  refine awp_region tabOk fun K hK => ?_
  simp -dsimp -implicitDefEqProofs only [encFlash, push_cast, ↓trAdd_f, ↓stOf_f, seval]
  try refine hK _ ?_
  repeat (first | refine awp_seq ?_ | refine awp_block ?_ | refine awp_skip ?_ | refine awp_scope ?_ | refine awp_label ?_)
  refine awp_cond (b := decide ((k : Int) < f.pages.length)) (by simp -dsimp -implicitDefEqProofs only [push_cast, ↓trAdd_f, ↓stOf_f, seval]) (fun h => ?_) (fun h => ?_)
  · have hlt : k < f.pages.length := by simpa using h
    rw [List.drop_eq_getElem_cons hlt, List.any_cons] at he
    try refine hK _ ?_
    repeat (first | refine awp_seq ?_ | refine awp_block ?_ | refine awp_skip ?_ | refine awp_scope ?_ | refine awp_label ?_)
    refine awp_region tabOk fun K hK => ?_
    simp -dsimp -implicitDefEqProofs only [hlt, getD_map, encP, push_cast, ↓trAdd_f, ↓stOf_f, seval]
    refine ⟨⟨by omega, by omega⟩, ?_⟩
    try refine hK _ ?_
    repeat (first | refine awp_seq ?_ | refine awp_block ?_ | refine awp_skip ?_ | refine awp_scope ?_ | refine awp_label ?_)
    refine awp_cond (b := decide (100 < (f.pages[k].length : Int))) (by simp -dsimp -implicitDefEqProofs only [push_cast, ↓trAdd_f, ↓stOf_f, seval]) (fun h => ?_) (fun h => ?_)
    · rw [h, Bool.true_or] at he
      try refine hK _ ?_
      repeat (first | refine awp_seq ?_ | refine awp_block ?_ | refine awp_skip ?_ | refine awp_scope ?_ | refine awp_label ?_)
      refine awp_region tabOk fun K hK => ?_
      simp -dsimp -implicitDefEqProofs only [push_cast, ↓trAdd_f, ↓stOf_f, seval]
      refine hK _ (awp_ret ?_)
      simp -dsimp -implicitDefEqProofs only [he.symm, push_cast, List.mem_append, List.mem_cons, List.mem_singleton, forall_eq_or_imp, forall_eq, ↓trAdd_f, ↓stOf_f, seval]
    rw [h, Bool.false_or] at he
    refine awp_skip ?_
    try refine hK _ ?_
    repeat (first | refine awp_seq ?_ | refine awp_block ?_ | refine awp_skip ?_ | refine awp_scope ?_ | refine awp_label ?_)
    refine awp_region tabOk fun K hK => ?_
    simp -dsimp -implicitDefEqProofs only [push_cast, ↓trAdd_f, ↓stOf_f, seval]
    try simp (disch := omega) only [wrap_i64, wrap_u8, wrap_u16, wrap_u32]
    refine hK _ ⟨k + 1, ⟨hlt, he⟩, by omega, ?_⟩
    refine le_intro hB [] (by simp) (fun b _ => rfl) rfl ?_ ?_ rfl <;> simp -dsimp -implicitDefEqProofs only [encFlash, push_cast, ↓trAdd_f, ↓stOf_f, seval]
  have hke : k = f.pages.length := by simp at h; omega
  subst hke
  rw [List.drop_length] at he
  refine awp_exit rfl ?_
  try refine hK _ ?_
  repeat (first | refine awp_seq ?_ | refine awp_block ?_ | refine awp_skip ?_ | refine awp_scope ?_ | refine awp_label ?_)
  refine awp_region tabOk fun K hK => ?_
  simp -dsimp -implicitDefEqProofs only [push_cast, ↓trAdd_f, ↓stOf_f, seval]
  refine hK _ (awp_ret ?_)
  simp -dsimp -implicitDefEqProofs only [he.symm, List.any_nil, push_cast, List.mem_append, List.mem_cons, List.mem_singleton, forall_eq_or_imp, forall_eq, ↓trAdd_f, ↓stOf_f, seval]
end Go.Proofs.YtihippjbbcpggaaFw

/-
  Walks: copies of slices; bytes.Repeat of one byte, clean.
-/
namespace Go.Proofs.YtihippjbbcpggaaFw
open Go Go.Proofs
set_option maxRecDepth 100000
set_option maxHeartbeats 4000000
set_option linter.unusedVariables false
set_option linter.unusedSimpArgs false

theorem noZero_ok (n : Nat) (hn : n ≤ 2 ^ 40) : FnE Try.prog 51 [.int .i64 n] [] (.own 0 1 0 n) [(0, .row 1 [])] := by
  intro B vs hi
  have hsz : vs.size = 1 := hi.size
  obtain ⟨v0, rfl⟩ : ∃ v, vs = #[v] := ⟨vs[0], by apply Array.ext (by simpa using hsz); intro i h1 h2; have : i = 0 := by omega
                                                  subst this; rfl⟩
  have h0 := (hi.arg 0 _ _ rfl rfl).int_inv
  subst h0
  have hb0 : Try.prog.underlying 26 = some (.slice 5) := by kernel_rfl
  obtain ⟨cs, hrun, hle, hcs⟩ := Lib.run_makeNoZero (P := Try.prog) B.w0 #[3] 26 5 hb0 n (by omega)
  have hcall : (callFunc 51 #[.int .i64 n]).run Try.prog B.w0 = .ok (.value (.slice (some ⟨B.w0.heap.size, 0, none⟩) n cs.size)) (B.w0.drew.drew.alloc (.cells cs 5)) := by
    rw [run_callFunc_extern Try.func51 (by kernel_rfl) (by kernel_rfl) (by kernel_rfl) (e := Extern.BytealgMakeNoZero.makeNoZero #[3] #[26]) (by kernel_rfl), hrun]
    rfl
  have hm0 : ∀ b, B.m0 b = none := fun b => Classical.byContradiction fun e => absurd (hi.ids b e) (Nat.not_lt_zero b)
  have g := (grow_drew (F := B.F0) (w := B.w0) (m := B.m0)).trans ((grow_drew (F := B.F0) (w := B.w0.drew) (m := B.m0)).trans
    (grow_alloc (w := B.w0.drew.drew) (x := some ⟨B.w0.heap.size, 0, none⟩) (fun x hx => (hi.fz x hx).1) (.cells cs 5) (hm0 0)))
  have hget : (B.w0.drew.drew.alloc (.cells cs 5)).heap[B.w0.heap.size]? = some (Obj.cells cs 5 (0, 0)) := by
    show (B.w0.heap.push _)[B.w0.heap.size]? = _
    simp
  refine ⟨_, _, B.F0, updI B.m0 0 (some ⟨B.w0.heap.size, 0, none⟩), hcall, ?_⟩
  refine ⟨.own 0 1 0 n cs.size _ hle (by omega) fun _ => ⟨⟨B.w0.heap.size, 0, none⟩, cs, 5, (0, 0), by simp [updI], rfl, rfl, hget, by simp⟩, ?_, ?_, ?_, ?_, fun x hx => ⟨?_, .inl hx⟩, g, ?_⟩
  · intro b k hb
    simp only [lk] at hb
    split at hb
    · rename_i e; subst e; cases hb
      refine ⟨_, by simp [updI], by simp, by simp, .inr ⟨B.w0.heap.size, 0, cs, 5, rfl, hget, by simp, fun i j el c hi hj => by simp at hi⟩⟩
    · cases hb
  · intro b k x hb hx
    simp only [lk] at hb
    split at hb
    · rename_i e; subst e; cases hb
      simp [updI] at hx; subst hx
      exact ⟨fun hf => absurd (hi.fz _ hf).1 (Nat.lt_irrefl _), .inl (Nat.le_refl _)⟩
    · cases hb
  · intro b b' k k' x x' hb hb' hne
    simp only [lk] at hb hb'
    split at hb <;> split at hb' <;> first | omega | (cases hb; done) | (cases hb'; done)
  · intro b hb
    unfold updI at hb
    split at hb
    · omega
    · exact (hb (hm0 b)).elim
  · have := (hi.fz x hx).1
    show x < (B.w0.heap.push _).size
    simp; omega
  · refine ⟨rfl, rfl, rfl, ?_, fun k hk _ => push_old (w := B.w0) _ hk⟩
    show B.w0.heap.size ≤ (B.w0.heap.push _).size
    simp
theorem wrap_u64 {n : Int} (h1 : 0 ≤ n) (h2 : n ≤ 18446744073709551615) : IntKind.u64.wrap n = n := by
  simp [IntKind.wrap, IntKind.bits, IntKind.signed]; omega
theorem mul64_ok : FnS Try.prog 53 [.int .u64 1, .int .u64 64] [] (.tup [.int .u64 0, .int .u64 64]) [] := by
  refine fn_walk tabOk Try.func53 rfl (by decide +kernel) Try.ntmps53 Try.results53 (by simp) fun B hB => ?_
  try refine hK _ ?_
  repeat (first | refine awp_seq ?_ | refine awp_block ?_ | refine awp_skip ?_ | refine awp_scope ?_ | refine awp_label ?_)
  refine awp_region tabOk fun K hK => ?_
  simp -dsimp -implicitDefEqProofs only [push_cast, ↓trAdd_f, ↓stOf_f, seval]
  try refine hK _ ?_
  repeat (first | refine awp_seq ?_ | refine awp_block ?_ | refine awp_skip ?_ | refine awp_scope ?_ | refine awp_label ?_)
  refine awp_region tabOk fun K hK => ?_
  simp -dsimp -implicitDefEqProofs only [push_cast, ↓trAdd_f, ↓stOf_f, seval]
  try refine hK _ ?_
  repeat (first | refine awp_seq ?_ | refine awp_block ?_ | refine awp_skip ?_ | refine awp_scope ?_ | refine awp_label ?_)
  refine awp_region tabOk fun K hK => ?_
  simp -dsimp -implicitDefEqProofs only [push_cast, ↓trAdd_f, ↓stOf_f, seval]
  try refine hK _ ?_
  repeat (first | refine awp_seq ?_ | refine awp_block ?_ | refine awp_skip ?_ | refine awp_scope ?_ | refine awp_label ?_)
  refine awp_region tabOk fun K hK => ?_
  simp -dsimp -implicitDefEqProofs only [push_cast, ↓trAdd_f, ↓stOf_f, seval]
  try refine hK _ ?_
  repeat (first | refine awp_seq ?_ | refine awp_block ?_ | refine awp_skip ?_ | refine awp_scope ?_ | refine awp_label ?_)
  refine awp_region tabOk fun K hK => ?_
  simp -dsimp -implicitDefEqProofs only [push_cast, ↓trAdd_f, ↓stOf_f, seval]
  try refine hK _ ?_
  repeat (first | refine awp_seq ?_ | refine awp_block ?_ | refine awp_skip ?_ | refine awp_scope ?_ | refine awp_label ?_)
  refine awp_region tabOk fun K hK => ?_
  simp -dsimp -implicitDefEqProofs only [push_cast, ↓trAdd_f, ↓stOf_f, seval]
  try refine hK _ ?_
  repeat (first | refine awp_seq ?_ | refine awp_block ?_ | refine awp_skip ?_ | refine awp_scope ?_ | refine awp_label ?_)
  refine awp_region tabOk fun K hK => ?_
  simp -dsimp -implicitDefEqProofs only [push_cast, ↓trAdd_f, ↓stOf_f, seval]
  try refine hK _ ?_
  repeat (first | refine awp_seq ?_ | refine awp_block ?_ | refine awp_skip ?_ | refine awp_scope ?_ | refine awp_label ?_)
  refine awp_region tabOk fun K hK => ?_
  simp -dsimp -implicitDefEqProofs only [push_cast, ↓trAdd_f, ↓stOf_f, seval]
  try refine hK _ ?_
  repeat (first | refine awp_seq ?_ | refine awp_block ?_ | refine awp_skip ?_ | refine awp_scope ?_ | refine awp_label ?_)
  refine awp_region tabOk fun K hK => ?_
  simp -dsimp -implicitDefEqProofs only [push_cast, ↓trAdd_f, ↓stOf_f, seval]
  try refine hK _ ?_
  repeat (first | refine awp_seq ?_ | refine awp_block ?_ | refine awp_skip ?_ | refine awp_scope ?_ | refine awp_label ?_)
  refine awp_region tabOk fun K hK => ?_
  simp -dsimp -implicitDefEqProofs only [push_cast, ↓trAdd_f, ↓stOf_f, seval]
  try refine hK _ ?_
  repeat (first | refine awp_seq ?_ | refine awp_block ?_ | refine awp_skip ?_ | refine awp_scope ?_ | refine awp_label ?_)
  refine awp_region tabOk fun K hK => ?_
  simp -dsimp -implicitDefEqProofs only [push_cast, ↓trAdd_f, ↓stOf_f, seval]
  try refine hK _ ?_
  repeat (first | refine awp_seq ?_ | refine awp_block ?_ | refine awp_skip ?_ | refine awp_scope ?_ | refine awp_label ?_)
  refine awp_region tabOk fun K hK => ?_
  simp -dsimp -implicitDefEqProofs only [push_cast, ↓trAdd_f, ↓stOf_f, seval]
  refine hK _ (awp_ret ?_)
  simp -dsimp -implicitDefEqProofs only [push_cast, List.mem_append, List.mem_cons, List.mem_singleton, forall_eq_or_imp, forall_eq, ↓trAdd_f, ↓stOf_f, seval]
  exact .inl (by decide +kernel)
theorem mul_ok : FnS Try.prog 50 [.int .u64 1, .int .u64 64] [] (.tup [.int .u64 0, .int .u64 64]) [] := by
  refine fn_walk tabOk Try.func50 rfl (by decide +kernel) Try.ntmps50 Try.results50 (by simp) fun B hB => ?_
  try refine hK _ ?_
  repeat (first | refine awp_seq ?_ | refine awp_block ?_ | refine awp_skip ?_ | refine awp_scope ?_ | refine awp_label ?_)
  refine awp_region tabOk fun K hK => ?_
  simp -dsimp -implicitDefEqProofs only [push_cast, ↓trAdd_f, ↓stOf_f, seval]
  try refine hK _ ?_
  repeat (first | refine awp_seq ?_ | refine awp_block ?_ | refine awp_skip ?_ | refine awp_scope ?_ | refine awp_label ?_)
  refine awp_cond (b := false) (by simp -dsimp -implicitDefEqProofs only [push_cast, ↓trAdd_f, ↓stOf_f, seval]) (fun h => ?_) (fun h => ?_)
  · cases h
  refine awp_skip ?_
  try refine hK _ ?_
  repeat (first | refine awp_seq ?_ | refine awp_block ?_ | refine awp_skip ?_ | refine awp_scope ?_ | refine awp_label ?_)
  refine awp_region tabOk fun K hK => ?_
  simp -dsimp -implicitDefEqProofs only [push_cast, ↓trAdd_f, ↓stOf_f, seval]
  refine callK_simple mul64_ok ?_ rfl fun _ => ?_
  · simp -dsimp -implicitDefEqProofs only [push_cast, List.mem_append, List.mem_cons, List.mem_singleton, forall_eq_or_imp, forall_eq, ↓trAdd_f, ↓stOf_f, seval]
  simp -dsimp -implicitDefEqProofs only [push_cast, ↓trAdd_f, ↓stOf_f, seval]
  refine hK _ ?_
  try refine hK _ ?_
  repeat (first | refine awp_seq ?_ | refine awp_block ?_ | refine awp_skip ?_ | refine awp_scope ?_ | refine awp_label ?_)
  refine awp_region tabOk fun K hK => ?_
  simp -dsimp -implicitDefEqProofs only [push_cast, ↓trAdd_f, ↓stOf_f, seval]
  refine hK _ (awp_ret ?_)
  simp -dsimp -implicitDefEqProofs only [push_cast, List.mem_append, List.mem_cons, List.mem_singleton, forall_eq_or_imp, forall_eq, ↓trAdd_f, ↓stOf_f, seval]
def ffs (n : Nat) : List (List PV) := List.replicate n [.int .u8 255]
theorem ffs_len (n : Nat) : (ffs n).length = n := by simp [ffs]
theorem ffs_copy (m c l : Nat) (h1 : c ≤ m) : (ffs m).take m ++ (((ffs m).take c).take l ++ (ffs m).drop (m + min c l)) = ffs (m + min c l) := by
  have e1 : (ffs m).drop (m + min c l) = [] := List.drop_of_length_le (by rw [ffs_len]; omega)
  rw [e1, List.append_nil, List.take_of_length_le (by rw [ffs_len]; omega)]
  simp only [ffs, List.take_replicate, Nat.min_eq_left h1, List.replicate_append_replicate, Nat.min_comm c l]
theorem ren_ffs (n : Nat) (r : Nat → Nat) : (ffs n).map (renL r) = ffs n := map_ren_fz _ (fun e he c hc => by rw [(List.mem_replicate.1 he).2] at hc; simp at hc; subst hc; rfl) r
theorem ok_ffs (n : Nat) (S : Nat → Prop) : (∀ e ∈ ffs n, okL S e) = True := all_ok_fz _ (fun e he c hc => by rw [(List.mem_replicate.1 he).2] at hc; simp at hc; subst hc; rfl) S
theorem repeat_ok : FnS Try.prog 49 [.sl false 1 [[.int .u8 255]], .int .i64 64] [] (.sl false 1 (ffs 64)) [] := by
  refine fn_walk tabOk Try.func49 rfl (by decide +kernel) Try.ntmps49 Try.results49 (by simp) fun B hB => ?_
  try refine hK _ ?_
  repeat (first | refine awp_seq ?_ | refine awp_block ?_ | refine awp_skip ?_ | refine awp_scope ?_ | refine awp_label ?_)
  refine awp_region tabOk fun K hK => ?_
  simp -dsimp -implicitDefEqProofs only [push_cast, ↓trAdd_f, ↓stOf_f, seval]
  try refine hK _ ?_
  repeat (first | refine awp_seq ?_ | refine awp_block ?_ | refine awp_skip ?_ | refine awp_scope ?_ | refine awp_label ?_)
  refine awp_region tabOk fun K hK => ?_
  simp -dsimp -implicitDefEqProofs only [push_cast, ↓trAdd_f, ↓stOf_f, seval]
  try refine hK _ ?_
  repeat (first | refine awp_seq ?_ | refine awp_block ?_ | refine awp_skip ?_ | refine awp_scope ?_ | refine awp_label ?_)
  refine awp_cond (b := false) (by simp -dsimp -implicitDefEqProofs only [push_cast, ↓trAdd_f, ↓stOf_f, seval]) (fun h => ?_) (fun h => ?_)
  · cases h
  refine awp_skip ?_
  try refine hK _ ?_
  repeat (first | refine awp_seq ?_ | refine awp_block ?_ | refine awp_skip ?_ | refine awp_scope ?_ | refine awp_label ?_)
  refine awp_region tabOk fun K hK => ?_
  simp -dsimp -implicitDefEqProofs only [push_cast, ↓trAdd_f, ↓stOf_f, seval]
  try refine hK _ ?_
  repeat (first | refine awp_seq ?_ | refine awp_block ?_ | refine awp_skip ?_ | refine awp_scope ?_ | refine awp_label ?_)
  refine awp_cond (b := false) (by simp -dsimp -implicitDefEqProofs only [push_cast, ↓trAdd_f, ↓stOf_f, seval]) (fun h => ?_) (fun h => ?_)
  · cases h
  refine awp_skip ?_
  try refine hK _ ?_
  repeat (first | refine awp_seq ?_ | refine awp_block ?_ | refine awp_skip ?_ | refine awp_scope ?_ | refine awp_label ?_)
  refine awp_region tabOk fun K hK => ?_
  simp -dsimp -implicitDefEqProofs only [push_cast, ↓trAdd_f, ↓stOf_f, seval]
  try simp (disch := omega) only [wrap_i64, wrap_u8, wrap_u16, wrap_u32]
  try simp (disch := omega) only [wrap_u64]
  refine callK_simple mul_ok ?_ rfl fun _ => ?_
  · simp -dsimp -implicitDefEqProofs only [push_cast, List.mem_append, List.mem_cons, List.mem_singleton, forall_eq_or_imp, forall_eq, ↓trAdd_f, ↓stOf_f, seval]
  simp -dsimp -implicitDefEqProofs only [push_cast, ↓trAdd_f, ↓stOf_f, seval]
  refine hK _ ?_
  try refine hK _ ?_
  repeat (first | refine awp_seq ?_ | refine awp_block ?_ | refine awp_skip ?_ | refine awp_scope ?_ | refine awp_label ?_)
  refine awp_region tabOk fun K hK => ?_
  simp -dsimp -implicitDefEqProofs only [push_cast, ↓trAdd_f, ↓stOf_f, seval]
  refine hK _ ?_
  try refine hK _ ?_
  repeat (first | refine awp_seq ?_ | refine awp_block ?_ | refine awp_skip ?_ | refine awp_scope ?_ | refine awp_label ?_)
  refine awp_cond (b := false) (by simp -dsimp -implicitDefEqProofs only [push_cast, ↓trAdd_f, ↓stOf_f, seval]) (fun h => ?_) (fun h => ?_)
  · cases h
  refine awp_skip ?_
  try refine hK _ ?_
  repeat (first | refine awp_seq ?_ | refine awp_block ?_ | refine awp_skip ?_ | refine awp_scope ?_ | refine awp_label ?_)
  refine awp_region tabOk fun K hK => ?_
  simp -dsimp -implicitDefEqProofs only [push_cast, ↓trAdd_f, ↓stOf_f, seval]
  try simp (disch := omega) only [wrap_i64, wrap_u8, wrap_u16, wrap_u32]
  try refine hK _ ?_
  repeat (first | refine awp_seq ?_ | refine awp_block ?_ | refine awp_skip ?_ | refine awp_scope ?_ | refine awp_label ?_)
  refine awp_region tabOk fun K hK => ?_
  simp -dsimp -implicitDefEqProofs only [push_cast, ↓trAdd_f, ↓stOf_f, seval]
  try refine hK _ ?_
  repeat (first | refine awp_seq ?_ | refine awp_block ?_ | refine awp_skip ?_ | refine awp_scope ?_ | refine awp_label ?_)
  refine awp_cond (b := false) (by simp -dsimp -implicitDefEqProofs only [push_cast, ↓trAdd_f, ↓stOf_f, seval]) (fun h => ?_) (fun h => ?_)
  · cases h
  refine awp_skip ?_
  try refine hK _ ?_
  repeat (first | refine awp_seq ?_ | refine awp_block ?_ | refine awp_skip ?_ | refine awp_scope ?_ | refine awp_label ?_)
  refine awp_region tabOk fun K hK => ?_
  simp -dsimp -implicitDefEqProofs only [push_cast, ↓trAdd_f, ↓stOf_f, seval]
  try refine hK _ ?_
  repeat (first | refine awp_seq ?_ | refine awp_block ?_ | refine awp_skip ?_ | refine awp_scope ?_ | refine awp_label ?_)
  refine awp_region tabOk fun K hK => ?_
  simp -dsimp -implicitDefEqProofs only [push_cast, ↓trAdd_f, ↓stOf_f, seval]
  try refine hK _ ?_
  repeat (first | refine awp_seq ?_ | refine awp_block ?_ | refine awp_skip ?_ | refine awp_scope ?_ | refine awp_label ?_)
  refine awp_cond (b := false) (by simp -dsimp -implicitDefEqProofs only [push_cast, ↓trAdd_f, ↓stOf_f, seval]) (fun h => ?_) (fun h => ?_)
  · cases h
  refine awp_skip ?_
  try refine hK _ ?_
  repeat (first | refine awp_seq ?_ | refine awp_block ?_ | refine awp_skip ?_ | refine awp_scope ?_ | refine awp_label ?_)
  refine awp_region tabOk fun K hK => ?_
  simp -dsimp -implicitDefEqProofs only [push_cast, ↓trAdd_f, ↓stOf_f, seval]
  refine ⟨51, [], [], { args := [.int .i64 64], st0 := [], res := .own 0 1 0 64, st1 := [(0, .row 1 [])], r := [] }, rfl, .inr (noZero_ok 64 (by decide)), ?_, ?_⟩
  · simp -dsimp -implicitDefEqProofs only [push_cast, List.mem_append, List.mem_cons, List.mem_singleton, forall_eq_or_imp, forall_eq, ↓trAdd_f, ↓stOf_f, seval]
    rfl
  simp -dsimp -implicitDefEqProofs only [push_cast, ↓trAdd_f, ↓stOf_f, seval]
  refine ⟨fun m hm => hm.symm, hK _ ?_⟩
  try refine hK _ ?_
  repeat (first | refine awp_seq ?_ | refine awp_block ?_ | refine awp_skip ?_ | refine awp_scope ?_ | refine awp_label ?_)
  refine awp_region tabOk fun K hK => ?_
  simp -dsimp -implicitDefEqProofs only [push_cast, ↓trAdd_f, ↓stOf_f, seval]
  refine hK _ ?_
  refine awp_seq (awp_block ?_)
  refine awp_for (fun m : Nat => { sl := [(7, .int .i64 64), (8, .int .i64 64), (9, .own 264 1 0 64), (10, .int .i64 m)], st := [(264, .row 1 (ffs m))], nx := 304, n := 77 }) (fun m => 1 ≤ m ∧ m ≤ 64) (fun m => 64 - m) 1 ⟨Nat.le_refl _, by decide⟩ ?_ fun m hm => ?_
  · have e : ffs 1 = [[.int .u8 255]] := rfl
    refine le_intro hB [] (by simp) (fun b _ => rfl) rfl ?_ ?_ rfl <;> simp -dsimp -implicitDefEqProofs only [e, push_cast, ↓trAdd_f, ↓stOf_f, seval]
    decide
  try refine hK _ ?_
  repeat (first | refine awp_seq ?_ | refine awp_block ?_ | refine awp_skip ?_ | refine awp_scope ?_ | refine awp_label ?_)
  refine awp_region tabOk fun K hK => ?_
  simp -dsimp -implicitDefEqProofs only [push_cast, ↓trAdd_f, ↓stOf_f, seval]
  try refine hK _ ?_
  repeat (first | refine awp_seq ?_ | refine awp_block ?_ | refine awp_skip ?_ | refine awp_scope ?_ | refine awp_label ?_)
  refine awp_cond (b := decide ((m : Int) < 64)) (by simp -dsimp -implicitDefEqProofs only [push_cast, ↓trAdd_f, ↓stOf_f, seval]) (fun h => ?_) (fun h => ?_)
  · have hlt : m < 64 := by simp at h; omega
    refine awp_skip ?_
    have hmin : min (m : Int) 64 = m := by omega
    have hl1 := ffs_len m
    have hl2 : ((ffs m).take m).length = m := by rw [List.length_take, ffs_len]; omega
    have hcp := ffs_copy m m (64 - m) (Nat.le_refl _)
    try refine hK _ ?_
    repeat (first | refine awp_seq ?_ | refine awp_block ?_ | refine awp_skip ?_ | refine awp_scope ?_ | refine awp_label ?_)
    refine awp_region tabOk fun K hK => ?_
    simp -dsimp -implicitDefEqProofs only [hmin, push_cast, ↓trAdd_f, ↓stOf_f, seval]
    try refine hK _ ?_
    repeat (first | refine awp_seq ?_ | refine awp_block ?_ | refine awp_skip ?_ | refine awp_scope ?_ | refine awp_label ?_)
    refine awp_draw tabOk (by kernel_rfl) (by kernel_rfl) fun K hK C hC => ?_
    simp -dsimp -implicitDefEqProofs only [hmin, hl1, hl2, Int.toNat_natCast, push_cast, ↓trAdd_f, ↓stOf_f, seval]
    refine ⟨⟨by omega, by omega⟩, ⟨by omega, by omega⟩, ⟨by omega, by omega, by omega⟩, hC _ (by kernel_rfl), hK _ ?_⟩
    rw [hcp]
    try simp (disch := omega) only [wrap_i64, wrap_u8, wrap_u16, wrap_u32]
    refine ⟨m + min m (64 - m), ⟨by omega, by omega⟩, by omega, ?_⟩
    refine le_intro hB [] (by simp) (fun b _ => rfl) rfl ?_ ?_ rfl <;> simp -dsimp -implicitDefEqProofs only [ren_ffs, ok_ffs, push_cast, ↓trAdd_f, ↓stOf_f, seval]
  have he : m = 64 := by simp at h; omega
  subst he
  refine awp_exit rfl ?_
  try refine hK _ ?_
  repeat (first | refine awp_seq ?_ | refine awp_block ?_ | refine awp_skip ?_ | refine awp_scope ?_ | refine awp_label ?_)
  refine awp_region tabOk fun K hK => ?_
  simp -dsimp -implicitDefEqProofs only [push_cast, ↓trAdd_f, ↓stOf_f, seval]
  refine hK _ (awp_ret ?_)
  have f1 : (∀ e ∈ ffs 64, ∀ c ∈ e, c.fz = true) = True := eq_true fun e he c hc => by rw [(List.mem_replicate.1 he).2] at hc; simp at hc; subst hc; rfl
  have f2 : (ffs 64).take 64 = ffs 64 := rfl
  have f3 : (ffs 64).length = 64 := rfl
  generalize ffs 64 = q at *
  simp -dsimp -implicitDefEqProofs only [f1, f2, f3, push_cast, List.mem_append, List.mem_cons, List.mem_singleton, forall_eq_or_imp, forall_eq, ↓trAdd_f, ↓stOf_f, seval]
def clean64 : List Int := List.replicate 64 255
theorem clean64_map : clean64.map encB = ffs 64 := by simp [clean64, ffs, encB]
theorem clean_ok : FnS Try.prog 38 [] [] (.sl false 1 (clean64.map encB)) [] := by
  rw [clean64_map]
  refine fn_walk tabOk Try.func38 rfl (by decide +kernel) Try.ntmps38 Try.results38 (by simp) fun B hB => ?_
  try refine hK _ ?_
  repeat (first | refine awp_seq ?_ | refine awp_block ?_ | refine awp_skip ?_ | refine awp_scope ?_ | refine awp_label ?_)
  refine awp_region tabOk fun K hK => ?_
  simp -dsimp -implicitDefEqProofs only [push_cast, ↓trAdd_f, ↓stOf_f, seval]
  try refine hK _ ?_
  repeat (first | refine awp_seq ?_ | refine awp_block ?_ | refine awp_skip ?_ | refine awp_scope ?_ | refine awp_label ?_)
  refine awp_region tabOk fun K hK => ?_
  simp -dsimp -implicitDefEqProofs only [push_cast, ↓trAdd_f, ↓stOf_f, seval]
  refine callK_simple repeat_ok ?_ rfl fun _ => ?_
  · simp -dsimp -implicitDefEqProofs only [push_cast, List.mem_append, List.mem_cons, List.mem_singleton, forall_eq_or_imp, forall_eq, ↓trAdd_f, ↓stOf_f, seval]
  simp -dsimp -implicitDefEqProofs only [push_cast, ↓trAdd_f, ↓stOf_f, seval]
  refine hK _ (awp_ret ?_)
  simp -dsimp -implicitDefEqProofs only [push_cast, List.mem_append, List.mem_cons, List.mem_singleton, forall_eq_or_imp, forall_eq, ↓trAdd_f, ↓stOf_f, seval]
theorem cloneI_ok (l : List Int) (h0 : l ≠ []) (hl : l.length ≤ 2 ^ 40) : FnS Try.prog 36 [.sl false 1 (l.map encI)] [] (.own 0 1 0 l.length) [(0, .row 1 (l.map encI))] := by
  have hne : (l.map encI).isEmpty = false := by cases l <;> simp at h0 ⊢
  have f1 : (∀ e ∈ l.map encI, ∀ c ∈ e, c.fz = true) := fz_map encI_fz l
  have f2 := fun r => map_ren_fz (l.map encI) f1 r
  have f3 := fun S => all_ok_fz (l.map encI) f1 S
  refine fn_walkN tabOk Try.func36 rfl (by decide +kernel) Try.ntmps36 Try.results36 (by simp) fun B hB => ?_
  try refine hK _ ?_
  repeat (first | refine awp_seq ?_ | refine awp_block ?_ | refine awp_skip ?_ | refine awp_scope ?_ | refine awp_label ?_)
  refine awp_region tabOk fun K hK => ?_
  simp -dsimp -implicitDefEqProofs only [push_cast, ↓trAdd_f, ↓stOf_f, seval]
  try refine hK _ ?_
  repeat (first | refine awp_seq ?_ | refine awp_block ?_ | refine awp_skip ?_ | refine awp_scope ?_ | refine awp_label ?_)
  refine awp_region tabOk fun K hK => ?_
  simp -dsimp -implicitDefEqProofs only [hne, push_cast, ↓trAdd_f, ↓stOf_f, seval]
  try refine hK _ ?_
  repeat (first | refine awp_seq ?_ | refine awp_block ?_ | refine awp_skip ?_ | refine awp_scope ?_ | refine awp_label ?_)
  refine awp_cond (b := false) (by simp -dsimp -implicitDefEqProofs only [push_cast, ↓trAdd_f, ↓stOf_f, seval]) (fun h => ?_) (fun h => ?_)
  · cases h
  refine awp_skip ?_
  try refine hK _ ?_
  repeat (first | refine awp_seq ?_ | refine awp_block ?_ | refine awp_skip ?_ | refine awp_scope ?_ | refine awp_label ?_)
  refine awp_region tabOk fun K hK => ?_
  simp -dsimp -implicitDefEqProofs only [push_cast, ↓trAdd_f, ↓stOf_f, seval]
  refine ⟨⟨by omega, by omega⟩, hK _ ?_⟩
  refine awp_le (s' := { sl := [(2, .own 0 1 0 l.length)], st := [(0, .row 1 (l.map encI))], nx := 8, n := 8 }) ?_ (awp_ret ?_)
  · refine le_intro hB [(0, 40)] (by simp) (fun b hb => absurd hb (Nat.not_lt_zero b)) rfl ?_ ?_ rfl <;> simp -dsimp -implicitDefEqProofs only [f2, f3, push_cast, ↓trAdd_f, ↓stOf_f, seval]
  simp -dsimp -implicitDefEqProofs only [f3, push_cast, List.mem_append, List.mem_cons, List.mem_singleton, forall_eq_or_imp, forall_eq, ↓trAdd_f, ↓stOf_f, seval]
theorem cloneP_ok (l : List (List Int)) (h0 : l ≠ []) (hl : l.length ≤ 2 ^ 40) : FnS Try.prog 48 [.sl false 1 (l.map encP)] [] (.own 0 1 0 l.length) [(0, .row 1 (l.map encP))] := by
  have hne : (l.map encP).isEmpty = false := by cases l <;> simp at h0 ⊢
  have f1 : (∀ e ∈ l.map encP, ∀ c ∈ e, c.fz = true) := fz_map (fun x c hc => by simp [encP] at hc; subst hc; rfl) l
  have f2 := fun r => map_ren_fz (l.map encP) f1 r
  have f3 := fun S => all_ok_fz (l.map encP) f1 S
  refine fn_walkN tabOk Try.func48 rfl (by decide +kernel) Try.ntmps48 Try.results48 (by simp) fun B hB => ?_
  try refine hK _ ?_
  repeat (first | refine awp_seq ?_ | refine awp_block ?_ | refine awp_skip ?_ | refine awp_scope ?_ | refine awp_label ?_)
  refine awp_region tabOk fun K hK => ?_
  simp -dsimp -implicitDefEqProofs only [push_cast, ↓trAdd_f, ↓stOf_f, seval]
  try refine hK _ ?_
  repeat (first | refine awp_seq ?_ | refine awp_block ?_ | refine awp_skip ?_ | refine awp_scope ?_ | refine awp_label ?_)
  refine awp_region tabOk fun K hK => ?_
  simp -dsimp -implicitDefEqProofs only [hne, push_cast, ↓trAdd_f, ↓stOf_f, seval]
  try refine hK _ ?_
  repeat (first | refine awp_seq ?_ | refine awp_block ?_ | refine awp_skip ?_ | refine awp_scope ?_ | refine awp_label ?_)
  refine awp_cond (b := false) (by simp -dsimp -implicitDefEqProofs only [push_cast, ↓trAdd_f, ↓stOf_f, seval]) (fun h => ?_) (fun h => ?_)
  · cases h
  refine awp_skip ?_
  try refine hK _ ?_
  repeat (first | refine awp_seq ?_ | refine awp_block ?_ | refine awp_skip ?_ | refine awp_scope ?_ | refine awp_label ?_)
  refine awp_region tabOk fun K hK => ?_
  simp -dsimp -implicitDefEqProofs only [push_cast, ↓trAdd_f, ↓stOf_f, seval]
  refine ⟨⟨by omega, by omega⟩, hK _ ?_⟩
  refine awp_le (s' := { sl := [(2, .own 0 1 0 l.length)], st := [(0, .row 1 (l.map encP))], nx := 8, n := 8 }) ?_ (awp_ret ?_)
  · refine le_intro hB [(0, 40)] (by simp) (fun b hb => absurd hb (Nat.not_lt_zero b)) rfl ?_ ?_ rfl <;> simp -dsimp -implicitDefEqProofs only [f2, f3, push_cast, ↓trAdd_f, ↓stOf_f, seval]
  simp -dsimp -implicitDefEqProofs only [f3, push_cast, List.mem_append, List.mem_cons, List.mem_singleton, forall_eq_or_imp, forall_eq, ↓trAdd_f, ↓stOf_f, seval]
theorem cloneB_ok (l : List Int) (hl : l.length ≤ 2 ^ 40) : FnS Try.prog 46 [.sl false 1 (l.map encB)] [] (.sl false 1 (l.map encB)) [] := by
  cases l with
  | nil =>
    refine fn_walk tabOk Try.func46 rfl (by decide +kernel) Try.ntmps46 Try.results46 (by simp) fun B hB => ?_
    try refine hK _ ?_
    repeat (first | refine awp_seq ?_ | refine awp_block ?_ | refine awp_skip ?_ | refine awp_scope ?_ | refine awp_label ?_)
    refine awp_region tabOk fun K hK => ?_
    simp -dsimp -implicitDefEqProofs only [push_cast, ↓trAdd_f, ↓stOf_f, seval]
    try refine hK _ ?_
    repeat (first | refine awp_seq ?_ | refine awp_block ?_ | refine awp_skip ?_ | refine awp_scope ?_ | refine awp_label ?_)
    refine awp_region tabOk fun K hK => ?_
    simp -dsimp -implicitDefEqProofs only [push_cast, ↓trAdd_f, ↓stOf_f, seval]
    refine hK _ ?_
    refine awp_cond_any rfl ?_ (awp_skip ?_)
    · try refine hK _ ?_
      repeat (first | refine awp_seq ?_ | refine awp_block ?_ | refine awp_skip ?_ | refine awp_scope ?_ | refine awp_label ?_)
      refine awp_region tabOk fun K hK => ?_
      simp -dsimp -implicitDefEqProofs only [push_cast, ↓trAdd_f, ↓stOf_f, seval]
      refine hK _ (awp_ret ?_)
      simp -dsimp -implicitDefEqProofs only [push_cast, List.mem_append, List.mem_cons, List.mem_singleton, forall_eq_or_imp, forall_eq, ↓trAdd_f, ↓stOf_f, seval]
    try refine hK _ ?_
    repeat (first | refine awp_seq ?_ | refine awp_block ?_ | refine awp_skip ?_ | refine awp_scope ?_ | refine awp_label ?_)
    refine awp_region tabOk fun K hK => ?_
    simp -dsimp -implicitDefEqProofs only [push_cast, ↓trAdd_f, ↓stOf_f, seval]
    refine hK _ (awp_ret ?_)
    simp -dsimp -implicitDefEqProofs only [push_cast, List.mem_append, List.mem_cons, List.mem_singleton, forall_eq_or_imp, forall_eq, ↓trAdd_f, ↓stOf_f, seval]
  | cons x l =>
    have hne : ((x :: l).map encB).isEmpty = false := rfl
    generalize x :: l = l at *
    refine fn_walk tabOk Try.func46 rfl (by decide +kernel) Try.ntmps46 Try.results46 (by simp) fun B hB => ?_
    try refine hK _ ?_
    repeat (first | refine awp_seq ?_ | refine awp_block ?_ | refine awp_skip ?_ | refine awp_scope ?_ | refine awp_label ?_)
    refine awp_region tabOk fun K hK => ?_
    simp -dsimp -implicitDefEqProofs only [push_cast, ↓trAdd_f, ↓stOf_f, seval]
    try refine hK _ ?_
    repeat (first | refine awp_seq ?_ | refine awp_block ?_ | refine awp_skip ?_ | refine awp_scope ?_ | refine awp_label ?_)
    refine awp_region tabOk fun K hK => ?_
    simp -dsimp -implicitDefEqProofs only [hne, push_cast, ↓trAdd_f, ↓stOf_f, seval]
    try refine hK _ ?_
    repeat (first | refine awp_seq ?_ | refine awp_block ?_ | refine awp_skip ?_ | refine awp_scope ?_ | refine awp_label ?_)
    refine awp_cond (b := false) (by simp -dsimp -implicitDefEqProofs only [push_cast, ↓trAdd_f, ↓stOf_f, seval]) (fun h => ?_) (fun h => ?_)
    · cases h
    refine awp_skip ?_
    try refine hK _ ?_
    repeat (first | refine awp_seq ?_ | refine awp_block ?_ | refine awp_skip ?_ | refine awp_scope ?_ | refine awp_label ?_)
    refine awp_region tabOk fun K hK => ?_
    simp -dsimp -implicitDefEqProofs only [push_cast, ↓trAdd_f, ↓stOf_f, seval]
    refine ⟨⟨by omega, by omega⟩, hK _ (awp_ret ?_)⟩
    have f1 : (∀ e ∈ l.map encB, ∀ c ∈ e, c.fz = true) = True := eq_true (fz_map encB_fz l)
    simp -dsimp -implicitDefEqProofs only [f1, push_cast, List.mem_append, List.mem_cons, List.mem_singleton, forall_eq_or_imp, forall_eq, ↓trAdd_f, ↓stOf_f, seval]
end Go.Proofs.YtihippjbbcpggaaFw

/-
  Walks: flash.in, own.
-/
namespace Go.Proofs.YtihippjbbcpggaaFw
open Go Go.Proofs
set_option maxRecDepth 100000
set_option maxHeartbeats 4000000
set_option linter.unusedVariables false
set_option linter.unusedSimpArgs false

theorem encP_fz (p : List Int) : ∀ c ∈ encP p, c.fz = true := by simp [encP, PV.fz]
def inF (f : Flash) (page at_ n : Int) : Bool := decide (0 ≤ page) && (decide (page < (f.pages.length : Int)) && (decide (0 ≤ at_) && (decide (0 ≤ n) && (decide (at_ ≤ 64) && decide (n ≤ 64 - at_)))))
theorem inF_iff (f : Flash) (page at_ n : Int) : inF f page at_ n = true ↔ (0 ≤ page ∧ page < f.pages.length) ∧ 0 ≤ at_ ∧ 0 ≤ n ∧ at_ + n ≤ 64 := by
  simp only [inF, Bool.and_eq_true, decide_eq_true_eq]
  omega
theorem in_ok (f : Flash) (page at_ n : Int) : FnS Try.prog 34 [.agg (encFlash f), .int .i64 page, .int .i64 at_, .int .i64 n] [] (.bool (inF f page at_ n)) [] := by
  refine fn_walk tabOk Try.func34 rfl (by decide +kernel) Try.ntmps34 Try.results34 (by simp) fun B hB => ?_
  try refine hK _ ?_
  repeat (first | refine awp_seq ?_ | refine awp_block ?_ | refine awp_skip ?_ | refine awp_scope ?_ | refine awp_label ?_)
  refine awp_region tabOk fun K hK => ?_
  simp -dsimp -implicitDefEqProofs only [encFlash, push_cast, ↓trAdd_f, ↓stOf_f, seval]
  try refine hK _ ?_
  repeat (first | refine awp_seq ?_ | refine awp_block ?_ | refine awp_skip ?_ | refine awp_scope ?_ | refine awp_label ?_)
  refine awp_region tabOk fun K hK => ?_
  simp -dsimp -implicitDefEqProofs only [push_cast, ↓trAdd_f, ↓stOf_f, seval]
  cases h1 : decide (0 ≤ page)
  · have e : inF f page at_ n = false := by simp only [inF, h1, Bool.false_and]
    simp -dsimp -implicitDefEqProofs only [push_cast, ↓trAdd_f, ↓stOf_f, seval]
    refine hK _ (awp_ret ?_)
    simp -dsimp -implicitDefEqProofs only [e, push_cast, List.mem_append, List.mem_cons, List.mem_singleton, forall_eq_or_imp, forall_eq, ↓trAdd_f, ↓stOf_f, seval]
  simp -dsimp -implicitDefEqProofs only [push_cast, ↓trAdd_f, ↓stOf_f, seval]
  cases h2 : decide (page < (f.pages.length : Int))
  · have e : inF f page at_ n = false := by simp only [inF, h1, h2, Bool.false_and, Bool.and_false]
    simp -dsimp -implicitDefEqProofs only [push_cast, ↓trAdd_f, ↓stOf_f, seval]
    refine hK _ (awp_ret ?_)
    simp -dsimp -implicitDefEqProofs only [e, push_cast, List.mem_append, List.mem_cons, List.mem_singleton, forall_eq_or_imp, forall_eq, ↓trAdd_f, ↓stOf_f, seval]
  simp -dsimp -implicitDefEqProofs only [push_cast, ↓trAdd_f, ↓stOf_f, seval]
  cases h3 : decide (0 ≤ at_)
  · have e : inF f page at_ n = false := by simp only [inF, h1, h2, h3, Bool.false_and, Bool.and_false]
    simp -dsimp -implicitDefEqProofs only [push_cast, ↓trAdd_f, ↓stOf_f, seval]
    refine hK _ (awp_ret ?_)
    simp -dsimp -implicitDefEqProofs only [e, push_cast, List.mem_append, List.mem_cons, List.mem_singleton, forall_eq_or_imp, forall_eq, ↓trAdd_f, ↓stOf_f, seval]
  simp -dsimp -implicitDefEqProofs only [push_cast, ↓trAdd_f, ↓stOf_f, seval]
  cases h4 : decide (0 ≤ n)
  · have e : inF f page at_ n = false := by simp only [inF, h1, h2, h3, h4, Bool.false_and, Bool.and_false]
    simp -dsimp -implicitDefEqProofs only [push_cast, ↓trAdd_f, ↓stOf_f, seval]
    refine hK _ (awp_ret ?_)
    simp -dsimp -implicitDefEqProofs only [e, push_cast, List.mem_append, List.mem_cons, List.mem_singleton, forall_eq_or_imp, forall_eq, ↓trAdd_f, ↓stOf_f, seval]
  simp -dsimp -implicitDefEqProofs only [push_cast, ↓trAdd_f, ↓stOf_f, seval]
  cases h5 : decide (at_ ≤ 64)
  · have e : inF f page at_ n = false := by simp only [inF, h1, h2, h3, h4, h5, Bool.false_and, Bool.and_false]
    simp -dsimp -implicitDefEqProofs only [push_cast, ↓trAdd_f, ↓stOf_f, seval]
    refine hK _ (awp_ret ?_)
    simp -dsimp -implicitDefEqProofs only [e, push_cast, List.mem_append, List.mem_cons, List.mem_singleton, forall_eq_or_imp, forall_eq, ↓trAdd_f, ↓stOf_f, seval]
  simp -dsimp -implicitDefEqProofs only [push_cast, ↓trAdd_f, ↓stOf_f, seval]
  have e : inF f page at_ n = decide (n ≤ 64 - at_) := by simp only [inF, h1, h2, h3, h4, h5, Bool.true_and]
  have q1 : 0 ≤ at_ := by simpa using h3
  have q2 : at_ ≤ 64 := by simpa using h5
  try simp (disch := omega) only [wrap_i64, wrap_u8, wrap_u16, wrap_u32]
  refine hK _ (awp_ret ?_)
  simp -dsimp -implicitDefEqProofs only [e, push_cast, List.mem_append, List.mem_cons, List.mem_singleton, forall_eq_or_imp, forall_eq, ↓trAdd_f, ↓stOf_f, seval]

/-- The pages of a flash of which one is its own, under an id. -/
def ownR (ps : List (List Int)) (k b : Nat) : List (List PV) := (ps.map encP).set k [.own b 1 0 64]
theorem ownR_len (ps : List (List Int)) (k b : Nat) : (ownR ps k b).length = ps.length := by simp [ownR]
theorem ren_ownR (ps : List (List Int)) (k b : Nat) (r : Nat → Nat) : (ownR ps k b).map (renL r) = ownR ps k (r b) := by
  unfold ownR
  rw [List.map_set, map_ren_fz _ (fz_map encP_fz ps) r]
  simp [renL, PV.ren]
theorem ok_ownR (ps : List (List Int)) (k b : Nat) (hk : k < ps.length) (S : Nat → Prop) : (∀ e ∈ ownR ps k b, okL S e) = S b := by
  have f3 := all_ok_fz _ (fz_map encP_fz ps) S
  refine propext ⟨fun h => ?_, fun h e he => ?_⟩
  · have := h [.own b 1 0 64] (List.mem_of_getElem? (by unfold ownR; rw [List.getElem?_set_self (by simpa using hk)]))
    simpa [okL, PV.ok] using this
  · rcases List.mem_or_eq_of_mem_set he with he | rfl
    · exact (of_eq_true f3) e he
    · simpa [okL, PV.ok] using h
theorem ownR_get (ps : List (List Int)) (k b : Nat) (hk : k < ps.length) : (ownR ps k b).getD k [] = [.own b 1 0 64] := by
  unfold ownR
  simp [List.getD, hk]
theorem own_ok (f : Flash) (k : Nat) (hk : k < f.pages.length) (h64 : f.pages[k].length = 64) (hl : f.pages.length ≤ 2 ^ 40) :
    FnS Try.prog 35 [.agg (encFlash f), .int .i64 k] [] (.agg [.own 0 1 0 f.pages.length, .sl false 1 (f.wear.map encI), .int .i64 f.left, .bool f.down])
      [(0, .row 1 (ownR f.pages k 1)), (1, .row 1 (f.pages[k].map encB))] := by
  have hne : f.pages ≠ [] := by intro e; rw [e] at hk; simp at hk
  have f1 : (∀ e ∈ f.pages.map encP, ∀ c ∈ e, c.fz = true) := fz_map encP_fz f.pages
  have f2 := fun r => map_ren_fz (f.pages.map encP) f1 r
  have f3 := fun S => all_ok_fz (f.pages.map encP) f1 S
  have g1 : (∀ e ∈ f.pages[k].map encB, ∀ c ∈ e, c.fz = true) := fz_map encB_fz f.pages[k]
  have g2 := fun r => map_ren_fz (f.pages[k].map encB) g1 r
  have g3 := fun S => all_ok_fz (f.pages[k].map encB) g1 S
  refine fn_walkN tabOk Try.func35 rfl (by decide +kernel) Try.ntmps35 Try.results35 (by simp) fun B hB => ?_
  try refine hK _ ?_
  repeat (first | refine awp_seq ?_ | refine awp_block ?_ | refine awp_skip ?_ | refine awp_scope ?_ | refine awp_label ?_)
  refine awp_region tabOk fun K hK => ?_
  simp -dsimp -implicitDefEqProofs only [encFlash, push_cast, ↓trAdd_f, ↓stOf_f, seval]
  try refine hK _ ?_
  repeat (first | refine awp_seq ?_ | refine awp_block ?_ | refine awp_skip ?_ | refine awp_scope ?_ | refine awp_label ?_)
  refine awp_region tabOk fun K hK => ?_
  simp -dsimp -implicitDefEqProofs only [push_cast, ↓trAdd_f, ↓stOf_f, seval]
  refine ⟨48, [], [], { args := [.sl false 1 (f.pages.map encP)], st0 := [], res := .own 0 1 0 f.pages.length, st1 := [(0, .row 1 (f.pages.map encP))], r := [] }, rfl, .inl (cloneP_ok f.pages hne hl), ?_, ?_⟩
  · simp -dsimp -implicitDefEqProofs only [f3, push_cast, List.mem_append, List.mem_cons, List.mem_singleton, forall_eq_or_imp, forall_eq, ↓trAdd_f, ↓stOf_f, seval]
    rfl
  simp -dsimp -implicitDefEqProofs only [f2, push_cast, ↓trAdd_f, ↓stOf_f, seval]
  refine hK _ ?_
  try refine hK _ ?_
  repeat (first | refine awp_seq ?_ | refine awp_block ?_ | refine awp_skip ?_ | refine awp_scope ?_ | refine awp_label ?_)
  refine awp_region tabOk fun K hK => ?_
  simp -dsimp -implicitDefEqProofs only [push_cast, ↓trAdd_f, ↓stOf_f, seval]
  refine hK _ ?_
  have htake : (f.pages[k].map encB).take 64 = f.pages[k].map encB := List.take_of_length_le (by simp; omega)
  have hlen : (f.pages.map encP).length = f.pages.length := by simp
  try refine hK _ ?_
  repeat (first | refine awp_seq ?_ | refine awp_block ?_ | refine awp_skip ?_ | refine awp_scope ?_ | refine awp_label ?_)
  refine awp_region tabOk fun K hK => ?_
  simp -dsimp -implicitDefEqProofs only [hk, getD_map, encP, h64, Nat.min_self, htake, push_cast, ↓trAdd_f, ↓stOf_f, seval]
  refine ⟨⟨by omega, by omega⟩, hK _ ?_⟩
  try refine hK _ ?_
  repeat (first | refine awp_seq ?_ | refine awp_block ?_ | refine awp_skip ?_ | refine awp_scope ?_ | refine awp_label ?_)
  refine awp_region tabOk fun K hK => ?_
  simp -dsimp -implicitDefEqProofs only [hk, hlen, push_cast, ↓trAdd_f, ↓stOf_f, seval]
  refine ⟨⟨by omega, by omega⟩, hK _ ?_⟩
  try refine hK _ ?_
  repeat (first | refine awp_seq ?_ | refine awp_block ?_ | refine awp_skip ?_ | refine awp_scope ?_ | refine awp_label ?_)
  refine awp_region tabOk fun K hK => ?_
  simp -dsimp -implicitDefEqProofs only [push_cast, ↓trAdd_f, ↓stOf_f, seval]
  refine hK _ ?_
  have hd1 : (f.pages.map encP).set k (PV.own 56 1 0 64 :: List.drop 1 ((f.pages.map encP).getD k [])) = ownR f.pages k 56 := by
    rw [getD_map encP f.pages k hk]; rfl
  rw [hd1]
  have r1 := ren_ownR f.pages k 1
  have r2 := ok_ownR f.pages k 1 hk
  refine awp_le (s' := { sl := [(4, .ptr 2 0)], st := [(0, .row 1 (ownR f.pages k 1)), (1, .row 1 (f.pages[k].map encB)), (2, .box [.own 0 1 0 f.pages.length, .sl false 1 (f.wear.map encI), .int .i64 f.left, .bool f.down])], nx := 8, n := 24 }) ?_ (awp_ret ?_)
  · refine le_intro hB [(0, 32), (1, 56), (2, 8)] (by simp) (fun b hb => absurd hb (Nat.not_lt_zero b)) rfl ?_ ?_ rfl <;> simp -dsimp -implicitDefEqProofs only [g2, g3, r1, r2, push_cast, ↓trAdd_f, ↓stOf_f, seval]
  simp -dsimp -implicitDefEqProofs only [g3, r2, push_cast, List.mem_append, List.mem_cons, List.mem_singleton, forall_eq_or_imp, forall_eq, ↓trAdd_f, ↓stOf_f, seval]
end Go.Proofs.YtihippjbbcpggaaFw

/-
  Walks: Erase's two functions, do with them.
-/
namespace Go.Proofs.YtihippjbbcpggaaFw
open Go Go.Proofs
set_option maxRecDepth 100000
set_option maxHeartbeats 4000000
set_option linter.unusedVariables false
set_option linter.unusedSimpArgs false

theorem set_encI (w : List Int) (k : Nat) (v : Int) : (w.map encI).set k [.int .i64 v] = (w.set k v).map encI := by rw [List.map_set]; rfl
theorem set_encB (w : List Int) (k : Nat) (v : Int) : (w.map encB).set k [.int .u8 v] = (w.set k v).map encB := by rw [List.map_set]; rfl
theorem bytes_ren (l : List Int) (r : Nat → Nat) : (l.map encB).map (renL r) = l.map encB := map_ren_fz _ (fz_map encB_fz l) r
theorem bytes_okl (l : List Int) (S : Nat → Prop) : (∀ e ∈ l.map encB, okL S e) = True := all_ok_fz _ (fz_map encB_fz l) S
theorem bytes_fz (l : List Int) : (∀ e ∈ l.map encB, ∀ c ∈ e, c.fz = true) = True := eq_true (fz_map encB_fz l)
theorem ints_ren (l : List Int) (r : Nat → Nat) : (l.map encI).map (renL r) = l.map encI := map_ren_fz _ (fz_map encI_fz l) r
theorem ints_okl (l : List Int) (S : Nat → Prop) : (∀ e ∈ l.map encI, okL S e) = True := all_ok_fz _ (fz_map encI_fz l) S
theorem ints_fz (l : List Int) : (∀ e ∈ l.map encI, ∀ c ∈ e, c.fz = true) = True := eq_true (fz_map encI_fz l)
theorem pages_ren (l : List (List Int)) (r : Nat → Nat) : (l.map encP).map (renL r) = l.map encP := map_ren_fz _ (fz_map encP_fz l) r
theorem pages_okl (l : List (List Int)) (S : Nat → Prop) : (∀ e ∈ l.map encP, okL S e) = True := all_ok_fz _ (fz_map encP_fz l) S
theorem pages_fz (l : List (List Int)) : (∀ e ∈ l.map encP, ∀ c ∈ e, c.fz = true) = True := eq_true (fz_map encP_fz l)

/-- What Erase lends to its two functions, and to do. -/
def stE (ps : List (List Int)) (w : List Int) (m : Nat) (left : Int) (down : Bool) (k : Nat) (pg : List Int) : List (Nat × Blk) :=
  [(0, .box [.own 2 1 0 ps.length, .own 4 1 0 m, .int .i64 left, .bool down]), (1, .box [.int .i64 k]), (2, .row 1 (ownR ps k 3)), (3, .row 1 (pg.map encB)), (4, .row 1 (w.map encI))]
def worn (w : List Int) (k : Nat) (h : k < w.length) : List Int := w.set k (min (w[k] + 1) 1099511627776)
theorem erase1_ok (ps : List (List Int)) (w : List Int) (left : Int) (down : Bool) (k : Nat) (pg : List Int) (hk : k < ps.length) (hw : k < w.length) (hpg : pg.length = 64) (hl : ps.length ≤ 80) (hlw : w.length ≤ 80)
    (hv : 0 ≤ w[k] ∧ w[k] ≤ 1099511627776) : FnS Try.prog 37 [.ptr 0 0, .ptr 1 0] (stE ps w w.length left down k pg) (.tup []) (stE ps (worn w k hw) w.length left down k clean64) := by
  have h1 := ownR_len ps k 3
  have h2 := ownR_get ps k 3 hk
  have hcl : (clean64.map encB).length = 64 := by simp [clean64]
  have hct : (clean64.map encB).take 64 = clean64.map encB := List.take_of_length_le (by simp [clean64])
  have hpl : (pg.map encB).length = 64 := by simp [hpg]
  have hpd : (pg.map encB).drop 64 = [] := List.drop_of_length_le (by simp [hpg])
  simp only [stE]
  refine fn_walk tabOk Try.func37 rfl (by decide +kernel) Try.ntmps37 Try.results37 (by simp) fun B hB => ?_
  try refine hK _ ?_
  repeat (first | refine awp_seq ?_ | refine awp_block ?_ | refine awp_skip ?_ | refine awp_scope ?_ | refine awp_label ?_)
  refine awp_draw tabOk (by kernel_rfl) (by kernel_rfl) fun K hK C hC => ?_
  simp -dsimp -implicitDefEqProofs only [h1, h2, push_cast, ↓trAdd_f, ↓stOf_f, seval]
  refine ⟨⟨by omega, by omega⟩, by omega, ?_⟩
  refine callK_simple clean_ok ?_ rfl fun _ => ?_
  · simp -dsimp -implicitDefEqProofs only [push_cast, List.mem_append, List.mem_cons, List.mem_singleton, forall_eq_or_imp, forall_eq, ↓trAdd_f, ↓stOf_f, seval]
  simp -dsimp -implicitDefEqProofs only [hcl, hct, hpl, hpd, Nat.min_self, push_cast, ↓trAdd_f, ↓stOf_f, seval]
  refine ⟨hC _ (by kernel_rfl), hK _ ?_⟩
  have hset := set_encI w k (min (w[k] + 1) 1099511627776)
  have hww : worn w k hw = w.set k (min (w[k] + 1) 1099511627776) := rfl
  try refine hK _ ?_
  repeat (first | refine awp_seq ?_ | refine awp_block ?_ | refine awp_skip ?_ | refine awp_scope ?_ | refine awp_label ?_)
  refine awp_draw tabOk (by kernel_rfl) (by kernel_rfl) fun K hK C hC => ?_
  simp -dsimp -implicitDefEqProofs only [hw, getD_map, encI, push_cast, ↓trAdd_f, ↓stOf_f, seval]
  try simp (disch := omega) only [wrap_i64, wrap_u8, wrap_u16, wrap_u32]
  refine ⟨⟨by omega, by omega⟩, ⟨by omega, by omega⟩, hC _ (by kernel_rfl), hK _ ?_⟩
  rw [hset]
  simp -dsimp -implicitDefEqProofs only [ok_ownR, bytes_okl, ints_okl, hk, hww, encI, push_cast, List.mem_append, List.mem_cons, List.mem_singleton, forall_eq_or_imp, forall_eq, ↓trAdd_f, ↓stOf_f, seval]

def tornP (pg : List Int) : List Int := clean64.take 32 ++ pg.drop 32
theorem erase2_ok (ps : List (List Int)) (w : List Int) (left : Int) (down : Bool) (k : Nat) (pg : List Int) (hk : k < ps.length) (hpg : pg.length = 64) (hl : ps.length ≤ 80) :
    FnS Try.prog 39 [.ptr 0 0, .ptr 1 0] (stE ps w w.length left down k pg) (.tup []) (stE ps w w.length left down k (tornP pg)) := by
  have h1 := ownR_len ps k 3
  have h2 := ownR_get ps k 3 hk
  have hcl : (clean64.map encB).length = 64 := by simp [clean64]
  have hct : ((clean64.map encB).take 32).length = 32 := by simp [clean64]
  have hcu : ((clean64.map encB).take 32).take 64 = (clean64.map encB).take 32 := List.take_of_length_le (by omega)
  have hpl : (pg.map encB).length = 64 := by simp [hpg]
  have htp : (clean64.map encB).take 32 ++ (pg.map encB).drop 32 = (tornP pg).map encB := by simp [tornP]
  simp only [stE]
  refine fn_walk tabOk Try.func39 rfl (by decide +kernel) Try.ntmps39 Try.results39 (by simp) fun B hB => ?_
  try refine hK _ ?_
  repeat (first | refine awp_seq ?_ | refine awp_block ?_ | refine awp_skip ?_ | refine awp_scope ?_ | refine awp_label ?_)
  refine awp_draw tabOk (by kernel_rfl) (by kernel_rfl) fun K hK C hC => ?_
  simp -dsimp -implicitDefEqProofs only [h1, h2, push_cast, ↓trAdd_f, ↓stOf_f, seval]
  refine ⟨⟨by omega, by omega⟩, by omega, ?_⟩
  refine callK_simple clean_ok ?_ rfl fun _ => ?_
  · simp -dsimp -implicitDefEqProofs only [push_cast, List.mem_append, List.mem_cons, List.mem_singleton, forall_eq_or_imp, forall_eq, ↓trAdd_f, ↓stOf_f, seval]
  have hm : min 32 64 = 32 := rfl
  simp -dsimp -implicitDefEqProofs only [hcl, hct, hcu, hm, htp, push_cast, ↓trAdd_f, ↓stOf_f, seval]
  refine ⟨by omega, hC _ (by kernel_rfl), hK _ ?_⟩
  simp -dsimp -implicitDefEqProofs only [ok_ownR, bytes_okl, ints_okl, hk, encI, push_cast, List.mem_append, List.mem_cons, List.mem_singleton, forall_eq_or_imp, forall_eq, ↓trAdd_f, ↓stOf_f, seval]
def decL (left : Int) : Int := if 0 < left then left - 1 else left
theorem do1_torn (ps : List (List Int)) (w : List Int) (down : Bool) (k : Nat) (pg : List Int) (hk : k < ps.length) (hpg : pg.length = 64) (hl : ps.length ≤ 80) :
    FnS Try.prog 40 [.ptr 0 0, .agg [.fn (.func 37) [] [.ptr 0 0, .ptr 1 0], .fn (.func 39) [] [.ptr 0 0, .ptr 1 0]]] (stE ps w w.length 0 down k pg) (.bool false) (stE ps w w.length 0 true k (tornP pg)) := by
  have he := erase2_ok ps w 0 true k pg hk hpg hl
  simp only [stE] at he ⊢
  refine fn_walk tabOk Try.func40 rfl (by decide +kernel) Try.ntmps40 Try.results40 (by simp) fun B hB => ?_
  try refine hK _ ?_
  repeat (first | refine awp_seq ?_ | refine awp_block ?_ | refine awp_skip ?_ | refine awp_scope ?_ | refine awp_label ?_)
  refine awp_region tabOk fun K hK => ?_
  simp -dsimp -implicitDefEqProofs only [push_cast, ↓trAdd_f, ↓stOf_f, seval]
  try refine hK _ ?_
  repeat (first | refine awp_seq ?_ | refine awp_block ?_ | refine awp_skip ?_ | refine awp_scope ?_ | refine awp_label ?_)
  refine awp_region tabOk fun K hK => ?_
  simp -dsimp -implicitDefEqProofs only [push_cast, ↓trAdd_f, ↓stOf_f, seval]
  try refine hK _ ?_
  repeat (first | refine awp_seq ?_ | refine awp_block ?_ | refine awp_skip ?_ | refine awp_scope ?_ | refine awp_label ?_)
  refine awp_cond (b := true) (by simp -dsimp -implicitDefEqProofs only [push_cast, ↓trAdd_f, ↓stOf_f, seval]) (fun h => ?_) (fun h => ?_)
  rotate_left
  · cases h
  try refine hK _ ?_
  repeat (first | refine awp_seq ?_ | refine awp_block ?_ | refine awp_skip ?_ | refine awp_scope ?_ | refine awp_label ?_)
  refine awp_region tabOk fun K hK => ?_
  simp -dsimp -implicitDefEqProofs only [push_cast, ↓trAdd_f, ↓stOf_f, seval]
  refine hK _ ?_
  try refine hK _ ?_
  repeat (first | refine awp_seq ?_ | refine awp_block ?_ | refine awp_skip ?_ | refine awp_scope ?_ | refine awp_label ?_)
  refine awp_region tabOk fun K hK => ?_
  simp -dsimp -implicitDefEqProofs only [push_cast, ↓trAdd_f, ↓stOf_f, seval]
  refine ⟨39, [], [.ptr 0 0, .ptr 1 0], { args := [.ptr 0 0, .ptr 1 0], st0 := stE ps w w.length 0 true k pg, res := .tup [], st1 := stE ps w w.length 0 true k (tornP pg), r := [0, 1, 2, 3, 4] }, rfl, .inl he, ?_, ?_⟩
  · simp -dsimp -implicitDefEqProofs only [stE, ok_ownR, ren_ownR, bytes_okl, ints_okl, bytes_ren, ints_ren, hk, push_cast, List.mem_append, List.mem_cons, List.mem_singleton, forall_eq_or_imp, forall_eq, ↓trAdd_f, ↓stOf_f, seval]
    rfl
  simp -dsimp -implicitDefEqProofs only [stE, ok_ownR, ren_ownR, bytes_okl, ints_okl, bytes_ren, ints_ren, hk, push_cast, ↓trAdd_f, ↓stOf_f, seval]
  refine hK _ ?_
  try refine hK _ ?_
  repeat (first | refine awp_seq ?_ | refine awp_block ?_ | refine awp_skip ?_ | refine awp_scope ?_ | refine awp_label ?_)
  refine awp_region tabOk fun K hK => ?_
  simp -dsimp -implicitDefEqProofs only [push_cast, ↓trAdd_f, ↓stOf_f, seval]
  refine hK _ (awp_ret ?_)
  simp -dsimp -implicitDefEqProofs only [ok_ownR, bytes_okl, ints_okl, hk, push_cast, List.mem_append, List.mem_cons, List.mem_singleton, forall_eq_or_imp, forall_eq, ↓trAdd_f, ↓stOf_f, seval]
theorem do1_whole (ps : List (List Int)) (w : List Int) (left : Int) (down : Bool) (k : Nat) (pg : List Int) (hk : k < ps.length) (hw : k < w.length) (hpg : pg.length = 64) (hl : ps.length ≤ 80) (hlw : w.length ≤ 80)
    (hv : 0 ≤ w[k] ∧ w[k] ≤ 1099511627776) (h0 : left ≠ 0) (hI : -1 ≤ left ∧ left ≤ 9223372036854775807) :
    FnS Try.prog 40 [.ptr 0 0, .agg [.fn (.func 37) [] [.ptr 0 0, .ptr 1 0], .fn (.func 39) [] [.ptr 0 0, .ptr 1 0]]] (stE ps w w.length left down k pg) (.bool true) (stE ps (worn w k hw) w.length (decL left) down k clean64) := by
  have he := erase1_ok ps w (decL left) down k pg hk hw hpg hl hlw hv
  have hl0 : (left == 0) = false := by simpa using h0
  simp only [stE] at he ⊢
  refine fn_walk tabOk Try.func40 rfl (by decide +kernel) Try.ntmps40 Try.results40 (by simp) fun B hB => ?_
  try refine hK _ ?_
  repeat (first | refine awp_seq ?_ | refine awp_block ?_ | refine awp_skip ?_ | refine awp_scope ?_ | refine awp_label ?_)
  refine awp_region tabOk fun K hK => ?_
  simp -dsimp -implicitDefEqProofs only [push_cast, ↓trAdd_f, ↓stOf_f, seval]
  refine hK _ ?_
  refine awp_seq ?_
  refine awp_join ({ sl := [(3, .ptr 5 0)], st := [(0, .box [.own 2 1 0 ps.length, .own 4 1 0 w.length, .int .i64 (decL left), .bool down]), (1, .box [.int .i64 k]), (2, .row 1 (ownR ps k 3)), (3, .row 1 (pg.map encB)), (4, .row 1 (w.map encI)), (5, .box [.fn (.func 37) [] [.ptr 0 0, .ptr 1 0], .fn (.func 39) [] [.ptr 0 0, .ptr 1 0]])], nx := 13, n := 33 }) ?_ (fun _ hl h => awp_le hl h) ?_
  · try refine hK _ ?_
    repeat (first | refine awp_seq ?_ | refine awp_block ?_ | refine awp_skip ?_ | refine awp_scope ?_ | refine awp_label ?_)
    refine awp_region tabOk fun K hK => ?_
    simp -dsimp -implicitDefEqProofs only [hl0, push_cast, ↓trAdd_f, ↓stOf_f, seval]
    try refine hK _ ?_
    repeat (first | refine awp_seq ?_ | refine awp_block ?_ | refine awp_skip ?_ | refine awp_scope ?_ | refine awp_label ?_)
    refine awp_cond (b := false) (by simp -dsimp -implicitDefEqProofs only [push_cast, ↓trAdd_f, ↓stOf_f, seval]) (fun h => ?_) (fun h => ?_)
    · cases h
    try refine hK _ ?_
    repeat (first | refine awp_seq ?_ | refine awp_block ?_ | refine awp_skip ?_ | refine awp_scope ?_ | refine awp_label ?_)
    refine awp_region tabOk fun K hK => ?_
    simp -dsimp -implicitDefEqProofs only [push_cast, ↓trAdd_f, ↓stOf_f, seval]
    try refine hK _ ?_
    repeat (first | refine awp_seq ?_ | refine awp_block ?_ | refine awp_skip ?_ | refine awp_scope ?_ | refine awp_label ?_)
    refine awp_cond (b := decide (0 < left)) (by simp -dsimp -implicitDefEqProofs only [push_cast, ↓trAdd_f, ↓stOf_f, seval]) (fun h => ?_) (fun h => ?_)
    · have hp : 0 < left := by simpa using h
      have hd : decL left = left - 1 := if_pos hp
      try refine hK _ ?_
      repeat (first | refine awp_seq ?_ | refine awp_block ?_ | refine awp_skip ?_ | refine awp_scope ?_ | refine awp_label ?_)
      refine awp_region tabOk fun K hK => ?_
      simp -dsimp -implicitDefEqProofs only [push_cast, ↓trAdd_f, ↓stOf_f, seval]
      try simp (disch := omega) only [wrap_i64, wrap_u8, wrap_u16, wrap_u32]
      refine hK _ ?_
      refine le_intro hB [] (by simp) (fun b _ => rfl) rfl ?_ ?_ rfl <;> simp -dsimp -implicitDefEqProofs only [ren_ownR, ok_ownR, bytes_okl, ints_okl, bytes_ren, ints_ren, hk, hd, push_cast, ↓trAdd_f, ↓stOf_f, seval]
    · have hp : ¬ 0 < left := by simpa using h
      have hd : decL left = left := if_neg hp
      refine awp_skip ?_
      refine le_intro hB [] (by simp) (fun b _ => rfl) rfl ?_ ?_ rfl <;> simp -dsimp -implicitDefEqProofs only [ren_ownR, ok_ownR, bytes_okl, ints_okl, bytes_ren, ints_ren, hk, hd, push_cast, ↓trAdd_f, ↓stOf_f, seval]
  try refine hK _ ?_
  repeat (first | refine awp_seq ?_ | refine awp_block ?_ | refine awp_skip ?_ | refine awp_scope ?_ | refine awp_label ?_)
  refine awp_region tabOk fun K hK => ?_
  simp -dsimp -implicitDefEqProofs only [push_cast, ↓trAdd_f, ↓stOf_f, seval]
  refine ⟨37, [], [.ptr 0 0, .ptr 1 0], { args := [.ptr 0 0, .ptr 1 0], st0 := stE ps w w.length (decL left) down k pg, res := .tup [], st1 := stE ps (worn w k hw) w.length (decL left) down k clean64, r := [0, 1, 2, 3, 4] }, rfl, .inl he, ?_, ?_⟩
  · simp -dsimp -implicitDefEqProofs only [stE, ok_ownR, ren_ownR, bytes_okl, ints_okl, bytes_ren, ints_ren, hk, push_cast, List.mem_append, List.mem_cons, List.mem_singleton, forall_eq_or_imp, forall_eq, ↓trAdd_f, ↓stOf_f, seval]
    rfl
  simp -dsimp -implicitDefEqProofs only [stE, ok_ownR, ren_ownR, bytes_okl, ints_okl, bytes_ren, ints_ren, hk, push_cast, ↓trAdd_f, ↓stOf_f, seval]
  refine hK _ ?_
  try refine hK _ ?_
  repeat (first | refine awp_seq ?_ | refine awp_block ?_ | refine awp_skip ?_ | refine awp_scope ?_ | refine awp_label ?_)
  refine awp_region tabOk fun K hK => ?_
  simp -dsimp -implicitDefEqProofs only [push_cast, ↓trAdd_f, ↓stOf_f, seval]
  refine hK _ (awp_ret ?_)
  simp -dsimp -implicitDefEqProofs only [ok_ownR, bytes_okl, ints_okl, hk, push_cast, List.mem_append, List.mem_cons, List.mem_singleton, forall_eq_or_imp, forall_eq, ↓trAdd_f, ↓stOf_f, seval]
end Go.Proofs.YtihippjbbcpggaaFw
