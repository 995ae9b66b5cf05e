import Derived.Test.YtoifmpiikopelaaDoorFwTab
import Derived.Test.YtoifmpiikopelaaDoorFwZ3
/-
  What an operation's evaluation may use.
-/
namespace Go.Proofs.YtoifmpiikopelaaDoorFw
open Go Go.Proofs
set_option linter.unusedVariables false
set_option linter.unusedSimpArgs false
attribute [push_cast] take_map_len List.length_append List.all_cons List.all_nil PV.scalar PV.scalarA PV.scalarC seenV ids idsA idsC List.forall_mem_cons List.not_mem_nil forall_nil_i evalOps_nil and_fold andNot_fold implies_true imp_self_i false_imp_i evalOps_op evalOps_guard optK_some guardK_tt guardK_ff guardK_tf guardK_ft guardK_und opK fstep dstOf gv fitsN AS.app ins del insO insAll delAll initS argSlots ev pvConst pvCell fPick fBin fUn fEq fLen fMax fIndexAddr fIndex fFieldAddr fField fLoad fStore fAlloc fBox fBuild fFill fBuildSlice fMake fAppend fCopy fNilS fConvS fMakeC isC64 fCap fIface rowOf chunks zeroRow outP TI.n TI.isAgg splice PV.cells PV.celled fExtract fNil fConv fConvB fCmp fEqA eqCells eqLeaf likeCells likeLeaf ofKinds ofKind fSlice optI asI stOf trAdd reach idOf named named.namedL inBlk restr writes Op.operands Call.operands List.flatMap_cons List.flatMap_nil List.contains_cons List.contains_nil BEq.rfl AS.get getPV lk Int.cast_ofNat_Int Int.natCast_one int_toNat_zero_i Nat.sub_zero Int.natCast_zero Int.zero_add decide_true decide_false Nat.le_refl Nat.zero_add Nat.add_zero or_true true_or or_false false_or if_true if_false true_and and_true and_self Bool.not_true Bool.not_false cond_true cond_false Bool.true_eq_false Bool.false_eq_true ne_eq not_false_eq_true not_true_eq_false Bool.and_true Bool.true_and Bool.and_false Bool.false_and Bool.or_true Bool.true_or Bool.or_false Bool.false_or List.isEmpty_nil List.map_cons List.map_nil List.length_cons List.length_nil List.length_map List.getD_cons_zero List.getD_cons_succ List.getD_nil List.getElem?_cons_zero List.getElem?_cons_succ List.getElem?_nil List.take_succ_cons List.take_zero List.take_nil List.drop_succ_cons List.drop_zero List.drop_nil List.nil_append List.cons_append List.append_nil Option.getD_some Option.getD_none Option.map_some Option.map_none Int.toNat_natCast T_1 T_2 T_3 T_4 T_5 T_6 T_7 T_8 T_9 T_10 T_11 T_12 T_13 T_14 T_15 T_16 T_17 T_18 T_19 T_21 T_22 T_23 T_24 T_25 T_26 T_27 T_28 T_29 T_30 T_31 T_33 T_34 T_35 T_37 T_38 T_39 T_40 T_42 T_43 T_44 T_45 T_46 T_47 T_49 T_51 T_52 T_53 T_54 T_55 T_56 T_58 T_59 T_60 T_61 T_63 T_64 T_65 T_66 T_67 T_68 T_69 T_70 T_72 T_73 T_74 T_75 T_76 T_77 T_78 T_79 T_80 T_81 T_82 T_83 T_84 T_85 T_86 T_87 T_88 T_89 T_90 T_92 T_94 T_95 T_96 T_97 T_98 T_99 T_100 T_101 T_102 T_103 T_104 T_105 T_106 T_107 T_108 T_109 T_110 T_111 T_112 T_113 T_114 T_115 T_116 T_117 T_118 T_121 T_122 T_123 T_124 T_125 T_126 T_127 T_128 T_129 T_130 T_131 T_132 T_133 T_136 T_137 T_138 T_139 T_140 T_142 T_143 T_145 T_146 T_147 T_148 T_152 T_154 T_155 T_157 T_158 T_160 T_161 T_162 T_163 T_164 T_165 T_166 T_167 T_168 T_169 T_170 T_171 T_172 T_173 T_174 T_175 T_176 T_177 T_178 T_179 T_180 T_181 T_182 T_183 T_184 T_185 T_187 T_188 T_189 T_190 T_191 T_192 T_193 T_194 T_195 List.forall_mem_append Int.natCast_add slotsLe storeLe PV.ren renL renG PV.ok okL Blk.ren Blk.ok distinct wk wkA wkAL wkC wkL wkB blkLe List.cons.injEq PV.int.injEq PV.bool.injEq endOk endOkP resVals joinRes view viewA viewC viewOk viewOkA viewOkC storeEnd PV.fz fzL argsV fCall argsOk argOk lentOk CallO.ren CallO.keep seenIds blksOk List.isEmpty_cons range_one_i Option.some.injEq Blk.box.injEq Blk.row.injEq AS.frz frzOkA frzOkC frzOkB frzA frzC frzB List.length_set Option.isSome_some
end Go.Proofs.YtoifmpiikopelaaDoorFw

/-
  Walks: bytes.Equal, slices.Equal, the documents' Same and SameBytes.
-/
namespace Go.Proofs.YtoifmpiikopelaaDoorFw
open Go Go.Proofs
set_option maxRecDepth 100000
set_option maxHeartbeats 4000000
set_option linter.unusedVariables false
set_option linter.unusedSimpArgs false

def encB (n : Int) : List PV := [.int .u8 n]
theorem encB_fz (n : Int) : ∀ c ∈ encB n, c.fz = true := by simp [encB, PV.fz]
def byte (n : Int) : Prop := 0 ≤ n ∧ n ≤ 255
theorem ba_loop (l : List UInt8) : ∀ (k i : Nat) (r : List UInt8), l.length - i = k → ByteArray.toList.loop ⟨l.toArray⟩ i r = r.reverse ++ l.drop i
  | 0, i, r, h => by
    unfold ByteArray.toList.loop
    have h1 : ¬ i < (⟨l.toArray⟩ : ByteArray).size := by show ¬ i < l.toArray.size; simp; omega
    rw [if_neg h1, List.drop_of_length_le (by omega), List.append_nil]
  | k + 1, i, r, h => by
    unfold ByteArray.toList.loop
    have hi : i < l.length := by omega
    have h1 : i < (⟨l.toArray⟩ : ByteArray).size := by show i < l.toArray.size; simpa using hi
    rw [if_pos h1, ba_loop l k (i + 1) _ (by omega), List.drop_eq_getElem_cons hi]
    have : (⟨l.toArray⟩ : ByteArray).get! i = l[i] := by
      show l.toArray[i]! = l[i]
      simp [hi]
    rw [this]; simp
theorem ba_toList (l : List UInt8) : (⟨l.toArray⟩ : ByteArray).toList = l := by
  unfold ByteArray.toList
  rw [ba_loop l l.length 0 [] (by omega)]; rfl
theorem u8_inj : ∀ (a b : List Int), (∀ x ∈ a, byte x) → (∀ x ∈ b, byte x) → (a.map encB).map leafByte = (b.map encB).map leafByte → a = b
  | [], [], _, _, _ => rfl
  | [], _ :: _, _, _, h => by simp at h
  | _ :: _, [], _, _, h => by simp at h
  | x :: a, y :: b, ha, hb, h => by
    simp only [List.map_cons, List.cons.injEq] at h
    have h1 := ha x (by simp)
    have h2 := hb y (by simp)
    have h3 := congrArg UInt8.toNat h.1
    simp only [leafByte, encB, UInt8.toNat_ofNat'] at h3
    unfold byte at h1 h2
    have : x = y := by omega
    rw [this, u8_inj a b (fun z hz => ha z (by simp [hz])) (fun z hz => hb z (by simp [hz])) h.2]
theorem bytes_eq {a b : List Int} (ha : ∀ x ∈ a, byte x) (hb : ∀ x ∈ b, byte x) : ((bytesOf (a.map encB)).toList == (bytesOf (b.map encB)).toList) = decide (a = b) := by
  unfold bytesOf
  rw [ba_toList, ba_toList]
  rw [Bool.eq_iff_iff]
  simp only [beq_iff_eq, decide_eq_true_eq]
  exact ⟨u8_inj a b ha hb, fun h => by rw [h]⟩
theorem isByte_enc (a : List Int) : ∀ e ∈ a.map encB, isByte e := by
  intro e he
  obtain ⟨x, _, rfl⟩ := List.mem_map.1 he
  trivial
theorem equal_ok (t t' : Bool) (a b : List Int) (ha : ∀ x ∈ a, byte x) (hb : ∀ x ∈ b, byte x) : FnS Tryd.prog 52 [.sl t 1 (a.map encB), .sl t' 1 (b.map encB)] [] (.bool (decide (a = b))) [] := by
  have he := bytes_eq ha hb
  refine fn_walk tabOk Tryd.func52 rfl (by decide +kernel) Tryd.ntmps52 Tryd.results52 (by simp) fun B hB => ?_
  try refine hK _ ?_
  repeat (first | refine awp_seq ?_ | refine awp_block ?_ | refine awp_skip ?_ | refine awp_scope ?_ | refine awp_label ?_)
  refine awp_region tabOk fun K hK => ?_
  simp -dsimp -implicitDefEqProofs only [push_cast, ↓trAdd_f, ↓stOf_f, seval]
  try refine hK _ ?_
  repeat (first | refine awp_seq ?_ | refine awp_block ?_ | refine awp_skip ?_ | refine awp_scope ?_ | refine awp_label ?_)
  refine awp_region tabOk fun K hK => ?_
  simp -dsimp -implicitDefEqProofs only [he, push_cast, ↓trAdd_f, ↓stOf_f, seval]
  refine ⟨isByte_enc a, isByte_enc b, hK _ (awp_ret ?_)⟩
  simp -dsimp -implicitDefEqProofs only [push_cast, List.mem_append, List.mem_cons, List.mem_singleton, forall_eq_or_imp, forall_eq, ↓trAdd_f, ↓stOf_f, seval]
theorem sameBytes_ok (t t' : Bool) (a b : List Int) (ha : ∀ x ∈ a, byte x) (hb : ∀ x ∈ b, byte x) : FnS Tryd.prog 19 [.sl t 1 (a.map encB), .sl t' 1 (b.map encB)] [] (.bool (decide (a = b))) [] := by
  have he := bytes_eq ha hb
  refine fn_walk tabOk Tryd.func19 rfl (by decide +kernel) Tryd.ntmps19 Tryd.results19 (by simp) fun B hB => ?_
  try refine hK _ ?_
  repeat (first | refine awp_seq ?_ | refine awp_block ?_ | refine awp_skip ?_ | refine awp_scope ?_ | refine awp_label ?_)
  refine awp_region tabOk fun K hK => ?_
  simp -dsimp -implicitDefEqProofs only [push_cast, ↓trAdd_f, ↓stOf_f, seval]
  try refine hK _ ?_
  repeat (first | refine awp_seq ?_ | refine awp_block ?_ | refine awp_skip ?_ | refine awp_scope ?_ | refine awp_label ?_)
  refine awp_region tabOk fun K hK => ?_
  simp -dsimp -implicitDefEqProofs only [he, push_cast, ↓trAdd_f, ↓stOf_f, seval]
  refine ⟨isByte_enc a, isByte_enc b, hK _ (awp_ret ?_)⟩
  simp -dsimp -implicitDefEqProofs only [push_cast, List.mem_append, List.mem_cons, List.mem_singleton, forall_eq_or_imp, forall_eq, ↓trAdd_f, ↓stOf_f, seval]
def encI (n : Int) : List PV := [.int .i64 n]
theorem encI_fz (n : Int) : ∀ c ∈ encI n, c.fz = true := by simp [encI, PV.fz]
theorem refSame_ok (t t' : Bool) (l m : List Int) (hn : l.length ≤ 2 ^ 40) : FnS Tryd.prog 69 [.sl t 1 (l.map encI), .sl t' 1 (m.map encI)] [] (.bool (decide (l = m))) [] := by
  refine fn_walk tabOk Tryd.func69 rfl (by decide +kernel) Tryd.ntmps69 Tryd.results69 (by simp) fun B hB => ?_
  try refine hK _ ?_
  repeat (first | refine awp_seq ?_ | refine awp_block ?_ | refine awp_skip ?_ | refine awp_scope ?_ | refine awp_label ?_)
  refine awp_region tabOk fun K hK => ?_
  simp -dsimp -implicitDefEqProofs only [push_cast, ↓trAdd_f, ↓stOf_f, seval]
  try refine hK _ ?_
  repeat (first | refine awp_seq ?_ | refine awp_block ?_ | refine awp_skip ?_ | refine awp_scope ?_ | refine awp_label ?_)
  refine awp_region tabOk fun K hK => ?_
  simp -dsimp -implicitDefEqProofs only [push_cast, ↓trAdd_f, ↓stOf_f, seval]
  try refine hK _ ?_
  repeat (first | refine awp_seq ?_ | refine awp_block ?_ | refine awp_skip ?_ | refine awp_scope ?_ | refine awp_label ?_)
  refine awp_cond (b := (l.length : Int) != m.length) (by simp -dsimp -implicitDefEqProofs only [push_cast, ↓trAdd_f, ↓stOf_f, seval]) (fun h => ?_) (fun h => ?_)
  · try refine hK _ ?_
    repeat (first | refine awp_seq ?_ | refine awp_block ?_ | refine awp_skip ?_ | refine awp_scope ?_ | refine awp_label ?_)
    refine awp_region tabOk fun K hK => ?_
    simp -dsimp -implicitDefEqProofs only [push_cast, ↓trAdd_f, ↓stOf_f, seval]
    refine hK _ (awp_ret ?_)
    have : l ≠ m := fun e => by subst e; simp at h
    simp -dsimp -implicitDefEqProofs only [this, decide_false, push_cast, List.mem_append, List.mem_cons, List.mem_singleton, forall_eq_or_imp, forall_eq, ↓trAdd_f, ↓stOf_f, seval]
  · have hlen : l.length = m.length := by simp at h; omega
    try refine hK _ ?_
    repeat (first | refine awp_seq ?_ | refine awp_block ?_ | refine awp_skip ?_ | refine awp_scope ?_ | refine awp_label ?_)
    refine awp_region tabOk fun K hK => ?_
    simp -dsimp -implicitDefEqProofs only [push_cast, ↓trAdd_f, ↓stOf_f, seval]
    refine hK _ (awp_block ?_)
    refine awp_for (fun k : Nat => { sl := [(0, .sl t 1 (l.map encI)), (1, .sl t' 1 (m.map encI)), (5, .int .i64 k)], st := [], nx := 0, n := 26 }) (fun k => k ≤ l.length ∧ l.take k = m.take k) (fun k => l.length - k) 0 ⟨Nat.zero_le _, rfl⟩ ?_ fun k hk => ?_
    · refine le_intro hB [] (by simp) (fun b _ => rfl) rfl ?_ ?_ rfl <;> simp -dsimp -implicitDefEqProofs only [push_cast, ↓trAdd_f, ↓stOf_f, seval]
    · try refine hK _ ?_
      repeat (first | refine awp_seq ?_ | refine awp_block ?_ | refine awp_skip ?_ | refine awp_scope ?_ | refine awp_label ?_)
      refine awp_region tabOk fun K hK => ?_
      simp -dsimp -implicitDefEqProofs only [push_cast, ↓trAdd_f, ↓stOf_f, seval]
      try refine hK _ ?_
      repeat (first | refine awp_seq ?_ | refine awp_block ?_ | refine awp_skip ?_ | refine awp_scope ?_ | refine awp_label ?_)
      refine awp_cond (b := decide ((k : Int) < l.length)) (by simp -dsimp -implicitDefEqProofs only [push_cast, ↓trAdd_f, ↓stOf_f, seval]) (fun h => ?_) (fun h => ?_)
      · have hlt : k < l.length := by simpa using h
        have hlt' : k < m.length := by omega
        try refine hK _ ?_
        repeat (first | refine awp_seq ?_ | refine awp_block ?_ | refine awp_skip ?_ | refine awp_scope ?_ | refine awp_label ?_)
        refine awp_draw tabOk (by kernel_rfl) (by kernel_rfl) fun K hK C hC => ?_
        simp -dsimp -implicitDefEqProofs only [hlt, hlt', getD_map, encI, push_cast, ↓trAdd_f, ↓stOf_f, seval]
        refine ⟨⟨by omega, by omega⟩, ⟨by omega, by omega⟩, hC _ (by kernel_rfl), ?_⟩
        try refine hK _ ?_
        repeat (first | refine awp_seq ?_ | refine awp_block ?_ | refine awp_skip ?_ | refine awp_scope ?_ | refine awp_label ?_)
        refine awp_cond (b := l[k] != m[k]) (by simp -dsimp -implicitDefEqProofs only [push_cast, ↓trAdd_f, ↓stOf_f, seval]) (fun h => ?_) (fun h => ?_)
        · try refine hK _ ?_
          repeat (first | refine awp_seq ?_ | refine awp_block ?_ | refine awp_skip ?_ | refine awp_scope ?_ | refine awp_label ?_)
          refine awp_region tabOk fun K hK => ?_
          simp -dsimp -implicitDefEqProofs only [push_cast, ↓trAdd_f, ↓stOf_f, seval]
          refine hK _ (awp_ret ?_)
          have hne : l[k] ≠ m[k] := by simpa using h
          have : l ≠ m := fun e => hne (by subst e; rfl)
          simp -dsimp -implicitDefEqProofs only [this, decide_false, push_cast, List.mem_append, List.mem_cons, List.mem_singleton, forall_eq_or_imp, forall_eq, ↓trAdd_f, ↓stOf_f, seval]
        · have he : l[k] = m[k] := by simpa using h
          try refine hK _ ?_
          repeat (first | refine awp_seq ?_ | refine awp_block ?_ | refine awp_skip ?_ | refine awp_scope ?_ | refine awp_label ?_)
          refine awp_region tabOk fun K hK => ?_
          simp -dsimp -implicitDefEqProofs only [push_cast, ↓trAdd_f, ↓stOf_f, seval]
          try simp (disch := omega) only [wrap_i64, wrap_u8, wrap_u16, wrap_u32]
          refine hK _ ⟨k + 1, ⟨hlt, ?_⟩, by omega, ?_⟩
          · rw [List.take_succ_eq_append_getElem hlt, List.take_succ_eq_append_getElem hlt', hk.2, he]
          refine le_intro hB [] (by simp) (fun b _ => rfl) rfl ?_ ?_ rfl <;> simp -dsimp -implicitDefEqProofs only [push_cast, ↓trAdd_f, ↓stOf_f, seval]
      · have he : k = l.length := by have := hk.1; simp at h; omega
        subst he
        refine awp_exit rfl ?_
        try refine hK _ ?_
        repeat (first | refine awp_seq ?_ | refine awp_block ?_ | refine awp_skip ?_ | refine awp_scope ?_ | refine awp_label ?_)
        refine awp_region tabOk fun K hK => ?_
        simp -dsimp -implicitDefEqProofs only [push_cast, ↓trAdd_f, ↓stOf_f, seval]
        refine hK _ (awp_ret ?_)
        have : l = m := by have := hk.2; rwa [List.take_length, hlen, List.take_length] at this
        simp -dsimp -implicitDefEqProofs only [this, decide_true, push_cast, List.mem_append, List.mem_cons, List.mem_singleton, forall_eq_or_imp, forall_eq, ↓trAdd_f, ↓stOf_f, seval]
theorem slicesEqual_ok (t t' : Bool) (l m : List Int) (hn : l.length ≤ 2 ^ 40) : FnS Tryd.prog 53 [.sl t 1 (l.map encI), .sl t' 1 (m.map encI)] [] (.bool (decide (l = m))) [] := by
  refine fn_walk tabOk Tryd.func53 rfl (by decide +kernel) Tryd.ntmps53 Tryd.results53 (by simp) fun B hB => ?_
  try refine hK _ ?_
  repeat (first | refine awp_seq ?_ | refine awp_block ?_ | refine awp_skip ?_ | refine awp_scope ?_ | refine awp_label ?_)
  refine awp_region tabOk fun K hK => ?_
  simp -dsimp -implicitDefEqProofs only [push_cast, ↓trAdd_f, ↓stOf_f, seval]
  try refine hK _ ?_
  repeat (first | refine awp_seq ?_ | refine awp_block ?_ | refine awp_skip ?_ | refine awp_scope ?_ | refine awp_label ?_)
  refine awp_region tabOk fun K hK => ?_
  simp -dsimp -implicitDefEqProofs only [push_cast, ↓trAdd_f, ↓stOf_f, seval]
  try refine hK _ ?_
  repeat (first | refine awp_seq ?_ | refine awp_block ?_ | refine awp_skip ?_ | refine awp_scope ?_ | refine awp_label ?_)
  refine awp_cond (b := (l.length : Int) != m.length) (by simp -dsimp -implicitDefEqProofs only [push_cast, ↓trAdd_f, ↓stOf_f, seval]) (fun h => ?_) (fun h => ?_)
  · try refine hK _ ?_
    repeat (first | refine awp_seq ?_ | refine awp_block ?_ | refine awp_skip ?_ | refine awp_scope ?_ | refine awp_label ?_)
    refine awp_region tabOk fun K hK => ?_
    simp -dsimp -implicitDefEqProofs only [push_cast, ↓trAdd_f, ↓stOf_f, seval]
    refine hK _ (awp_ret ?_)
    have : l ≠ m := fun e => by subst e; simp at h
    simp -dsimp -implicitDefEqProofs only [this, decide_false, push_cast, List.mem_append, List.mem_cons, List.mem_singleton, forall_eq_or_imp, forall_eq, ↓trAdd_f, ↓stOf_f, seval]
  · have hlen : l.length = m.length := by simp at h; omega
    try refine hK _ ?_
    repeat (first | refine awp_seq ?_ | refine awp_block ?_ | refine awp_skip ?_ | refine awp_scope ?_ | refine awp_label ?_)
    refine awp_region tabOk fun K hK => ?_
    simp -dsimp -implicitDefEqProofs only [push_cast, ↓trAdd_f, ↓stOf_f, seval]
    refine hK _ (awp_block ?_)
    refine awp_for (fun k : Nat => { sl := [(0, .sl t 1 (l.map encI)), (1, .sl t' 1 (m.map encI)), (12, .int .i64 l.length), (13, .int .i64 k)], st := [], nx := 0, n := 26 }) (fun k => k ≤ l.length ∧ l.take k = m.take k) (fun k => l.length - k) 0 ⟨Nat.zero_le _, rfl⟩ ?_ fun k hk => ?_
    · refine le_intro hB [] (by simp) (fun b _ => rfl) rfl ?_ ?_ rfl <;> simp -dsimp -implicitDefEqProofs only [push_cast, ↓trAdd_f, ↓stOf_f, seval]
    · try refine hK _ ?_
      repeat (first | refine awp_seq ?_ | refine awp_block ?_ | refine awp_skip ?_ | refine awp_scope ?_ | refine awp_label ?_)
      refine awp_region tabOk fun K hK => ?_
      simp -dsimp -implicitDefEqProofs only [push_cast, ↓trAdd_f, ↓stOf_f, seval]
      try refine hK _ ?_
      repeat (first | refine awp_seq ?_ | refine awp_block ?_ | refine awp_skip ?_ | refine awp_scope ?_ | refine awp_label ?_)
      refine awp_cond (b := decide ((k : Int) < l.length)) (by simp -dsimp -implicitDefEqProofs only [push_cast, ↓trAdd_f, ↓stOf_f, seval]) (fun h => ?_) (fun h => ?_)
      · have hlt : k < l.length := by simpa using h
        have hlt' : k < m.length := by omega
        try refine hK _ ?_
        repeat (first | refine awp_seq ?_ | refine awp_block ?_ | refine awp_skip ?_ | refine awp_scope ?_ | refine awp_label ?_)
        refine awp_region tabOk fun K hK => ?_
        simp -dsimp -implicitDefEqProofs only [push_cast, ↓trAdd_f, ↓stOf_f, seval]
        try refine hK _ ?_
        repeat (first | refine awp_seq ?_ | refine awp_block ?_ | refine awp_skip ?_ | refine awp_scope ?_ | refine awp_label ?_)
        refine awp_draw tabOk (by kernel_rfl) (by kernel_rfl) fun K hK C hC => ?_
        simp -dsimp -implicitDefEqProofs only [hlt, hlt', getD_map, encI, push_cast, ↓trAdd_f, ↓stOf_f, seval]
        refine ⟨⟨by omega, by omega⟩, ⟨by omega, by omega⟩, hC _ (by kernel_rfl), ?_⟩
        try refine hK _ ?_
        repeat (first | refine awp_seq ?_ | refine awp_block ?_ | refine awp_skip ?_ | refine awp_scope ?_ | refine awp_label ?_)
        refine awp_cond (b := l[k] != m[k]) (by simp -dsimp -implicitDefEqProofs only [push_cast, ↓trAdd_f, ↓stOf_f, seval]) (fun h => ?_) (fun h => ?_)
        · try refine hK _ ?_
          repeat (first | refine awp_seq ?_ | refine awp_block ?_ | refine awp_skip ?_ | refine awp_scope ?_ | refine awp_label ?_)
          refine awp_region tabOk fun K hK => ?_
          simp -dsimp -implicitDefEqProofs only [push_cast, ↓trAdd_f, ↓stOf_f, seval]
          refine hK _ (awp_ret ?_)
          have hne : l[k] ≠ m[k] := by simpa using h
          have : l ≠ m := fun e => hne (by subst e; rfl)
          simp -dsimp -implicitDefEqProofs only [this, decide_false, push_cast, List.mem_append, List.mem_cons, List.mem_singleton, forall_eq_or_imp, forall_eq, ↓trAdd_f, ↓stOf_f, seval]
        · have he : l[k] = m[k] := by simpa using h
          try refine hK _ ?_
          repeat (first | refine awp_seq ?_ | refine awp_block ?_ | refine awp_skip ?_ | refine awp_scope ?_ | refine awp_label ?_)
          refine awp_region tabOk fun K hK => ?_
          simp -dsimp -implicitDefEqProofs only [push_cast, ↓trAdd_f, ↓stOf_f, seval]
          try simp (disch := omega) only [wrap_i64, wrap_u8, wrap_u16, wrap_u32]
          refine hK _ ⟨k + 1, ⟨hlt, ?_⟩, by omega, ?_⟩
          · rw [List.take_succ_eq_append_getElem hlt, List.take_succ_eq_append_getElem hlt', hk.2, he]
          refine le_intro hB [] (by simp) (fun b _ => rfl) rfl ?_ ?_ rfl <;> simp -dsimp -implicitDefEqProofs only [push_cast, ↓trAdd_f, ↓stOf_f, seval]
      · have he : k = l.length := by have := hk.1; simp at h; omega
        subst he
        refine awp_exit rfl ?_
        try refine hK _ ?_
        repeat (first | refine awp_seq ?_ | refine awp_block ?_ | refine awp_skip ?_ | refine awp_scope ?_ | refine awp_label ?_)
        refine awp_region tabOk fun K hK => ?_
        simp -dsimp -implicitDefEqProofs only [push_cast, ↓trAdd_f, ↓stOf_f, seval]
        refine hK _ (awp_ret ?_)
        have : l = m := by have := hk.2; rwa [List.take_length, hlen, List.take_length] at this
        simp -dsimp -implicitDefEqProofs only [this, decide_true, push_cast, List.mem_append, List.mem_cons, List.mem_singleton, forall_eq_or_imp, forall_eq, ↓trAdd_f, ↓stOf_f, seval]
end Go.Proofs.YtoifmpiikopelaaDoorFw

/-
  Walks: bytes.Buffer, as slot's writer uses it: nil at first, then a row of 64.
-/
namespace Go.Proofs.YtoifmpiikopelaaDoorFw
open Go Go.Proofs
set_option maxRecDepth 100000
set_option maxHeartbeats 4000000
set_option linter.unusedVariables false
set_option linter.unusedSimpArgs false

/-- At the end, too, less may be said. -/
theorem awp_weak {P : Program} {B : Base} {Q : Post} {s : AS} {c : Code} (h : AWp P B c { Q with n := fun s1 => ∃ s2, s1.le B s2 ∧ Q.n s2 } s) : AWp P B c Q s := fun a w hs => by
  refine wp_mono (h a w hs) ?_
  rintro e a' w' ⟨s1, h1, h2⟩
  cases e with
  | normal => obtain ⟨s2, h3, h4⟩ := h1; exact ⟨s2, h4, h3 a' w' h2⟩
  | _ => exact ⟨s1, h1, h2⟩
/-- A buffer's row of 64, behind so many bytes. -/
def bufR (bs : List Int) : List (List PV) := (bs ++ List.replicate (64 - bs.length) 0).map encB
theorem bufR_len {bs : List Int} (h : bs.length ≤ 64) : (bufR bs).length = 64 := by simp [bufR]; omega
theorem bufR_fz (bs : List Int) : ∀ e ∈ bufR bs, ∀ c ∈ e, c.fz = true := fz_map encB_fz _
theorem bufR_ren (bs : List Int) (r : Nat → Nat) : (bufR bs).map (renL r) = bufR bs := map_ren_fz _ (bufR_fz bs) r
theorem bufR_ok (bs : List Int) (S : Nat → Prop) : (∀ e ∈ bufR bs, okL S e) = True := all_ok_fz _ (bufR_fz bs) S
theorem bufR_nil : List.replicate 64 [PV.int .u8 0] = bufR [] := rfl
theorem bufR_set {bs : List Int} (h : bs.length < 64) (x : Int) : (bufR bs).set bs.length [.int .u8 x] = bufR (bs ++ [x]) := by
  unfold bufR
  have e : ([PV.int .u8 x] : List PV) = encB x := rfl
  rw [e, ← List.map_set, List.set_append_right _ _ (Nat.le_refl _), Nat.sub_self, List.length_append, List.append_assoc]
  congr 2
  have : 64 - bs.length = (64 - (bs.length + 1)) + 1 := by omega
  rw [this, List.replicate_succ]
  rfl
theorem bufR_getD {bs : List Int} {i : Nat} (h : i < 64) (hb : bs.length ≤ 64) : ∃ x, (bufR bs).getD i [] = [.int .u8 x] := by
  refine ⟨(bs ++ List.replicate (64 - bs.length) 0)[i]'(by simp; omega), ?_⟩
  unfold bufR
  rw [getD_map encB _ i (by simp; omega)]
  rfl
/-- What a buffer lends. -/
def stB (bs : List Int) : List (Nat × Blk) := [(0, .box [.ownc 1 1 0 bs.length 64, .int .i64 0, .int .i8 0]), (1, .row 1 (bufR bs))]
def stN : List (Nat × Blk) := [(0, .box [.val .nils, .int .i64 0, .int .i8 0])]

theorem wr0 : IntKind.i64.wrap 0 = 0 := by decide
theorem bufLen0_ok : FnS Tryd.prog 102 [.ptr 0 0] stN (.int .i64 0) stN := by
  simp only [stN]
  refine fn_walk tabOk Tryd.func102 rfl (by decide +kernel) Tryd.ntmps102 Tryd.results102 (by simp) fun B hB => ?_
  try refine hK _ ?_
  repeat (first | refine awp_seq ?_ | refine awp_block ?_ | refine awp_skip ?_ | refine awp_scope ?_ | refine awp_label ?_)
  refine awp_region tabOk fun K hK => ?_
  simp -dsimp -implicitDefEqProofs only [push_cast, ↓trAdd_f, ↓stOf_f, seval]
  refine hK _ ?_
  try refine hK _ ?_
  repeat (first | refine awp_seq ?_ | refine awp_block ?_ | refine awp_skip ?_ | refine awp_scope ?_ | refine awp_label ?_)
  refine awp_draw tabOk (by kernel_rfl) (by kernel_rfl) fun K hK C hC => ?_
  simp -dsimp -implicitDefEqProofs only [wr0, push_cast, ↓trAdd_f, ↓stOf_f, seval]
  refine ⟨hC _ (by kernel_rfl), hK _ (awp_ret ?_)⟩
  simp -dsimp -implicitDefEqProofs only [wr0, push_cast, List.mem_append, List.mem_cons, List.mem_singleton, forall_eq_or_imp, forall_eq, ↓trAdd_f, ↓stOf_f, seval]
theorem tryGrow0_ok : FnS Tryd.prog 98 [.ptr 0 0, .int .i64 1] stN (.tup [.int .i64 0, .bool false]) stN := by
  simp only [stN]
  refine fn_walk tabOk Tryd.func98 rfl (by decide +kernel) Tryd.ntmps98 Tryd.results98 (by simp) fun B hB => ?_
  try refine hK _ ?_
  repeat (first | refine awp_seq ?_ | refine awp_block ?_ | refine awp_skip ?_ | refine awp_scope ?_ | refine awp_label ?_)
  refine awp_region tabOk fun K hK => ?_
  simp -dsimp -implicitDefEqProofs only [push_cast, ↓trAdd_f, ↓stOf_f, seval]
  refine hK _ ?_
  try refine hK _ ?_
  repeat (first | refine awp_seq ?_ | refine awp_block ?_ | refine awp_skip ?_ | refine awp_scope ?_ | refine awp_label ?_)
  refine awp_region tabOk fun K hK => ?_
  simp -dsimp -implicitDefEqProofs only [push_cast, ↓trAdd_f, ↓stOf_f, seval]
  refine hK _ ?_
  have hd : decide ((1 : Int) ≤ 0) = false := rfl
  try refine hK _ ?_
  repeat (first | refine awp_seq ?_ | refine awp_block ?_ | refine awp_skip ?_ | refine awp_scope ?_ | refine awp_label ?_)
  refine awp_region tabOk fun K hK => ?_
  simp -dsimp -implicitDefEqProofs only [wr0, hd, push_cast, ↓trAdd_f, ↓stOf_f, seval]
  try refine hK _ ?_
  repeat (first | refine awp_seq ?_ | refine awp_block ?_ | refine awp_skip ?_ | refine awp_scope ?_ | refine awp_label ?_)
  refine awp_cond (b := false) (by simp -dsimp -implicitDefEqProofs only [push_cast, ↓trAdd_f, ↓stOf_f, seval]) (fun h => ?_) (fun h => ?_)
  · simp at h
  refine awp_skip ?_
  try refine hK _ ?_
  repeat (first | refine awp_seq ?_ | refine awp_block ?_ | refine awp_skip ?_ | refine awp_scope ?_ | refine awp_label ?_)
  refine awp_region tabOk fun K hK => ?_
  simp -dsimp -implicitDefEqProofs only [push_cast, ↓trAdd_f, ↓stOf_f, seval]
  refine hK _ (awp_ret ?_)
  simp -dsimp -implicitDefEqProofs only [push_cast, List.mem_append, List.mem_cons, List.mem_singleton, forall_eq_or_imp, forall_eq, ↓trAdd_f, ↓stOf_f, seval]
theorem tryGrow_ok (bs : List Int) (hb : bs.length < 64) : FnS Tryd.prog 98 [.ptr 0 0, .int .i64 1] (stB bs) (.tup [.int .i64 bs.length, .bool true])
    [(0, .box [.ownc 1 1 0 (bs.length + 1) 64, .int .i64 0, .int .i8 0]), (1, .row 1 (bufR bs))] := by
  simp only [stB]
  have h1 : IntKind.i64.wrap (64 - (bs.length : Int)) = 64 - (bs.length : Int) := wrap_i64 (by omega) (by omega)
  have h2 : IntKind.i64.wrap ((bs.length : Int) + 1) = (bs.length : Int) + 1 := wrap_i64 (by omega) (by omega)
  have h3 : decide ((1 : Int) ≤ 64 - (bs.length : Int)) = true := by simp; omega
  have h4 : ((bs.length : Int) + 1).toNat = bs.length + 1 := by omega
  refine fn_walk tabOk Tryd.func98 rfl (by decide +kernel) Tryd.ntmps98 Tryd.results98 (by simp) fun B hB => ?_
  try refine hK _ ?_
  repeat (first | refine awp_seq ?_ | refine awp_block ?_ | refine awp_skip ?_ | refine awp_scope ?_ | refine awp_label ?_)
  refine awp_region tabOk fun K hK => ?_
  simp -dsimp -implicitDefEqProofs only [push_cast, ↓trAdd_f, ↓stOf_f, seval]
  refine hK _ ?_
  try refine hK _ ?_
  repeat (first | refine awp_seq ?_ | refine awp_block ?_ | refine awp_skip ?_ | refine awp_scope ?_ | refine awp_label ?_)
  refine awp_region tabOk fun K hK => ?_
  simp -dsimp -implicitDefEqProofs only [push_cast, ↓trAdd_f, ↓stOf_f, seval]
  refine hK _ ?_
  try refine hK _ ?_
  repeat (first | refine awp_seq ?_ | refine awp_block ?_ | refine awp_skip ?_ | refine awp_scope ?_ | refine awp_label ?_)
  refine awp_region tabOk fun K hK => ?_
  simp -dsimp -implicitDefEqProofs only [h1, h3, push_cast, ↓trAdd_f, ↓stOf_f, seval]
  try refine hK _ ?_
  repeat (first | refine awp_seq ?_ | refine awp_block ?_ | refine awp_skip ?_ | refine awp_scope ?_ | refine awp_label ?_)
  refine awp_cond (b := true) (by simp -dsimp -implicitDefEqProofs only [push_cast, ↓trAdd_f, ↓stOf_f, seval]) (fun h => ?_) (fun h => ?_)
  · try refine hK _ ?_
    repeat (first | refine awp_seq ?_ | refine awp_block ?_ | refine awp_skip ?_ | refine awp_scope ?_ | refine awp_label ?_)
    refine awp_region tabOk fun K hK => ?_
    simp -dsimp -implicitDefEqProofs only [h2, h4, push_cast, ↓trAdd_f, ↓stOf_f, seval]
    refine ⟨⟨by omega, by omega⟩, hK _ ?_⟩
    try refine hK _ ?_
    repeat (first | refine awp_seq ?_ | refine awp_block ?_ | refine awp_skip ?_ | refine awp_scope ?_ | refine awp_label ?_)
    refine awp_region tabOk fun K hK => ?_
    simp -dsimp -implicitDefEqProofs only [push_cast, ↓trAdd_f, ↓stOf_f, seval]
    refine hK _ (awp_ret ?_)
    simp -dsimp -implicitDefEqProofs only [bufR_ok, push_cast, List.mem_append, List.mem_cons, List.mem_singleton, forall_eq_or_imp, forall_eq, ↓trAdd_f, ↓stOf_f, seval]
  · simp at h
theorem grow_ok : FnS Tryd.prog 99 [.ptr 0 0, .int .i64 1] stN (.int .i64 0) [(0, .box [.ownc 1 1 0 1 64, .int .i64 0, .int .i8 0]), (1, .row 1 (bufR []))] := by
  simp only [stN]
  refine fn_walkN tabOk Tryd.func99 rfl (by decide +kernel) Tryd.ntmps99 Tryd.results99 (by simp) fun B hB => ?_
  try refine hK _ ?_
  repeat (first | refine awp_seq ?_ | refine awp_block ?_ | refine awp_skip ?_ | refine awp_scope ?_ | refine awp_label ?_)
  refine awp_region tabOk fun K hK => ?_
  simp -dsimp -implicitDefEqProofs only [push_cast, ↓trAdd_f, ↓stOf_f, seval]
  refine hK _ ?_
  try refine hK _ ?_
  repeat (first | refine awp_seq ?_ | refine awp_block ?_ | refine awp_skip ?_ | refine awp_scope ?_ | refine awp_label ?_)
  refine awp_region tabOk fun K hK => ?_
  simp -dsimp -implicitDefEqProofs only [push_cast, ↓trAdd_f, ↓stOf_f, seval]
  refine ⟨102, [], [], { args := [.ptr 0 0], st0 := stN, res := .int .i64 0, st1 := stN, r := [0] }, rfl, .inl bufLen0_ok, ?_, ?_⟩
  · simp -dsimp -implicitDefEqProofs only [stN, push_cast, List.mem_append, List.mem_cons, List.mem_singleton, forall_eq_or_imp, forall_eq, ↓trAdd_f, ↓stOf_f, seval]
  simp -dsimp -implicitDefEqProofs only [stN, push_cast, ↓trAdd_f, ↓stOf_f, seval]
  refine hK _ ?_
  try refine hK _ ?_
  repeat (first | refine awp_seq ?_ | refine awp_block ?_ | refine awp_skip ?_ | refine awp_scope ?_ | refine awp_label ?_)
  refine awp_region tabOk fun K hK => ?_
  simp -dsimp -implicitDefEqProofs only [push_cast, ↓trAdd_f, ↓stOf_f, seval]
  try refine hK _ ?_
  repeat (first | refine awp_seq ?_ | refine awp_block ?_ | refine awp_skip ?_ | refine awp_scope ?_ | refine awp_label ?_)
  refine awp_cond (b := false) (by simp -dsimp -implicitDefEqProofs only [push_cast, ↓trAdd_f, ↓stOf_f, seval]) (fun h => ?_) (fun h => ?_)
  · simp at h
  refine awp_skip ?_
  try refine hK _ ?_
  repeat (first | refine awp_seq ?_ | refine awp_block ?_ | refine awp_skip ?_ | refine awp_scope ?_ | refine awp_label ?_)
  refine awp_region tabOk fun K hK => ?_
  simp -dsimp -implicitDefEqProofs only [push_cast, ↓trAdd_f, ↓stOf_f, seval]
  refine ⟨98, [], [], { args := [.ptr 0 0, .int .i64 1], st0 := stN, res := .tup [.int .i64 0, .bool false], st1 := stN, r := [0] }, rfl, .inl tryGrow0_ok, ?_, ?_⟩
  · simp -dsimp -implicitDefEqProofs only [stN, push_cast, List.mem_append, List.mem_cons, List.mem_singleton, forall_eq_or_imp, forall_eq, ↓trAdd_f, ↓stOf_f, seval]
  simp -dsimp -implicitDefEqProofs only [stN, push_cast, ↓trAdd_f, ↓stOf_f, seval]
  refine hK _ ?_
  try refine hK _ ?_
  repeat (first | refine awp_seq ?_ | refine awp_block ?_ | refine awp_skip ?_ | refine awp_scope ?_ | refine awp_label ?_)
  refine awp_region tabOk fun K hK => ?_
  simp -dsimp -implicitDefEqProofs only [push_cast, ↓trAdd_f, ↓stOf_f, seval]
  try refine hK _ ?_
  repeat (first | refine awp_seq ?_ | refine awp_block ?_ | refine awp_skip ?_ | refine awp_scope ?_ | refine awp_label ?_)
  refine awp_cond (b := false) (by simp -dsimp -implicitDefEqProofs only [push_cast, ↓trAdd_f, ↓stOf_f, seval]) (fun h => ?_) (fun h => ?_)
  · simp at h
  refine awp_skip ?_
  have h64 : Int.toNat 64 = 64 := rfl
  have h1n : Int.toNat 1 = 1 := rfl
  try refine hK _ ?_
  repeat (first | refine awp_seq ?_ | refine awp_block ?_ | refine awp_skip ?_ | refine awp_scope ?_ | refine awp_label ?_)
  refine awp_region tabOk fun K hK => ?_
  simp -dsimp -implicitDefEqProofs only [push_cast, ↓trAdd_f, ↓stOf_f, seval]
  try refine hK _ ?_
  repeat (first | refine awp_seq ?_ | refine awp_block ?_ | refine awp_skip ?_ | refine awp_scope ?_ | refine awp_label ?_)
  refine awp_cond (b := true) (by simp -dsimp -implicitDefEqProofs only [push_cast, ↓trAdd_f, ↓stOf_f, seval]) (fun h => ?_) (fun h => ?_)
  rotate_left
  · simp at h
  try refine hK _ ?_
  repeat (first | refine awp_seq ?_ | refine awp_block ?_ | refine awp_skip ?_ | refine awp_scope ?_ | refine awp_label ?_)
  refine awp_region tabOk fun K hK => ?_
  simp -dsimp -implicitDefEqProofs only [bufR_nil, h64, h1n, push_cast, ↓trAdd_f, ↓stOf_f, seval]
  refine hK _ ?_
  try refine hK _ ?_
  repeat (first | refine awp_seq ?_ | refine awp_block ?_ | refine awp_skip ?_ | refine awp_scope ?_ | refine awp_label ?_)
  refine awp_region tabOk fun K hK => ?_
  simp -dsimp -implicitDefEqProofs only [push_cast, ↓trAdd_f, ↓stOf_f, seval]
  refine hK _ (awp_le (s' := { sl := [(4, .int .i64 0)], st := [(0, .box [.ownc 1 1 0 1 64, .int .i64 0, .int .i8 0]), (1, .row 1 (bufR []))], nx := 8, n := 110 }) ?_ (awp_ret ?_))
  · refine le_intro hB [(1, 265)] (by simp) (fun b hb => by rcases b with _ | _ | _ | _ | _ | _ | b <;> first | rfl | (exfalso; revert hb; simp; done) | (exfalso; simp at hb; omega)) rfl ?_ ?_ rfl <;> simp -dsimp -implicitDefEqProofs only [bufR_ren, bufR_ok, push_cast, ↓trAdd_f, ↓stOf_f, seval]
  simp -dsimp -implicitDefEqProofs only [bufR_ok, push_cast, List.mem_append, List.mem_cons, List.mem_singleton, forall_eq_or_imp, forall_eq, ↓trAdd_f, ↓stOf_f, seval]
theorem writeByte0_ok (x : Int) : FnS Tryd.prog 91 [.ptr 0 0, .int .u8 x] stN (.val .nili) (stB [x]) := by
  simp only [stN]
  refine fn_walkN tabOk Tryd.func91 rfl (by decide +kernel) Tryd.ntmps91 Tryd.results91 (by simp) fun B hB => ?_
  try refine hK _ ?_
  repeat (first | refine awp_seq ?_ | refine awp_block ?_ | refine awp_skip ?_ | refine awp_scope ?_ | refine awp_label ?_)
  refine awp_region tabOk fun K hK => ?_
  simp -dsimp -implicitDefEqProofs only [push_cast, ↓trAdd_f, ↓stOf_f, seval]
  refine hK _ ?_
  try refine hK _ ?_
  repeat (first | refine awp_seq ?_ | refine awp_block ?_ | refine awp_skip ?_ | refine awp_scope ?_ | refine awp_label ?_)
  refine awp_region tabOk fun K hK => ?_
  simp -dsimp -implicitDefEqProofs only [push_cast, ↓trAdd_f, ↓stOf_f, seval]
  refine hK _ ?_
  try refine hK _ ?_
  repeat (first | refine awp_seq ?_ | refine awp_block ?_ | refine awp_skip ?_ | refine awp_scope ?_ | refine awp_label ?_)
  refine awp_region tabOk fun K hK => ?_
  simp -dsimp -implicitDefEqProofs only [push_cast, ↓trAdd_f, ↓stOf_f, seval]
  refine ⟨98, [], [], { args := [.ptr 0 0, .int .i64 1], st0 := stN, res := .tup [.int .i64 0, .bool false], st1 := stN, r := [0] }, rfl, .inl tryGrow0_ok, ?_, ?_⟩
  · simp -dsimp -implicitDefEqProofs only [stN, push_cast, List.mem_append, List.mem_cons, List.mem_singleton, forall_eq_or_imp, forall_eq, ↓trAdd_f, ↓stOf_f, seval]
  simp -dsimp -implicitDefEqProofs only [stN, push_cast, ↓trAdd_f, ↓stOf_f, seval]
  refine hK _ ?_
  try refine hK _ ?_
  repeat (first | refine awp_seq ?_ | refine awp_block ?_ | refine awp_skip ?_ | refine awp_scope ?_ | refine awp_label ?_)
  refine awp_region tabOk fun K hK => ?_
  simp -dsimp -implicitDefEqProofs only [push_cast, ↓trAdd_f, ↓stOf_f, seval]
  try refine hK _ ?_
  repeat (first | refine awp_seq ?_ | refine awp_block ?_ | refine awp_skip ?_ | refine awp_scope ?_ | refine awp_label ?_)
  refine awp_cond (b := true) (by simp -dsimp -implicitDefEqProofs only [push_cast, ↓trAdd_f, ↓stOf_f, seval]) (fun h => ?_) (fun h => ?_)
  rotate_left
  · simp at h
  try refine hK _ ?_
  repeat (first | refine awp_seq ?_ | refine awp_block ?_ | refine awp_skip ?_ | refine awp_scope ?_ | refine awp_label ?_)
  refine awp_region tabOk fun K hK => ?_
  simp -dsimp -implicitDefEqProofs only [push_cast, ↓trAdd_f, ↓stOf_f, seval]
  refine ⟨99, [], [], { args := [.ptr 0 0, .int .i64 1], st0 := stN, res := .int .i64 0, st1 := [(0, .box [.ownc 1 1 0 1 64, .int .i64 0, .int .i8 0]), (1, .row 1 (bufR []))], r := [0] }, rfl, .inl grow_ok, ?_, ?_⟩
  · simp -dsimp -implicitDefEqProofs only [stN, bufR_ok, push_cast, List.mem_append, List.mem_cons, List.mem_singleton, forall_eq_or_imp, forall_eq, ↓trAdd_f, ↓stOf_f, seval]
  have hl : 0 < (bufR []).length := by decide
  have hs : (bufR []).set 0 [PV.int .u8 x] = bufR [x] := bufR_set (bs := []) (by decide) x
  have hd : List.drop 1 ((bufR []).getD 0 []) = [] := rfl
  simp -dsimp -implicitDefEqProofs only [stN, bufR_ren, bufR_ok, push_cast, ↓trAdd_f, ↓stOf_f, seval]
  refine hK _ ?_
  try refine hK _ ?_
  repeat (first | refine awp_seq ?_ | refine awp_block ?_ | refine awp_skip ?_ | refine awp_scope ?_ | refine awp_label ?_)
  refine awp_region tabOk fun K hK => ?_
  simp -dsimp -implicitDefEqProofs only [hl, hs, hd, push_cast, ↓trAdd_f, ↓stOf_f, seval]
  refine hK _ ?_
  try refine hK _ ?_
  repeat (first | refine awp_seq ?_ | refine awp_block ?_ | refine awp_skip ?_ | refine awp_scope ?_ | refine awp_label ?_)
  refine awp_region tabOk fun K hK => ?_
  simp -dsimp -implicitDefEqProofs only [push_cast, ↓trAdd_f, ↓stOf_f, seval]
  refine hK _ (awp_le (s' := { sl := [(4, .val .nili)], st := [(0, .box [.ownc 1 1 0 1 64, .int .i64 0, .int .i8 0]), (1, .row 1 (bufR [x]))], nx := 8, n := 26 }) ?_ (awp_ret ?_))
  · refine le_intro hB [(1, 121)] (by simp) (fun b hb => by rcases b with _ | _ | _ | _ | _ | _ | b <;> first | rfl | (exfalso; revert hb; simp; done) | (exfalso; simp at hb; omega)) rfl ?_ ?_ rfl <;> simp -dsimp -implicitDefEqProofs only [bufR_ren, bufR_ok, push_cast, ↓trAdd_f, ↓stOf_f, seval]
  simp -dsimp -implicitDefEqProofs only [bufR_ok, stB, push_cast, List.mem_append, List.mem_cons, List.mem_singleton, forall_eq_or_imp, forall_eq, ↓trAdd_f, ↓stOf_f, seval]
theorem writeByte_ok (bs : List Int) (hb : bs.length < 64) (x : Int) : FnS Tryd.prog 91 [.ptr 0 0, .int .u8 x] (stB bs) (.val .nili) (stB (bs ++ [x])) := by
  have hl : (bs.length : Int) < (bs.length : Int) + 1 := by omega
  have h2 : ((bs.length : Int)).toNat = bs.length := by omega
  have hbl := bufR_len (bs := bs) (by omega)
  have hs := bufR_set hb x
  obtain ⟨y, hy⟩ := bufR_getD (bs := bs) hb (by omega)
  simp only [stB]
  refine fn_walk tabOk Tryd.func91 rfl (by decide +kernel) Tryd.ntmps91 Tryd.results91 (by simp) fun B hB => ?_
  try refine hK _ ?_
  repeat (first | refine awp_seq ?_ | refine awp_block ?_ | refine awp_skip ?_ | refine awp_scope ?_ | refine awp_label ?_)
  refine awp_region tabOk fun K hK => ?_
  simp -dsimp -implicitDefEqProofs only [push_cast, ↓trAdd_f, ↓stOf_f, seval]
  refine hK _ ?_
  try refine hK _ ?_
  repeat (first | refine awp_seq ?_ | refine awp_block ?_ | refine awp_skip ?_ | refine awp_scope ?_ | refine awp_label ?_)
  refine awp_region tabOk fun K hK => ?_
  simp -dsimp -implicitDefEqProofs only [push_cast, ↓trAdd_f, ↓stOf_f, seval]
  refine hK _ ?_
  try refine hK _ ?_
  repeat (first | refine awp_seq ?_ | refine awp_block ?_ | refine awp_skip ?_ | refine awp_scope ?_ | refine awp_label ?_)
  refine awp_region tabOk fun K hK => ?_
  simp -dsimp -implicitDefEqProofs only [push_cast, ↓trAdd_f, ↓stOf_f, seval]
  refine ⟨98, [], [], { args := [.ptr 0 0, .int .i64 1], st0 := stB bs, res := .tup [.int .i64 bs.length, .bool true], st1 := [(0, .box [.ownc 1 1 0 (bs.length + 1) 64, .int .i64 0, .int .i8 0]), (1, .row 1 (bufR bs))], r := [0, 1] }, rfl, .inl (tryGrow_ok bs hb), ?_, ?_⟩
  · simp -dsimp -implicitDefEqProofs only [stB, bufR_ok, bufR_ren, push_cast, List.mem_append, List.mem_cons, List.mem_singleton, forall_eq_or_imp, forall_eq, ↓trAdd_f, ↓stOf_f, seval]
    rfl
  simp -dsimp -implicitDefEqProofs only [stB, bufR_ren, bufR_ok, push_cast, ↓trAdd_f, ↓stOf_f, seval]
  refine hK _ ?_
  try refine hK _ ?_
  repeat (first | refine awp_seq ?_ | refine awp_block ?_ | refine awp_skip ?_ | refine awp_scope ?_ | refine awp_label ?_)
  refine awp_region tabOk fun K hK => ?_
  simp -dsimp -implicitDefEqProofs only [push_cast, ↓trAdd_f, ↓stOf_f, seval]
  try refine hK _ ?_
  repeat (first | refine awp_seq ?_ | refine awp_block ?_ | refine awp_skip ?_ | refine awp_scope ?_ | refine awp_label ?_)
  refine awp_cond (b := false) (by simp -dsimp -implicitDefEqProofs only [push_cast, ↓trAdd_f, ↓stOf_f, seval]) (fun h => ?_) (fun h => ?_)
  · simp at h
  refine awp_skip ?_
  try refine hK _ ?_
  repeat (first | refine awp_seq ?_ | refine awp_block ?_ | refine awp_skip ?_ | refine awp_scope ?_ | refine awp_label ?_)
  refine awp_region tabOk fun K hK => ?_
  simp -dsimp -implicitDefEqProofs only [h2, hbl, hy, hs, push_cast, ↓trAdd_f, ↓stOf_f, seval]
  refine ⟨⟨by omega, hl⟩, hb, hK _ ?_⟩
  try refine hK _ ?_
  repeat (first | refine awp_seq ?_ | refine awp_block ?_ | refine awp_skip ?_ | refine awp_scope ?_ | refine awp_label ?_)
  refine awp_region tabOk fun K hK => ?_
  simp -dsimp -implicitDefEqProofs only [push_cast, ↓trAdd_f, ↓stOf_f, seval]
  refine hK _ (awp_ret ?_)
  simp -dsimp -implicitDefEqProofs only [bufR_ok, push_cast, List.mem_append, List.mem_cons, List.mem_singleton, forall_eq_or_imp, forall_eq, ↓trAdd_f, ↓stOf_f, seval]
def u8 (n : Int) : Int := IntKind.u8.wrap n
theorem one0_ok (n : Int) : FnS Tryd.prog 79 [.ptr 0 0, .int .i64 n] stN (.tup []) (stB [u8 n]) := by
  simp only [stN]
  refine fn_walkN tabOk Tryd.func79 rfl (by decide +kernel) Tryd.ntmps79 Tryd.results79 (by simp) fun B hB => ?_
  refine awp_weak ?_
  try refine hK _ ?_
  repeat (first | refine awp_seq ?_ | refine awp_block ?_ | refine awp_skip ?_ | refine awp_scope ?_ | refine awp_label ?_)
  refine awp_region tabOk fun K hK => ?_
  simp -dsimp -implicitDefEqProofs only [push_cast, ↓trAdd_f, ↓stOf_f, seval]
  refine ⟨91, [], [], { args := [.ptr 0 0, .int .u8 (u8 n)], st0 := stN, res := .val .nili, st1 := stB [u8 n], r := [0] }, rfl, .inl (writeByte0_ok (u8 n)), ?_, ?_⟩
  · simp -dsimp -implicitDefEqProofs only [stB, stN, bufR_ok, bufR_ren, u8, push_cast, List.mem_append, List.mem_cons, List.mem_singleton, forall_eq_or_imp, forall_eq, ↓trAdd_f, ↓stOf_f, seval]
  simp -dsimp -implicitDefEqProofs only [stB, bufR_ren, bufR_ok, u8, push_cast, ↓trAdd_f, ↓stOf_f, seval]
  refine hK _ ⟨{ sl := [], st := stB [u8 n], nx := 8, n := 10 }, ?_, ?_⟩
  · simp only [stB, u8]
    refine le_intro hB [(1, 41)] (by simp) (fun b hb => by rcases b with _ | _ | _ | _ | _ | _ | b <;> first | rfl | (exfalso; revert hb; simp; done) | (exfalso; simp at hb; omega)) rfl ?_ ?_ rfl <;> simp -dsimp -implicitDefEqProofs only [bufR_ren, bufR_ok, push_cast, ↓trAdd_f, ↓stOf_f, seval]
  simp only [stB]
  simp -dsimp -implicitDefEqProofs only [bufR_ok, u8, push_cast, List.mem_append, List.mem_cons, List.mem_singleton, forall_eq_or_imp, forall_eq, ↓trAdd_f, ↓stOf_f, seval]
theorem one_ok (bs : List Int) (hb : bs.length < 64) (n : Int) : FnS Tryd.prog 79 [.ptr 0 0, .int .i64 n] (stB bs) (.tup []) (stB (bs ++ [u8 n])) := by
  simp only [stB]
  refine fn_walk tabOk Tryd.func79 rfl (by decide +kernel) Tryd.ntmps79 Tryd.results79 (by simp) fun B hB => ?_
  try refine hK _ ?_
  repeat (first | refine awp_seq ?_ | refine awp_block ?_ | refine awp_skip ?_ | refine awp_scope ?_ | refine awp_label ?_)
  refine awp_region tabOk fun K hK => ?_
  simp -dsimp -implicitDefEqProofs only [push_cast, ↓trAdd_f, ↓stOf_f, seval]
  refine ⟨91, [], [], { args := [.ptr 0 0, .int .u8 (u8 n)], st0 := stB bs, res := .val .nili, st1 := stB (bs ++ [u8 n]), r := [0, 1] }, rfl, .inl (writeByte_ok bs hb (u8 n)), ?_, ?_⟩
  · simp -dsimp -implicitDefEqProofs only [stB, bufR_ok, bufR_ren, u8, push_cast, List.mem_append, List.mem_cons, List.mem_singleton, forall_eq_or_imp, forall_eq, ↓trAdd_f, ↓stOf_f, seval]
    rfl
  simp -dsimp -implicitDefEqProofs only [stB, bufR_ren, bufR_ok, u8, push_cast, ↓trAdd_f, ↓stOf_f, seval]
  refine hK _ ?_
  simp -dsimp -implicitDefEqProofs only [bufR_ok, u8, push_cast, List.mem_append, List.mem_cons, List.mem_singleton, forall_eq_or_imp, forall_eq, ↓trAdd_f, ↓stOf_f, seval]
def be4 (n : Int) : List Int := [u8 (n.fdiv 16777216), u8 (n.fdiv 65536), u8 (n.fdiv 256), u8 n]
def fourS (bs : List Int) (n : Int) (k : Nat) : AS := { sl := [(0, .ptr 0 0), (1, .int .i64 n), (4, .int .i64 (24 - 8 * (k : Int)))], st := stB (bs ++ (be4 n).take k), nx := 100, n := 14 }
theorem four_ok (bs : List Int) (hb : bs.length + 4 < 64) (n : Int) : FnS Tryd.prog 80 [.ptr 0 0, .int .i64 n] (stB bs) (.tup []) (stB (bs ++ be4 n)) := by
  have e0 : fourS bs n 0 = { sl := [(0, .ptr 0 0), (1, .int .i64 n), (4, .int .i64 (24))], st := stB bs, nx := 100, n := 14 } := by simp [fourS, be4]
  have e1 : fourS bs n 1 = { sl := [(0, .ptr 0 0), (1, .int .i64 n), (4, .int .i64 (16))], st := stB (bs ++ [u8 (n.fdiv 16777216)]), nx := 100, n := 14 } := by simp [fourS, be4]
  have e2 : fourS bs n 2 = { sl := [(0, .ptr 0 0), (1, .int .i64 n), (4, .int .i64 (8))], st := stB (bs ++ [u8 (n.fdiv 16777216), u8 (n.fdiv 65536)]), nx := 100, n := 14 } := by simp [fourS, be4]
  have e3 : fourS bs n 3 = { sl := [(0, .ptr 0 0), (1, .int .i64 n), (4, .int .i64 (0))], st := stB (bs ++ [u8 (n.fdiv 16777216), u8 (n.fdiv 65536), u8 (n.fdiv 256)]), nx := 100, n := 14 } := by simp [fourS, be4]
  have e4 : fourS bs n 4 = { sl := [(0, .ptr 0 0), (1, .int .i64 n), (4, .int .i64 (-8))], st := stB (bs ++ [u8 (n.fdiv 16777216), u8 (n.fdiv 65536), u8 (n.fdiv 256), u8 (n)]), nx := 100, n := 14 } := by simp [fourS, be4]
  have p0 : n.fdiv ((2 : Int) ^ min 24 IntKind.i64.bits) = n.fdiv 16777216 := by rfl
  have w0 : IntKind.i64.wrap 16 = 16 := by decide
  have d0 : decide ((0 : Int) ≤ 24) = true := rfl
  have t0 : Int.toNat 24 = 24 := rfl
  have p1 : n.fdiv ((2 : Int) ^ min 16 IntKind.i64.bits) = n.fdiv 65536 := by rfl
  have w1 : IntKind.i64.wrap 8 = 8 := by decide
  have d1 : decide ((0 : Int) ≤ 16) = true := rfl
  have t1 : Int.toNat 16 = 16 := rfl
  have a1 : (bs ++ [u8 (n.fdiv 16777216)]) ++ [u8 (n.fdiv 65536)] = bs ++ [u8 (n.fdiv 16777216), u8 (n.fdiv 65536)] := by simp
  have p2 : n.fdiv ((2 : Int) ^ min 8 IntKind.i64.bits) = n.fdiv 256 := by rfl
  have w2 : IntKind.i64.wrap 0 = 0 := by decide
  have d2 : decide ((0 : Int) ≤ 8) = true := rfl
  have t2 : Int.toNat 8 = 8 := rfl
  have a2 : (bs ++ [u8 (n.fdiv 16777216), u8 (n.fdiv 65536)]) ++ [u8 (n.fdiv 256)] = bs ++ [u8 (n.fdiv 16777216), u8 (n.fdiv 65536), u8 (n.fdiv 256)] := by simp
  have p3 : n.fdiv ((2 : Int) ^ min 0 IntKind.i64.bits) = n := by simp
  have w3 : IntKind.i64.wrap (-8) = -8 := by decide
  have d3 : decide ((0 : Int) ≤ 0) = true := rfl
  have t3 : Int.toNat 0 = 0 := rfl
  have a3 : (bs ++ [u8 (n.fdiv 16777216), u8 (n.fdiv 65536), u8 (n.fdiv 256)]) ++ [u8 (n)] = bs ++ [u8 (n.fdiv 16777216), u8 (n.fdiv 65536), u8 (n.fdiv 256), u8 (n)] := by simp
  simp only [stB]
  refine fn_walk tabOk Tryd.func80 rfl (by decide +kernel) Tryd.ntmps80 Tryd.results80 (by simp) fun B hB => ?_
  try refine hK _ ?_
  repeat (first | refine awp_seq ?_ | refine awp_block ?_ | refine awp_skip ?_ | refine awp_scope ?_ | refine awp_label ?_)
  refine awp_region tabOk fun K hK => ?_
  simp -dsimp -implicitDefEqProofs only [push_cast, ↓trAdd_f, ↓stOf_f, seval]
  refine hK _ (awp_block ?_)
  refine awp_for (fun k : Nat => fourS bs n k) (fun k => k ≤ 4) (fun k => 4 - k) 0 (Nat.zero_le _) ?_ fun k hk => ?_
  · rw [e0]
    simp only [stB]
    refine le_intro hB [] (by simp) (fun b _ => rfl) rfl ?_ ?_ rfl <;> simp -dsimp -implicitDefEqProofs only [bufR_ok, bufR_ren, push_cast, ↓trAdd_f, ↓stOf_f, seval]
  have : k = 0 ∨ k = 1 ∨ k = 2 ∨ k = 3 ∨ k = 4 := by omega
  rcases this with rfl | rfl | rfl | rfl | rfl
  · rw [e0]
    simp only [stB]
    try refine hK _ ?_
    repeat (first | refine awp_seq ?_ | refine awp_block ?_ | refine awp_skip ?_ | refine awp_scope ?_ | refine awp_label ?_)
    refine awp_region tabOk fun K hK => ?_
    simp -dsimp -implicitDefEqProofs only [d0, push_cast, ↓trAdd_f, ↓stOf_f, seval]
    try refine hK _ ?_
    repeat (first | refine awp_seq ?_ | refine awp_block ?_ | refine awp_skip ?_ | refine awp_scope ?_ | refine awp_label ?_)
    refine awp_cond (b := true) (by simp -dsimp -implicitDefEqProofs only [push_cast, ↓trAdd_f, ↓stOf_f, seval]) (fun h => ?_) (fun h => ?_)
    rotate_left
    · simp at h
    refine awp_skip ?_
    try refine hK _ ?_
    repeat (first | refine awp_seq ?_ | refine awp_block ?_ | refine awp_skip ?_ | refine awp_scope ?_ | refine awp_label ?_)
    refine awp_region tabOk fun K hK => ?_
    simp -dsimp -implicitDefEqProofs only [p0, t0, push_cast, ↓trAdd_f, ↓stOf_f, seval]
    refine ⟨79, [], [], { args := [.ptr 0 0, .int .i64 (n.fdiv 16777216)], st0 := stB bs, res := .tup [], st1 := stB (bs ++ [u8 (n.fdiv 16777216)]), r := [0, 1] }, rfl, .inl (one_ok bs (by omega) _), ?_, ?_⟩
    · simp -dsimp -implicitDefEqProofs only [stB, bufR_ok, bufR_ren, u8, push_cast, List.mem_append, List.mem_cons, List.mem_singleton, forall_eq_or_imp, forall_eq, ↓trAdd_f, ↓stOf_f, seval]
      rfl
    simp -dsimp -implicitDefEqProofs only [stB, bufR_ren, bufR_ok, u8, push_cast, ↓trAdd_f, ↓stOf_f, seval]
    refine hK _ ?_
    try refine hK _ ?_
    repeat (first | refine awp_seq ?_ | refine awp_block ?_ | refine awp_skip ?_ | refine awp_scope ?_ | refine awp_label ?_)
    refine awp_region tabOk fun K hK => ?_
    simp -dsimp -implicitDefEqProofs only [w0, push_cast, ↓trAdd_f, ↓stOf_f, seval]
    refine hK _ ⟨1, (by decide : 1 ≤ 4), (by decide : 4 - 1 < 4 - 0), ?_⟩
    rw [e1]
    simp only [stB]
    refine le_intro hB [] (by simp) (fun b _ => rfl) rfl ?_ ?_ rfl <;> simp -dsimp -implicitDefEqProofs only [bufR_ok, bufR_ren, u8, push_cast, ↓trAdd_f, ↓stOf_f, seval]
  · rw [e1]
    simp only [stB]
    try refine hK _ ?_
    repeat (first | refine awp_seq ?_ | refine awp_block ?_ | refine awp_skip ?_ | refine awp_scope ?_ | refine awp_label ?_)
    refine awp_region tabOk fun K hK => ?_
    simp -dsimp -implicitDefEqProofs only [d1, push_cast, ↓trAdd_f, ↓stOf_f, seval]
    try refine hK _ ?_
    repeat (first | refine awp_seq ?_ | refine awp_block ?_ | refine awp_skip ?_ | refine awp_scope ?_ | refine awp_label ?_)
    refine awp_cond (b := true) (by simp -dsimp -implicitDefEqProofs only [push_cast, ↓trAdd_f, ↓stOf_f, seval]) (fun h => ?_) (fun h => ?_)
    rotate_left
    · simp at h
    refine awp_skip ?_
    try refine hK _ ?_
    repeat (first | refine awp_seq ?_ | refine awp_block ?_ | refine awp_skip ?_ | refine awp_scope ?_ | refine awp_label ?_)
    refine awp_region tabOk fun K hK => ?_
    simp -dsimp -implicitDefEqProofs only [p1, t1, push_cast, ↓trAdd_f, ↓stOf_f, seval]
    refine ⟨79, [], [], { args := [.ptr 0 0, .int .i64 (n.fdiv 65536)], st0 := stB (bs ++ [u8 (n.fdiv 16777216)]), res := .tup [], st1 := stB (bs ++ [u8 (n.fdiv 16777216), u8 (n.fdiv 65536)]), r := [0, 1] }, rfl, .inl (a1 ▸ one_ok (bs ++ [u8 (n.fdiv 16777216)]) (by simp; omega) (n.fdiv 65536)), ?_, ?_⟩
    · simp -dsimp -implicitDefEqProofs only [stB, bufR_ok, bufR_ren, u8, push_cast, List.mem_append, List.mem_cons, List.mem_singleton, forall_eq_or_imp, forall_eq, ↓trAdd_f, ↓stOf_f, seval]
      rfl
    simp -dsimp -implicitDefEqProofs only [stB, bufR_ren, bufR_ok, u8, push_cast, ↓trAdd_f, ↓stOf_f, seval]
    refine hK _ ?_
    try refine hK _ ?_
    repeat (first | refine awp_seq ?_ | refine awp_block ?_ | refine awp_skip ?_ | refine awp_scope ?_ | refine awp_label ?_)
    refine awp_region tabOk fun K hK => ?_
    simp -dsimp -implicitDefEqProofs only [w1, push_cast, ↓trAdd_f, ↓stOf_f, seval]
    refine hK _ ⟨2, (by decide : 2 ≤ 4), (by decide : 4 - 2 < 4 - 1), ?_⟩
    rw [e2]
    simp only [stB]
    refine le_intro hB [] (by simp) (fun b _ => rfl) rfl ?_ ?_ rfl <;> simp -dsimp -implicitDefEqProofs only [bufR_ok, bufR_ren, u8, push_cast, ↓trAdd_f, ↓stOf_f, seval]
  · rw [e2]
    simp only [stB]
    try refine hK _ ?_
    repeat (first | refine awp_seq ?_ | refine awp_block ?_ | refine awp_skip ?_ | refine awp_scope ?_ | refine awp_label ?_)
    refine awp_region tabOk fun K hK => ?_
    simp -dsimp -implicitDefEqProofs only [d2, push_cast, ↓trAdd_f, ↓stOf_f, seval]
    try refine hK _ ?_
    repeat (first | refine awp_seq ?_ | refine awp_block ?_ | refine awp_skip ?_ | refine awp_scope ?_ | refine awp_label ?_)
    refine awp_cond (b := true) (by simp -dsimp -implicitDefEqProofs only [push_cast, ↓trAdd_f, ↓stOf_f, seval]) (fun h => ?_) (fun h => ?_)
    rotate_left
    · simp at h
    refine awp_skip ?_
    try refine hK _ ?_
    repeat (first | refine awp_seq ?_ | refine awp_block ?_ | refine awp_skip ?_ | refine awp_scope ?_ | refine awp_label ?_)
    refine awp_region tabOk fun K hK => ?_
    simp -dsimp -implicitDefEqProofs only [p2, t2, push_cast, ↓trAdd_f, ↓stOf_f, seval]
    refine ⟨79, [], [], { args := [.ptr 0 0, .int .i64 (n.fdiv 256)], st0 := stB (bs ++ [u8 (n.fdiv 16777216), u8 (n.fdiv 65536)]), res := .tup [], st1 := stB (bs ++ [u8 (n.fdiv 16777216), u8 (n.fdiv 65536), u8 (n.fdiv 256)]), r := [0, 1] }, rfl, .inl (a2 ▸ one_ok (bs ++ [u8 (n.fdiv 16777216), u8 (n.fdiv 65536)]) (by simp; omega) (n.fdiv 256)), ?_, ?_⟩
    · simp -dsimp -implicitDefEqProofs only [stB, bufR_ok, bufR_ren, u8, push_cast, List.mem_append, List.mem_cons, List.mem_singleton, forall_eq_or_imp, forall_eq, ↓trAdd_f, ↓stOf_f, seval]
      rfl
    simp -dsimp -implicitDefEqProofs only [stB, bufR_ren, bufR_ok, u8, push_cast, ↓trAdd_f, ↓stOf_f, seval]
    refine hK _ ?_
    try refine hK _ ?_
    repeat (first | refine awp_seq ?_ | refine awp_block ?_ | refine awp_skip ?_ | refine awp_scope ?_ | refine awp_label ?_)
    refine awp_region tabOk fun K hK => ?_
    simp -dsimp -implicitDefEqProofs only [w2, push_cast, ↓trAdd_f, ↓stOf_f, seval]
    refine hK _ ⟨3, (by decide : 3 ≤ 4), (by decide : 4 - 3 < 4 - 2), ?_⟩
    rw [e3]
    simp only [stB]
    refine le_intro hB [] (by simp) (fun b _ => rfl) rfl ?_ ?_ rfl <;> simp -dsimp -implicitDefEqProofs only [bufR_ok, bufR_ren, u8, push_cast, ↓trAdd_f, ↓stOf_f, seval]
  · rw [e3]
    simp only [stB]
    try refine hK _ ?_
    repeat (first | refine awp_seq ?_ | refine awp_block ?_ | refine awp_skip ?_ | refine awp_scope ?_ | refine awp_label ?_)
    refine awp_region tabOk fun K hK => ?_
    simp -dsimp -implicitDefEqProofs only [d3, push_cast, ↓trAdd_f, ↓stOf_f, seval]
    try refine hK _ ?_
    repeat (first | refine awp_seq ?_ | refine awp_block ?_ | refine awp_skip ?_ | refine awp_scope ?_ | refine awp_label ?_)
    refine awp_cond (b := true) (by simp -dsimp -implicitDefEqProofs only [push_cast, ↓trAdd_f, ↓stOf_f, seval]) (fun h => ?_) (fun h => ?_)
    rotate_left
    · simp at h
    refine awp_skip ?_
    try refine hK _ ?_
    repeat (first | refine awp_seq ?_ | refine awp_block ?_ | refine awp_skip ?_ | refine awp_scope ?_ | refine awp_label ?_)
    refine awp_region tabOk fun K hK => ?_
    simp -dsimp -implicitDefEqProofs only [p3, t3, push_cast, ↓trAdd_f, ↓stOf_f, seval]
    refine ⟨79, [], [], { args := [.ptr 0 0, .int .i64 (n)], st0 := stB (bs ++ [u8 (n.fdiv 16777216), u8 (n.fdiv 65536), u8 (n.fdiv 256)]), res := .tup [], st1 := stB (bs ++ [u8 (n.fdiv 16777216), u8 (n.fdiv 65536), u8 (n.fdiv 256), u8 (n)]), r := [0, 1] }, rfl, .inl (a3 ▸ one_ok (bs ++ [u8 (n.fdiv 16777216), u8 (n.fdiv 65536), u8 (n.fdiv 256)]) (by simp; omega) (n)), ?_, ?_⟩
    · simp -dsimp -implicitDefEqProofs only [stB, bufR_ok, bufR_ren, u8, push_cast, List.mem_append, List.mem_cons, List.mem_singleton, forall_eq_or_imp, forall_eq, ↓trAdd_f, ↓stOf_f, seval]
      rfl
    simp -dsimp -implicitDefEqProofs only [stB, bufR_ren, bufR_ok, u8, push_cast, ↓trAdd_f, ↓stOf_f, seval]
    refine hK _ ?_
    try refine hK _ ?_
    repeat (first | refine awp_seq ?_ | refine awp_block ?_ | refine awp_skip ?_ | refine awp_scope ?_ | refine awp_label ?_)
    refine awp_region tabOk fun K hK => ?_
    simp -dsimp -implicitDefEqProofs only [w3, push_cast, ↓trAdd_f, ↓stOf_f, seval]
    refine hK _ ⟨4, (by decide : 4 ≤ 4), (by decide : 4 - 4 < 4 - 3), ?_⟩
    rw [e4]
    simp only [stB]
    refine le_intro hB [] (by simp) (fun b _ => rfl) rfl ?_ ?_ rfl <;> simp -dsimp -implicitDefEqProofs only [bufR_ok, bufR_ren, u8, push_cast, ↓trAdd_f, ↓stOf_f, seval]
  · rw [e4]
    simp only [stB]
    have d4 : decide ((0 : Int) ≤ -8) = false := rfl
    try refine hK _ ?_
    repeat (first | refine awp_seq ?_ | refine awp_block ?_ | refine awp_skip ?_ | refine awp_scope ?_ | refine awp_label ?_)
    refine awp_region tabOk fun K hK => ?_
    simp -dsimp -implicitDefEqProofs only [d4, push_cast, ↓trAdd_f, ↓stOf_f, seval]
    try refine hK _ ?_
    repeat (first | refine awp_seq ?_ | refine awp_block ?_ | refine awp_skip ?_ | refine awp_scope ?_ | refine awp_label ?_)
    refine awp_cond (b := false) (by simp -dsimp -implicitDefEqProofs only [push_cast, ↓trAdd_f, ↓stOf_f, seval]) (fun h => ?_) (fun h => ?_)
    · simp at h
    refine awp_exit rfl ?_
    simp -dsimp -implicitDefEqProofs only [bufR_ok, be4, push_cast, List.mem_append, List.mem_cons, List.mem_singleton, forall_eq_or_imp, forall_eq, ↓trAdd_f, ↓stOf_f, seval]
end Go.Proofs.YtoifmpiikopelaaDoorFw

/-
  Walks: crc.More, crc.Word.
-/
namespace Go.Proofs.YtoifmpiikopelaaDoorFw
open Go Go.Proofs
set_option maxRecDepth 100000
set_option maxHeartbeats 4000000
set_option linter.unusedVariables false
set_option linter.unusedSimpArgs false

def stepB (c : BitVec 32) : BitVec 32 := (c >>> 1) ^^^ (3988292384#32 * (c &&& 1#32))
def step8 (c : BitVec 32) : BitVec 32 := stepB (stepB (stepB (stepB (stepB (stepB (stepB (stepB c)))))))
def crcIn (c : BitVec 32) (x : Int) : BitVec 32 := step8 (c ^^^ BitVec.ofInt 32 x)
def crcMore (s : BitVec 32) (b : List Int) : BitVec 32 := ~~~ (b.foldl crcIn (~~~ s))

theorem u32_wrap (r : BitVec 32) : IntKind.u32.wrap (r.toNat : Int) = r.toNat := by
  have := r.isLt
  simp [IntKind.wrap, IntKind.bits, IntKind.signed]
  omega
theorem u32_of (r : BitVec 32) : BitVec.ofInt IntKind.u32.bits (r.toNat : Int) = r := by
  show BitVec.ofInt 32 _ = r
  rw [BitVec.ofInt_natCast, BitVec.ofNat_toNat, BitVec.setWidth_eq]
theorem u32_shr (r : BitVec 32) : ((r.toNat : Int)).fdiv 2 = ((r >>> 1).toNat : Int) := by
  rw [BitVec.toNat_ushiftRight, Nat.shiftRight_eq_div_pow]
  simp [Int.fdiv_eq_ediv_of_nonneg]
theorem u32_mul (r : BitVec 32) : IntKind.u32.wrap (3988292384 * (r.toNat : Int)) = ((3988292384#32 * r).toNat : Int) := by
  rw [BitVec.toNat_mul]
  simp [IntKind.wrap, IntKind.bits, IntKind.signed]
theorem i64_u32 (r : BitVec 32) : IntKind.i64.wrap (r.toNat : Int) = r.toNat := wrap_i64 (by omega) (by have := r.isLt; omega)
theorem u32_one : (BitVec.ofInt IntKind.u32.bits 1 : BitVec IntKind.u32.bits) = (1#32 : BitVec 32) := rfl
theorem step_eq (c : BitVec 32) : IntKind.u32.wrap ((BitVec.ofInt IntKind.u32.bits ((c.toNat : Int).fdiv 2) ^^^ BitVec.ofInt IntKind.u32.bits (IntKind.u32.wrap (3988292384 * IntKind.u32.wrap ((BitVec.ofInt IntKind.u32.bits (c.toNat : Int) &&& BitVec.ofInt IntKind.u32.bits 1).toNat : Int)))).toNat : Int) = ((stepB c).toNat : Int) := by
  rw [u32_of, u32_shr, u32_of, u32_one]
  have e : (IntKind.u32.wrap (((c &&& 1#32 : BitVec 32)).toNat : Int)) = ((c &&& 1#32 : BitVec 32)).toNat := u32_wrap _
  have e2 := u32_mul (c &&& 1#32)
  have e3 := u32_wrap (stepB c)
  show IntKind.u32.wrap (((c >>> 1 : BitVec 32) ^^^ BitVec.ofInt 32 (IntKind.u32.wrap (3988292384 * IntKind.u32.wrap (((c &&& 1#32 : BitVec 32)).toNat : Int)))).toNat : Int) = _
  rw [e, e2]
  have e4 : BitVec.ofInt 32 ((3988292384#32 * (c &&& 1#32)).toNat : Int) = 3988292384#32 * (c &&& 1#32) := u32_of _
  rw [e4]
  exact e3
theorem more1_ok (c : BitVec 32) : FnS Tryd.prog 95 [.int .u32 c.toNat] [] (.int .u32 (stepB c).toNat) [] := by
  refine fn_walk tabOk Tryd.func95 rfl (by decide +kernel) Tryd.ntmps95 Tryd.results95 (by simp) fun B hB => ?_
  try refine hK _ ?_
  repeat (first | refine awp_seq ?_ | refine awp_block ?_ | refine awp_skip ?_ | refine awp_scope ?_ | refine awp_label ?_)
  refine awp_region tabOk fun K hK => ?_
  simp -dsimp -implicitDefEqProofs only [push_cast, ↓trAdd_f, ↓stOf_f, seval]
  refine hK _ ?_
  have hp : (2 : Int) ^ min 1 IntKind.u32.bits = 2 := rfl
  try refine hK _ ?_
  repeat (first | refine awp_seq ?_ | refine awp_block ?_ | refine awp_skip ?_ | refine awp_scope ?_ | refine awp_label ?_)
  refine awp_region tabOk fun K hK => ?_
  simp -dsimp -implicitDefEqProofs only [hp, step_eq, push_cast, ↓trAdd_f, ↓stOf_f, seval]
  refine hK _ (awp_ret ?_)
  simp -dsimp -implicitDefEqProofs only [push_cast, List.mem_append, List.mem_cons, List.mem_singleton, forall_eq_or_imp, forall_eq, ↓trAdd_f, ↓stOf_f, seval]
theorem not_eq (c : BitVec 32) : IntKind.u32.wrap ((BitVec.ofInt IntKind.u32.bits (if IntKind.u32.signed = true then -1 else IntKind.u32.max) ^^^ BitVec.ofInt IntKind.u32.bits (c.toNat : Int)).toNat : Int) = ((~~~ c).toNat : Int) := by
  rw [u32_of]
  have e : (BitVec.ofInt IntKind.u32.bits (if IntKind.u32.signed = true then -1 else IntKind.u32.max) : BitVec IntKind.u32.bits) = (BitVec.allOnes 32 : BitVec 32) := by
    show (BitVec.ofInt 32 4294967295 : BitVec 32) = BitVec.allOnes 32
    decide
  rw [e]
  have e2 : ((BitVec.allOnes 32 : BitVec 32) ^^^ c) = ~~~ c := BitVec.allOnes_xor
  show IntKind.u32.wrap ((((BitVec.allOnes 32 : BitVec 32) ^^^ c).toNat : Nat) : Int) = _
  rw [e2]
  exact u32_wrap _
theorem xor_eq (c : BitVec 32) (x : Int) : IntKind.u32.wrap ((BitVec.ofInt IntKind.u32.bits (c.toNat : Int) ^^^ BitVec.ofInt IntKind.u32.bits (IntKind.u32.wrap x)).toNat : Int) = ((c ^^^ BitVec.ofInt 32 x).toNat : Int) := by
  rw [u32_of]
  have e : (BitVec.ofInt IntKind.u32.bits (IntKind.u32.wrap x) : BitVec IntKind.u32.bits) = (BitVec.ofInt 32 x : BitVec 32) := by
    apply BitVec.eq_of_toNat_eq
    show (BitVec.ofInt 32 (IntKind.u32.wrap x)).toNat = _
    simp only [BitVec.toNat_ofInt, IntKind.wrap, IntKind.bits, IntKind.signed]
    congr 1
    simp
  rw [e]
  exact u32_wrap _
def moreS (b : List Int) (s : BitVec 32) (k : Nat) : AS := { sl := [(0, .int .i64 s.toNat), (5, .ptr 100 0), (6, .int .u32 ((b.take k).foldl crcIn (~~~ s)).toNat), (13, .sl false 1 (b.map encB)), (14, .int .i64 b.length), (15, .int .i64 k)], st := [(100, .box [.fn (.func 95) [] []])], nx := 200, n := 34 }
def stepN : Nat → BitVec 32 → BitVec 32
  | 0, c => c
  | n + 1, c => stepB (stepN n c)
def moreR (b : List Int) (s : BitVec 32) (k : Nat) (c : BitVec 32) (j : Nat) : AS := { sl := [(0, .int .i64 s.toNat), (5, .ptr 100 0), (6, .int .u32 (stepN j c).toNat), (13, .sl false 1 (b.map encB)), (14, .int .i64 b.length), (15, .int .i64 k), (23, .int .i64 j)], st := [(100, .box [.fn (.func 95) [] []])], nx := 400, n := 34 }
theorem more_ok (t : Bool) (s : BitVec 32) (b : List Int) (hl : b.length ≤ 2 ^ 40) : FnS Tryd.prog 87 [.int .i64 s.toNat, .sl t 1 (b.map encB)] [] (.int .i64 (crcMore s b).toNat) [] := by
  refine fn_walk tabOk Tryd.func87 rfl (by decide +kernel) Tryd.ntmps87 Tryd.results87 (by simp) fun B hB => ?_
  try refine hK _ ?_
  repeat (first | refine awp_seq ?_ | refine awp_block ?_ | refine awp_skip ?_ | refine awp_scope ?_ | refine awp_label ?_)
  refine awp_region tabOk fun K hK => ?_
  simp -dsimp -implicitDefEqProofs only [push_cast, ↓trAdd_f, ↓stOf_f, seval]
  refine hK _ ?_
  try refine hK _ ?_
  repeat (first | refine awp_seq ?_ | refine awp_block ?_ | refine awp_skip ?_ | refine awp_scope ?_ | refine awp_label ?_)
  refine awp_region tabOk fun K hK => ?_
  simp -dsimp -implicitDefEqProofs only [push_cast, ↓trAdd_f, ↓stOf_f, seval]
  refine hK _ ?_
  have hw : IntKind.u32.wrap (s.toNat : Int) = s.toNat := u32_wrap s
  try refine hK _ ?_
  repeat (first | refine awp_seq ?_ | refine awp_block ?_ | refine awp_skip ?_ | refine awp_scope ?_ | refine awp_label ?_)
  refine awp_region tabOk fun K hK => ?_
  simp -dsimp -implicitDefEqProofs only [hw, not_eq, push_cast, ↓trAdd_f, ↓stOf_f, seval]
  refine hK _ ?_
  try refine hK _ ?_
  repeat (first | refine awp_seq ?_ | refine awp_block ?_ | refine awp_skip ?_ | refine awp_scope ?_ | refine awp_label ?_)
  refine awp_region tabOk fun K hK => ?_
  simp -dsimp -implicitDefEqProofs only [push_cast, ↓trAdd_f, ↓stOf_f, seval]
  refine hK _ (awp_block ?_)
  refine awp_for (fun k : Nat => moreS b s k) (fun k => k ≤ b.length) (fun k => b.length - k) 0 (Nat.zero_le _) ?_ fun k hk => ?_
  · simp only [moreS, List.take_zero, List.foldl_nil]
    refine le_intro hB [(100, 16)] (by simp) (fun b hb => absurd hb (Nat.not_lt_zero b)) rfl ?_ ?_ rfl <;> simp -dsimp -implicitDefEqProofs only [push_cast, ↓trAdd_f, ↓stOf_f, seval]
  simp only [moreS]
  try refine hK _ ?_
  repeat (first | refine awp_seq ?_ | refine awp_block ?_ | refine awp_skip ?_ | refine awp_scope ?_ | refine awp_label ?_)
  refine awp_region tabOk fun K hK => ?_
  simp -dsimp -implicitDefEqProofs only [push_cast, ↓trAdd_f, ↓stOf_f, seval]
  try refine hK _ ?_
  repeat (first | refine awp_seq ?_ | refine awp_block ?_ | refine awp_skip ?_ | refine awp_scope ?_ | refine awp_label ?_)
  refine awp_cond (b := decide ((k : Int) < (b.length : Int))) (by simp -dsimp -implicitDefEqProofs only [push_cast, ↓trAdd_f, ↓stOf_f, seval]) (fun h => ?_) (fun h => ?_)
  · have hlt : k < b.length := by simpa using h
    refine awp_skip ?_
    try refine hK _ ?_
    repeat (first | refine awp_seq ?_ | refine awp_block ?_ | refine awp_skip ?_ | refine awp_scope ?_ | refine awp_label ?_)
    refine awp_region tabOk fun K hK => ?_
    simp -dsimp -implicitDefEqProofs only [hlt, getD_map, encB, push_cast, ↓trAdd_f, ↓stOf_f, seval]
    refine ⟨⟨by omega, by omega⟩, hK _ ?_⟩
    have hx := xor_eq ((b.take k).foldl crcIn (~~~ s)) b[k]
    try refine hK _ ?_
    repeat (first | refine awp_seq ?_ | refine awp_block ?_ | refine awp_skip ?_ | refine awp_scope ?_ | refine awp_label ?_)
    refine awp_region tabOk fun K hK => ?_
    simp -dsimp -implicitDefEqProofs only [hx, push_cast, ↓trAdd_f, ↓stOf_f, seval]
    refine hK _ ?_
    refine awp_join (moreR b s k ((b.take k).foldl crcIn (~~~ s) ^^^ BitVec.ofInt 32 b[k]) 8) ?_ (fun _ hl h => awp_le hl h) ?_
    · generalize (b.take k).foldl crcIn (~~~ s) ^^^ BitVec.ofInt 32 b[k] = c0
      try refine hK _ ?_
      repeat (first | refine awp_seq ?_ | refine awp_block ?_ | refine awp_skip ?_ | refine awp_scope ?_ | refine awp_label ?_)
      refine awp_region tabOk fun K hK => ?_
      simp -dsimp -implicitDefEqProofs only [push_cast, ↓trAdd_f, ↓stOf_f, seval]
      refine hK _ (awp_block ?_)
      refine awp_for (fun j : Nat => moreR b s k c0 j) (fun j => j ≤ 8) (fun j => 8 - j) 0 (Nat.zero_le _) ?_ fun j hj => ?_
      · simp only [moreR, stepN]
        refine le_intro hB [] (by simp) (fun b _ => rfl) rfl ?_ ?_ rfl <;> simp -dsimp -implicitDefEqProofs only [push_cast, ↓trAdd_f, ↓stOf_f, seval]
      simp only [moreR]
      try refine hK _ ?_
      repeat (first | refine awp_seq ?_ | refine awp_block ?_ | refine awp_skip ?_ | refine awp_scope ?_ | refine awp_label ?_)
      refine awp_region tabOk fun K hK => ?_
      simp -dsimp -implicitDefEqProofs only [push_cast, ↓trAdd_f, ↓stOf_f, seval]
      try refine hK _ ?_
      repeat (first | refine awp_seq ?_ | refine awp_block ?_ | refine awp_skip ?_ | refine awp_scope ?_ | refine awp_label ?_)
      refine awp_cond (b := decide ((j : Int) < 8)) (by simp -dsimp -implicitDefEqProofs only [push_cast, ↓trAdd_f, ↓stOf_f, seval]) (fun h => ?_) (fun h => ?_)
      · have hlt : j < 8 := by have := of_decide_eq_true h; omega
        refine awp_skip ?_
        try refine hK _ ?_
        repeat (first | refine awp_seq ?_ | refine awp_block ?_ | refine awp_skip ?_ | refine awp_scope ?_ | refine awp_label ?_)
        refine awp_region tabOk fun K hK => ?_
        simp -dsimp -implicitDefEqProofs only [push_cast, ↓trAdd_f, ↓stOf_f, seval]
        refine callK_simple (more1_ok (stepN j c0)) ?_ rfl fun _ => ?_
        · simp -dsimp -implicitDefEqProofs only [push_cast, List.mem_append, List.mem_cons, List.mem_singleton, forall_eq_or_imp, forall_eq, ↓trAdd_f, ↓stOf_f, seval]
        simp -dsimp -implicitDefEqProofs only [push_cast, ↓trAdd_f, ↓stOf_f, seval]
        refine hK _ ?_
        have hw : IntKind.i64.wrap ((j : Int) + 1) = (j : Int) + 1 := wrap_i64 (by omega) (by omega)
        try refine hK _ ?_
        repeat (first | refine awp_seq ?_ | refine awp_block ?_ | refine awp_skip ?_ | refine awp_scope ?_ | refine awp_label ?_)
        refine awp_region tabOk fun K hK => ?_
        simp -dsimp -implicitDefEqProofs only [hw, push_cast, ↓trAdd_f, ↓stOf_f, seval]
        refine hK _ ⟨j + 1, hlt, Nat.sub_lt_sub_left (by omega) (by omega), ?_⟩
        simp only [stepN]
        refine le_intro hB [] (by simp) (fun b _ => rfl) rfl ?_ ?_ rfl <;> simp -dsimp -implicitDefEqProofs only [push_cast, ↓trAdd_f, ↓stOf_f, seval]
      · have h8 : j = 8 := by simp at h; omega
        subst h8
        refine awp_exit rfl ?_
        refine le_intro hB [] (by simp) (fun b _ => rfl) rfl ?_ ?_ rfl <;> simp -dsimp -implicitDefEqProofs only [push_cast, ↓trAdd_f, ↓stOf_f, seval]
    have hw : IntKind.i64.wrap ((k : Int) + 1) = (k : Int) + 1 := wrap_i64 (by omega) (by omega)
    simp only [moreR]
    try refine hK _ ?_
    repeat (first | refine awp_seq ?_ | refine awp_block ?_ | refine awp_skip ?_ | refine awp_scope ?_ | refine awp_label ?_)
    refine awp_region tabOk fun K hK => ?_
    simp -dsimp -implicitDefEqProofs only [hw, push_cast, ↓trAdd_f, ↓stOf_f, seval]
    refine hK _ ⟨k + 1, hlt, Nat.sub_lt_sub_left (by omega) (by omega), ?_⟩
    have hf : (b.take (k + 1)).foldl crcIn (~~~ s) = stepN 8 ((b.take k).foldl crcIn (~~~ s) ^^^ BitVec.ofInt 32 b[k]) := by
      rw [List.take_succ_eq_append_getElem hlt, List.foldl_append]
      rfl
    simp only [moreS, hf]
    refine le_intro hB [] (by simp) (fun b _ => rfl) rfl ?_ ?_ rfl <;> simp -dsimp -implicitDefEqProofs only [push_cast, ↓trAdd_f, ↓stOf_f, seval]
  · have hke : k = b.length := by simp at h; omega
    subst hke
    refine awp_exit rfl ?_
    have hn := not_eq (b.foldl crcIn (~~~ s))
    have hi := i64_u32 (~~~ (b.foldl crcIn (~~~ s)))
    try refine hK _ ?_
    repeat (first | refine awp_seq ?_ | refine awp_block ?_ | refine awp_skip ?_ | refine awp_scope ?_ | refine awp_label ?_)
    refine awp_region tabOk fun K hK => ?_
    simp -dsimp -implicitDefEqProofs only [List.take_length, hn, hi, push_cast, ↓trAdd_f, ↓stOf_f, seval]
    refine hK _ (awp_ret ?_)
    simp -dsimp -implicitDefEqProofs only [crcMore, push_cast, List.mem_append, List.mem_cons, List.mem_singleton, forall_eq_or_imp, forall_eq, ↓trAdd_f, ↓stOf_f, seval]
theorem word_ok (t : Bool) (b : List Int) (hl : b.length ≤ 2 ^ 40) : FnS Tryd.prog 59 [.sl t 1 (b.map encB)] [] (.int .i64 (crcMore 0#32 b).toNat) [] := by
  refine fn_walk tabOk Tryd.func59 rfl (by decide +kernel) Tryd.ntmps59 Tryd.results59 (by simp) fun B hB => ?_
  try refine hK _ ?_
  repeat (first | refine awp_seq ?_ | refine awp_block ?_ | refine awp_skip ?_ | refine awp_scope ?_ | refine awp_label ?_)
  refine awp_region tabOk fun K hK => ?_
  simp -dsimp -implicitDefEqProofs only [push_cast, ↓trAdd_f, ↓stOf_f, seval]
  refine hK _ ?_
  try refine hK _ ?_
  repeat (first | refine awp_seq ?_ | refine awp_block ?_ | refine awp_skip ?_ | refine awp_scope ?_ | refine awp_label ?_)
  refine awp_region tabOk fun K hK => ?_
  simp -dsimp -implicitDefEqProofs only [push_cast, ↓trAdd_f, ↓stOf_f, seval]
  refine callK_simple (more_ok t 0#32 b hl) ?_ rfl fun _ => ?_
  · simp -dsimp -implicitDefEqProofs only [push_cast, List.mem_append, List.mem_cons, List.mem_singleton, forall_eq_or_imp, forall_eq, ↓trAdd_f, ↓stOf_f, seval]
  simp -dsimp -implicitDefEqProofs only [push_cast, ↓trAdd_f, ↓stOf_f, seval]
  refine hK _ (awp_ret ?_)
  simp -dsimp -implicitDefEqProofs only [push_cast, List.mem_append, List.mem_cons, List.mem_singleton, forall_eq_or_imp, forall_eq, ↓trAdd_f, ↓stOf_f, seval]
end Go.Proofs.YtoifmpiikopelaaDoorFw

/-
  Walks: slot.written.
-/
namespace Go.Proofs.YtoifmpiikopelaaDoorFw
open Go Go.Proofs
set_option maxRecDepth 100000
set_option maxHeartbeats 4000000
set_option linter.unusedVariables false
set_option linter.unusedSimpArgs false

/-- A record. -/
structure Rec where
  seq : Int
  s0 : Int
  s1 : Int
  v0 : Int
  v1 : Int
  tries : Int
deriving DecidableEq
def encRec (r : Rec) : List PV := [.int .i64 r.seq, .int .i64 r.s0, .int .i64 r.s1, .int .i64 r.v0, .int .i64 r.v1, .int .i64 r.tries]
def rec1 (r : Rec) : List Int := [82] ++ be4 r.seq
def rec2 (r : Rec) : List Int := rec1 r ++ [u8 r.s0, u8 r.s1]
def rec3 (r : Rec) : List Int := rec2 r ++ be4 r.v0 ++ be4 r.v1
def rec4 (r : Rec) : List Int := rec3 r ++ [u8 r.tries] ++ be4 0
def recF (r : Rec) : List Int := rec4 r ++ be4 ((crcMore 0#32 (rec4 r)).toNat : Int)

theorem bufR_take (bs : List Int) : (bufR bs).take bs.length = bs.map encB := by
  unfold bufR
  rw [List.map_append]
  exact List.take_left' (by simp)
theorem bytes_ok (bs : List Int) (hb : bs.length ≤ 64) : FnS Tryd.prog 81 [.ptr 0 0] (stB bs) (.own 1 1 0 bs.length) (stB bs) := by
  simp only [stB]
  refine fn_walkP tabOk Tryd.func81 rfl (by decide +kernel) Tryd.ntmps81 Tryd.results81 (by simp) fun B hB => ?_
  try refine hK _ ?_
  repeat (first | refine awp_seq ?_ | refine awp_block ?_ | refine awp_skip ?_ | refine awp_scope ?_ | refine awp_label ?_)
  refine awp_region tabOk fun K hK => ?_
  simp -dsimp -implicitDefEqProofs only [push_cast, ↓trAdd_f, ↓stOf_f, seval]
  refine hK _ ?_
  try refine hK _ ?_
  repeat (first | refine awp_seq ?_ | refine awp_block ?_ | refine awp_skip ?_ | refine awp_scope ?_ | refine awp_label ?_)
  refine awp_draw tabOk (by kernel_rfl) (by kernel_rfl) fun K hK C hC => ?_
  simp -dsimp -implicitDefEqProofs only [push_cast, ↓trAdd_f, ↓stOf_f, seval]
  refine ⟨by omega, hC _ (by kernel_rfl), hK _ (awp_ret ?_)⟩
  simp -dsimp -implicitDefEqProofs only [bufR_ok, push_cast, List.mem_append, List.mem_cons, List.mem_singleton, forall_eq_or_imp, forall_eq, ↓trAdd_f, ↓stOf_f, seval]
theorem u82 : u8 82 = 82 := by decide
def wrS (r : Rec) (bs : List Int) (sl : List (Nat × PV)) : AS := { sl := (1, .ptr 100 0) :: (3, .ptr 101 0) :: sl, st := [(100, .box (encRec r)), (101, .box [.ownc 102 1 0 bs.length 64, .int .i64 0, .int .i8 0]), (102, .row 1 (bufR bs))], nx := 200, n := 38 }
theorem written_ok (r : Rec) : FnS Tryd.prog 45 [.agg (encRec r)] [] (.sl false 1 ((recF r).map encB)) [] := by
  refine fn_walk tabOk Tryd.func45 rfl (by decide +kernel) Tryd.ntmps45 Tryd.results45 (by simp) fun B hB => ?_
  try refine hK _ ?_
  repeat (first | refine awp_seq ?_ | refine awp_block ?_ | refine awp_skip ?_ | refine awp_scope ?_ | refine awp_label ?_)
  refine awp_region tabOk fun K hK => ?_
  simp -dsimp -implicitDefEqProofs only [push_cast, ↓trAdd_f, ↓stOf_f, seval]
  refine hK _ ?_
  try refine hK _ ?_
  repeat (first | refine awp_seq ?_ | refine awp_block ?_ | refine awp_skip ?_ | refine awp_scope ?_ | refine awp_label ?_)
  refine awp_region tabOk fun K hK => ?_
  simp -dsimp -implicitDefEqProofs only [push_cast, ↓trAdd_f, ↓stOf_f, seval]
  refine hK _ ?_
  try refine hK _ ?_
  repeat (first | refine awp_seq ?_ | refine awp_block ?_ | refine awp_skip ?_ | refine awp_scope ?_ | refine awp_label ?_)
  refine awp_region tabOk fun K hK => ?_
  simp -dsimp -implicitDefEqProofs only [push_cast, ↓trAdd_f, ↓stOf_f, seval]
  refine ⟨79, [], [], { args := [.ptr 0 0, .int .i64 82], st0 := stN, res := .tup [], st1 := stB [82], r := [16] }, rfl, .inl (u82 ▸ one0_ok 82), ?_, ?_⟩
  · simp -dsimp -implicitDefEqProofs only [stN, stB, bufR_ok, bufR_ren, push_cast, List.mem_append, List.mem_cons, List.mem_singleton, forall_eq_or_imp, forall_eq, ↓trAdd_f, ↓stOf_f, seval]
  simp -dsimp -implicitDefEqProofs only [stB, bufR_ren, bufR_ok, push_cast, ↓trAdd_f, ↓stOf_f, seval]
  refine hK _ (awp_le (s' := wrS r [82] []) ?_ ?_)
  · simp only [wrS, encRec]
    refine le_intro hB [(100, 0), (101, 16), (102, 24)] (by simp) (fun b hb => absurd hb (Nat.not_lt_zero b)) rfl ?_ ?_ rfl <;> simp -dsimp -implicitDefEqProofs only [bufR_ok, bufR_ren, push_cast, ↓trAdd_f, ↓stOf_f, seval]
  simp only [wrS]
  try refine hK _ ?_
  repeat (first | refine awp_seq ?_ | refine awp_block ?_ | refine awp_skip ?_ | refine awp_scope ?_ | refine awp_label ?_)
  refine awp_region tabOk fun K hK => ?_
  simp -dsimp -implicitDefEqProofs only [encRec, push_cast, ↓trAdd_f, ↓stOf_f, seval]
  refine ⟨80, [], [], { args := [.ptr 0 0, .int .i64 r.seq], st0 := stB [82], res := .tup [], st1 := stB (rec1 r), r := [101, 102] }, rfl, .inl (four_ok [82] (by decide) r.seq), ?_, ?_⟩
  · simp -dsimp -implicitDefEqProofs only [stB, bufR_ok, bufR_ren, push_cast, List.mem_append, List.mem_cons, List.mem_singleton, forall_eq_or_imp, forall_eq, ↓trAdd_f, ↓stOf_f, seval]
    rfl
  simp -dsimp -implicitDefEqProofs only [stB, bufR_ren, bufR_ok, push_cast, ↓trAdd_f, ↓stOf_f, seval]
  refine hK _ (awp_le (s' := wrS r (rec1 r) []) ?_ ?_)
  · simp only [wrS, encRec]
    refine le_intro hB [] (by simp) (fun b _ => rfl) rfl ?_ ?_ rfl <;> simp -dsimp -implicitDefEqProofs only [bufR_ok, bufR_ren, encRec, push_cast, ↓trAdd_f, ↓stOf_f, seval]
  simp only [wrS]
  try refine hK _ ?_
  repeat (first | refine awp_seq ?_ | refine awp_block ?_ | refine awp_skip ?_ | refine awp_scope ?_ | refine awp_label ?_)
  refine awp_region tabOk fun K hK => ?_
  simp -dsimp -implicitDefEqProofs only [encRec, push_cast, ↓trAdd_f, ↓stOf_f, seval]
  refine hK _ (awp_block ?_)
  refine awp_for (fun k : Nat => wrS r (rec1 r ++ [u8 r.s0, u8 r.s1].take k) [(13, .agg [.int .i64 r.s0, .int .i64 r.s1]), (14, .int .i64 k)]) (fun k => k ≤ 2) (fun k => 2 - k) 0 (Nat.zero_le _) ?_ fun k hk => ?_
  · simp only [wrS, encRec, List.take_zero, List.append_nil]
    refine le_intro hB [] (by simp) (fun b _ => rfl) rfl ?_ ?_ rfl <;> simp -dsimp -implicitDefEqProofs only [bufR_ok, bufR_ren, encRec, push_cast, ↓trAdd_f, ↓stOf_f, seval]
  have hk3 : k = 0 ∨ k = 1 ∨ k = 2 := by omega
  rcases hk3 with rfl | rfl | rfl
  · have e : (rec1 r) ++ [u8 r.s0] = rec1 r ++ [u8 r.s0] := by simp
    have d : decide ((0 : Int) < 2) = true := rfl
    have ht : [u8 r.s0, u8 r.s1].take 0 = [] := rfl
    have ht1 : [u8 r.s0, u8 r.s1].take 1 = [u8 r.s0] := rfl
    simp only [wrS, ht, List.append_nil]
    try refine hK _ ?_
    repeat (first | refine awp_seq ?_ | refine awp_block ?_ | refine awp_skip ?_ | refine awp_scope ?_ | refine awp_label ?_)
    refine awp_region tabOk fun K hK => ?_
    simp -dsimp -implicitDefEqProofs only [d, push_cast, ↓trAdd_f, ↓stOf_f, seval]
    try refine hK _ ?_
    repeat (first | refine awp_seq ?_ | refine awp_block ?_ | refine awp_skip ?_ | refine awp_scope ?_ | refine awp_label ?_)
    refine awp_cond (b := true) (by simp -dsimp -implicitDefEqProofs only [push_cast, ↓trAdd_f, ↓stOf_f, seval]) (fun h => ?_) (fun h => ?_)
    rotate_left
    · cases h
    refine awp_skip ?_
    try refine hK _ ?_
    repeat (first | refine awp_seq ?_ | refine awp_block ?_ | refine awp_skip ?_ | refine awp_scope ?_ | refine awp_label ?_)
    refine awp_region tabOk fun K hK => ?_
    simp -dsimp -implicitDefEqProofs only [push_cast, ↓trAdd_f, ↓stOf_f, seval]
    refine hK _ ?_
    try refine hK _ ?_
    repeat (first | refine awp_seq ?_ | refine awp_block ?_ | refine awp_skip ?_ | refine awp_scope ?_ | refine awp_label ?_)
    refine awp_region tabOk fun K hK => ?_
    simp -dsimp -implicitDefEqProofs only [push_cast, ↓trAdd_f, ↓stOf_f, seval]
    refine ⟨79, [], [], { args := [.ptr 0 0, .int .i64 (r.s0)], st0 := stB (rec1 r), res := .tup [], st1 := stB (rec1 r ++ [u8 r.s0]), r := [101, 102] }, rfl, .inl (e ▸ one_ok (rec1 r) (by simp [rec1, be4]) (r.s0)), ?_, ?_⟩
    · simp -dsimp -implicitDefEqProofs only [stB, bufR_ok, bufR_ren, push_cast, List.mem_append, List.mem_cons, List.mem_singleton, forall_eq_or_imp, forall_eq, ↓trAdd_f, ↓stOf_f, seval]
      rfl
    simp -dsimp -implicitDefEqProofs only [stB, bufR_ren, bufR_ok, push_cast, ↓trAdd_f, ↓stOf_f, seval]

    refine hK _ ?_
    have w : IntKind.i64.wrap 1 = 1 := by decide
    try refine hK _ ?_
    repeat (first | refine awp_seq ?_ | refine awp_block ?_ | refine awp_skip ?_ | refine awp_scope ?_ | refine awp_label ?_)
    refine awp_region tabOk fun K hK => ?_
    simp -dsimp -implicitDefEqProofs only [w, push_cast, ↓trAdd_f, ↓stOf_f, seval]
    refine hK _ ⟨1, (by decide : 1 ≤ 2), (by decide : 2 - 1 < 2 - 0), ?_⟩
    simp only [ht1]
    refine le_intro hB [] (by simp) (fun b _ => rfl) rfl ?_ ?_ rfl <;> simp -dsimp -implicitDefEqProofs only [bufR_ok, bufR_ren, encRec, push_cast, ↓trAdd_f, ↓stOf_f, seval]
  · have e : (rec1 r ++ [u8 r.s0]) ++ [u8 r.s1] = rec1 r ++ [u8 r.s0, u8 r.s1] := by simp
    have d : decide ((1 : Int) < 2) = true := rfl
    have ht : [u8 r.s0, u8 r.s1].take 1 = [u8 r.s0] := rfl
    have ht1 : [u8 r.s0, u8 r.s1].take 2 = [u8 r.s0, u8 r.s1] := rfl
    simp only [wrS, ht, List.append_nil]
    try refine hK _ ?_
    repeat (first | refine awp_seq ?_ | refine awp_block ?_ | refine awp_skip ?_ | refine awp_scope ?_ | refine awp_label ?_)
    refine awp_region tabOk fun K hK => ?_
    simp -dsimp -implicitDefEqProofs only [d, push_cast, ↓trAdd_f, ↓stOf_f, seval]
    try refine hK _ ?_
    repeat (first | refine awp_seq ?_ | refine awp_block ?_ | refine awp_skip ?_ | refine awp_scope ?_ | refine awp_label ?_)
    refine awp_cond (b := true) (by simp -dsimp -implicitDefEqProofs only [push_cast, ↓trAdd_f, ↓stOf_f, seval]) (fun h => ?_) (fun h => ?_)
    rotate_left
    · cases h
    refine awp_skip ?_
    try refine hK _ ?_
    repeat (first | refine awp_seq ?_ | refine awp_block ?_ | refine awp_skip ?_ | refine awp_scope ?_ | refine awp_label ?_)
    refine awp_region tabOk fun K hK => ?_
    simp -dsimp -implicitDefEqProofs only [push_cast, ↓trAdd_f, ↓stOf_f, seval]
    refine hK _ ?_
    try refine hK _ ?_
    repeat (first | refine awp_seq ?_ | refine awp_block ?_ | refine awp_skip ?_ | refine awp_scope ?_ | refine awp_label ?_)
    refine awp_region tabOk fun K hK => ?_
    simp -dsimp -implicitDefEqProofs only [push_cast, ↓trAdd_f, ↓stOf_f, seval]
    refine ⟨79, [], [], { args := [.ptr 0 0, .int .i64 (r.s1)], st0 := stB (rec1 r ++ [u8 r.s0]), res := .tup [], st1 := stB (rec1 r ++ [u8 r.s0, u8 r.s1]), r := [101, 102] }, rfl, .inl (e ▸ one_ok (rec1 r ++ [u8 r.s0]) (by simp [rec1, be4]) (r.s1)), ?_, ?_⟩
    · simp -dsimp -implicitDefEqProofs only [stB, bufR_ok, bufR_ren, push_cast, List.mem_append, List.mem_cons, List.mem_singleton, forall_eq_or_imp, forall_eq, ↓trAdd_f, ↓stOf_f, seval]
      rfl
    simp -dsimp -implicitDefEqProofs only [stB, bufR_ren, bufR_ok, push_cast, ↓trAdd_f, ↓stOf_f, seval]

    refine hK _ ?_
    have w : IntKind.i64.wrap 2 = 2 := by decide
    try refine hK _ ?_
    repeat (first | refine awp_seq ?_ | refine awp_block ?_ | refine awp_skip ?_ | refine awp_scope ?_ | refine awp_label ?_)
    refine awp_region tabOk fun K hK => ?_
    simp -dsimp -implicitDefEqProofs only [w, push_cast, ↓trAdd_f, ↓stOf_f, seval]
    refine hK _ ⟨2, (by decide : 2 ≤ 2), (by decide : 2 - 2 < 2 - 1), ?_⟩
    simp only [ht1]
    refine le_intro hB [] (by simp) (fun b _ => rfl) rfl ?_ ?_ rfl <;> simp -dsimp -implicitDefEqProofs only [bufR_ok, bufR_ren, encRec, push_cast, ↓trAdd_f, ↓stOf_f, seval]
  · have ht : [u8 r.s0, u8 r.s1].take 2 = [u8 r.s0, u8 r.s1] := rfl
    have d : decide ((2 : Int) < 2) = false := rfl
    simp only [wrS, ht]
    try refine hK _ ?_
    repeat (first | refine awp_seq ?_ | refine awp_block ?_ | refine awp_skip ?_ | refine awp_scope ?_ | refine awp_label ?_)
    refine awp_region tabOk fun K hK => ?_
    simp -dsimp -implicitDefEqProofs only [d, push_cast, ↓trAdd_f, ↓stOf_f, seval]
    try refine hK _ ?_
    repeat (first | refine awp_seq ?_ | refine awp_block ?_ | refine awp_skip ?_ | refine awp_scope ?_ | refine awp_label ?_)
    refine awp_cond (b := false) (by simp -dsimp -implicitDefEqProofs only [push_cast, ↓trAdd_f, ↓stOf_f, seval]) (fun h => ?_) (fun h => ?_)
    · cases h
    refine awp_exit rfl ?_
    refine awp_le (s' := wrS r (rec2 r) []) ?_ ?_
    · simp only [wrS, rec2]
      refine le_intro hB [] (by simp) (fun b _ => rfl) rfl ?_ ?_ rfl <;> simp -dsimp -implicitDefEqProofs only [bufR_ok, bufR_ren, encRec, push_cast, ↓trAdd_f, ↓stOf_f, seval]
    simp only [wrS]
    try refine hK _ ?_
    repeat (first | refine awp_seq ?_ | refine awp_block ?_ | refine awp_skip ?_ | refine awp_scope ?_ | refine awp_label ?_)
    refine awp_region tabOk fun K hK => ?_
    simp -dsimp -implicitDefEqProofs only [encRec, push_cast, ↓trAdd_f, ↓stOf_f, seval]
    refine hK _ (awp_block ?_)
    refine awp_for (fun k : Nat => wrS r (match k with | 0 => rec2 r | 1 => rec2 r ++ be4 r.v0 | _ => rec3 r) [(21, .agg [.int .i64 r.v0, .int .i64 r.v1]), (22, .int .i64 k)]) (fun k => k ≤ 2) (fun k => 2 - k) 0 (Nat.zero_le _) ?_ fun k hk => ?_
    · simp only [wrS, encRec]
      refine le_intro hB [] (by simp) (fun b _ => rfl) rfl ?_ ?_ rfl <;> simp -dsimp -implicitDefEqProofs only [bufR_ok, bufR_ren, push_cast, ↓trAdd_f, ↓stOf_f, seval]
    have hk3 : k = 0 ∨ k = 1 ∨ k = 2 := by omega
    rcases hk3 with rfl | rfl | rfl
    · have d : decide ((0 : Int) < 2) = true := rfl
      simp only [wrS]
      try refine hK _ ?_
      repeat (first | refine awp_seq ?_ | refine awp_block ?_ | refine awp_skip ?_ | refine awp_scope ?_ | refine awp_label ?_)
      refine awp_region tabOk fun K hK => ?_
      simp -dsimp -implicitDefEqProofs only [d, push_cast, ↓trAdd_f, ↓stOf_f, seval]
      try refine hK _ ?_
      repeat (first | refine awp_seq ?_ | refine awp_block ?_ | refine awp_skip ?_ | refine awp_scope ?_ | refine awp_label ?_)
      refine awp_cond (b := true) (by simp -dsimp -implicitDefEqProofs only [push_cast, ↓trAdd_f, ↓stOf_f, seval]) (fun h => ?_) (fun h => ?_)
      rotate_left
      · cases h
      refine awp_skip ?_
      try refine hK _ ?_
      repeat (first | refine awp_seq ?_ | refine awp_block ?_ | refine awp_skip ?_ | refine awp_scope ?_ | refine awp_label ?_)
      refine awp_region tabOk fun K hK => ?_
      simp -dsimp -implicitDefEqProofs only [push_cast, ↓trAdd_f, ↓stOf_f, seval]
      refine hK _ ?_
      try refine hK _ ?_
      repeat (first | refine awp_seq ?_ | refine awp_block ?_ | refine awp_skip ?_ | refine awp_scope ?_ | refine awp_label ?_)
      refine awp_region tabOk fun K hK => ?_
      simp -dsimp -implicitDefEqProofs only [push_cast, ↓trAdd_f, ↓stOf_f, seval]
      refine ⟨80, [], [], { args := [.ptr 0 0, .int .i64 (r.v0)], st0 := stB (rec2 r), res := .tup [], st1 := stB (rec2 r ++ be4 r.v0), r := [101, 102] }, rfl, .inl (four_ok (rec2 r) (by simp [rec2, rec1, be4]) (r.v0)), ?_, ?_⟩
      · simp -dsimp -implicitDefEqProofs only [stB, bufR_ok, bufR_ren, push_cast, List.mem_append, List.mem_cons, List.mem_singleton, forall_eq_or_imp, forall_eq, ↓trAdd_f, ↓stOf_f, seval]
        rfl
      simp -dsimp -implicitDefEqProofs only [stB, bufR_ren, bufR_ok, push_cast, ↓trAdd_f, ↓stOf_f, seval]

      refine hK _ ?_
      have w : IntKind.i64.wrap 1 = 1 := by decide
      try refine hK _ ?_
      repeat (first | refine awp_seq ?_ | refine awp_block ?_ | refine awp_skip ?_ | refine awp_scope ?_ | refine awp_label ?_)
      refine awp_region tabOk fun K hK => ?_
      simp -dsimp -implicitDefEqProofs only [w, push_cast, ↓trAdd_f, ↓stOf_f, seval]
      refine hK _ ⟨1, (by decide : 1 ≤ 2), (by decide : 2 - 1 < 2 - 0), ?_⟩
      simp only []
      refine le_intro hB [] (by simp) (fun b _ => rfl) rfl ?_ ?_ rfl <;> simp -dsimp -implicitDefEqProofs only [bufR_ok, bufR_ren, encRec, push_cast, ↓trAdd_f, ↓stOf_f, seval]
    · have d : decide ((1 : Int) < 2) = true := rfl
      simp only [wrS]
      try refine hK _ ?_
      repeat (first | refine awp_seq ?_ | refine awp_block ?_ | refine awp_skip ?_ | refine awp_scope ?_ | refine awp_label ?_)
      refine awp_region tabOk fun K hK => ?_
      simp -dsimp -implicitDefEqProofs only [d, push_cast, ↓trAdd_f, ↓stOf_f, seval]
      try refine hK _ ?_
      repeat (first | refine awp_seq ?_ | refine awp_block ?_ | refine awp_skip ?_ | refine awp_scope ?_ | refine awp_label ?_)
      refine awp_cond (b := true) (by simp -dsimp -implicitDefEqProofs only [push_cast, ↓trAdd_f, ↓stOf_f, seval]) (fun h => ?_) (fun h => ?_)
      rotate_left
      · cases h
      refine awp_skip ?_
      try refine hK _ ?_
      repeat (first | refine awp_seq ?_ | refine awp_block ?_ | refine awp_skip ?_ | refine awp_scope ?_ | refine awp_label ?_)
      refine awp_region tabOk fun K hK => ?_
      simp -dsimp -implicitDefEqProofs only [push_cast, ↓trAdd_f, ↓stOf_f, seval]
      refine hK _ ?_
      try refine hK _ ?_
      repeat (first | refine awp_seq ?_ | refine awp_block ?_ | refine awp_skip ?_ | refine awp_scope ?_ | refine awp_label ?_)
      refine awp_region tabOk fun K hK => ?_
      simp -dsimp -implicitDefEqProofs only [push_cast, ↓trAdd_f, ↓stOf_f, seval]
      refine ⟨80, [], [], { args := [.ptr 0 0, .int .i64 (r.v1)], st0 := stB (rec2 r ++ be4 r.v0), res := .tup [], st1 := stB (rec3 r), r := [101, 102] }, rfl, .inl (four_ok (rec2 r ++ be4 r.v0) (by simp [rec2, rec1, be4]) (r.v1)), ?_, ?_⟩
      · simp -dsimp -implicitDefEqProofs only [stB, bufR_ok, bufR_ren, push_cast, List.mem_append, List.mem_cons, List.mem_singleton, forall_eq_or_imp, forall_eq, ↓trAdd_f, ↓stOf_f, seval]
        rfl
      simp -dsimp -implicitDefEqProofs only [stB, bufR_ren, bufR_ok, push_cast, ↓trAdd_f, ↓stOf_f, seval]

      refine hK _ ?_
      have w : IntKind.i64.wrap 2 = 2 := by decide
      try refine hK _ ?_
      repeat (first | refine awp_seq ?_ | refine awp_block ?_ | refine awp_skip ?_ | refine awp_scope ?_ | refine awp_label ?_)
      refine awp_region tabOk fun K hK => ?_
      simp -dsimp -implicitDefEqProofs only [w, push_cast, ↓trAdd_f, ↓stOf_f, seval]
      refine hK _ ⟨2, (by decide : 2 ≤ 2), (by decide : 2 - 2 < 2 - 1), ?_⟩
      simp only []
      refine le_intro hB [] (by simp) (fun b _ => rfl) rfl ?_ ?_ rfl <;> simp -dsimp -implicitDefEqProofs only [bufR_ok, bufR_ren, encRec, push_cast, ↓trAdd_f, ↓stOf_f, seval]
    · have d : decide ((2 : Int) < 2) = false := rfl
      simp only [wrS]
      try refine hK _ ?_
      repeat (first | refine awp_seq ?_ | refine awp_block ?_ | refine awp_skip ?_ | refine awp_scope ?_ | refine awp_label ?_)
      refine awp_region tabOk fun K hK => ?_
      simp -dsimp -implicitDefEqProofs only [d, push_cast, ↓trAdd_f, ↓stOf_f, seval]
      try refine hK _ ?_
      repeat (first | refine awp_seq ?_ | refine awp_block ?_ | refine awp_skip ?_ | refine awp_scope ?_ | refine awp_label ?_)
      refine awp_cond (b := false) (by simp -dsimp -implicitDefEqProofs only [push_cast, ↓trAdd_f, ↓stOf_f, seval]) (fun h => ?_) (fun h => ?_)
      · cases h
      refine awp_exit rfl ?_
      refine awp_le (s' := wrS r (rec3 r) []) ?_ ?_
      · simp only [wrS]
        refine le_intro hB [] (by simp) (fun b _ => rfl) rfl ?_ ?_ rfl <;> simp -dsimp -implicitDefEqProofs only [bufR_ok, bufR_ren, encRec, push_cast, ↓trAdd_f, ↓stOf_f, seval]
      simp only [wrS]
      try refine hK _ ?_
      repeat (first | refine awp_seq ?_ | refine awp_block ?_ | refine awp_skip ?_ | refine awp_scope ?_ | refine awp_label ?_)
      refine awp_region tabOk fun K hK => ?_
      simp -dsimp -implicitDefEqProofs only [encRec, push_cast, ↓trAdd_f, ↓stOf_f, seval]
      refine ⟨79, [], [], { args := [.ptr 0 0, .int .i64 (r.tries)], st0 := stB (rec3 r), res := .tup [], st1 := stB (rec3 r ++ [u8 r.tries]), r := [101, 102] }, rfl, .inl (one_ok (rec3 r) (by simp [rec3, rec2, rec1, be4]) _), ?_, ?_⟩
      · simp -dsimp -implicitDefEqProofs only [stB, bufR_ok, bufR_ren, push_cast, List.mem_append, List.mem_cons, List.mem_singleton, forall_eq_or_imp, forall_eq, ↓trAdd_f, ↓stOf_f, seval]
        rfl
      simp -dsimp -implicitDefEqProofs only [stB, bufR_ren, bufR_ok, push_cast, ↓trAdd_f, ↓stOf_f, seval]

      refine hK _ ?_
      try refine hK _ ?_
      repeat (first | refine awp_seq ?_ | refine awp_block ?_ | refine awp_skip ?_ | refine awp_scope ?_ | refine awp_label ?_)
      refine awp_region tabOk fun K hK => ?_
      simp -dsimp -implicitDefEqProofs only [push_cast, ↓trAdd_f, ↓stOf_f, seval]
      refine ⟨80, [], [], { args := [.ptr 0 0, .int .i64 (0)], st0 := stB (rec3 r ++ [u8 r.tries]), res := .tup [], st1 := stB (rec4 r), r := [101, 102] }, rfl, .inl (four_ok (rec3 r ++ [u8 r.tries]) (by simp [rec3, rec2, rec1, be4]) 0), ?_, ?_⟩
      · simp -dsimp -implicitDefEqProofs only [stB, bufR_ok, bufR_ren, push_cast, List.mem_append, List.mem_cons, List.mem_singleton, forall_eq_or_imp, forall_eq, ↓trAdd_f, ↓stOf_f, seval]
        rfl
      simp -dsimp -implicitDefEqProofs only [stB, bufR_ren, bufR_ok, push_cast, ↓trAdd_f, ↓stOf_f, seval]

      refine hK _ (awp_le (s' := wrS r (rec4 r) []) ?_ ?_)
      · simp only [wrS]
        refine le_intro hB [] (by simp) (fun b _ => rfl) rfl ?_ ?_ rfl <;> simp -dsimp -implicitDefEqProofs only [bufR_ok, bufR_ren, encRec, push_cast, ↓trAdd_f, ↓stOf_f, seval]
      simp only [wrS]
      try refine hK _ ?_
      repeat (first | refine awp_seq ?_ | refine awp_block ?_ | refine awp_skip ?_ | refine awp_scope ?_ | refine awp_label ?_)
      refine awp_region tabOk fun K hK => ?_
      simp -dsimp -implicitDefEqProofs only [push_cast, ↓trAdd_f, ↓stOf_f, seval]
      refine ⟨81, [], [], { args := [.ptr 0 0], st0 := stB (rec4 r), res := .own 1 1 0 (rec4 r).length, st1 := stB (rec4 r), r := [101, 102] }, rfl, .inl (bytes_ok (rec4 r) (by simp [rec4, rec3, rec2, rec1, be4])), ?_, ?_⟩
      · simp -dsimp -implicitDefEqProofs only [stB, bufR_ok, bufR_ren, push_cast, List.mem_append, List.mem_cons, List.mem_singleton, forall_eq_or_imp, forall_eq, ↓trAdd_f, ↓stOf_f, seval]
        rfl
      simp -dsimp -implicitDefEqProofs only [stB, bufR_ren, bufR_ok, push_cast, ↓trAdd_f, ↓stOf_f, seval]
      have hl4 : (rec4 r).length = 20 := by simp [rec4, rec3, rec2, rec1, be4]
      have ht := bufR_take (rec4 r)
      have hbl := bufR_len (bs := rec4 r) (by omega)
      have hz : (∀ e ∈ (rec4 r).map encB, ∀ c ∈ e, c.fz = true) = True := eq_true (fz_map encB_fz (rec4 r))
      rw [hl4] at ht
      simp only [hl4]
      refine callK_simple (word_ok false (rec4 r) (by omega)) ?_ rfl fun _ => ?_
      · simp -dsimp -implicitDefEqProofs only [ht, hbl, hz, push_cast, List.mem_append, List.mem_cons, List.mem_singleton, forall_eq_or_imp, forall_eq, ↓trAdd_f, ↓stOf_f, seval]
      simp -dsimp -implicitDefEqProofs only [push_cast, ↓trAdd_f, ↓stOf_f, seval]
      refine ⟨80, [], [], { args := [.ptr 0 0, .int .i64 ((crcMore 0#32 (rec4 r)).toNat : Int)], st0 := stB (rec4 r), res := .tup [], st1 := stB (recF r), r := [101, 102] }, rfl, .inl (four_ok (rec4 r) (by omega) _), ?_, ?_⟩
      · simp -dsimp -implicitDefEqProofs only [stB, bufR_ok, bufR_ren, hl4, push_cast, List.mem_append, List.mem_cons, List.mem_singleton, forall_eq_or_imp, forall_eq, ↓trAdd_f, ↓stOf_f, seval]
        rfl
      simp -dsimp -implicitDefEqProofs only [stB, bufR_ren, bufR_ok, push_cast, ↓trAdd_f, ↓stOf_f, seval]
      have hlF : (recF r).length = 24 := by simp [recF, hl4, be4]
      refine hK _ (awp_le (s' := wrS r (recF r) []) ?_ ?_)
      · simp only [wrS]
        refine le_intro hB [] (by simp) (fun b _ => rfl) rfl ?_ ?_ rfl <;> simp -dsimp -implicitDefEqProofs only [bufR_ok, bufR_ren, encRec, push_cast, ↓trAdd_f, ↓stOf_f, seval]
      simp only [wrS]
      try refine hK _ ?_
      repeat (first | refine awp_seq ?_ | refine awp_block ?_ | refine awp_skip ?_ | refine awp_scope ?_ | refine awp_label ?_)
      refine awp_region tabOk fun K hK => ?_
      simp -dsimp -implicitDefEqProofs only [push_cast, ↓trAdd_f, ↓stOf_f, seval]
      refine ⟨81, [], [], { args := [.ptr 0 0], st0 := stB (recF r), res := .own 1 1 0 (recF r).length, st1 := stB (recF r), r := [101, 102] }, rfl, .inl (bytes_ok (recF r) (by omega)), ?_, ?_⟩
      · simp -dsimp -implicitDefEqProofs only [stB, bufR_ok, bufR_ren, push_cast, List.mem_append, List.mem_cons, List.mem_singleton, forall_eq_or_imp, forall_eq, ↓trAdd_f, ↓stOf_f, seval]
        rfl
      simp -dsimp -implicitDefEqProofs only [stB, bufR_ren, bufR_ok, push_cast, ↓trAdd_f, ↓stOf_f, seval]
      have htF := bufR_take (recF r)
      have hblF := bufR_len (bs := recF r) (by omega)
      have hzF : (∀ e ∈ (recF r).map encB, ∀ c ∈ e, c.fz = true) = True := eq_true (fz_map encB_fz (recF r))
      rw [hlF] at htF
      simp only [hlF]
      refine hK _ (awp_ret ?_)
      simp -dsimp -implicitDefEqProofs only [htF, hblF, hzF, push_cast, List.mem_append, List.mem_cons, List.mem_singleton, forall_eq_or_imp, forall_eq, ↓trAdd_f, ↓stOf_f, seval]
end Go.Proofs.YtoifmpiikopelaaDoorFw

/-
  Walks: slices.Min, slices.Max.
-/
namespace Go.Proofs.YtoifmpiikopelaaDoorFw
open Go Go.Proofs
set_option maxRecDepth 100000
set_option maxHeartbeats 4000000
set_option linter.unusedVariables false
set_option linter.unusedSimpArgs false

def foldF (g : Int → Int → Int) : List Int → Int
  | [] => 0
  | x :: l => l.foldl g x
theorem foldF_succ (g : Int → Int → Int) (l : List Int) (k : Nat) (h0 : 1 ≤ k) (h : k < l.length) : foldF g (l.take (k + 1)) = g (foldF g (l.take k)) l[k] := by
  match l, k, h0 with
  | [], _, _ => simp at h
  | x :: l, k + 1, _ =>
    have hk : k < l.length := by simpa using h
    rw [List.take_succ_cons, List.take_succ_cons]
    show (l.take (k + 1)).foldl g x = g ((l.take k).foldl g x) l[k]
    rw [List.take_succ_eq_append_getElem hk, List.foldl_append]; rfl
theorem foldF_one (g : Int → Int → Int) (l : List Int) (h : 0 < l.length) : foldF g (l.take 1) = l[0] := by
  match l with
  | [] => simp at h
  | x :: l => rfl
end Go.Proofs.YtoifmpiikopelaaDoorFw

/-
  Walks: flash.Right's function, slices.IndexFunc and ContainsFunc of it.
-/
namespace Go.Proofs.YtoifmpiikopelaaDoorFw
open Go Go.Proofs
set_option maxRecDepth 100000
set_option maxHeartbeats 4000000
set_option linter.unusedVariables false
set_option linter.unusedSimpArgs false

def encP (p : List Int) : List PV := [.sl false 1 (p.map encB)]
def badFrom : List (List Int) → Nat → Int
  | [], _ => -1
  | p :: ps, k => if p.length = 64 then badFrom ps (k + 1) else k
theorem badFrom_neg : ∀ (ps : List (List Int)) (k : Nat), (badFrom ps k < 0 ↔ ∀ p ∈ ps, p.length = 64)
  | [], k => by simp [badFrom]
  | p :: ps, k => by
    unfold badFrom
    by_cases h : p.length = 64
    · rw [if_pos h, badFrom_neg ps (k + 1)]; simp [h]
    · rw [if_neg h]; simp [h]
end Go.Proofs.YtoifmpiikopelaaDoorFw

/-
  Walks: both Rights of a flash.
-/
namespace Go.Proofs.YtoifmpiikopelaaDoorFw
open Go Go.Proofs
set_option maxRecDepth 100000
set_option maxHeartbeats 4000000
set_option linter.unusedVariables false
set_option linter.unusedSimpArgs false

structure Flash where
  pages : List (List Int)
  wear : List Int
  left : Int
  down : Bool
def encFlash (f : Flash) : List PV := [.sl false 1 (f.pages.map encP), .sl false 1 (f.wear.map encI), .int .i64 f.left, .bool f.down]
structure Flash.ok (f : Flash) : Prop where
  n1 : 1 ≤ f.pages.length
  n80 : f.pages.length ≤ 80
  wear : f.wear.length = f.pages.length
  left : -1 ≤ f.left
  down : f.down = true → f.left = 0
  w0 : 0 ≤ foldF min f.wear
  w1 : foldF max f.wear ≤ 1099511627776
  block : ∀ p ∈ f.pages, p.length = 64
def badHead (f : Flash) : Bool := decide ((f.pages.length : Int) < 1) || decide (80 < (f.pages.length : Int)) || ((f.wear.length : Int) != f.pages.length) || decide (f.left < -1) || (f.down && (f.left != 0)) || decide (foldF min f.wear < 0) || decide (1099511627776 < foldF max f.wear)
def rightF (f : Flash) : Bool := !badHead f && !decide (0 ≤ badFrom f.pages 0)
end Go.Proofs.YtoifmpiikopelaaDoorFw

/-
  Walks: slot.Right, slot.held, slot.Read.
-/
namespace Go.Proofs.YtoifmpiikopelaaDoorFw
open Go Go.Proofs
set_option maxRecDepth 100000
set_option maxHeartbeats 4000000
set_option linter.unusedVariables false
set_option linter.unusedSimpArgs false

def shr31 (n : Int) : Int := n.fdiv 2147483648
def rightR (r : Rec) : Bool :=
  !(decide (r.s0 < 1) || decide (4 < r.s0) || shr31 r.v0 != 0) && !(decide (r.s1 < 1) || decide (4 < r.s1) || shr31 r.v1 != 0) && (decide (0 < r.seq) && (shr31 r.seq == 0) && (r.tries.fdiv 256 == 0))
theorem p31 : (2 : Int) ^ min 31 IntKind.i64.bits = 2147483648 := by decide
theorem p8 : (2 : Int) ^ min 8 IntKind.i64.bits = 256 := by decide
def badS (s v : Int) : Bool := decide (s < 1) || decide (4 < s) || shr31 v != 0
def rgS (r : Rec) (k : Nat) : AS := { sl := [(1, .ptr 0 0), (2, .bool false), (6, .agg [.int .i64 r.s0, .int .i64 r.s1]), (7, .int .i64 k)], st := [(0, .box (encRec r))], nx := 40, n := 41 }
theorem rightR_ok (r : Rec) : FnS Tryd.prog 42 [.agg (encRec r)] [] (.bool (rightR r)) [] := by
  refine fn_walk tabOk Tryd.func42 rfl (by decide +kernel) Tryd.ntmps42 Tryd.results42 (by simp) fun B hB => ?_
  try refine hK _ ?_
  repeat (first | refine awp_seq ?_ | refine awp_block ?_ | refine awp_skip ?_ | refine awp_scope ?_ | refine awp_label ?_)
  refine awp_region tabOk fun K hK => ?_
  simp -dsimp -implicitDefEqProofs only [push_cast, ↓trAdd_f, ↓stOf_f, seval]
  refine hK _ ?_
  try refine hK _ ?_
  repeat (first | refine awp_seq ?_ | refine awp_block ?_ | refine awp_skip ?_ | refine awp_scope ?_ | refine awp_label ?_)
  refine awp_region tabOk fun K hK => ?_
  simp -dsimp -implicitDefEqProofs only [encRec, push_cast, ↓trAdd_f, ↓stOf_f, seval]
  refine hK _ (awp_block ?_)
  refine awp_for (fun k : Nat => rgS r k) (fun k => k ≤ 2 ∧ (1 ≤ k → badS r.s0 r.v0 = false) ∧ (2 ≤ k → badS r.s1 r.v1 = false)) (fun k => 2 - k) 0 ⟨Nat.zero_le _, by omega, by omega⟩ ?_ fun k hk => ?_
  · simp only [rgS, encRec]
    refine le_intro hB [] (by simp) (fun b _ => rfl) rfl ?_ ?_ rfl <;> simp -dsimp -implicitDefEqProofs only [push_cast, ↓trAdd_f, ↓stOf_f, seval]
  obtain ⟨hk, hk0, hk1⟩ := hk
  have hk3 : k = 0 ∨ k = 1 ∨ k = 2 := by omega
  rcases hk3 with rfl | rfl | rfl
  · have d : decide ((0 : Int) < 2) = true := rfl
    simp only [rgS]
    try refine hK _ ?_
    repeat (first | refine awp_seq ?_ | refine awp_block ?_ | refine awp_skip ?_ | refine awp_scope ?_ | refine awp_label ?_)
    refine awp_region tabOk fun K hK => ?_
    simp -dsimp -implicitDefEqProofs only [d, push_cast, ↓trAdd_f, ↓stOf_f, seval]
    try refine hK _ ?_
    repeat (first | refine awp_seq ?_ | refine awp_block ?_ | refine awp_skip ?_ | refine awp_scope ?_ | refine awp_label ?_)
    refine awp_cond (b := true) (by simp -dsimp -implicitDefEqProofs only [push_cast, ↓trAdd_f, ↓stOf_f, seval]) (fun h => ?_) (fun h => ?_)
    rotate_left
    · cases h
    refine awp_skip ?_
    try refine hK _ ?_
    repeat (first | refine awp_seq ?_ | refine awp_block ?_ | refine awp_skip ?_ | refine awp_scope ?_ | refine awp_label ?_)
    refine awp_region tabOk fun K hK => ?_
    simp -dsimp -implicitDefEqProofs only [push_cast, ↓trAdd_f, ↓stOf_f, seval]
    refine hK _ ?_
    have ret0 : badS r.s0 r.v0 = true → rightR r = false := fun hb => by
      unfold rightR; unfold badS at hb; rw [hb]; simp
    cases hA : decide (r.s0 < 1) with
    | true =>
      have e := ret0 (by simp [badS, hA])
      try refine hK _ ?_
      repeat (first | refine awp_seq ?_ | refine awp_block ?_ | refine awp_skip ?_ | refine awp_scope ?_ | refine awp_label ?_)
      refine awp_region tabOk fun K hK => ?_
      simp -dsimp -implicitDefEqProofs only [hA, push_cast, ↓trAdd_f, ↓stOf_f, seval]
      try refine hK _ ?_
      repeat (first | refine awp_seq ?_ | refine awp_block ?_ | refine awp_skip ?_ | refine awp_scope ?_ | refine awp_label ?_)
      refine awp_cond (b := true) (by simp -dsimp -implicitDefEqProofs only [push_cast, ↓trAdd_f, ↓stOf_f, seval]) (fun h => ?_) (fun h => ?_)
      rotate_left
      · cases h
      try refine hK _ ?_
      repeat (first | refine awp_seq ?_ | refine awp_block ?_ | refine awp_skip ?_ | refine awp_scope ?_ | refine awp_label ?_)
      refine awp_region tabOk fun K hK => ?_
      simp -dsimp -implicitDefEqProofs only [push_cast, ↓trAdd_f, ↓stOf_f, seval]
      refine hK _ (awp_ret ?_)
      simp -dsimp -implicitDefEqProofs only [e, push_cast, List.mem_append, List.mem_cons, List.mem_singleton, forall_eq_or_imp, forall_eq, ↓trAdd_f, ↓stOf_f, seval]
    | false =>
    cases hQ : decide (4 < r.s0) with
    | true =>
      have e := ret0 (by simp [badS, hQ])
      try refine hK _ ?_
      repeat (first | refine awp_seq ?_ | refine awp_block ?_ | refine awp_skip ?_ | refine awp_scope ?_ | refine awp_label ?_)
      refine awp_region tabOk fun K hK => ?_
      simp -dsimp -implicitDefEqProofs only [hA, hQ, push_cast, ↓trAdd_f, ↓stOf_f, seval]
      try refine hK _ ?_
      repeat (first | refine awp_seq ?_ | refine awp_block ?_ | refine awp_skip ?_ | refine awp_scope ?_ | refine awp_label ?_)
      refine awp_cond (b := true) (by simp -dsimp -implicitDefEqProofs only [push_cast, ↓trAdd_f, ↓stOf_f, seval]) (fun h => ?_) (fun h => ?_)
      rotate_left
      · cases h
      try refine hK _ ?_
      repeat (first | refine awp_seq ?_ | refine awp_block ?_ | refine awp_skip ?_ | refine awp_scope ?_ | refine awp_label ?_)
      refine awp_region tabOk fun K hK => ?_
      simp -dsimp -implicitDefEqProofs only [push_cast, ↓trAdd_f, ↓stOf_f, seval]
      refine hK _ (awp_ret ?_)
      simp -dsimp -implicitDefEqProofs only [e, push_cast, List.mem_append, List.mem_cons, List.mem_singleton, forall_eq_or_imp, forall_eq, ↓trAdd_f, ↓stOf_f, seval]
    | false =>
    have hC0 : (r.v0.fdiv 2147483648 != 0) = (shr31 r.v0 != 0) := rfl
    cases hC : (shr31 r.v0 != 0) with
    | true =>
      have e := ret0 (by simp [badS, hC])
      try refine hK _ ?_
      repeat (first | refine awp_seq ?_ | refine awp_block ?_ | refine awp_skip ?_ | refine awp_scope ?_ | refine awp_label ?_)
      refine awp_region tabOk fun K hK => ?_
      simp -dsimp -implicitDefEqProofs only [hA, hQ, p31, hC0, hC, encRec, push_cast, ↓trAdd_f, ↓stOf_f, seval]
      try refine hK _ ?_
      repeat (first | refine awp_seq ?_ | refine awp_block ?_ | refine awp_skip ?_ | refine awp_scope ?_ | refine awp_label ?_)
      refine awp_cond (b := true) (by simp -dsimp -implicitDefEqProofs only [push_cast, ↓trAdd_f, ↓stOf_f, seval]) (fun h => ?_) (fun h => ?_)
      rotate_left
      · cases h
      try refine hK _ ?_
      repeat (first | refine awp_seq ?_ | refine awp_block ?_ | refine awp_skip ?_ | refine awp_scope ?_ | refine awp_label ?_)
      refine awp_region tabOk fun K hK => ?_
      simp -dsimp -implicitDefEqProofs only [push_cast, ↓trAdd_f, ↓stOf_f, seval]
      refine hK _ (awp_ret ?_)
      simp -dsimp -implicitDefEqProofs only [e, push_cast, List.mem_append, List.mem_cons, List.mem_singleton, forall_eq_or_imp, forall_eq, ↓trAdd_f, ↓stOf_f, seval]
    | false =>
      have hok : badS r.s0 r.v0 = false := by simp only [badS, hA, hQ, hC]; rfl
      try refine hK _ ?_
      repeat (first | refine awp_seq ?_ | refine awp_block ?_ | refine awp_skip ?_ | refine awp_scope ?_ | refine awp_label ?_)
      refine awp_region tabOk fun K hK => ?_
      simp -dsimp -implicitDefEqProofs only [hA, hQ, p31, hC0, hC, encRec, push_cast, ↓trAdd_f, ↓stOf_f, seval]
      try refine hK _ ?_
      repeat (first | refine awp_seq ?_ | refine awp_block ?_ | refine awp_skip ?_ | refine awp_scope ?_ | refine awp_label ?_)
      refine awp_cond (b := false) (by simp -dsimp -implicitDefEqProofs only [push_cast, ↓trAdd_f, ↓stOf_f, seval]) (fun h => ?_) (fun h => ?_)
      · cases h
      refine awp_skip ?_
      have w : IntKind.i64.wrap 1 = 1 := by decide
      try refine hK _ ?_
      repeat (first | refine awp_seq ?_ | refine awp_block ?_ | refine awp_skip ?_ | refine awp_scope ?_ | refine awp_label ?_)
      refine awp_region tabOk fun K hK => ?_
      simp -dsimp -implicitDefEqProofs only [w, push_cast, ↓trAdd_f, ↓stOf_f, seval]
      refine hK _ ⟨1, ⟨by decide, fun _ => hok, fun h => absurd h (by decide)⟩, by decide, ?_⟩
      refine le_intro hB [] (by simp) (fun b _ => rfl) rfl ?_ ?_ rfl <;> simp -dsimp -implicitDefEqProofs only [encRec, push_cast, ↓trAdd_f, ↓stOf_f, seval]
  · have d : decide ((1 : Int) < 2) = true := rfl
    simp only [rgS]
    try refine hK _ ?_
    repeat (first | refine awp_seq ?_ | refine awp_block ?_ | refine awp_skip ?_ | refine awp_scope ?_ | refine awp_label ?_)
    refine awp_region tabOk fun K hK => ?_
    simp -dsimp -implicitDefEqProofs only [d, push_cast, ↓trAdd_f, ↓stOf_f, seval]
    try refine hK _ ?_
    repeat (first | refine awp_seq ?_ | refine awp_block ?_ | refine awp_skip ?_ | refine awp_scope ?_ | refine awp_label ?_)
    refine awp_cond (b := true) (by simp -dsimp -implicitDefEqProofs only [push_cast, ↓trAdd_f, ↓stOf_f, seval]) (fun h => ?_) (fun h => ?_)
    rotate_left
    · cases h
    refine awp_skip ?_
    try refine hK _ ?_
    repeat (first | refine awp_seq ?_ | refine awp_block ?_ | refine awp_skip ?_ | refine awp_scope ?_ | refine awp_label ?_)
    refine awp_region tabOk fun K hK => ?_
    simp -dsimp -implicitDefEqProofs only [push_cast, ↓trAdd_f, ↓stOf_f, seval]
    refine hK _ ?_
    have ret0 : badS r.s1 r.v1 = true → rightR r = false := fun hb => by
      unfold rightR; unfold badS at hb; rw [hb]; simp
    cases hA : decide (r.s1 < 1) with
    | true =>
      have e := ret0 (by simp [badS, hA])
      try refine hK _ ?_
      repeat (first | refine awp_seq ?_ | refine awp_block ?_ | refine awp_skip ?_ | refine awp_scope ?_ | refine awp_label ?_)
      refine awp_region tabOk fun K hK => ?_
      simp -dsimp -implicitDefEqProofs only [hA, push_cast, ↓trAdd_f, ↓stOf_f, seval]
      try refine hK _ ?_
      repeat (first | refine awp_seq ?_ | refine awp_block ?_ | refine awp_skip ?_ | refine awp_scope ?_ | refine awp_label ?_)
      refine awp_cond (b := true) (by simp -dsimp -implicitDefEqProofs only [push_cast, ↓trAdd_f, ↓stOf_f, seval]) (fun h => ?_) (fun h => ?_)
      rotate_left
      · cases h
      try refine hK _ ?_
      repeat (first | refine awp_seq ?_ | refine awp_block ?_ | refine awp_skip ?_ | refine awp_scope ?_ | refine awp_label ?_)
      refine awp_region tabOk fun K hK => ?_
      simp -dsimp -implicitDefEqProofs only [push_cast, ↓trAdd_f, ↓stOf_f, seval]
      refine hK _ (awp_ret ?_)
      simp -dsimp -implicitDefEqProofs only [e, push_cast, List.mem_append, List.mem_cons, List.mem_singleton, forall_eq_or_imp, forall_eq, ↓trAdd_f, ↓stOf_f, seval]
    | false =>
    cases hQ : decide (4 < r.s1) with
    | true =>
      have e := ret0 (by simp [badS, hQ])
      try refine hK _ ?_
      repeat (first | refine awp_seq ?_ | refine awp_block ?_ | refine awp_skip ?_ | refine awp_scope ?_ | refine awp_label ?_)
      refine awp_region tabOk fun K hK => ?_
      simp -dsimp -implicitDefEqProofs only [hA, hQ, push_cast, ↓trAdd_f, ↓stOf_f, seval]
      try refine hK _ ?_
      repeat (first | refine awp_seq ?_ | refine awp_block ?_ | refine awp_skip ?_ | refine awp_scope ?_ | refine awp_label ?_)
      refine awp_cond (b := true) (by simp -dsimp -implicitDefEqProofs only [push_cast, ↓trAdd_f, ↓stOf_f, seval]) (fun h => ?_) (fun h => ?_)
      rotate_left
      · cases h
      try refine hK _ ?_
      repeat (first | refine awp_seq ?_ | refine awp_block ?_ | refine awp_skip ?_ | refine awp_scope ?_ | refine awp_label ?_)
      refine awp_region tabOk fun K hK => ?_
      simp -dsimp -implicitDefEqProofs only [push_cast, ↓trAdd_f, ↓stOf_f, seval]
      refine hK _ (awp_ret ?_)
      simp -dsimp -implicitDefEqProofs only [e, push_cast, List.mem_append, List.mem_cons, List.mem_singleton, forall_eq_or_imp, forall_eq, ↓trAdd_f, ↓stOf_f, seval]
    | false =>
    have hC0 : (r.v1.fdiv 2147483648 != 0) = (shr31 r.v1 != 0) := rfl
    cases hC : (shr31 r.v1 != 0) with
    | true =>
      have e := ret0 (by simp [badS, hC])
      try refine hK _ ?_
      repeat (first | refine awp_seq ?_ | refine awp_block ?_ | refine awp_skip ?_ | refine awp_scope ?_ | refine awp_label ?_)
      refine awp_region tabOk fun K hK => ?_
      simp -dsimp -implicitDefEqProofs only [hA, hQ, p31, hC0, hC, encRec, push_cast, ↓trAdd_f, ↓stOf_f, seval]
      try refine hK _ ?_
      repeat (first | refine awp_seq ?_ | refine awp_block ?_ | refine awp_skip ?_ | refine awp_scope ?_ | refine awp_label ?_)
      refine awp_cond (b := true) (by simp -dsimp -implicitDefEqProofs only [push_cast, ↓trAdd_f, ↓stOf_f, seval]) (fun h => ?_) (fun h => ?_)
      rotate_left
      · cases h
      try refine hK _ ?_
      repeat (first | refine awp_seq ?_ | refine awp_block ?_ | refine awp_skip ?_ | refine awp_scope ?_ | refine awp_label ?_)
      refine awp_region tabOk fun K hK => ?_
      simp -dsimp -implicitDefEqProofs only [push_cast, ↓trAdd_f, ↓stOf_f, seval]
      refine hK _ (awp_ret ?_)
      simp -dsimp -implicitDefEqProofs only [e, push_cast, List.mem_append, List.mem_cons, List.mem_singleton, forall_eq_or_imp, forall_eq, ↓trAdd_f, ↓stOf_f, seval]
    | false =>
      have hok : badS r.s1 r.v1 = false := by simp only [badS, hA, hQ, hC]; rfl
      try refine hK _ ?_
      repeat (first | refine awp_seq ?_ | refine awp_block ?_ | refine awp_skip ?_ | refine awp_scope ?_ | refine awp_label ?_)
      refine awp_region tabOk fun K hK => ?_
      simp -dsimp -implicitDefEqProofs only [hA, hQ, p31, hC0, hC, encRec, push_cast, ↓trAdd_f, ↓stOf_f, seval]
      try refine hK _ ?_
      repeat (first | refine awp_seq ?_ | refine awp_block ?_ | refine awp_skip ?_ | refine awp_scope ?_ | refine awp_label ?_)
      refine awp_cond (b := false) (by simp -dsimp -implicitDefEqProofs only [push_cast, ↓trAdd_f, ↓stOf_f, seval]) (fun h => ?_) (fun h => ?_)
      · cases h
      refine awp_skip ?_
      have w : IntKind.i64.wrap 2 = 2 := by decide
      try refine hK _ ?_
      repeat (first | refine awp_seq ?_ | refine awp_block ?_ | refine awp_skip ?_ | refine awp_scope ?_ | refine awp_label ?_)
      refine awp_region tabOk fun K hK => ?_
      simp -dsimp -implicitDefEqProofs only [w, push_cast, ↓trAdd_f, ↓stOf_f, seval]
      refine hK _ ⟨2, ⟨by decide, fun _ => hk0 (by decide), fun _ => hok⟩, by decide, ?_⟩
      refine le_intro hB [] (by simp) (fun b _ => rfl) rfl ?_ ?_ rfl <;> simp -dsimp -implicitDefEqProofs only [encRec, push_cast, ↓trAdd_f, ↓stOf_f, seval]
  · have d : decide ((2 : Int) < 2) = false := rfl
    have g0 := hk0 (by decide)
    have g1 := hk1 (by decide)
    have e1 : rightR r = (decide (0 < r.seq) && (shr31 r.seq == 0) && (r.tries.fdiv 256 == 0)) := by
      unfold rightR; unfold badS at g0 g1; rw [g0, g1]; simp
    have hs0 : (r.seq.fdiv 2147483648 == 0) = (shr31 r.seq == 0) := rfl
    simp only [rgS]
    try refine hK _ ?_
    repeat (first | refine awp_seq ?_ | refine awp_block ?_ | refine awp_skip ?_ | refine awp_scope ?_ | refine awp_label ?_)
    refine awp_region tabOk fun K hK => ?_
    simp -dsimp -implicitDefEqProofs only [d, push_cast, ↓trAdd_f, ↓stOf_f, seval]
    try refine hK _ ?_
    repeat (first | refine awp_seq ?_ | refine awp_block ?_ | refine awp_skip ?_ | refine awp_scope ?_ | refine awp_label ?_)
    refine awp_cond (b := false) (by simp -dsimp -implicitDefEqProofs only [push_cast, ↓trAdd_f, ↓stOf_f, seval]) (fun h => ?_) (fun h => ?_)
    · cases h
    refine awp_exit rfl ?_
    cases hA : decide (0 < r.seq) with
    | false =>
      have e : rightR r = false := by rw [e1, hA]; rfl
      try refine hK _ ?_
      repeat (first | refine awp_seq ?_ | refine awp_block ?_ | refine awp_skip ?_ | refine awp_scope ?_ | refine awp_label ?_)
      refine awp_region tabOk fun K hK => ?_
      simp -dsimp -implicitDefEqProofs only [hA, encRec, push_cast, ↓trAdd_f, ↓stOf_f, seval]
      refine hK _ (awp_ret ?_)
      simp -dsimp -implicitDefEqProofs only [e, push_cast, List.mem_append, List.mem_cons, List.mem_singleton, forall_eq_or_imp, forall_eq, ↓trAdd_f, ↓stOf_f, seval]
    | true =>
    cases hQ : (shr31 r.seq == 0) with
    | false =>
      have e : rightR r = false := by rw [e1, hQ]; simp
      try refine hK _ ?_
      repeat (first | refine awp_seq ?_ | refine awp_block ?_ | refine awp_skip ?_ | refine awp_scope ?_ | refine awp_label ?_)
      refine awp_region tabOk fun K hK => ?_
      simp -dsimp -implicitDefEqProofs only [hA, p31, hs0, hQ, encRec, push_cast, ↓trAdd_f, ↓stOf_f, seval]
      refine hK _ (awp_ret ?_)
      simp -dsimp -implicitDefEqProofs only [e, push_cast, List.mem_append, List.mem_cons, List.mem_singleton, forall_eq_or_imp, forall_eq, ↓trAdd_f, ↓stOf_f, seval]
    | true =>
      have e : rightR r = (r.tries.fdiv 256 == 0) := by rw [e1, hA, hQ]; rfl
      try refine hK _ ?_
      repeat (first | refine awp_seq ?_ | refine awp_block ?_ | refine awp_skip ?_ | refine awp_scope ?_ | refine awp_label ?_)
      refine awp_region tabOk fun K hK => ?_
      simp -dsimp -implicitDefEqProofs only [hA, p31, hs0, hQ, p8, encRec, push_cast, ↓trAdd_f, ↓stOf_f, seval]
      refine hK _ (awp_ret ?_)
      simp -dsimp -implicitDefEqProofs only [e, push_cast, List.mem_append, List.mem_cons, List.mem_singleton, forall_eq_or_imp, forall_eq, ↓trAdd_f, ↓stOf_f, seval]

/-! ### held -/
def numOr (l : List Int) : Int := l.foldl (fun n b => IntKind.i64.wrap (BitVec.ofInt IntKind.i64.bits (IntKind.i64.wrap (n * 2 ^ (min 8 IntKind.i64.bits))) ||| BitVec.ofInt IntKind.i64.bits (IntKind.i64.wrap b)).toNat) 0
def fourP (p : List Int) (at_ : Nat) : Int := numOr ((p.drop at_).take 4)
def hfS (p : List Int) (at_ : Nat) (k : Nat) : AS := { sl := [(0, .int .i64 at_), (4, .int .i64 (numOr (((p.drop at_).take 4).take k))), (11, .sl false 1 (((p.drop at_).take 4).map encB)), (12, .int .i64 4), (13, .int .i64 k)], st := [], nx := 100, n := 24 }
theorem four1_ok (p : List Int) (at_ : Nat) (hp : at_ + 4 ≤ p.length) (hb : p.length ≤ 2 ^ 40) : FnS Tryd.prog 85 [.int .i64 at_, .pf [.sl false 1 (p.map encB)]] [] (.int .i64 (fourP p at_)) [] := by
  have hl4 : ((p.drop at_).take 4).length = 4 := by simp; omega
  refine fn_walk tabOk Tryd.func85 rfl (by decide +kernel) Tryd.ntmps85 Tryd.results85 (by simp) fun B hB => ?_
  try refine hK _ ?_
  repeat (first | refine awp_seq ?_ | refine awp_block ?_ | refine awp_skip ?_ | refine awp_scope ?_ | refine awp_label ?_)
  refine awp_region tabOk fun K hK => ?_
  simp -dsimp -implicitDefEqProofs only [push_cast, ↓trAdd_f, ↓stOf_f, seval]
  refine hK _ ?_
  try refine hK _ ?_
  repeat (first | refine awp_seq ?_ | refine awp_block ?_ | refine awp_skip ?_ | refine awp_scope ?_ | refine awp_label ?_)
  refine awp_region tabOk fun K hK => ?_
  simp -dsimp -implicitDefEqProofs only [push_cast, ↓trAdd_f, ↓stOf_f, seval]
  refine hK _ ?_
  have hw : IntKind.i64.wrap ((at_ : Int) + 4) = (at_ : Int) + 4 := wrap_i64 (by omega) (by omega)
  have hd : ((at_ : Int) + 4).toNat - at_ = 4 := by omega
  have hm : ((p.map encB).drop at_).take 4 = ((p.drop at_).take 4).map encB := by rw [← List.map_drop, ← List.map_take]
  try refine hK _ ?_
  repeat (first | refine awp_seq ?_ | refine awp_block ?_ | refine awp_skip ?_ | refine awp_scope ?_ | refine awp_label ?_)
  refine awp_region tabOk fun K hK => ?_
  simp -dsimp -implicitDefEqProofs only [hw, hd, hm, hl4, push_cast, ↓trAdd_f, ↓stOf_f, seval]
  refine ⟨⟨by omega, by omega, by omega⟩, hK _ (awp_block ?_)⟩
  refine awp_for (fun k : Nat => hfS p at_ k) (fun k => k ≤ 4) (fun k => 4 - k) 0 (Nat.zero_le _) ?_ fun k hk => ?_
  · simp only [hfS, numOr, List.take_zero, List.foldl_nil]
    refine le_intro hB [] (by simp) (fun b _ => rfl) rfl ?_ ?_ rfl <;> simp -dsimp -implicitDefEqProofs only [push_cast, ↓trAdd_f, ↓stOf_f, seval]
  have hl4' : (((p.drop at_).take 4).map encB).length = 4 := by simp; omega
  simp only [hfS]
  generalize hq : (p.drop at_).take 4 = q at *
  try refine hK _ ?_
  repeat (first | refine awp_seq ?_ | refine awp_block ?_ | refine awp_skip ?_ | refine awp_scope ?_ | refine awp_label ?_)
  refine awp_region tabOk fun K hK => ?_
  simp -dsimp -implicitDefEqProofs only [push_cast, ↓trAdd_f, ↓stOf_f, seval]
  try refine hK _ ?_
  repeat (first | refine awp_seq ?_ | refine awp_block ?_ | refine awp_skip ?_ | refine awp_scope ?_ | refine awp_label ?_)
  refine awp_cond (b := decide ((k : Int) < 4)) (by simp -dsimp -implicitDefEqProofs only [push_cast, ↓trAdd_f, ↓stOf_f, seval]) (fun h => ?_) (fun h => ?_)
  · have hlt : k < 4 := by have := of_decide_eq_true h; omega
    have hkq : k < q.length := by omega
    refine awp_skip ?_
    try refine hK _ ?_
    repeat (first | refine awp_seq ?_ | refine awp_block ?_ | refine awp_skip ?_ | refine awp_scope ?_ | refine awp_label ?_)
    refine awp_region tabOk fun K hK => ?_
    simp -dsimp -implicitDefEqProofs only [hkq, getD_map, encB, hl4', push_cast, ↓trAdd_f, ↓stOf_f, seval]
    refine ⟨⟨by omega, by omega⟩, hK _ ?_⟩
    try refine hK _ ?_
    repeat (first | refine awp_seq ?_ | refine awp_block ?_ | refine awp_skip ?_ | refine awp_scope ?_ | refine awp_label ?_)
    refine awp_region tabOk fun K hK => ?_
    simp -dsimp -implicitDefEqProofs only [p8, hl4, push_cast, ↓trAdd_f, ↓stOf_f, seval]
    refine hK _ ?_
    have hw2 : IntKind.i64.wrap ((k : Int) + 1) = (k : Int) + 1 := wrap_i64 (by omega) (by omega)
    try refine hK _ ?_
    repeat (first | refine awp_seq ?_ | refine awp_block ?_ | refine awp_skip ?_ | refine awp_scope ?_ | refine awp_label ?_)
    refine awp_region tabOk fun K hK => ?_
    simp -dsimp -implicitDefEqProofs only [hw2, push_cast, ↓trAdd_f, ↓stOf_f, seval]
    refine hK _ ⟨k + 1, hlt, Nat.sub_lt_sub_left (by omega) (by omega), ?_⟩
    have hf : numOr (q.take (k + 1)) = IntKind.i64.wrap (BitVec.ofInt IntKind.i64.bits (IntKind.i64.wrap (numOr (q.take k) * 2 ^ (min 8 IntKind.i64.bits))) ||| BitVec.ofInt IntKind.i64.bits (IntKind.i64.wrap q[k])).toNat := by
      unfold numOr
      rw [List.take_succ_eq_append_getElem hkq, List.foldl_append]
      rfl
    rw [p8] at hf
    rw [hf]
    refine le_intro hB [] (by simp) (fun b _ => rfl) rfl ?_ ?_ rfl <;> simp -dsimp -implicitDefEqProofs only [push_cast, ↓trAdd_f, ↓stOf_f, seval]
  · have hke : k = 4 := by simp at h; omega
    subst hke
    have ht : q.take 4 = q := List.take_of_length_le (by omega)
    refine awp_exit rfl ?_
    try refine hK _ ?_
    repeat (first | refine awp_seq ?_ | refine awp_block ?_ | refine awp_skip ?_ | refine awp_scope ?_ | refine awp_label ?_)
    refine awp_region tabOk fun K hK => ?_
    simp -dsimp -implicitDefEqProofs only [ht, push_cast, ↓trAdd_f, ↓stOf_f, seval]
    refine hK _ (awp_ret ?_)
    have hfp : fourP p at_ = numOr q := by unfold fourP; rw [hq]
    simp -dsimp -implicitDefEqProofs only [hfp, push_cast, List.mem_append, List.mem_cons, List.mem_singleton, forall_eq_or_imp, forall_eq, ↓trAdd_f, ↓stOf_f, seval]
theorem u8_byte (n : Int) : byte (u8 n) := by
  unfold byte u8
  simp [IntKind.wrap, IntKind.bits, IntKind.signed]
  omega
theorem be4_bytes (n : Int) : ∀ x ∈ be4 n, byte x := by
  intro x hx
  simp only [be4, List.mem_cons, List.not_mem_nil, or_false] at hx
  rcases hx with rfl | rfl | rfl | rfl <;> exact u8_byte _
theorem recF_bytes (r : Rec) : ∀ x ∈ recF r, byte x := by
  intro x hx
  simp only [recF, rec4, rec3, rec2, rec1, List.mem_append, List.mem_cons, List.not_mem_nil, or_false] at hx
  have q := be4_bytes
  rcases hx with (((((((rfl | h) | h | h) | h) | h) | h) | h) | h)
  · exact ⟨by decide, by decide⟩
  · exact q _ x h
  · rw [h]; exact u8_byte _
  · rw [h]; exact u8_byte _
  · exact q _ x h
  · exact q _ x h
  · rw [h]; exact u8_byte _
  · exact q _ x h
  · exact q _ x h
def heldR (p : List Int) : Rec := { seq := fourP p 1, s0 := IntKind.i64.wrap (p.getD 5 0), s1 := IntKind.i64.wrap (p.getD 6 0), v0 := fourP p 7, v1 := fourP p 11, tries := IntKind.i64.wrap (p.getD 15 0) }
def heldB (p : List Int) (page : Int) : Bool := rightR (heldR p) && (band (heldR p).seq 1 == page) && decide (recF (heldR p) = p.take 24)
theorem held_ok (p : List Int) (page : Int) (hp : p.length = 64) (hb : ∀ x ∈ p, byte x) : FnS Tryd.prog 54 [.sl false 1 (p.map encB), .int .i64 page] [] (.tup [.agg (encRec (heldR p)), .bool (heldB p page)]) [] := by
  have hlt : ∀ i, i < 24 → i < p.length := fun i hi => by omega
  have h5 := getD_map encB p 5 (by omega)
  have h6 := getD_map encB p 6 (by omega)
  have h15 := getD_map encB p 15 (by omega)
  refine fn_walk tabOk Tryd.func54 rfl (by decide +kernel) Tryd.ntmps54 Tryd.results54 (by simp) fun B hB => ?_
  try refine hK _ ?_
  repeat (first | refine awp_seq ?_ | refine awp_block ?_ | refine awp_skip ?_ | refine awp_scope ?_ | refine awp_label ?_)
  refine awp_region tabOk fun K hK => ?_
  simp -dsimp -implicitDefEqProofs only [push_cast, ↓trAdd_f, ↓stOf_f, seval]
  refine hK _ ?_
  try refine hK _ ?_
  repeat (first | refine awp_seq ?_ | refine awp_block ?_ | refine awp_skip ?_ | refine awp_scope ?_ | refine awp_label ?_)
  refine awp_region tabOk fun K hK => ?_
  simp -dsimp -implicitDefEqProofs only [push_cast, ↓trAdd_f, ↓stOf_f, seval]
  refine hK _ ?_
  try refine hK _ ?_
  repeat (first | refine awp_seq ?_ | refine awp_block ?_ | refine awp_skip ?_ | refine awp_scope ?_ | refine awp_label ?_)
  refine awp_draw tabOk (by kernel_rfl) (by kernel_rfl) fun K hK C hC => ?_
  simp -dsimp -implicitDefEqProofs only [push_cast, ↓trAdd_f, ↓stOf_f, seval]
  refine callK_simple (four1_ok p 1 (by omega) (by omega)) ?_ rfl fun _ => ?_
  · simp -dsimp -implicitDefEqProofs only [push_cast, List.mem_append, List.mem_cons, List.mem_singleton, forall_eq_or_imp, forall_eq, ↓trAdd_f, ↓stOf_f, seval]
  simp -dsimp -implicitDefEqProofs only [h5, h6, h15, encB, push_cast, ↓trAdd_f, ↓stOf_f, seval]
  refine ⟨by omega, by omega, ?_⟩
  refine callK_simple (four1_ok p 7 (by omega) (by omega)) ?_ rfl fun _ => ?_
  · simp -dsimp -implicitDefEqProofs only [push_cast, List.mem_append, List.mem_cons, List.mem_singleton, forall_eq_or_imp, forall_eq, ↓trAdd_f, ↓stOf_f, seval]
  simp -dsimp -implicitDefEqProofs only [h5, h6, h15, encB, push_cast, ↓trAdd_f, ↓stOf_f, seval]
  refine callK_simple (four1_ok p 11 (by omega) (by omega)) ?_ rfl fun _ => ?_
  · simp -dsimp -implicitDefEqProofs only [push_cast, List.mem_append, List.mem_cons, List.mem_singleton, forall_eq_or_imp, forall_eq, ↓trAdd_f, ↓stOf_f, seval]
  simp -dsimp -implicitDefEqProofs only [h5, h6, h15, encB, push_cast, ↓trAdd_f, ↓stOf_f, seval]
  refine ⟨by omega, hC _ (by kernel_rfl), hK _ ?_⟩
  have hR : [PV.int .i64 (fourP p 1), .int .i64 (IntKind.i64.wrap p[5]), .int .i64 (IntKind.i64.wrap p[6]), .int .i64 (fourP p 7), .int .i64 (fourP p 11), .int .i64 (IntKind.i64.wrap p[15])] = encRec (heldR p) := by
    have g : ∀ i (h : i < p.length), p.getD i 0 = p[i] := fun i h => by simp [List.getD, h]
    simp only [encRec, heldR]
    rw [g 5 (by omega), g 6 (by omega), g 15 (by omega)]
  have hseq : (heldR p).seq = fourP p 1 := rfl
  try refine hK _ ?_
  repeat (first | refine awp_seq ?_ | refine awp_block ?_ | refine awp_skip ?_ | refine awp_scope ?_ | refine awp_label ?_)
  refine awp_draw tabOk (by kernel_rfl) (by kernel_rfl) fun K hK C hC => ?_
  simp -dsimp -implicitDefEqProofs only [push_cast, ↓trAdd_f, ↓stOf_f, seval]
  rw [hR]
  refine callK_simple (rightR_ok (heldR p)) ?_ rfl fun _ => ?_
  · simp -dsimp -implicitDefEqProofs only [encRec, push_cast, List.mem_append, List.mem_cons, List.mem_singleton, forall_eq_or_imp, forall_eq, ↓trAdd_f, ↓stOf_f, seval]
  cases hA : rightR (heldR p) with
  | false =>
    have e : heldB p page = false := by unfold heldB; rw [hA]; rfl
    simp -dsimp -implicitDefEqProofs only [encRec, push_cast, ↓trAdd_f, ↓stOf_f, seval]
    refine ⟨hC _ (by kernel_rfl), hK _ (awp_ret ?_)⟩
    simp -dsimp -implicitDefEqProofs only [e, encRec, push_cast, List.mem_append, List.mem_cons, List.mem_singleton, forall_eq_or_imp, forall_eq, ↓trAdd_f, ↓stOf_f, seval]
  | true =>
  cases hQ : (band (heldR p).seq 1 == page) with
  | false =>
    have e : heldB p page = false := by unfold heldB; rw [hA, hQ]; rfl
    simp -dsimp -implicitDefEqProofs only [encRec, hQ, push_cast, ↓trAdd_f, ↓stOf_f, seval]
    refine ⟨hC _ (by kernel_rfl), hK _ (awp_ret ?_)⟩
    simp -dsimp -implicitDefEqProofs only [e, encRec, push_cast, List.mem_append, List.mem_cons, List.mem_singleton, forall_eq_or_imp, forall_eq, ↓trAdd_f, ↓stOf_f, seval]
  | true =>
    have e : heldB p page = decide (recF (heldR p) = p.take 24) := by unfold heldB; rw [hA, hQ]; rfl
    have e2 : (encRec (heldR p)).getD 0 .any = .int .i64 (heldR p).seq := rfl
    simp -dsimp -implicitDefEqProofs only [encRec, hQ, push_cast, ↓trAdd_f, ↓stOf_f, seval]
    refine callK_simple (written_ok (heldR p)) ?_ rfl fun _ => ?_
    · simp -dsimp -implicitDefEqProofs only [encRec, push_cast, List.mem_append, List.mem_cons, List.mem_singleton, forall_eq_or_imp, forall_eq, ↓trAdd_f, ↓stOf_f, seval]
    have htk : (p.map encB).take 24 = (p.take 24).map encB := by rw [List.map_take]
    have h24 : Int.toNat 24 = 24 := rfl
    simp -dsimp -implicitDefEqProofs only [htk, h24, push_cast, ↓trAdd_f, ↓stOf_f, seval]
    refine ⟨by omega, ?_⟩
    refine callK_simple (equal_ok false false (recF (heldR p)) (p.take 24) (recF_bytes _) (fun x hx => hb x (List.mem_of_mem_take hx))) ?_ rfl fun _ => ?_
    · simp -dsimp -implicitDefEqProofs only [push_cast, List.mem_append, List.mem_cons, List.mem_singleton, forall_eq_or_imp, forall_eq, ↓trAdd_f, ↓stOf_f, seval]
    simp -dsimp -implicitDefEqProofs only [push_cast, ↓trAdd_f, ↓stOf_f, seval]
    refine ⟨hC _ (by kernel_rfl), hK _ (awp_ret ?_)⟩
    simp -dsimp -implicitDefEqProofs only [e, encRec, push_cast, List.mem_append, List.mem_cons, List.mem_singleton, forall_eq_or_imp, forall_eq, ↓trAdd_f, ↓stOf_f, seval]
end Go.Proofs.YtoifmpiikopelaaDoorFw

/-
  Walks: both Powers.
-/
namespace Go.Proofs.YtoifmpiikopelaaDoorFw
open Go Go.Proofs
set_option maxRecDepth 100000
set_option maxHeartbeats 4000000
set_option linter.unusedVariables false
set_option linter.unusedSimpArgs false

def powerF (f : Flash) (left : Int) : Flash := { f with left := left, down := false }
theorem power_ok (f : Flash) (left : Int) : FnS Tryd.prog 20 [.agg (encFlash f), .int .i64 left] [] (.agg (encFlash (powerF f left))) [] := by
  refine fn_walk tabOk Tryd.func20 rfl (by decide +kernel) Tryd.ntmps20 Tryd.results20 (by simp) fun B hB => ?_
  try refine hK _ ?_
  repeat (first | refine awp_seq ?_ | refine awp_block ?_ | refine awp_skip ?_ | refine awp_scope ?_ | refine awp_label ?_)
  refine awp_region tabOk fun K hK => ?_
  simp -dsimp -implicitDefEqProofs only [encFlash, push_cast, ↓trAdd_f, ↓stOf_f, seval]
  try refine hK _ ?_
  repeat (first | refine awp_seq ?_ | refine awp_block ?_ | refine awp_skip ?_ | refine awp_scope ?_ | refine awp_label ?_)
  refine awp_region tabOk fun K hK => ?_
  simp -dsimp -implicitDefEqProofs only [push_cast, ↓trAdd_f, ↓stOf_f, seval]
  try refine hK _ ?_
  repeat (first | refine awp_seq ?_ | refine awp_block ?_ | refine awp_skip ?_ | refine awp_scope ?_ | refine awp_label ?_)
  refine awp_region tabOk fun K hK => ?_
  simp -dsimp -implicitDefEqProofs only [push_cast, ↓trAdd_f, ↓stOf_f, seval]
  refine hK _ (awp_ret ?_)
  simp -dsimp -implicitDefEqProofs only [powerF, encFlash, push_cast, List.mem_append, List.mem_cons, List.mem_singleton, forall_eq_or_imp, forall_eq, ↓trAdd_f, ↓stOf_f, seval]
end Go.Proofs.YtoifmpiikopelaaDoorFw
