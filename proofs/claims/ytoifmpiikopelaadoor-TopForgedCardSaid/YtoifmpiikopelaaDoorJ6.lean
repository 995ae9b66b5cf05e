import Derived.Test.YtoifmpiikopelaaDoorJ5
/-
  The law TopForged: an image of which one byte is another one is not taken.
-/
namespace Go.Proofs.YtoifmpiikopelaaDoorFw
open Go Go.Proofs
set_option maxRecDepth 100000
set_option maxHeartbeats 4000000
set_option linter.unusedVariables false
set_option linter.unusedSimpArgs false

theorem xor_fold (v w : Int) : IntKind.u8.wrap ((BitVec.ofInt IntKind.u8.bits v ^^^ BitVec.ofInt IntKind.u8.bits w).toNat : Int) = xorB v w := rfl
def fgS (a : List Int) (key : Int) (y : List Int) (G : Flash) (k : Nat) : AS := { sl := [(2, .int .u32 key), (11, .bool true), (12, .ptr 100 0), (15, .ptr 101 0), (19, .ptr 102 0), (21, .sl false 1 ((blocksOf y).map encT)), (22, .int .i64 k)], st := [(100, .box (encImg ⟨1, a⟩)), (101, .box (encFlash (sIt G 1 y 0 k))), (102, .box (encLoad (ldL 2 y.length k 1)))], nx := 4000, n := 150 }
theorem lawTopForged (a b : List Int) (key at_ by_ : Int) (hab : ∀ x ∈ a, byte x) (hbb : ∀ x ∈ b, byte x) (hk : 0 ≤ key ∧ key ≤ 4294967295) (hat : 0 ≤ at_ ∧ at_ ≤ 65535) (hby : byte by_) :
    FnS Tryd.prog 6 [.sl false 1 (a.map encB), .sl false 1 (b.map encB), .int .u32 key, .int .u16 at_, .int .u8 by_] [] (.bool true) [] := by
  have hkw := u32w hk
  have hmay := may32 hk
  refine fn_walk tabOk Tryd.func6 rfl (by decide +kernel) Tryd.ntmps6 Tryd.results6 (by simp) fun B hB => ?_
  try refine hK _ ?_
  repeat (first | refine awp_seq ?_ | refine awp_block ?_ | refine awp_skip ?_ | refine awp_scope ?_ | refine awp_label ?_)
  refine awp_region tabOk fun K hK => ?_
  simp -dsimp -implicitDefEqProofs only [push_cast, ↓trAdd_f, ↓stOf_f, seval]
  refine hK _ ?_
  try refine hK _ ?_
  repeat (first | refine awp_seq ?_ | refine awp_block ?_ | refine awp_skip ?_ | refine awp_scope ?_ | refine awp_label ?_)
  refine awp_region tabOk fun K hK => ?_
  simp -dsimp -implicitDefEqProofs only [push_cast, ↓trAdd_f, ↓stOf_f, seval]
  refine callK_simple head28_ok ?_ rfl fun _ => ?_
  · simp -dsimp -implicitDefEqProofs only [push_cast, List.mem_append, List.mem_cons, List.mem_singleton, forall_eq_or_imp, forall_eq, ↓trAdd_f, ↓stOf_f, seval]
  simp -dsimp -implicitDefEqProofs only [push_cast, ↓trAdd_f, ↓stOf_f, seval]
  refine hK _ ?_
  cases hA : ((a.length : Int) == 0) with
  | true =>
    try refine hK _ ?_
    repeat (first | refine awp_seq ?_ | refine awp_block ?_ | refine awp_skip ?_ | refine awp_scope ?_ | refine awp_label ?_)
    refine awp_region tabOk fun K hK => ?_
    simp -dsimp -implicitDefEqProofs only [hA, push_cast, ↓trAdd_f, ↓stOf_f, seval]
    refine hK _ ?_
    try refine hK _ ?_
    repeat (first | refine awp_seq ?_ | refine awp_block ?_ | refine awp_skip ?_ | refine awp_scope ?_ | refine awp_label ?_)
    refine awp_cond (b := true) (by simp -dsimp -implicitDefEqProofs only [push_cast, ↓trAdd_f, ↓stOf_f, seval]) (fun h => ?_) (fun h => ?_)
    rotate_left
    · cases h
    try refine hK _ ?_
    repeat (first | refine awp_seq ?_ | refine awp_block ?_ | refine awp_skip ?_ | refine awp_scope ?_ | refine awp_label ?_)
    refine awp_region tabOk fun K hK => ?_
    simp -dsimp -implicitDefEqProofs only [push_cast, ↓trAdd_f, ↓stOf_f, seval]
    refine hK _ (awp_ret ?_)
    simp -dsimp -implicitDefEqProofs only [push_cast, List.mem_append, List.mem_cons, List.mem_singleton, forall_eq_or_imp, forall_eq, ↓trAdd_f, ↓stOf_f, seval]
  | false =>
  cases hQ : ((b.length : Int) == 0) with
  | true =>
    try refine hK _ ?_
    repeat (first | refine awp_seq ?_ | refine awp_block ?_ | refine awp_skip ?_ | refine awp_scope ?_ | refine awp_label ?_)
    refine awp_region tabOk fun K hK => ?_
    simp -dsimp -implicitDefEqProofs only [hA, hQ, push_cast, ↓trAdd_f, ↓stOf_f, seval]
    refine hK _ ?_
    try refine hK _ ?_
    repeat (first | refine awp_seq ?_ | refine awp_block ?_ | refine awp_skip ?_ | refine awp_scope ?_ | refine awp_label ?_)
    refine awp_cond (b := true) (by simp -dsimp -implicitDefEqProofs only [push_cast, ↓trAdd_f, ↓stOf_f, seval]) (fun h => ?_) (fun h => ?_)
    rotate_left
    · cases h
    try refine hK _ ?_
    repeat (first | refine awp_seq ?_ | refine awp_block ?_ | refine awp_skip ?_ | refine awp_scope ?_ | refine awp_label ?_)
    refine awp_region tabOk fun K hK => ?_
    simp -dsimp -implicitDefEqProofs only [push_cast, ↓trAdd_f, ↓stOf_f, seval]
    refine hK _ (awp_ret ?_)
    simp -dsimp -implicitDefEqProofs only [push_cast, List.mem_append, List.mem_cons, List.mem_singleton, forall_eq_or_imp, forall_eq, ↓trAdd_f, ↓stOf_f, seval]
  | false =>
  cases hD : decide (200 < (a.length : Int)) with
  | true =>
    try refine hK _ ?_
    repeat (first | refine awp_seq ?_ | refine awp_block ?_ | refine awp_skip ?_ | refine awp_scope ?_ | refine awp_label ?_)
    refine awp_region tabOk fun K hK => ?_
    simp -dsimp -implicitDefEqProofs only [hA, hQ, hD, push_cast, ↓trAdd_f, ↓stOf_f, seval]
    refine hK _ ?_
    try refine hK _ ?_
    repeat (first | refine awp_seq ?_ | refine awp_block ?_ | refine awp_skip ?_ | refine awp_scope ?_ | refine awp_label ?_)
    refine awp_cond (b := true) (by simp -dsimp -implicitDefEqProofs only [push_cast, ↓trAdd_f, ↓stOf_f, seval]) (fun h => ?_) (fun h => ?_)
    rotate_left
    · cases h
    try refine hK _ ?_
    repeat (first | refine awp_seq ?_ | refine awp_block ?_ | refine awp_skip ?_ | refine awp_scope ?_ | refine awp_label ?_)
    refine awp_region tabOk fun K hK => ?_
    simp -dsimp -implicitDefEqProofs only [push_cast, ↓trAdd_f, ↓stOf_f, seval]
    refine hK _ (awp_ret ?_)
    simp -dsimp -implicitDefEqProofs only [push_cast, List.mem_append, List.mem_cons, List.mem_singleton, forall_eq_or_imp, forall_eq, ↓trAdd_f, ↓stOf_f, seval]
  | false =>
  cases hE : decide (200 < (b.length : Int)) with
  | true =>
    try refine hK _ ?_
    repeat (first | refine awp_seq ?_ | refine awp_block ?_ | refine awp_skip ?_ | refine awp_scope ?_ | refine awp_label ?_)
    refine awp_region tabOk fun K hK => ?_
    simp -dsimp -implicitDefEqProofs only [hA, hQ, hD, hE, push_cast, ↓trAdd_f, ↓stOf_f, seval]
    refine hK _ ?_
    try refine hK _ ?_
    repeat (first | refine awp_seq ?_ | refine awp_block ?_ | refine awp_skip ?_ | refine awp_scope ?_ | refine awp_label ?_)
    refine awp_cond (b := true) (by simp -dsimp -implicitDefEqProofs only [push_cast, ↓trAdd_f, ↓stOf_f, seval]) (fun h => ?_) (fun h => ?_)
    rotate_left
    · cases h
    try refine hK _ ?_
    repeat (first | refine awp_seq ?_ | refine awp_block ?_ | refine awp_skip ?_ | refine awp_scope ?_ | refine awp_label ?_)
    refine awp_region tabOk fun K hK => ?_
    simp -dsimp -implicitDefEqProofs only [push_cast, ↓trAdd_f, ↓stOf_f, seval]
    refine hK _ (awp_ret ?_)
    simp -dsimp -implicitDefEqProofs only [push_cast, List.mem_append, List.mem_cons, List.mem_singleton, forall_eq_or_imp, forall_eq, ↓trAdd_f, ↓stOf_f, seval]
  | false =>
  cases hF : (by_ == 0) with
  | true =>
    try refine hK _ ?_
    repeat (first | refine awp_seq ?_ | refine awp_block ?_ | refine awp_skip ?_ | refine awp_scope ?_ | refine awp_label ?_)
    refine awp_region tabOk fun K hK => ?_
    simp -dsimp -implicitDefEqProofs only [hA, hQ, hD, hE, hF, push_cast, ↓trAdd_f, ↓stOf_f, seval]
    refine hK _ ?_
    try refine hK _ ?_
    repeat (first | refine awp_seq ?_ | refine awp_block ?_ | refine awp_skip ?_ | refine awp_scope ?_ | refine awp_label ?_)
    refine awp_cond (b := true) (by simp -dsimp -implicitDefEqProofs only [push_cast, ↓trAdd_f, ↓stOf_f, seval]) (fun h => ?_) (fun h => ?_)
    rotate_left
    · cases h
    try refine hK _ ?_
    repeat (first | refine awp_seq ?_ | refine awp_block ?_ | refine awp_skip ?_ | refine awp_scope ?_ | refine awp_label ?_)
    refine awp_region tabOk fun K hK => ?_
    simp -dsimp -implicitDefEqProofs only [push_cast, ↓trAdd_f, ↓stOf_f, seval]
    refine hK _ (awp_ret ?_)
    simp -dsimp -implicitDefEqProofs only [push_cast, List.mem_append, List.mem_cons, List.mem_singleton, forall_eq_or_imp, forall_eq, ↓trAdd_f, ↓stOf_f, seval]
  | false =>
  have ha0 : (a.length : Int) ≠ 0 := by simpa using hA
  have hb0 : (b.length : Int) ≠ 0 := by simpa using hQ
  have ha2 := of_decide_eq_false hD
  have hb2 := of_decide_eq_false hE
  have hby0 : by_ ≠ 0 := by simpa using hF
  try refine hK _ ?_
  repeat (first | refine awp_seq ?_ | refine awp_block ?_ | refine awp_skip ?_ | refine awp_scope ?_ | refine awp_label ?_)
  refine awp_region tabOk fun K hK => ?_
  simp -dsimp -implicitDefEqProofs only [hA, hQ, hD, hE, hF, push_cast, ↓trAdd_f, ↓stOf_f, seval]
  refine hK _ ?_
  try refine hK _ ?_
  repeat (first | refine awp_seq ?_ | refine awp_block ?_ | refine awp_skip ?_ | refine awp_scope ?_ | refine awp_label ?_)
  refine awp_cond (b := false) (by simp -dsimp -implicitDefEqProofs only [push_cast, ↓trAdd_f, ↓stOf_f, seval]) (fun h => ?_) (fun h => ?_)
  · cases h
  refine awp_skip ?_
  have hgm : (Img.mk 1 a).good := img_good2 1 a (by decide) (by omega) (by omega) hab
  have hgn : (Img.mk 2 b).good := img_good2 2 b (by decide) (by omega) (by omega) hbb
  have hld := laid_ok ⟨1, a⟩ key hgm hmay
  have hLz := (laid_is hgm key).2.2.2
  have hpk : FnS Tryd.prog 25 [.agg (encImg ⟨2, b⟩), .int .i64 key] [] (.tup [.sl false 1 ((packS ⟨2, b⟩ key).map encB), .bool true]) [] := pack_ok ⟨2, b⟩ key hgn.right hmay
  have hxl : (packS ⟨2, b⟩ key).length = 18 + b.length := packS_len _ _
  have hxb := packS_bytes hgn key
  have hforged := fun (k : Nat) (v : Int) => forged hgn key (k := k) (v := v)
  generalize hxe : packS ⟨2, b⟩ key = x at *
  obtain ⟨k, hkx, hkl⟩ : ∃ k : Nat, at_.tmod (x.length : Int) = (k : Int) ∧ k < x.length := by
    have h0 : (0 : Int) < x.length := by omega
    have e := Int.tmod_eq_emod_of_nonneg (a := at_) (b := (x.length : Int)) hat.1
    have e1 := Int.emod_nonneg at_ (show (x.length : Int) ≠ 0 by omega)
    have e2 := Int.emod_lt_of_pos at_ h0
    exact ⟨(at_ % (x.length : Int)).toNat, by omega, by omega⟩
  have hvb := xorB_byte x[k] by_
  have hvn := xorB_ne (hxb _ (List.getElem_mem hkl)) hby hby0
  have hbad := hforged k (xorB x[k] by_) hkl hvb hvn
  have hyb : ∀ z ∈ x.set k (xorB x[k] by_), byte z := byte_set hxb k hvb
  have hyl : (x.set k (xorB x[k] by_)).length = x.length := by simp
  obtain ⟨f1, f2, f3, f4, f5⟩ := bad_flow hgm hmay hLz 2 (by show (1 : Int) < 2; decide) (x.set k (xorB x[k] by_)) hyb (by omega) hbad
  have hbeg : FnS Tryd.prog 27 [.agg (encFlash (laidZ ⟨1, a⟩ key)), .int .i64 0, .int .i64 2, .int .i64 ((x.set k (xorB x[k] by_)).length : Int)] [] _ [] := beginS_ok (laidZ ⟨1, a⟩ key) 0 2 (x.set k (xorB x[k] by_)).length hLz.big (by decide) (by decide) (by omega)
  have hGb := big_begin hLz.big 0 2 (x.set k (xorB x[k] by_)).length
  have hGl := begin_l (f := laidZ ⟨1, a⟩ key) (s := 0) (ver := 2) (n := (x.set k (xorB x[k] by_)).length) f1
  have hrn := runsT_ok (m := ⟨1, a⟩) f4 hab f5
  clear hLz hforged hbad f5
  try refine hK _ ?_
  repeat (first | refine awp_seq ?_ | refine awp_block ?_ | refine awp_skip ?_ | refine awp_scope ?_ | refine awp_label ?_)
  refine awp_region tabOk fun K hK => ?_
  simp -dsimp -implicitDefEqProofs only [push_cast, ↓trAdd_f, ↓stOf_f, seval]
  refine hK _ ?_
  try refine hK _ ?_
  repeat (first | refine awp_seq ?_ | refine awp_block ?_ | refine awp_skip ?_ | refine awp_scope ?_ | refine awp_label ?_)
  refine awp_region tabOk fun K hK => ?_
  simp -dsimp -implicitDefEqProofs only [hkw, push_cast, ↓trAdd_f, ↓stOf_f, seval]
  refine callK_simple hpk ?_ rfl fun _ => ?_
  · simp -dsimp -implicitDefEqProofs only [push_cast, List.mem_append, List.mem_cons, List.mem_singleton, forall_eq_or_imp, forall_eq, ↓trAdd_f, ↓stOf_f, seval]
  simp -dsimp -implicitDefEqProofs only [push_cast, ↓trAdd_f, ↓stOf_f, seval]
  refine hK _ ?_
  try refine hK _ ?_
  repeat (first | refine awp_seq ?_ | refine awp_block ?_ | refine awp_skip ?_ | refine awp_scope ?_ | refine awp_label ?_)
  refine awp_region tabOk fun K hK => ?_
  simp -dsimp -implicitDefEqProofs only [hkw, push_cast, ↓trAdd_f, ↓stOf_f, seval]
  refine callK_simple hld ?_ rfl fun _ => ?_
  · simp -dsimp -implicitDefEqProofs only [push_cast, List.mem_append, List.mem_cons, List.mem_singleton, forall_eq_or_imp, forall_eq, ↓trAdd_f, ↓stOf_f, seval]
  generalize laidZ ⟨1, a⟩ key = Z at *
  simp -dsimp -implicitDefEqProofs only [push_cast, ↓trAdd_f, ↓stOf_f, seval]
  refine hK _ ?_
  have hx0 : ((x.length : Int) == 0) = false := by rw [beq_eq_false_iff_ne]; omega
  have hml : (x.map encB).length = x.length := by simp
  try refine hK _ ?_
  repeat (first | refine awp_seq ?_ | refine awp_block ?_ | refine awp_skip ?_ | refine awp_scope ?_ | refine awp_label ?_)
  refine awp_region tabOk fun K hK => ?_
  simp -dsimp -implicitDefEqProofs only [hx0, push_cast, ↓trAdd_f, ↓stOf_f, seval]
  refine hK _ ?_
  try refine hK _ ?_
  repeat (first | refine awp_seq ?_ | refine awp_block ?_ | refine awp_skip ?_ | refine awp_scope ?_ | refine awp_label ?_)
  refine awp_cond (b := false) (by simp -dsimp -implicitDefEqProofs only [push_cast, ↓trAdd_f, ↓stOf_f, seval]) (fun h => ?_) (fun h => ?_)
  · cases h
  refine awp_skip ?_
  have hxt : (x.map encB).take x.length = x.map encB := List.take_of_length_le (by simp)
  try refine hK _ ?_
  repeat (first | refine awp_seq ?_ | refine awp_block ?_ | refine awp_skip ?_ | refine awp_scope ?_ | refine awp_label ?_)
  refine awp_region tabOk fun K hK => ?_
  simp -dsimp -implicitDefEqProofs only [hml, push_cast, ↓trAdd_f, ↓stOf_f, seval]
  refine ⟨by omega, hK _ ?_⟩
  have hatw : IntKind.i64.wrap at_ = at_ := wrap_i64 (by omega) (by omega)
  try refine hK _ ?_
  repeat (first | refine awp_seq ?_ | refine awp_block ?_ | refine awp_skip ?_ | refine awp_scope ?_ | refine awp_label ?_)
  refine awp_region tabOk fun K hK => ?_
  simp -dsimp -implicitDefEqProofs only [hatw, hkx, push_cast, ↓trAdd_f, ↓stOf_f, seval]
  refine ⟨by omega, hK _ ?_⟩
  have hgx : (x.map encB).getD k [] = [.int .u8 x[k]] := getD_map encB _ _ hkl
  have hsx : (x.map encB).set k [.int .u8 (xorB x[k] by_)] = (x.set k (xorB x[k] by_)).map encB := set_encB x k _
  try refine hK _ ?_
  repeat (first | refine awp_seq ?_ | refine awp_block ?_ | refine awp_skip ?_ | refine awp_scope ?_ | refine awp_label ?_)
  refine awp_region tabOk fun K hK => ?_
  simp -dsimp -implicitDefEqProofs only [hgx, xor_fold, hsx, hml, push_cast, ↓trAdd_f, ↓stOf_f, seval]
  generalize x.set k (xorB x[k] by_) = y at *
  have hym : (y.map encB).length = x.length := by simp [hyl]
  have hyt : (y.map encB).take x.length = y.map encB := List.take_of_length_le (by omega)
  refine ⟨⟨by omega, by omega⟩, hkl, ⟨by omega, by omega⟩, hkl, hK _ (awp_le (s' := { sl := [(2, .int .u32 key), (11, .bool true), (12, .ptr 100 0), (15, .ptr 101 0), (17, .sl false 1 (y.map encB))], st := [(100, .box (encImg ⟨1, a⟩)), (101, .box (encFlash Z))], nx := 2000, n := 150 }) ?_ ?_)⟩
  · refine AS.le_trans (le_frz _ [496] ?_ ?_ ?_) ?_
    · simp -dsimp -implicitDefEqProofs only [bytes_fz, hym, hyt, push_cast, ↓trAdd_f, ↓stOf_f, seval]
    · simp -dsimp -implicitDefEqProofs only [bytes_fz, hym, hyt, push_cast, ↓trAdd_f, ↓stOf_f, seval]
    · simp -dsimp -implicitDefEqProofs only [bytes_fz, hym, hyt, push_cast, ↓trAdd_f, ↓stOf_f, seval]
    simp -dsimp -implicitDefEqProofs only [bytes_fz, hym, hyt, push_cast, ↓trAdd_f, ↓stOf_f, seval]
    refine le_intro hB [(100, 216), (101, 368)] (by simp) (fun b hb => absurd hb (Nat.not_lt_zero b)) rfl ?_ ?_ rfl <;> simp -dsimp -implicitDefEqProofs only [bytes_okl, hyt, push_cast, ↓trAdd_f, ↓stOf_f, seval]
  have hyml : (y.map encB).length = y.length := by simp
  try refine hK _ ?_
  repeat (first | refine awp_seq ?_ | refine awp_block ?_ | refine awp_skip ?_ | refine awp_scope ?_ | refine awp_label ?_)
  refine awp_region tabOk fun K hK => ?_
  simp -dsimp -implicitDefEqProofs only [hyml, push_cast, ↓trAdd_f, ↓stOf_f, seval]
  refine callK_simple hbeg ?_ rfl fun _ => ?_
  · simp -dsimp -implicitDefEqProofs only [push_cast, List.mem_append, List.mem_cons, List.mem_singleton, forall_eq_or_imp, forall_eq, ↓trAdd_f, ↓stOf_f, seval]
  generalize beginF Z 0 2 y.length = G at *
  have h1 : G.l.on = true := by rw [hGl]
  have h2 : G.l.ver = 2 := by rw [hGl]
  have h3 : G.l.len = (y.length : Int) := by rw [hGl]
  have h4 : G.l.have_ = 0 := by rw [hGl]
  have h5 : G.l.slot = 1 := by rw [hGl]; rfl
  rw [f1]
  simp -dsimp -implicitDefEqProofs only [push_cast, ↓trAdd_f, ↓stOf_f, seval]
  refine hK _ ?_
  try refine hK _ ?_
  repeat (first | refine awp_seq ?_ | refine awp_block ?_ | refine awp_skip ?_ | refine awp_scope ?_ | refine awp_label ?_)
  refine awp_region tabOk fun K hK => ?_
  simp -dsimp -implicitDefEqProofs only [push_cast, ↓trAdd_f, ↓stOf_f, seval]
  refine hK _ ?_
  try refine hK _ ?_
  repeat (first | refine awp_seq ?_ | refine awp_block ?_ | refine awp_skip ?_ | refine awp_scope ?_ | refine awp_label ?_)
  refine awp_cond (b := false) (by simp -dsimp -implicitDefEqProofs only [push_cast, ↓trAdd_f, ↓stOf_f, seval]) (fun h => ?_) (fun h => ?_)
  · cases h
  refine awp_skip ?_
  try refine hK _ ?_
  repeat (first | refine awp_seq ?_ | refine awp_block ?_ | refine awp_skip ?_ | refine awp_scope ?_ | refine awp_label ?_)
  refine awp_region tabOk fun K hK => ?_
  simp -dsimp -implicitDefEqProofs only [push_cast, ↓trAdd_f, ↓stOf_f, seval]
  refine callK_simple (blocks_ok y (by omega)) ?_ rfl fun _ => ?_
  · simp -dsimp -implicitDefEqProofs only [push_cast, List.mem_append, List.mem_cons, List.mem_singleton, forall_eq_or_imp, forall_eq, ↓trAdd_f, ↓stOf_f, seval]
  simp -dsimp -implicitDefEqProofs only [push_cast, ↓trAdd_f, ↓stOf_f, seval]
  refine hK _ ?_
  obtain ⟨n, hnN, herr, hend⟩ := savG_ex (nBlocks y) G.f 1 y 0
  have hn : n = nBlocks y ∧ savG G.f 1 y 0 (nBlocks y) = (sIt G.f 1 y 0 (nBlocks y), 0) := by
    rcases hend with q | ⟨q1, q2, q3⟩
    · exact q
    · exfalso
      rw [q3] at f2
      exact q2 f2
  obtain ⟨hnn, hsv⟩ := hn
  subst hnn
  rw [hsv] at f3 f4 hrn
  simp only at f3 f4 hrn
  have hbigI := sIt_big hGb 1 hyb 0
  have hnb : nBlocks y ≤ 34 := by unfold nBlocks; omega
  try refine hK _ ?_
  repeat (first | refine awp_seq ?_ | refine awp_block ?_ | refine awp_skip ?_ | refine awp_scope ?_ | refine awp_label ?_)
  refine awp_region tabOk fun K hK => ?_
  simp -dsimp -implicitDefEqProofs only [push_cast, ↓trAdd_f, ↓stOf_f, seval]
  refine hK _ (awp_block ?_)
  refine awp_for (fun k : Nat => fgS a key y G.f k) (fun k => k ≤ nBlocks y) (fun k => nBlocks y - k) 0 (Nat.zero_le _) ?_ fun k hk => ?_
  · simp only [fgS, sIt, ldL]
    refine le_intro hB [(100, 100), (101, 101), (102, 2064)] (by simp) (fun b hb => absurd hb (Nat.not_lt_zero b)) rfl ?_ ?_ rfl <;> simp -dsimp -implicitDefEqProofs only [h1, h2, h3, h4, h5, push_cast, ↓trAdd_f, ↓stOf_f, seval]
  have hbl := blocks_len y
  simp only [fgS]
  by_cases hlt : k < nBlocks y
  · have d : decide ((k : Int) < (nBlocks y : Int)) = true := by simpa using hlt
    have w : IntKind.i64.wrap ((k : Int) + 1) = (k : Int) + 1 := wrap_i64 (by omega) (by omega)
    have hg := blocks_get y k hlt
    have hblk := blockS_ok (sIt G.f 1 y 0 k) y 2 k 1 (hbigI k) (by omega) (by omega) hlt
    have eI : sIt G.f 1 y 0 (k + 1) = (saveF (sIt G.f 1 y 0 k) ((1 : Nat) : Int) (k : Int) (pieceOf y k)).1 := by
      show (saveF (sIt G.f 1 y 0 k) ((1 : Nat) : Int) ((0 + k : Nat) : Int) (pieceOf y (0 + k))).1 = _
      rw [Nat.zero_add]
    have eE : sErr G.f 1 y 0 k = (saveF (sIt G.f 1 y 0 k) ((1 : Nat) : Int) (k : Int) (pieceOf y k)).2 := by
      unfold sErr
      rw [Nat.zero_add]
    rw [← eI, ← eE, herr k hlt, if_pos rfl] at hblk
    try refine hK _ ?_
    repeat (first | refine awp_seq ?_ | refine awp_block ?_ | refine awp_skip ?_ | refine awp_scope ?_ | refine awp_label ?_)
    refine awp_region tabOk fun K hK => ?_
    simp -dsimp -implicitDefEqProofs only [hbl, d, push_cast, ↓trAdd_f, ↓stOf_f, seval]
    try refine hK _ ?_
    repeat (first | refine awp_seq ?_ | refine awp_block ?_ | refine awp_skip ?_ | refine awp_scope ?_ | refine awp_label ?_)
    refine awp_cond (b := true) (by simp -dsimp -implicitDefEqProofs only [push_cast, ↓trAdd_f, ↓stOf_f, seval]) (fun h => ?_) (fun h => ?_)
    rotate_left
    · cases h
    refine awp_skip ?_
    try refine hK _ ?_
    repeat (first | refine awp_seq ?_ | refine awp_block ?_ | refine awp_skip ?_ | refine awp_scope ?_ | refine awp_label ?_)
    refine awp_draw tabOk (by kernel_rfl) (by kernel_rfl) fun K hK C hC => ?_
    simp -dsimp -implicitDefEqProofs only [hg, hbl, push_cast, ↓trAdd_f, ↓stOf_f, seval]
    refine ⟨⟨by omega, by omega⟩, ?_⟩
    refine callK_simple hblk ?_ rfl fun _ => ?_
    · simp -dsimp -implicitDefEqProofs only [push_cast, List.mem_append, List.mem_cons, List.mem_singleton, forall_eq_or_imp, forall_eq, ↓trAdd_f, ↓stOf_f, seval]
    simp -dsimp -implicitDefEqProofs only [push_cast, ↓trAdd_f, ↓stOf_f, seval]
    refine ⟨hC _ (by kernel_rfl), hK _ ?_⟩
    try refine hK _ ?_
    repeat (first | refine awp_seq ?_ | refine awp_block ?_ | refine awp_skip ?_ | refine awp_scope ?_ | refine awp_label ?_)
    refine awp_region tabOk fun K hK => ?_
    simp -dsimp -implicitDefEqProofs only [push_cast, ↓trAdd_f, ↓stOf_f, seval]
    refine hK _ ?_
    try refine hK _ ?_
    repeat (first | refine awp_seq ?_ | refine awp_block ?_ | refine awp_skip ?_ | refine awp_scope ?_ | refine awp_label ?_)
    refine awp_cond (b := false) (by simp -dsimp -implicitDefEqProofs only [push_cast, ↓trAdd_f, ↓stOf_f, seval]) (fun h => ?_) (fun h => ?_)
    · cases h
    refine awp_skip ?_
    try refine hK _ ?_
    repeat (first | refine awp_seq ?_ | refine awp_block ?_ | refine awp_skip ?_ | refine awp_scope ?_ | refine awp_label ?_)
    refine awp_region tabOk fun K hK => ?_
    simp -dsimp -implicitDefEqProofs only [push_cast, ↓trAdd_f, ↓stOf_f, seval]
    refine hK _ ?_
    try refine hK _ ?_
    repeat (first | refine awp_seq ?_ | refine awp_block ?_ | refine awp_skip ?_ | refine awp_scope ?_ | refine awp_label ?_)
    refine awp_region tabOk fun K hK => ?_
    simp -dsimp -implicitDefEqProofs only [push_cast, ↓trAdd_f, ↓stOf_f, seval]
    refine hK _ ?_
    try refine hK _ ?_
    repeat (first | refine awp_seq ?_ | refine awp_block ?_ | refine awp_skip ?_ | refine awp_scope ?_ | refine awp_label ?_)
    refine awp_region tabOk fun K hK => ?_
    simp -dsimp -implicitDefEqProofs only [w, push_cast, ↓trAdd_f, ↓stOf_f, seval]
    refine hK _ ⟨k + 1, hlt, by omega, ?_⟩
    refine le_intro hB [(100, 100), (101, 101), (102, 102)] (by simp) (fun b hb => absurd hb (Nat.not_lt_zero b)) rfl ?_ ?_ rfl <;> simp -dsimp -implicitDefEqProofs only [push_cast, ↓trAdd_f, ↓stOf_f, seval]
  · have hke : k = nBlocks y := by omega
    subst hke
    have hen := endS_ok (sIt G.f 1 y 0 (nBlocks y)) (ldL 2 y.length (nBlocks y) 1) key 1 y.length (hbigI _) (by omega) rfl rfl rfl (by omega) rfl
    have hver : (ldL 2 y.length (nBlocks y) 1).ver = 2 := rfl
    rw [hver] at hen
    generalize endF (sIt G.f 1 y 0 (nBlocks y)) 1 y.length 2 key = o at *
    obtain ⟨o1, o2⟩ := o
    simp only at f3 f4 hrn
    have hne : (o2 != 0) = true := by simpa using f3
    have d : decide ((nBlocks y : Int) < (nBlocks y : Int)) = false := by simp
    try refine hK _ ?_
    repeat (first | refine awp_seq ?_ | refine awp_block ?_ | refine awp_skip ?_ | refine awp_scope ?_ | refine awp_label ?_)
    refine awp_region tabOk fun K hK => ?_
    simp -dsimp -implicitDefEqProofs only [hbl, d, push_cast, ↓trAdd_f, ↓stOf_f, seval]
    try refine hK _ ?_
    repeat (first | refine awp_seq ?_ | refine awp_block ?_ | refine awp_skip ?_ | refine awp_scope ?_ | refine awp_label ?_)
    refine awp_cond (b := false) (by simp -dsimp -implicitDefEqProofs only [push_cast, ↓trAdd_f, ↓stOf_f, seval]) (fun h => ?_) (fun h => ?_)
    · cases h
    refine awp_exit rfl ?_
    try refine hK _ ?_
    repeat (first | refine awp_seq ?_ | refine awp_block ?_ | refine awp_skip ?_ | refine awp_scope ?_ | refine awp_label ?_)
    refine awp_region tabOk fun K hK => ?_
    simp -dsimp -implicitDefEqProofs only [hkw, push_cast, ↓trAdd_f, ↓stOf_f, seval]
    refine callK_simple hen ?_ rfl fun _ => ?_
    · simp -dsimp -implicitDefEqProofs only [push_cast, List.mem_append, List.mem_cons, List.mem_singleton, forall_eq_or_imp, forall_eq, ↓trAdd_f, ↓stOf_f, seval]
    simp -dsimp -implicitDefEqProofs only [load0, push_cast, ↓trAdd_f, ↓stOf_f, seval]
    refine hK _ ?_
    try refine hK _ ?_
    repeat (first | refine awp_seq ?_ | refine awp_block ?_ | refine awp_skip ?_ | refine awp_scope ?_ | refine awp_label ?_)
    refine awp_region tabOk fun K hK => ?_
    simp -dsimp -implicitDefEqProofs only [hne, hkw, push_cast, ↓trAdd_f, ↓stOf_f, seval]
    refine callK_simple hrn ?_ rfl fun _ => ?_
    · simp -dsimp -implicitDefEqProofs only [push_cast, List.mem_append, List.mem_cons, List.mem_singleton, forall_eq_or_imp, forall_eq, ↓trAdd_f, ↓stOf_f, seval]
    simp -dsimp -implicitDefEqProofs only [push_cast, ↓trAdd_f, ↓stOf_f, seval]
    refine hK _ (awp_ret ?_)
    simp -dsimp -implicitDefEqProofs only [push_cast, List.mem_append, List.mem_cons, List.mem_singleton, forall_eq_or_imp, forall_eq, ↓trAdd_f, ↓stOf_f, seval]
end Go.Proofs.YtoifmpiikopelaaDoorFw

/-
  How the laws' arguments read.
-/
namespace Go.Proofs.YtoifmpiikopelaaDoorFw
open Go Go.Proofs
set_option linter.unusedVariables false
set_option linter.unusedSimpArgs false

theorem I64_wf {x : Int} (h : (Lit.int .i64 x).wf = true) : I64 x := by
  simpa [Lit.wf, IntKind.min, IntKind.max, IntKind.signed, IntKind.bits, I64] using h
theorem u8_wf {x : Int} (h : (Lit.int .u8 x).wf = true) : 0 ≤ x ∧ x ≤ 255 := by
  simpa [Lit.wf, IntKind.min, IntKind.max, IntKind.signed, IntKind.bits] using h
theorem u16_wf {x : Int} (h : (Lit.int .u16 x).wf = true) : 0 ≤ x ∧ x ≤ 65535 := by
  simpa [Lit.wf, IntKind.min, IntKind.max, IntKind.signed, IntKind.bits] using h
theorem u32_wf {x : Int} (h : (Lit.int .u32 x).wf = true) : 0 ≤ x ∧ x ≤ 4294967295 := by
  simpa [Lit.wf, IntKind.min, IntKind.max, IntKind.signed, IntKind.bits] using h
theorem opens3 : Opens Tryd.prog 3 1 (fun n : Int => [.int .i64 n]) I64 := (opens_int Tryd.underlying3 (by kernel_rfl)).conv (fun _ => rfl) fun y h => I64_wf h
theorem opens4 : Opens Tryd.prog 4 1 (fun b : Bool => [.bool b]) (fun _ => True) := opens_bool Tryd.underlying4 (by kernel_rfl)
theorem opens5 : Opens Tryd.prog 5 1 (fun n : Int => [.int .u8 n]) byte := (opens_int Tryd.underlying5 (by kernel_rfl)).conv (fun _ => rfl) fun y h => u8_wf h
theorem opens56 : Opens Tryd.prog 56 1 (fun n : Int => [.int .u16 n]) (fun n => 0 ≤ n ∧ n ≤ 65535) := (opens_int Tryd.underlying56 (by kernel_rfl)).conv (fun _ => rfl) fun y h => u16_wf h
theorem opens25 : Opens Tryd.prog 25 1 (fun n : Int => [.int .u32 n]) (fun n => 0 ≤ n ∧ n ≤ 4294967295) := (opens_int Tryd.underlying25 (by kernel_rfl)).conv (fun _ => rfl) fun y h => u32_wf h
theorem opens22 : Opens Tryd.prog 22 1 (fun l : List Int => [.sl false 1 (l.map encB)]) (fun l => l.length ≤ 140737488351232 ∧ ∀ b ∈ l, byte b) :=
  (opens_slice (B := 1) Tryd.underlying22 (by kernel_rfl) (by kernel_rfl) (by decide) (by decide) opens5).conv (fun _ => rfl) fun y h => ⟨h.2.1, h.2.2⟩
theorem opens28 : Opens Tryd.prog 28 1 (fun l : List (List Int) => [.sl false 1 (l.map encP)]) (fun l => l.length ≤ 140737488351232 ∧ ∀ p ∈ l, p.length ≤ 140737488351232 ∧ ∀ b ∈ p, byte b) :=
  (opens_slice (B := 24) Tryd.underlying28 (by kernel_rfl) (by kernel_rfl) (by decide) (by decide) opens22).conv (fun _ => rfl) fun y h => ⟨h.2.1, h.2.2⟩
def Img.wf (m : Img) : Prop := I64 m.ver ∧ m.body.length ≤ 140737488351232 ∧ ∀ b ∈ m.body, byte b
theorem opens24 : Opens Tryd.prog 24 2 encImg Img.wf :=
  (opens_struct Tryd.underlying24 (by kernel_rfl) (opensF_cons rfl opens3 (opensF_one rfl opens22)) (fun x : Img => (x.ver, x.body)) (fun p => ⟨p.1, p.2⟩) (fun _ => rfl)).conv (fun _ => rfl) fun y h => ⟨h.1, h.2⟩
end Go.Proofs.YtoifmpiikopelaaDoorFw

/-
  The law TopForged, of arguments as they read.
-/
namespace Go.Proofs.YtoifmpiikopelaaDoorFw
open Go Go.Proofs
set_option linter.unusedVariables false
set_option linter.unusedSimpArgs false

theorem lawTopForgedA (a b : List Int) (key at_ by_ : Int) (ha : a.length ≤ 140737488351232 ∧ ∀ x ∈ a, byte x) (hb : b.length ≤ 140737488351232 ∧ ∀ x ∈ b, byte x) (hk : 0 ≤ key ∧ key ≤ 4294967295) (hat : 0 ≤ at_ ∧ at_ ≤ 65535) (hby : byte by_) :
    FnS Tryd.prog 6 [.sl false 1 (a.map encB), .sl false 1 (b.map encB), .int .u32 key, .int .u16 at_, .int .u8 by_] [] (.bool true) [] := lawTopForged a b key at_ by_ ha.2 hb.2 hk hat hby
end Go.Proofs.YtoifmpiikopelaaDoorFw
