import Derived.Test.YtoifmpiikopelaaDoorJ1
import Derived.Test.YtoifmpiikopelaaDoorFwTab
import Derived.Test.YtoifmpiikopelaaDoorFwZ3
import Derived.WalkKit
import Derived.LaidEql
import Derived.Stop.Asserts
/-
  Walks: slot.Fresh, Put, none, Save.
-/
namespace Go.Proofs.YtoifmpiikopelaaDoorFw
open Go Go.Proofs
set_option maxRecDepth 100000
set_option maxHeartbeats 4000000
set_option linter.unusedVariables false
set_option linter.unusedSimpArgs false

theorem fresh_ok : FnS Tryd.prog 15 [] [] (.agg (encFlash (newF 70))) [] := by
  refine fn_walk tabOk Tryd.func15 rfl (by decide +kernel) Tryd.ntmps15 Tryd.results15 (by simp) fun B hB => ?_
  try refine hK _ ?_
  repeat (first | refine awp_seq ?_ | refine awp_block ?_ | refine awp_skip ?_ | refine awp_scope ?_ | refine awp_label ?_)
  refine awp_region tabOk fun K hK => ?_
  simp -dsimp -implicitDefEqProofs only [push_cast, ↓trAdd_f, ↓stOf_f, seval]
  refine hK _ ?_
  try refine hK _ ?_
  repeat (first | refine awp_seq ?_ | refine awp_block ?_ | refine awp_skip ?_ | refine awp_scope ?_ | refine awp_label ?_)
  refine awp_region tabOk fun K hK => ?_
  simp -dsimp -implicitDefEqProofs only [push_cast, ↓trAdd_f, ↓stOf_f, seval]
  refine callK_simple (new_ok 70 (by decide)) ?_ rfl fun _ => ?_
  · simp -dsimp -implicitDefEqProofs only [push_cast, List.mem_append, List.mem_cons, List.mem_singleton, forall_eq_or_imp, forall_eq, ↓trAdd_f, ↓stOf_f, seval]
  simp -dsimp -implicitDefEqProofs only [encFlash, push_cast, ↓trAdd_f, ↓stOf_f, seval]
  refine hK _ (awp_ret ?_)
  simp -dsimp -implicitDefEqProofs only [encFlash, push_cast, List.mem_append, List.mem_cons, List.mem_singleton, forall_eq_or_imp, forall_eq, ↓trAdd_f, ↓stOf_f, seval]
def noneS (n : Int) : Bool := bandn n 1 != 0
theorem noneS_iff (n : Int) (h1 : -9223372036854775808 ≤ n) (h2 : n ≤ 9223372036854775807) : noneS n = false ↔ n = 0 ∨ n = 1 := by
  unfold noneS
  rw [bne_eq_false_iff_eq, bandn_eq]
  have hn := ofI64 ⟨h1, h2⟩
  generalize hv : BitVec.ofInt 64 n = v at *
  rw [hn]
  have e1 : BitVec.ofInt 64 1 = 1#64 := rfl
  rw [e1]
  constructor
  · intro h
    have h3 : v &&& ~~~1#64 = 0#64 := by
      have := congrArg (BitVec.ofInt 64) h
      rwa [BitVec.ofInt_toInt] at this
    have h5 : v &&& 1#64 = v := by
      apply BitVec.eq_of_getLsbD_eq
      intro i hi
      have h6 := congrArg (fun x => x.getLsbD i) h3
      simp only [BitVec.getLsbD_and, BitVec.getLsbD_not] at h6 ⊢
      cases hv : v.getLsbD i <;> cases ho : (1#64).getLsbD i <;> simp_all
    have h4 : v = 0#64 ∨ v = 1#64 := by
      have h7 := congrArg BitVec.toNat h5
      rw [BitVec.toNat_and] at h7
      have h8 : v.toNat &&& (1#64).toNat = v.toNat % 2 := Nat.and_one_is_mod _
      have h9 : v.toNat = 0 ∨ v.toNat = 1 := by omega
      rcases h9 with h9 | h9
      · exact .inl (BitVec.eq_of_toNat_eq h9)
      · exact .inr (BitVec.eq_of_toNat_eq h9)
    rcases h4 with rfl | rfl
    · exact .inl rfl
    · exact .inr rfl
  · rintro (h | h)
    · have : v = 0#64 := by have := congrArg (BitVec.ofInt 64) h; rwa [BitVec.ofInt_toInt] at this
      subst this; rfl
    · have : v = 1#64 := by have := congrArg (BitVec.ofInt 64) h; rwa [BitVec.ofInt_toInt] at this
      subst this; rfl
theorem none_ok (n : Int) : FnS Tryd.prog 67 [.int .i64 n] [] (.bool (noneS n)) [] := by
  refine fn_walk tabOk Tryd.func67 rfl (by decide +kernel) Tryd.ntmps67 Tryd.results67 (by simp) fun B hB => ?_
  try refine hK _ ?_
  repeat (first | refine awp_seq ?_ | refine awp_block ?_ | refine awp_skip ?_ | refine awp_scope ?_ | refine awp_label ?_)
  refine awp_region tabOk fun K hK => ?_
  simp -dsimp -implicitDefEqProofs only [push_cast, ↓trAdd_f, ↓stOf_f, seval]
  refine hK _ ?_
  try refine hK _ ?_
  repeat (first | refine awp_seq ?_ | refine awp_block ?_ | refine awp_skip ?_ | refine awp_scope ?_ | refine awp_label ?_)
  refine awp_region tabOk fun K hK => ?_
  simp -dsimp -implicitDefEqProofs only [push_cast, ↓trAdd_f, ↓stOf_f, seval]
  refine hK _ (awp_ret ?_)
  simp -dsimp -implicitDefEqProofs only [noneS, push_cast, List.mem_append, List.mem_cons, List.mem_singleton, forall_eq_or_imp, forall_eq, ↓trAdd_f, ↓stOf_f, seval]
def putF (f : Flash) (r : Rec) : Flash × Int :=
  if rightR r = false then (f, 1) else
  if (eraseF f (r.seq.tmod 2)).2 = 0 then writeF (eraseF f (r.seq.tmod 2)).1 (r.seq.tmod 2) 0 (recF r) else ((eraseF f (r.seq.tmod 2)).1, (eraseF f (r.seq.tmod 2)).2)
theorem recF_len (r : Rec) : (recF r).length = 24 := by simp [recF, rec4, rec3, rec2, rec1, be4]
theorem put_ok (f : Flash) (r : Rec) (hf : f.fine) : FnS Tryd.prog 16 [.agg (encFlash f), .agg (encRec r)] [] (.tup [.agg (encFlash (putF f r).1), .int .i64 (putF f r).2]) [] := by
  refine fn_walk tabOk Tryd.func16 rfl (by decide +kernel) Tryd.ntmps16 Tryd.results16 (by simp) fun B hB => ?_
  try refine hK _ ?_
  repeat (first | refine awp_seq ?_ | refine awp_block ?_ | refine awp_skip ?_ | refine awp_scope ?_ | refine awp_label ?_)
  refine awp_region tabOk fun K hK => ?_
  simp -dsimp -implicitDefEqProofs only [encFlash, encRec, push_cast, ↓trAdd_f, ↓stOf_f, seval]
  refine hK _ ?_
  try refine hK _ ?_
  repeat (first | refine awp_seq ?_ | refine awp_block ?_ | refine awp_skip ?_ | refine awp_scope ?_ | refine awp_label ?_)
  refine awp_region tabOk fun K hK => ?_
  simp -dsimp -implicitDefEqProofs only [push_cast, ↓trAdd_f, ↓stOf_f, seval]
  refine callK_simple (rightR_ok r) ?_ rfl fun _ => ?_
  · simp -dsimp -implicitDefEqProofs only [encRec, push_cast, List.mem_append, List.mem_cons, List.mem_singleton, forall_eq_or_imp, forall_eq, ↓trAdd_f, ↓stOf_f, seval]
  simp -dsimp -implicitDefEqProofs only [push_cast, ↓trAdd_f, ↓stOf_f, seval]
  cases hA : rightR r with
  | false =>
    have e : putF f r = (f, 1) := by unfold putF; rw [if_pos hA]
    have hn : (!false) = true := rfl
    simp only [hn]
    try refine hK _ ?_
    repeat (first | refine awp_seq ?_ | refine awp_block ?_ | refine awp_skip ?_ | refine awp_scope ?_ | refine awp_label ?_)
    refine awp_cond (b := true) (by simp -dsimp -implicitDefEqProofs only [push_cast, ↓trAdd_f, ↓stOf_f, seval]) (fun h => ?_) (fun h => ?_)
    rotate_left
    · cases h
    try refine hK _ ?_
    repeat (first | refine awp_seq ?_ | refine awp_block ?_ | refine awp_skip ?_ | refine awp_scope ?_ | refine awp_label ?_)
    refine awp_region tabOk fun K hK => ?_
    simp -dsimp -implicitDefEqProofs only [push_cast, ↓trAdd_f, ↓stOf_f, seval]
    refine hK _ (awp_ret ?_)
    simp -dsimp -implicitDefEqProofs only [e, encFlash, push_cast, List.mem_append, List.mem_cons, List.mem_singleton, forall_eq_or_imp, forall_eq, ↓trAdd_f, ↓stOf_f, seval]
  | true =>
  have e0 : putF f r = if (eraseF f (r.seq.tmod 2)).2 = 0 then writeF (eraseF f (r.seq.tmod 2)).1 (r.seq.tmod 2) 0 (recF r) else ((eraseF f (r.seq.tmod 2)).1, (eraseF f (r.seq.tmod 2)).2) := by unfold putF; rw [if_neg (by simp [hA])]
  have hn : (!true) = false := rfl
  simp only [hn]
  try refine hK _ ?_
  repeat (first | refine awp_seq ?_ | refine awp_block ?_ | refine awp_skip ?_ | refine awp_scope ?_ | refine awp_label ?_)
  refine awp_cond (b := false) (by simp -dsimp -implicitDefEqProofs only [push_cast, ↓trAdd_f, ↓stOf_f, seval]) (fun h => ?_) (fun h => ?_)
  · cases h
  refine awp_skip ?_
  try refine hK _ ?_
  repeat (first | refine awp_seq ?_ | refine awp_block ?_ | refine awp_skip ?_ | refine awp_scope ?_ | refine awp_label ?_)
  refine awp_region tabOk fun K hK => ?_
  simp -dsimp -implicitDefEqProofs only [push_cast, ↓trAdd_f, ↓stOf_f, seval]
  generalize hpg : r.seq.tmod 2 = pg at *
  have hfe := fine_erase hf pg
  refine hK _ ?_
  try refine hK _ ?_
  repeat (first | refine awp_seq ?_ | refine awp_block ?_ | refine awp_skip ?_ | refine awp_scope ?_ | refine awp_label ?_)
  refine awp_region tabOk fun K hK => ?_
  simp -dsimp -implicitDefEqProofs only [encFlash, push_cast, ↓trAdd_f, ↓stOf_f, seval]
  refine callK_simple (erase_ok f pg hf.good hf.lim) ?_ rfl fun _ => ?_
  · simp -dsimp -implicitDefEqProofs only [encFlash, push_cast, List.mem_append, List.mem_cons, List.mem_singleton, forall_eq_or_imp, forall_eq, ↓trAdd_f, ↓stOf_f, seval]
  generalize eraseF f pg = fe at *
  obtain ⟨f1, e1⟩ := fe
  simp only at hfe e0
  simp -dsimp -implicitDefEqProofs only [encFlash, push_cast, ↓trAdd_f, ↓stOf_f, seval]
  refine hK _ ?_
  try refine hK _ ?_
  repeat (first | refine awp_seq ?_ | refine awp_block ?_ | refine awp_skip ?_ | refine awp_scope ?_ | refine awp_label ?_)
  refine awp_region tabOk fun K hK => ?_
  simp -dsimp -implicitDefEqProofs only [push_cast, ↓trAdd_f, ↓stOf_f, seval]
  cases hQ : (e1 != 0) with
  | true =>
    have hne : e1 ≠ 0 := by simpa using hQ
    have e : putF f r = (f1, e1) := by rw [e0, if_neg hne]
    try refine hK _ ?_
    repeat (first | refine awp_seq ?_ | refine awp_block ?_ | refine awp_skip ?_ | refine awp_scope ?_ | refine awp_label ?_)
    refine awp_cond (b := true) (by simp -dsimp -implicitDefEqProofs only [push_cast, ↓trAdd_f, ↓stOf_f, seval]) (fun h => ?_) (fun h => ?_)
    rotate_left
    · cases h
    try refine hK _ ?_
    repeat (first | refine awp_seq ?_ | refine awp_block ?_ | refine awp_skip ?_ | refine awp_scope ?_ | refine awp_label ?_)
    refine awp_region tabOk fun K hK => ?_
    simp -dsimp -implicitDefEqProofs only [push_cast, ↓trAdd_f, ↓stOf_f, seval]
    refine hK _ (awp_ret ?_)
    simp -dsimp -implicitDefEqProofs only [e, encFlash, push_cast, List.mem_append, List.mem_cons, List.mem_singleton, forall_eq_or_imp, forall_eq, ↓trAdd_f, ↓stOf_f, seval]
  | false =>
    have hne : e1 = 0 := by simpa using hQ
    have e : putF f r = writeF f1 pg 0 (recF r) := by rw [e0, if_pos hne]
    try refine hK _ ?_
    repeat (first | refine awp_seq ?_ | refine awp_block ?_ | refine awp_skip ?_ | refine awp_scope ?_ | refine awp_label ?_)
    refine awp_cond (b := false) (by simp -dsimp -implicitDefEqProofs only [push_cast, ↓trAdd_f, ↓stOf_f, seval]) (fun h => ?_) (fun h => ?_)
    · cases h
    refine awp_skip ?_
    try refine hK _ ?_
    repeat (first | refine awp_seq ?_ | refine awp_block ?_ | refine awp_skip ?_ | refine awp_scope ?_ | refine awp_label ?_)
    refine awp_draw tabOk (by kernel_rfl) (by kernel_rfl) fun K hK C hC => ?_
    simp -dsimp -implicitDefEqProofs only [push_cast, ↓trAdd_f, ↓stOf_f, seval]
    refine callK_simple (written_ok r) ?_ rfl fun _ => ?_
    · simp -dsimp -implicitDefEqProofs only [encRec, push_cast, List.mem_append, List.mem_cons, List.mem_singleton, forall_eq_or_imp, forall_eq, ↓trAdd_f, ↓stOf_f, seval]
    simp -dsimp -implicitDefEqProofs only [push_cast, ↓trAdd_f, ↓stOf_f, seval]
    refine callK_simple (write_ok f1 pg 0 false (recF r) hfe.good hfe.bytes hfe.lim (by rw [recF_len]; decide)) ?_ rfl fun _ => ?_
    · simp -dsimp -implicitDefEqProofs only [encFlash, push_cast, List.mem_append, List.mem_cons, List.mem_singleton, forall_eq_or_imp, forall_eq, ↓trAdd_f, ↓stOf_f, seval]
    simp -dsimp -implicitDefEqProofs only [encFlash, push_cast, ↓trAdd_f, ↓stOf_f, seval]
    refine ⟨hC _ (by kernel_rfl), hK _ (awp_ret ?_)⟩
    simp -dsimp -implicitDefEqProofs only [e, encFlash, push_cast, List.mem_append, List.mem_cons, List.mem_singleton, forall_eq_or_imp, forall_eq, ↓trAdd_f, ↓stOf_f, seval]
end Go.Proofs.YtoifmpiikopelaaDoorFw

/-
  Walks: slot.Save.
-/
namespace Go.Proofs.YtoifmpiikopelaaDoorFw
open Go Go.Proofs
set_option maxRecDepth 100000
set_option maxHeartbeats 4000000
set_option linter.unusedVariables false
set_option linter.unusedSimpArgs false

def saveF (f : Flash) (s n : Int) (b : List Int) : Flash × Int :=
  if n < 0 ∨ 34 ≤ n ∨ 64 < (b.length : Int) then (f, 1) else writeF f (2 + 34 * s + n) 0 b
theorem save_ok (f : Flash) (s n : Int) (t : Bool) (b : List Int) (hf : f.fine) (hs : s = 0 ∨ s = 1) (hbl : b.length ≤ 2 ^ 40) :
    FnS Tryd.prog 34 [.agg (encFlash f), .int .i64 s, .int .i64 n, .sl t 1 (b.map encB)] [] (.tup [.agg (encFlash (saveF f s n b).1), .int .i64 (saveF f s n b).2]) [] := by
  have hn0 : noneS s = false := (noneS_iff s (by omega) (by omega)).2 hs
  refine fn_walk tabOk Tryd.func34 rfl (by decide +kernel) Tryd.ntmps34 Tryd.results34 (by simp) fun B hB => ?_
  try refine hK _ ?_
  repeat (first | refine awp_seq ?_ | refine awp_block ?_ | refine awp_skip ?_ | refine awp_scope ?_ | refine awp_label ?_)
  refine awp_region tabOk fun K hK => ?_
  simp -dsimp -implicitDefEqProofs only [encFlash, push_cast, ↓trAdd_f, ↓stOf_f, seval]
  refine hK _ ?_
  try refine hK _ ?_
  repeat (first | refine awp_seq ?_ | refine awp_block ?_ | refine awp_skip ?_ | refine awp_scope ?_ | refine awp_label ?_)
  refine awp_region tabOk fun K hK => ?_
  simp -dsimp -implicitDefEqProofs only [push_cast, ↓trAdd_f, ↓stOf_f, seval]
  refine callK_simple (none_ok s) ?_ rfl fun _ => ?_
  · simp -dsimp -implicitDefEqProofs only [push_cast, List.mem_append, List.mem_cons, List.mem_singleton, forall_eq_or_imp, forall_eq, ↓trAdd_f, ↓stOf_f, seval]
  rw [hn0]
  cases hA : decide (n < 0) with
  | true =>
    have e : saveF f s n b = (f, 1) := by unfold saveF; rw [if_pos (.inl (by simpa using hA))]
    simp -dsimp -implicitDefEqProofs only [hA, push_cast, ↓trAdd_f, ↓stOf_f, seval]
    refine hK _ ?_
    try refine hK _ ?_
    repeat (first | refine awp_seq ?_ | refine awp_block ?_ | refine awp_skip ?_ | refine awp_scope ?_ | refine awp_label ?_)
    refine awp_cond (b := true) (by simp -dsimp -implicitDefEqProofs only [push_cast, ↓trAdd_f, ↓stOf_f, seval]) (fun h => ?_) (fun h => ?_)
    rotate_left
    · cases h
    try refine hK _ ?_
    repeat (first | refine awp_seq ?_ | refine awp_block ?_ | refine awp_skip ?_ | refine awp_scope ?_ | refine awp_label ?_)
    refine awp_region tabOk fun K hK => ?_
    simp -dsimp -implicitDefEqProofs only [push_cast, ↓trAdd_f, ↓stOf_f, seval]
    refine hK _ (awp_ret ?_)
    simp -dsimp -implicitDefEqProofs only [e, encFlash, push_cast, List.mem_append, List.mem_cons, List.mem_singleton, forall_eq_or_imp, forall_eq, ↓trAdd_f, ↓stOf_f, seval]
  | false =>
  cases hQ : decide (34 ≤ n) with
  | true =>
    have e : saveF f s n b = (f, 1) := by unfold saveF; rw [if_pos (.inr (.inl (by simpa using hQ)))]
    simp -dsimp -implicitDefEqProofs only [hA, hQ, push_cast, ↓trAdd_f, ↓stOf_f, seval]
    refine hK _ ?_
    try refine hK _ ?_
    repeat (first | refine awp_seq ?_ | refine awp_block ?_ | refine awp_skip ?_ | refine awp_scope ?_ | refine awp_label ?_)
    refine awp_cond (b := true) (by simp -dsimp -implicitDefEqProofs only [push_cast, ↓trAdd_f, ↓stOf_f, seval]) (fun h => ?_) (fun h => ?_)
    rotate_left
    · cases h
    try refine hK _ ?_
    repeat (first | refine awp_seq ?_ | refine awp_block ?_ | refine awp_skip ?_ | refine awp_scope ?_ | refine awp_label ?_)
    refine awp_region tabOk fun K hK => ?_
    simp -dsimp -implicitDefEqProofs only [push_cast, ↓trAdd_f, ↓stOf_f, seval]
    refine hK _ (awp_ret ?_)
    simp -dsimp -implicitDefEqProofs only [e, encFlash, push_cast, List.mem_append, List.mem_cons, List.mem_singleton, forall_eq_or_imp, forall_eq, ↓trAdd_f, ↓stOf_f, seval]
  | false =>
  cases hD : decide (64 < (b.length : Int)) with
  | true =>
    have e : saveF f s n b = (f, 1) := by unfold saveF; rw [if_pos (.inr (.inr (by simpa using hD)))]
    simp -dsimp -implicitDefEqProofs only [hA, hQ, hD, push_cast, ↓trAdd_f, ↓stOf_f, seval]
    refine hK _ ?_
    try refine hK _ ?_
    repeat (first | refine awp_seq ?_ | refine awp_block ?_ | refine awp_skip ?_ | refine awp_scope ?_ | refine awp_label ?_)
    refine awp_cond (b := true) (by simp -dsimp -implicitDefEqProofs only [push_cast, ↓trAdd_f, ↓stOf_f, seval]) (fun h => ?_) (fun h => ?_)
    rotate_left
    · cases h
    try refine hK _ ?_
    repeat (first | refine awp_seq ?_ | refine awp_block ?_ | refine awp_skip ?_ | refine awp_scope ?_ | refine awp_label ?_)
    refine awp_region tabOk fun K hK => ?_
    simp -dsimp -implicitDefEqProofs only [push_cast, ↓trAdd_f, ↓stOf_f, seval]
    refine hK _ (awp_ret ?_)
    simp -dsimp -implicitDefEqProofs only [e, encFlash, push_cast, List.mem_append, List.mem_cons, List.mem_singleton, forall_eq_or_imp, forall_eq, ↓trAdd_f, ↓stOf_f, seval]
  | false =>
    have hA' := of_decide_eq_false hA
    have hQ' := of_decide_eq_false hQ
    have hD' := of_decide_eq_false hD
    have e : saveF f s n b = writeF f (2 + 34 * s + n) 0 b := by unfold saveF; rw [if_neg (by omega)]
    have w1 : IntKind.i64.wrap (34 * s) = 34 * s := wrap_i64 (by omega) (by omega)
    have w2 : IntKind.i64.wrap (2 + 34 * s) = 2 + 34 * s := wrap_i64 (by omega) (by omega)
    have w3 : IntKind.i64.wrap (2 + 34 * s + n) = 2 + 34 * s + n := wrap_i64 (by omega) (by omega)
    simp -dsimp -implicitDefEqProofs only [hA, hQ, hD, push_cast, ↓trAdd_f, ↓stOf_f, seval]
    refine hK _ ?_
    try refine hK _ ?_
    repeat (first | refine awp_seq ?_ | refine awp_block ?_ | refine awp_skip ?_ | refine awp_scope ?_ | refine awp_label ?_)
    refine awp_cond (b := false) (by simp -dsimp -implicitDefEqProofs only [push_cast, ↓trAdd_f, ↓stOf_f, seval]) (fun h => ?_) (fun h => ?_)
    · cases h
    refine awp_skip ?_
    try refine hK _ ?_
    repeat (first | refine awp_seq ?_ | refine awp_block ?_ | refine awp_skip ?_ | refine awp_scope ?_ | refine awp_label ?_)
    refine awp_region tabOk fun K hK => ?_
    simp -dsimp -implicitDefEqProofs only [w1, w2, w3, encFlash, push_cast, ↓trAdd_f, ↓stOf_f, seval]
    refine callK_simple (write_ok f (2 + 34 * s + n) 0 t b hf.good hf.bytes hf.lim hbl) ?_ rfl fun _ => ?_
    · simp -dsimp -implicitDefEqProofs only [encFlash, push_cast, List.mem_append, List.mem_cons, List.mem_singleton, forall_eq_or_imp, forall_eq, ↓trAdd_f, ↓stOf_f, seval]
    simp -dsimp -implicitDefEqProofs only [encFlash, push_cast, ↓trAdd_f, ↓stOf_f, seval]
    refine hK _ (awp_ret ?_)
    simp -dsimp -implicitDefEqProofs only [e, encFlash, push_cast, List.mem_append, List.mem_cons, List.mem_singleton, forall_eq_or_imp, forall_eq, ↓trAdd_f, ↓stOf_f, seval]
end Go.Proofs.YtoifmpiikopelaaDoorFw

/-
  Walks: image.may, Right, number, lay, seal.
-/
namespace Go.Proofs.YtoifmpiikopelaaDoorFw
open Go Go.Proofs
set_option maxRecDepth 100000
set_option maxHeartbeats 4000000
set_option linter.unusedVariables false
set_option linter.unusedSimpArgs false

def mayS (key : Int) : Bool := decide (0 ≤ key) && decide (key ≤ 4294967295)
theorem may_ok (key : Int) : FnS Tryd.prog 57 [.int .i64 key] [] (.bool (mayS key)) [] := by
  refine fn_walk tabOk Tryd.func57 rfl (by decide +kernel) Tryd.ntmps57 Tryd.results57 (by simp) fun B hB => ?_
  try refine hK _ ?_
  repeat (first | refine awp_seq ?_ | refine awp_block ?_ | refine awp_skip ?_ | refine awp_scope ?_ | refine awp_label ?_)
  refine awp_region tabOk fun K hK => ?_
  simp -dsimp -implicitDefEqProofs only [push_cast, ↓trAdd_f, ↓stOf_f, seval]
  refine hK _ ?_
  cases hA : decide (0 ≤ key) with
  | false =>
    have e : mayS key = false := by unfold mayS; rw [hA]; rfl
    try refine hK _ ?_
    repeat (first | refine awp_seq ?_ | refine awp_block ?_ | refine awp_skip ?_ | refine awp_scope ?_ | refine awp_label ?_)
    refine awp_region tabOk fun K hK => ?_
    simp -dsimp -implicitDefEqProofs only [hA, push_cast, ↓trAdd_f, ↓stOf_f, seval]
    refine hK _ (awp_ret ?_)
    simp -dsimp -implicitDefEqProofs only [e, push_cast, List.mem_append, List.mem_cons, List.mem_singleton, forall_eq_or_imp, forall_eq, ↓trAdd_f, ↓stOf_f, seval]
  | true =>
    have e : mayS key = decide (key ≤ 4294967295) := by unfold mayS; rw [hA]; rfl
    try refine hK _ ?_
    repeat (first | refine awp_seq ?_ | refine awp_block ?_ | refine awp_skip ?_ | refine awp_scope ?_ | refine awp_label ?_)
    refine awp_region tabOk fun K hK => ?_
    simp -dsimp -implicitDefEqProofs only [hA, push_cast, ↓trAdd_f, ↓stOf_f, seval]
    refine hK _ (awp_ret ?_)
    simp -dsimp -implicitDefEqProofs only [e, push_cast, List.mem_append, List.mem_cons, List.mem_singleton, forall_eq_or_imp, forall_eq, ↓trAdd_f, ↓stOf_f, seval]
structure Img where
  ver : Int
  body : List Int
def encImg (m : Img) : List PV := [.int .i64 m.ver, .sl false 1 (m.body.map encB)]
def rightM (m : Img) : Bool := decide (0 ≤ m.ver) && decide (m.ver ≤ 2147483647) && (decide (1 ≤ (m.body.length : Int)) && decide ((m.body.length : Int) ≤ 2048))
theorem rightM_ok (m : Img) : FnS Tryd.prog 56 [.agg (encImg m)] [] (.bool (rightM m)) [] := by
  refine fn_walk tabOk Tryd.func56 rfl (by decide +kernel) Tryd.ntmps56 Tryd.results56 (by simp) fun B hB => ?_
  try refine hK _ ?_
  repeat (first | refine awp_seq ?_ | refine awp_block ?_ | refine awp_skip ?_ | refine awp_scope ?_ | refine awp_label ?_)
  refine awp_region tabOk fun K hK => ?_
  simp -dsimp -implicitDefEqProofs only [encImg, push_cast, ↓trAdd_f, ↓stOf_f, seval]
  refine hK _ ?_
  cases hA : decide (0 ≤ m.ver) with
  | false =>
    have e : rightM m = false := by unfold rightM; rw [hA]; rfl
    try refine hK _ ?_
    repeat (first | refine awp_seq ?_ | refine awp_block ?_ | refine awp_skip ?_ | refine awp_scope ?_ | refine awp_label ?_)
    refine awp_region tabOk fun K hK => ?_
    simp -dsimp -implicitDefEqProofs only [hA, push_cast, ↓trAdd_f, ↓stOf_f, seval]
    refine hK _ (awp_ret ?_)
    simp -dsimp -implicitDefEqProofs only [e, push_cast, List.mem_append, List.mem_cons, List.mem_singleton, forall_eq_or_imp, forall_eq, ↓trAdd_f, ↓stOf_f, seval]
  | true =>
  cases hQ : decide (m.ver ≤ 2147483647) with
  | false =>
    have e : rightM m = false := by unfold rightM; rw [hA, hQ]; rfl
    try refine hK _ ?_
    repeat (first | refine awp_seq ?_ | refine awp_block ?_ | refine awp_skip ?_ | refine awp_scope ?_ | refine awp_label ?_)
    refine awp_region tabOk fun K hK => ?_
    simp -dsimp -implicitDefEqProofs only [hA, hQ, push_cast, ↓trAdd_f, ↓stOf_f, seval]
    refine hK _ (awp_ret ?_)
    simp -dsimp -implicitDefEqProofs only [e, push_cast, List.mem_append, List.mem_cons, List.mem_singleton, forall_eq_or_imp, forall_eq, ↓trAdd_f, ↓stOf_f, seval]
  | true =>
  cases hD : decide (1 ≤ (m.body.length : Int)) with
  | false =>
    have e : rightM m = false := by unfold rightM; rw [hA, hQ, hD]; rfl
    try refine hK _ ?_
    repeat (first | refine awp_seq ?_ | refine awp_block ?_ | refine awp_skip ?_ | refine awp_scope ?_ | refine awp_label ?_)
    refine awp_region tabOk fun K hK => ?_
    simp -dsimp -implicitDefEqProofs only [hA, hQ, hD, push_cast, ↓trAdd_f, ↓stOf_f, seval]
    refine hK _ (awp_ret ?_)
    simp -dsimp -implicitDefEqProofs only [e, push_cast, List.mem_append, List.mem_cons, List.mem_singleton, forall_eq_or_imp, forall_eq, ↓trAdd_f, ↓stOf_f, seval]
  | true =>
    have e : rightM m = decide ((m.body.length : Int) ≤ 2048) := by unfold rightM; rw [hA, hQ, hD]; rfl
    try refine hK _ ?_
    repeat (first | refine awp_seq ?_ | refine awp_block ?_ | refine awp_skip ?_ | refine awp_scope ?_ | refine awp_label ?_)
    refine awp_region tabOk fun K hK => ?_
    simp -dsimp -implicitDefEqProofs only [hA, hQ, hD, push_cast, ↓trAdd_f, ↓stOf_f, seval]
    refine hK _ (awp_ret ?_)
    simp -dsimp -implicitDefEqProofs only [e, push_cast, List.mem_append, List.mem_cons, List.mem_singleton, forall_eq_or_imp, forall_eq, ↓trAdd_f, ↓stOf_f, seval]
/-- The number of four bytes. -/
def numAdd (l : List Int) : Int := l.foldl (fun n b => IntKind.i64.wrap (IntKind.i64.wrap (n * 256) + IntKind.i64.wrap b)) 0
def numberS (p : List Int) (at_ : Nat) : Int := numAdd ((p.drop at_).take 4)
def nbS (q : List Int) (k : Nat) : AS := { sl := [(5, .int .i64 (numAdd (q.take k))), (12, .sl false 1 (q.map encB)), (13, .int .i64 4), (14, .int .i64 k)], st := [], nx := 100, n := 25 }
theorem number_ok (t : Bool) (p : List Int) (at_ : Nat) (hp : at_ + 4 ≤ p.length) (hb : p.length ≤ 2 ^ 40) : FnS Tryd.prog 68 [.sl t 1 (p.map encB), .int .i64 at_] [] (.int .i64 (numberS p at_)) [] := by
  have hl4 : ((p.drop at_).take 4).length = 4 := by simp; omega
  refine fn_walk tabOk Tryd.func68 rfl (by decide +kernel) Tryd.ntmps68 Tryd.results68 (by simp) fun B hB => ?_
  try refine hK _ ?_
  repeat (first | refine awp_seq ?_ | refine awp_block ?_ | refine awp_skip ?_ | refine awp_scope ?_ | refine awp_label ?_)
  refine awp_region tabOk fun K hK => ?_
  simp -dsimp -implicitDefEqProofs only [push_cast, ↓trAdd_f, ↓stOf_f, seval]
  refine hK _ ?_
  try refine hK _ ?_
  repeat (first | refine awp_seq ?_ | refine awp_block ?_ | refine awp_skip ?_ | refine awp_scope ?_ | refine awp_label ?_)
  refine awp_region tabOk fun K hK => ?_
  simp -dsimp -implicitDefEqProofs only [push_cast, ↓trAdd_f, ↓stOf_f, seval]
  refine hK _ ?_
  have hw : IntKind.i64.wrap ((at_ : Int) + 4) = (at_ : Int) + 4 := wrap_i64 (by omega) (by omega)
  have hd : ((at_ : Int) + 4).toNat - at_ = 4 := by omega
  have hm : ((p.map encB).drop at_).take 4 = ((p.drop at_).take 4).map encB := by rw [← List.map_drop, ← List.map_take]
  try refine hK _ ?_
  repeat (first | refine awp_seq ?_ | refine awp_block ?_ | refine awp_skip ?_ | refine awp_scope ?_ | refine awp_label ?_)
  refine awp_region tabOk fun K hK => ?_
  simp -dsimp -implicitDefEqProofs only [hw, hd, hm, hl4, push_cast, ↓trAdd_f, ↓stOf_f, seval]
  have hfp : numberS p at_ = numAdd ((p.drop at_).take 4) := rfl
  generalize (p.drop at_).take 4 = q at *
  refine ⟨⟨by omega, by omega, by omega⟩, hK _ (awp_block ?_)⟩
  refine awp_for (fun k : Nat => nbS q k) (fun k => k ≤ 4) (fun k => 4 - k) 0 (Nat.zero_le _) ?_ fun k hk => ?_
  · simp only [nbS, numAdd, List.take_zero, List.foldl_nil]
    refine le_intro hB [] (by simp) (fun b _ => rfl) rfl ?_ ?_ rfl <;> simp -dsimp -implicitDefEqProofs only [push_cast, ↓trAdd_f, ↓stOf_f, seval]
  simp only [nbS]
  try refine hK _ ?_
  repeat (first | refine awp_seq ?_ | refine awp_block ?_ | refine awp_skip ?_ | refine awp_scope ?_ | refine awp_label ?_)
  refine awp_region tabOk fun K hK => ?_
  simp -dsimp -implicitDefEqProofs only [push_cast, ↓trAdd_f, ↓stOf_f, seval]
  try refine hK _ ?_
  repeat (first | refine awp_seq ?_ | refine awp_block ?_ | refine awp_skip ?_ | refine awp_scope ?_ | refine awp_label ?_)
  refine awp_cond (b := decide ((k : Int) < 4)) (by simp -dsimp -implicitDefEqProofs only [push_cast, ↓trAdd_f, ↓stOf_f, seval]) (fun h => ?_) (fun h => ?_)
  · have hlt : k < 4 := by have := of_decide_eq_true h; omega
    have hkq : k < q.length := by omega
    refine awp_skip ?_
    try refine hK _ ?_
    repeat (first | refine awp_seq ?_ | refine awp_block ?_ | refine awp_skip ?_ | refine awp_scope ?_ | refine awp_label ?_)
    refine awp_region tabOk fun K hK => ?_
    simp -dsimp -implicitDefEqProofs only [hlt, getD_map, encB, hl4, push_cast, ↓trAdd_f, ↓stOf_f, seval]
    refine ⟨⟨by omega, by omega⟩, hK _ ?_⟩
    have p8' : (2 : Int) ^ min 8 IntKind.i64.bits = 256 := by decide
    try refine hK _ ?_
    repeat (first | refine awp_seq ?_ | refine awp_block ?_ | refine awp_skip ?_ | refine awp_scope ?_ | refine awp_label ?_)
    refine awp_region tabOk fun K hK => ?_
    simp -dsimp -implicitDefEqProofs only [p8', push_cast, ↓trAdd_f, ↓stOf_f, seval]
    refine hK _ ?_
    have hw2 : IntKind.i64.wrap ((k : Int) + 1) = (k : Int) + 1 := wrap_i64 (by omega) (by omega)
    try refine hK _ ?_
    repeat (first | refine awp_seq ?_ | refine awp_block ?_ | refine awp_skip ?_ | refine awp_scope ?_ | refine awp_label ?_)
    refine awp_region tabOk fun K hK => ?_
    simp -dsimp -implicitDefEqProofs only [hw2, push_cast, ↓trAdd_f, ↓stOf_f, seval]
    refine hK _ ⟨k + 1, hlt, Nat.sub_lt_sub_left (by omega) (by omega), ?_⟩
    have hf : numAdd (q.take (k + 1)) = IntKind.i64.wrap (IntKind.i64.wrap (numAdd (q.take k) * 256) + IntKind.i64.wrap q[k]) := by
      unfold numAdd
      rw [List.take_succ_eq_append_getElem hkq, List.foldl_append]
      rfl
    rw [hf]
    refine le_intro hB [] (by simp) (fun b _ => rfl) rfl ?_ ?_ rfl <;> simp -dsimp -implicitDefEqProofs only [push_cast, ↓trAdd_f, ↓stOf_f, seval]
  · have hke : k = 4 := by simp at h; omega
    subst hke
    have ht : q.take 4 = q := List.take_of_length_le (by omega)
    refine awp_exit rfl ?_
    try refine hK _ ?_
    repeat (first | refine awp_seq ?_ | refine awp_block ?_ | refine awp_skip ?_ | refine awp_scope ?_ | refine awp_label ?_)
    refine awp_region tabOk fun K hK => ?_
    simp -dsimp -implicitDefEqProofs only [ht, push_cast, ↓trAdd_f, ↓stOf_f, seval]
    refine hK _ (awp_ret ?_)
    simp -dsimp -implicitDefEqProofs only [hfp, push_cast, List.mem_append, List.mem_cons, List.mem_singleton, forall_eq_or_imp, forall_eq, ↓trAdd_f, ↓stOf_f, seval]
end Go.Proofs.YtoifmpiikopelaaDoorFw

/-
  Walks: image.lay, seal.
-/
namespace Go.Proofs.YtoifmpiikopelaaDoorFw
open Go Go.Proofs
set_option maxRecDepth 100000
set_option maxHeartbeats 4000000
set_option linter.unusedVariables false
set_option linter.unusedSimpArgs false

def layS (l : List Int) : List Int := l.flatMap be4
theorem layS_len (l : List Int) : (layS l).length = 4 * l.length := by
  induction l with
  | nil => rfl
  | cons a l ih => simp [layS, be4] at ih ⊢; omega
def lyS (b l : List Int) (k : Nat) : AS := { sl := [(0, .own 100 1 0 (b.length + 4 * k)), (7, .sl false 1 (l.map encI)), (8, .int .i64 l.length), (9, .int .i64 k)], st := [(100, .row 1 ((b ++ layS (l.take k)).map encB))], nx := 200, n := 29 }
theorem b4_eq (n : Int) : [[PV.int IntKind.u8 (IntKind.u8.wrap (n.fdiv 16777216))], [.int .u8 (IntKind.u8.wrap (n.fdiv 65536))], [.int .u8 (IntKind.u8.wrap (n.fdiv 256))], [.int .u8 (IntKind.u8.wrap n)]] = (be4 n).map encB := rfl
theorem lay_ok (t : Bool) (b l : List Int) (hb : b.length + 4 * l.length ≤ 2 ^ 24) :
    FnS Tryd.prog 58 [.own 0 1 0 b.length, .sl t 1 (l.map encI)] [(0, .row 1 (b.map encB))] (.own 1 1 0 (b.length + 4 * l.length)) [(1, .row 1 ((b ++ layS l).map encB))] := by
  refine fn_walkN tabOk Tryd.func58 rfl (by decide +kernel) Tryd.ntmps58 Tryd.results58 (by simp) fun B hB => ?_
  try refine hK _ ?_
  repeat (first | refine awp_seq ?_ | refine awp_block ?_ | refine awp_skip ?_ | refine awp_scope ?_ | refine awp_label ?_)
  refine awp_region tabOk fun K hK => ?_
  simp -dsimp -implicitDefEqProofs only [push_cast, ↓trAdd_f, ↓stOf_f, seval]
  refine hK _ ?_
  try refine hK _ ?_
  repeat (first | refine awp_seq ?_ | refine awp_block ?_ | refine awp_skip ?_ | refine awp_scope ?_ | refine awp_label ?_)
  refine awp_region tabOk fun K hK => ?_
  simp -dsimp -implicitDefEqProofs only [push_cast, ↓trAdd_f, ↓stOf_f, seval]
  refine hK _ (awp_block ?_)
  refine awp_for (fun k : Nat => lyS b l k) (fun k => k ≤ l.length) (fun k => l.length - k) 0 (Nat.zero_le _) ?_ fun k hk => ?_
  · have e : layS (l.take 0) = [] := rfl
    simp only [lyS, e, List.append_nil]
    refine le_intro hB [(100, 0)] (by simp) (fun b hb => by rcases b with _ | _ | _ | _ | _ | _ | b <;> first | rfl | (exfalso; revert hb; simp; done) | (exfalso; simp at hb; omega)) rfl ?_ ?_ rfl <;> simp -dsimp -implicitDefEqProofs only [bytes_ren, bytes_okl, push_cast, ↓trAdd_f, ↓stOf_f, seval]
  simp only [lyS]
  try refine hK _ ?_
  repeat (first | refine awp_seq ?_ | refine awp_block ?_ | refine awp_skip ?_ | refine awp_scope ?_ | refine awp_label ?_)
  refine awp_region tabOk fun K hK => ?_
  simp -dsimp -implicitDefEqProofs only [push_cast, ↓trAdd_f, ↓stOf_f, seval]
  try refine hK _ ?_
  repeat (first | refine awp_seq ?_ | refine awp_block ?_ | refine awp_skip ?_ | refine awp_scope ?_ | refine awp_label ?_)
  refine awp_cond (b := decide ((k : Int) < (l.length : Int))) (by simp -dsimp -implicitDefEqProofs only [push_cast, ↓trAdd_f, ↓stOf_f, seval]) (fun h => ?_) (fun h => ?_)
  · have hlt : k < l.length := by simpa using h
    refine awp_skip ?_
    try refine hK _ ?_
    repeat (first | refine awp_seq ?_ | refine awp_block ?_ | refine awp_skip ?_ | refine awp_scope ?_ | refine awp_label ?_)
    refine awp_region tabOk fun K hK => ?_
    simp -dsimp -implicitDefEqProofs only [hlt, getD_map, encI, push_cast, ↓trAdd_f, ↓stOf_f, seval]
    refine ⟨⟨by omega, by omega⟩, hK _ ?_⟩
    have q1 : (2 : Int) ^ min 24 IntKind.i64.bits = 16777216 := by decide
    have q2 : (2 : Int) ^ min 16 IntKind.i64.bits = 65536 := by decide
    have q3 : (2 : Int) ^ min 8 IntKind.i64.bits = 256 := by decide
    have hl1 : ((b ++ layS (l.take k)).map encB).length = b.length + 4 * k := by simp [layS_len]; omega
    have ht1 : ((b ++ layS (l.take k)).map encB).take (b.length + 4 * k) = (b ++ layS (l.take k)).map encB := List.take_of_length_le (by omega)
    have hb4 : (be4 l[k]).length = 4 := rfl
    have ht4 : ((be4 l[k]).map encB).take 4 = (be4 l[k]).map encB := rfl
    have hls : layS (l.take (k + 1)) = layS (l.take k) ++ be4 l[k] := by
      unfold layS
      rw [List.take_succ_eq_append_getElem hlt, List.flatMap_append]
      simp
    have hap : (b ++ layS (l.take k)).map encB ++ (be4 l[k]).map encB = (b ++ layS (l.take (k + 1))).map encB := by
      rw [hls, ← List.map_append, List.append_assoc]
    have hml4 : ((be4 l[k]).map encB).length = 4 := rfl
    try refine hK _ ?_
    repeat (first | refine awp_seq ?_ | refine awp_block ?_ | refine awp_skip ?_ | refine awp_scope ?_ | refine awp_label ?_)
    refine awp_region tabOk fun K hK => ?_
    simp -dsimp -implicitDefEqProofs only [q1, q2, q3, b4_eq, hl1, ht1, hb4, ht4, hml4, hap, push_cast, ↓trAdd_f, ↓stOf_f, seval]
    refine ⟨⟨by omega, by omega⟩, hK _ ?_⟩
    have hw : IntKind.i64.wrap ((k : Int) + 1) = (k : Int) + 1 := wrap_i64 (by omega) (by omega)
    try refine hK _ ?_
    repeat (first | refine awp_seq ?_ | refine awp_block ?_ | refine awp_skip ?_ | refine awp_scope ?_ | refine awp_label ?_)
    refine awp_region tabOk fun K hK => ?_
    simp -dsimp -implicitDefEqProofs only [hw, push_cast, ↓trAdd_f, ↓stOf_f, seval]
    have hln : b.length + 4 * k + 4 = b.length + 4 * (k + 1) := by omega
    refine hK _ ⟨k + 1, hlt, Nat.sub_lt_sub_left (by omega) (by omega), ?_⟩
    rw [hln]
    refine le_intro hB [(100, 336)] (by simp) (fun b hb => by rcases b with _ | _ | _ | _ | _ | _ | b <;> first | rfl | (exfalso; revert hb; simp; done) | (exfalso; simp at hb; omega)) rfl ?_ ?_ rfl <;> simp -dsimp -implicitDefEqProofs only [bytes_ren, bytes_okl, push_cast, ↓trAdd_f, ↓stOf_f, seval]
  · have hke : k = l.length := by simp at h; omega
    subst hke
    refine awp_exit rfl ?_
    try refine hK _ ?_
    repeat (first | refine awp_seq ?_ | refine awp_block ?_ | refine awp_skip ?_ | refine awp_scope ?_ | refine awp_label ?_)
    refine awp_region tabOk fun K hK => ?_
    simp -dsimp -implicitDefEqProofs only [List.take_length, push_cast, ↓trAdd_f, ↓stOf_f, seval]
    refine hK _ (awp_le (s' := { sl := [(4, .own 1 1 0 (b.length + 4 * l.length))], st := [(1, .row 1 ((b ++ layS l).map encB))], nx := 8, n := 29 }) ?_ (awp_ret ?_))
    · refine le_intro hB [(1, 100)] (by simp) (fun b hb => by rcases b with _ | _ | _ | _ | _ | _ | b <;> first | rfl | (exfalso; revert hb; simp; done) | (exfalso; simp at hb; omega)) rfl ?_ ?_ rfl <;> simp -dsimp -implicitDefEqProofs only [bytes_ren, bytes_okl, push_cast, ↓trAdd_f, ↓stOf_f, seval]
    simp -dsimp -implicitDefEqProofs only [bytes_okl, push_cast, List.mem_append, List.mem_cons, List.mem_singleton, forall_eq_or_imp, forall_eq, ↓trAdd_f, ↓stOf_f, seval]
def lyZ (l : List Int) (k : Nat) : AS := { sl := [(0, .own 100 1 0 (4 * k)), (7, .sl false 1 (l.map encI)), (8, .int .i64 l.length), (9, .int .i64 k)], st := [(100, .row 1 ((layS (l.take k)).map encB))], nx := 200, n := 29 }
theorem lay0_ok (t : Bool) (l : List Int) (hb : 4 * l.length ≤ 2 ^ 24) :
    FnS Tryd.prog 58 [.sl true 1 [], .sl t 1 (l.map encI)] [] (.own 0 1 0 (4 * l.length)) [(0, .row 1 ((layS l).map encB))] := by
  refine fn_walkN tabOk Tryd.func58 rfl (by decide +kernel) Tryd.ntmps58 Tryd.results58 (by simp) fun B hB => ?_
  try refine hK _ ?_
  repeat (first | refine awp_seq ?_ | refine awp_block ?_ | refine awp_skip ?_ | refine awp_scope ?_ | refine awp_label ?_)
  refine awp_region tabOk fun K hK => ?_
  simp -dsimp -implicitDefEqProofs only [push_cast, ↓trAdd_f, ↓stOf_f, seval]
  refine hK _ ?_
  try refine hK _ ?_
  repeat (first | refine awp_seq ?_ | refine awp_block ?_ | refine awp_skip ?_ | refine awp_scope ?_ | refine awp_label ?_)
  refine awp_region tabOk fun K hK => ?_
  simp -dsimp -implicitDefEqProofs only [push_cast, ↓trAdd_f, ↓stOf_f, seval]
  refine hK _ (awp_block ?_)
  refine awp_for (fun k : Nat => lyZ l k) (fun k => k ≤ l.length) (fun k => l.length - k) 0 (Nat.zero_le _) ?_ fun k hk => ?_
  · have e : layS (l.take 0) = [] := rfl
    simp only [lyZ, e]
    refine AS.le_trans (le_nil1 _ 1) ?_
    simp -dsimp -implicitDefEqProofs only [ins, push_cast]
    refine le_intro hB [(100, 32)] (by simp) (fun b hb => absurd hb (Nat.not_lt_zero b)) rfl ?_ ?_ rfl <;> simp -dsimp -implicitDefEqProofs only [bytes_ren, bytes_okl, Nat.mul_zero, push_cast, ↓trAdd_f, ↓stOf_f, seval]
  simp only [lyZ]
  try refine hK _ ?_
  repeat (first | refine awp_seq ?_ | refine awp_block ?_ | refine awp_skip ?_ | refine awp_scope ?_ | refine awp_label ?_)
  refine awp_region tabOk fun K hK => ?_
  simp -dsimp -implicitDefEqProofs only [push_cast, ↓trAdd_f, ↓stOf_f, seval]
  try refine hK _ ?_
  repeat (first | refine awp_seq ?_ | refine awp_block ?_ | refine awp_skip ?_ | refine awp_scope ?_ | refine awp_label ?_)
  refine awp_cond (b := decide ((k : Int) < (l.length : Int))) (by simp -dsimp -implicitDefEqProofs only [push_cast, ↓trAdd_f, ↓stOf_f, seval]) (fun h => ?_) (fun h => ?_)
  · have hlt : k < l.length := by simpa using h
    refine awp_skip ?_
    try refine hK _ ?_
    repeat (first | refine awp_seq ?_ | refine awp_block ?_ | refine awp_skip ?_ | refine awp_scope ?_ | refine awp_label ?_)
    refine awp_region tabOk fun K hK => ?_
    simp -dsimp -implicitDefEqProofs only [hlt, getD_map, encI, push_cast, ↓trAdd_f, ↓stOf_f, seval]
    refine ⟨⟨by omega, by omega⟩, hK _ ?_⟩
    have q1 : (2 : Int) ^ min 24 IntKind.i64.bits = 16777216 := by decide
    have q2 : (2 : Int) ^ min 16 IntKind.i64.bits = 65536 := by decide
    have q3 : (2 : Int) ^ min 8 IntKind.i64.bits = 256 := by decide
    have hl1 : ((layS (l.take k)).map encB).length = 4 * k := by simp [layS_len]; omega
    have ht1 : ((layS (l.take k)).map encB).take (4 * k) = (layS (l.take k)).map encB := List.take_of_length_le (by omega)
    have hb4 : (be4 l[k]).length = 4 := rfl
    have ht4 : ((be4 l[k]).map encB).take 4 = (be4 l[k]).map encB := rfl
    have hls : layS (l.take (k + 1)) = layS (l.take k) ++ be4 l[k] := by
      unfold layS
      rw [List.take_succ_eq_append_getElem hlt, List.flatMap_append]
      simp
    have hap : (layS (l.take k)).map encB ++ (be4 l[k]).map encB = (layS (l.take (k + 1))).map encB := by
      rw [hls, ← List.map_append]
    have hml4 : ((be4 l[k]).map encB).length = 4 := rfl
    try refine hK _ ?_
    repeat (first | refine awp_seq ?_ | refine awp_block ?_ | refine awp_skip ?_ | refine awp_scope ?_ | refine awp_label ?_)
    refine awp_region tabOk fun K hK => ?_
    simp -dsimp -implicitDefEqProofs only [q1, q2, q3, b4_eq, hl1, ht1, hb4, ht4, hml4, hap, push_cast, ↓trAdd_f, ↓stOf_f, seval]
    refine ⟨⟨by omega, by omega⟩, hK _ ?_⟩
    have hw : IntKind.i64.wrap ((k : Int) + 1) = (k : Int) + 1 := wrap_i64 (by omega) (by omega)
    try refine hK _ ?_
    repeat (first | refine awp_seq ?_ | refine awp_block ?_ | refine awp_skip ?_ | refine awp_scope ?_ | refine awp_label ?_)
    refine awp_region tabOk fun K hK => ?_
    simp -dsimp -implicitDefEqProofs only [hw, push_cast, ↓trAdd_f, ↓stOf_f, seval]
    have hln : 4 * k + 4 = 4 * (k + 1) := by omega
    refine hK _ ⟨k + 1, hlt, Nat.sub_lt_sub_left (by omega) (by omega), ?_⟩
    rw [hln]
    refine le_intro hB [(100, 336)] (by simp) (fun b hb => absurd hb (Nat.not_lt_zero b)) rfl ?_ ?_ rfl <;> simp -dsimp -implicitDefEqProofs only [bytes_ren, bytes_okl, push_cast, ↓trAdd_f, ↓stOf_f, seval]
  · have hke : k = l.length := by simp at h; omega
    subst hke
    refine awp_exit rfl ?_
    try refine hK _ ?_
    repeat (first | refine awp_seq ?_ | refine awp_block ?_ | refine awp_skip ?_ | refine awp_scope ?_ | refine awp_label ?_)
    refine awp_region tabOk fun K hK => ?_
    simp -dsimp -implicitDefEqProofs only [List.take_length, push_cast, ↓trAdd_f, ↓stOf_f, seval]
    refine hK _ (awp_le (s' := { sl := [(4, .own 0 1 0 (4 * l.length))], st := [(0, .row 1 ((layS l).map encB))], nx := 8, n := 29 }) ?_ (awp_ret ?_))
    · refine le_intro hB [(0, 100)] (by simp) (fun b hb => absurd hb (Nat.not_lt_zero b)) rfl ?_ ?_ rfl <;> simp -dsimp -implicitDefEqProofs only [bytes_ren, bytes_okl, push_cast, ↓trAdd_f, ↓stOf_f, seval]
    simp -dsimp -implicitDefEqProofs only [bytes_okl, push_cast, List.mem_append, List.mem_cons, List.mem_singleton, forall_eq_or_imp, forall_eq, ↓trAdd_f, ↓stOf_f, seval]
end Go.Proofs.YtoifmpiikopelaaDoorFw

/-
  Walks: image.seal, Pack.
-/
namespace Go.Proofs.YtoifmpiikopelaaDoorFw
open Go Go.Proofs
set_option maxRecDepth 100000
set_option maxHeartbeats 4000000
set_option linter.unusedVariables false
set_option linter.unusedSimpArgs false

def sealS (a b : List Int) (key : Int) : BitVec 32 := crcMore (crcMore (crcMore (crcMore 0#32 (layS [key])) a) b) (layS [key])
theorem seal_ok (ta tb : Bool) (a b : List Int) (key : Int) (ha : a.length ≤ 2 ^ 40) (hb : b.length ≤ 2 ^ 40) : FnS Tryd.prog 60 [.sl ta 1 (a.map encB), .sl tb 1 (b.map encB), .int .i64 key] [] (.int .i64 (sealS a b key).toNat) [] := by
  have hl : (layS [key]).length = 4 := rfl
  have hk : [[PV.int .i64 key]] = [key].map encI := rfl
  have h41 : 4 * [key].length = 4 := rfl
  have ht : ((layS [key]).map encB).take 4 = (layS [key]).map encB := rfl
  have hml : ((layS [key]).map encB).length = 4 := rfl
  have hz := bytes_fz (layS [key])
  refine fn_walk tabOk Tryd.func60 rfl (by decide +kernel) Tryd.ntmps60 Tryd.results60 (by simp) fun B hB => ?_
  try refine hK _ ?_
  repeat (first | refine awp_seq ?_ | refine awp_block ?_ | refine awp_skip ?_ | refine awp_scope ?_ | refine awp_label ?_)
  refine awp_region tabOk fun K hK => ?_
  simp -dsimp -implicitDefEqProofs only [push_cast, ↓trAdd_f, ↓stOf_f, seval]
  refine hK _ ?_
  try refine hK _ ?_
  repeat (first | refine awp_seq ?_ | refine awp_block ?_ | refine awp_skip ?_ | refine awp_scope ?_ | refine awp_label ?_)
  refine awp_region tabOk fun K hK => ?_
  simp -dsimp -implicitDefEqProofs only [push_cast, ↓trAdd_f, ↓stOf_f, seval]
  refine ⟨58, [], [], { args := [.sl true 1 [], .sl false 1 ([key].map encI)], st0 := [], res := .own 0 1 0 (4 * [key].length), st1 := [(0, .row 1 ((layS [key]).map encB))], r := [] }, rfl, .inl (lay0_ok false [key] (by simp)), ?_, ?_⟩
  · simp -dsimp -implicitDefEqProofs only [bytes_okl, encI, push_cast, List.mem_append, List.mem_cons, List.mem_singleton, forall_eq_or_imp, forall_eq, ↓trAdd_f, ↓stOf_f, seval]
    rfl
  simp -dsimp -implicitDefEqProofs only [bytes_ren, h41, push_cast, ↓trAdd_f, ↓stOf_f, seval]
  refine hK _ ?_
  try refine hK _ ?_
  repeat (first | refine awp_seq ?_ | refine awp_block ?_ | refine awp_skip ?_ | refine awp_scope ?_ | refine awp_label ?_)
  refine awp_region tabOk fun K hK => ?_
  simp -dsimp -implicitDefEqProofs only [push_cast, ↓trAdd_f, ↓stOf_f, seval]
  refine callK_simple (word_ok false (layS [key]) (by rw [hl]; decide)) ?_ rfl fun _ => ?_
  · simp -dsimp -implicitDefEqProofs only [ht, hml, hz, push_cast, List.mem_append, List.mem_cons, List.mem_singleton, forall_eq_or_imp, forall_eq, ↓trAdd_f, ↓stOf_f, seval]
  simp -dsimp -implicitDefEqProofs only [push_cast, ↓trAdd_f, ↓stOf_f, seval]
  refine callK_simple (more_ok ta (crcMore 0#32 (layS [key])) a ha) ?_ rfl fun _ => ?_
  · simp -dsimp -implicitDefEqProofs only [push_cast, List.mem_append, List.mem_cons, List.mem_singleton, forall_eq_or_imp, forall_eq, ↓trAdd_f, ↓stOf_f, seval]
  simp -dsimp -implicitDefEqProofs only [push_cast, ↓trAdd_f, ↓stOf_f, seval]
  refine callK_simple (more_ok tb (crcMore (crcMore 0#32 (layS [key])) a) b hb) ?_ rfl fun _ => ?_
  · simp -dsimp -implicitDefEqProofs only [push_cast, List.mem_append, List.mem_cons, List.mem_singleton, forall_eq_or_imp, forall_eq, ↓trAdd_f, ↓stOf_f, seval]
  simp -dsimp -implicitDefEqProofs only [push_cast, ↓trAdd_f, ↓stOf_f, seval]
  refine callK_simple (more_ok false (crcMore (crcMore (crcMore 0#32 (layS [key])) a) b) (layS [key]) (by rw [hl]; decide)) ?_ rfl fun _ => ?_
  · simp -dsimp -implicitDefEqProofs only [ht, hml, hz, push_cast, List.mem_append, List.mem_cons, List.mem_singleton, forall_eq_or_imp, forall_eq, ↓trAdd_f, ↓stOf_f, seval]
  simp -dsimp -implicitDefEqProofs only [push_cast, ↓trAdd_f, ↓stOf_f, seval]
  refine hK _ (awp_ret ?_)
  simp -dsimp -implicitDefEqProofs only [sealS, push_cast, List.mem_append, List.mem_cons, List.mem_singleton, forall_eq_or_imp, forall_eq, ↓trAdd_f, ↓stOf_f, seval]
def packS (m : Img) (key : Int) : List Int :=
  [80, 72] ++ layS [m.ver, m.body.length, (crcMore 0#32 m.body).toNat] ++ layS [((sealS ([80, 72] ++ layS [m.ver, m.body.length, (crcMore 0#32 m.body).toNat]) m.body key).toNat : Int)] ++ m.body
theorem pack_no (m : Img) (key : Int) (h : (rightM m && mayS key) = false) : FnS Tryd.prog 25 [.agg (encImg m), .int .i64 key] [] (.tup [.sl true 1 [], .bool false]) [] := by
  refine fn_walk tabOk Tryd.func25 rfl (by decide +kernel) Tryd.ntmps25 Tryd.results25 (by simp) fun B hB => ?_
  try refine hK _ ?_
  repeat (first | refine awp_seq ?_ | refine awp_block ?_ | refine awp_skip ?_ | refine awp_scope ?_ | refine awp_label ?_)
  refine awp_region tabOk fun K hK => ?_
  simp -dsimp -implicitDefEqProofs only [encImg, push_cast, ↓trAdd_f, ↓stOf_f, seval]
  refine hK _ ?_
  try refine hK _ ?_
  repeat (first | refine awp_seq ?_ | refine awp_block ?_ | refine awp_skip ?_ | refine awp_scope ?_ | refine awp_label ?_)
  refine awp_region tabOk fun K hK => ?_
  simp -dsimp -implicitDefEqProofs only [push_cast, ↓trAdd_f, ↓stOf_f, seval]
  refine callK_simple (rightM_ok m) ?_ rfl fun _ => ?_
  · simp -dsimp -implicitDefEqProofs only [encImg, push_cast, List.mem_append, List.mem_cons, List.mem_singleton, forall_eq_or_imp, forall_eq, ↓trAdd_f, ↓stOf_f, seval]
  simp -dsimp -implicitDefEqProofs only [push_cast, ↓trAdd_f, ↓stOf_f, seval]
  cases hA : rightM m with
  | false =>
    have hn : (!false) = true := rfl
    simp only [hn]
    simp -dsimp -implicitDefEqProofs only [push_cast, ↓trAdd_f, ↓stOf_f, seval]
    refine hK _ ?_
    try refine hK _ ?_
    repeat (first | refine awp_seq ?_ | refine awp_block ?_ | refine awp_skip ?_ | refine awp_scope ?_ | refine awp_label ?_)
    refine awp_cond (b := true) (by simp -dsimp -implicitDefEqProofs only [push_cast, ↓trAdd_f, ↓stOf_f, seval]) (fun h => ?_) (fun h => ?_)
    rotate_left
    · cases h
    try refine hK _ ?_
    repeat (first | refine awp_seq ?_ | refine awp_block ?_ | refine awp_skip ?_ | refine awp_scope ?_ | refine awp_label ?_)
    refine awp_region tabOk fun K hK => ?_
    simp -dsimp -implicitDefEqProofs only [push_cast, ↓trAdd_f, ↓stOf_f, seval]
    refine hK _ (awp_ret ?_)
    simp -dsimp -implicitDefEqProofs only [push_cast, List.mem_append, List.mem_cons, List.mem_singleton, forall_eq_or_imp, forall_eq, ↓trAdd_f, ↓stOf_f, seval]
  | true =>
    have hM : mayS key = false := by rw [hA] at h; exact h
    have hn : (!true) = false := rfl
    simp only [hn]
    simp -dsimp -implicitDefEqProofs only [push_cast, ↓trAdd_f, ↓stOf_f, seval]
    refine callK_simple (may_ok key) ?_ rfl fun _ => ?_
    · simp -dsimp -implicitDefEqProofs only [push_cast, List.mem_append, List.mem_cons, List.mem_singleton, forall_eq_or_imp, forall_eq, ↓trAdd_f, ↓stOf_f, seval]
    rw [hM]
    have hn2 : (!false) = true := rfl
    simp -dsimp -implicitDefEqProofs only [push_cast, ↓trAdd_f, ↓stOf_f, seval]
    refine hK _ ?_
    try refine hK _ ?_
    repeat (first | refine awp_seq ?_ | refine awp_block ?_ | refine awp_skip ?_ | refine awp_scope ?_ | refine awp_label ?_)
    refine awp_cond (b := true) (by simp -dsimp -implicitDefEqProofs only [push_cast, ↓trAdd_f, ↓stOf_f, seval]) (fun h => ?_) (fun h => ?_)
    rotate_left
    · cases h
    try refine hK _ ?_
    repeat (first | refine awp_seq ?_ | refine awp_block ?_ | refine awp_skip ?_ | refine awp_scope ?_ | refine awp_label ?_)
    refine awp_region tabOk fun K hK => ?_
    simp -dsimp -implicitDefEqProofs only [push_cast, ↓trAdd_f, ↓stOf_f, seval]
    refine hK _ (awp_ret ?_)
    simp -dsimp -implicitDefEqProofs only [push_cast, List.mem_append, List.mem_cons, List.mem_singleton, forall_eq_or_imp, forall_eq, ↓trAdd_f, ↓stOf_f, seval]
def packH (m : Img) : List Int := [80, 72] ++ layS [m.ver, m.body.length, (crcMore 0#32 m.body).toNat]
theorem pack_ok (m : Img) (key : Int) (hA : rightM m = true) (hM : mayS key = true) : FnS Tryd.prog 25 [.agg (encImg m), .int .i64 key] [] (.tup [.sl false 1 ((packS m key).map encB), .bool true]) [] := by
  have hbl : m.body.length ≤ 2048 := by
    unfold rightM at hA
    simp only [Bool.and_eq_true, decide_eq_true_eq] at hA
    omega
  refine fn_walk tabOk Tryd.func25 rfl (by decide +kernel) Tryd.ntmps25 Tryd.results25 (by simp) fun B hB => ?_
  try refine hK _ ?_
  repeat (first | refine awp_seq ?_ | refine awp_block ?_ | refine awp_skip ?_ | refine awp_scope ?_ | refine awp_label ?_)
  refine awp_region tabOk fun K hK => ?_
  simp -dsimp -implicitDefEqProofs only [encImg, push_cast, ↓trAdd_f, ↓stOf_f, seval]
  refine hK _ ?_
  try refine hK _ ?_
  repeat (first | refine awp_seq ?_ | refine awp_block ?_ | refine awp_skip ?_ | refine awp_scope ?_ | refine awp_label ?_)
  refine awp_region tabOk fun K hK => ?_
  simp -dsimp -implicitDefEqProofs only [push_cast, ↓trAdd_f, ↓stOf_f, seval]
  refine callK_simple (rightM_ok m) ?_ rfl fun _ => ?_
  · simp -dsimp -implicitDefEqProofs only [encImg, push_cast, List.mem_append, List.mem_cons, List.mem_singleton, forall_eq_or_imp, forall_eq, ↓trAdd_f, ↓stOf_f, seval]
  rw [hA]
  simp -dsimp -implicitDefEqProofs only [push_cast, ↓trAdd_f, ↓stOf_f, seval]
  refine callK_simple (may_ok key) ?_ rfl fun _ => ?_
  · simp -dsimp -implicitDefEqProofs only [push_cast, List.mem_append, List.mem_cons, List.mem_singleton, forall_eq_or_imp, forall_eq, ↓trAdd_f, ↓stOf_f, seval]
  rw [hM]
  simp -dsimp -implicitDefEqProofs only [push_cast, ↓trAdd_f, ↓stOf_f, seval]
  refine hK _ ?_
  try refine hK _ ?_
  repeat (first | refine awp_seq ?_ | refine awp_block ?_ | refine awp_skip ?_ | refine awp_scope ?_ | refine awp_label ?_)
  refine awp_cond (b := false) (by simp -dsimp -implicitDefEqProofs only [push_cast, ↓trAdd_f, ↓stOf_f, seval]) (fun h => ?_) (fun h => ?_)
  · cases h
  refine awp_skip ?_
  have hb2 : [[PV.int .u8 80], [.int .u8 72]] = ([80, 72] : List Int).map encB := rfl
  have hi3 : [[PV.int .i64 m.ver], [.int .i64 m.body.length], [.int .i64 (crcMore 0#32 m.body).toNat]] = ([m.ver, (m.body.length : Int), ((crcMore 0#32 m.body).toNat : Int)]).map encI := rfl
  try refine hK _ ?_
  repeat (first | refine awp_seq ?_ | refine awp_block ?_ | refine awp_skip ?_ | refine awp_scope ?_ | refine awp_label ?_)
  refine awp_draw tabOk (by kernel_rfl) (by kernel_rfl) fun K hK C hC => ?_
  simp -dsimp -implicitDefEqProofs only [push_cast, ↓trAdd_f, ↓stOf_f, seval]
  refine callK_simple (word_ok false m.body (by omega)) ?_ rfl fun _ => ?_
  · simp -dsimp -implicitDefEqProofs only [push_cast, List.mem_append, List.mem_cons, List.mem_singleton, forall_eq_or_imp, forall_eq, ↓trAdd_f, ↓stOf_f, seval]
  simp -dsimp -implicitDefEqProofs only [push_cast, ↓trAdd_f, ↓stOf_f, seval]
  refine ⟨58, [], [], { args := [.own 0 1 0 ([80, 72] : List Int).length, .sl false 1 (([m.ver, (m.body.length : Int), ((crcMore 0#32 m.body).toNat : Int)]).map encI)], st0 := [(0, .row 1 (([80, 72] : List Int).map encB))], res := .own 1 1 0 (([80, 72] : List Int).length + 4 * ([m.ver, (m.body.length : Int), ((crcMore 0#32 m.body).toNat : Int)]).length), st1 := [(1, .row 1 ((packH m).map encB))], r := [88] }, rfl, .inl (lay_ok false [80, 72] [m.ver, (m.body.length : Int), ((crcMore 0#32 m.body).toNat : Int)] (by simp)), ?_, ?_⟩
  · simp -dsimp -implicitDefEqProofs only [bytes_okl, encI, encB, push_cast, List.mem_append, List.mem_cons, List.mem_singleton, forall_eq_or_imp, forall_eq, ↓trAdd_f, ↓stOf_f, seval]
  have h14 : ([80, 72] : List Int).length + 4 * ([m.ver, (m.body.length : Int), ((crcMore 0#32 m.body).toNat : Int)]).length = 14 := rfl
  simp -dsimp -implicitDefEqProofs only [bytes_ren, h14, push_cast, ↓trAdd_f, ↓stOf_f, seval]
  have hHl : (packH m).length = 14 := by simp [packH, layS_len]
  have hHm : ((packH m).map encB).length = 14 := by simp [hHl]
  have hHt : ((packH m).map encB).take 14 = (packH m).map encB := List.take_of_length_le (by omega)
  have hHz := bytes_fz (packH m)
  refine ⟨hC _ (by kernel_rfl), hK _ (awp_le (s' := { sl := [(1, .int .i64 key), (2, .ptr 100 0), (6, .own 101 1 0 14)], st := [(100, .box (encImg m)), (101, .row 1 ((packH m).map encB))], nx := 200, n := 38 }) ?_ ?_)⟩
  · refine le_intro hB [(100, 0), (101, 176)] (by simp) (fun b hb => absurd hb (Nat.not_lt_zero b)) rfl ?_ ?_ rfl <;> simp -dsimp -implicitDefEqProofs only [bytes_ren, bytes_okl, encImg, push_cast, ↓trAdd_f, ↓stOf_f, seval]
  try refine hK _ ?_
  repeat (first | refine awp_seq ?_ | refine awp_block ?_ | refine awp_skip ?_ | refine awp_scope ?_ | refine awp_label ?_)
  refine awp_draw tabOk (by kernel_rfl) (by kernel_rfl) fun K hK C hC => ?_
  simp -dsimp -implicitDefEqProofs only [encImg, push_cast, ↓trAdd_f, ↓stOf_f, seval]
  refine callK_simple (seal_ok false false (packH m) m.body key (by omega) (by omega)) ?_ rfl fun _ => ?_
  · simp -dsimp -implicitDefEqProofs only [hHt, hHm, hHz, push_cast, List.mem_append, List.mem_cons, List.mem_singleton, forall_eq_or_imp, forall_eq, ↓trAdd_f, ↓stOf_f, seval]
  have hsl : [PV.int .i64 ((sealS (packH m) m.body key).toNat : Int)] = encI ((sealS (packH m) m.body key).toNat : Int) := rfl
  simp -dsimp -implicitDefEqProofs only [push_cast, ↓trAdd_f, ↓stOf_f, seval]
  have hlay : FnS Tryd.prog 58 [.own 0 1 0 14, .sl false 1 (([((sealS (packH m) m.body key).toNat : Int)]).map encI)] [(0, .row 1 ((packH m).map encB))] (.own 1 1 0 18) [(1, .row 1 ((packH m ++ layS [((sealS (packH m) m.body key).toNat : Int)]).map encB))] := by
    have := lay_ok false (packH m) [((sealS (packH m) m.body key).toNat : Int)] (by rw [hHl]; simp)
    rw [hHl] at this
    exact this
  refine ⟨58, [], [], { args := _, st0 := _, res := _, st1 := _, r := [101] }, rfl, .inl hlay, ?_, ?_⟩
  · simp -dsimp -implicitDefEqProofs only [bytes_okl, encI, bytes_ren, push_cast, List.mem_append, List.mem_cons, List.mem_singleton, forall_eq_or_imp, forall_eq, ↓trAdd_f, ↓stOf_f, seval]
  have hXl : ((packH m ++ layS [((sealS (packH m) m.body key).toNat : Int)]).map encB).length = 18 := by simp [hHl, layS_len]
  have hXt : ((packH m ++ layS [((sealS (packH m) m.body key).toNat : Int)]).map encB).take 18 = (packH m ++ layS [((sealS (packH m) m.body key).toNat : Int)]).map encB := List.take_of_length_le (by omega)
  have hPm : (packH m ++ layS [((sealS (packH m) m.body key).toNat : Int)]).map encB ++ m.body.map encB = (packS m key).map encB := by
    rw [← List.map_append]; rfl
  have hPl : ((packS m key).map encB).length = 18 + m.body.length := by
    rw [← hPm, List.length_append, hXl, List.length_map]
  have hPt : ((packS m key).map encB).take (18 + m.body.length) = (packS m key).map encB := List.take_of_length_le (by omega)
  have hPz := bytes_fz (packS m key)
  simp -dsimp -implicitDefEqProofs only [bytes_ren, hXl, hXt, hPm, push_cast, ↓trAdd_f, ↓stOf_f, seval]
  refine ⟨⟨by omega, by omega⟩, hC _ (by kernel_rfl), hK _ (awp_ret ?_)⟩
  simp -dsimp -implicitDefEqProofs only [hPt, hPl, hPz, bytes_okl, push_cast, List.mem_append, List.mem_cons, List.mem_singleton, forall_eq_or_imp, forall_eq, ↓trAdd_f, ↓stOf_f, seval]
end Go.Proofs.YtoifmpiikopelaaDoorFw

/-
  Walks: image.Read.
-/
namespace Go.Proofs.YtoifmpiikopelaaDoorFw
open Go Go.Proofs
set_option maxRecDepth 100000
set_option maxHeartbeats 4000000
set_option linter.unusedVariables false
set_option linter.unusedSimpArgs false

def img0 : Img := ⟨0, []⟩
def imgOf (b : List Int) : Img := ⟨numberS b 2, b.drop 18⟩
def readM (b : List Int) (key : Int) : Img × Int :=
  if (b.length : Int) < 18 ∨ b.take 2 ≠ [80, 72] then (img0, 240) else
  if rightM (imgOf b) = false ∨ numberS b 6 ≠ ((b.drop 18).length : Int) then (img0, 240) else
  if numberS b 10 ≠ ((crcMore 0#32 (b.drop 18)).toNat : Int) then (img0, 241) else
  if mayS key = false ∨ numberS b 14 ≠ ((sealS (b.take 14) (b.drop 18) key).toNat : Int) then (img0, 242) else (imgOf b, 0)
theorem mark_eq (l : List Int) (hl : ∀ x ∈ l, byte x) : ((bytesOf (l.map encB)).toList == (⟨#[80, 72]⟩ : ByteArray).toList) = decide (l = [80, 72]) := by
  have e1 : (bytesOf (l.map encB)).toList = l.map fun n => UInt8.ofNat n.toNat := by
    unfold bytesOf
    rw [ba_toList, List.map_map]
    rfl
  have e2 : (⟨#[80, 72]⟩ : ByteArray).toList = [80, 72] := ba_toList [80, 72]
  rw [e1, e2]
  rw [Bool.eq_iff_iff]
  simp only [beq_iff_eq, decide_eq_true_eq]
  constructor
  · intro h
    have hl2 : l.length = 2 := by simpa using congrArg List.length h
    obtain ⟨x, y, rfl⟩ : ∃ x y, l = [x, y] := by
      match l, hl2 with
      | [x, y], _ => exact ⟨x, y, rfl⟩
    have hx := hl x List.mem_cons_self
    have hy := hl y (List.mem_cons_of_mem _ List.mem_cons_self)
    unfold byte at hx hy
    have h1 : UInt8.ofNat x.toNat = 80 := by have := congrArg (fun l => l.getD 0 0) h; exact this
    have h2 : UInt8.ofNat y.toNat = 72 := by have := congrArg (fun l => l.getD 1 0) h; exact this
    have h1 := congrArg UInt8.toNat h1
    have h2 := congrArg UInt8.toNat h2
    have g1 : (UInt8.ofNat x.toNat).toNat = x.toNat % 256 := by simp
    have g2 : (UInt8.ofNat y.toNat).toNat = y.toNat % 256 := by simp
    rw [g1] at h1
    rw [g2] at h2
    have k1 : (80 : UInt8).toNat = 80 := rfl
    have k2 : (72 : UInt8).toNat = 72 := rfl
    rw [k1] at h1
    rw [k2] at h2
    have : x = 80 := by omega
    have : y = 72 := by omega
    subst x y; rfl
  · rintro rfl; rfl
theorem readM_ok (t : Bool) (b : List Int) (key : Int) (hb : ∀ x ∈ b, byte x) (hl : b.length ≤ 2 ^ 20) : FnS Tryd.prog 35 [.sl t 1 (b.map encB), .int .i64 key] [] (.tup [.agg (encImg (readM b key).1), .int .i64 (readM b key).2]) [] := by
  refine fn_walk tabOk Tryd.func35 rfl (by decide +kernel) Tryd.ntmps35 Tryd.results35 (by simp) fun B hB => ?_
  try refine hK _ ?_
  repeat (first | refine awp_seq ?_ | refine awp_block ?_ | refine awp_skip ?_ | refine awp_scope ?_ | refine awp_label ?_)
  refine awp_region tabOk fun K hK => ?_
  simp -dsimp -implicitDefEqProofs only [push_cast, ↓trAdd_f, ↓stOf_f, seval]
  refine hK _ ?_
  cases hA : decide ((b.length : Int) < 18) with
  | true =>
    have e : readM b key = (img0, 240) := by unfold readM; rw [if_pos (.inl (by simpa using hA))]
    try refine hK _ ?_
    repeat (first | refine awp_seq ?_ | refine awp_block ?_ | refine awp_skip ?_ | refine awp_scope ?_ | refine awp_label ?_)
    refine awp_region tabOk fun K hK => ?_
    simp -dsimp -implicitDefEqProofs only [hA, push_cast, ↓trAdd_f, ↓stOf_f, seval]
    try refine hK _ ?_
    repeat (first | refine awp_seq ?_ | refine awp_block ?_ | refine awp_skip ?_ | refine awp_scope ?_ | refine awp_label ?_)
    refine awp_cond (b := true) (by simp -dsimp -implicitDefEqProofs only [push_cast, ↓trAdd_f, ↓stOf_f, seval]) (fun h => ?_) (fun h => ?_)
    rotate_left
    · cases h
    try refine hK _ ?_
    repeat (first | refine awp_seq ?_ | refine awp_block ?_ | refine awp_skip ?_ | refine awp_scope ?_ | refine awp_label ?_)
    refine awp_region tabOk fun K hK => ?_
    simp -dsimp -implicitDefEqProofs only [push_cast, ↓trAdd_f, ↓stOf_f, seval]
    refine hK _ (awp_ret ?_)
    simp -dsimp -implicitDefEqProofs only [e, encImg, img0, push_cast, List.mem_append, List.mem_cons, List.mem_singleton, forall_eq_or_imp, forall_eq, ↓trAdd_f, ↓stOf_f, seval]
    trace_state
  | false =>
  have hA' := of_decide_eq_false hA
  have hm2 : (b.map encB).take 2 = (b.take 2).map encB := by rw [List.map_take]
  have h2 : Int.toNat 2 = 2 := rfl
  have hmk := mark_eq (b.take 2) fun x hx => hb x (List.mem_of_mem_take hx)
  have hby : ∀ e ∈ (b.take 2).map encB, isByte e := fun e he => by
    obtain ⟨x, _, rfl⟩ := List.mem_map.1 he
    exact trivial
  try refine hK _ ?_
  repeat (first | refine awp_seq ?_ | refine awp_block ?_ | refine awp_skip ?_ | refine awp_scope ?_ | refine awp_label ?_)
  refine awp_region tabOk fun K hK => ?_
  simp -dsimp -implicitDefEqProofs only [hA, hm2, h2, hmk, push_cast, ↓trAdd_f, ↓stOf_f, seval]
  refine ⟨by omega, hby, hK _ ?_⟩
  cases hQ : decide (b.take 2 = [80, 72]) with
  | false =>
    have e : readM b key = (img0, 240) := by unfold readM; rw [if_pos (.inr (by simpa using hQ))]
    try refine hK _ ?_
    repeat (first | refine awp_seq ?_ | refine awp_block ?_ | refine awp_skip ?_ | refine awp_scope ?_ | refine awp_label ?_)
    refine awp_cond (b := true) (by simp -dsimp -implicitDefEqProofs only [push_cast, ↓trAdd_f, ↓stOf_f, seval]) (fun h => ?_) (fun h => ?_)
    rotate_left
    · cases h
    try refine hK _ ?_
    repeat (first | refine awp_seq ?_ | refine awp_block ?_ | refine awp_skip ?_ | refine awp_scope ?_ | refine awp_label ?_)
    refine awp_region tabOk fun K hK => ?_
    simp -dsimp -implicitDefEqProofs only [push_cast, ↓trAdd_f, ↓stOf_f, seval]
    refine hK _ (awp_ret ?_)
    simp -dsimp -implicitDefEqProofs only [e, encImg, img0, push_cast, List.mem_append, List.mem_cons, List.mem_singleton, forall_eq_or_imp, forall_eq, ↓trAdd_f, ↓stOf_f, seval]
  | true =>
  have hQ' := of_decide_eq_true hQ
  have e0 : readM b key = if rightM (imgOf b) = false ∨ numberS b 6 ≠ ((b.drop 18).length : Int) then (img0, 240) else
      if numberS b 10 ≠ ((crcMore 0#32 (b.drop 18)).toNat : Int) then (img0, 241) else
      if mayS key = false ∨ numberS b 14 ≠ ((sealS (b.take 14) (b.drop 18) key).toNat : Int) then (img0, 242) else (imgOf b, 0) := by
    unfold readM; rw [if_neg (fun h => h.elim (fun h => by omega) (fun h => h hQ'))]
  try refine hK _ ?_
  repeat (first | refine awp_seq ?_ | refine awp_block ?_ | refine awp_skip ?_ | refine awp_scope ?_ | refine awp_label ?_)
  refine awp_cond (b := false) (by simp -dsimp -implicitDefEqProofs only [push_cast, ↓trAdd_f, ↓stOf_f, seval]) (fun h => ?_) (fun h => ?_)
  · cases h
  refine awp_skip ?_
  have hdl : ((b.map encB).drop 18) = (b.drop 18).map encB := by rw [List.map_drop]
  have h18 : Int.toNat 18 = 18 := rfl
  have hdt : ((b.drop 18).map encB).take (b.length - 18) = (b.drop 18).map encB := List.take_of_length_le (by simp)
  try refine hK _ ?_
  repeat (first | refine awp_seq ?_ | refine awp_block ?_ | refine awp_skip ?_ | refine awp_scope ?_ | refine awp_label ?_)
  refine awp_region tabOk fun K hK => ?_
  simp -dsimp -implicitDefEqProofs only [hdl, h18, hdt, push_cast, ↓trAdd_f, ↓stOf_f, seval]
  refine ⟨by omega, hK _ ?_⟩
  try refine hK _ ?_
  repeat (first | refine awp_seq ?_ | refine awp_block ?_ | refine awp_skip ?_ | refine awp_scope ?_ | refine awp_label ?_)
  refine awp_region tabOk fun K hK => ?_
  simp -dsimp -implicitDefEqProofs only [push_cast, ↓trAdd_f, ↓stOf_f, seval]
  refine callK_simple (number_ok t b 2 (by omega) (by omega)) ?_ rfl fun _ => ?_
  · simp -dsimp -implicitDefEqProofs only [push_cast, List.mem_append, List.mem_cons, List.mem_singleton, forall_eq_or_imp, forall_eq, ↓trAdd_f, ↓stOf_f, seval]
  simp -dsimp -implicitDefEqProofs only [push_cast, ↓trAdd_f, ↓stOf_f, seval]
  have hql : (b.drop 18).length ≤ 2 ^ 20 := by simp; omega
  have hqb : ∀ x ∈ b.drop 18, byte x := fun x hx => hb x (List.mem_of_mem_drop hx)
  have hqt : ((b.drop 18).map encB).take (b.drop 18).length = (b.drop 18).map encB := List.take_of_length_le (by simp)
  have hqm : ((b.drop 18).map encB).length = (b.drop 18).length := by simp
  have hqz := bytes_fz (b.drop 18)
  refine ⟨⟨by omega, by omega⟩, hK _ ?_⟩
  have hI : [PV.int .i64 (numberS b 2), .sl false 1 ((b.drop 18).map encB)] = encImg (imgOf b) := rfl
  refine awp_le (le_frz _ [136] ?_ ?_ ?_) ?_
  · simp -dsimp -implicitDefEqProofs only [hqt, hqm, hqz, hI, push_cast, ↓trAdd_f, ↓stOf_f, seval]
  · simp -dsimp -implicitDefEqProofs only [hqt, hqm, hqz, hI, push_cast, ↓trAdd_f, ↓stOf_f, seval]
  · simp -dsimp -implicitDefEqProofs only [hqt, hqm, hqz, hI, push_cast, ↓trAdd_f, ↓stOf_f, seval]
  simp -dsimp -implicitDefEqProofs only [hqt, hqm, hqz, hI, push_cast, ↓trAdd_f, ↓stOf_f, seval]
  refine awp_le (s' := { sl := [(0, .sl t 1 (b.map encB)), (1, .int .i64 key), (4, .ptr 100 0), (6, .sl false 1 ((b.drop 18).map encB)), (7, .ptr 101 0)], st := [(100, .box [.int .i64 0, .sl true 1 []]), (101, .box (encImg (imgOf b)))], nx := 200, n := 60 }) ?_ ?_
  · refine le_intro hB [(100, 0), (101, 152)] (by simp) (fun b hb => absurd hb (Nat.not_lt_zero b)) rfl ?_ ?_ rfl <;> simp -dsimp -implicitDefEqProofs only [encImg, imgOf, push_cast, ↓trAdd_f, ↓stOf_f, seval]
  have hIl : (encImg (imgOf b)).length = 2 := rfl
  try refine hK _ ?_
  repeat (first | refine awp_seq ?_ | refine awp_block ?_ | refine awp_skip ?_ | refine awp_scope ?_ | refine awp_label ?_)
  refine awp_region tabOk fun K hK => ?_
  simp -dsimp -implicitDefEqProofs only [encImg, push_cast, ↓trAdd_f, ↓stOf_f, seval]
  refine callK_simple (rightM_ok (imgOf b)) ?_ rfl fun _ => ?_
  · simp -dsimp -implicitDefEqProofs only [encImg, push_cast, List.mem_append, List.mem_cons, List.mem_singleton, forall_eq_or_imp, forall_eq, ↓trAdd_f, ↓stOf_f, seval]
  simp -dsimp -implicitDefEqProofs only [push_cast, ↓trAdd_f, ↓stOf_f, seval]
  cases hR : rightM (imgOf b) with
  | false =>
    have e : readM b key = (img0, 240) := by rw [e0, if_pos (.inl hR)]
    have hn : (!false) = true := rfl
    simp -dsimp -implicitDefEqProofs only [hn, push_cast, ↓trAdd_f, ↓stOf_f, seval]
    refine hK _ ?_
    try refine hK _ ?_
    repeat (first | refine awp_seq ?_ | refine awp_block ?_ | refine awp_skip ?_ | refine awp_scope ?_ | refine awp_label ?_)
    refine awp_cond (b := true) (by simp -dsimp -implicitDefEqProofs only [push_cast, ↓trAdd_f, ↓stOf_f, seval]) (fun h => ?_) (fun h => ?_)
    rotate_left
    · cases h
    try refine hK _ ?_
    repeat (first | refine awp_seq ?_ | refine awp_block ?_ | refine awp_skip ?_ | refine awp_scope ?_ | refine awp_label ?_)
    refine awp_region tabOk fun K hK => ?_
    simp -dsimp -implicitDefEqProofs only [push_cast, ↓trAdd_f, ↓stOf_f, seval]
    refine hK _ (awp_ret ?_)
    simp -dsimp -implicitDefEqProofs only [e, encImg, img0, push_cast, List.mem_append, List.mem_cons, List.mem_singleton, forall_eq_or_imp, forall_eq, ↓trAdd_f, ↓stOf_f, seval]
  | true =>
  have hn : (!true) = false := rfl
  simp -dsimp -implicitDefEqProofs only [hn, push_cast, ↓trAdd_f, ↓stOf_f, seval]
  refine callK_simple (number_ok t b 6 (by omega) (by omega)) ?_ rfl fun _ => ?_
  · simp -dsimp -implicitDefEqProofs only [push_cast, List.mem_append, List.mem_cons, List.mem_singleton, forall_eq_or_imp, forall_eq, ↓trAdd_f, ↓stOf_f, seval]
  simp -dsimp -implicitDefEqProofs only [push_cast, ↓trAdd_f, ↓stOf_f, seval]
  cases hN : (numberS b 6 != ((b.drop 18).length : Int)) with
  | true =>
    have e : readM b key = (img0, 240) := by rw [e0, if_pos (.inr (by simpa using hN))]
    refine hK _ ?_
    try refine hK _ ?_
    repeat (first | refine awp_seq ?_ | refine awp_block ?_ | refine awp_skip ?_ | refine awp_scope ?_ | refine awp_label ?_)
    refine awp_cond (b := true) (by simp -dsimp -implicitDefEqProofs only [push_cast, ↓trAdd_f, ↓stOf_f, seval]) (fun h => ?_) (fun h => ?_)
    rotate_left
    · cases h
    try refine hK _ ?_
    repeat (first | refine awp_seq ?_ | refine awp_block ?_ | refine awp_skip ?_ | refine awp_scope ?_ | refine awp_label ?_)
    refine awp_region tabOk fun K hK => ?_
    simp -dsimp -implicitDefEqProofs only [push_cast, ↓trAdd_f, ↓stOf_f, seval]
    refine hK _ (awp_ret ?_)
    simp -dsimp -implicitDefEqProofs only [e, encImg, img0, push_cast, List.mem_append, List.mem_cons, List.mem_singleton, forall_eq_or_imp, forall_eq, ↓trAdd_f, ↓stOf_f, seval]
  | false =>
  have e1 : readM b key = if numberS b 10 ≠ ((crcMore 0#32 (b.drop 18)).toNat : Int) then (img0, 241) else
      if mayS key = false ∨ numberS b 14 ≠ ((sealS (b.take 14) (b.drop 18) key).toNat : Int) then (img0, 242) else (imgOf b, 0) := by
    rw [e0, if_neg (fun h => h.elim (fun h => by rw [hR] at h; cases h) (fun h => h (by simpa using hN)))]
  refine hK _ ?_
  try refine hK _ ?_
  repeat (first | refine awp_seq ?_ | refine awp_block ?_ | refine awp_skip ?_ | refine awp_scope ?_ | refine awp_label ?_)
  refine awp_cond (b := false) (by simp -dsimp -implicitDefEqProofs only [push_cast, ↓trAdd_f, ↓stOf_f, seval]) (fun h => ?_) (fun h => ?_)
  · cases h
  try refine hK _ ?_
  repeat (first | refine awp_seq ?_ | refine awp_block ?_ | refine awp_skip ?_ | refine awp_scope ?_ | refine awp_label ?_)
  refine awp_region tabOk fun K hK => ?_
  simp -dsimp -implicitDefEqProofs only [push_cast, ↓trAdd_f, ↓stOf_f, seval]
  refine callK_simple (number_ok t b 10 (by omega) (by omega)) ?_ rfl fun _ => ?_
  · simp -dsimp -implicitDefEqProofs only [push_cast, List.mem_append, List.mem_cons, List.mem_singleton, forall_eq_or_imp, forall_eq, ↓trAdd_f, ↓stOf_f, seval]
  simp -dsimp -implicitDefEqProofs only [push_cast, ↓trAdd_f, ↓stOf_f, seval]
  refine callK_simple (word_ok false (b.drop 18) (by omega)) ?_ rfl fun _ => ?_
  · simp -dsimp -implicitDefEqProofs only [push_cast, List.mem_append, List.mem_cons, List.mem_singleton, forall_eq_or_imp, forall_eq, ↓trAdd_f, ↓stOf_f, seval]
  simp -dsimp -implicitDefEqProofs only [push_cast, ↓trAdd_f, ↓stOf_f, seval]
  cases hS : (numberS b 10 != ((crcMore 0#32 (b.drop 18)).toNat : Int)) with
  | true =>
    have e : readM b key = (img0, 241) := by rw [e1, if_pos (by simpa using hS)]
    refine hK _ ?_
    try refine hK _ ?_
    repeat (first | refine awp_seq ?_ | refine awp_block ?_ | refine awp_skip ?_ | refine awp_scope ?_ | refine awp_label ?_)
    refine awp_cond (b := true) (by simp -dsimp -implicitDefEqProofs only [push_cast, ↓trAdd_f, ↓stOf_f, seval]) (fun h => ?_) (fun h => ?_)
    rotate_left
    · cases h
    try refine hK _ ?_
    repeat (first | refine awp_seq ?_ | refine awp_block ?_ | refine awp_skip ?_ | refine awp_scope ?_ | refine awp_label ?_)
    refine awp_region tabOk fun K hK => ?_
    simp -dsimp -implicitDefEqProofs only [push_cast, ↓trAdd_f, ↓stOf_f, seval]
    refine hK _ (awp_ret ?_)
    simp -dsimp -implicitDefEqProofs only [e, encImg, img0, push_cast, List.mem_append, List.mem_cons, List.mem_singleton, forall_eq_or_imp, forall_eq, ↓trAdd_f, ↓stOf_f, seval]
  | false =>
  have e2 : readM b key = if mayS key = false ∨ numberS b 14 ≠ ((sealS (b.take 14) (b.drop 18) key).toNat : Int) then (img0, 242) else (imgOf b, 0) := by
    rw [e1, if_neg (fun h => h (by simpa using hS))]
  refine hK _ ?_
  try refine hK _ ?_
  repeat (first | refine awp_seq ?_ | refine awp_block ?_ | refine awp_skip ?_ | refine awp_scope ?_ | refine awp_label ?_)
  refine awp_cond (b := false) (by simp -dsimp -implicitDefEqProofs only [push_cast, ↓trAdd_f, ↓stOf_f, seval]) (fun h => ?_) (fun h => ?_)
  · cases h
  have hm14 : (b.map encB).take 14 = (b.take 14).map encB := by rw [List.map_take]
  have h14 : Int.toNat 14 = 14 := rfl
  try refine hK _ ?_
  repeat (first | refine awp_seq ?_ | refine awp_block ?_ | refine awp_skip ?_ | refine awp_scope ?_ | refine awp_label ?_)
  refine awp_draw tabOk (by kernel_rfl) (by kernel_rfl) fun K hK C hC => ?_
  simp -dsimp -implicitDefEqProofs only [push_cast, ↓trAdd_f, ↓stOf_f, seval]
  refine callK_simple (may_ok key) ?_ rfl fun _ => ?_
  · simp -dsimp -implicitDefEqProofs only [push_cast, List.mem_append, List.mem_cons, List.mem_singleton, forall_eq_or_imp, forall_eq, ↓trAdd_f, ↓stOf_f, seval]
  cases hM : mayS key with
  | false =>
    have e : readM b key = (img0, 242) := by rw [e2, if_pos (.inl hM)]
    have hn : (!false) = true := rfl
    simp -dsimp -implicitDefEqProofs only [hn, push_cast, ↓trAdd_f, ↓stOf_f, seval]
    refine ⟨hC _ (by kernel_rfl), hK _ ?_⟩
    try refine hK _ ?_
    repeat (first | refine awp_seq ?_ | refine awp_block ?_ | refine awp_skip ?_ | refine awp_scope ?_ | refine awp_label ?_)
    refine awp_cond (b := true) (by simp -dsimp -implicitDefEqProofs only [push_cast, ↓trAdd_f, ↓stOf_f, seval]) (fun h => ?_) (fun h => ?_)
    rotate_left
    · cases h
    try refine hK _ ?_
    repeat (first | refine awp_seq ?_ | refine awp_block ?_ | refine awp_skip ?_ | refine awp_scope ?_ | refine awp_label ?_)
    refine awp_region tabOk fun K hK => ?_
    simp -dsimp -implicitDefEqProofs only [push_cast, ↓trAdd_f, ↓stOf_f, seval]
    refine hK _ (awp_ret ?_)
    simp -dsimp -implicitDefEqProofs only [e, encImg, img0, push_cast, List.mem_append, List.mem_cons, List.mem_singleton, forall_eq_or_imp, forall_eq, ↓trAdd_f, ↓stOf_f, seval]
  | true =>
  have hn : (!true) = false := rfl
  simp -dsimp -implicitDefEqProofs only [hn, push_cast, ↓trAdd_f, ↓stOf_f, seval]
  refine callK_simple (number_ok t b 14 (by omega) (by omega)) ?_ rfl fun _ => ?_
  · simp -dsimp -implicitDefEqProofs only [push_cast, List.mem_append, List.mem_cons, List.mem_singleton, forall_eq_or_imp, forall_eq, ↓trAdd_f, ↓stOf_f, seval]
  simp -dsimp -implicitDefEqProofs only [hm14, h14, push_cast, ↓trAdd_f, ↓stOf_f, seval]
  refine ⟨by omega, ?_⟩
  refine callK_simple (seal_ok false false (b.take 14) (b.drop 18) key (by simp; omega) (by omega)) ?_ rfl fun _ => ?_
  · simp -dsimp -implicitDefEqProofs only [push_cast, List.mem_append, List.mem_cons, List.mem_singleton, forall_eq_or_imp, forall_eq, ↓trAdd_f, ↓stOf_f, seval]
  simp -dsimp -implicitDefEqProofs only [push_cast, ↓trAdd_f, ↓stOf_f, seval]
  refine ⟨hC _ (by kernel_rfl), hK _ ?_⟩
  cases hU : (numberS b 14 != ((sealS (b.take 14) (b.drop 18) key).toNat : Int)) with
  | true =>
    have e : readM b key = (img0, 242) := by rw [e2, if_pos (.inr (by simpa using hU))]
    try refine hK _ ?_
    repeat (first | refine awp_seq ?_ | refine awp_block ?_ | refine awp_skip ?_ | refine awp_scope ?_ | refine awp_label ?_)
    refine awp_cond (b := true) (by simp -dsimp -implicitDefEqProofs only [push_cast, ↓trAdd_f, ↓stOf_f, seval]) (fun h => ?_) (fun h => ?_)
    rotate_left
    · cases h
    try refine hK _ ?_
    repeat (first | refine awp_seq ?_ | refine awp_block ?_ | refine awp_skip ?_ | refine awp_scope ?_ | refine awp_label ?_)
    refine awp_region tabOk fun K hK => ?_
    simp -dsimp -implicitDefEqProofs only [push_cast, ↓trAdd_f, ↓stOf_f, seval]
    refine hK _ (awp_ret ?_)
    simp -dsimp -implicitDefEqProofs only [e, encImg, img0, push_cast, List.mem_append, List.mem_cons, List.mem_singleton, forall_eq_or_imp, forall_eq, ↓trAdd_f, ↓stOf_f, seval]
  | false =>
    have e : readM b key = (imgOf b, 0) := by rw [e2, if_neg (fun h => h.elim (fun h => by rw [hM] at h; cases h) (fun h => h (by simpa using hU)))]
    try refine hK _ ?_
    repeat (first | refine awp_seq ?_ | refine awp_block ?_ | refine awp_skip ?_ | refine awp_scope ?_ | refine awp_label ?_)
    refine awp_cond (b := false) (by simp -dsimp -implicitDefEqProofs only [push_cast, ↓trAdd_f, ↓stOf_f, seval]) (fun h => ?_) (fun h => ?_)
    · cases h
    refine awp_skip ?_
    try refine hK _ ?_
    repeat (first | refine awp_seq ?_ | refine awp_block ?_ | refine awp_skip ?_ | refine awp_scope ?_ | refine awp_label ?_)
    refine awp_region tabOk fun K hK => ?_
    simp -dsimp -implicitDefEqProofs only [push_cast, ↓trAdd_f, ↓stOf_f, seval]
    refine hK _ (awp_ret ?_)
    simp -dsimp -implicitDefEqProofs only [e, encImg, push_cast, List.mem_append, List.mem_cons, List.mem_singleton, forall_eq_or_imp, forall_eq, ↓trAdd_f, ↓stOf_f, seval]
end Go.Proofs.YtoifmpiikopelaaDoorFw

/-
  Walks: image.Blocks.
-/
namespace Go.Proofs.YtoifmpiikopelaaDoorFw
open Go Go.Proofs
set_option maxRecDepth 100000
set_option maxHeartbeats 4000000
set_option linter.unusedVariables false
set_option linter.unusedSimpArgs false

/-- A tight page. -/
def encT (p : List Int) : List PV := [.sl true 1 (p.map encB)]
theorem encT_fz (p : List Int) : ∀ c ∈ encT p, c.fz = true := by
  intro c hc
  simp only [encT, List.mem_singleton] at hc
  subst hc
  simp only [PV.fz, fzL_iff, List.all_eq_true]
/-- The k-th piece. -/
def pieceOf (b : List Int) (k : Nat) : List Int := (b.drop (64 * k)).take 64
def nBlocks (b : List Int) : Nat := (b.length + 63) / 64
def blocksOf (b : List Int) : List (List Int) := (List.range (nBlocks b)).map (pieceOf b)
theorem pieces_ok (b : List Int) : FnS Tryd.prog 63 [.sl false 1 (b.map encB)] [] (.fn (.func 88) [] [.ptr 0 0]) [(0, .box [.sl false 1 (b.map encB)])] := by
  refine fn_walkN tabOk Tryd.func63 rfl (by decide +kernel) Tryd.ntmps63 Tryd.results63 (by simp) fun B hB => ?_
  try refine hK _ ?_
  repeat (first | refine awp_seq ?_ | refine awp_block ?_ | refine awp_skip ?_ | refine awp_scope ?_ | refine awp_label ?_)
  refine awp_region tabOk fun K hK => ?_
  simp -dsimp -implicitDefEqProofs only [push_cast, ↓trAdd_f, ↓stOf_f, seval]
  refine hK _ ?_
  try refine hK _ ?_
  repeat (first | refine awp_seq ?_ | refine awp_block ?_ | refine awp_skip ?_ | refine awp_scope ?_ | refine awp_label ?_)
  refine awp_region tabOk fun K hK => ?_
  simp -dsimp -implicitDefEqProofs only [push_cast, ↓trAdd_f, ↓stOf_f, seval]
  refine hK _ (awp_ret ?_)
  simp -dsimp -implicitDefEqProofs only [bytes_okl, push_cast, List.mem_append, List.mem_cons, List.mem_singleton, forall_eq_or_imp, forall_eq, ↓trAdd_f, ↓stOf_f, seval]
theorem rowT_ren (l : List (List Int)) (r : Nat → Nat) : (l.map encT).map (renL r) = l.map encT := map_ren_fz _ (fz_map encT_fz l) r
theorem rowT_okl (l : List (List Int)) (S : Nat → Prop) : (∀ e ∈ l.map encT, okL S e) = True := all_ok_fz _ (fz_map encT_fz l) S
theorem rowT_fz (l : List (List Int)) : (∀ e ∈ l.map encT, ∀ c ∈ e, c.fz = true) = True := eq_true (fz_map encT_fz l)
def coB (b : List Int) (k : Nat) : CallO := { args := [.sl true 1 ((pieceOf b k).map encB)], st0 := [(0, .box [.own 1 1 0 k]), (1, .row 1 (((blocksOf b).take k).map encT))], res := .bool true, st1 := [(0, .box [.own 2 1 0 (k + 1)]), (2, .row 1 (((blocksOf b).take (k + 1)).map encT))], r := [0, 100] }
def pcS (l : Nat) (b : List Int) (k : Nat) : AS := { sl := [(0, .fn (.yield l) [] []), (1, .ptr 2 0)], st := [(0, .box [.own 100 1 0 k]), (100, .row 1 (((blocksOf b).take k).map encT)), (2, .box [.sl false 1 ((b.drop (64 * k)).map encB)])], nx := 200, n := 20 }
theorem pieces1_ok {l : Nat} {rec : Loop} {K : List (Option Addr)} (hKl : K.length = 1) (b : List Int) (hb : b.length ≤ 2 ^ 20) (hY : ∀ i : Fin (nBlocks b), YJ Tryd.prog l rec K none (coB b i.1)) :
    FnJ Tryd.prog l rec K none 88 [.fn (.yield l) [] [], .ptr 2 0] [(0, .box [.own 1 1 0 0]), (1, .row 1 []), (2, .box [.sl false 1 (b.map encB)])] (.tup [])
      [(0, .box [.own 3 1 0 (nBlocks b)]), (3, .row 1 ((blocksOf b).map encT)), (2, .box [.sl false 1 []])] := by
  refine fnJ_walk tabOk Tryd.func88 rfl (by decide +kernel) Tryd.ntmps88 Tryd.results88 (by simp) fun B hR hKn hB => ?_
  refine awpF_of (awp_weak ?_)
  refine awp_block ?_
  refine awp_for (fun k : Nat => pcS l b k) (fun k => k ≤ nBlocks b) (fun k => nBlocks b - k) 0 (Nat.zero_le _) ?_ fun k hk => ?_
  · simp only [pcS, List.take_zero, List.map_nil, Nat.mul_zero, List.drop_zero]
    refine le_intro hB [(100, 1)] (by simp) (fun b hb => by rcases b with _ | _ | _ | _ | _ | _ | b <;> first | rfl | (exfalso; revert hb; simp; done) | (exfalso; simp at hb; omega)) rfl ?_ ?_ rfl <;> simp -dsimp -implicitDefEqProofs only [bytes_ren, bytes_okl, push_cast, ↓trAdd_f, ↓stOf_f, seval]
  simp only [pcS]
  try refine hK _ ?_
  repeat (first | refine awp_seq ?_ | refine awp_block ?_ | refine awp_skip ?_ | refine awp_scope ?_ | refine awp_label ?_)
  refine awp_region tabOk fun K hK => ?_
  simp -dsimp -implicitDefEqProofs only [push_cast, ↓trAdd_f, ↓stOf_f, seval]
  try refine hK _ ?_
  repeat (first | refine awp_seq ?_ | refine awp_block ?_ | refine awp_skip ?_ | refine awp_scope ?_ | refine awp_label ?_)
  refine awp_cond (b := decide ((0 : Int) < ((b.drop (64 * k)).length : Int))) (by simp -dsimp -implicitDefEqProofs only [push_cast, ↓trAdd_f, ↓stOf_f, seval]) (fun h => ?_) (fun h => ?_)
  · have hpos : 0 < (b.drop (64 * k)).length := by have := of_decide_eq_true h; omega
    have hkn : k < nBlocks b := by
      unfold nBlocks
      simp only [List.length_drop] at hpos
      omega
    have hbl : (blocksOf b).length = nBlocks b := by simp [blocksOf]
    have hnext : (blocksOf b).take (k + 1) = (blocksOf b).take k ++ [pieceOf b k] := by
      rw [List.take_succ_eq_append_getElem (by omega)]
      simp [blocksOf]
    have hpc : pieceOf b k = (b.drop (64 * k)).take 64 := rfl
    have hdr : (b.drop (64 * k)).drop 64 = b.drop (64 * (k + 1)) := by rw [List.drop_drop]; congr 1
    have hql : (b.drop (64 * k)).length ≤ 2 ^ 20 := by simp; omega
    have hyk := hY ⟨k, hkn⟩
    refine awp_skip ?_
    generalize hq : b.drop (64 * k) = q at *
    try refine hK _ ?_
    repeat (first | refine awp_seq ?_ | refine awp_block ?_ | refine awp_skip ?_ | refine awp_scope ?_ | refine awp_label ?_)
    refine awp_region tabOk fun K hK => ?_
    simp -dsimp -implicitDefEqProofs only [push_cast, ↓trAdd_f, ↓stOf_f, seval]
    refine hK _ ?_
    refine awp_seq (awp_seq ?_)
    refine awp_region_y1 (l1 := [_, _, _, _, _]) tabOk hR hKn fun K hK => ?_
    simp -dsimp -implicitDefEqProofs only [push_cast, ↓trAdd_f, ↓stOf_f, seval]
    have hmt : (q.map encB).take (min (q.length : Int) 64).toNat = (pieceOf b k).map encB := by
      rw [hpc, ← List.map_take]
      by_cases h64 : q.length ≤ 64
      · rw [show (min (q.length : Int) 64).toNat = q.length by omega, List.take_length, List.take_of_length_le h64]
      · rw [show (min (q.length : Int) 64).toNat = 64 by omega]
    have hdm : (q.map encB).drop (min (q.length : Int) 64).toNat = (b.drop (64 * (k + 1))).map encB := by
      rw [← hdr, ← List.map_drop]
      by_cases h64 : q.length ≤ 64
      · rw [show (min (q.length : Int) 64).toNat = q.length by omega, List.drop_length, List.drop_of_length_le h64]
      · rw [show (min (q.length : Int) 64).toNat = 64 by omega]
    have hdl : (q.length : Int) - (min (q.length : Int) 64) = ((b.drop (64 * (k + 1))).length : Int) := by
      rw [← hdr, List.length_drop]; omega
    rw [hmt]
    refine ⟨⟨by omega, by omega, fun m h => h.symm⟩, by show (15 : Nat) < 20; decide, rfl, coB b k, hyk, by rw [hKl]; rfl, ?_, ?_⟩
    · simp only [coB]
      simp -dsimp -implicitDefEqProofs only [rowT_okl, rowT_ren, bytes_okl, push_cast, List.mem_append, List.mem_cons, List.mem_singleton, forall_eq_or_imp, forall_eq, ↓trAdd_f, ↓stOf_f, seval]
      rfl
    simp only [coB]
    simp -dsimp -implicitDefEqProofs only [rowT_ren, rowT_okl, bytes_ren, push_cast, ↓trAdd_f, ↓stOf_f, seval]
    refine hK _ ?_
    try refine hK _ ?_
    repeat (first | refine awp_seq ?_ | refine awp_block ?_ | refine awp_skip ?_ | refine awp_scope ?_ | refine awp_label ?_)
    refine awp_cond (b := false) (by simp -dsimp -implicitDefEqProofs only [push_cast, ↓trAdd_f, ↓stOf_f, seval]) (fun h => ?_) (fun h => ?_)
    · cases h
    refine awp_skip ?_
    have hml : (q.map encB).length = q.length := by simp
    have hdt2 : (((b.drop (64 * (k + 1))).map encB)).take (q.length - (min (q.length : Int) 64).toNat) = (b.drop (64 * (k + 1))).map encB := List.take_of_length_le (by
      have : (b.drop (64 * (k + 1))).length = q.length - (min (q.length : Int) 64).toNat := by omega
      rw [List.length_map]; omega)
    try refine hK _ ?_
    repeat (first | refine awp_seq ?_ | refine awp_block ?_ | refine awp_skip ?_ | refine awp_scope ?_ | refine awp_label ?_)
    refine awp_region tabOk fun K hK => ?_
    simp -dsimp -implicitDefEqProofs only [hdm, hdt2, push_cast, ↓trAdd_f, ↓stOf_f, seval]
    refine ⟨⟨by omega, by omega⟩, hK _ ⟨k + 1, hkn, by omega, ?_⟩⟩
    refine le_intro hB [(100, 296)] (by simp) (fun b hb => by rcases b with _ | _ | _ | _ | _ | _ | b <;> first | rfl | (exfalso; revert hb; simp; done) | (exfalso; simp at hb; omega)) rfl ?_ ?_ rfl <;> simp -dsimp -implicitDefEqProofs only [rowT_ren, rowT_okl, bytes_ren, bytes_okl, push_cast, ↓trAdd_f, ↓stOf_f, seval]
  · have hz : (b.drop (64 * k)).length = 0 := by have := of_decide_eq_false h; omega
    have hkn : k = nBlocks b := by
      unfold nBlocks at hk ⊢
      simp only [List.length_drop] at hz
      omega
    subst hkn
    have hbl : (blocksOf b).length = nBlocks b := by simp [blocksOf]
    have ht : (blocksOf b).take (nBlocks b) = blocksOf b := List.take_of_length_le (by omega)
    have hd0 : (b.drop (64 * nBlocks b)) = [] := List.eq_nil_of_length_eq_zero hz
    refine awp_exit rfl ?_
    refine ⟨{ sl := [], st := [(0, .box [.own 3 1 0 (nBlocks b)]), (3, .row 1 ((blocksOf b).map encT)), (2, .box [.sl false 1 []])], nx := 11, n := 20 }, ?_, ?_⟩
    · rw [ht, hd0]
      simp only [List.map_nil]
      refine le_intro hB [(3, 100)] (by simp) (fun b hb => by rcases b with _ | _ | _ | _ | _ | _ | b <;> first | rfl | (exfalso; revert hb; simp; done) | (exfalso; simp at hb; omega)) rfl ?_ ?_ rfl <;> simp -dsimp -implicitDefEqProofs only [rowT_ren, rowT_okl, bytes_ren, bytes_okl, push_cast, ↓trAdd_f, ↓stOf_f, seval]
    simp -dsimp -implicitDefEqProofs only [rowT_okl, push_cast, List.mem_append, List.mem_cons, List.mem_singleton, forall_eq_or_imp, forall_eq, ↓trAdd_f, ↓stOf_f, seval]
end Go.Proofs.YtoifmpiikopelaaDoorFw

/-
  Walks: image.Blocks itself.
-/
namespace Go.Proofs.YtoifmpiikopelaaDoorFw
open Go Go.Proofs
set_option maxRecDepth 100000
set_option maxHeartbeats 4000000
set_option linter.unusedVariables false
set_option linter.unusedSimpArgs false

theorem awpR_weak {P : Program} {B : Base} {l : Nat} {Q : Post} {s : AS} {c : Code} (h : AWpR P B l c { Q with n := fun s1 => ∃ s2, s1.le B s2 ∧ Q.n s2 } s) : AWpR P B l c Q s := fun a w hs => by
  refine wpIn_mono (h a w hs) ?_
  rintro e a' w' ⟨s1, h1, h2⟩
  cases e with
  | normal => obtain ⟨s2, h3, h4⟩ := h1; exact ⟨s2, h4, h3 a' w' h2⟩
  | _ => exact ⟨s1, h1, h2⟩
theorem blocks_ok (b : List Int) (hb : b.length ≤ 2 ^ 20) : FnS Tryd.prog 28 [.sl false 1 (b.map encB)] [] (.sl false 1 ((blocksOf b).map encT)) [] := by
  have hbl : (blocksOf b).length = nBlocks b := by simp [blocksOf]
  have hnb : nBlocks b ≤ 2 ^ 20 := by unfold nBlocks; omega
  refine fn_raw tabOk Tryd.func28 rfl (by decide +kernel) Tryd.ntmps28 Tryd.results28 (by simp) fun B hB hds => ?_
  refine raw_seq (N' := fun s1 => s1.le B { sl := [(0, .sl false 1 (b.map encB))], st := [], nx := 0, n := 13 }) ?_ (fun s1 hle a w hs1 => ?_)
  · try refine hK _ ?_
    repeat (first | refine awp_seq ?_ | refine awp_block ?_ | refine awp_skip ?_ | refine awp_scope ?_ | refine awp_label ?_)
    refine awp_region tabOk fun K hK => ?_
    simp -dsimp -implicitDefEqProofs only [push_cast, ↓trAdd_f, ↓stOf_f, seval]
    refine hK _ ?_
    refine le_intro hB [] (by simp) (fun b _ => rfl) rfl ?_ ?_ rfl <;> simp -dsimp -implicitDefEqProofs only [push_cast, ↓trAdd_f, ↓stOf_f, seval]
  refine raw_seq (s := { sl := [(0, .sl false 1 (b.map encB))], st := [], nx := 0, n := 13 }) (N' := fun s1 => s1.le B { sl := [(0, .sl false 1 (b.map encB)), (3, .ptr 100 0)], st := [(100, .box [.own 102 1 0 0]), (102, .row 1 [])], nx := 200, n := 13 }) ?_ (fun s1 hle a w hs1 => ?_) a w (hle a w hs1)
  · try refine hK _ ?_
    repeat (first | refine awp_seq ?_ | refine awp_block ?_ | refine awp_skip ?_ | refine awp_scope ?_ | refine awp_label ?_)
    refine awp_region tabOk fun K hK => ?_
    simp -dsimp -implicitDefEqProofs only [push_cast, ↓trAdd_f, ↓stOf_f, seval]
    refine hK _ (AS.le_trans (le_nil1 _ 1) ?_)
    simp -dsimp -implicitDefEqProofs only [ins, push_cast]
    refine le_intro hB [(100, 0), (102, 8)] (by simp) (fun b hb => absurd hb (Nat.not_lt_zero b)) rfl ?_ ?_ rfl <;> simp -dsimp -implicitDefEqProofs only [push_cast, ↓trAdd_f, ↓stOf_f, seval]
  refine raw_seq2 (s := { sl := [(0, .sl false 1 (b.map encB)), (3, .ptr 100 0)], st := [(100, .box [.own 102 1 0 0]), (102, .row 1 [])], nx := 200, n := 13 }) (N' := fun s1 => s1.le B { sl := [(3, .ptr 100 0), (6, .fn (.func 88) [] [.ptr 101 0])], st := [(100, .box [.own 102 1 0 0]), (102, .row 1 []), (101, .box [.sl false 1 (b.map encB)])], nx := 200, n := 13 }) ?_ (fun s1 hle a w hs1 => ?_) a w (hle a w hs1)
  · try refine hK _ ?_
    repeat (first | refine awp_seq ?_ | refine awp_block ?_ | refine awp_skip ?_ | refine awp_scope ?_ | refine awp_label ?_)
    refine awp_region tabOk fun K hK => ?_
    simp -dsimp -implicitDefEqProofs only [push_cast, ↓trAdd_f, ↓stOf_f, seval]
    refine ⟨63, [], [], { args := [.sl false 1 (b.map encB)], st0 := [], res := .fn (.func 88) [] [.ptr 0 0], st1 := [(0, .box [.sl false 1 (b.map encB)])], r := [] }, rfl, .inl (pieces_ok b), ?_, ?_⟩
    · simp -dsimp -implicitDefEqProofs only [bytes_okl, bytes_ren, push_cast, List.mem_append, List.mem_cons, List.mem_singleton, forall_eq_or_imp, forall_eq, ↓trAdd_f, ↓stOf_f, seval]
      rfl
    simp -dsimp -implicitDefEqProofs only [bytes_ren, push_cast, ↓trAdd_f, ↓stOf_f, seval]
    refine hK _ ?_
    refine le_intro hB [(101, 208)] (by simp) (fun b hb => absurd hb (Nat.not_lt_zero b)) rfl ?_ ?_ rfl <;> simp -dsimp -implicitDefEqProofs only [bytes_ren, bytes_okl, push_cast, ↓trAdd_f, ↓stOf_f, seval]
  refine range_wp1 (ι := Fin (nBlocks b)) (co := fun i => coB b i.1) (x0 := fun i => .sl true 1 ((pieceOf b i.1).map encB)) (jmp := fun _ => none) (caps := [(3, 0, 0)]) (r := [100, 102, 101]) (kc := 1) (jump := none) (n0 := 0)
    (cg := fun l => { args := [.fn (.yield l) [] [], .ptr 2 0], st0 := [(0, .box [.own 1 1 0 0]), (1, .row 1 []), (2, .box [.sl false 1 (b.map encB)])], res := .tup [], st1 := [(0, .box [.own 3 1 0 (nBlocks b)]), (3, .row 1 ((blocksOf b).map encT)), (2, .box [.sl false 1 []])], r := [100, 102, 101] })
    (s := { sl := [(3, .ptr 100 0), (6, .fn (.func 88) [] [.ptr 101 0])], st := [(100, .box [.own 102 1 0 0]), (102, .row 1 []), (101, .box [.sl false 1 (b.map encB)])], nx := 200, n := 13 }) (cap := [.ptr 101 0]) (gf := 88)
    hB hds rfl (by show (7 : Nat) < 13; decide) (by decide) (fun x hx => by simp at hx; subst hx; exact ⟨by decide, by decide, rfl⟩) (fun i => ⟨rfl, rfl⟩) (fun l i B' hB' => ?_) (fun l rec K hKl hY => pieces1_ok hKl b hb hY) (fun l => rfl) (fun l => ?_) (fun l B' hB' => ?_) a w (hle a w hs1)
  · obtain ⟨i, hi⟩ := i
    have hnext : ((blocksOf b).take i).map encT ++ [[PV.sl true 1 ((pieceOf b i).map encB)]] = ((blocksOf b).take (i + 1)).map encT := by
      rw [List.take_succ_eq_append_getElem (by omega), List.map_append]
      simp [blocksOf, encT]
    have htl : (((blocksOf b).take i).map encT).length = i := by simp; omega
    have htt : (((blocksOf b).take i).map encT).take i = ((blocksOf b).take i).map encT := List.take_of_length_le (by omega)
    simp only [coB, roundS1, List.map_cons, List.map_nil, endAt] at *
    refine awpR_region tabOk rfl fun K hK => ?_
    simp -dsimp -implicitDefEqProofs only [push_cast, ↓trAdd_f, ↓stOf_f, seval]
    refine hK _ (fun B1 hB1 => awpR_block (awpR_weak (awpR_region tabOk rfl fun K hK => ?_)))
    simp -dsimp -implicitDefEqProofs only [hnext, htl, htt, push_cast, ↓trAdd_f, ↓stOf_f, seval]
    refine ⟨⟨by omega, by omega⟩, hK _ ⟨{ sl := [], st := [(0, .box [.own 2 1 0 (i + 1)]), (2, .row 1 (((blocksOf b).take (i + 1)).map encT))], nx := 10, n := 13 }, ?_, ?_⟩⟩
    · refine le_intro hB1 [(2, 34)] (by simp) (fun b hb => by rcases b with _ | _ | b <;> first | rfl | (exfalso; simp at hb; omega)) rfl ?_ ?_ rfl <;> simp -dsimp -implicitDefEqProofs only [rowT_ren, rowT_okl, push_cast, ↓trAdd_f, ↓stOf_f, seval]
    simp -dsimp -implicitDefEqProofs only [rowT_okl, push_cast, List.mem_append, List.mem_cons, List.mem_singleton, forall_eq_or_imp, forall_eq, ↓trAdd_f, ↓stOf_f, seval]
  · simp -dsimp -implicitDefEqProofs only [bytes_okl, bytes_ren, rowT_okl, rowT_ren, push_cast, List.mem_append, List.mem_cons, List.mem_singleton, forall_eq_or_imp, forall_eq, ↓trAdd_f, ↓stOf_f, seval]
    rfl
  · unfold afterK
    simp only []
    simp -dsimp -implicitDefEqProofs only [bytes_ren, rowT_ren, rowT_okl, push_cast, ↓trAdd_f, ↓stOf_f, seval]
    try refine hK _ ?_
    repeat (first | refine awp_seq ?_ | refine awp_block ?_ | refine awp_skip ?_ | refine awp_scope ?_ | refine awp_label ?_)
    refine awp_region tabOk fun K hK => ?_
    simp -dsimp -implicitDefEqProofs only [push_cast, ↓trAdd_f, ↓stOf_f, seval]
    have htA : ((blocksOf b).map encT).take (nBlocks b) = (blocksOf b).map encT := List.take_of_length_le (by simp; omega)
    have hlA : ((blocksOf b).map encT).length = nBlocks b := by simp [hbl]
    have hzA := rowT_fz (blocksOf b)
    refine hK _ (awp_ret ?_)
    simp -dsimp -implicitDefEqProofs only [htA, hlA, hzA, push_cast, List.mem_append, List.mem_cons, List.mem_singleton, forall_eq_or_imp, forall_eq, ↓trAdd_f, ↓stOf_f, seval]
end Go.Proofs.YtoifmpiikopelaaDoorFw

/-
  Walks: slot.of, of$1 in slot.Bytes.
-/
namespace Go.Proofs.YtoifmpiikopelaaDoorFw
open Go Go.Proofs
set_option maxRecDepth 100000
set_option maxHeartbeats 4000000
set_option linter.unusedVariables false
set_option linter.unusedSimpArgs false

theorem of_ok (s : Int) : FnS Tryd.prog 86 [.int .i64 s] [] (.fn (.func 94) [] [.ptr 0 0]) [(0, .box [.int .i64 s])] := by
  refine fn_walkN tabOk Tryd.func86 rfl (by decide +kernel) Tryd.ntmps86 Tryd.results86 (by simp) fun B hB => ?_
  try refine hK _ ?_
  repeat (first | refine awp_seq ?_ | refine awp_block ?_ | refine awp_skip ?_ | refine awp_scope ?_ | refine awp_label ?_)
  refine awp_region tabOk fun K hK => ?_
  simp -dsimp -implicitDefEqProofs only [push_cast, ↓trAdd_f, ↓stOf_f, seval]
  refine hK _ ?_
  try refine hK _ ?_
  repeat (first | refine awp_seq ?_ | refine awp_block ?_ | refine awp_skip ?_ | refine awp_scope ?_ | refine awp_label ?_)
  refine awp_region tabOk fun K hK => ?_
  simp -dsimp -implicitDefEqProofs only [push_cast, ↓trAdd_f, ↓stOf_f, seval]
  refine hK _ (awp_ret ?_)
  simp -dsimp -implicitDefEqProofs only [push_cast, List.mem_append, List.mem_cons, List.mem_singleton, forall_eq_or_imp, forall_eq, ↓trAdd_f, ↓stOf_f, seval]
/-- The first k pages of a slot, one behind the other. -/
def joinP (f : Flash) (s k : Nat) : List Int := ((f.pages.drop (2 + 34 * s)).take k).flatten
/-- How many rounds Bytes makes. -/
def nRounds (n : Nat) : Nat := (n + 63) / 64
def byR (f : Flash) (n s k : Nat) (id : Nat) : List (Nat × Blk) := [(0, .box (encFlash f)), (1, .box [.int .i64 n]), (2, .box [.own id 1 0 (64 * k)]), (id, .row 1 ((joinP f s k).map encB))]
def coY (f : Flash) (n s k : Nat) : CallO := { args := [.int .i64 (2 + 34 * (s : Int) + k)], st0 := byR f n s k 3, res := .bool (k < nRounds n : Bool), st1 := if k < nRounds n then byR f n s (k + 1) 4 else byR f n s k 3, r := [0, 1, 2, 100] }
def ofS (l : Nat) (f : Flash) (n s k : Nat) : AS := { sl := [(0, .fn (.yield l) [] []), (3, .int .i64 (2 + 34 * (s : Int))), (4, .int .i64 (2 + 34 * (s : Int) + k))], st := byR f n s k 100 ++ [(4, .box [.int .i64 s])], nx := 200, n := 19 }
theorem ofB_ok {l : Nat} {rec : Loop} {K : List (Option Addr)} (hKl : K.length = 3) (f : Flash) (n s : Nat) (hs : s ≤ 1) (hn : nRounds n < 34) (hY : ∀ i, i ≤ nRounds n → YJ Tryd.prog l rec K (if i < nRounds n then none else some (.exit 1)) (coY f n s i)) :
    FnJ Tryd.prog l rec K (some (.exit 1)) 94 [.fn (.yield l) [] [], .ptr 4 0] (byR f n s 0 3 ++ [(4, .box [.int .i64 s])]) (.tup [])
      [(0, .box (encFlash f)), (1, .box [.int .i64 n]), (2, .box [.own 5 1 0 (64 * nRounds n)]), (5, .row 1 ((joinP f s (nRounds n)).map encB))] := by
  refine fnJ_walk tabOk Tryd.func94 rfl (by decide +kernel) Tryd.ntmps94 Tryd.results94 (by simp) fun B hR hKn hB => ?_
  have hB' : Lent B 5 := hB
  clear hB
  have hB := hB'
  simp only [byR, List.cons_append, List.nil_append]
  have w1 : IntKind.i64.wrap (34 * (s : Int)) = 34 * (s : Int) := wrap_i64 (by omega) (by omega)
  have w2 : IntKind.i64.wrap (2 + 34 * (s : Int)) = 2 + 34 * (s : Int) := wrap_i64 (by omega) (by omega)
  refine awpF_seq (awpF_of (awp_region tabOk fun K hK => ?_))
  simp -dsimp -implicitDefEqProofs only [w1, w2, push_cast, ↓trAdd_f, ↓stOf_f, seval]
  refine hK _ (awpF_seq (awpF_of (awp_region tabOk fun K hK => ?_)))
  simp -dsimp -implicitDefEqProofs only [push_cast, ↓trAdd_f, ↓stOf_f, seval]
  refine hK _ (awpF_block ?_)
  refine awpF_loop (fun k : Nat => ofS l f n s k) (fun k => k ≤ nRounds n) (fun k => nRounds n - k) 0 (Nat.zero_le _) ?_ fun k hk => ?_
  · simp only [ofS, byR, List.cons_append, List.nil_append]
    refine le_intro hB [(100, 3)] (by simp) (fun b hb => by rcases b with _ | _ | _ | _ | _ | _ | b <;> first | rfl | (exfalso; revert hb; simp; done) | (exfalso; simp at hb; omega)) rfl ?_ ?_ rfl <;> simp -dsimp -implicitDefEqProofs only [bytes_ren, bytes_okl, encFlash, Nat.mul_zero, Int.add_zero, push_cast, ↓trAdd_f, ↓stOf_f, seval]
  simp only [ofS, byR, List.cons_append, List.nil_append]
  have w3 : IntKind.i64.wrap (2 + 34 * (s : Int) + 34) = 2 + 34 * (s : Int) + 34 := wrap_i64 (by omega) (by omega)
  have d1 : decide (2 + 34 * (s : Int) + (k : Int) < 2 + 34 * (s : Int) + 34) = true := by simp; omega
  refine awpF_seq (awpF_seq (awpF_of (awp_region tabOk fun K hK => ?_)))
  simp -dsimp -implicitDefEqProofs only [w3, d1, push_cast, ↓trAdd_f, ↓stOf_f, seval]
  refine hK _ (awpF_cond (b := true) (by simp -dsimp -implicitDefEqProofs only [push_cast, ↓trAdd_f, ↓stOf_f, seval]) (fun h => ?_) (fun h => by cases h))
  refine awpF_of (awp_skip ?_)
  refine awpF_seq (awpF_block (awpF_seq ?_))
  by_cases hlt : k < nRounds n
  · have hyk := hY k hk
    rw [if_pos hlt] at hyk
    refine awpF_of ?_
    refine awp_region_y1 (l1 := [_, _]) tabOk hR hKn fun K hK => ?_
    simp -dsimp -implicitDefEqProofs only [push_cast, ↓trAdd_f, ↓stOf_f, seval]
    have hres : (k < nRounds n : Bool) = true := by simpa using hlt
    refine ⟨by show (17 : Nat) < 19; decide, rfl, coY f n s k, hyk, by rw [hKl]; rfl, ?_, ?_⟩
    · simp only [coY, byR, hres, if_pos hlt]
      simp -dsimp -implicitDefEqProofs only [bytes_okl, bytes_ren, encFlash, push_cast, List.mem_append, List.mem_cons, List.mem_singleton, forall_eq_or_imp, forall_eq, ↓trAdd_f, ↓stOf_f, seval]
      all_goals (try rfl)
    simp only [coY, byR, hres, if_pos hlt]
    simp -dsimp -implicitDefEqProofs only [bytes_ren, bytes_okl, encFlash, push_cast, ↓trAdd_f, ↓stOf_f, seval]
    refine hK _ (awpF_of ?_)
    try refine hK _ ?_
    repeat (first | refine awp_seq ?_ | refine awp_block ?_ | refine awp_skip ?_ | refine awp_scope ?_ | refine awp_label ?_)
    refine awp_cond (b := false) (by simp -dsimp -implicitDefEqProofs only [push_cast, ↓trAdd_f, ↓stOf_f, seval]) (fun h => ?_) (fun h => ?_)
    · cases h
    refine awp_skip (awpF_of ?_)
    have w4 : IntKind.i64.wrap (2 + 34 * (s : Int) + (k : Int) + 1) = 2 + 34 * (s : Int) + (k : Int) + 1 := wrap_i64 (by omega) (by omega)
    try refine hK _ ?_
    repeat (first | refine awp_seq ?_ | refine awp_block ?_ | refine awp_skip ?_ | refine awp_scope ?_ | refine awp_label ?_)
    refine awp_region tabOk fun K hK => ?_
    simp -dsimp -implicitDefEqProofs only [w4, push_cast, ↓trAdd_f, ↓stOf_f, seval]
    refine hK _ ⟨k + 1, ?_, hlt, by omega⟩
    have hi : (2 + 34 * (s : Int) + (k : Int) + 1) = 2 + 34 * (s : Int) + ((k + 1 : Nat) : Int) := by omega
    rw [hi]
    refine le_intro hB [(100, 248)] (by simp) (fun b hb => by rcases b with _ | _ | _ | _ | _ | _ | b <;> first | rfl | (exfalso; revert hb; simp; done) | (exfalso; simp at hb; omega)) rfl ?_ ?_ rfl <;> simp -dsimp -implicitDefEqProofs only [bytes_ren, bytes_okl, encFlash, push_cast, ↓trAdd_f, ↓stOf_f, seval]
  · have hke : k = nRounds n := by omega
    subst hke
    have hyk := hY _ hk
    rw [if_neg hlt] at hyk
    refine awpF_region_yJ (l1 := [_, _]) tabOk hR hKn fun K hK => ?_
    simp -dsimp -implicitDefEqProofs only [push_cast, ↓trAdd_f, ↓stOf_f, seval]
    have hres : (nRounds n < nRounds n : Bool) = false := by simp
    refine ⟨by show (17 : Nat) < 19; decide, rfl, coY f n s (nRounds n), hyk, by rw [hKl]; rfl, ?_, ?_⟩
    · simp only [coY, byR, hres, if_neg hlt]
      simp -dsimp -implicitDefEqProofs only [bytes_okl, bytes_ren, encFlash, push_cast, List.mem_append, List.mem_cons, List.mem_singleton, forall_eq_or_imp, forall_eq, ↓trAdd_f, ↓stOf_f, seval]
      all_goals (try rfl)
    simp only [coY, byR, hres, if_neg hlt]
    simp -dsimp -implicitDefEqProofs only [bytes_ren, bytes_okl, encFlash, push_cast, ↓trAdd_f, ↓stOf_f, seval]
    refine hK _ ?_
    try refine hK _ ?_
    repeat (first | refine awp_seq ?_ | refine awp_block ?_ | refine awp_skip ?_ | refine awp_scope ?_ | refine awp_label ?_)
    refine awp_cond (b := true) (by simp -dsimp -implicitDefEqProofs only [push_cast, ↓trAdd_f, ↓stOf_f, seval]) (fun h => ?_) (fun h => ?_)
    rotate_left
    · cases h
    have hB : Lent (pokeB B l (Obj.loop (recJ rec (some (Code.exit 1))))) 5 := hB'
    refine awp_le (s' := { sl := [], st := [(0, .box (encFlash f)), (1, .box [.int .i64 n]), (2, .box [.own 5 1 0 (64 * nRounds n)]), (5, .row 1 ((joinP f s (nRounds n)).map encB))], nx := 13, n := 19 }) ?_ (awp_ret ?_)
    · refine le_intro hB [(5, 100)] (by simp) (fun b hb => by rcases b with _ | _ | _ | _ | _ | _ | b <;> first | rfl | (exfalso; revert hb; simp; done) | (exfalso; simp at hb; omega)) rfl ?_ ?_ rfl <;> simp -dsimp -implicitDefEqProofs only [bytes_ren, bytes_okl, encFlash, push_cast, ↓trAdd_f, ↓stOf_f, seval]
    simp -dsimp -implicitDefEqProofs only [bytes_okl, encFlash, push_cast, List.mem_append, List.mem_cons, List.mem_singleton, forall_eq_or_imp, forall_eq, ↓trAdd_f, ↓stOf_f, seval]
end Go.Proofs.YtoifmpiikopelaaDoorFw

/-
  Walks: of$1 in slot.Bytes, where all rounds are made.
-/
namespace Go.Proofs.YtoifmpiikopelaaDoorFw
open Go Go.Proofs
set_option maxRecDepth 100000
set_option maxHeartbeats 4000000
set_option linter.unusedVariables false
set_option linter.unusedSimpArgs false

theorem ofA_ok {l : Nat} {rec : Loop} {K : List (Option Addr)} (hKl : K.length = 3) (f : Flash) (n s : Nat) (hs : s ≤ 1) (hn : nRounds n = 34) (hY : ∀ i, i < 34 → YJ Tryd.prog l rec K none (coY f n s i)) :
    FnJ Tryd.prog l rec K none 94 [.fn (.yield l) [] [], .ptr 4 0] (byR f n s 0 3 ++ [(4, .box [.int .i64 s])]) (.tup [])
      [(0, .box (encFlash f)), (1, .box [.int .i64 n]), (2, .box [.own 5 1 0 (64 * 34)]), (5, .row 1 ((joinP f s 34).map encB))] := by
  refine fnJ_walk tabOk Tryd.func94 rfl (by decide +kernel) Tryd.ntmps94 Tryd.results94 (by simp) fun B hR hKn hB => ?_
  have hB' : Lent B 5 := hB
  clear hB
  have hB := hB'
  refine awpF_of (awp_weak ?_)
  simp only [byR, List.cons_append, List.nil_append]
  have w1 : IntKind.i64.wrap (34 * (s : Int)) = 34 * (s : Int) := wrap_i64 (by omega) (by omega)
  have w2 : IntKind.i64.wrap (2 + 34 * (s : Int)) = 2 + 34 * (s : Int) := wrap_i64 (by omega) (by omega)
  try refine hK _ ?_
  repeat (first | refine awp_seq ?_ | refine awp_block ?_ | refine awp_skip ?_ | refine awp_scope ?_ | refine awp_label ?_)
  refine awp_region tabOk fun K hK => ?_
  simp -dsimp -implicitDefEqProofs only [w1, w2, push_cast, ↓trAdd_f, ↓stOf_f, seval]
  try refine hK _ ?_
  repeat (first | refine awp_seq ?_ | refine awp_block ?_ | refine awp_skip ?_ | refine awp_scope ?_ | refine awp_label ?_)
  refine awp_region tabOk fun K hK => ?_
  simp -dsimp -implicitDefEqProofs only [push_cast, ↓trAdd_f, ↓stOf_f, seval]
  refine hK _ (awp_block ?_)
  refine awp_for (fun k : Nat => ofS l f n s k) (fun k => k ≤ 34) (fun k => 34 - k) 0 (Nat.zero_le _) ?_ fun k hk => ?_
  · simp only [ofS, byR, List.cons_append, List.nil_append]
    refine le_intro hB [(100, 3)] (by simp) (fun b hb => by rcases b with _ | _ | _ | _ | _ | _ | b <;> first | rfl | (exfalso; revert hb; simp; done) | (exfalso; simp at hb; omega)) rfl ?_ ?_ rfl <;> simp -dsimp -implicitDefEqProofs only [bytes_ren, bytes_okl, encFlash, Nat.mul_zero, Int.add_zero, push_cast, ↓trAdd_f, ↓stOf_f, seval]
  simp only [ofS, byR, List.cons_append, List.nil_append]
  have w3 : IntKind.i64.wrap (2 + 34 * (s : Int) + 34) = 2 + 34 * (s : Int) + 34 := wrap_i64 (by omega) (by omega)
  by_cases hlt : k < 34
  · have d1 : decide (2 + 34 * (s : Int) + (k : Int) < 2 + 34 * (s : Int) + 34) = true := by simp; omega
    try refine hK _ ?_
    repeat (first | refine awp_seq ?_ | refine awp_block ?_ | refine awp_skip ?_ | refine awp_scope ?_ | refine awp_label ?_)
    refine awp_region tabOk fun K hK => ?_
    simp -dsimp -implicitDefEqProofs only [w3, d1, push_cast, ↓trAdd_f, ↓stOf_f, seval]
    try refine hK _ ?_
    repeat (first | refine awp_seq ?_ | refine awp_block ?_ | refine awp_skip ?_ | refine awp_scope ?_ | refine awp_label ?_)
    refine awp_cond (b := true) (by simp -dsimp -implicitDefEqProofs only [push_cast, ↓trAdd_f, ↓stOf_f, seval]) (fun h => ?_) (fun h => ?_)
    rotate_left
    · cases h
    refine awp_skip ?_
    refine awp_seq (awp_block (awp_seq ?_))
    have hyk := hY k hlt
    refine awp_region_y1 (l1 := [_, _]) tabOk hR hKn fun K hK => ?_
    simp -dsimp -implicitDefEqProofs only [push_cast, ↓trAdd_f, ↓stOf_f, seval]
    have hres : (k < nRounds n : Bool) = true := by rw [hn]; simpa using hlt
    have hlt' : k < nRounds n := by omega
    refine ⟨by show (17 : Nat) < 19; decide, rfl, coY f n s k, hyk, by rw [hKl]; rfl, ?_, ?_⟩
    · simp only [coY, byR, hres, if_pos hlt']
      simp -dsimp -implicitDefEqProofs only [bytes_okl, bytes_ren, encFlash, push_cast, List.mem_append, List.mem_cons, List.mem_singleton, forall_eq_or_imp, forall_eq, ↓trAdd_f, ↓stOf_f, seval]
      all_goals (try rfl)
    simp only [coY, byR, hres, if_pos hlt']
    simp -dsimp -implicitDefEqProofs only [bytes_ren, bytes_okl, encFlash, push_cast, ↓trAdd_f, ↓stOf_f, seval]
    refine hK _ ?_
    try refine hK _ ?_
    repeat (first | refine awp_seq ?_ | refine awp_block ?_ | refine awp_skip ?_ | refine awp_scope ?_ | refine awp_label ?_)
    refine awp_cond (b := false) (by simp -dsimp -implicitDefEqProofs only [push_cast, ↓trAdd_f, ↓stOf_f, seval]) (fun h => ?_) (fun h => ?_)
    · cases h
    refine awp_skip ?_
    have w4 : IntKind.i64.wrap (2 + 34 * (s : Int) + (k : Int) + 1) = 2 + 34 * (s : Int) + (k : Int) + 1 := wrap_i64 (by omega) (by omega)
    try refine hK _ ?_
    repeat (first | refine awp_seq ?_ | refine awp_block ?_ | refine awp_skip ?_ | refine awp_scope ?_ | refine awp_label ?_)
    refine awp_region tabOk fun K hK => ?_
    simp -dsimp -implicitDefEqProofs only [w4, push_cast, ↓trAdd_f, ↓stOf_f, seval]
    refine hK _ ⟨k + 1, hlt, by omega, ?_⟩
    have hi : (2 + 34 * (s : Int) + (k : Int) + 1) = 2 + 34 * (s : Int) + ((k + 1 : Nat) : Int) := by omega
    rw [hi]
    refine le_intro hB [(100, 248)] (by simp) (fun b hb => by rcases b with _ | _ | _ | _ | _ | _ | b <;> first | rfl | (exfalso; revert hb; simp; done) | (exfalso; simp at hb; omega)) rfl ?_ ?_ rfl <;> simp -dsimp -implicitDefEqProofs only [bytes_ren, bytes_okl, encFlash, push_cast, ↓trAdd_f, ↓stOf_f, seval]
  · have hke : k = 34 := by omega
    subst hke
    have d1 : decide (2 + 34 * (s : Int) + 34 < 2 + 34 * (s : Int) + 34) = false := by simp
    try refine hK _ ?_
    repeat (first | refine awp_seq ?_ | refine awp_block ?_ | refine awp_skip ?_ | refine awp_scope ?_ | refine awp_label ?_)
    refine awp_region tabOk fun K hK => ?_
    simp -dsimp -implicitDefEqProofs only [w3, d1, push_cast, ↓trAdd_f, ↓stOf_f, seval]
    try refine hK _ ?_
    repeat (first | refine awp_seq ?_ | refine awp_block ?_ | refine awp_skip ?_ | refine awp_scope ?_ | refine awp_label ?_)
    refine awp_cond (b := false) (by simp -dsimp -implicitDefEqProofs only [push_cast, ↓trAdd_f, ↓stOf_f, seval]) (fun h => ?_) (fun h => ?_)
    · cases h
    refine awp_exit rfl ?_
    refine ⟨{ sl := [], st := [(0, .box (encFlash f)), (1, .box [.int .i64 n]), (2, .box [.own 5 1 0 2176]), (5, .row 1 ((joinP f s 34).map encB))], nx := 13, n := 19 }, ?_, ?_⟩
    · refine le_intro hB [(5, 100)] (by simp) (fun b hb => by rcases b with _ | _ | _ | _ | _ | _ | b <;> first | rfl | (exfalso; revert hb; simp; done) | (exfalso; simp at hb; omega)) rfl ?_ ?_ rfl <;> simp -dsimp -implicitDefEqProofs only [bytes_ren, bytes_okl, encFlash, push_cast, ↓trAdd_f, ↓stOf_f, seval]
    simp -dsimp -implicitDefEqProofs only [bytes_okl, encFlash, push_cast, List.mem_append, List.mem_cons, List.mem_singleton, forall_eq_or_imp, forall_eq, ↓trAdd_f, ↓stOf_f, seval]
end Go.Proofs.YtoifmpiikopelaaDoorFw

/-
  Walks: slot.Bytes.
-/
namespace Go.Proofs.YtoifmpiikopelaaDoorFw
open Go Go.Proofs
set_option maxRecDepth 100000
set_option maxHeartbeats 4000000
set_option linter.unusedVariables false
set_option linter.unusedSimpArgs false

/-- What Bytes tells of a slot, 0 or 1. -/
def bytesS (f : Flash) (s n : Nat) : List Int × Int :=
  if f.down then ([], 250) else ((joinP f s (nRounds n)).take n, 0)
def endJ (n : Nat) : Option Code := if nRounds n < 34 then some (.exit 1) else none
def rndJ (n k : Nat) : Option Code := if k < nRounds n then none else some (.exit 1)
theorem afterK_of {P : Program} {B : Base} {id : Nat} {c3 : Code} {E : AS → Prop} {jump : Option Code} {s : AS} (h : AWp P B c3 { n := E, r := E } s) (hj : jump = none ∨ jump = some (.exit id)) : afterK P B id c3 E jump s := by
  rcases hj with rfl | rfl
  · exact h
  · exact ⟨rfl, h⟩
theorem joinP_succ (f : Flash) (s k : Nat) (hk : 2 + 34 * s + k < f.pages.length) : joinP f s (k + 1) = joinP f s k ++ f.pages[2 + 34 * s + k] := by
  unfold joinP
  rw [List.take_succ_eq_append_getElem (by rw [List.length_drop]; omega), List.flatten_append]
  simp
theorem joinP_len (f : Flash) (s : Nat) (h64 : ∀ p ∈ f.pages, p.length = 64) : ∀ k, 2 + 34 * s + k ≤ f.pages.length → (joinP f s k).length = 64 * k
  | 0, _ => by simp [joinP]
  | k + 1, h => by
    rw [joinP_succ f s k (by omega), List.length_append, joinP_len f s h64 k (by omega), h64 _ (List.getElem_mem _)]
    omega
theorem bytesS_ok (f : Flash) (s n : Nat) (hs : s ≤ 1) (hn : n ≤ 2176) (hl : f.pages.length = 70) (h64 : ∀ p ∈ f.pages, p.length = 64) :
    FnS Tryd.prog 55 [.agg (encFlash f), .int .i64 s, .int .i64 n] [] (.tup [.sl false 1 ((bytesS f s n).1.map encB), .int .i64 (bytesS f s n).2]) [] := by
  have hn0 : noneS (s : Int) = false := (noneS_iff s (by omega) (by omega)).2 (by omega)
  have hnr : nRounds n ≤ 34 := by unfold nRounds; omega
  refine fn_raw tabOk Tryd.func55 rfl (by decide +kernel) Tryd.ntmps55 Tryd.results55 (by simp) fun B hB hds => ?_
  refine raw_seq (N' := fun s1 => s1.le B { sl := [(1, .int .i64 s), (3, .ptr 100 0), (5, .ptr 101 0)], st := [(100, .box (encFlash f)), (101, .box [.int .i64 n])], nx := 200, n := 41 }) ?_ (fun s1 hle a w hs1 => ?_)
  · try refine hK _ ?_
    repeat (first | refine awp_seq ?_ | refine awp_block ?_ | refine awp_skip ?_ | refine awp_scope ?_ | refine awp_label ?_)
    refine awp_region tabOk fun K hK => ?_
    simp -dsimp -implicitDefEqProofs only [push_cast, ↓trAdd_f, ↓stOf_f, seval]
    refine hK _ ?_
    refine le_intro hB [(100, 0), (101, 8)] (by simp) (fun b hb => absurd hb (Nat.not_lt_zero b)) rfl ?_ ?_ rfl <;> simp -dsimp -implicitDefEqProofs only [encFlash, push_cast, ↓trAdd_f, ↓stOf_f, seval]
  refine raw_seq (s := { sl := [(1, .int .i64 s), (3, .ptr 100 0), (5, .ptr 101 0)], st := [(100, .box (encFlash f)), (101, .box [.int .i64 n])], nx := 200, n := 41 }) (N' := fun s1 => f.down = false ∧ s1.le B { sl := [(1, .int .i64 s), (3, .ptr 100 0), (5, .ptr 101 0)], st := [(100, .box (encFlash f)), (101, .box [.int .i64 n])], nx := 600, n := 41 }) ?_ (fun s1 hle1 a w hs1 => ?_) a w (hle a w hs1)
  · refine awp_block ?_
    try refine hK _ ?_
    repeat (first | refine awp_seq ?_ | refine awp_block ?_ | refine awp_skip ?_ | refine awp_scope ?_ | refine awp_label ?_)
    refine awp_region tabOk fun K hK => ?_
    simp -dsimp -implicitDefEqProofs only [push_cast, ↓trAdd_f, ↓stOf_f, seval]
    refine callK_simple (none_ok s) ?_ rfl fun _ => ?_
    · simp -dsimp -implicitDefEqProofs only [push_cast, List.mem_append, List.mem_cons, List.mem_singleton, forall_eq_or_imp, forall_eq, ↓trAdd_f, ↓stOf_f, seval]
    rw [hn0]
    have d1 : decide ((n : Int) < 0) = false := by simp
    have d2 : decide (2176 < (n : Int)) = false := by simp; omega
    simp -dsimp -implicitDefEqProofs only [d1, d2, push_cast, ↓trAdd_f, ↓stOf_f, seval]
    refine hK _ ?_
    try refine hK _ ?_
    repeat (first | refine awp_seq ?_ | refine awp_block ?_ | refine awp_skip ?_ | refine awp_scope ?_ | refine awp_label ?_)
    refine awp_cond (b := false) (by simp -dsimp -implicitDefEqProofs only [push_cast, ↓trAdd_f, ↓stOf_f, seval]) (fun h => ?_) (fun h => ?_)
    · cases h
    try refine hK _ ?_
    repeat (first | refine awp_seq ?_ | refine awp_block ?_ | refine awp_skip ?_ | refine awp_scope ?_ | refine awp_label ?_)
    refine awp_region tabOk fun K hK => ?_
    simp -dsimp -implicitDefEqProofs only [encFlash, push_cast, ↓trAdd_f, ↓stOf_f, seval]
    refine hK _ ?_
    try refine hK _ ?_
    repeat (first | refine awp_seq ?_ | refine awp_block ?_ | refine awp_skip ?_ | refine awp_scope ?_ | refine awp_label ?_)
    refine awp_cond (b := f.down) (by simp -dsimp -implicitDefEqProofs only [push_cast, ↓trAdd_f, ↓stOf_f, seval]) (fun h => ?_) (fun h => ?_)
    · have e : bytesS f s n = ([], 250) := by unfold bytesS; rw [if_pos h]
      try refine hK _ ?_
      repeat (first | refine awp_seq ?_ | refine awp_block ?_ | refine awp_skip ?_ | refine awp_scope ?_ | refine awp_label ?_)
      refine awp_region tabOk fun K hK => ?_
      simp -dsimp -implicitDefEqProofs only [push_cast, ↓trAdd_f, ↓stOf_f, seval]
      refine hK _ (awp_ret ?_)
      simp -dsimp -implicitDefEqProofs only [e, push_cast, List.mem_append, List.mem_cons, List.mem_singleton, forall_eq_or_imp, forall_eq, ↓trAdd_f, ↓stOf_f, seval]
    refine awp_skip ⟨h, ?_⟩
    refine le_intro hB [] (by simp) (fun b _ => rfl) rfl ?_ ?_ rfl <;> simp -dsimp -implicitDefEqProofs only [encFlash, push_cast, ↓trAdd_f, ↓stOf_f, seval]
  obtain ⟨hdn, hle1⟩ := hle1
  refine raw_seq (s := { sl := [(1, .int .i64 s), (3, .ptr 100 0), (5, .ptr 101 0)], st := [(100, .box (encFlash f)), (101, .box [.int .i64 n])], nx := 600, n := 41 }) (N' := fun s1 => s1.le B { sl := [(1, .int .i64 s), (3, .ptr 100 0), (5, .ptr 101 0), (8, .ptr 102 0)], st := [(100, .box (encFlash f)), (101, .box [.int .i64 n]), (102, .box [.own 103 1 0 0]), (103, .row 1 [])], nx := 700, n := 41 }) ?_ (fun s1 hle2 a w hs1 => ?_) a w (hle1 a w hs1)
  · try refine hK _ ?_
    repeat (first | refine awp_seq ?_ | refine awp_block ?_ | refine awp_skip ?_ | refine awp_scope ?_ | refine awp_label ?_)
    refine awp_region tabOk fun K hK => ?_
    simp -dsimp -implicitDefEqProofs only [push_cast, ↓trAdd_f, ↓stOf_f, seval]
    refine hK _ (AS.le_trans (le_nil1 _ 1) ?_)
    simp -dsimp -implicitDefEqProofs only [ins, push_cast]
    refine le_intro hB [(100, 100), (101, 101), (102, 600), (103, 608)] (by simp) (fun b hb => absurd hb (Nat.not_lt_zero b)) rfl ?_ ?_ rfl <;> simp -dsimp -implicitDefEqProofs only [encFlash, push_cast, ↓trAdd_f, ↓stOf_f, seval]
  refine raw_seq2 (s := { sl := [(1, .int .i64 s), (3, .ptr 100 0), (5, .ptr 101 0), (8, .ptr 102 0)], st := [(100, .box (encFlash f)), (101, .box [.int .i64 n]), (102, .box [.own 103 1 0 0]), (103, .row 1 [])], nx := 700, n := 41 }) (N' := fun s1 => s1.le B { sl := [(1, .int .i64 s), (3, .ptr 100 0), (5, .ptr 101 0), (8, .ptr 102 0), (25, .fn (.func 94) [] [.ptr 104 0])], st := [(100, .box (encFlash f)), (101, .box [.int .i64 n]), (102, .box [.own 103 1 0 0]), (103, .row 1 []), (104, .box [.int .i64 s])], nx := 800, n := 41 }) ?_ (fun s1 hle3 a w hs1 => ?_) a w (hle2 a w hs1)
  · try refine hK _ ?_
    repeat (first | refine awp_seq ?_ | refine awp_block ?_ | refine awp_skip ?_ | refine awp_scope ?_ | refine awp_label ?_)
    refine awp_region tabOk fun K hK => ?_
    simp -dsimp -implicitDefEqProofs only [push_cast, ↓trAdd_f, ↓stOf_f, seval]
    refine ⟨86, [], [], { args := [.int .i64 s], st0 := [], res := .fn (.func 94) [] [.ptr 0 0], st1 := [(0, .box [.int .i64 s])], r := [] }, rfl, .inl (of_ok s), ?_, ?_⟩
    · simp -dsimp -implicitDefEqProofs only [encFlash, push_cast, List.mem_append, List.mem_cons, List.mem_singleton, forall_eq_or_imp, forall_eq, ↓trAdd_f, ↓stOf_f, seval]
      rfl
    simp -dsimp -implicitDefEqProofs only [encFlash, push_cast, ↓trAdd_f, ↓stOf_f, seval]
    refine hK _ ?_
    refine le_intro hB [(100, 100), (101, 101), (102, 102), (103, 103), (104, 708)] (by simp) (fun b hb => absurd hb (Nat.not_lt_zero b)) rfl ?_ ?_ rfl <;> simp -dsimp -implicitDefEqProofs only [encFlash, push_cast, ↓trAdd_f, ↓stOf_f, seval]
  refine range_wp1 (ι := { i : Nat // i ≤ nRounds n ∧ i < 34 }) (co := fun i => coY f n s i.1) (x0 := fun i => .int .i64 (2 + 34 * (s : Int) + i.1)) (jmp := fun i => rndJ n i.1) (caps := [(3, 0, 0), (5, 1, 0), (8, 2, 0)]) (r := [100, 101, 102, 103, 104]) (kc := 3) (jump := endJ n) (n0 := 0)
    (cg := fun l => { args := [.fn (.yield l) [] [], .ptr 4 0], st0 := byR f n s 0 3 ++ [(4, .box [.int .i64 s])], res := .tup [], st1 := [(0, .box (encFlash f)), (1, .box [.int .i64 n]), (2, .box [.own 5 1 0 (64 * nRounds n)]), (5, .row 1 ((joinP f s (nRounds n)).map encB))], r := [100, 101, 102, 103, 104] })
    (s := { sl := [(1, .int .i64 s), (3, .ptr 100 0), (5, .ptr 101 0), (8, .ptr 102 0), (25, .fn (.func 94) [] [.ptr 104 0])], st := [(100, .box (encFlash f)), (101, .box [.int .i64 n]), (102, .box [.own 103 1 0 0]), (103, .row 1 []), (104, .box [.int .i64 s])], nx := 800, n := 41 }) (cap := [.ptr 104 0]) (gf := 94)
    hB hds rfl (by show (26 : Nat) < 41; decide) (by decide) (fun x hx => by simp at hx; rcases hx with rfl | rfl | rfl <;> exact ⟨by decide, by decide, rfl⟩) (fun i => ⟨rfl, ?_⟩) (fun l i B' hB' => ?_) (fun l rec K hKl hY => ?_) (fun l => rfl) (fun l => ?_) (fun l B' hB' => ?_) a w (hle3 a w hs1)
  · show PV.bool (decide (i.1 < nRounds n)) = .bool (rndJ n i.1).isNone
    unfold rndJ
    by_cases h : i.1 < nRounds n <;> simp [h]
  · obtain ⟨i, hi, hi34⟩ := i
    have hjl := joinP_len f s h64 i (by omega)
    have hjml : ((joinP f s i).map encB).length = 64 * i := by rw [List.length_map]; exact hjl
    have hjmt : ((joinP f s i).map encB).take (64 * i) = (joinP f s i).map encB := List.take_of_length_le (by omega)
    by_cases hlt : i < nRounds n
    · have hj : rndJ n i = none := by unfold rndJ; rw [if_pos hlt]
      have hd : decide ((n : Int) ≤ 64 * (i : Int)) = false := by
        simp only [decide_eq_false_iff_not]; unfold nRounds at hlt; omega
      have hk : 2 + 34 * s + i < f.pages.length := by omega
      have hjs := joinP_succ f s i hk
      have hp64 := h64 _ (List.getElem_mem hk)
      simp only [roundS1, coY, byR, List.map_cons, List.map_nil, hj, if_pos hlt, endAt, Option.isNone] at *
      refine awpR_region tabOk rfl fun K hK => ?_
      simp -dsimp -implicitDefEqProofs only [push_cast, ↓trAdd_f, ↓stOf_f, seval]
      refine hK _ (fun B1 hB1 => awpR_block (awpR_seq (awpR_seq (awpR_region tabOk rfl fun K hK => ?_))))
      simp -dsimp -implicitDefEqProofs only [hd, push_cast, ↓trAdd_f, ↓stOf_f, seval]
      refine hK _ (awpR_cond (b := false) (by simp -dsimp -implicitDefEqProofs only [push_cast, ↓trAdd_f, ↓stOf_f, seval]) (fun h => by cases h) fun _ => awpR_skip (awpR_weak ?_))
      refine awpR_draw tabOk (by kernel_rfl) rfl (by kernel_rfl) fun K hK C hC => ?_
      have hap : (joinP f s i).map encB ++ (f.pages[2 + 34 * s + i]).map encB = (joinP f s (i + 1)).map encB := by rw [hjs, List.map_append]
      have hidx : (2 + 34 * (s : Int) + (i : Int)).toNat = 2 + 34 * s + i := by omega
      have hg : (f.pages.map encP).getD (2 + 34 * (s : Int) + (i : Int)).toNat [] = [.sl false 1 ((f.pages[2 + 34 * s + i]).map encB)] := by
        rw [hidx, getD_map encP _ _ hk]; rfl
      simp -dsimp -implicitDefEqProofs only [encFlash, hg, hp64, hjl, hjml, hjmt, hap, push_cast, ↓trAdd_f, ↓stOf_f, seval]
      have h64k : 64 * i + 64 = 64 * (i + 1) := by omega
      refine ⟨⟨by omega, by omega⟩, ⟨by omega, by omega⟩, hC _ (by kernel_rfl), hK _ ⟨{ sl := [], st := [(0, .box (encFlash f)), (1, .box [.int .i64 n]), (2, .box [.own 4 1 0 (64 * (i + 1))]), (4, .row 1 ((joinP f s (i + 1)).map encB))], nx := 12, n := 41 }, ?_, ?_⟩⟩
      · rw [h64k]
        refine le_intro hB1 [(4, 92)] (by simp) (fun b hb => by rcases b with _ | _ | _ | _ | b <;> first | rfl | (exfalso; simp at hb; omega)) rfl ?_ ?_ rfl <;> simp -dsimp -implicitDefEqProofs only [bytes_ren, bytes_okl, encFlash, push_cast, ↓trAdd_f, ↓stOf_f, seval]
      simp -dsimp -implicitDefEqProofs only [bytes_okl, encFlash, push_cast, List.mem_append, List.mem_cons, List.mem_singleton, forall_eq_or_imp, forall_eq, ↓trAdd_f, ↓stOf_f, seval]
    · have hj : rndJ n i = some (.exit 1) := by unfold rndJ; rw [if_neg hlt]
      have hd : decide ((n : Int) ≤ 64 * (i : Int)) = true := by
        simp only [decide_eq_true_eq]; unfold nRounds at hlt; omega
      simp only [roundS1, coY, byR, List.map_cons, List.map_nil, hj, if_neg hlt, endAt, Option.isNone] at *
      refine awpR_region tabOk rfl fun K hK => ?_
      simp -dsimp -implicitDefEqProofs only [push_cast, ↓trAdd_f, ↓stOf_f, seval]
      refine hK _ (fun B1 hB1 => awpR_block (awpR_seq (awpR_seq (awpR_region tabOk rfl fun K hK => ?_))))
      simp -dsimp -implicitDefEqProofs only [hd, push_cast, ↓trAdd_f, ↓stOf_f, seval]
      refine hK _ (awpR_cond (b := true) (by simp -dsimp -implicitDefEqProofs only [push_cast, ↓trAdd_f, ↓stOf_f, seval]) (fun _ => awpR_exit rfl ?_) (fun h => by cases h))
      simp -dsimp -implicitDefEqProofs only [encFlash, bytes_okl, push_cast, List.mem_append, List.mem_cons, List.mem_singleton, forall_eq_or_imp, forall_eq, ↓trAdd_f, ↓stOf_f, seval]
  · by_cases h34 : nRounds n < 34
    · have hj : endJ n = some (.exit 1) := by unfold endJ; rw [if_pos h34]
      rw [hj]
      exact ofB_ok hKl f n s hs h34 fun i hi => hY ⟨i, hi, by omega⟩
    · have h34' : nRounds n = 34 := by omega
      have hj : endJ n = none := by unfold endJ; rw [if_neg h34]
      rw [hj, h34']
      exact ofA_ok hKl f n s hs h34' fun i hi => by
        have := hY ⟨i, by omega, hi⟩
        have e : rndJ n i = none := by unfold rndJ; rw [if_pos (by omega)]
        rwa [e] at this
  · simp only [byR, List.cons_append, List.nil_append]
    simp -dsimp -implicitDefEqProofs only [bytes_okl, bytes_ren, encFlash, push_cast, List.mem_append, List.mem_cons, List.mem_singleton, forall_eq_or_imp, forall_eq, ↓trAdd_f, ↓stOf_f, seval]
    exact ⟨rfl, rfl⟩
  · have hN := joinP_len f s h64 (nRounds n) (by omega)
    have hge : n ≤ 64 * nRounds n := by unfold nRounds; omega
    have hml : ((joinP f s (nRounds n)).map encB).length = 64 * nRounds n := by rw [List.length_map]; exact hN
    have e : bytesS f s n = ((joinP f s (nRounds n)).take n, 0) := by unfold bytesS; rw [if_neg (by simp [hdn])]
    refine afterK_of ?_ (by unfold endJ; by_cases h : nRounds n < 34 <;> simp [h])
    simp only [byR, List.cons_append, List.nil_append]
    simp -dsimp -implicitDefEqProofs only [bytes_ren, bytes_okl, encFlash, push_cast, ↓trAdd_f, ↓stOf_f, seval]
    try refine hK _ ?_
    repeat (first | refine awp_seq ?_ | refine awp_block ?_ | refine awp_skip ?_ | refine awp_scope ?_ | refine awp_label ?_)
    refine awp_region tabOk fun K hK => ?_
    simp -dsimp -implicitDefEqProofs only [push_cast, ↓trAdd_f, ↓stOf_f, seval]
    have hmt : ((joinP f s (nRounds n)).map encB).take n = ((joinP f s (nRounds n)).take n).map encB := by rw [List.map_take]
    refine ⟨⟨by omega, by omega⟩, hK _ (awp_ret ?_)⟩
    simp -dsimp -implicitDefEqProofs only [e, hml, hmt, bytes_okl, bytes_fz, push_cast, List.mem_append, List.mem_cons, List.mem_singleton, forall_eq_or_imp, forall_eq, ↓trAdd_f, ↓stOf_f, seval]
    exact hge
end Go.Proofs.YtoifmpiikopelaaDoorFw

/-
  errors.Is of two numbers of one type in interfaces.
-/
namespace Go.Proofs.YtoifmpiikopelaaDoorFw
open Go Go.Proofs Go.RowKit Go.Extern.Stop Go.Stop Go.Extern
set_option maxRecDepth 100000
set_option maxHeartbeats 4000000
set_option linter.unusedVariables false
set_option linter.unusedSimpArgs false

theorem isTypeOf (v : Value) (w : World) : (Extern.ReflectliteType.typeOf #[.iface 35 v]).run Tryd.prog w = .ok (.iface 147 (.agg #[.pointer (some ⟨2, 35, none⟩)])) w := by kernel_rfl
def cmpRow : Array Value → Sem Value := Extern.ReflectliteType.method fun t => do Extern.Rtype.noPackHeld "Comparable" t; pure (.bool (← typeInfo t).comparable)
theorem isComparable (w : World) : (cmpRow #[.agg #[.pointer (some ⟨2, 35, none⟩)]]).run Tryd.prog w = .ok (.bool true) w := by kernel_rfl
theorem isMethodComparable (v : Value) (w : World) : (Go.method 296 147 v "Comparable").run Tryd.prog w = .ok (126, v) w := by kernel_rfl
theorem isComp : (Tryd.prog.info? 35).map (·.comparable) = some true := by kernel_rfl
theorem noIsE (v : Value) (xT : TypeId) (w : World) : (Instr.typeAssert (.iface 35 v) xT 149 true).run Tryd.prog w = .ok (.tuple #[.nilIface, .bool false]) w := run_typeAssert_lacksB Tryd.underlying149 (by kernel_rfl) (by kernel_rfl) v xT w
theorem noUnwrapE (v : Value) (xT : TypeId) (w : World) : (Instr.typeAssert (.iface 35 v) xT 151 true).run Tryd.prog w = .ok (.tuple #[.nilIface, .bool false]) w := run_typeAssert_lacksB Tryd.underlying151 (by kernel_rfl) (by kernel_rfl) v xT w
theorem noUnwrapsE (v : Value) (xT : TypeId) (w : World) : (Instr.typeAssert (.iface 35 v) xT 153 true).run Tryd.prog w = .ok (.tuple #[.nilIface, .bool false]) w := run_typeAssert_lacksB Tryd.underlying153 (by kernel_rfl) (by kernel_rfl) v xT w

theorem eql_errno (n k : Int) (w : World) : (binOp .eql 120 (.iface 35 (.int .i64 n)) (.iface 35 (.int .i64 k))).run Tryd.prog w = .ok (.bool (n == k)) w := by
  obtain ⟨i, hi, hcmp⟩ := Option.map_eq_some_iff.1 isComp
  have key : ∀ d : Nat, (Op.equalIn (d + 2) 120 (.iface 35 (.int .i64 n)) (.iface 35 (.int .i64 k))).run Tryd.prog w = .ok (n == k) w := fun d => by
    simp [Op.equalIn, run_underlying Tryd.underlying120, run_underlying Tryd.underlying35, typeInfo, hi, hcmp]
  simp only [binOp]
  simp [Op.equal, Op.maxDepth, key 9998]

theorem is_calls (n : Int) (w : World) :
    Calls Tryd.prog 82 #[.iface 35 (.int .i64 n), .iface 35 (.int .i64 0)] w fun e w' => e = .returned (.bool (n == 0)) ∧ w' = w := by
  obtain ⟨i, hi, hcmp⟩ := Option.map_eq_some_iff.1 isComp
  have h8 := @run_callFunc_extern Tryd.prog 92 _ Extern.ReflectliteType.typeOf Tryd.func92 (by kernel_rfl) (by kernel_rfl) (by kernel_rfl) (by kernel_rfl)
  have h32 := @run_callFunc_extern Tryd.prog 126 _ cmpRow Tryd.func126 (by kernel_rfl) (by kernel_rfl) (by kernel_rfl) (by kernel_rfl)
  have tT := isTypeOf
  have cT := isComparable
  have mR := isMethodComparable
  have nE := noIsE
  have uE := noUnwrapE
  have vE := noUnwrapsE
  have heq := eql_errno n 0 w
  by_cases h0 : n = 0
  · subst h0
    have e : ((0 : Int) == 0) = true := rfl
    rw [e] at heq ⊢
    go_enter Tryd.func82, Tryd.ntmps82
    go_wp2
    refine wp_loop_rounds 1 ?_
    rw [rounds_succ]
    go_wp2
    go_ret
    exact ⟨rfl, rfl⟩
  · have e : (n == 0) = false := by simpa using h0
    rw [e] at heq ⊢
    go_enter Tryd.func82, Tryd.ntmps82
    go_wp2
    refine wp_loop_rounds 1 ?_
    rw [rounds_succ]
    go_wp2
    go_ret
    exact ⟨rfl, rfl⟩

theorem done_same {B : Base} {args : List PV} {vs : Array Value} {res : PV} {v : Value} (hi : Init B args [] vs) (hr : Rep B.F0 B.w0 B.m0 res v) : Done B ([] : List (Nat × Blk)).length res [] v B.w0 B.F0 B.m0 :=
  ⟨hr, fun b k h => by simp [lk] at h, fun b k x h => by simp [lk] at h, fun b b' k k' x x' h => by simp [lk] at h, fun b h => by have := hi.ids b h; omega, fun x hx => ⟨(hi.fz x hx).1, .inl hx⟩, Grow.refl _ _ _, ⟨rfl, rfl, rfl, Nat.le_refl _, fun _ _ _ => rfl⟩⟩

theorem is_ok (n : Int) : FnS Tryd.prog 82 [.val (.ifc 35 .i64 n), .val (.ifc 35 .i64 0)] [] (.bool (n == 0)) [] := by
  refine ⟨⟨_, Tryd.func82, by decide +kernel, rfl⟩, fun B vs hi => ?_⟩
  obtain ⟨v0, v1, rfl⟩ : ∃ v0 v1, vs = #[v0, v1] := by
    have := hi.size
    match vs, this with
    | ⟨[v0, v1]⟩, _ => exact ⟨v0, v1, rfl⟩
  have h0 := (hi.arg 0 _ v0 rfl rfl).val_inv
  have h1 := (hi.arg 1 _ v1 rfl rfl).val_inv
  cases h0
  cases h1
  refine (is_calls n B.w0).mono ?_
  rintro e w' ⟨rfl, rfl⟩
  exact ⟨_, _, _, rfl, done_same hi (.fz (.bool _))⟩
end Go.Proofs.YtoifmpiikopelaaDoorFw

/-
  Walks: boot.fine, boot.Whole.
-/
namespace Go.Proofs.YtoifmpiikopelaaDoorFw
open Go Go.Proofs
set_option maxRecDepth 100000
set_option maxHeartbeats 4000000
set_option linter.unusedVariables false
set_option linter.unusedSimpArgs false

theorem fine_ok (n : Int) : FnS Tryd.prog 46 [.val (.ifc 35 .i64 n)] [] (.bool (n == 0)) [] := by
  refine fn_walk tabOk Tryd.func46 rfl (by decide +kernel) Tryd.ntmps46 Tryd.results46 (by simp) fun B hB => ?_
  try refine hK _ ?_
  repeat (first | refine awp_seq ?_ | refine awp_block ?_ | refine awp_skip ?_ | refine awp_scope ?_ | refine awp_label ?_)
  refine awp_region tabOk fun K hK => ?_
  simp -dsimp -implicitDefEqProofs only [push_cast, ↓trAdd_f, ↓stOf_f, seval]
  refine hK _ ?_
  try refine hK _ ?_
  repeat (first | refine awp_seq ?_ | refine awp_block ?_ | refine awp_skip ?_ | refine awp_scope ?_ | refine awp_label ?_)
  refine awp_region tabOk fun K hK => ?_
  simp -dsimp -implicitDefEqProofs only [push_cast, ↓trAdd_f, ↓stOf_f, seval]
  refine callK_simple (is_ok n) ?_ rfl fun _ => ?_
  · simp -dsimp -implicitDefEqProofs only [push_cast, List.mem_append, List.mem_cons, List.mem_singleton, forall_eq_or_imp, forall_eq, ↓trAdd_f, ↓stOf_f, seval]
  simp -dsimp -implicitDefEqProofs only [push_cast, ↓trAdd_f, ↓stOf_f, seval]
  refine hK _ (awp_ret ?_)
  simp -dsimp -implicitDefEqProofs only [push_cast, List.mem_append, List.mem_cons, List.mem_singleton, forall_eq_or_imp, forall_eq, ↓trAdd_f, ↓stOf_f, seval]
/-- A flash of 70 pages that is as it may be. -/
structure Flash.big (f : Flash) : Prop where
  fine : f.fine
  n70 : f.pages.length = 70
def wholeF (f : Flash) (s : Nat) (key : Int) : Img × Bool :=
  if f.down = true then (img0, false) else
  if fourP (bytesS f s 18).1 6 < 1 ∨ 2048 < fourP (bytesS f s 18).1 6 then (img0, false) else
  ((readM (bytesS f s (18 + (fourP (bytesS f s 18).1 6).toNat)).1 key).1, (readM (bytesS f s (18 + (fourP (bytesS f s 18).1 6).toNat)).1 key).2 == 0)
theorem joinP_bytes {f : Flash} (h : f.bytes) (s k : Nat) : ∀ x ∈ joinP f s k, byte x := by
  intro x hx
  obtain ⟨p, hp, hx⟩ := List.mem_flatten.1 hx
  exact h p (List.mem_of_mem_drop (List.mem_of_mem_take hp)) x hx
theorem bytesS_bytes {f : Flash} (h : f.bytes) (s n : Nat) : ∀ x ∈ (bytesS f s n).1, byte x := by
  intro x hx
  unfold bytesS at hx
  split at hx
  · simp at hx
  · exact joinP_bytes h s _ x (List.mem_of_mem_take hx)
theorem bytesS_len {f : Flash} (h : f.big) (s n : Nat) (hs : s ≤ 1) (hn : n ≤ 2176) (hd : f.down = false) : (bytesS f s n).1.length = n := by
  unfold bytesS
  rw [if_neg (by simp [hd]), List.length_take, joinP_len f s h.fine.good.block _ (by have := h.n70; unfold nRounds; omega)]
  unfold nRounds; omega
theorem bytesS_err {f : Flash} (s n : Nat) (hd : f.down = false) : (bytesS f s n).2 = 0 := by
  unfold bytesS
  rw [if_neg (by simp [hd])]
def whS (f : Flash) (s : Nat) (key : Int) (q : List Int) (b : List Int) (k : Nat) : AS := { sl := [(1, .int .i64 s), (2, .int .i64 key), (3, .ptr 100 0), (6, .ptr 101 0), (10, .int .i64 (numOr (q.take k))), (27, .sl false 1 (q.map encB)), (28, .int .i64 4), (29, .int .i64 k)], st := [(100, .box (encFlash f)), (101, .box (encImg img0))], nx := 200, n := 69 }
theorem wholeF_ok (f : Flash) (s : Nat) (key : Int) (hf : f.big) (hs : s ≤ 1) :
    FnS Tryd.prog 22 [.agg (encFlash f), .int .i64 s, .int .i64 key] [] (.tup [.agg (encImg (wholeF f s key).1), .bool (wholeF f s key).2]) [] := by
  have hbs := bytesS_bytes hf.fine.bytes
  have hbo := bytesS_ok f s
  refine fn_walk tabOk Tryd.func22 rfl (by decide +kernel) Tryd.ntmps22 Tryd.results22 (by simp) fun B hB => ?_
  try refine hK _ ?_
  repeat (first | refine awp_seq ?_ | refine awp_block ?_ | refine awp_skip ?_ | refine awp_scope ?_ | refine awp_label ?_)
  refine awp_region tabOk fun K hK => ?_
  simp -dsimp -implicitDefEqProofs only [encFlash, push_cast, ↓trAdd_f, ↓stOf_f, seval]
  refine hK _ ?_
  try refine hK _ ?_
  repeat (first | refine awp_seq ?_ | refine awp_block ?_ | refine awp_skip ?_ | refine awp_scope ?_ | refine awp_label ?_)
  refine awp_region tabOk fun K hK => ?_
  simp -dsimp -implicitDefEqProofs only [push_cast, ↓trAdd_f, ↓stOf_f, seval]
  refine callK_simple (hbo 18 hs (by decide) hf.n70 hf.fine.good.block) ?_ rfl fun _ => ?_
  · simp -dsimp -implicitDefEqProofs only [encFlash, push_cast, List.mem_append, List.mem_cons, List.mem_singleton, forall_eq_or_imp, forall_eq, ↓trAdd_f, ↓stOf_f, seval]
  simp -dsimp -implicitDefEqProofs only [push_cast, ↓trAdd_f, ↓stOf_f, seval]
  refine hK _ ?_
  try refine hK _ ?_
  repeat (first | refine awp_seq ?_ | refine awp_block ?_ | refine awp_skip ?_ | refine awp_scope ?_ | refine awp_label ?_)
  refine awp_region tabOk fun K hK => ?_
  simp -dsimp -implicitDefEqProofs only [push_cast, ↓trAdd_f, ↓stOf_f, seval]
  refine callK_simple (fine_ok (bytesS f s 18).2) ?_ rfl fun _ => ?_
  · simp -dsimp -implicitDefEqProofs only [push_cast, List.mem_append, List.mem_cons, List.mem_singleton, forall_eq_or_imp, forall_eq, ↓trAdd_f, ↓stOf_f, seval]
  by_cases hD : f.down = true
  · have e : wholeF f s key = (img0, false) := by unfold wholeF; rw [if_pos hD]
    have e2 : (bytesS f s 18).2 = 250 := by unfold bytesS; rw [if_pos hD]
    rw [e2]
    simp -dsimp -implicitDefEqProofs only [push_cast, ↓trAdd_f, ↓stOf_f, seval]
    refine hK _ ?_
    try refine hK _ ?_
    repeat (first | refine awp_seq ?_ | refine awp_block ?_ | refine awp_skip ?_ | refine awp_scope ?_ | refine awp_label ?_)
    refine awp_cond (b := true) (by simp -dsimp -implicitDefEqProofs only [push_cast, ↓trAdd_f, ↓stOf_f, seval]) (fun h => ?_) (fun h => ?_)
    rotate_left
    · cases h
    try refine hK _ ?_
    repeat (first | refine awp_seq ?_ | refine awp_block ?_ | refine awp_skip ?_ | refine awp_scope ?_ | refine awp_label ?_)
    refine awp_region tabOk fun K hK => ?_
    simp -dsimp -implicitDefEqProofs only [push_cast, ↓trAdd_f, ↓stOf_f, seval]
    refine hK _ (awp_ret ?_)
    simp -dsimp -implicitDefEqProofs only [e, encImg, img0, push_cast, List.mem_append, List.mem_cons, List.mem_singleton, forall_eq_or_imp, forall_eq, ↓trAdd_f, ↓stOf_f, seval]
  simp only [Bool.not_eq_true] at hD
  have e2 : (bytesS f s 18).2 = 0 := bytesS_err s 18 hD
  have e1 := bytesS_len hf s 18 hs (by decide) hD
  have hb1 := hbs s 18
  rw [e2]
  simp -dsimp -implicitDefEqProofs only [push_cast, ↓trAdd_f, ↓stOf_f, seval]
  refine hK _ ?_
  try refine hK _ ?_
  repeat (first | refine awp_seq ?_ | refine awp_block ?_ | refine awp_skip ?_ | refine awp_scope ?_ | refine awp_label ?_)
  refine awp_cond (b := false) (by simp -dsimp -implicitDefEqProofs only [push_cast, ↓trAdd_f, ↓stOf_f, seval]) (fun h => ?_) (fun h => ?_)
  · cases h
  refine awp_skip ?_
  try refine hK _ ?_
  repeat (first | refine awp_seq ?_ | refine awp_block ?_ | refine awp_skip ?_ | refine awp_scope ?_ | refine awp_label ?_)
  refine awp_region tabOk fun K hK => ?_
  simp -dsimp -implicitDefEqProofs only [push_cast, ↓trAdd_f, ↓stOf_f, seval]
  refine hK _ ?_
  have e3 : wholeF f s key = if fourP (bytesS f s 18).1 6 < 1 ∨ 2048 < fourP (bytesS f s 18).1 6 then (img0, false) else ((readM (bytesS f s (18 + (fourP (bytesS f s 18).1 6).toNat)).1 key).1, (readM (bytesS f s (18 + (fourP (bytesS f s 18).1 6).toNat)).1 key).2 == 0) := by unfold wholeF; rw [if_neg (by simp [hD])]
  generalize hb : (bytesS f s 18).1 = b at *
  have hsl : ((b.map encB).drop 6).take 4 = ((b.drop 6).take 4).map encB := by rw [← List.map_drop, ← List.map_take]
  have hl4 : ((b.drop 6).take 4).length = 4 := by simp; omega
  have h6 : Int.toNat 6 = 6 := rfl
  have h4 : Int.toNat 10 - 6 = 4 := rfl
  have hfp : fourP b 6 = numOr ((b.drop 6).take 4) := rfl
  try refine hK _ ?_
  repeat (first | refine awp_seq ?_ | refine awp_block ?_ | refine awp_skip ?_ | refine awp_scope ?_ | refine awp_label ?_)
  refine awp_region tabOk fun K hK => ?_
  simp -dsimp -implicitDefEqProofs only [h6, h4, hsl, hl4, e1, push_cast, ↓trAdd_f, ↓stOf_f, seval]
  generalize hq : (b.drop 6).take 4 = q at *
  refine hK _ (awp_block ?_)
  refine awp_for (fun k : Nat => whS f s key q b k) (fun k => k ≤ 4) (fun k => 4 - k) 0 (Nat.zero_le _) ?_ fun k hk => ?_
  · simp only [whS, numOr, List.take_zero, List.foldl_nil]
    refine le_intro hB [(100, 0), (101, 8)] (by simp) (fun b hb => absurd hb (Nat.not_lt_zero b)) rfl ?_ ?_ rfl <;> simp -dsimp -implicitDefEqProofs only [encFlash, encImg, img0, push_cast, ↓trAdd_f, ↓stOf_f, seval]
  have hl4' : (q.map encB).length = 4 := by simp; omega
  simp only [whS]
  try refine hK _ ?_
  repeat (first | refine awp_seq ?_ | refine awp_block ?_ | refine awp_skip ?_ | refine awp_scope ?_ | refine awp_label ?_)
  refine awp_region tabOk fun K hK => ?_
  simp -dsimp -implicitDefEqProofs only [push_cast, ↓trAdd_f, ↓stOf_f, seval]
  try refine hK _ ?_
  repeat (first | refine awp_seq ?_ | refine awp_block ?_ | refine awp_skip ?_ | refine awp_scope ?_ | refine awp_label ?_)
  refine awp_cond (b := decide ((k : Int) < 4)) (by simp -dsimp -implicitDefEqProofs only [push_cast, ↓trAdd_f, ↓stOf_f, seval]) (fun h => ?_) (fun h => ?_)
  · have hlt : k < 4 := by have := of_decide_eq_true h; omega
    have hkq : k < q.length := by omega
    refine awp_skip ?_
    try refine hK _ ?_
    repeat (first | refine awp_seq ?_ | refine awp_block ?_ | refine awp_skip ?_ | refine awp_scope ?_ | refine awp_label ?_)
    refine awp_region tabOk fun K hK => ?_
    simp -dsimp -implicitDefEqProofs only [hkq, getD_map, encB, hl4', push_cast, ↓trAdd_f, ↓stOf_f, seval]
    refine ⟨⟨by omega, by omega⟩, hK _ ?_⟩
    try refine hK _ ?_
    repeat (first | refine awp_seq ?_ | refine awp_block ?_ | refine awp_skip ?_ | refine awp_scope ?_ | refine awp_label ?_)
    refine awp_region tabOk fun K hK => ?_
    simp -dsimp -implicitDefEqProofs only [p8, hl4, push_cast, ↓trAdd_f, ↓stOf_f, seval]
    refine hK _ ?_
    have hw2 : IntKind.i64.wrap ((k : Int) + 1) = (k : Int) + 1 := wrap_i64 (by omega) (by omega)
    try refine hK _ ?_
    repeat (first | refine awp_seq ?_ | refine awp_block ?_ | refine awp_skip ?_ | refine awp_scope ?_ | refine awp_label ?_)
    refine awp_region tabOk fun K hK => ?_
    simp -dsimp -implicitDefEqProofs only [hw2, push_cast, ↓trAdd_f, ↓stOf_f, seval]
    refine hK _ ⟨k + 1, hlt, Nat.sub_lt_sub_left (by omega) (by omega), ?_⟩
    have hf : numOr (q.take (k + 1)) = IntKind.i64.wrap (BitVec.ofInt IntKind.i64.bits (IntKind.i64.wrap (numOr (q.take k) * 2 ^ (min 8 IntKind.i64.bits))) ||| BitVec.ofInt IntKind.i64.bits (IntKind.i64.wrap q[k])).toNat := by
      unfold numOr
      rw [List.take_succ_eq_append_getElem hkq, List.foldl_append]
      rfl
    rw [p8] at hf
    rw [hf]
    refine le_intro hB [] (by simp) (fun b _ => rfl) rfl ?_ ?_ rfl <;> simp -dsimp -implicitDefEqProofs only [encFlash, encImg, img0, push_cast, ↓trAdd_f, ↓stOf_f, seval]
  have hke : k = 4 := by simp at h; omega
  subst hke
  have ht : q.take 4 = q := List.take_of_length_le (by omega)
  refine awp_exit rfl ?_
  rw [ht, ← hfp]
  generalize fourP b 6 = n at *
  cases hA : decide (n < 1) with
  | true =>
    have e : wholeF f s key = (img0, false) := by rw [e3, if_pos (.inl (by simpa using hA))]
    try refine hK _ ?_
    repeat (first | refine awp_seq ?_ | refine awp_block ?_ | refine awp_skip ?_ | refine awp_scope ?_ | refine awp_label ?_)
    refine awp_region tabOk fun K hK => ?_
    simp -dsimp -implicitDefEqProofs only [hA, push_cast, ↓trAdd_f, ↓stOf_f, seval]
    try refine hK _ ?_
    repeat (first | refine awp_seq ?_ | refine awp_block ?_ | refine awp_skip ?_ | refine awp_scope ?_ | refine awp_label ?_)
    refine awp_cond (b := true) (by simp -dsimp -implicitDefEqProofs only [push_cast, ↓trAdd_f, ↓stOf_f, seval]) (fun h => ?_) (fun h => ?_)
    rotate_left
    · cases h
    try refine hK _ ?_
    repeat (first | refine awp_seq ?_ | refine awp_block ?_ | refine awp_skip ?_ | refine awp_scope ?_ | refine awp_label ?_)
    refine awp_region tabOk fun K hK => ?_
    simp -dsimp -implicitDefEqProofs only [encImg, img0, push_cast, ↓trAdd_f, ↓stOf_f, seval]
    refine hK _ (awp_ret ?_)
    simp -dsimp -implicitDefEqProofs only [e, encImg, img0, push_cast, List.mem_append, List.mem_cons, List.mem_singleton, forall_eq_or_imp, forall_eq, ↓trAdd_f, ↓stOf_f, seval]
  | false =>
  cases hQ : decide (2048 < n) with
  | true =>
    have e : wholeF f s key = (img0, false) := by rw [e3, if_pos (.inr (by simpa using hQ))]
    try refine hK _ ?_
    repeat (first | refine awp_seq ?_ | refine awp_block ?_ | refine awp_skip ?_ | refine awp_scope ?_ | refine awp_label ?_)
    refine awp_region tabOk fun K hK => ?_
    simp -dsimp -implicitDefEqProofs only [hA, hQ, push_cast, ↓trAdd_f, ↓stOf_f, seval]
    try refine hK _ ?_
    repeat (first | refine awp_seq ?_ | refine awp_block ?_ | refine awp_skip ?_ | refine awp_scope ?_ | refine awp_label ?_)
    refine awp_cond (b := true) (by simp -dsimp -implicitDefEqProofs only [push_cast, ↓trAdd_f, ↓stOf_f, seval]) (fun h => ?_) (fun h => ?_)
    rotate_left
    · cases h
    try refine hK _ ?_
    repeat (first | refine awp_seq ?_ | refine awp_block ?_ | refine awp_skip ?_ | refine awp_scope ?_ | refine awp_label ?_)
    refine awp_region tabOk fun K hK => ?_
    simp -dsimp -implicitDefEqProofs only [encImg, img0, push_cast, ↓trAdd_f, ↓stOf_f, seval]
    refine hK _ (awp_ret ?_)
    simp -dsimp -implicitDefEqProofs only [e, encImg, img0, push_cast, List.mem_append, List.mem_cons, List.mem_singleton, forall_eq_or_imp, forall_eq, ↓trAdd_f, ↓stOf_f, seval]
  | false =>
  have hA' := of_decide_eq_false hA
  have hQ' := of_decide_eq_false hQ
  have e4 : wholeF f s key = ((readM (bytesS f s (18 + n.toNat)).1 key).1, (readM (bytesS f s (18 + n.toNat)).1 key).2 == 0) := by rw [e3, if_neg (by omega)]
  obtain ⟨m, rfl⟩ : ∃ m : Nat, n = (m : Int) := ⟨n.toNat, by omega⟩
  rw [Int.toNat_natCast] at e4
  try refine hK _ ?_
  repeat (first | refine awp_seq ?_ | refine awp_block ?_ | refine awp_skip ?_ | refine awp_scope ?_ | refine awp_label ?_)
  refine awp_region tabOk fun K hK => ?_
  simp -dsimp -implicitDefEqProofs only [hA, hQ, push_cast, ↓trAdd_f, ↓stOf_f, seval]
  try refine hK _ ?_
  repeat (first | refine awp_seq ?_ | refine awp_block ?_ | refine awp_skip ?_ | refine awp_scope ?_ | refine awp_label ?_)
  refine awp_cond (b := false) (by simp -dsimp -implicitDefEqProofs only [push_cast, ↓trAdd_f, ↓stOf_f, seval]) (fun h => ?_) (fun h => ?_)
  · cases h
  refine awp_skip ?_
  have hw3 : IntKind.i64.wrap (18 + (m : Int)) = ((18 + m : Nat) : Int) := by rw [wrap_i64 (by omega) (by omega)]; omega
  try refine hK _ ?_
  repeat (first | refine awp_seq ?_ | refine awp_block ?_ | refine awp_skip ?_ | refine awp_scope ?_ | refine awp_label ?_)
  refine awp_region tabOk fun K hK => ?_
  simp -dsimp -implicitDefEqProofs only [hw3, encFlash, encImg, img0, push_cast, ↓trAdd_f, ↓stOf_f, seval]
  refine callK_simple (hbo (18 + m) hs (by omega) hf.n70 hf.fine.good.block) ?_ rfl fun _ => ?_
  · simp -dsimp -implicitDefEqProofs only [encFlash, push_cast, List.mem_append, List.mem_cons, List.mem_singleton, forall_eq_or_imp, forall_eq, ↓trAdd_f, ↓stOf_f, seval]
  have e5 : (bytesS f s (18 + m)).2 = 0 := bytesS_err s (18 + m) hD
  have e6 := bytesS_len hf s (18 + m) hs (by omega) hD
  have hb6 := hbs s (18 + m)
  rw [e5]
  generalize (bytesS f s (18 + m)).1 = d at *
  simp -dsimp -implicitDefEqProofs only [push_cast, ↓trAdd_f, ↓stOf_f, seval]
  refine hK _ ?_
  try refine hK _ ?_
  repeat (first | refine awp_seq ?_ | refine awp_block ?_ | refine awp_skip ?_ | refine awp_scope ?_ | refine awp_label ?_)
  refine awp_region tabOk fun K hK => ?_
  simp -dsimp -implicitDefEqProofs only [push_cast, ↓trAdd_f, ↓stOf_f, seval]
  refine callK_simple (fine_ok 0) ?_ rfl fun _ => ?_
  · simp -dsimp -implicitDefEqProofs only [push_cast, List.mem_append, List.mem_cons, List.mem_singleton, forall_eq_or_imp, forall_eq, ↓trAdd_f, ↓stOf_f, seval]
  simp -dsimp -implicitDefEqProofs only [push_cast, ↓trAdd_f, ↓stOf_f, seval]
  refine hK _ ?_
  try refine hK _ ?_
  repeat (first | refine awp_seq ?_ | refine awp_block ?_ | refine awp_skip ?_ | refine awp_scope ?_ | refine awp_label ?_)
  refine awp_cond (b := false) (by simp -dsimp -implicitDefEqProofs only [push_cast, ↓trAdd_f, ↓stOf_f, seval]) (fun h => ?_) (fun h => ?_)
  · cases h
  refine awp_skip ?_
  try refine hK _ ?_
  repeat (first | refine awp_seq ?_ | refine awp_block ?_ | refine awp_skip ?_ | refine awp_scope ?_ | refine awp_label ?_)
  refine awp_region tabOk fun K hK => ?_
  simp -dsimp -implicitDefEqProofs only [push_cast, ↓trAdd_f, ↓stOf_f, seval]
  refine callK_simple (readM_ok false d key hb6 (by omega)) ?_ rfl fun _ => ?_
  · simp -dsimp -implicitDefEqProofs only [push_cast, List.mem_append, List.mem_cons, List.mem_singleton, forall_eq_or_imp, forall_eq, ↓trAdd_f, ↓stOf_f, seval]
  generalize readM d key = rm at *
  obtain ⟨rm1, rm2⟩ := rm
  simp -dsimp -implicitDefEqProofs only [encImg, push_cast, ↓trAdd_f, ↓stOf_f, seval]
  refine hK _ ?_
  try refine hK _ ?_
  repeat (first | refine awp_seq ?_ | refine awp_block ?_ | refine awp_skip ?_ | refine awp_scope ?_ | refine awp_label ?_)
  refine awp_draw tabOk (by kernel_rfl) (by kernel_rfl) fun K hK C hC => ?_
  simp -dsimp -implicitDefEqProofs only [push_cast, ↓trAdd_f, ↓stOf_f, seval]
  refine callK_simple (fine_ok rm2) ?_ rfl fun _ => ?_
  · simp -dsimp -implicitDefEqProofs only [push_cast, List.mem_append, List.mem_cons, List.mem_singleton, forall_eq_or_imp, forall_eq, ↓trAdd_f, ↓stOf_f, seval]
  simp -dsimp -implicitDefEqProofs only [encImg, push_cast, ↓trAdd_f, ↓stOf_f, seval]
  refine ⟨hC _ (by kernel_rfl), hK _ (awp_ret ?_)⟩
  simp -dsimp -implicitDefEqProofs only [e4, encImg, push_cast, List.mem_append, List.mem_cons, List.mem_singleton, forall_eq_or_imp, forall_eq, ↓trAdd_f, ↓stOf_f, seval]
end Go.Proofs.YtoifmpiikopelaaDoorFw
