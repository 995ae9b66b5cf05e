import Derived.Test.YtahkpghgjjlgdaaJ0
import Derived.Test.YtahkpghgjjlgdaaJ2
import Derived.Test.YtahkpghgjjlgdaaJ1
/-
  The walk of resp.Bound.
-/
namespace Go.Proofs.YtahkpghgjjlgdaaFw
open Go Go.Proofs
set_option maxRecDepth 100000
set_option maxHeartbeats 8000000
set_option linter.unusedVariables false
set_option linter.unusedSimpArgs false

theorem bound_ok (l : List Stream) (i : Int) (hl : l.length ≤ 2 ^ 40) (hi64 : I64 i) :
    FnS Try.prog 14 [.sl false 3 (l.map encStream), .int .i64 i] [] (.tup [.int .i64 (boundP l i).1, .bool (boundP l i).2]) [] := by
  refine fn_walk tabOk Try.func14 rfl (by decide +kernel) Try.ntmps14 Try.results14 (by simp) fun B hB => ?_
  try refine hK _ ?_
  repeat (first | refine awp_seq ?_ | refine awp_block ?_ | refine awp_skip ?_ | refine awp_scope ?_ | refine awp_label ?_)
  refine awp_region tabOk fun K hK => ?_
  simp -dsimp -implicitDefEqProofs only [push_cast, ↓trAdd_f, ↓stOf_f, Nat.reduceBEq, Int.reduceBEq, Int.reduceBNe, Int.reduceNeg, Int.reduceAdd, Int.reduceSub, Int.reduceLT, Int.reduceLE, Int.reduceMul, Nat.reducePow, Int.reducePow, Nat.reduceAdd, Nat.reduceEqDiff, Nat.reduceLT, Nat.reduceLeDiff, Nat.reduceMul, Nat.reduceSub, reduceCtorEq, ↓reduceIte]
  try refine hK _ ?_
  repeat (first | refine awp_seq ?_ | refine awp_block ?_ | refine awp_skip ?_ | refine awp_scope ?_ | refine awp_label ?_)
  refine awp_join ({ sl := [(2, .ptr 0 0), (3, .ptr 8 0), (25, .bool (!decide (rightS l = true ∧ 0 ≤ i ∧ i < l.length)))], st := [(0, .box [.sl false 3 (l.map encStream)]), (8, .box [.int .i64 i])], nx := 16, n := 88 }) ?_ (fun _ hl h => awp_le hl h) ?_
  · try refine hK _ ?_
    repeat (first | refine awp_seq ?_ | refine awp_block ?_ | refine awp_skip ?_ | refine awp_scope ?_ | refine awp_label ?_)
    refine awp_region tabOk fun K hK => ?_
    simp -dsimp -implicitDefEqProofs only [push_cast, ↓trAdd_f, ↓stOf_f, Nat.reduceBEq, Int.reduceBEq, Int.reduceBNe, Int.reduceNeg, Int.reduceAdd, Int.reduceSub, Int.reduceLT, Int.reduceLE, Int.reduceMul, Nat.reducePow, Int.reducePow, Nat.reduceAdd, Nat.reduceEqDiff, Nat.reduceLT, Nat.reduceLeDiff, Nat.reduceMul, Nat.reduceSub, reduceCtorEq, ↓reduceIte]
    refine callK_simple (rRight_ok false l (by omega)) ?_ rfl fun _ => ?_
    · simp -dsimp -implicitDefEqProofs only [push_cast, List.mem_append, List.mem_cons, List.mem_singleton, forall_eq_or_imp, forall_eq, ↓trAdd_f, ↓stOf_f, Nat.reduceBEq, Int.reduceBEq, Int.reduceBNe, Int.reduceNeg, Int.reduceAdd, Int.reduceSub, Int.reduceLT, Int.reduceLE, Int.reduceMul, Nat.reducePow, Int.reducePow, Nat.reduceAdd, Nat.reduceEqDiff, Nat.reduceLT, Nat.reduceLeDiff, Nat.reduceMul, Nat.reduceSub, reduceCtorEq, ↓reduceIte]
    cases hr : rightS l with
    | false =>
      simp -dsimp -implicitDefEqProofs only [push_cast, ↓trAdd_f, ↓stOf_f, Nat.reduceBEq, Int.reduceBEq, Int.reduceBNe, Int.reduceNeg, Int.reduceAdd, Int.reduceSub, Int.reduceLT, Int.reduceLE, Int.reduceMul, Nat.reducePow, Int.reducePow, Nat.reduceAdd, Nat.reduceEqDiff, Nat.reduceLT, Nat.reduceLeDiff, Nat.reduceMul, Nat.reduceSub, reduceCtorEq, ↓reduceIte]
      refine hK _ ?_
      have e : decide (rightS l = true ∧ 0 ≤ i ∧ i < (l.length : Int)) = false := by simp [hr]
      refine le_intro hB [] (by simp) (fun b _ => rfl) rfl ?_ ?_ rfl <;> simp -dsimp -implicitDefEqProofs only [e, push_cast, ↓trAdd_f, ↓stOf_f, Nat.reduceBEq, Int.reduceBEq, Int.reduceBNe, Int.reduceNeg, Int.reduceAdd, Int.reduceSub, Int.reduceLT, Int.reduceLE, Int.reduceMul, Nat.reducePow, Int.reducePow, Nat.reduceAdd, Nat.reduceEqDiff, Nat.reduceLT, Nat.reduceLeDiff, Nat.reduceMul, Nat.reduceSub, reduceCtorEq, ↓reduceIte]
    | true =>
      simp -dsimp -implicitDefEqProofs only [push_cast, ↓trAdd_f, ↓stOf_f, Nat.reduceBEq, Int.reduceBEq, Int.reduceBNe, Int.reduceNeg, Int.reduceAdd, Int.reduceSub, Int.reduceLT, Int.reduceLE, Int.reduceMul, Nat.reducePow, Int.reducePow, Nat.reduceAdd, Nat.reduceEqDiff, Nat.reduceLT, Nat.reduceLeDiff, Nat.reduceMul, Nat.reduceSub, reduceCtorEq, ↓reduceIte]
      refine guardK_f (fun h1 => ?_) (fun h1 => ?_) <;> simp -dsimp -implicitDefEqProofs only [h1, push_cast, ↓trAdd_f, ↓stOf_f, Nat.reduceBEq, Int.reduceBEq, Int.reduceBNe, Int.reduceNeg, Int.reduceAdd, Int.reduceSub, Int.reduceLT, Int.reduceLE, Int.reduceMul, Nat.reducePow, Int.reducePow, Nat.reduceAdd, Nat.reduceEqDiff, Nat.reduceLT, Nat.reduceLeDiff, Nat.reduceMul, Nat.reduceSub, reduceCtorEq, ↓reduceIte]
      · refine hK _ ?_
        have e : (!decide (rightS l = true ∧ 0 ≤ i ∧ i < (l.length : Int))) = decide ((l.length : Int) ≤ i) := by
          have h2 : 0 ≤ i := by simp at h1; exact h1
          rw [Bool.eq_iff_iff]; simp [hr, h2]
        refine le_intro hB [] (by simp) (fun b _ => rfl) rfl ?_ ?_ rfl <;> simp -dsimp -implicitDefEqProofs only [e, push_cast, ↓trAdd_f, ↓stOf_f, Nat.reduceBEq, Int.reduceBEq, Int.reduceBNe, Int.reduceNeg, Int.reduceAdd, Int.reduceSub, Int.reduceLT, Int.reduceLE, Int.reduceMul, Nat.reducePow, Int.reducePow, Nat.reduceAdd, Nat.reduceEqDiff, Nat.reduceLT, Nat.reduceLeDiff, Nat.reduceMul, Nat.reduceSub, reduceCtorEq, ↓reduceIte]
      · refine hK _ ?_
        have e : decide (rightS l = true ∧ 0 ≤ i ∧ i < (l.length : Int)) = false := by simp at h1; simp; omega
        refine le_intro hB [] (by simp) (fun b _ => rfl) rfl ?_ ?_ rfl <;> simp -dsimp -implicitDefEqProofs only [e, push_cast, ↓trAdd_f, ↓stOf_f, Nat.reduceBEq, Int.reduceBEq, Int.reduceBNe, Int.reduceNeg, Int.reduceAdd, Int.reduceSub, Int.reduceLT, Int.reduceLE, Int.reduceMul, Nat.reducePow, Int.reducePow, Nat.reduceAdd, Nat.reduceEqDiff, Nat.reduceLT, Nat.reduceLeDiff, Nat.reduceMul, Nat.reduceSub, reduceCtorEq, ↓reduceIte]
  try refine hK _ ?_
  repeat (first | refine awp_seq ?_ | refine awp_block ?_ | refine awp_skip ?_ | refine awp_scope ?_ | refine awp_label ?_)
  refine awp_cond (b := !decide (rightS l = true ∧ 0 ≤ i ∧ i < (l.length : Int))) (by simp -dsimp -implicitDefEqProofs only [push_cast, ↓trAdd_f, ↓stOf_f, Nat.reduceBEq, Int.reduceBEq, Int.reduceBNe, Int.reduceNeg, Int.reduceAdd, Int.reduceSub, Int.reduceLT, Int.reduceLE, Int.reduceMul, Nat.reducePow, Int.reducePow, Nat.reduceAdd, Nat.reduceEqDiff, Nat.reduceLT, Nat.reduceLeDiff, Nat.reduceMul, Nat.reduceSub, reduceCtorEq, ↓reduceIte]) (fun h => ?_) (fun h => ?_)
  · have hn : ¬ (rightS l = true ∧ 0 ≤ i ∧ i < (l.length : Int)) := fun e => by rw [decide_eq_true e] at h; simp at h
    have e : boundP l i = (0, false) := by unfold boundP; rw [if_neg hn]
    try refine hK _ ?_
    repeat (first | refine awp_seq ?_ | refine awp_block ?_ | refine awp_skip ?_ | refine awp_scope ?_ | refine awp_label ?_)
    refine awp_region tabOk fun K hK => ?_
    simp -dsimp -implicitDefEqProofs only [push_cast, ↓trAdd_f, ↓stOf_f, Nat.reduceBEq, Int.reduceBEq, Int.reduceBNe, Int.reduceNeg, Int.reduceAdd, Int.reduceSub, Int.reduceLT, Int.reduceLE, Int.reduceMul, Nat.reducePow, Int.reducePow, Nat.reduceAdd, Nat.reduceEqDiff, Nat.reduceLT, Nat.reduceLeDiff, Nat.reduceMul, Nat.reduceSub, reduceCtorEq, ↓reduceIte]
    refine hK _ (awp_ret ?_)
    simp -dsimp -implicitDefEqProofs only [e, push_cast, List.mem_append, List.mem_cons, List.mem_singleton, forall_eq_or_imp, forall_eq, ↓trAdd_f, ↓stOf_f, Nat.reduceBEq, Int.reduceBEq, Int.reduceBNe, Int.reduceNeg, Int.reduceAdd, Int.reduceSub, Int.reduceLT, Int.reduceLE, Int.reduceMul, Nat.reducePow, Int.reducePow, Nat.reduceAdd, Nat.reduceEqDiff, Nat.reduceLT, Nat.reduceLeDiff, Nat.reduceMul, Nat.reduceSub, reduceCtorEq, ↓reduceIte]
  have hy : rightS l = true ∧ 0 ≤ i ∧ i < (l.length : Int) := by simpa using h
  obtain ⟨hr, h0, h1⟩ := hy
  obtain ⟨n, rfl⟩ := Int.eq_ofNat_of_zero_le h0
  have hn : n < l.length := by omega
  obtain ⟨hs, hl1, hl16⟩ := right_ok_s hr
  have hbp : boundP l (n : Int) = boundL l n l[n] (longest (l.drop (n + 1))) := by
    unfold boundP
    rw [if_pos ⟨hr, h0, h1⟩, Int.toNat_natCast, show l.getD n zeroSt = l[n] by simp [List.getD, hn]]
  have hst := hs _ (List.getElem_mem hn)
  obtain ⟨hb0, hb1⟩ := longest_bd (l.drop (n + 1)) fun s hm => hs s (List.mem_of_mem_drop hm)
  clear h h0 h1
  have hw1 : IntKind.i64.wrap ((n : Int) + 1) = (n : Int) + 1 := wrap_i64 (by omega) (by omega)
  have htn : ((n : Int) + 1).toNat = n + 1 := by omega
  have hdr : ((l.map encStream).drop (n + 1)).take (l.length - (n + 1)) = (l.drop (n + 1)).map encStream := by rw [List.map_drop, List.take_of_length_le (by simp)]
  try refine hK _ ?_
  repeat (first | refine awp_seq ?_ | refine awp_block ?_ | refine awp_skip ?_ | refine awp_scope ?_ | refine awp_label ?_)
  refine awp_draw tabOk (by kernel_rfl) (by kernel_rfl) fun K hK C hC => ?_
  simp -dsimp -implicitDefEqProofs only [hw1, htn, hdr, hn, getD_map, encStream, push_cast, ↓trAdd_f, ↓stOf_f, Nat.reduceBEq, Int.reduceBEq, Int.reduceBNe, Int.reduceNeg, Int.reduceAdd, Int.reduceSub, Int.reduceLT, Int.reduceLE, Int.reduceMul, Nat.reducePow, Int.reducePow, Nat.reduceAdd, Nat.reduceEqDiff, Nat.reduceLT, Nat.reduceLeDiff, Nat.reduceMul, Nat.reduceSub, reduceCtorEq, ↓reduceIte]
  refine ⟨⟨by omega, by omega⟩, ⟨by omega, by omega⟩, ?_⟩
  refine callK_simple (longest_ok false (l.drop (n + 1)) (by simp; omega)) ?_ rfl fun _ => ?_
  · simp -dsimp -implicitDefEqProofs only [push_cast, List.mem_append, List.mem_cons, List.mem_singleton, forall_eq_or_imp, forall_eq, ↓trAdd_f, ↓stOf_f, Nat.reduceBEq, Int.reduceBEq, Int.reduceBNe, Int.reduceNeg, Int.reduceAdd, Int.reduceSub, Int.reduceLT, Int.reduceLE, Int.reduceMul, Nat.reducePow, Int.reducePow, Nat.reduceAdd, Nat.reduceEqDiff, Nat.reduceLT, Nat.reduceLeDiff, Nat.reduceMul, Nat.reduceSub, reduceCtorEq, ↓reduceIte]
  generalize longest (l.drop (n + 1)) = b at *
  simp -dsimp -implicitDefEqProofs only [push_cast, ↓trAdd_f, ↓stOf_f, Nat.reduceBEq, Int.reduceBEq, Int.reduceBNe, Int.reduceNeg, Int.reduceAdd, Int.reduceSub, Int.reduceLT, Int.reduceLE, Int.reduceMul, Nat.reducePow, Int.reducePow, Nat.reduceAdd, Nat.reduceEqDiff, Nat.reduceLT, Nat.reduceLeDiff, Nat.reduceMul, Nat.reduceSub, reduceCtorEq, ↓reduceIte]
  refine ⟨hC _ (by kernel_rfl), ?_⟩
  clear hC C
  have hup : l[n].bits ≤ fBusy l n b l[n].bits := by
    unfold fBusy
    rw [load_take_succ l n hn]
    have q1 := load_bd l[n].bits 0 (by have := hst.1; omega) (by have := hst.2.1; omega) (by decide) (by decide) (l.take n) fun s hm => hs s (List.mem_of_mem_take hm)
    have q2 : 1 ≤ (l[n].bits + l[n].jitter + 0 + l[n].period - 1) / l[n].period := by
      obtain ⟨p1, p2, p3, p4, p5, p6⟩ := hst
      exact Int.le_ediv_of_mul_le (by omega) (by omega)
    have q3 : 1 * l[n].bits ≤ load1 l[n].bits 0 l[n] := Int.mul_le_mul_of_nonneg_right q2 (by have := hst.1; omega)
    omega
  have hsp := leastF_spec (fBusy_mono l n b hs) l[n].bits (by have := hst.1; omega) hup
  have hca := least1_ok l n b l[n].bits hl16 hn hs (by have := hst.1; omega) (by have := hst.2.1; omega) hb0 (by omega) hup
  have hbl : boundL l n l[n] b = if (leastF (fBusy l n b) l[n].bits).2 = true then ((mostQ l n b l[n] (((leastF (fBusy l n b) l[n].bits).1 + l[n].jitter + l[n].period - 1) / l[n].period).toNat).1, true) else (0, false) := rfl
  rw [hbl] at hbp
  clear hbl
  generalize leastF (fBusy l n b) l[n].bits = Z at *
  obtain ⟨t, is⟩ := Z
  simp only at hsp hca hbp
  try refine hK _ ?_
  repeat (first | refine awp_seq ?_ | refine awp_block ?_ | refine awp_skip ?_ | refine awp_scope ?_ | refine awp_label ?_)
  refine awp_region tabOk fun K hK => ?_
  simp -dsimp -implicitDefEqProofs only [push_cast, ↓trAdd_f, ↓stOf_f, Nat.reduceBEq, Int.reduceBEq, Int.reduceBNe, Int.reduceNeg, Int.reduceAdd, Int.reduceSub, Int.reduceLT, Int.reduceLE, Int.reduceMul, Nat.reducePow, Int.reducePow, Nat.reduceAdd, Nat.reduceEqDiff, Nat.reduceLT, Nat.reduceLeDiff, Nat.reduceMul, Nat.reduceSub, reduceCtorEq, ↓reduceIte]
  refine ⟨22, [], [], { args := [.int .i64 l[n].bits, .fn (.func 23) [] [.ptr 0 0, .ptr 1 0, .ptr 2 0]], st0 := [(0, .box [.int .i64 b]), (1, .box [.sl false 3 (l.map encStream)]), (2, .box [.int .i64 n])], res := .tup [.int .i64 t, .bool is], st1 := [(0, .box [.int .i64 b]), (1, .box [.sl false 3 (l.map encStream)]), (2, .box [.int .i64 n])], r := [96, 0, 8] }, rfl, hca, ?_, ?_⟩
  · simp -dsimp -implicitDefEqProofs only [push_cast, List.mem_append, List.mem_cons, List.mem_singleton, forall_eq_or_imp, forall_eq, ↓trAdd_f, ↓stOf_f, Nat.reduceBEq, Int.reduceBEq, Int.reduceBNe, Int.reduceNeg, Int.reduceAdd, Int.reduceSub, Int.reduceLT, Int.reduceLE, Int.reduceMul, Nat.reducePow, Int.reducePow, Nat.reduceAdd, Nat.reduceEqDiff, Nat.reduceLT, Nat.reduceLeDiff, Nat.reduceMul, Nat.reduceSub, reduceCtorEq, ↓reduceIte]
    exact rfl
  simp -dsimp -implicitDefEqProofs only [push_cast, ↓trAdd_f, ↓stOf_f, Nat.reduceBEq, Int.reduceBEq, Int.reduceBNe, Int.reduceNeg, Int.reduceAdd, Int.reduceSub, Int.reduceLT, Int.reduceLE, Int.reduceMul, Nat.reducePow, Int.reducePow, Nat.reduceAdd, Nat.reduceEqDiff, Nat.reduceLT, Nat.reduceLeDiff, Nat.reduceMul, Nat.reduceSub, reduceCtorEq, ↓reduceIte]
  try refine hK _ ?_
  repeat (first | refine awp_seq ?_ | refine awp_block ?_ | refine awp_skip ?_ | refine awp_scope ?_ | refine awp_label ?_)
  refine awp_region tabOk fun K hK => ?_
  simp -dsimp -implicitDefEqProofs only [push_cast, ↓trAdd_f, ↓stOf_f, Nat.reduceBEq, Int.reduceBEq, Int.reduceBNe, Int.reduceNeg, Int.reduceAdd, Int.reduceSub, Int.reduceLT, Int.reduceLE, Int.reduceMul, Nat.reducePow, Int.reducePow, Nat.reduceAdd, Nat.reduceEqDiff, Nat.reduceLT, Nat.reduceLeDiff, Nat.reduceMul, Nat.reduceSub, reduceCtorEq, ↓reduceIte]
  try refine hK _ ?_
  repeat (first | refine awp_seq ?_ | refine awp_block ?_ | refine awp_skip ?_ | refine awp_scope ?_ | refine awp_label ?_)
  refine awp_cond (b := !is) (by simp -dsimp -implicitDefEqProofs only [push_cast, ↓trAdd_f, ↓stOf_f, Nat.reduceBEq, Int.reduceBEq, Int.reduceBNe, Int.reduceNeg, Int.reduceAdd, Int.reduceSub, Int.reduceLT, Int.reduceLE, Int.reduceMul, Nat.reducePow, Int.reducePow, Nat.reduceAdd, Nat.reduceEqDiff, Nat.reduceLT, Nat.reduceLeDiff, Nat.reduceMul, Nat.reduceSub, reduceCtorEq, ↓reduceIte]) (fun h => ?_) (fun h => ?_)
  · have e : boundP l (n : Int) = (0, false) := by rw [hbp, if_neg (by simp at h; simp [h])]
    try refine hK _ ?_
    repeat (first | refine awp_seq ?_ | refine awp_block ?_ | refine awp_skip ?_ | refine awp_scope ?_ | refine awp_label ?_)
    refine awp_region tabOk fun K hK => ?_
    simp -dsimp -implicitDefEqProofs only [push_cast, ↓trAdd_f, ↓stOf_f, Nat.reduceBEq, Int.reduceBEq, Int.reduceBNe, Int.reduceNeg, Int.reduceAdd, Int.reduceSub, Int.reduceLT, Int.reduceLE, Int.reduceMul, Nat.reducePow, Int.reducePow, Nat.reduceAdd, Nat.reduceEqDiff, Nat.reduceLT, Nat.reduceLeDiff, Nat.reduceMul, Nat.reduceSub, reduceCtorEq, ↓reduceIte]
    refine hK _ (awp_ret ?_)
    simp -dsimp -implicitDefEqProofs only [e, push_cast, List.mem_append, List.mem_cons, List.mem_singleton, forall_eq_or_imp, forall_eq, ↓trAdd_f, ↓stOf_f, Nat.reduceBEq, Int.reduceBEq, Int.reduceBNe, Int.reduceNeg, Int.reduceAdd, Int.reduceSub, Int.reduceLT, Int.reduceLE, Int.reduceMul, Nat.reducePow, Int.reducePow, Nat.reduceAdd, Nat.reduceEqDiff, Nat.reduceLT, Nat.reduceLeDiff, Nat.reduceMul, Nat.reduceSub, reduceCtorEq, ↓reduceIte]
  have his : is = true := by simpa using h
  subst his
  rw [if_pos rfl] at hbp
  obtain ⟨ht1, ht2, ht3, ht4⟩ := hsp.1 rfl
  clear h hsp hca
  have p1 := hst.1
  have p2 := hst.2.1
  have p3 := hst.2.2.1
  have p4 := hst.2.2.2.1
  have p5 := hst.2.2.2.2.1
  have p6 := hst.2.2.2.2.2
  have hroom := busy_room hn hs hb0 (by omega : 0 ≤ t) (by omega) ht1
  have hld := load_nonneg (l.take n) (fun s hm => hs s (List.mem_of_mem_take hm)) t 0 (by omega) (by decide)
  have hdiv : (t + l[n].jitter + l[n].period - 1).tdiv l[n].period = (t + l[n].jitter + l[n].period - 1) / l[n].period := Int.tdiv_eq_ediv_of_nonneg (by omega)
  have hQ0 : 0 ≤ (t + l[n].jitter + l[n].period - 1) / l[n].period := Int.ediv_nonneg (by omega) (by omega)
  have hp0 : ¬ l[n].period = 0 := by omega
  generalize hQ : (t + l[n].jitter + l[n].period - 1) / l[n].period = Q at *
  obtain ⟨Q, rfl⟩ := Int.eq_ofNat_of_zero_le hQ0
  rw [Int.toNat_natCast] at hbp
  have hQC : (Q : Int) * 1 ≤ Q * l[n].bits := Int.mul_le_mul_of_nonneg_left p1 (by omega)
  have hQ7 : (Q : Int) ≤ 10000000 := by omega
  have hw2 : IntKind.i64.wrap (t + l[n].jitter) = t + l[n].jitter := wrap_i64 (by omega) (by omega)
  have hw3 : IntKind.i64.wrap (t + l[n].jitter + l[n].period) = t + l[n].jitter + l[n].period := wrap_i64 (by omega) (by omega)
  have hw4 : IntKind.i64.wrap (t + l[n].jitter + l[n].period - 1) = t + l[n].jitter + l[n].period - 1 := wrap_i64 (by omega) (by omega)
  have hw5 : IntKind.i64.wrap (Q : Int) = Q := wrap_i64 (by omega) (by omega)
  try refine hK _ ?_
  repeat (first | refine awp_seq ?_ | refine awp_block ?_ | refine awp_skip ?_ | refine awp_scope ?_ | refine awp_label ?_)
  refine awp_region tabOk fun K hK => ?_
  simp -dsimp -implicitDefEqProofs only [push_cast, ↓trAdd_f, ↓stOf_f, Nat.reduceBEq, Int.reduceBEq, Int.reduceBNe, Int.reduceNeg, Int.reduceAdd, Int.reduceSub, Int.reduceLT, Int.reduceLE, Int.reduceMul, Nat.reducePow, Int.reducePow, Nat.reduceAdd, Nat.reduceEqDiff, Nat.reduceLT, Nat.reduceLeDiff, Nat.reduceMul, Nat.reduceSub, reduceCtorEq, ↓reduceIte]
  try refine hK _ ?_
  repeat (first | refine awp_seq ?_ | refine awp_block ?_ | refine awp_skip ?_ | refine awp_scope ?_ | refine awp_label ?_)
  refine awp_region tabOk fun K hK => ?_
  simp -dsimp -implicitDefEqProofs only [push_cast, ↓trAdd_f, ↓stOf_f, Nat.reduceBEq, Int.reduceBEq, Int.reduceBNe, Int.reduceNeg, Int.reduceAdd, Int.reduceSub, Int.reduceLT, Int.reduceLE, Int.reduceMul, Nat.reducePow, Int.reducePow, Nat.reduceAdd, Nat.reduceEqDiff, Nat.reduceLT, Nat.reduceLeDiff, Nat.reduceMul, Nat.reduceSub, reduceCtorEq, ↓reduceIte]
  try refine hK _ ?_
  repeat (first | refine awp_seq ?_ | refine awp_block ?_ | refine awp_skip ?_ | refine awp_scope ?_ | refine awp_label ?_)
  refine awp_region tabOk fun K hK => ?_
  simp -dsimp -implicitDefEqProofs only [hw2, hw3, hw4, hdiv, hw5, hp0, push_cast, ↓trAdd_f, ↓stOf_f, Nat.reduceBEq, Int.reduceBEq, Int.reduceBNe, Int.reduceNeg, Int.reduceAdd, Int.reduceSub, Int.reduceLT, Int.reduceLE, Int.reduceMul, Nat.reducePow, Int.reducePow, Nat.reduceAdd, Nat.reduceEqDiff, Nat.reduceLT, Nat.reduceLeDiff, Nat.reduceMul, Nat.reduceSub, reduceCtorEq, ↓reduceIte]
  refine hK _ (awp_block ?_)
  refine awp_for (fun q : Nat => { sl := [(2, .ptr 0 0), (3, .ptr 8 0), (6, .ptr 88 0), (7, .ptr 96 0), (10, .int .i64 (mostQ l n b l[n] q).1), (11, .int .i64 (mostQ l n b l[n] q).2), (55, .int .i64 Q), (56, .int .i64 q)], st := [(0, .box [.sl false 3 (l.map encStream)]), (8, .box [.int .i64 n]), (88, .box (encStream l[n])), (96, .box [.int .i64 b])], nx := 232, n := 88 }) (fun q => q ≤ Q) (fun q => Q - q) 0 (Nat.zero_le _) ?_ fun q hq => ?_
  · have : mostQ l n b l[n] 0 = (0, b) := rfl
    refine le_intro hB [] (by simp) (fun b _ => rfl) rfl ?_ ?_ rfl <;> simp -dsimp -implicitDefEqProofs only [this, encStream, push_cast, ↓trAdd_f, ↓stOf_f, Nat.reduceBEq, Int.reduceBEq, Int.reduceBNe, Int.reduceNeg, Int.reduceAdd, Int.reduceSub, Int.reduceLT, Int.reduceLE, Int.reduceMul, Nat.reducePow, Int.reducePow, Nat.reduceAdd, Nat.reduceEqDiff, Nat.reduceLT, Nat.reduceLeDiff, Nat.reduceMul, Nat.reduceSub, reduceCtorEq, ↓reduceIte]
  simp only [encStream]
  try refine hK _ ?_
  repeat (first | refine awp_seq ?_ | refine awp_block ?_ | refine awp_skip ?_ | refine awp_scope ?_ | refine awp_label ?_)
  refine awp_region tabOk fun K hK => ?_
  simp -dsimp -implicitDefEqProofs only [push_cast, ↓trAdd_f, ↓stOf_f, Nat.reduceBEq, Int.reduceBEq, Int.reduceBNe, Int.reduceNeg, Int.reduceAdd, Int.reduceSub, Int.reduceLT, Int.reduceLE, Int.reduceMul, Nat.reducePow, Int.reducePow, Nat.reduceAdd, Nat.reduceEqDiff, Nat.reduceLT, Nat.reduceLeDiff, Nat.reduceMul, Nat.reduceSub, reduceCtorEq, ↓reduceIte]
  try refine hK _ ?_
  repeat (first | refine awp_seq ?_ | refine awp_block ?_ | refine awp_skip ?_ | refine awp_scope ?_ | refine awp_label ?_)
  refine awp_cond (b := decide ((q : Int) < Q)) (by simp -dsimp -implicitDefEqProofs only [push_cast, ↓trAdd_f, ↓stOf_f, Nat.reduceBEq, Int.reduceBEq, Int.reduceBNe, Int.reduceNeg, Int.reduceAdd, Int.reduceSub, Int.reduceLT, Int.reduceLE, Int.reduceMul, Nat.reducePow, Int.reducePow, Nat.reduceAdd, Nat.reduceEqDiff, Nat.reduceLT, Nat.reduceLeDiff, Nat.reduceMul, Nat.reduceSub, reduceCtorEq, ↓reduceIte]) (fun h => ?_) (fun h => ?_)
  · have hqQ : q < Q := by simpa using h
    clear h
    have hqC : (q : Int) * l[n].bits ≤ Q * l[n].bits := Int.mul_le_mul_of_nonneg_right (by omega) (by omega)
    have hqC0 : 0 ≤ (q : Int) * l[n].bits := Int.mul_nonneg (by omega) (by omega)
    have hqT : (q : Int) * l[n].period ≤ 10000000 * 1000000 := Int.mul_le_mul (by omega) (by omega) (by omega) (by omega)
    have hqT0 : 0 ≤ (q : Int) * l[n].period := Int.mul_nonneg (by omega) (by omega)
    have hinv := mostQ_inv (i := n) hs hst hb0 hb1 q (by omega)
    have hinv2 := qinv_step hs hst hb0 (by omega) hinv
    have hnext : mostQ l n b l[n] (q + 1) = stepQ l n b l[n] q (mostQ l n b l[n] q) := rfl
    have hca := least2_ok l n b q (max (mostQ l n b l[n] q).2 (b + q * l[n].bits)) l[n] hl16 hn hs hst (by have := hinv.w0; omega) (by have := hinv.w1; omega) hb0 (by omega) (by omega) (by omega) (start_up hs hinv.w0 hinv.up)
    simp only [encStream] at hca
    have hu1 : IntKind.i64.wrap ((q : Int) * l[n].bits) = q * l[n].bits := wrap_i64 (by omega) (by omega)
    have hu2 : IntKind.i64.wrap (b + (q : Int) * l[n].bits) = b + q * l[n].bits := wrap_i64 (by omega) (by omega)
    unfold stepQ at hinv2 hnext
    generalize mostQ l n b l[n] q = X at *
    obtain ⟨M, w⟩ := X
    simp only at hca hinv2 hnext
    generalize leastF (fWait l n b l[n].bits q) (max w (b + q * l[n].bits)) = Z at *
    obtain ⟨w', is⟩ := Z
    have g1 := hinv.m0
    have g2 := hinv.m1
    have g3 := hinv2.w0
    have g4 := hinv2.w1
    simp only at hca g1 g2 g3 g4 hnext
    try refine hK _ ?_
    repeat (first | refine awp_seq ?_ | refine awp_block ?_ | refine awp_skip ?_ | refine awp_scope ?_ | refine awp_label ?_)
    refine awp_region tabOk fun K hK => ?_
    simp -dsimp -implicitDefEqProofs only [push_cast, ↓trAdd_f, ↓stOf_f, Nat.reduceBEq, Int.reduceBEq, Int.reduceBNe, Int.reduceNeg, Int.reduceAdd, Int.reduceSub, Int.reduceLT, Int.reduceLE, Int.reduceMul, Nat.reducePow, Int.reducePow, Nat.reduceAdd, Nat.reduceEqDiff, Nat.reduceLT, Nat.reduceLeDiff, Nat.reduceMul, Nat.reduceSub, reduceCtorEq, ↓reduceIte]
    try refine hK _ ?_
    repeat (first | refine awp_seq ?_ | refine awp_block ?_ | refine awp_skip ?_ | refine awp_scope ?_ | refine awp_label ?_)
    refine awp_region tabOk fun K hK => ?_
    simp -dsimp -implicitDefEqProofs only [hu1, hu2, push_cast, ↓trAdd_f, ↓stOf_f, Nat.reduceBEq, Int.reduceBEq, Int.reduceBNe, Int.reduceNeg, Int.reduceAdd, Int.reduceSub, Int.reduceLT, Int.reduceLE, Int.reduceMul, Nat.reducePow, Int.reducePow, Nat.reduceAdd, Nat.reduceEqDiff, Nat.reduceLT, Nat.reduceLeDiff, Nat.reduceMul, Nat.reduceSub, reduceCtorEq, ↓reduceIte]
    refine ⟨22, [], [], { args := [.int .i64 (max w (b + q * l[n].bits)), .fn (.func 25) [] [.ptr 0 0, .ptr 1 0, .ptr 2 0, .ptr 3 0, .ptr 4 0]], st0 := [(0, .box [.int .i64 b]), (1, .box [.int .i64 q]), (2, .box (encStream l[n])), (3, .box [.sl false 3 (l.map encStream)]), (4, .box [.int .i64 n])], res := .tup [.int .i64 w', .bool is], st1 := [(0, .box [.int .i64 b]), (1, .box [.int .i64 q]), (2, .box (encStream l[n])), (3, .box [.sl false 3 (l.map encStream)]), (4, .box [.int .i64 n])], r := [96, 248, 88, 0, 8] }, rfl, hca, ?_, ?_⟩
    · simp only [encStream]
      simp -dsimp -implicitDefEqProofs only [push_cast, List.mem_append, List.mem_cons, List.mem_singleton, forall_eq_or_imp, forall_eq, ↓trAdd_f, ↓stOf_f, Nat.reduceBEq, Int.reduceBEq, Int.reduceBNe, Int.reduceNeg, Int.reduceAdd, Int.reduceSub, Int.reduceLT, Int.reduceLE, Int.reduceMul, Nat.reducePow, Int.reducePow, Nat.reduceAdd, Nat.reduceEqDiff, Nat.reduceLT, Nat.reduceLeDiff, Nat.reduceMul, Nat.reduceSub, reduceCtorEq, ↓reduceIte]
      exact rfl
    simp only [encStream]
    simp -dsimp -implicitDefEqProofs only [push_cast, ↓trAdd_f, ↓stOf_f, Nat.reduceBEq, Int.reduceBEq, Int.reduceBNe, Int.reduceNeg, Int.reduceAdd, Int.reduceSub, Int.reduceLT, Int.reduceLE, Int.reduceMul, Nat.reducePow, Int.reducePow, Nat.reduceAdd, Nat.reduceEqDiff, Nat.reduceLT, Nat.reduceLeDiff, Nat.reduceMul, Nat.reduceSub, reduceCtorEq, ↓reduceIte]
    have hu3 : IntKind.i64.wrap (l[n].jitter + w') = l[n].jitter + w' := wrap_i64 (by omega) (by omega)
    have hu4 : IntKind.i64.wrap ((q : Int) * l[n].period) = q * l[n].period := wrap_i64 (by omega) (by omega)
    have hu5 : IntKind.i64.wrap (l[n].jitter + w' - q * l[n].period) = l[n].jitter + w' - q * l[n].period := wrap_i64 (by omega) (by omega)
    have hu6 : IntKind.i64.wrap (l[n].jitter + w' - q * l[n].period + l[n].bits) = l[n].jitter + w' - q * l[n].period + l[n].bits := wrap_i64 (by omega) (by omega)
    try refine hK _ ?_
    repeat (first | refine awp_seq ?_ | refine awp_block ?_ | refine awp_skip ?_ | refine awp_scope ?_ | refine awp_label ?_)
    refine awp_region tabOk fun K hK => ?_
    simp -dsimp -implicitDefEqProofs only [hu3, hu4, hu5, hu6, push_cast, ↓trAdd_f, ↓stOf_f, Nat.reduceBEq, Int.reduceBEq, Int.reduceBNe, Int.reduceNeg, Int.reduceAdd, Int.reduceSub, Int.reduceLT, Int.reduceLE, Int.reduceMul, Nat.reducePow, Int.reducePow, Nat.reduceAdd, Nat.reduceEqDiff, Nat.reduceLT, Nat.reduceLeDiff, Nat.reduceMul, Nat.reduceSub, reduceCtorEq, ↓reduceIte]
    try refine hK _ ?_
    repeat (first | refine awp_seq ?_ | refine awp_block ?_ | refine awp_skip ?_ | refine awp_scope ?_ | refine awp_label ?_)
    refine awp_region tabOk fun K hK => ?_
    simp -dsimp -implicitDefEqProofs only [push_cast, ↓trAdd_f, ↓stOf_f, Nat.reduceBEq, Int.reduceBEq, Int.reduceBNe, Int.reduceNeg, Int.reduceAdd, Int.reduceSub, Int.reduceLT, Int.reduceLE, Int.reduceMul, Nat.reducePow, Int.reducePow, Nat.reduceAdd, Nat.reduceEqDiff, Nat.reduceLT, Nat.reduceLeDiff, Nat.reduceMul, Nat.reduceSub, reduceCtorEq, ↓reduceIte]
    try simp (disch := omega) only [wrap_i64, wrap_u8, wrap_u16, wrap_u32]
    refine hK _ ⟨q + 1, hqQ, by omega, ?_⟩
    rw [hnext]
    refine le_intro hB [] (by simp) (fun b _ => rfl) rfl ?_ ?_ rfl <;> simp -dsimp -implicitDefEqProofs only [encStream, push_cast, ↓trAdd_f, ↓stOf_f, Nat.reduceBEq, Int.reduceBEq, Int.reduceBNe, Int.reduceNeg, Int.reduceAdd, Int.reduceSub, Int.reduceLT, Int.reduceLE, Int.reduceMul, Nat.reducePow, Int.reducePow, Nat.reduceAdd, Nat.reduceEqDiff, Nat.reduceLT, Nat.reduceLeDiff, Nat.reduceMul, Nat.reduceSub, reduceCtorEq, ↓reduceIte]
  · have he : q = Q := by simp at h; omega
    subst he
    refine awp_exit rfl ?_
    try refine hK _ ?_
    repeat (first | refine awp_seq ?_ | refine awp_block ?_ | refine awp_skip ?_ | refine awp_scope ?_ | refine awp_label ?_)
    refine awp_region tabOk fun K hK => ?_
    simp -dsimp -implicitDefEqProofs only [push_cast, ↓trAdd_f, ↓stOf_f, Nat.reduceBEq, Int.reduceBEq, Int.reduceBNe, Int.reduceNeg, Int.reduceAdd, Int.reduceSub, Int.reduceLT, Int.reduceLE, Int.reduceMul, Nat.reducePow, Int.reducePow, Nat.reduceAdd, Nat.reduceEqDiff, Nat.reduceLT, Nat.reduceLeDiff, Nat.reduceMul, Nat.reduceSub, reduceCtorEq, ↓reduceIte]
    refine hK _ (awp_ret ?_)
    simp -dsimp -implicitDefEqProofs only [hbp, push_cast, List.mem_append, List.mem_cons, List.mem_singleton, forall_eq_or_imp, forall_eq, ↓trAdd_f, ↓stOf_f, Nat.reduceBEq, Int.reduceBEq, Int.reduceBNe, Int.reduceNeg, Int.reduceAdd, Int.reduceSub, Int.reduceLT, Int.reduceLE, Int.reduceMul, Nat.reducePow, Int.reducePow, Nat.reduceAdd, Nat.reduceEqDiff, Nat.reduceLT, Nat.reduceLeDiff, Nat.reduceMul, Nat.reduceSub, reduceCtorEq, ↓reduceIte]
end Go.Proofs.YtahkpghgjjlgdaaFw

/-
  The walk of head.
-/
namespace Go.Proofs.YtahkpghgjjlgdaaFw
open Go Go.Proofs
set_option maxRecDepth 100000
set_option maxHeartbeats 16000000
set_option linter.unusedVariables false
set_option linter.unusedSimpArgs false

theorem playBad_ok (l : List Stream) (bs : List Int) (until_ : Int) (hr : rightS l = true) (h5 : l.length ≤ 5) (hb : bs.length ≤ 2 ^ 30) (hne : bs.length ≠ l.length) :
    FnS Try.prog 18 [.sl false 3 (l.map encStream), .sl false 1 (bs.map encI), .int .i64 until_] [] (.sl false 1 []) [] := by
  have hne' : ((bs.length : Int) != (l.length : Int)) = true := by simp; omega
  refine fn_walk tabOk Try.func18 rfl (by decide +kernel) Try.ntmps18 Try.results18 (by simp) fun B hB => ?_
  try refine hK _ ?_
  repeat (first | refine awp_seq ?_ | refine awp_block ?_ | refine awp_skip ?_ | refine awp_scope ?_ | refine awp_label ?_)
  refine awp_region tabOk fun K hK => ?_
  simp -dsimp -implicitDefEqProofs only [push_cast, ↓trAdd_f, ↓stOf_f, seval]
  try refine hK _ ?_
  repeat (first | refine awp_seq ?_ | refine awp_block ?_ | refine awp_skip ?_ | refine awp_scope ?_ | refine awp_label ?_)
  refine awp_region tabOk fun K hK => ?_
  simp -dsimp -implicitDefEqProofs only [push_cast, ↓trAdd_f, ↓stOf_f, seval]
  refine callK_simple (rRight_ok false l (by omega)) ?_ rfl fun _ => ?_
  · simp -dsimp -implicitDefEqProofs only [push_cast, List.mem_append, List.mem_cons, List.mem_singleton, forall_eq_or_imp, forall_eq, ↓trAdd_f, ↓stOf_f, seval]
  rw [hr]
  simp -dsimp -implicitDefEqProofs only [hne', push_cast, ↓trAdd_f, ↓stOf_f, seval]
  try refine hK _ ?_
  repeat (first | refine awp_seq ?_ | refine awp_block ?_ | refine awp_skip ?_ | refine awp_scope ?_ | refine awp_label ?_)
  refine awp_cond (b := true) (by simp -dsimp -implicitDefEqProofs only [push_cast, ↓trAdd_f, ↓stOf_f, seval]) (fun h => ?_) (fun h => ?_)
  · try refine hK _ ?_
    repeat (first | refine awp_seq ?_ | refine awp_block ?_ | refine awp_skip ?_ | refine awp_scope ?_ | refine awp_label ?_)
    refine awp_region tabOk fun K hK => ?_
    simp -dsimp -implicitDefEqProofs only [push_cast, ↓trAdd_f, ↓stOf_f, seval]
    refine hK _ (awp_ret ?_)
    simp -dsimp -implicitDefEqProofs only [push_cast, List.mem_append, List.mem_cons, List.mem_singleton, forall_eq_or_imp, forall_eq, ↓trAdd_f, ↓stOf_f, seval]
  · simp at h
def headS : List Stream := [{ bits := 100, period := 1000, jitter := 50 }, { bits := 200, period := 1000, jitter := 0 }]
theorem boundH0 : boundP headS 0 = (350, true) := by decide +kernel
theorem boundH1 : boundP headS 1 = (300, true) := by decide +kernel
theorem boundH2 : boundP headS 2 = (0, false) := by decide +kernel
theorem boundH3 : boundP [{ bits := 1000, period := 1, jitter := 0 }] 0 = (0, false) := by decide +kernel
theorem boundH4 : boundP [{ bits := 100, period := 1000, jitter := 50 }] (-1) = (0, false) := by decide +kernel
theorem playH0 : playZ headS [0, 0] 1000 = [100, 300] := by decide +kernel
theorem playH1 : playZ headS [1, 0] 1000 = [299, 200] := by decide +kernel
theorem playH2 : playZ headS [0, 0] 0 = [0, 0] := by decide +kernel
theorem rightH0 : rightS headS = true := by decide
theorem rightH1 : rightS [] = false := by decide
theorem rightH2 : rightS [{ bits := 1, period := 0, jitter := 0 }] = false := by decide
theorem headP0 : FnS Try.prog 18 [.sl false 3 (headS.map encStream), .sl false 1 (([0, 0] : List Int).map encI), .int .i64 1000] [] (.sl false 1 (([100, 300] : List Int).map encI)) [] := by
  rw [← playH0]; exact play2_ok _ _ 0 0 1000 rightH0 (by decide) (by decide)
theorem headP1 : FnS Try.prog 18 [.sl false 3 (headS.map encStream), .sl false 1 (([1, 0] : List Int).map encI), .int .i64 1000] [] (.sl false 1 (([299, 200] : List Int).map encI)) [] := by
  rw [← playH1]; exact play2_ok _ _ 1 0 1000 rightH0 (by decide) (by decide)
theorem headP2 : FnS Try.prog 18 [.sl false 3 (headS.map encStream), .sl false 1 (([0, 0] : List Int).map encI), .int .i64 0] [] (.sl false 1 (([0, 0] : List Int).map encI)) [] := by
  rw [← playH2]; exact play2_ok _ _ 0 0 0 rightH0 (by decide) (by decide)
theorem head_ok : FnS Try.prog 10 [] [] (.bool true) [] := by
  refine fn_walk tabOk Try.func10 rfl (by decide +kernel) Try.ntmps10 Try.results10 (by simp) fun B hB => ?_
  try refine hK _ ?_
  repeat (first | refine awp_seq ?_ | refine awp_block ?_ | refine awp_skip ?_ | refine awp_scope ?_ | refine awp_label ?_)
  refine awp_region tabOk fun K hK => ?_
  simp -dsimp -implicitDefEqProofs only [push_cast, ↓trAdd_f, ↓stOf_f, seval]
  try refine hK _ ?_
  repeat (first | refine awp_seq ?_ | refine awp_block ?_ | refine awp_skip ?_ | refine awp_scope ?_ | refine awp_label ?_)
  refine awp_region tabOk fun K hK => ?_
  simp -dsimp -implicitDefEqProofs only [push_cast, ↓trAdd_f, ↓stOf_f, seval]
  try refine hK _ ?_
  repeat (first | refine awp_seq ?_ | refine awp_block ?_ | refine awp_skip ?_ | refine awp_scope ?_ | refine awp_label ?_)
  refine awp_region tabOk fun K hK => ?_
  simp -dsimp -implicitDefEqProofs only [push_cast, ↓trAdd_f, ↓stOf_f, seval]
  refine callK_simple (bound_ok headS 0 (by decide) ⟨by decide, by decide⟩) ?_ rfl fun _ => ?_
  · simp -dsimp -implicitDefEqProofs only [headS, encStream, push_cast, List.mem_append, List.mem_cons, List.mem_singleton, forall_eq_or_imp, forall_eq, ↓trAdd_f, ↓stOf_f, seval]
  rw [boundH0]
  simp -dsimp -implicitDefEqProofs only [push_cast, ↓trAdd_f, ↓stOf_f, seval]
  try refine hK _ ?_
  repeat (first | refine awp_seq ?_ | refine awp_block ?_ | refine awp_skip ?_ | refine awp_scope ?_ | refine awp_label ?_)
  refine awp_region tabOk fun K hK => ?_
  simp -dsimp -implicitDefEqProofs only [push_cast, ↓trAdd_f, ↓stOf_f, seval]
  refine callK_simple (bound_ok headS 1 (by decide) ⟨by decide, by decide⟩) ?_ rfl fun _ => ?_
  · simp -dsimp -implicitDefEqProofs only [headS, encStream, push_cast, List.mem_append, List.mem_cons, List.mem_singleton, forall_eq_or_imp, forall_eq, ↓trAdd_f, ↓stOf_f, seval]
  rw [boundH1]
  simp -dsimp -implicitDefEqProofs only [push_cast, ↓trAdd_f, ↓stOf_f, seval]
  try refine hK _ ?_
  repeat (first | refine awp_seq ?_ | refine awp_block ?_ | refine awp_skip ?_ | refine awp_scope ?_ | refine awp_label ?_)
  refine awp_region tabOk fun K hK => ?_
  simp -dsimp -implicitDefEqProofs only [push_cast, ↓trAdd_f, ↓stOf_f, seval]
  refine callK_simple (bound_ok headS 2 (by decide) ⟨by decide, by decide⟩) ?_ rfl fun _ => ?_
  · simp -dsimp -implicitDefEqProofs only [headS, encStream, push_cast, List.mem_append, List.mem_cons, List.mem_singleton, forall_eq_or_imp, forall_eq, ↓trAdd_f, ↓stOf_f, seval]
  rw [boundH2]
  simp -dsimp -implicitDefEqProofs only [push_cast, ↓trAdd_f, ↓stOf_f, seval]
  try refine hK _ ?_
  repeat (first | refine awp_seq ?_ | refine awp_block ?_ | refine awp_skip ?_ | refine awp_scope ?_ | refine awp_label ?_)
  refine awp_region tabOk fun K hK => ?_
  simp -dsimp -implicitDefEqProofs only [push_cast, ↓trAdd_f, ↓stOf_f, seval]
  refine callK_simple (bound_ok [{ bits := 1000, period := 1, jitter := 0 }] 0 (by decide) ⟨by decide, by decide⟩) ?_ rfl fun _ => ?_
  · simp -dsimp -implicitDefEqProofs only [headS, encStream, push_cast, List.mem_append, List.mem_cons, List.mem_singleton, forall_eq_or_imp, forall_eq, ↓trAdd_f, ↓stOf_f, seval]
  rw [boundH3]
  simp -dsimp -implicitDefEqProofs only [push_cast, ↓trAdd_f, ↓stOf_f, seval]
  try refine hK _ ?_
  repeat (first | refine awp_seq ?_ | refine awp_block ?_ | refine awp_skip ?_ | refine awp_scope ?_ | refine awp_label ?_)
  refine awp_region tabOk fun K hK => ?_
  simp -dsimp -implicitDefEqProofs only [push_cast, ↓trAdd_f, ↓stOf_f, seval]
  refine callK_simple (bound_ok [{ bits := 100, period := 1000, jitter := 50 }] (-1) (by decide) ⟨by decide, by decide⟩) ?_ rfl fun _ => ?_
  · simp -dsimp -implicitDefEqProofs only [headS, encStream, push_cast, List.mem_append, List.mem_cons, List.mem_singleton, forall_eq_or_imp, forall_eq, ↓trAdd_f, ↓stOf_f, seval]
  rw [boundH4]
  simp -dsimp -implicitDefEqProofs only [push_cast, ↓trAdd_f, ↓stOf_f, seval]
  refine hK _ ?_
  refine awp_le (le_frz _ [24] ?_ ?_ ?_) ?_
  · simp -dsimp -implicitDefEqProofs only [push_cast, ↓trAdd_f, ↓stOf_f, seval]
  · simp -dsimp -implicitDefEqProofs only [push_cast, ↓trAdd_f, ↓stOf_f, seval]
  · simp -dsimp -implicitDefEqProofs only [push_cast, ↓trAdd_f, ↓stOf_f, seval]
  simp -dsimp -implicitDefEqProofs only [push_cast, ↓trAdd_f, ↓stOf_f, seval]
  try refine hK _ ?_
  repeat (first | refine awp_seq ?_ | refine awp_block ?_ | refine awp_skip ?_ | refine awp_scope ?_ | refine awp_label ?_)
  refine awp_region tabOk fun K hK => ?_
  dsimp only [List.append]
  simp -dsimp -implicitDefEqProofs only [push_cast, ↓trAdd_f, ↓stOf_f, seval]
  refine callK_simple (rRight_ok false headS (by decide)) ?_ rfl fun _ => ?_
  · simp -dsimp -implicitDefEqProofs only [headS, encStream, push_cast, List.mem_append, List.mem_cons, List.mem_singleton, forall_eq_or_imp, forall_eq, ↓trAdd_f, ↓stOf_f, seval]
  rw [rightH0]
  simp -dsimp -implicitDefEqProofs only [push_cast, ↓trAdd_f, ↓stOf_f, seval]
  refine callK_simple (rRight_ok true [] (by decide)) ?_ rfl fun _ => ?_
  · simp -dsimp -implicitDefEqProofs only [headS, encStream, push_cast, List.mem_append, List.mem_cons, List.mem_singleton, forall_eq_or_imp, forall_eq, ↓trAdd_f, ↓stOf_f, seval]
  rw [rightH1]
  simp -dsimp -implicitDefEqProofs only [push_cast, ↓trAdd_f, ↓stOf_f, seval]
  refine callK_simple (rRight_ok false [{ bits := 1, period := 0, jitter := 0 }] (by decide)) ?_ rfl fun _ => ?_
  · simp -dsimp -implicitDefEqProofs only [headS, encStream, push_cast, List.mem_append, List.mem_cons, List.mem_singleton, forall_eq_or_imp, forall_eq, ↓trAdd_f, ↓stOf_f, seval]
  rw [rightH2]
  simp -dsimp -implicitDefEqProofs only [push_cast, ↓trAdd_f, ↓stOf_f, seval]
  refine callK_simple headP0 ?_ rfl fun _ => ?_
  · simp -dsimp -implicitDefEqProofs only [headS, encStream, encI, push_cast, List.mem_append, List.mem_cons, List.mem_singleton, forall_eq_or_imp, forall_eq, ↓trAdd_f, ↓stOf_f, seval]
  simp -dsimp -implicitDefEqProofs only [encI, push_cast, ↓trAdd_f, ↓stOf_f, seval]
  refine callK_simple (ints_ok false false [100, 300] [100, 300] (by decide)) ?_ rfl fun _ => ?_
  · simp -dsimp -implicitDefEqProofs only [headS, encStream, encI, push_cast, List.mem_append, List.mem_cons, List.mem_singleton, forall_eq_or_imp, forall_eq, ↓trAdd_f, ↓stOf_f, seval]
  simp -dsimp -implicitDefEqProofs only [push_cast, ↓trAdd_f, ↓stOf_f, seval]
  refine callK_simple headP1 ?_ rfl fun _ => ?_
  · simp -dsimp -implicitDefEqProofs only [headS, encStream, encI, push_cast, List.mem_append, List.mem_cons, List.mem_singleton, forall_eq_or_imp, forall_eq, ↓trAdd_f, ↓stOf_f, seval]
  simp -dsimp -implicitDefEqProofs only [encI, push_cast, ↓trAdd_f, ↓stOf_f, seval]
  refine callK_simple (ints_ok false false [299, 200] [299, 200] (by decide)) ?_ rfl fun _ => ?_
  · simp -dsimp -implicitDefEqProofs only [headS, encStream, encI, push_cast, List.mem_append, List.mem_cons, List.mem_singleton, forall_eq_or_imp, forall_eq, ↓trAdd_f, ↓stOf_f, seval]
  simp -dsimp -implicitDefEqProofs only [push_cast, ↓trAdd_f, ↓stOf_f, seval]
  refine callK_simple (playBad_ok headS [0] 1000 rightH0 (by decide) (by decide) (by decide)) ?_ rfl fun _ => ?_
  · simp -dsimp -implicitDefEqProofs only [headS, encStream, encI, push_cast, List.mem_append, List.mem_cons, List.mem_singleton, forall_eq_or_imp, forall_eq, ↓trAdd_f, ↓stOf_f, seval]
  simp -dsimp -implicitDefEqProofs only [encI, push_cast, ↓trAdd_f, ↓stOf_f, seval]
  refine callK_simple headP2 ?_ rfl fun _ => ?_
  · simp -dsimp -implicitDefEqProofs only [headS, encStream, encI, push_cast, List.mem_append, List.mem_cons, List.mem_singleton, forall_eq_or_imp, forall_eq, ↓trAdd_f, ↓stOf_f, seval]
  simp -dsimp -implicitDefEqProofs only [encI, push_cast, ↓trAdd_f, ↓stOf_f, seval]
  refine callK_simple (ints_ok false false [0, 0] [0, 0] (by decide)) ?_ rfl fun _ => ?_
  · simp -dsimp -implicitDefEqProofs only [headS, encStream, encI, push_cast, List.mem_append, List.mem_cons, List.mem_singleton, forall_eq_or_imp, forall_eq, ↓trAdd_f, ↓stOf_f, seval]
  simp -dsimp -implicitDefEqProofs only [push_cast, ↓trAdd_f, ↓stOf_f, seval]
  refine hK _ (awp_ret ?_)
  simp -dsimp -implicitDefEqProofs only [push_cast, List.mem_append, List.mem_cons, List.mem_singleton, forall_eq_or_imp, forall_eq, ↓trAdd_f, ↓stOf_f, seval]
end Go.Proofs.YtahkpghgjjlgdaaFw

/-
  How the laws' arguments read.
-/
namespace Go.Proofs.YtahkpghgjjlgdaaFw
open Go Go.Proofs
set_option linter.unusedVariables false
set_option linter.unusedSimpArgs false

theorem I64_wf {x : Int} (h : (Lit.int .i64 x).wf = true) : I64 x := by
  simpa [Lit.wf, IntKind.min, IntKind.max, IntKind.signed, IntKind.bits, I64] using h
theorem u8_wf {x : Int} (h : (Lit.int .u8 x).wf = true) : 0 ≤ x ∧ x ≤ 255 := by
  simpa [Lit.wf, IntKind.min, IntKind.max, IntKind.signed, IntKind.bits] using h
def Stream.i64 (s : Stream) : Prop := I64 s.bits ∧ I64 s.period ∧ I64 s.jitter
theorem opens36 : Opens Try.prog 36 3 encStream Stream.i64 :=
  (opens_struct Try.underlying36 (by kernel_rfl) (opensF_cons rfl (opens_int Try.underlying3 (by kernel_rfl)) (opensF_cons rfl (opens_int Try.underlying3 (by kernel_rfl)) (opensF_one rfl (opens_int Try.underlying3 (by kernel_rfl))))) (fun e : Stream => (e.bits, e.period, e.jitter)) (fun p => ⟨p.1, p.2.1, p.2.2⟩) (fun _ => rfl)).conv (fun _ => rfl) fun y h => ⟨I64_wf h.1, I64_wf h.2.1, I64_wf h.2.2⟩
theorem opens22 : Opens Try.prog 22 1 (fun l : List Stream => [.sl false 3 (l.map encStream)]) (fun l => l.length * 24 ≤ 140737488351232 ∧ l.length ≤ 140737488351232 ∧ ∀ r ∈ l, r.i64) :=
  opens_slice (B := 24) Try.underlying22 (by kernel_rfl) (by kernel_rfl) (by decide) (by decide) opens36
theorem opens23 : Opens Try.prog 23 1 (fun l : List Int => [.sl false 1 (l.map encI)]) (fun l => l.length * 8 ≤ 140737488351232 ∧ l.length ≤ 140737488351232 ∧ ∀ b ∈ l, I64 b) :=
  (opens_slice (B := 8) Try.underlying23 (by kernel_rfl) (by kernel_rfl) (by decide) (by decide) (opens_int Try.underlying3 (by kernel_rfl))).conv (fun _ => rfl) fun y h => ⟨h.1, h.2.1, fun b hb => I64_wf (h.2.2 b hb)⟩
/-- What is asked of one play. -/
structure Played where
  begins : List Int
  until_ : Int
  i : Int
def encPlayed (x : Played) : List PV := [.sl false 1 (x.begins.map encI), .int .i64 x.until_, .int .i64 x.i]
theorem opens25 : Opens Try.prog 25 3 encPlayed (fun x => x.begins.length ≤ 140737488351232 ∧ I64 x.until_ ∧ I64 x.i) :=
  (opens_struct Try.underlying25 (by kernel_rfl) (opensF_cons rfl opens23 (opensF_cons rfl (opens_int Try.underlying3 (by kernel_rfl)) (opensF_one rfl (opens_int Try.underlying3 (by kernel_rfl))))) (fun x : Played => (x.begins, x.until_, x.i)) (fun p => ⟨p.1, p.2.1, p.2.2⟩) (fun _ => rfl)).conv (fun _ => rfl) fun y h => ⟨h.1.2.1, I64_wf h.2.1, I64_wf h.2.2⟩
end Go.Proofs.YtahkpghgjjlgdaaFw

/-
  The law RespBehind: of those behind the longest alone counts.
-/
namespace Go.Proofs.YtahkpghgjjlgdaaFw
open Go Go.Proofs
set_option maxRecDepth 100000
set_option maxHeartbeats 4000000
set_option linter.unusedVariables false
set_option linter.unusedSimpArgs false

def belowTo (m : List Stream) (i j : Nat) : Int := longest ((m.drop (i + 1)).take (j - (i + 1)))
theorem belowTo_0 (m : List Stream) (i : Nat) : belowTo m i (i + 1) = 0 := by unfold belowTo; rw [Nat.sub_self]; rfl
theorem belowTo_end (m : List Stream) (i : Nat) : belowTo m i m.length = below m i := by
  unfold belowTo below; rw [List.take_of_length_le (by simp)]
theorem belowTo_succ (m : List Stream) (i j : Nat) (hi : i + 1 ≤ j) (h : j < m.length) : belowTo m i (j + 1) = max (belowTo m i j) m[j].bits := by
  unfold belowTo
  obtain ⟨r, rfl⟩ : ∃ r, j = i + 1 + r := ⟨j - (i + 1), by omega⟩
  rw [show i + 1 + r + 1 - (i + 1) = r + 1 by omega, show i + 1 + r - (i + 1) = r by omega, longest_succ _ _ (by simp; omega)]; simp
def tailW (b : Int) : List Stream := if 0 < b then [{ bits := b, period := 1000000, jitter := 7 }] else []
def withW (m : List Stream) (k : Nat) : List Stream := m.take (k + 1) ++ tailW (below m k)
theorem right_mk {l : List Stream} (h : ∀ s ∈ l, streamR s = true) (h1 : 1 ≤ l.length) (h2 : l.length ≤ 16) : rightS l = true := by
  unfold rightS betw
  simp only [Bool.and_eq_true, List.all_eq_true, decide_eq_true_eq]
  exact ⟨h, by omega, by omega⟩
theorem right_all {l : List Stream} (h : rightS l = true) : ∀ s ∈ l, streamR s = true := by
  unfold rightS at h
  simp only [Bool.and_eq_true, List.all_eq_true] at h
  exact h.1
theorem behind_law {m : List Stream} {k : Nat} (hr : rightS m = true) (h5 : m.length ≤ 5) (hk : k < m.length) :
    boundP (withW m k) k = boundP m k ∧ ((boundP m k).2 = true → (boundP (m.take (k + 1)) k).2 = true ∧ (boundP (m.take (k + 1)) k).1 ≤ (boundP m k).1) := by
  obtain ⟨hs, _, _⟩ := right_ok_s hr
  have hb := below_bd hs k
  have hlt : (m.take (k + 1)).length = k + 1 := by rw [List.length_take]; omega
  have hall := right_all hr
  have htail : tailW (below m k) = [] ∧ below m k = 0 ∨ tailW (below m k) = [{ bits := below m k, period := 1000000, jitter := 7 }] ∧ 0 < below m k := by
    unfold tailW
    by_cases h : 0 < below m k
    · rw [if_pos h]; exact .inr ⟨rfl, h⟩
    · rw [if_neg h]; exact .inl ⟨rfl, by omega⟩
  have hat : strmAt (m.take (k + 1)) k = strmAt m k := by
    rw [strmAt_eq (by omega), strmAt_eq hk]; simp
  have hatW : strmAt (withW m k) k = strmAt m k := by
    rw [← hat, strmAt_eq (by unfold withW; rw [List.length_append]; omega), strmAt_eq (by omega)]
    unfold withW
    rw [List.getElem_append_left (by omega)]
  have htk : (withW m k).take k = m.take k := by
    unfold withW
    rw [List.take_append_of_le_length (by omega), List.take_take, Nat.min_eq_left (by omega)]
  have hbW : below (withW m k) k = below m k := by
    have : (withW m k).drop (k + 1) = tailW (below m k) := by
      unfold withW
      rw [List.drop_append, hlt, List.drop_of_length_le (by omega), List.nil_append, Nat.sub_self]; rfl
    show longest ((withW m k).drop (k + 1)) = below m k
    rw [this]
    rcases htail with ⟨e, h0⟩ | ⟨e, h0⟩
    · rw [e, h0]; rfl
    · rw [e]; show max 0 (below m k) = below m k; omega
  have hrW : rightS (withW m k) = true := by
    have hlen : (withW m k).length = k + 1 + (tailW (below m k)).length := by unfold withW; rw [List.length_append, hlt]
    have htl : (tailW (below m k)).length ≤ 1 := by rcases htail with ⟨e, _⟩ | ⟨e, _⟩ <;> rw [e] <;> simp
    refine right_mk (fun s hs => ?_) (by omega) (by omega)
    unfold withW at hs
    rcases List.mem_append.1 hs with hs | hs
    · exact hall s (List.mem_of_mem_take hs)
    · rcases htail with ⟨e, h0⟩ | ⟨e, h0⟩
      · rw [e] at hs; cases hs
      · rw [e] at hs
        simp only [List.mem_singleton] at hs
        subst hs
        unfold streamR betw
        simp only [Bool.and_eq_true, decide_eq_true_eq]
        omega
  refine ⟨bound_same hrW hr (by unfold withW; rw [List.length_append]; omega) hk hatW (fun t more => by rw [htk]) hbW, ?_⟩
  have hg : Grows (m.take (k + 1)) m k := ⟨right_mk (fun s hs => hall s (List.mem_of_mem_take hs)) (by omega) (by omega), hr, by omega, hk, by rw [hat]; exact Int.le_refl _, by rw [hat]; exact Int.le_refl _, by rw [hat]; exact Int.le_refl _, fun t more _ _ => by rw [List.take_take, Nat.min_eq_left (by omega)]; exact Int.le_refl _, by
    have : below (m.take (k + 1)) k = 0 := by unfold below; rw [List.drop_of_length_le (by omega)]; rfl
    omega⟩
  exact fun h => hg.le h
theorem respBehind_ok (l : List Stream) (c : Int) (hl : l.length ≤ 2 ^ 47) (hc : 0 ≤ c ∧ c ≤ 255) : FnS Try.prog 7 [.sl false 3 (l.map encStream), .int .u8 c] [] (.bool true) [] := by
  obtain ⟨hr, h1, h5⟩ := cut_right l
  have hcw : IntKind.i64.wrap c = c := wrap_i64 (by omega) (by omega)
  refine fn_walk tabOk Try.func7 rfl (by decide +kernel) Try.ntmps7 Try.results7 (by simp) fun B hB => ?_
  try refine hK _ ?_
  repeat (first | refine awp_seq ?_ | refine awp_block ?_ | refine awp_skip ?_ | refine awp_scope ?_ | refine awp_label ?_)
  refine awp_region tabOk fun K hK => ?_
  simp -dsimp -implicitDefEqProofs only [push_cast, ↓trAdd_f, ↓stOf_f, seval]
  try refine hK _ ?_
  repeat (first | refine awp_seq ?_ | refine awp_block ?_ | refine awp_skip ?_ | refine awp_scope ?_ | refine awp_label ?_)
  refine awp_region tabOk fun K hK => ?_
  simp -dsimp -implicitDefEqProofs only [push_cast, ↓trAdd_f, ↓stOf_f, seval]
  refine callK_simple head_ok ?_ rfl fun _ => ?_
  · simp -dsimp -implicitDefEqProofs only [push_cast, List.mem_append, List.mem_cons, List.mem_singleton, forall_eq_or_imp, forall_eq, ↓trAdd_f, ↓stOf_f, seval]
  simp -dsimp -implicitDefEqProofs only [push_cast, ↓trAdd_f, ↓stOf_f, seval]
  try refine hK _ ?_
  repeat (first | refine awp_seq ?_ | refine awp_block ?_ | refine awp_skip ?_ | refine awp_scope ?_ | refine awp_label ?_)
  refine awp_region tabOk fun K hK => ?_
  simp -dsimp -implicitDefEqProofs only [push_cast, ↓trAdd_f, ↓stOf_f, seval]
  refine callK_simple (cut_ok false l) ?_ rfl fun _ => ?_
  · simp -dsimp -implicitDefEqProofs only [push_cast, List.mem_append, List.mem_cons, List.mem_singleton, forall_eq_or_imp, forall_eq, ↓trAdd_f, ↓stOf_f, seval]
  simp -dsimp -implicitDefEqProofs only [push_cast, ↓trAdd_f, ↓stOf_f, seval]
  generalize cut l = m at *
  obtain ⟨hs, _, _⟩ := right_ok_s hr
  obtain ⟨k, hk, hkm⟩ : ∃ k : Nat, c.tmod (m.length : Int) = k ∧ k < m.length := by
    have e : c.tmod (m.length : Int) = c % m.length := Int.tmod_eq_emod_of_nonneg hc.1
    have p1 := Int.emod_nonneg c (show (m.length : Int) ≠ 0 by omega)
    have p2 := Int.emod_lt_of_pos c (show (0 : Int) < m.length by omega)
    exact ⟨(c % m.length).toNat, by omega, by omega⟩
  try refine hK _ ?_
  repeat (first | refine awp_seq ?_ | refine awp_block ?_ | refine awp_skip ?_ | refine awp_scope ?_ | refine awp_label ?_)
  refine awp_region tabOk fun K hK => ?_
  simp -dsimp -implicitDefEqProofs only [hcw, hk, push_cast, ↓trAdd_f, ↓stOf_f, seval]
  refine ⟨by omega, hK _ ?_⟩
  have hlaw := behind_law hr h5 hkm
  have hbl := below_bd hs k
  refine awp_seq ?_
  refine awp_join { sl := [(0, .sl false 3 (m.map encStream)), (5, .bool true), (6, .int .i64 k), (7, .int .i64 (below m k))], st := [], nx := 0, n := 98 } ?_ (fun _ hl h => awp_le hl h) ?_
  · try refine hK _ ?_
    repeat (first | refine awp_seq ?_ | refine awp_block ?_ | refine awp_skip ?_ | refine awp_scope ?_ | refine awp_label ?_)
    refine awp_region tabOk fun K hK => ?_
    simp -dsimp -implicitDefEqProofs only [push_cast, ↓trAdd_f, ↓stOf_f, seval]
    try simp (disch := omega) only [wrap_i64, wrap_u8, wrap_u16, wrap_u32]
    refine hK _ (awp_block ?_)
    refine awp_for (fun j : Nat => { sl := [(0, .sl false 3 (m.map encStream)), (5, .bool true), (6, .int .i64 k), (7, .int .i64 (belowTo m k j)), (8, .int .i64 j)], st := [], nx := 0, n := 98 }) (fun j => k + 1 ≤ j ∧ j ≤ m.length) (fun j => m.length - j) (k + 1) (by omega) ?_ fun j hj => ?_
    · have e0 := belowTo_0 m k
      refine le_intro hB [] (by simp) (fun b _ => rfl) rfl ?_ ?_ rfl <;> simp -dsimp -implicitDefEqProofs only [e0, push_cast, ↓trAdd_f, ↓stOf_f, seval]
    try refine hK _ ?_
    repeat (first | refine awp_seq ?_ | refine awp_block ?_ | refine awp_skip ?_ | refine awp_scope ?_ | refine awp_label ?_)
    refine awp_region tabOk fun K hK => ?_
    simp -dsimp -implicitDefEqProofs only [push_cast, ↓trAdd_f, ↓stOf_f, seval]
    try refine hK _ ?_
    repeat (first | refine awp_seq ?_ | refine awp_block ?_ | refine awp_skip ?_ | refine awp_scope ?_ | refine awp_label ?_)
    refine awp_cond (b := decide ((j : Int) < m.length)) (by simp -dsimp -implicitDefEqProofs only [push_cast, ↓trAdd_f, ↓stOf_f, seval]) (fun h => ?_) (fun h => ?_)
    · have hlt2 : j < m.length := by simp at h; omega
      have hsucc := belowTo_succ m k j hj.1 hlt2
      try refine hK _ ?_
      repeat (first | refine awp_seq ?_ | refine awp_block ?_ | refine awp_skip ?_ | refine awp_scope ?_ | refine awp_label ?_)
      refine awp_region tabOk fun K hK => ?_
      simp -dsimp -implicitDefEqProofs only [hlt2, getD_map, encStream, push_cast, ↓trAdd_f, ↓stOf_f, seval]
      refine ⟨⟨by omega, by omega⟩, hK _ ?_⟩
      try refine hK _ ?_
      repeat (first | refine awp_seq ?_ | refine awp_block ?_ | refine awp_skip ?_ | refine awp_scope ?_ | refine awp_label ?_)
      refine awp_region tabOk fun K hK => ?_
      simp -dsimp -implicitDefEqProofs only [push_cast, ↓trAdd_f, ↓stOf_f, seval]
      try simp (disch := omega) only [wrap_i64, wrap_u8, wrap_u16, wrap_u32]
      refine hK _ ⟨j + 1, by omega, by omega, ?_⟩
      refine le_intro hB [] (by simp) (fun b _ => rfl) rfl ?_ ?_ rfl <;> simp -dsimp -implicitDefEqProofs only [hsucc, push_cast, ↓trAdd_f, ↓stOf_f, seval]
    · have he : j = m.length := by simp at h; omega
      have hb := belowTo_end m k
      subst he
      refine awp_exit rfl ?_
      refine le_intro hB [] (by simp) (fun b _ => rfl) rfl ?_ ?_ rfl <;> simp -dsimp -implicitDefEqProofs only [hb, push_cast, ↓trAdd_f, ↓stOf_f, seval]
  try refine hK _ ?_
  repeat (first | refine awp_seq ?_ | refine awp_block ?_ | refine awp_skip ?_ | refine awp_scope ?_ | refine awp_label ?_)
  refine awp_region tabOk fun K hK => ?_
  simp -dsimp -implicitDefEqProofs only [push_cast, ↓trAdd_f, ↓stOf_f, seval]
  refine callK_simple (bound_ok m k (by omega) (by unfold I64; omega)) ?_ rfl fun _ => ?_
  · simp -dsimp -implicitDefEqProofs only [push_cast, List.mem_append, List.mem_cons, List.mem_singleton, forall_eq_or_imp, forall_eq, ↓trAdd_f, ↓stOf_f, seval]
  simp -dsimp -implicitDefEqProofs only [push_cast, ↓trAdd_f, ↓stOf_f, seval]
  obtain ⟨k1, hk1⟩ : ∃ k1, k1 = k + 1 := ⟨_, rfl⟩
  have hw1 : IntKind.i64.wrap ((k : Int) + 1) = (k1 : Int) := by rw [wrap_i64 (by omega) (by omega)]; omega
  have htk : List.take k1 (m.map encStream) = (m.take k1).map encStream := List.map_take.symm
  have hAl : (m.take k1).length = k1 := by rw [List.length_take]; omega
  try refine hK _ ?_
  repeat (first | refine awp_seq ?_ | refine awp_block ?_ | refine awp_skip ?_ | refine awp_scope ?_ | refine awp_label ?_)
  refine awp_join ({ sl := [(0, .sl false 3 (m.map encStream)), (5, .bool true), (6, .int .i64 k), (7, .int .i64 (below m k)), (9, .int .i64 (boundP m k).1), (10, .bool (boundP m k).2), (11, .sl false 3 ((m.take k1).map encStream)), (12, .own 8 3 0 (m.take k1).length)], st := [(8, .row 3 ((m.take k1).map encStream))], nx := 32, n := 98 }) ?_ (fun _ hl h => awp_le hl h) ?_
  · try refine hK _ ?_
    repeat (first | refine awp_seq ?_ | refine awp_block ?_ | refine awp_skip ?_ | refine awp_scope ?_ | refine awp_label ?_)
    refine awp_draw tabOk (by kernel_rfl) (by kernel_rfl) fun K hK C hC => ?_
    simp -dsimp -implicitDefEqProofs only [hw1, htk, push_cast, ↓trAdd_f, ↓stOf_f, seval]
    refine ⟨⟨by omega, by omega⟩, ⟨by omega, by omega⟩, ⟨by omega, by omega⟩, hC _ (by kernel_rfl), hK _ ?_⟩
    refine le_intro hB [(8, 136)] (by simp) (fun b hb => absurd hb (Nat.not_lt_zero b)) rfl ?_ ?_ rfl <;> simp -dsimp -implicitDefEqProofs only [strm_ren, strm_ok, push_cast, ↓trAdd_f, ↓stOf_f, seval]
  have hW : withW m k = m.take k1 ++ tailW (below m k) := by subst hk1; rfl
  have hWl : (withW m k).length ≤ 6 := by
    rw [hW, List.length_append, hAl]
    have : (tailW (below m k)).length ≤ 1 := by unfold tailW; split <;> simp
    omega
  refine awp_seq ?_
  refine awp_join { sl := [(0, .sl false 3 (m.map encStream)), (5, .bool true), (6, .int .i64 k), (7, .int .i64 (below m k)), (9, .int .i64 (boundP m k).1), (10, .bool (boundP m k).2), (11, .sl false 3 ((m.take k1).map encStream)), (12, .own 8 3 0 (withW m k).length)], st := [(8, .row 3 ((withW m k).map encStream))], nx := 200, n := 98 } ?_ (fun _ hl h => awp_le hl h) ?_
  · try refine hK _ ?_
    repeat (first | refine awp_seq ?_ | refine awp_block ?_ | refine awp_skip ?_ | refine awp_scope ?_ | refine awp_label ?_)
    refine awp_region tabOk fun K hK => ?_
    simp -dsimp -implicitDefEqProofs only [push_cast, ↓trAdd_f, ↓stOf_f, seval]
    try refine hK _ ?_
    repeat (first | refine awp_seq ?_ | refine awp_block ?_ | refine awp_skip ?_ | refine awp_scope ?_ | refine awp_label ?_)
    refine awp_cond (b := decide (0 < below m k)) (by simp -dsimp -implicitDefEqProofs only [push_cast, ↓trAdd_f, ↓stOf_f, seval]) (fun h => ?_) (fun h => ?_)
    · have ht : tailW (below m k) = [{ bits := below m k, period := 1000000, jitter := 7 }] := by unfold tailW; rw [if_pos (by simpa using h)]
      rw [ht] at hW
      generalize m.take k1 = A at *
      try refine hK _ ?_
      repeat (first | refine awp_seq ?_ | refine awp_block ?_ | refine awp_skip ?_ | refine awp_scope ?_ | refine awp_label ?_)
      refine awp_region tabOk fun K hK => ?_
      simp -dsimp -implicitDefEqProofs only [push_cast, ↓trAdd_f, ↓stOf_f, seval]
      refine ⟨⟨by omega, by omega⟩, hK _ ?_⟩
      refine le_intro hB [(8, 80)] (by simp) (fun b hb => absurd hb (Nat.not_lt_zero b)) rfl ?_ ?_ rfl <;> simp -dsimp -implicitDefEqProofs only [hW, List.map_append, List.length_append, encStream, strm_ren, strm_ok, List.map_cons, List.map_nil, push_cast, ↓trAdd_f, ↓stOf_f, seval]
    · have ht : tailW (below m k) = [] := by unfold tailW; rw [if_neg (by simp at h; omega)]
      rw [ht, List.append_nil] at hW
      rw [hW]
      generalize m.take k1 = A at *
      refine awp_skip ?_
      refine le_intro hB [] (by simp) (fun b _ => rfl) rfl ?_ ?_ rfl <;> simp -dsimp -implicitDefEqProofs only [strm_ren, strm_ok, push_cast, ↓trAdd_f, ↓stOf_f, seval]
  obtain ⟨hA, hB0⟩ := hlaw
  rw [← hk1] at hB0
  clear hW
  generalize m.take k1 = A at *
  generalize withW m k = W at *
  try refine hK _ ?_
  repeat (first | refine awp_seq ?_ | refine awp_block ?_ | refine awp_skip ?_ | refine awp_scope ?_ | refine awp_label ?_)
  refine awp_region tabOk fun K hK => ?_
  simp -dsimp -implicitDefEqProofs only [push_cast, ↓trAdd_f, ↓stOf_f, seval]
  refine callK_simple (bound_ok W k (by omega) (by unfold I64; omega)) ?_ rfl fun _ => ?_
  · simp -dsimp -implicitDefEqProofs only [strm_ren, strm_ok, strm_fzl, push_cast, List.mem_append, List.mem_cons, List.mem_singleton, forall_eq_or_imp, forall_eq, ↓trAdd_f, ↓stOf_f, seval]
  rw [hA]
  simp -dsimp -implicitDefEqProofs only [push_cast, ↓trAdd_f, ↓stOf_f, seval]
  try refine hK _ ?_
  repeat (first | refine awp_seq ?_ | refine awp_block ?_ | refine awp_skip ?_ | refine awp_scope ?_ | refine awp_label ?_)
  refine awp_region tabOk fun K hK => ?_
  simp -dsimp -implicitDefEqProofs only [push_cast, ↓trAdd_f, ↓stOf_f, seval]
  refine callK_simple (bound_ok A k (by omega) (by unfold I64; omega)) ?_ rfl fun _ => ?_
  · simp -dsimp -implicitDefEqProofs only [push_cast, List.mem_append, List.mem_cons, List.mem_singleton, forall_eq_or_imp, forall_eq, ↓trAdd_f, ↓stOf_f, seval]
  simp -dsimp -implicitDefEqProofs only [push_cast, ↓trAdd_f, ↓stOf_f, seval]
  obtain ⟨⟨n, is⟩, hP⟩ : ∃ p, p = boundP m k := ⟨_, rfl⟩
  obtain ⟨⟨n', is'⟩, hP'⟩ : ∃ p, p = boundP A k := ⟨_, rfl⟩
  rw [← hP, ← hP'] at hB0 ⊢
  try simp only at hB0
  have enn : (n == n) = true := by simp
  cases is with
  | false =>
    try refine hK _ ?_
    repeat (first | refine awp_seq ?_ | refine awp_block ?_ | refine awp_skip ?_ | refine awp_scope ?_ | refine awp_label ?_)
    refine awp_region tabOk fun K hK => ?_
    simp -dsimp -implicitDefEqProofs only [enn, push_cast, ↓trAdd_f, ↓stOf_f, seval]
    refine hK _ (awp_ret ?_)
    simp -dsimp -implicitDefEqProofs only [push_cast, List.mem_append, List.mem_cons, List.mem_singleton, forall_eq_or_imp, forall_eq, ↓trAdd_f, ↓stOf_f, seval]
  | true =>
    obtain ⟨rfl, hle⟩ := hB0 rfl
    have ele : decide (n' ≤ n) = true := by simpa using hle
    try refine hK _ ?_
    repeat (first | refine awp_seq ?_ | refine awp_block ?_ | refine awp_skip ?_ | refine awp_scope ?_ | refine awp_label ?_)
    refine awp_region tabOk fun K hK => ?_
    simp -dsimp -implicitDefEqProofs only [enn, ele, push_cast, ↓trAdd_f, ↓stOf_f, seval]
    refine hK _ (awp_ret ?_)
    simp -dsimp -implicitDefEqProofs only [push_cast, List.mem_append, List.mem_cons, List.mem_singleton, forall_eq_or_imp, forall_eq, ↓trAdd_f, ↓stOf_f, seval]
theorem lawRespBehind (l : List Stream) (c : Int) (hl : l.length * 24 ≤ 140737488351232 ∧ l.length ≤ 140737488351232 ∧ ∀ r ∈ l, r.i64) (hc : (Lit.int .u8 c).wf = true) :
    FnS Try.prog 7 [.sl false 3 (l.map encStream), .int .u8 c] [] (.bool true) [] :=
  respBehind_ok l c (by omega) (u8_wf hc)
end Go.Proofs.YtahkpghgjjlgdaaFw
