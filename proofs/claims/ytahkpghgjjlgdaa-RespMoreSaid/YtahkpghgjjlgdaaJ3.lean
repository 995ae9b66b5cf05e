import Derived.Test.YtahkpghgjjlgdaaJ0
import Derived.Test.YtahkpghgjjlgdaaJ2
import Derived.Test.YtahkpghgjjlgdaaJ1
/-
  The walk of resp.Bound.
-/
namespace Go.Proofs.YtahkpghgjjlgdaaFw
open Go Go.Proofs
set_option maxRecDepth 100000
set_option maxHeartbeats 8000000
set_option linter.unusedVariables false
set_option linter.unusedSimpArgs false

theorem bound_ok (l : List Stream) (i : Int) (hl : l.length ≤ 2 ^ 40) (hi64 : I64 i) :
    FnS Try.prog 14 [.sl false 3 (l.map encStream), .int .i64 i] [] (.tup [.int .i64 (boundP l i).1, .bool (boundP l i).2]) [] := by
  refine fn_walk tabOk Try.func14 rfl (by decide +kernel) Try.ntmps14 Try.results14 (by simp) fun B hB => ?_
  try refine hK _ ?_
  repeat (first | refine awp_seq ?_ | refine awp_block ?_ | refine awp_skip ?_ | refine awp_scope ?_ | refine awp_label ?_)
  refine awp_region tabOk fun K hK => ?_
  simp -dsimp -implicitDefEqProofs only [push_cast, ↓trAdd_f, ↓stOf_f, Nat.reduceBEq, Int.reduceBEq, Int.reduceBNe, Int.reduceNeg, Int.reduceAdd, Int.reduceSub, Int.reduceLT, Int.reduceLE, Int.reduceMul, Nat.reducePow, Int.reducePow, Nat.reduceAdd, Nat.reduceEqDiff, Nat.reduceLT, Nat.reduceLeDiff, Nat.reduceMul, Nat.reduceSub, reduceCtorEq, ↓reduceIte]
  try refine hK _ ?_
  repeat (first | refine awp_seq ?_ | refine awp_block ?_ | refine awp_skip ?_ | refine awp_scope ?_ | refine awp_label ?_)
  refine awp_join ({ sl := [(2, .ptr 0 0), (3, .ptr 8 0), (25, .bool (!decide (rightS l = true ∧ 0 ≤ i ∧ i < l.length)))], st := [(0, .box [.sl false 3 (l.map encStream)]), (8, .box [.int .i64 i])], nx := 16, n := 88 }) ?_ (fun _ hl h => awp_le hl h) ?_
  · try refine hK _ ?_
    repeat (first | refine awp_seq ?_ | refine awp_block ?_ | refine awp_skip ?_ | refine awp_scope ?_ | refine awp_label ?_)
    refine awp_region tabOk fun K hK => ?_
    simp -dsimp -implicitDefEqProofs only [push_cast, ↓trAdd_f, ↓stOf_f, Nat.reduceBEq, Int.reduceBEq, Int.reduceBNe, Int.reduceNeg, Int.reduceAdd, Int.reduceSub, Int.reduceLT, Int.reduceLE, Int.reduceMul, Nat.reducePow, Int.reducePow, Nat.reduceAdd, Nat.reduceEqDiff, Nat.reduceLT, Nat.reduceLeDiff, Nat.reduceMul, Nat.reduceSub, reduceCtorEq, ↓reduceIte]
    refine callK_simple (rRight_ok false l (by omega)) ?_ rfl fun _ => ?_
    · simp -dsimp -implicitDefEqProofs only [push_cast, List.mem_append, List.mem_cons, List.mem_singleton, forall_eq_or_imp, forall_eq, ↓trAdd_f, ↓stOf_f, Nat.reduceBEq, Int.reduceBEq, Int.reduceBNe, Int.reduceNeg, Int.reduceAdd, Int.reduceSub, Int.reduceLT, Int.reduceLE, Int.reduceMul, Nat.reducePow, Int.reducePow, Nat.reduceAdd, Nat.reduceEqDiff, Nat.reduceLT, Nat.reduceLeDiff, Nat.reduceMul, Nat.reduceSub, reduceCtorEq, ↓reduceIte]
    cases hr : rightS l with
    | false =>
      simp -dsimp -implicitDefEqProofs only [push_cast, ↓trAdd_f, ↓stOf_f, Nat.reduceBEq, Int.reduceBEq, Int.reduceBNe, Int.reduceNeg, Int.reduceAdd, Int.reduceSub, Int.reduceLT, Int.reduceLE, Int.reduceMul, Nat.reducePow, Int.reducePow, Nat.reduceAdd, Nat.reduceEqDiff, Nat.reduceLT, Nat.reduceLeDiff, Nat.reduceMul, Nat.reduceSub, reduceCtorEq, ↓reduceIte]
      refine hK _ ?_
      have e : decide (rightS l = true ∧ 0 ≤ i ∧ i < (l.length : Int)) = false := by simp [hr]
      refine le_intro hB [] (by simp) (fun b _ => rfl) rfl ?_ ?_ rfl <;> simp -dsimp -implicitDefEqProofs only [e, push_cast, ↓trAdd_f, ↓stOf_f, Nat.reduceBEq, Int.reduceBEq, Int.reduceBNe, Int.reduceNeg, Int.reduceAdd, Int.reduceSub, Int.reduceLT, Int.reduceLE, Int.reduceMul, Nat.reducePow, Int.reducePow, Nat.reduceAdd, Nat.reduceEqDiff, Nat.reduceLT, Nat.reduceLeDiff, Nat.reduceMul, Nat.reduceSub, reduceCtorEq, ↓reduceIte]
    | true =>
      simp -dsimp -implicitDefEqProofs only [push_cast, ↓trAdd_f, ↓stOf_f, Nat.reduceBEq, Int.reduceBEq, Int.reduceBNe, Int.reduceNeg, Int.reduceAdd, Int.reduceSub, Int.reduceLT, Int.reduceLE, Int.reduceMul, Nat.reducePow, Int.reducePow, Nat.reduceAdd, Nat.reduceEqDiff, Nat.reduceLT, Nat.reduceLeDiff, Nat.reduceMul, Nat.reduceSub, reduceCtorEq, ↓reduceIte]
      refine guardK_f (fun h1 => ?_) (fun h1 => ?_) <;> simp -dsimp -implicitDefEqProofs only [h1, push_cast, ↓trAdd_f, ↓stOf_f, Nat.reduceBEq, Int.reduceBEq, Int.reduceBNe, Int.reduceNeg, Int.reduceAdd, Int.reduceSub, Int.reduceLT, Int.reduceLE, Int.reduceMul, Nat.reducePow, Int.reducePow, Nat.reduceAdd, Nat.reduceEqDiff, Nat.reduceLT, Nat.reduceLeDiff, Nat.reduceMul, Nat.reduceSub, reduceCtorEq, ↓reduceIte]
      · refine hK _ ?_
        have e : (!decide (rightS l = true ∧ 0 ≤ i ∧ i < (l.length : Int))) = decide ((l.length : Int) ≤ i) := by
          have h2 : 0 ≤ i := by simp at h1; exact h1
          rw [Bool.eq_iff_iff]; simp [hr, h2]
        refine le_intro hB [] (by simp) (fun b _ => rfl) rfl ?_ ?_ rfl <;> simp -dsimp -implicitDefEqProofs only [e, push_cast, ↓trAdd_f, ↓stOf_f, Nat.reduceBEq, Int.reduceBEq, Int.reduceBNe, Int.reduceNeg, Int.reduceAdd, Int.reduceSub, Int.reduceLT, Int.reduceLE, Int.reduceMul, Nat.reducePow, Int.reducePow, Nat.reduceAdd, Nat.reduceEqDiff, Nat.reduceLT, Nat.reduceLeDiff, Nat.reduceMul, Nat.reduceSub, reduceCtorEq, ↓reduceIte]
      · refine hK _ ?_
        have e : decide (rightS l = true ∧ 0 ≤ i ∧ i < (l.length : Int)) = false := by simp at h1; simp; omega
        refine le_intro hB [] (by simp) (fun b _ => rfl) rfl ?_ ?_ rfl <;> simp -dsimp -implicitDefEqProofs only [e, push_cast, ↓trAdd_f, ↓stOf_f, Nat.reduceBEq, Int.reduceBEq, Int.reduceBNe, Int.reduceNeg, Int.reduceAdd, Int.reduceSub, Int.reduceLT, Int.reduceLE, Int.reduceMul, Nat.reducePow, Int.reducePow, Nat.reduceAdd, Nat.reduceEqDiff, Nat.reduceLT, Nat.reduceLeDiff, Nat.reduceMul, Nat.reduceSub, reduceCtorEq, ↓reduceIte]
  try refine hK _ ?_
  repeat (first | refine awp_seq ?_ | refine awp_block ?_ | refine awp_skip ?_ | refine awp_scope ?_ | refine awp_label ?_)
  refine awp_cond (b := !decide (rightS l = true ∧ 0 ≤ i ∧ i < (l.length : Int))) (by simp -dsimp -implicitDefEqProofs only [push_cast, ↓trAdd_f, ↓stOf_f, Nat.reduceBEq, Int.reduceBEq, Int.reduceBNe, Int.reduceNeg, Int.reduceAdd, Int.reduceSub, Int.reduceLT, Int.reduceLE, Int.reduceMul, Nat.reducePow, Int.reducePow, Nat.reduceAdd, Nat.reduceEqDiff, Nat.reduceLT, Nat.reduceLeDiff, Nat.reduceMul, Nat.reduceSub, reduceCtorEq, ↓reduceIte]) (fun h => ?_) (fun h => ?_)
  · have hn : ¬ (rightS l = true ∧ 0 ≤ i ∧ i < (l.length : Int)) := fun e => by rw [decide_eq_true e] at h; simp at h
    have e : boundP l i = (0, false) := by unfold boundP; rw [if_neg hn]
    try refine hK _ ?_
    repeat (first | refine awp_seq ?_ | refine awp_block ?_ | refine awp_skip ?_ | refine awp_scope ?_ | refine awp_label ?_)
    refine awp_region tabOk fun K hK => ?_
    simp -dsimp -implicitDefEqProofs only [push_cast, ↓trAdd_f, ↓stOf_f, Nat.reduceBEq, Int.reduceBEq, Int.reduceBNe, Int.reduceNeg, Int.reduceAdd, Int.reduceSub, Int.reduceLT, Int.reduceLE, Int.reduceMul, Nat.reducePow, Int.reducePow, Nat.reduceAdd, Nat.reduceEqDiff, Nat.reduceLT, Nat.reduceLeDiff, Nat.reduceMul, Nat.reduceSub, reduceCtorEq, ↓reduceIte]
    refine hK _ (awp_ret ?_)
    simp -dsimp -implicitDefEqProofs only [e, push_cast, List.mem_append, List.mem_cons, List.mem_singleton, forall_eq_or_imp, forall_eq, ↓trAdd_f, ↓stOf_f, Nat.reduceBEq, Int.reduceBEq, Int.reduceBNe, Int.reduceNeg, Int.reduceAdd, Int.reduceSub, Int.reduceLT, Int.reduceLE, Int.reduceMul, Nat.reducePow, Int.reducePow, Nat.reduceAdd, Nat.reduceEqDiff, Nat.reduceLT, Nat.reduceLeDiff, Nat.reduceMul, Nat.reduceSub, reduceCtorEq, ↓reduceIte]
  have hy : rightS l = true ∧ 0 ≤ i ∧ i < (l.length : Int) := by simpa using h
  obtain ⟨hr, h0, h1⟩ := hy
  obtain ⟨n, rfl⟩ := Int.eq_ofNat_of_zero_le h0
  have hn : n < l.length := by omega
  obtain ⟨hs, hl1, hl16⟩ := right_ok_s hr
  have hbp : boundP l (n : Int) = boundL l n l[n] (longest (l.drop (n + 1))) := by
    unfold boundP
    rw [if_pos ⟨hr, h0, h1⟩, Int.toNat_natCast, show l.getD n zeroSt = l[n] by simp [List.getD, hn]]
  have hst := hs _ (List.getElem_mem hn)
  obtain ⟨hb0, hb1⟩ := longest_bd (l.drop (n + 1)) fun s hm => hs s (List.mem_of_mem_drop hm)
  clear h h0 h1
  have hw1 : IntKind.i64.wrap ((n : Int) + 1) = (n : Int) + 1 := wrap_i64 (by omega) (by omega)
  have htn : ((n : Int) + 1).toNat = n + 1 := by omega
  have hdr : ((l.map encStream).drop (n + 1)).take (l.length - (n + 1)) = (l.drop (n + 1)).map encStream := by rw [List.map_drop, List.take_of_length_le (by simp)]
  try refine hK _ ?_
  repeat (first | refine awp_seq ?_ | refine awp_block ?_ | refine awp_skip ?_ | refine awp_scope ?_ | refine awp_label ?_)
  refine awp_draw tabOk (by kernel_rfl) (by kernel_rfl) fun K hK C hC => ?_
  simp -dsimp -implicitDefEqProofs only [hw1, htn, hdr, hn, getD_map, encStream, push_cast, ↓trAdd_f, ↓stOf_f, Nat.reduceBEq, Int.reduceBEq, Int.reduceBNe, Int.reduceNeg, Int.reduceAdd, Int.reduceSub, Int.reduceLT, Int.reduceLE, Int.reduceMul, Nat.reducePow, Int.reducePow, Nat.reduceAdd, Nat.reduceEqDiff, Nat.reduceLT, Nat.reduceLeDiff, Nat.reduceMul, Nat.reduceSub, reduceCtorEq, ↓reduceIte]
  refine ⟨⟨by omega, by omega⟩, ⟨by omega, by omega⟩, ?_⟩
  refine callK_simple (longest_ok false (l.drop (n + 1)) (by simp; omega)) ?_ rfl fun _ => ?_
  · simp -dsimp -implicitDefEqProofs only [push_cast, List.mem_append, List.mem_cons, List.mem_singleton, forall_eq_or_imp, forall_eq, ↓trAdd_f, ↓stOf_f, Nat.reduceBEq, Int.reduceBEq, Int.reduceBNe, Int.reduceNeg, Int.reduceAdd, Int.reduceSub, Int.reduceLT, Int.reduceLE, Int.reduceMul, Nat.reducePow, Int.reducePow, Nat.reduceAdd, Nat.reduceEqDiff, Nat.reduceLT, Nat.reduceLeDiff, Nat.reduceMul, Nat.reduceSub, reduceCtorEq, ↓reduceIte]
  generalize longest (l.drop (n + 1)) = b at *
  simp -dsimp -implicitDefEqProofs only [push_cast, ↓trAdd_f, ↓stOf_f, Nat.reduceBEq, Int.reduceBEq, Int.reduceBNe, Int.reduceNeg, Int.reduceAdd, Int.reduceSub, Int.reduceLT, Int.reduceLE, Int.reduceMul, Nat.reducePow, Int.reducePow, Nat.reduceAdd, Nat.reduceEqDiff, Nat.reduceLT, Nat.reduceLeDiff, Nat.reduceMul, Nat.reduceSub, reduceCtorEq, ↓reduceIte]
  refine ⟨hC _ (by kernel_rfl), ?_⟩
  clear hC C
  have hup : l[n].bits ≤ fBusy l n b l[n].bits := by
    unfold fBusy
    rw [load_take_succ l n hn]
    have q1 := load_bd l[n].bits 0 (by have := hst.1; omega) (by have := hst.2.1; omega) (by decide) (by decide) (l.take n) fun s hm => hs s (List.mem_of_mem_take hm)
    have q2 : 1 ≤ (l[n].bits + l[n].jitter + 0 + l[n].period - 1) / l[n].period := by
      obtain ⟨p1, p2, p3, p4, p5, p6⟩ := hst
      exact Int.le_ediv_of_mul_le (by omega) (by omega)
    have q3 : 1 * l[n].bits ≤ load1 l[n].bits 0 l[n] := Int.mul_le_mul_of_nonneg_right q2 (by have := hst.1; omega)
    omega
  have hsp := leastF_spec (fBusy_mono l n b hs) l[n].bits (by have := hst.1; omega) hup
  have hca := least1_ok l n b l[n].bits hl16 hn hs (by have := hst.1; omega) (by have := hst.2.1; omega) hb0 (by omega) hup
  have hbl : boundL l n l[n] b = if (leastF (fBusy l n b) l[n].bits).2 = true then ((mostQ l n b l[n] (((leastF (fBusy l n b) l[n].bits).1 + l[n].jitter + l[n].period - 1) / l[n].period).toNat).1, true) else (0, false) := rfl
  rw [hbl] at hbp
  clear hbl
  generalize leastF (fBusy l n b) l[n].bits = Z at *
  obtain ⟨t, is⟩ := Z
  simp only at hsp hca hbp
  try refine hK _ ?_
  repeat (first | refine awp_seq ?_ | refine awp_block ?_ | refine awp_skip ?_ | refine awp_scope ?_ | refine awp_label ?_)
  refine awp_region tabOk fun K hK => ?_
  simp -dsimp -implicitDefEqProofs only [push_cast, ↓trAdd_f, ↓stOf_f, Nat.reduceBEq, Int.reduceBEq, Int.reduceBNe, Int.reduceNeg, Int.reduceAdd, Int.reduceSub, Int.reduceLT, Int.reduceLE, Int.reduceMul, Nat.reducePow, Int.reducePow, Nat.reduceAdd, Nat.reduceEqDiff, Nat.reduceLT, Nat.reduceLeDiff, Nat.reduceMul, Nat.reduceSub, reduceCtorEq, ↓reduceIte]
  refine ⟨22, [], [], { args := [.int .i64 l[n].bits, .fn (.func 23) [] [.ptr 0 0, .ptr 1 0, .ptr 2 0]], st0 := [(0, .box [.int .i64 b]), (1, .box [.sl false 3 (l.map encStream)]), (2, .box [.int .i64 n])], res := .tup [.int .i64 t, .bool is], st1 := [(0, .box [.int .i64 b]), (1, .box [.sl false 3 (l.map encStream)]), (2, .box [.int .i64 n])], r := [96, 0, 8] }, rfl, hca, ?_, ?_⟩
  · simp -dsimp -implicitDefEqProofs only [push_cast, List.mem_append, List.mem_cons, List.mem_singleton, forall_eq_or_imp, forall_eq, ↓trAdd_f, ↓stOf_f, Nat.reduceBEq, Int.reduceBEq, Int.reduceBNe, Int.reduceNeg, Int.reduceAdd, Int.reduceSub, Int.reduceLT, Int.reduceLE, Int.reduceMul, Nat.reducePow, Int.reducePow, Nat.reduceAdd, Nat.reduceEqDiff, Nat.reduceLT, Nat.reduceLeDiff, Nat.reduceMul, Nat.reduceSub, reduceCtorEq, ↓reduceIte]
    exact rfl
  simp -dsimp -implicitDefEqProofs only [push_cast, ↓trAdd_f, ↓stOf_f, Nat.reduceBEq, Int.reduceBEq, Int.reduceBNe, Int.reduceNeg, Int.reduceAdd, Int.reduceSub, Int.reduceLT, Int.reduceLE, Int.reduceMul, Nat.reducePow, Int.reducePow, Nat.reduceAdd, Nat.reduceEqDiff, Nat.reduceLT, Nat.reduceLeDiff, Nat.reduceMul, Nat.reduceSub, reduceCtorEq, ↓reduceIte]
  try refine hK _ ?_
  repeat (first | refine awp_seq ?_ | refine awp_block ?_ | refine awp_skip ?_ | refine awp_scope ?_ | refine awp_label ?_)
  refine awp_region tabOk fun K hK => ?_
  simp -dsimp -implicitDefEqProofs only [push_cast, ↓trAdd_f, ↓stOf_f, Nat.reduceBEq, Int.reduceBEq, Int.reduceBNe, Int.reduceNeg, Int.reduceAdd, Int.reduceSub, Int.reduceLT, Int.reduceLE, Int.reduceMul, Nat.reducePow, Int.reducePow, Nat.reduceAdd, Nat.reduceEqDiff, Nat.reduceLT, Nat.reduceLeDiff, Nat.reduceMul, Nat.reduceSub, reduceCtorEq, ↓reduceIte]
  try refine hK _ ?_
  repeat (first | refine awp_seq ?_ | refine awp_block ?_ | refine awp_skip ?_ | refine awp_scope ?_ | refine awp_label ?_)
  refine awp_cond (b := !is) (by simp -dsimp -implicitDefEqProofs only [push_cast, ↓trAdd_f, ↓stOf_f, Nat.reduceBEq, Int.reduceBEq, Int.reduceBNe, Int.reduceNeg, Int.reduceAdd, Int.reduceSub, Int.reduceLT, Int.reduceLE, Int.reduceMul, Nat.reducePow, Int.reducePow, Nat.reduceAdd, Nat.reduceEqDiff, Nat.reduceLT, Nat.reduceLeDiff, Nat.reduceMul, Nat.reduceSub, reduceCtorEq, ↓reduceIte]) (fun h => ?_) (fun h => ?_)
  · have e : boundP l (n : Int) = (0, false) := by rw [hbp, if_neg (by simp at h; simp [h])]
    try refine hK _ ?_
    repeat (first | refine awp_seq ?_ | refine awp_block ?_ | refine awp_skip ?_ | refine awp_scope ?_ | refine awp_label ?_)
    refine awp_region tabOk fun K hK => ?_
    simp -dsimp -implicitDefEqProofs only [push_cast, ↓trAdd_f, ↓stOf_f, Nat.reduceBEq, Int.reduceBEq, Int.reduceBNe, Int.reduceNeg, Int.reduceAdd, Int.reduceSub, Int.reduceLT, Int.reduceLE, Int.reduceMul, Nat.reducePow, Int.reducePow, Nat.reduceAdd, Nat.reduceEqDiff, Nat.reduceLT, Nat.reduceLeDiff, Nat.reduceMul, Nat.reduceSub, reduceCtorEq, ↓reduceIte]
    refine hK _ (awp_ret ?_)
    simp -dsimp -implicitDefEqProofs only [e, push_cast, List.mem_append, List.mem_cons, List.mem_singleton, forall_eq_or_imp, forall_eq, ↓trAdd_f, ↓stOf_f, Nat.reduceBEq, Int.reduceBEq, Int.reduceBNe, Int.reduceNeg, Int.reduceAdd, Int.reduceSub, Int.reduceLT, Int.reduceLE, Int.reduceMul, Nat.reducePow, Int.reducePow, Nat.reduceAdd, Nat.reduceEqDiff, Nat.reduceLT, Nat.reduceLeDiff, Nat.reduceMul, Nat.reduceSub, reduceCtorEq, ↓reduceIte]
  have his : is = true := by simpa using h
  subst his
  rw [if_pos rfl] at hbp
  obtain ⟨ht1, ht2, ht3, ht4⟩ := hsp.1 rfl
  clear h hsp hca
  have p1 := hst.1
  have p2 := hst.2.1
  have p3 := hst.2.2.1
  have p4 := hst.2.2.2.1
  have p5 := hst.2.2.2.2.1
  have p6 := hst.2.2.2.2.2
  have hroom := busy_room hn hs hb0 (by omega : 0 ≤ t) (by omega) ht1
  have hld := load_nonneg (l.take n) (fun s hm => hs s (List.mem_of_mem_take hm)) t 0 (by omega) (by decide)
  have hdiv : (t + l[n].jitter + l[n].period - 1).tdiv l[n].period = (t + l[n].jitter + l[n].period - 1) / l[n].period := Int.tdiv_eq_ediv_of_nonneg (by omega)
  have hQ0 : 0 ≤ (t + l[n].jitter + l[n].period - 1) / l[n].period := Int.ediv_nonneg (by omega) (by omega)
  have hp0 : ¬ l[n].period = 0 := by omega
  generalize hQ : (t + l[n].jitter + l[n].period - 1) / l[n].period = Q at *
  obtain ⟨Q, rfl⟩ := Int.eq_ofNat_of_zero_le hQ0
  rw [Int.toNat_natCast] at hbp
  have hQC : (Q : Int) * 1 ≤ Q * l[n].bits := Int.mul_le_mul_of_nonneg_left p1 (by omega)
  have hQ7 : (Q : Int) ≤ 10000000 := by omega
  have hw2 : IntKind.i64.wrap (t + l[n].jitter) = t + l[n].jitter := wrap_i64 (by omega) (by omega)
  have hw3 : IntKind.i64.wrap (t + l[n].jitter + l[n].period) = t + l[n].jitter + l[n].period := wrap_i64 (by omega) (by omega)
  have hw4 : IntKind.i64.wrap (t + l[n].jitter + l[n].period - 1) = t + l[n].jitter + l[n].period - 1 := wrap_i64 (by omega) (by omega)
  have hw5 : IntKind.i64.wrap (Q : Int) = Q := wrap_i64 (by omega) (by omega)
  try refine hK _ ?_
  repeat (first | refine awp_seq ?_ | refine awp_block ?_ | refine awp_skip ?_ | refine awp_scope ?_ | refine awp_label ?_)
  refine awp_region tabOk fun K hK => ?_
  simp -dsimp -implicitDefEqProofs only [push_cast, ↓trAdd_f, ↓stOf_f, Nat.reduceBEq, Int.reduceBEq, Int.reduceBNe, Int.reduceNeg, Int.reduceAdd, Int.reduceSub, Int.reduceLT, Int.reduceLE, Int.reduceMul, Nat.reducePow, Int.reducePow, Nat.reduceAdd, Nat.reduceEqDiff, Nat.reduceLT, Nat.reduceLeDiff, Nat.reduceMul, Nat.reduceSub, reduceCtorEq, ↓reduceIte]
  try refine hK _ ?_
  repeat (first | refine awp_seq ?_ | refine awp_block ?_ | refine awp_skip ?_ | refine awp_scope ?_ | refine awp_label ?_)
  refine awp_region tabOk fun K hK => ?_
  simp -dsimp -implicitDefEqProofs only [push_cast, ↓trAdd_f, ↓stOf_f, Nat.reduceBEq, Int.reduceBEq, Int.reduceBNe, Int.reduceNeg, Int.reduceAdd, Int.reduceSub, Int.reduceLT, Int.reduceLE, Int.reduceMul, Nat.reducePow, Int.reducePow, Nat.reduceAdd, Nat.reduceEqDiff, Nat.reduceLT, Nat.reduceLeDiff, Nat.reduceMul, Nat.reduceSub, reduceCtorEq, ↓reduceIte]
  try refine hK _ ?_
  repeat (first | refine awp_seq ?_ | refine awp_block ?_ | refine awp_skip ?_ | refine awp_scope ?_ | refine awp_label ?_)
  refine awp_region tabOk fun K hK => ?_
  simp -dsimp -implicitDefEqProofs only [hw2, hw3, hw4, hdiv, hw5, hp0, push_cast, ↓trAdd_f, ↓stOf_f, Nat.reduceBEq, Int.reduceBEq, Int.reduceBNe, Int.reduceNeg, Int.reduceAdd, Int.reduceSub, Int.reduceLT, Int.reduceLE, Int.reduceMul, Nat.reducePow, Int.reducePow, Nat.reduceAdd, Nat.reduceEqDiff, Nat.reduceLT, Nat.reduceLeDiff, Nat.reduceMul, Nat.reduceSub, reduceCtorEq, ↓reduceIte]
  refine hK _ (awp_block ?_)
  refine awp_for (fun q : Nat => { sl := [(2, .ptr 0 0), (3, .ptr 8 0), (6, .ptr 88 0), (7, .ptr 96 0), (10, .int .i64 (mostQ l n b l[n] q).1), (11, .int .i64 (mostQ l n b l[n] q).2), (55, .int .i64 Q), (56, .int .i64 q)], st := [(0, .box [.sl false 3 (l.map encStream)]), (8, .box [.int .i64 n]), (88, .box (encStream l[n])), (96, .box [.int .i64 b])], nx := 232, n := 88 }) (fun q => q ≤ Q) (fun q => Q - q) 0 (Nat.zero_le _) ?_ fun q hq => ?_
  · have : mostQ l n b l[n] 0 = (0, b) := rfl
    refine le_intro hB [] (by simp) (fun b _ => rfl) rfl ?_ ?_ rfl <;> simp -dsimp -implicitDefEqProofs only [this, encStream, push_cast, ↓trAdd_f, ↓stOf_f, Nat.reduceBEq, Int.reduceBEq, Int.reduceBNe, Int.reduceNeg, Int.reduceAdd, Int.reduceSub, Int.reduceLT, Int.reduceLE, Int.reduceMul, Nat.reducePow, Int.reducePow, Nat.reduceAdd, Nat.reduceEqDiff, Nat.reduceLT, Nat.reduceLeDiff, Nat.reduceMul, Nat.reduceSub, reduceCtorEq, ↓reduceIte]
  simp only [encStream]
  try refine hK _ ?_
  repeat (first | refine awp_seq ?_ | refine awp_block ?_ | refine awp_skip ?_ | refine awp_scope ?_ | refine awp_label ?_)
  refine awp_region tabOk fun K hK => ?_
  simp -dsimp -implicitDefEqProofs only [push_cast, ↓trAdd_f, ↓stOf_f, Nat.reduceBEq, Int.reduceBEq, Int.reduceBNe, Int.reduceNeg, Int.reduceAdd, Int.reduceSub, Int.reduceLT, Int.reduceLE, Int.reduceMul, Nat.reducePow, Int.reducePow, Nat.reduceAdd, Nat.reduceEqDiff, Nat.reduceLT, Nat.reduceLeDiff, Nat.reduceMul, Nat.reduceSub, reduceCtorEq, ↓reduceIte]
  try refine hK _ ?_
  repeat (first | refine awp_seq ?_ | refine awp_block ?_ | refine awp_skip ?_ | refine awp_scope ?_ | refine awp_label ?_)
  refine awp_cond (b := decide ((q : Int) < Q)) (by simp -dsimp -implicitDefEqProofs only [push_cast, ↓trAdd_f, ↓stOf_f, Nat.reduceBEq, Int.reduceBEq, Int.reduceBNe, Int.reduceNeg, Int.reduceAdd, Int.reduceSub, Int.reduceLT, Int.reduceLE, Int.reduceMul, Nat.reducePow, Int.reducePow, Nat.reduceAdd, Nat.reduceEqDiff, Nat.reduceLT, Nat.reduceLeDiff, Nat.reduceMul, Nat.reduceSub, reduceCtorEq, ↓reduceIte]) (fun h => ?_) (fun h => ?_)
  · have hqQ : q < Q := by simpa using h
    clear h
    have hqC : (q : Int) * l[n].bits ≤ Q * l[n].bits := Int.mul_le_mul_of_nonneg_right (by omega) (by omega)
    have hqC0 : 0 ≤ (q : Int) * l[n].bits := Int.mul_nonneg (by omega) (by omega)
    have hqT : (q : Int) * l[n].period ≤ 10000000 * 1000000 := Int.mul_le_mul (by omega) (by omega) (by omega) (by omega)
    have hqT0 : 0 ≤ (q : Int) * l[n].period := Int.mul_nonneg (by omega) (by omega)
    have hinv := mostQ_inv (i := n) hs hst hb0 hb1 q (by omega)
    have hinv2 := qinv_step hs hst hb0 (by omega) hinv
    have hnext : mostQ l n b l[n] (q + 1) = stepQ l n b l[n] q (mostQ l n b l[n] q) := rfl
    have hca := least2_ok l n b q (max (mostQ l n b l[n] q).2 (b + q * l[n].bits)) l[n] hl16 hn hs hst (by have := hinv.w0; omega) (by have := hinv.w1; omega) hb0 (by omega) (by omega) (by omega) (start_up hs hinv.w0 hinv.up)
    simp only [encStream] at hca
    have hu1 : IntKind.i64.wrap ((q : Int) * l[n].bits) = q * l[n].bits := wrap_i64 (by omega) (by omega)
    have hu2 : IntKind.i64.wrap (b + (q : Int) * l[n].bits) = b + q * l[n].bits := wrap_i64 (by omega) (by omega)
    unfold stepQ at hinv2 hnext
    generalize mostQ l n b l[n] q = X at *
    obtain ⟨M, w⟩ := X
    simp only at hca hinv2 hnext
    generalize leastF (fWait l n b l[n].bits q) (max w (b + q * l[n].bits)) = Z at *
    obtain ⟨w', is⟩ := Z
    have g1 := hinv.m0
    have g2 := hinv.m1
    have g3 := hinv2.w0
    have g4 := hinv2.w1
    simp only at hca g1 g2 g3 g4 hnext
    try refine hK _ ?_
    repeat (first | refine awp_seq ?_ | refine awp_block ?_ | refine awp_skip ?_ | refine awp_scope ?_ | refine awp_label ?_)
    refine awp_region tabOk fun K hK => ?_
    simp -dsimp -implicitDefEqProofs only [push_cast, ↓trAdd_f, ↓stOf_f, Nat.reduceBEq, Int.reduceBEq, Int.reduceBNe, Int.reduceNeg, Int.reduceAdd, Int.reduceSub, Int.reduceLT, Int.reduceLE, Int.reduceMul, Nat.reducePow, Int.reducePow, Nat.reduceAdd, Nat.reduceEqDiff, Nat.reduceLT, Nat.reduceLeDiff, Nat.reduceMul, Nat.reduceSub, reduceCtorEq, ↓reduceIte]
    try refine hK _ ?_
    repeat (first | refine awp_seq ?_ | refine awp_block ?_ | refine awp_skip ?_ | refine awp_scope ?_ | refine awp_label ?_)
    refine awp_region tabOk fun K hK => ?_
    simp -dsimp -implicitDefEqProofs only [hu1, hu2, push_cast, ↓trAdd_f, ↓stOf_f, Nat.reduceBEq, Int.reduceBEq, Int.reduceBNe, Int.reduceNeg, Int.reduceAdd, Int.reduceSub, Int.reduceLT, Int.reduceLE, Int.reduceMul, Nat.reducePow, Int.reducePow, Nat.reduceAdd, Nat.reduceEqDiff, Nat.reduceLT, Nat.reduceLeDiff, Nat.reduceMul, Nat.reduceSub, reduceCtorEq, ↓reduceIte]
    refine ⟨22, [], [], { args := [.int .i64 (max w (b + q * l[n].bits)), .fn (.func 25) [] [.ptr 0 0, .ptr 1 0, .ptr 2 0, .ptr 3 0, .ptr 4 0]], st0 := [(0, .box [.int .i64 b]), (1, .box [.int .i64 q]), (2, .box (encStream l[n])), (3, .box [.sl false 3 (l.map encStream)]), (4, .box [.int .i64 n])], res := .tup [.int .i64 w', .bool is], st1 := [(0, .box [.int .i64 b]), (1, .box [.int .i64 q]), (2, .box (encStream l[n])), (3, .box [.sl false 3 (l.map encStream)]), (4, .box [.int .i64 n])], r := [96, 248, 88, 0, 8] }, rfl, hca, ?_, ?_⟩
    · simp only [encStream]
      simp -dsimp -implicitDefEqProofs only [push_cast, List.mem_append, List.mem_cons, List.mem_singleton, forall_eq_or_imp, forall_eq, ↓trAdd_f, ↓stOf_f, Nat.reduceBEq, Int.reduceBEq, Int.reduceBNe, Int.reduceNeg, Int.reduceAdd, Int.reduceSub, Int.reduceLT, Int.reduceLE, Int.reduceMul, Nat.reducePow, Int.reducePow, Nat.reduceAdd, Nat.reduceEqDiff, Nat.reduceLT, Nat.reduceLeDiff, Nat.reduceMul, Nat.reduceSub, reduceCtorEq, ↓reduceIte]
      exact rfl
    simp only [encStream]
    simp -dsimp -implicitDefEqProofs only [push_cast, ↓trAdd_f, ↓stOf_f, Nat.reduceBEq, Int.reduceBEq, Int.reduceBNe, Int.reduceNeg, Int.reduceAdd, Int.reduceSub, Int.reduceLT, Int.reduceLE, Int.reduceMul, Nat.reducePow, Int.reducePow, Nat.reduceAdd, Nat.reduceEqDiff, Nat.reduceLT, Nat.reduceLeDiff, Nat.reduceMul, Nat.reduceSub, reduceCtorEq, ↓reduceIte]
    have hu3 : IntKind.i64.wrap (l[n].jitter + w') = l[n].jitter + w' := wrap_i64 (by omega) (by omega)
    have hu4 : IntKind.i64.wrap ((q : Int) * l[n].period) = q * l[n].period := wrap_i64 (by omega) (by omega)
    have hu5 : IntKind.i64.wrap (l[n].jitter + w' - q * l[n].period) = l[n].jitter + w' - q * l[n].period := wrap_i64 (by omega) (by omega)
    have hu6 : IntKind.i64.wrap (l[n].jitter + w' - q * l[n].period + l[n].bits) = l[n].jitter + w' - q * l[n].period + l[n].bits := wrap_i64 (by omega) (by omega)
    try refine hK _ ?_
    repeat (first | refine awp_seq ?_ | refine awp_block ?_ | refine awp_skip ?_ | refine awp_scope ?_ | refine awp_label ?_)
    refine awp_region tabOk fun K hK => ?_
    simp -dsimp -implicitDefEqProofs only [hu3, hu4, hu5, hu6, push_cast, ↓trAdd_f, ↓stOf_f, Nat.reduceBEq, Int.reduceBEq, Int.reduceBNe, Int.reduceNeg, Int.reduceAdd, Int.reduceSub, Int.reduceLT, Int.reduceLE, Int.reduceMul, Nat.reducePow, Int.reducePow, Nat.reduceAdd, Nat.reduceEqDiff, Nat.reduceLT, Nat.reduceLeDiff, Nat.reduceMul, Nat.reduceSub, reduceCtorEq, ↓reduceIte]
    try refine hK _ ?_
    repeat (first | refine awp_seq ?_ | refine awp_block ?_ | refine awp_skip ?_ | refine awp_scope ?_ | refine awp_label ?_)
    refine awp_region tabOk fun K hK => ?_
    simp -dsimp -implicitDefEqProofs only [push_cast, ↓trAdd_f, ↓stOf_f, Nat.reduceBEq, Int.reduceBEq, Int.reduceBNe, Int.reduceNeg, Int.reduceAdd, Int.reduceSub, Int.reduceLT, Int.reduceLE, Int.reduceMul, Nat.reducePow, Int.reducePow, Nat.reduceAdd, Nat.reduceEqDiff, Nat.reduceLT, Nat.reduceLeDiff, Nat.reduceMul, Nat.reduceSub, reduceCtorEq, ↓reduceIte]
    try simp (disch := omega) only [wrap_i64, wrap_u8, wrap_u16, wrap_u32]
    refine hK _ ⟨q + 1, hqQ, by omega, ?_⟩
    rw [hnext]
    refine le_intro hB [] (by simp) (fun b _ => rfl) rfl ?_ ?_ rfl <;> simp -dsimp -implicitDefEqProofs only [encStream, push_cast, ↓trAdd_f, ↓stOf_f, Nat.reduceBEq, Int.reduceBEq, Int.reduceBNe, Int.reduceNeg, Int.reduceAdd, Int.reduceSub, Int.reduceLT, Int.reduceLE, Int.reduceMul, Nat.reducePow, Int.reducePow, Nat.reduceAdd, Nat.reduceEqDiff, Nat.reduceLT, Nat.reduceLeDiff, Nat.reduceMul, Nat.reduceSub, reduceCtorEq, ↓reduceIte]
  · have he : q = Q := by simp at h; omega
    subst he
    refine awp_exit rfl ?_
    try refine hK _ ?_
    repeat (first | refine awp_seq ?_ | refine awp_block ?_ | refine awp_skip ?_ | refine awp_scope ?_ | refine awp_label ?_)
    refine awp_region tabOk fun K hK => ?_
    simp -dsimp -implicitDefEqProofs only [push_cast, ↓trAdd_f, ↓stOf_f, Nat.reduceBEq, Int.reduceBEq, Int.reduceBNe, Int.reduceNeg, Int.reduceAdd, Int.reduceSub, Int.reduceLT, Int.reduceLE, Int.reduceMul, Nat.reducePow, Int.reducePow, Nat.reduceAdd, Nat.reduceEqDiff, Nat.reduceLT, Nat.reduceLeDiff, Nat.reduceMul, Nat.reduceSub, reduceCtorEq, ↓reduceIte]
    refine hK _ (awp_ret ?_)
    simp -dsimp -implicitDefEqProofs only [hbp, push_cast, List.mem_append, List.mem_cons, List.mem_singleton, forall_eq_or_imp, forall_eq, ↓trAdd_f, ↓stOf_f, Nat.reduceBEq, Int.reduceBEq, Int.reduceBNe, Int.reduceNeg, Int.reduceAdd, Int.reduceSub, Int.reduceLT, Int.reduceLE, Int.reduceMul, Nat.reducePow, Int.reducePow, Nat.reduceAdd, Nat.reduceEqDiff, Nat.reduceLT, Nat.reduceLeDiff, Nat.reduceMul, Nat.reduceSub, reduceCtorEq, ↓reduceIte]
end Go.Proofs.YtahkpghgjjlgdaaFw

/-
  The walk of head.
-/
namespace Go.Proofs.YtahkpghgjjlgdaaFw
open Go Go.Proofs
set_option maxRecDepth 100000
set_option maxHeartbeats 16000000
set_option linter.unusedVariables false
set_option linter.unusedSimpArgs false

theorem playBad_ok (l : List Stream) (bs : List Int) (until_ : Int) (hr : rightS l = true) (h5 : l.length ≤ 5) (hb : bs.length ≤ 2 ^ 30) (hne : bs.length ≠ l.length) :
    FnS Try.prog 18 [.sl false 3 (l.map encStream), .sl false 1 (bs.map encI), .int .i64 until_] [] (.sl false 1 []) [] := by
  have hne' : ((bs.length : Int) != (l.length : Int)) = true := by simp; omega
  refine fn_walk tabOk Try.func18 rfl (by decide +kernel) Try.ntmps18 Try.results18 (by simp) fun B hB => ?_
  try refine hK _ ?_
  repeat (first | refine awp_seq ?_ | refine awp_block ?_ | refine awp_skip ?_ | refine awp_scope ?_ | refine awp_label ?_)
  refine awp_region tabOk fun K hK => ?_
  simp -dsimp -implicitDefEqProofs only [push_cast, ↓trAdd_f, ↓stOf_f, seval]
  try refine hK _ ?_
  repeat (first | refine awp_seq ?_ | refine awp_block ?_ | refine awp_skip ?_ | refine awp_scope ?_ | refine awp_label ?_)
  refine awp_region tabOk fun K hK => ?_
  simp -dsimp -implicitDefEqProofs only [push_cast, ↓trAdd_f, ↓stOf_f, seval]
  refine callK_simple (rRight_ok false l (by omega)) ?_ rfl fun _ => ?_
  · simp -dsimp -implicitDefEqProofs only [push_cast, List.mem_append, List.mem_cons, List.mem_singleton, forall_eq_or_imp, forall_eq, ↓trAdd_f, ↓stOf_f, seval]
  rw [hr]
  simp -dsimp -implicitDefEqProofs only [hne', push_cast, ↓trAdd_f, ↓stOf_f, seval]
  try refine hK _ ?_
  repeat (first | refine awp_seq ?_ | refine awp_block ?_ | refine awp_skip ?_ | refine awp_scope ?_ | refine awp_label ?_)
  refine awp_cond (b := true) (by simp -dsimp -implicitDefEqProofs only [push_cast, ↓trAdd_f, ↓stOf_f, seval]) (fun h => ?_) (fun h => ?_)
  · try refine hK _ ?_
    repeat (first | refine awp_seq ?_ | refine awp_block ?_ | refine awp_skip ?_ | refine awp_scope ?_ | refine awp_label ?_)
    refine awp_region tabOk fun K hK => ?_
    simp -dsimp -implicitDefEqProofs only [push_cast, ↓trAdd_f, ↓stOf_f, seval]
    refine hK _ (awp_ret ?_)
    simp -dsimp -implicitDefEqProofs only [push_cast, List.mem_append, List.mem_cons, List.mem_singleton, forall_eq_or_imp, forall_eq, ↓trAdd_f, ↓stOf_f, seval]
  · simp at h
def headS : List Stream := [{ bits := 100, period := 1000, jitter := 50 }, { bits := 200, period := 1000, jitter := 0 }]
theorem boundH0 : boundP headS 0 = (350, true) := by decide +kernel
theorem boundH1 : boundP headS 1 = (300, true) := by decide +kernel
theorem boundH2 : boundP headS 2 = (0, false) := by decide +kernel
theorem boundH3 : boundP [{ bits := 1000, period := 1, jitter := 0 }] 0 = (0, false) := by decide +kernel
theorem boundH4 : boundP [{ bits := 100, period := 1000, jitter := 50 }] (-1) = (0, false) := by decide +kernel
theorem playH0 : playZ headS [0, 0] 1000 = [100, 300] := by decide +kernel
theorem playH1 : playZ headS [1, 0] 1000 = [299, 200] := by decide +kernel
theorem playH2 : playZ headS [0, 0] 0 = [0, 0] := by decide +kernel
theorem rightH0 : rightS headS = true := by decide
theorem rightH1 : rightS [] = false := by decide
theorem rightH2 : rightS [{ bits := 1, period := 0, jitter := 0 }] = false := by decide
theorem headP0 : FnS Try.prog 18 [.sl false 3 (headS.map encStream), .sl false 1 (([0, 0] : List Int).map encI), .int .i64 1000] [] (.sl false 1 (([100, 300] : List Int).map encI)) [] := by
  rw [← playH0]; exact play2_ok _ _ 0 0 1000 rightH0 (by decide) (by decide)
theorem headP1 : FnS Try.prog 18 [.sl false 3 (headS.map encStream), .sl false 1 (([1, 0] : List Int).map encI), .int .i64 1000] [] (.sl false 1 (([299, 200] : List Int).map encI)) [] := by
  rw [← playH1]; exact play2_ok _ _ 1 0 1000 rightH0 (by decide) (by decide)
theorem headP2 : FnS Try.prog 18 [.sl false 3 (headS.map encStream), .sl false 1 (([0, 0] : List Int).map encI), .int .i64 0] [] (.sl false 1 (([0, 0] : List Int).map encI)) [] := by
  rw [← playH2]; exact play2_ok _ _ 0 0 0 rightH0 (by decide) (by decide)
theorem head_ok : FnS Try.prog 10 [] [] (.bool true) [] := by
  refine fn_walk tabOk Try.func10 rfl (by decide +kernel) Try.ntmps10 Try.results10 (by simp) fun B hB => ?_
  try refine hK _ ?_
  repeat (first | refine awp_seq ?_ | refine awp_block ?_ | refine awp_skip ?_ | refine awp_scope ?_ | refine awp_label ?_)
  refine awp_region tabOk fun K hK => ?_
  simp -dsimp -implicitDefEqProofs only [push_cast, ↓trAdd_f, ↓stOf_f, seval]
  try refine hK _ ?_
  repeat (first | refine awp_seq ?_ | refine awp_block ?_ | refine awp_skip ?_ | refine awp_scope ?_ | refine awp_label ?_)
  refine awp_region tabOk fun K hK => ?_
  simp -dsimp -implicitDefEqProofs only [push_cast, ↓trAdd_f, ↓stOf_f, seval]
  try refine hK _ ?_
  repeat (first | refine awp_seq ?_ | refine awp_block ?_ | refine awp_skip ?_ | refine awp_scope ?_ | refine awp_label ?_)
  refine awp_region tabOk fun K hK => ?_
  simp -dsimp -implicitDefEqProofs only [push_cast, ↓trAdd_f, ↓stOf_f, seval]
  refine callK_simple (bound_ok headS 0 (by decide) ⟨by decide, by decide⟩) ?_ rfl fun _ => ?_
  · simp -dsimp -implicitDefEqProofs only [headS, encStream, push_cast, List.mem_append, List.mem_cons, List.mem_singleton, forall_eq_or_imp, forall_eq, ↓trAdd_f, ↓stOf_f, seval]
  rw [boundH0]
  simp -dsimp -implicitDefEqProofs only [push_cast, ↓trAdd_f, ↓stOf_f, seval]
  try refine hK _ ?_
  repeat (first | refine awp_seq ?_ | refine awp_block ?_ | refine awp_skip ?_ | refine awp_scope ?_ | refine awp_label ?_)
  refine awp_region tabOk fun K hK => ?_
  simp -dsimp -implicitDefEqProofs only [push_cast, ↓trAdd_f, ↓stOf_f, seval]
  refine callK_simple (bound_ok headS 1 (by decide) ⟨by decide, by decide⟩) ?_ rfl fun _ => ?_
  · simp -dsimp -implicitDefEqProofs only [headS, encStream, push_cast, List.mem_append, List.mem_cons, List.mem_singleton, forall_eq_or_imp, forall_eq, ↓trAdd_f, ↓stOf_f, seval]
  rw [boundH1]
  simp -dsimp -implicitDefEqProofs only [push_cast, ↓trAdd_f, ↓stOf_f, seval]
  try refine hK _ ?_
  repeat (first | refine awp_seq ?_ | refine awp_block ?_ | refine awp_skip ?_ | refine awp_scope ?_ | refine awp_label ?_)
  refine awp_region tabOk fun K hK => ?_
  simp -dsimp -implicitDefEqProofs only [push_cast, ↓trAdd_f, ↓stOf_f, seval]
  refine callK_simple (bound_ok headS 2 (by decide) ⟨by decide, by decide⟩) ?_ rfl fun _ => ?_
  · simp -dsimp -implicitDefEqProofs only [headS, encStream, push_cast, List.mem_append, List.mem_cons, List.mem_singleton, forall_eq_or_imp, forall_eq, ↓trAdd_f, ↓stOf_f, seval]
  rw [boundH2]
  simp -dsimp -implicitDefEqProofs only [push_cast, ↓trAdd_f, ↓stOf_f, seval]
  try refine hK _ ?_
  repeat (first | refine awp_seq ?_ | refine awp_block ?_ | refine awp_skip ?_ | refine awp_scope ?_ | refine awp_label ?_)
  refine awp_region tabOk fun K hK => ?_
  simp -dsimp -implicitDefEqProofs only [push_cast, ↓trAdd_f, ↓stOf_f, seval]
  refine callK_simple (bound_ok [{ bits := 1000, period := 1, jitter := 0 }] 0 (by decide) ⟨by decide, by decide⟩) ?_ rfl fun _ => ?_
  · simp -dsimp -implicitDefEqProofs only [headS, encStream, push_cast, List.mem_append, List.mem_cons, List.mem_singleton, forall_eq_or_imp, forall_eq, ↓trAdd_f, ↓stOf_f, seval]
  rw [boundH3]
  simp -dsimp -implicitDefEqProofs only [push_cast, ↓trAdd_f, ↓stOf_f, seval]
  try refine hK _ ?_
  repeat (first | refine awp_seq ?_ | refine awp_block ?_ | refine awp_skip ?_ | refine awp_scope ?_ | refine awp_label ?_)
  refine awp_region tabOk fun K hK => ?_
  simp -dsimp -implicitDefEqProofs only [push_cast, ↓trAdd_f, ↓stOf_f, seval]
  refine callK_simple (bound_ok [{ bits := 100, period := 1000, jitter := 50 }] (-1) (by decide) ⟨by decide, by decide⟩) ?_ rfl fun _ => ?_
  · simp -dsimp -implicitDefEqProofs only [headS, encStream, push_cast, List.mem_append, List.mem_cons, List.mem_singleton, forall_eq_or_imp, forall_eq, ↓trAdd_f, ↓stOf_f, seval]
  rw [boundH4]
  simp -dsimp -implicitDefEqProofs only [push_cast, ↓trAdd_f, ↓stOf_f, seval]
  refine hK _ ?_
  refine awp_le (le_frz _ [24] ?_ ?_ ?_) ?_
  · simp -dsimp -implicitDefEqProofs only [push_cast, ↓trAdd_f, ↓stOf_f, seval]
  · simp -dsimp -implicitDefEqProofs only [push_cast, ↓trAdd_f, ↓stOf_f, seval]
  · simp -dsimp -implicitDefEqProofs only [push_cast, ↓trAdd_f, ↓stOf_f, seval]
  simp -dsimp -implicitDefEqProofs only [push_cast, ↓trAdd_f, ↓stOf_f, seval]
  try refine hK _ ?_
  repeat (first | refine awp_seq ?_ | refine awp_block ?_ | refine awp_skip ?_ | refine awp_scope ?_ | refine awp_label ?_)
  refine awp_region tabOk fun K hK => ?_
  dsimp only [List.append]
  simp -dsimp -implicitDefEqProofs only [push_cast, ↓trAdd_f, ↓stOf_f, seval]
  refine callK_simple (rRight_ok false headS (by decide)) ?_ rfl fun _ => ?_
  · simp -dsimp -implicitDefEqProofs only [headS, encStream, push_cast, List.mem_append, List.mem_cons, List.mem_singleton, forall_eq_or_imp, forall_eq, ↓trAdd_f, ↓stOf_f, seval]
  rw [rightH0]
  simp -dsimp -implicitDefEqProofs only [push_cast, ↓trAdd_f, ↓stOf_f, seval]
  refine callK_simple (rRight_ok true [] (by decide)) ?_ rfl fun _ => ?_
  · simp -dsimp -implicitDefEqProofs only [headS, encStream, push_cast, List.mem_append, List.mem_cons, List.mem_singleton, forall_eq_or_imp, forall_eq, ↓trAdd_f, ↓stOf_f, seval]
  rw [rightH1]
  simp -dsimp -implicitDefEqProofs only [push_cast, ↓trAdd_f, ↓stOf_f, seval]
  refine callK_simple (rRight_ok false [{ bits := 1, period := 0, jitter := 0 }] (by decide)) ?_ rfl fun _ => ?_
  · simp -dsimp -implicitDefEqProofs only [headS, encStream, push_cast, List.mem_append, List.mem_cons, List.mem_singleton, forall_eq_or_imp, forall_eq, ↓trAdd_f, ↓stOf_f, seval]
  rw [rightH2]
  simp -dsimp -implicitDefEqProofs only [push_cast, ↓trAdd_f, ↓stOf_f, seval]
  refine callK_simple headP0 ?_ rfl fun _ => ?_
  · simp -dsimp -implicitDefEqProofs only [headS, encStream, encI, push_cast, List.mem_append, List.mem_cons, List.mem_singleton, forall_eq_or_imp, forall_eq, ↓trAdd_f, ↓stOf_f, seval]
  simp -dsimp -implicitDefEqProofs only [encI, push_cast, ↓trAdd_f, ↓stOf_f, seval]
  refine callK_simple (ints_ok false false [100, 300] [100, 300] (by decide)) ?_ rfl fun _ => ?_
  · simp -dsimp -implicitDefEqProofs only [headS, encStream, encI, push_cast, List.mem_append, List.mem_cons, List.mem_singleton, forall_eq_or_imp, forall_eq, ↓trAdd_f, ↓stOf_f, seval]
  simp -dsimp -implicitDefEqProofs only [push_cast, ↓trAdd_f, ↓stOf_f, seval]
  refine callK_simple headP1 ?_ rfl fun _ => ?_
  · simp -dsimp -implicitDefEqProofs only [headS, encStream, encI, push_cast, List.mem_append, List.mem_cons, List.mem_singleton, forall_eq_or_imp, forall_eq, ↓trAdd_f, ↓stOf_f, seval]
  simp -dsimp -implicitDefEqProofs only [encI, push_cast, ↓trAdd_f, ↓stOf_f, seval]
  refine callK_simple (ints_ok false false [299, 200] [299, 200] (by decide)) ?_ rfl fun _ => ?_
  · simp -dsimp -implicitDefEqProofs only [headS, encStream, encI, push_cast, List.mem_append, List.mem_cons, List.mem_singleton, forall_eq_or_imp, forall_eq, ↓trAdd_f, ↓stOf_f, seval]
  simp -dsimp -implicitDefEqProofs only [push_cast, ↓trAdd_f, ↓stOf_f, seval]
  refine callK_simple (playBad_ok headS [0] 1000 rightH0 (by decide) (by decide) (by decide)) ?_ rfl fun _ => ?_
  · simp -dsimp -implicitDefEqProofs only [headS, encStream, encI, push_cast, List.mem_append, List.mem_cons, List.mem_singleton, forall_eq_or_imp, forall_eq, ↓trAdd_f, ↓stOf_f, seval]
  simp -dsimp -implicitDefEqProofs only [encI, push_cast, ↓trAdd_f, ↓stOf_f, seval]
  refine callK_simple headP2 ?_ rfl fun _ => ?_
  · simp -dsimp -implicitDefEqProofs only [headS, encStream, encI, push_cast, List.mem_append, List.mem_cons, List.mem_singleton, forall_eq_or_imp, forall_eq, ↓trAdd_f, ↓stOf_f, seval]
  simp -dsimp -implicitDefEqProofs only [encI, push_cast, ↓trAdd_f, ↓stOf_f, seval]
  refine callK_simple (ints_ok false false [0, 0] [0, 0] (by decide)) ?_ rfl fun _ => ?_
  · simp -dsimp -implicitDefEqProofs only [headS, encStream, encI, push_cast, List.mem_append, List.mem_cons, List.mem_singleton, forall_eq_or_imp, forall_eq, ↓trAdd_f, ↓stOf_f, seval]
  simp -dsimp -implicitDefEqProofs only [push_cast, ↓trAdd_f, ↓stOf_f, seval]
  refine hK _ (awp_ret ?_)
  simp -dsimp -implicitDefEqProofs only [push_cast, List.mem_append, List.mem_cons, List.mem_singleton, forall_eq_or_imp, forall_eq, ↓trAdd_f, ↓stOf_f, seval]
end Go.Proofs.YtahkpghgjjlgdaaFw

/-
  How the laws' arguments read.
-/
namespace Go.Proofs.YtahkpghgjjlgdaaFw
open Go Go.Proofs
set_option linter.unusedVariables false
set_option linter.unusedSimpArgs false

theorem I64_wf {x : Int} (h : (Lit.int .i64 x).wf = true) : I64 x := by
  simpa [Lit.wf, IntKind.min, IntKind.max, IntKind.signed, IntKind.bits, I64] using h
theorem u8_wf {x : Int} (h : (Lit.int .u8 x).wf = true) : 0 ≤ x ∧ x ≤ 255 := by
  simpa [Lit.wf, IntKind.min, IntKind.max, IntKind.signed, IntKind.bits] using h
def Stream.i64 (s : Stream) : Prop := I64 s.bits ∧ I64 s.period ∧ I64 s.jitter
theorem opens36 : Opens Try.prog 36 3 encStream Stream.i64 :=
  (opens_struct Try.underlying36 (by kernel_rfl) (opensF_cons rfl (opens_int Try.underlying3 (by kernel_rfl)) (opensF_cons rfl (opens_int Try.underlying3 (by kernel_rfl)) (opensF_one rfl (opens_int Try.underlying3 (by kernel_rfl))))) (fun e : Stream => (e.bits, e.period, e.jitter)) (fun p => ⟨p.1, p.2.1, p.2.2⟩) (fun _ => rfl)).conv (fun _ => rfl) fun y h => ⟨I64_wf h.1, I64_wf h.2.1, I64_wf h.2.2⟩
theorem opens22 : Opens Try.prog 22 1 (fun l : List Stream => [.sl false 3 (l.map encStream)]) (fun l => l.length * 24 ≤ 140737488351232 ∧ l.length ≤ 140737488351232 ∧ ∀ r ∈ l, r.i64) :=
  opens_slice (B := 24) Try.underlying22 (by kernel_rfl) (by kernel_rfl) (by decide) (by decide) opens36
theorem opens23 : Opens Try.prog 23 1 (fun l : List Int => [.sl false 1 (l.map encI)]) (fun l => l.length * 8 ≤ 140737488351232 ∧ l.length ≤ 140737488351232 ∧ ∀ b ∈ l, I64 b) :=
  (opens_slice (B := 8) Try.underlying23 (by kernel_rfl) (by kernel_rfl) (by decide) (by decide) (opens_int Try.underlying3 (by kernel_rfl))).conv (fun _ => rfl) fun y h => ⟨h.1, h.2.1, fun b hb => I64_wf (h.2.2 b hb)⟩
/-- What is asked of one play. -/
structure Played where
  begins : List Int
  until_ : Int
  i : Int
def encPlayed (x : Played) : List PV := [.sl false 1 (x.begins.map encI), .int .i64 x.until_, .int .i64 x.i]
theorem opens25 : Opens Try.prog 25 3 encPlayed (fun x => x.begins.length ≤ 140737488351232 ∧ I64 x.until_ ∧ I64 x.i) :=
  (opens_struct Try.underlying25 (by kernel_rfl) (opensF_cons rfl opens23 (opensF_cons rfl (opens_int Try.underlying3 (by kernel_rfl)) (opensF_one rfl (opens_int Try.underlying3 (by kernel_rfl))))) (fun x : Played => (x.begins, x.until_, x.i)) (fun p => ⟨p.1, p.2.1, p.2.2⟩) (fun _ => rfl)).conv (fun _ => rfl) fun y h => ⟨h.1.2.1, I64_wf h.2.1, I64_wf h.2.2⟩
end Go.Proofs.YtahkpghgjjlgdaaFw

/-
  The law RespMore: more bits, more jitter, a shorter period: no bound gets less.
-/
namespace Go.Proofs.YtahkpghgjjlgdaaFw
open Go Go.Proofs
set_option maxRecDepth 100000
set_option maxHeartbeats 4000000
set_option linter.unusedVariables false
set_option linter.unusedSimpArgs false

def Stream.small (s : Stream) : Prop := 1 ≤ s.bits ∧ s.bits ≤ 150 ∧ 40 ≤ s.period ∧ s.period ≤ 1040 ∧ 0 ≤ s.jitter ∧ s.jitter ≤ 1500
theorem cut_small (l : List Stream) : ∀ s ∈ cut l, s.small := by
  intro s hs
  unfold cut at hs
  split at hs
  · simp at hs; subst hs; simp [Stream.small]
  · unfold cutL at hs
    obtain ⟨s, _, rfl⟩ := List.mem_map.1 hs
    have b1 := band_range s.bits 65535 (w := 16) (by decide) (by decide)
    have b2 := band_range s.period 65535 (w := 16) (by decide) (by decide)
    have b3 := band_range s.jitter 65535 (w := 16) (by decide) (by decide)
    have m1 : (band s.bits 65535).tmod 150 = band s.bits 65535 % 150 := Int.tmod_eq_emod_of_nonneg b1.1
    have m2 : (band s.period 65535).tmod 51 = band s.period 65535 % 51 := Int.tmod_eq_emod_of_nonneg b2.1
    have m3 : (band s.jitter 65535).tmod 1500 = band s.jitter 65535 % 1500 := Int.tmod_eq_emod_of_nonneg b3.1
    simp only [Stream.small, cutS, m1, m2, m3]
    omega
theorem load_set (t more : Int) (s' : Stream) : ∀ (l : List Stream) (k : Nat) (h : k < l.length), load (l.set k s') t more = load l t more - load1 t more l[k] + load1 t more s'
  | [], k, h => by simp at h
  | s :: l, 0, h => by rw [List.set_cons_zero, load_cons, load_cons]; show _ = _ - load1 t more s + _; omega
  | s :: l, k + 1, h => by
    have hk : k < l.length := by simpa using h
    rw [List.set_cons_succ, load_cons, load_cons, load_set t more s' l k hk]
    show _ = _ - load1 t more l[k] + _
    omega
theorem foldl_max' (l : List Stream) : ∀ n : Int, 0 ≤ n → l.foldl (fun n s => max n s.bits) n = max n (longest l) := by
  unfold longest
  induction l with
  | nil => intro n hn; simp; omega
  | cons s l ih => intro n hn; rw [List.foldl_cons, List.foldl_cons, ih _ (by omega), ih (max 0 s.bits) (by omega)]; omega
theorem longest_cons' (s : Stream) (l : List Stream) : longest (s :: l) = max (max 0 s.bits) (longest l) := by
  unfold longest
  rw [List.foldl_cons, foldl_max' l _ (by omega)]; rfl
theorem longest_set (s' : Stream) : ∀ (l : List Stream) (k : Nat), (∀ h : k < l.length, l[k].bits ≤ s'.bits) → longest l ≤ longest (l.set k s')
  | [], k, h => Int.le_refl _
  | s :: l, 0, h => by
    have := h (by simp)
    rw [List.set_cons_zero, longest_cons', longest_cons']
    simp at this; omega
  | s :: l, k + 1, h => by
    rw [List.set_cons_succ, longest_cons', longest_cons']
    have := longest_set s' l k fun h' => h (by simpa using h')
    omega
theorem longest_set_eq (s' : Stream) : ∀ (l : List Stream) (k : Nat), (∀ h : k < l.length, l[k].bits = s'.bits) → longest (l.set k s') = longest l
  | [], k, h => rfl
  | s :: l, 0, h => by
    have := h (by simp)
    rw [List.set_cons_zero, longest_cons', longest_cons']
    simp at this; omega
  | s :: l, k + 1, h => by
    rw [List.set_cons_succ, longest_cons', longest_cons', longest_set_eq s' l k fun h' => h (by simpa using h')]
theorem more_law {l : List Stream} {k : Nat} {s' : Stream} (hr : rightS l = true) (hk : k < l.length) (hs' : streamR s' = true) (hok' : s'.ok) (hb : l[k].bits ≤ s'.bits) (hj : l[k].jitter ≤ s'.jitter) (hp : s'.period ≤ l[k].period) {i : Nat} (hi : i < l.length) :
    ((boundP (l.set k s') i).2 = true → (boundP l i).2 = true ∧ (boundP l i).1 ≤ (boundP (l.set k s') i).1) ∧ (i < k → l[k].bits = s'.bits → boundP (l.set k s') i = boundP l i) := by
  obtain ⟨hs, hl1, hl16⟩ := right_ok_s hr
  have hall : ∀ s ∈ l, streamR s = true := by
    have h := hr
    unfold rightS at h
    simp only [Bool.and_eq_true, List.all_eq_true] at h
    exact h.1
  have hr' : rightS (l.set k s') = true := by
    unfold rightS betw
    simp only [Bool.and_eq_true, List.all_eq_true, decide_eq_true_eq, List.length_set]
    exact ⟨fun s hs => (List.mem_or_eq_of_mem_set hs).elim (hall s) fun e => by rw [e]; exact hs', by omega, by omega⟩
  have hi' : i < (l.set k s').length := by rw [List.length_set]; exact hi
  have hat : strmAt (l.set k s') i = if k = i then s' else strmAt l i := by
    rw [strmAt_eq hi', strmAt_eq hi, List.getElem_set]
  have hload : ∀ t more : Int, 0 ≤ t → 0 ≤ more → load (l.take i) t more ≤ load ((l.set k s').take i) t more := fun t more ht hm => by
    rw [List.take_set]
    by_cases h : k < (l.take i).length
    · rw [load_set _ _ _ _ _ h]
      have : load1 t more (l.take i)[k] ≤ load1 t more s' := by
        rw [List.getElem_take]
        exact load1_le (hs _ (List.getElem_mem hk)) hok' hb hj hp ht hm
      omega
    · rw [List.set_eq_of_length_le (by omega)]; exact Int.le_refl _
  refine ⟨fun h => ?_, fun hik hbe => ?_⟩
  · have g : Grows l (l.set k s') i := by
      refine ⟨hr, hr', hi, hi', ?_, ?_, ?_, hload, ?_⟩
      · rw [hat]; split
        · rename_i e; subst e; rw [strmAt_eq hk]; exact hb
        · exact Int.le_refl _
      · rw [hat]; split
        · rename_i e; subst e; rw [strmAt_eq hk]; exact hj
        · exact Int.le_refl _
      · rw [hat]; split
        · rename_i e; subst e; rw [strmAt_eq hk]; exact hp
        · exact Int.le_refl _
      · unfold below
        rw [List.drop_set]
        split
        · exact Int.le_refl _
        · refine longest_set s' _ _ fun h2 => ?_
          rw [List.getElem_drop]
          have e : i + 1 + (k - (i + 1)) = k := by omega
          simp only [e]; exact hb
    exact g.le h
  · refine bound_same hr' hr hi' hi (by rw [hat, if_neg (by omega)]) (fun t more => ?_) ?_
    · rw [List.take_set, List.set_eq_of_length_le (by simp; omega)]
    · unfold below
      rw [List.drop_set, if_neg (by omega)]
      refine longest_set_eq s' _ _ fun h2 => ?_
      rw [List.getElem_drop]
      have e : i + 1 + (k - (i + 1)) = k := by omega
      simp only [e]; exact hbe
theorem set_enc (m : List Stream) (k : Nat) (s : Stream) : (m.map encStream).set k (encStream s) = (m.set k s).map encStream := List.map_set.symm
theorem respMore_ok (l : List Stream) (c : Int) (x : Stream) (hl : l.length ≤ 2 ^ 47) (hc : 0 ≤ c ∧ c ≤ 255) : FnS Try.prog 5 [.sl false 3 (l.map encStream), .int .u8 c, .agg (encStream x)] [] (.bool true) [] := by
  obtain ⟨hr, h1, h5⟩ := cut_right l
  have hsm := cut_small l
  have hcw : IntKind.i64.wrap c = c := wrap_i64 (by omega) (by omega)
  refine fn_walk tabOk Try.func5 rfl (by decide +kernel) Try.ntmps5 Try.results5 (by simp) fun B hB => ?_
  try refine hK _ ?_
  repeat (first | refine awp_seq ?_ | refine awp_block ?_ | refine awp_skip ?_ | refine awp_scope ?_ | refine awp_label ?_)
  refine awp_region tabOk fun K hK => ?_
  simp -dsimp -implicitDefEqProofs only [encStream, push_cast, ↓trAdd_f, ↓stOf_f, seval]
  try refine hK _ ?_
  repeat (first | refine awp_seq ?_ | refine awp_block ?_ | refine awp_skip ?_ | refine awp_scope ?_ | refine awp_label ?_)
  refine awp_region tabOk fun K hK => ?_
  simp -dsimp -implicitDefEqProofs only [push_cast, ↓trAdd_f, ↓stOf_f, seval]
  refine callK_simple head_ok ?_ rfl fun _ => ?_
  · simp -dsimp -implicitDefEqProofs only [push_cast, List.mem_append, List.mem_cons, List.mem_singleton, forall_eq_or_imp, forall_eq, ↓trAdd_f, ↓stOf_f, seval]
  simp -dsimp -implicitDefEqProofs only [push_cast, ↓trAdd_f, ↓stOf_f, seval]
  try refine hK _ ?_
  repeat (first | refine awp_seq ?_ | refine awp_block ?_ | refine awp_skip ?_ | refine awp_scope ?_ | refine awp_label ?_)
  refine awp_region tabOk fun K hK => ?_
  simp -dsimp -implicitDefEqProofs only [push_cast, ↓trAdd_f, ↓stOf_f, seval]
  refine callK_simple (cut_ok false l) ?_ rfl fun _ => ?_
  · simp -dsimp -implicitDefEqProofs only [push_cast, List.mem_append, List.mem_cons, List.mem_singleton, forall_eq_or_imp, forall_eq, ↓trAdd_f, ↓stOf_f, seval]
  simp -dsimp -implicitDefEqProofs only [push_cast, ↓trAdd_f, ↓stOf_f, seval]
  generalize cut l = m at *
  obtain ⟨hs, _, _⟩ := right_ok_s hr
  obtain ⟨k, hk, hkm⟩ : ∃ k : Nat, c.tmod (m.length : Int) = k ∧ k < m.length := by
    have e : c.tmod (m.length : Int) = c % m.length := Int.tmod_eq_emod_of_nonneg hc.1
    have p1 := Int.emod_nonneg c (show (m.length : Int) ≠ 0 by omega)
    have p2 := Int.emod_lt_of_pos c (show (0 : Int) < m.length by omega)
    exact ⟨(c % m.length).toNat, by omega, by omega⟩
  try refine hK _ ?_
  repeat (first | refine awp_seq ?_ | refine awp_block ?_ | refine awp_skip ?_ | refine awp_scope ?_ | refine awp_label ?_)
  refine awp_region tabOk fun K hK => ?_
  simp -dsimp -implicitDefEqProofs only [push_cast, ↓trAdd_f, ↓stOf_f, seval]
  refine ⟨⟨by omega, by omega⟩, hK _ ?_⟩
  try refine hK _ ?_
  repeat (first | refine awp_seq ?_ | refine awp_block ?_ | refine awp_skip ?_ | refine awp_scope ?_ | refine awp_label ?_)
  refine awp_region tabOk fun K hK => ?_
  simp -dsimp -implicitDefEqProofs only [hcw, hk, push_cast, ↓trAdd_f, ↓stOf_f, seval]
  refine ⟨by omega, hK _ ?_⟩
  obtain ⟨hk1, hk2, hk3, hk4, hk5, hk6⟩ := hsm _ (List.getElem_mem hkm)
  have b1 := band_range x.bits 15 (w := 4) (by decide) (by decide)
  have b2 := band_range x.period 63 (w := 6) (by decide) (by decide)
  have b3 := band_range x.jitter 255 (w := 8) (by decide) (by decide)
  have b1' := b1.2
  have b2' := b2.2
  have b3' := b3.2
  simp at b1' b2' b3'
  obtain ⟨B0, hB0⟩ : ∃ B0, B0 = m[k].bits + band x.bits 15 := ⟨_, rfl⟩
  obtain ⟨J0, hJ0⟩ : ∃ J0, J0 = m[k].jitter + band x.jitter 255 := ⟨_, rfl⟩
  obtain ⟨P0, hP0⟩ : ∃ P0, P0 = max 20 (m[k].period - band x.period 63) := ⟨_, rfl⟩
  have hw1 : IntKind.i64.wrap (m[k].bits + band x.bits 15) = B0 := by rw [hB0]; exact wrap_i64 (by omega) (by omega)
  obtain ⟨P, hP⟩ : ∃ P, P = m[k].period := ⟨_, rfl⟩
  obtain ⟨J, hJ⟩ : ∃ J, J = m[k].jitter := ⟨_, rfl⟩
  have hw2 : IntKind.i64.wrap (P - band x.period 63) = P - band x.period 63 := wrap_i64 (by omega) (by omega)
  have hmx : max 20 (P - band x.period 63) = P0 := by rw [hP0, hP]
  have hw3 : IntKind.i64.wrap (J + band x.jitter 255) = J0 := by rw [hJ0, hJ]; exact wrap_i64 (by omega) (by omega)
  have hlaw := fun i (hi : i < m.length) => more_law (s' := { bits := B0, period := P0, jitter := J0 }) hr hkm (by simp only [streamR, betw, Bool.and_eq_true, decide_eq_true_eq]; omega) (by simp only [Stream.ok]; omega) (by simp only; omega) (by simp only; omega) (by simp only; omega) hi
  try refine hK _ ?_
  repeat (first | refine awp_seq ?_ | refine awp_block ?_ | refine awp_skip ?_ | refine awp_scope ?_ | refine awp_label ?_)
  refine awp_join ({ sl := [(0, .sl false 3 (m.map encStream)), (5, .ptr 0 0), (7, .bool true), (8, .own 72 3 0 (m.set k { bits := B0, period := P, jitter := J }).length), (9, .int .i64 k)], st := [(0, .box [.int .i64 x.bits, .int .i64 x.period, .int .i64 x.jitter]), (72, .row 3 ((m.set k { bits := B0, period := P, jitter := J }).map encStream))], nx := 96, n := 117 }) ?_ (fun _ hl h => awp_le hl h) ?_
  · try refine hK _ ?_
    repeat (first | refine awp_seq ?_ | refine awp_block ?_ | refine awp_skip ?_ | refine awp_scope ?_ | refine awp_label ?_)
    refine awp_draw tabOk (by kernel_rfl) (by kernel_rfl) fun K hK C hC => ?_
    simp -dsimp -implicitDefEqProofs only [hkm, getD_map, encStream, hw1, push_cast, ↓trAdd_f, ↓stOf_f, seval]
    refine ⟨⟨by omega, by omega⟩, ⟨by omega, by omega⟩, hC _ (by kernel_rfl), hK _ ?_⟩
    have e1 : List.set (m.map encStream) k [.int .i64 B0, .int .i64 P, .int .i64 J] = (m.set k { bits := B0, period := P, jitter := J }).map encStream := set_enc m k { bits := B0, period := P, jitter := J }
    have e2 : (m.set k { bits := B0, period := P, jitter := J }).length = m.length := List.length_set
    rw [← hP, ← hJ]
    refine le_intro hB [] (by simp) (fun b _ => rfl) rfl ?_ ?_ rfl <;> simp -dsimp -implicitDefEqProofs only [e1, e2, strm_ren, strm_ok, push_cast, ↓trAdd_f, ↓stOf_f, seval]
  obtain ⟨m1, hm1⟩ : ∃ z, z = m.set k { bits := B0, period := P, jitter := J } := ⟨_, rfl⟩
  rw [← hm1]
  have hm1l : m1.length = m.length := by rw [hm1]; exact List.length_set
  have hm1h : k < m1.length := by omega
  have hm1k : m1[k] = { bits := B0, period := P, jitter := J } := by subst hm1; exact List.getElem_set_self _
  have hm1s : m1.set k { bits := B0, period := P, jitter := J0 } = m.set k { bits := B0, period := P, jitter := J0 } := by rw [hm1, List.set_set]
  try refine hK _ ?_
  repeat (first | refine awp_seq ?_ | refine awp_block ?_ | refine awp_skip ?_ | refine awp_scope ?_ | refine awp_label ?_)
  refine awp_join ({ sl := [(0, .sl false 3 (m.map encStream)), (5, .ptr 0 0), (7, .bool true), (8, .own 72 3 0 (m.set k { bits := B0, period := P, jitter := J0 }).length), (9, .int .i64 k)], st := [(0, .box [.int .i64 x.bits, .int .i64 x.period, .int .i64 x.jitter]), (72, .row 3 ((m.set k { bits := B0, period := P, jitter := J0 }).map encStream))], nx := 96, n := 117 }) ?_ (fun _ hl h => awp_le hl h) ?_
  · try refine hK _ ?_
    repeat (first | refine awp_seq ?_ | refine awp_block ?_ | refine awp_skip ?_ | refine awp_scope ?_ | refine awp_label ?_)
    refine awp_draw tabOk (by kernel_rfl) (by kernel_rfl) fun K hK C hC => ?_
    simp -dsimp -implicitDefEqProofs only [hm1h, getD_map, encStream, hm1k, hw3, push_cast, ↓trAdd_f, ↓stOf_f, seval]
    refine ⟨⟨by omega, by omega⟩, ⟨by omega, by omega⟩, hC _ (by kernel_rfl), hK _ ?_⟩
    have e1 : List.set (m1.map encStream) k [.int .i64 B0, .int .i64 P, .int .i64 J0] = (m.set k { bits := B0, period := P, jitter := J0 }).map encStream := by rw [← hm1s]; exact set_enc m1 k { bits := B0, period := P, jitter := J0 }
    have e2 : (m.set k { bits := B0, period := P, jitter := J0 }).length = m1.length := by rw [← hm1s]; exact List.length_set
    refine le_intro hB [] (by simp) (fun b _ => rfl) rfl ?_ ?_ rfl <;> simp -dsimp -implicitDefEqProofs only [e1, e2, strm_ren, strm_ok, push_cast, ↓trAdd_f, ↓stOf_f, seval]
  obtain ⟨m2, hm2⟩ : ∃ z, z = m.set k { bits := B0, period := P, jitter := J0 } := ⟨_, rfl⟩
  rw [← hm2]
  have hm2l : m2.length = m.length := by rw [hm2]; exact List.length_set
  have hm2h : k < m2.length := by omega
  have hm2k : m2[k] = { bits := B0, period := P, jitter := J0 } := by subst hm2; exact List.getElem_set_self _
  have hm2s : m2.set k { bits := B0, period := P0, jitter := J0 } = m.set k { bits := B0, period := P0, jitter := J0 } := by rw [hm2, List.set_set]
  try refine hK _ ?_
  repeat (first | refine awp_seq ?_ | refine awp_block ?_ | refine awp_skip ?_ | refine awp_scope ?_ | refine awp_label ?_)
  refine awp_join ({ sl := [(0, .sl false 3 (m.map encStream)), (5, .ptr 0 0), (7, .bool true), (8, .own 72 3 0 (m.set k { bits := B0, period := P0, jitter := J0 }).length), (9, .int .i64 k)], st := [(0, .box [.int .i64 x.bits, .int .i64 x.period, .int .i64 x.jitter]), (72, .row 3 ((m.set k { bits := B0, period := P0, jitter := J0 }).map encStream))], nx := 96, n := 117 }) ?_ (fun _ hl h => awp_le hl h) ?_
  · try refine hK _ ?_
    repeat (first | refine awp_seq ?_ | refine awp_block ?_ | refine awp_skip ?_ | refine awp_scope ?_ | refine awp_label ?_)
    refine awp_draw tabOk (by kernel_rfl) (by kernel_rfl) fun K hK C hC => ?_
    simp -dsimp -implicitDefEqProofs only [hm2h, getD_map, encStream, hm2k, hw2, hmx, push_cast, ↓trAdd_f, ↓stOf_f, seval]
    refine ⟨⟨by omega, by omega⟩, ⟨by omega, by omega⟩, hC _ (by kernel_rfl), hK _ ?_⟩
    have e1 : List.set (m2.map encStream) k [.int .i64 B0, .int .i64 P0, .int .i64 J0] = (m.set k { bits := B0, period := P0, jitter := J0 }).map encStream := by rw [← hm2s]; exact set_enc m2 k { bits := B0, period := P0, jitter := J0 }
    have e2 : (m.set k { bits := B0, period := P0, jitter := J0 }).length = m2.length := by rw [← hm2s]; exact List.length_set
    refine le_intro hB [] (by simp) (fun b _ => rfl) rfl ?_ ?_ rfl <;> simp -dsimp -implicitDefEqProofs only [e1, e2, strm_ren, strm_ok, push_cast, ↓trAdd_f, ↓stOf_f, seval]
  obtain ⟨M, hM⟩ : ∃ z, z = m.set k { bits := B0, period := P0, jitter := J0 } := ⟨_, rfl⟩
  rw [← hM] at hlaw ⊢
  have hMl : M.length = m.length := by rw [hM]; exact List.length_set
  have hbits : band x.bits 15 = 0 → m[k].bits = B0 := fun h => by omega
  simp only at hlaw
  clear hM hm1s hm2s hm1k hm2k hm1h hm2h hm1l hm2l hm1 hm2 hw1 hw2 hw3 hmx
  try refine hK _ ?_
  repeat (first | refine awp_seq ?_ | refine awp_block ?_ | refine awp_skip ?_ | refine awp_scope ?_ | refine awp_label ?_)
  refine awp_region tabOk fun K hK => ?_
  simp -dsimp -implicitDefEqProofs only [push_cast, ↓trAdd_f, ↓stOf_f, seval]
  refine hK _ (awp_block ?_)
  refine awp_for (fun i : Nat => { sl := [(0, .sl false 3 (m.map encStream)), (5, .ptr 0 0), (7, .bool true), (8, .own 72 3 0 M.length), (9, .int .i64 k), (10, .int .i64 i)], st := [(0, .box [.int .i64 x.bits, .int .i64 x.period, .int .i64 x.jitter]), (72, .row 3 (M.map encStream))], nx := 96, n := 117 }) (fun i => i ≤ m.length) (fun i => m.length - i) 0 (Nat.zero_le _) ?_ fun i hi => ?_
  · refine le_intro hB [] (by simp) (fun b _ => rfl) rfl ?_ ?_ rfl <;> simp -dsimp -implicitDefEqProofs only [strm_ren, strm_ok, push_cast, ↓trAdd_f, ↓stOf_f, seval]
  try refine hK _ ?_
  repeat (first | refine awp_seq ?_ | refine awp_block ?_ | refine awp_skip ?_ | refine awp_scope ?_ | refine awp_label ?_)
  refine awp_region tabOk fun K hK => ?_
  simp -dsimp -implicitDefEqProofs only [push_cast, ↓trAdd_f, ↓stOf_f, seval]
  try refine hK _ ?_
  repeat (first | refine awp_seq ?_ | refine awp_block ?_ | refine awp_skip ?_ | refine awp_scope ?_ | refine awp_label ?_)
  refine awp_cond (b := decide ((i : Int) < m.length)) (by simp -dsimp -implicitDefEqProofs only [push_cast, ↓trAdd_f, ↓stOf_f, seval]) (fun h => ?_) (fun h => ?_)
  · have hlt : i < m.length := by simpa using h
    obtain ⟨hA, hB1⟩ := hlaw i hlt
    try refine hK _ ?_
    repeat (first | refine awp_seq ?_ | refine awp_block ?_ | refine awp_skip ?_ | refine awp_scope ?_ | refine awp_label ?_)
    refine awp_region tabOk fun K hK => ?_
    simp -dsimp -implicitDefEqProofs only [push_cast, ↓trAdd_f, ↓stOf_f, seval]
    refine callK_simple (bound_ok m i (by omega) (by unfold I64; omega)) ?_ rfl fun _ => ?_
    · simp -dsimp -implicitDefEqProofs only [push_cast, List.mem_append, List.mem_cons, List.mem_singleton, forall_eq_or_imp, forall_eq, ↓trAdd_f, ↓stOf_f, seval]
    simp -dsimp -implicitDefEqProofs only [push_cast, ↓trAdd_f, ↓stOf_f, seval]
    try refine hK _ ?_
    repeat (first | refine awp_seq ?_ | refine awp_block ?_ | refine awp_skip ?_ | refine awp_scope ?_ | refine awp_label ?_)
    refine awp_region tabOk fun K hK => ?_
    simp -dsimp -implicitDefEqProofs only [push_cast, ↓trAdd_f, ↓stOf_f, seval]
    refine callK_simple (bound_ok M i (by omega) (by unfold I64; omega)) ?_ rfl fun _ => ?_
    · simp -dsimp -implicitDefEqProofs only [strm_ren, strm_ok, strm_fzl, push_cast, List.mem_append, List.mem_cons, List.mem_singleton, forall_eq_or_imp, forall_eq, ↓trAdd_f, ↓stOf_f, seval]
    simp -dsimp -implicitDefEqProofs only [push_cast, ↓trAdd_f, ↓stOf_f, seval]
    obtain ⟨⟨a, ia⟩, hp⟩ : ∃ p, p = boundP m i := ⟨_, rfl⟩
    obtain ⟨⟨d, id⟩, hp'⟩ : ∃ p, p = boundP M i := ⟨_, rfl⟩
    rw [← hp, ← hp'] at hA hB1
    rw [← hp, ← hp']
    try simp only at hA
    try refine hK _ ?_
    repeat (first | refine awp_seq ?_ | refine awp_block ?_ | refine awp_skip ?_ | refine awp_scope ?_ | refine awp_label ?_)
    refine awp_join ({ sl := [(0, .sl false 3 (m.map encStream)), (5, .ptr 0 0), (7, .bool true), (8, .own 72 3 0 M.length), (9, .int .i64 k), (10, .int .i64 i), (115, .bool false)], st := [(0, .box [.int .i64 x.bits, .int .i64 x.period, .int .i64 x.jitter]), (72, .row 3 (M.map encStream))], nx := 400, n := 117 }) ?_ (fun _ hl h => awp_le hl h) ?_
    · cases hik : decide ((i : Int) < k) with
      | false =>
        cases id with
        | false =>
          try refine hK _ ?_
          repeat (first | refine awp_seq ?_ | refine awp_block ?_ | refine awp_skip ?_ | refine awp_scope ?_ | refine awp_label ?_)
          refine awp_region tabOk fun K hK => ?_
          simp -dsimp -implicitDefEqProofs only [hik, push_cast, ↓trAdd_f, ↓stOf_f, seval]
          refine hK _ ?_
          refine le_intro hB [] (by simp) (fun b _ => rfl) rfl ?_ ?_ rfl <;> simp -dsimp -implicitDefEqProofs only [strm_ren, strm_ok, push_cast, ↓trAdd_f, ↓stOf_f, seval]
        | true =>
          obtain ⟨rfl, hle⟩ := hA rfl
          have e1 : decide (d < a) = false := by simp; omega
          try refine hK _ ?_
          repeat (first | refine awp_seq ?_ | refine awp_block ?_ | refine awp_skip ?_ | refine awp_scope ?_ | refine awp_label ?_)
          refine awp_region tabOk fun K hK => ?_
          simp -dsimp -implicitDefEqProofs only [hik, e1, push_cast, ↓trAdd_f, ↓stOf_f, seval]
          refine hK _ ?_
          refine le_intro hB [] (by simp) (fun b _ => rfl) rfl ?_ ?_ rfl <;> simp -dsimp -implicitDefEqProofs only [strm_ren, strm_ok, push_cast, ↓trAdd_f, ↓stOf_f, seval]
      | true =>
        have hik' : i < k := by simp at hik; omega
        cases id with
        | false =>
          cases ia with
          | false =>
            try refine hK _ ?_
            repeat (first | refine awp_seq ?_ | refine awp_block ?_ | refine awp_skip ?_ | refine awp_scope ?_ | refine awp_label ?_)
            refine awp_region tabOk fun K hK => ?_
            simp -dsimp -implicitDefEqProofs only [hik, push_cast, ↓trAdd_f, ↓stOf_f, seval]
            refine hK _ ?_
            refine le_intro hB [] (by simp) (fun b _ => rfl) rfl ?_ ?_ rfl <;> simp -dsimp -implicitDefEqProofs only [strm_ren, strm_ok, push_cast, ↓trAdd_f, ↓stOf_f, seval]
          | true =>
            try refine hK _ ?_
            repeat (first | refine awp_seq ?_ | refine awp_block ?_ | refine awp_skip ?_ | refine awp_scope ?_ | refine awp_label ?_)
            refine awp_region tabOk fun K hK => ?_
            simp -dsimp -implicitDefEqProofs only [hik, push_cast, ↓trAdd_f, ↓stOf_f, seval]
            refine hK _ ?_
            refine le_intro hB [] (by simp) (fun b _ => rfl) rfl ?_ ?_ rfl <;> simp -dsimp -implicitDefEqProofs only [strm_ren, strm_ok, push_cast, ↓trAdd_f, ↓stOf_f, seval]
        | true =>
          obtain ⟨rfl, hle⟩ := hA rfl
          have e1 : decide (d < a) = false := by simp; omega
          cases hz : (band x.bits 15 == 0) with
          | false =>
            try refine hK _ ?_
            repeat (first | refine awp_seq ?_ | refine awp_block ?_ | refine awp_skip ?_ | refine awp_scope ?_ | refine awp_label ?_)
            refine awp_region tabOk fun K hK => ?_
            simp -dsimp -implicitDefEqProofs only [hik, e1, hz, push_cast, ↓trAdd_f, ↓stOf_f, seval]
            refine hK _ ?_
            refine le_intro hB [] (by simp) (fun b _ => rfl) rfl ?_ ?_ rfl <;> simp -dsimp -implicitDefEqProofs only [strm_ren, strm_ok, push_cast, ↓trAdd_f, ↓stOf_f, seval]
          | true =>
            have hda : d = a := congrArg Prod.fst (hB1 hik' (hbits (by simpa using hz)))
            have e2 : (d != a) = false := by simp [hda]
            try refine hK _ ?_
            repeat (first | refine awp_seq ?_ | refine awp_block ?_ | refine awp_skip ?_ | refine awp_scope ?_ | refine awp_label ?_)
            refine awp_region tabOk fun K hK => ?_
            simp -dsimp -implicitDefEqProofs only [hik, e1, hz, e2, push_cast, ↓trAdd_f, ↓stOf_f, seval]
            refine hK _ ?_
            refine le_intro hB [] (by simp) (fun b _ => rfl) rfl ?_ ?_ rfl <;> simp -dsimp -implicitDefEqProofs only [strm_ren, strm_ok, push_cast, ↓trAdd_f, ↓stOf_f, seval]
    try refine hK _ ?_
    repeat (first | refine awp_seq ?_ | refine awp_block ?_ | refine awp_skip ?_ | refine awp_scope ?_ | refine awp_label ?_)
    refine awp_cond (b := false) (by simp -dsimp -implicitDefEqProofs only [push_cast, ↓trAdd_f, ↓stOf_f, seval]) (fun h => ?_) (fun h => ?_)
    · simp at h
    refine awp_skip ?_
    try refine hK _ ?_
    repeat (first | refine awp_seq ?_ | refine awp_block ?_ | refine awp_skip ?_ | refine awp_scope ?_ | refine awp_label ?_)
    refine awp_region tabOk fun K hK => ?_
    simp -dsimp -implicitDefEqProofs only [push_cast, ↓trAdd_f, ↓stOf_f, seval]
    try simp (disch := omega) only [wrap_i64, wrap_u8, wrap_u16, wrap_u32]
    refine hK _ ⟨i + 1, by omega, by omega, ?_⟩
    refine le_intro hB [] (by simp) (fun b _ => rfl) rfl ?_ ?_ rfl <;> simp -dsimp -implicitDefEqProofs only [strm_ren, strm_ok, push_cast, ↓trAdd_f, ↓stOf_f, seval]
  refine awp_exit rfl ?_
  try refine hK _ ?_
  repeat (first | refine awp_seq ?_ | refine awp_block ?_ | refine awp_skip ?_ | refine awp_scope ?_ | refine awp_label ?_)
  refine awp_region tabOk fun K hK => ?_
  simp -dsimp -implicitDefEqProofs only [push_cast, ↓trAdd_f, ↓stOf_f, seval]
  refine hK _ (awp_ret ?_)
  simp -dsimp -implicitDefEqProofs only [strm_fzl, push_cast, List.mem_append, List.mem_cons, List.mem_singleton, forall_eq_or_imp, forall_eq, ↓trAdd_f, ↓stOf_f, seval]
theorem lawRespMore (l : List Stream) (c : Int) (x : Stream) (hl : l.length * 24 ≤ 140737488351232 ∧ l.length ≤ 140737488351232 ∧ ∀ r ∈ l, r.i64) (hc : (Lit.int .u8 c).wf = true) (hx : x.i64) :
    FnS Try.prog 5 [.sl false 3 (l.map encStream), .int .u8 c, .agg (encStream x)] [] (.bool true) [] :=
  respMore_ok l c x (by omega) (u8_wf hc)
end Go.Proofs.YtahkpghgjjlgdaaFw
