import Derived.Test.YtahkpghgjjlgdaaJ2
import Derived.Test.YtahkpghgjjlgdaaJ6
import Derived.Test.YtahkpghgjjlgdaaJ1
/-
  The walk of head.
-/
namespace Go.Proofs.YtahkpghgjjlgdaaFw
open Go Go.Proofs
set_option maxRecDepth 100000
set_option maxHeartbeats 16000000
set_option linter.unusedVariables false
set_option linter.unusedSimpArgs false

theorem playBad_ok (l : List Stream) (bs : List Int) (until_ : Int) (hr : rightS l = true) (h5 : l.length ≤ 5) (hb : bs.length ≤ 2 ^ 30) (hne : bs.length ≠ l.length) :
    FnS Try.prog 18 [.sl false 3 (l.map encStream), .sl false 1 (bs.map encI), .int .i64 until_] [] (.sl false 1 []) [] := by
  have hne' : ((bs.length : Int) != (l.length : Int)) = true := by simp; omega
  refine fn_walk tabOk Try.func18 rfl (by decide +kernel) Try.ntmps18 Try.results18 (by simp) fun B hB => ?_
  try refine hK _ ?_
  repeat (first | refine awp_seq ?_ | refine awp_block ?_ | refine awp_skip ?_ | refine awp_scope ?_ | refine awp_label ?_)
  refine awp_region tabOk fun K hK => ?_
  simp -dsimp -implicitDefEqProofs only [push_cast, ↓trAdd_f, ↓stOf_f, seval]
  try refine hK _ ?_
  repeat (first | refine awp_seq ?_ | refine awp_block ?_ | refine awp_skip ?_ | refine awp_scope ?_ | refine awp_label ?_)
  refine awp_region tabOk fun K hK => ?_
  simp -dsimp -implicitDefEqProofs only [push_cast, ↓trAdd_f, ↓stOf_f, seval]
  refine callK_simple (rRight_ok false l (by omega)) ?_ rfl fun _ => ?_
  · simp -dsimp -implicitDefEqProofs only [push_cast, List.mem_append, List.mem_cons, List.mem_singleton, forall_eq_or_imp, forall_eq, ↓trAdd_f, ↓stOf_f, seval]
  rw [hr]
  simp -dsimp -implicitDefEqProofs only [hne', push_cast, ↓trAdd_f, ↓stOf_f, seval]
  try refine hK _ ?_
  repeat (first | refine awp_seq ?_ | refine awp_block ?_ | refine awp_skip ?_ | refine awp_scope ?_ | refine awp_label ?_)
  refine awp_cond (b := true) (by simp -dsimp -implicitDefEqProofs only [push_cast, ↓trAdd_f, ↓stOf_f, seval]) (fun h => ?_) (fun h => ?_)
  · try refine hK _ ?_
    repeat (first | refine awp_seq ?_ | refine awp_block ?_ | refine awp_skip ?_ | refine awp_scope ?_ | refine awp_label ?_)
    refine awp_region tabOk fun K hK => ?_
    simp -dsimp -implicitDefEqProofs only [push_cast, ↓trAdd_f, ↓stOf_f, seval]
    refine hK _ (awp_ret ?_)
    simp -dsimp -implicitDefEqProofs only [push_cast, List.mem_append, List.mem_cons, List.mem_singleton, forall_eq_or_imp, forall_eq, ↓trAdd_f, ↓stOf_f, seval]
  · simp at h
def headS : List Stream := [{ bits := 100, period := 1000, jitter := 50 }, { bits := 200, period := 1000, jitter := 0 }]
theorem boundH0 : boundP headS 0 = (350, true) := by decide +kernel
theorem boundH1 : boundP headS 1 = (300, true) := by decide +kernel
theorem boundH2 : boundP headS 2 = (0, false) := by decide +kernel
theorem boundH3 : boundP [{ bits := 1000, period := 1, jitter := 0 }] 0 = (0, false) := by decide +kernel
theorem boundH4 : boundP [{ bits := 100, period := 1000, jitter := 50 }] (-1) = (0, false) := by decide +kernel
theorem playH0 : playZ headS [0, 0] 1000 = [100, 300] := by decide +kernel
theorem playH1 : playZ headS [1, 0] 1000 = [299, 200] := by decide +kernel
theorem playH2 : playZ headS [0, 0] 0 = [0, 0] := by decide +kernel
theorem rightH0 : rightS headS = true := by decide
theorem rightH1 : rightS [] = false := by decide
theorem rightH2 : rightS [{ bits := 1, period := 0, jitter := 0 }] = false := by decide
theorem headP0 : FnS Try.prog 18 [.sl false 3 (headS.map encStream), .sl false 1 (([0, 0] : List Int).map encI), .int .i64 1000] [] (.sl false 1 (([100, 300] : List Int).map encI)) [] := by
  rw [← playH0]; exact play2_ok _ _ 0 0 1000 rightH0 (by decide) (by decide)
theorem headP1 : FnS Try.prog 18 [.sl false 3 (headS.map encStream), .sl false 1 (([1, 0] : List Int).map encI), .int .i64 1000] [] (.sl false 1 (([299, 200] : List Int).map encI)) [] := by
  rw [← playH1]; exact play2_ok _ _ 1 0 1000 rightH0 (by decide) (by decide)
theorem headP2 : FnS Try.prog 18 [.sl false 3 (headS.map encStream), .sl false 1 (([0, 0] : List Int).map encI), .int .i64 0] [] (.sl false 1 (([0, 0] : List Int).map encI)) [] := by
  rw [← playH2]; exact play2_ok _ _ 0 0 0 rightH0 (by decide) (by decide)
theorem head_ok : FnS Try.prog 10 [] [] (.bool true) [] := by
  refine fn_walk tabOk Try.func10 rfl (by decide +kernel) Try.ntmps10 Try.results10 (by simp) fun B hB => ?_
  try refine hK _ ?_
  repeat (first | refine awp_seq ?_ | refine awp_block ?_ | refine awp_skip ?_ | refine awp_scope ?_ | refine awp_label ?_)
  refine awp_region tabOk fun K hK => ?_
  simp -dsimp -implicitDefEqProofs only [push_cast, ↓trAdd_f, ↓stOf_f, seval]
  try refine hK _ ?_
  repeat (first | refine awp_seq ?_ | refine awp_block ?_ | refine awp_skip ?_ | refine awp_scope ?_ | refine awp_label ?_)
  refine awp_region tabOk fun K hK => ?_
  simp -dsimp -implicitDefEqProofs only [push_cast, ↓trAdd_f, ↓stOf_f, seval]
  try refine hK _ ?_
  repeat (first | refine awp_seq ?_ | refine awp_block ?_ | refine awp_skip ?_ | refine awp_scope ?_ | refine awp_label ?_)
  refine awp_region tabOk fun K hK => ?_
  simp -dsimp -implicitDefEqProofs only [push_cast, ↓trAdd_f, ↓stOf_f, seval]
  refine callK_simple (bound_ok headS 0 (by decide) ⟨by decide, by decide⟩) ?_ rfl fun _ => ?_
  · simp -dsimp -implicitDefEqProofs only [headS, encStream, push_cast, List.mem_append, List.mem_cons, List.mem_singleton, forall_eq_or_imp, forall_eq, ↓trAdd_f, ↓stOf_f, seval]
  rw [boundH0]
  simp -dsimp -implicitDefEqProofs only [push_cast, ↓trAdd_f, ↓stOf_f, seval]
  try refine hK _ ?_
  repeat (first | refine awp_seq ?_ | refine awp_block ?_ | refine awp_skip ?_ | refine awp_scope ?_ | refine awp_label ?_)
  refine awp_region tabOk fun K hK => ?_
  simp -dsimp -implicitDefEqProofs only [push_cast, ↓trAdd_f, ↓stOf_f, seval]
  refine callK_simple (bound_ok headS 1 (by decide) ⟨by decide, by decide⟩) ?_ rfl fun _ => ?_
  · simp -dsimp -implicitDefEqProofs only [headS, encStream, push_cast, List.mem_append, List.mem_cons, List.mem_singleton, forall_eq_or_imp, forall_eq, ↓trAdd_f, ↓stOf_f, seval]
  rw [boundH1]
  simp -dsimp -implicitDefEqProofs only [push_cast, ↓trAdd_f, ↓stOf_f, seval]
  try refine hK _ ?_
  repeat (first | refine awp_seq ?_ | refine awp_block ?_ | refine awp_skip ?_ | refine awp_scope ?_ | refine awp_label ?_)
  refine awp_region tabOk fun K hK => ?_
  simp -dsimp -implicitDefEqProofs only [push_cast, ↓trAdd_f, ↓stOf_f, seval]
  refine callK_simple (bound_ok headS 2 (by decide) ⟨by decide, by decide⟩) ?_ rfl fun _ => ?_
  · simp -dsimp -implicitDefEqProofs only [headS, encStream, push_cast, List.mem_append, List.mem_cons, List.mem_singleton, forall_eq_or_imp, forall_eq, ↓trAdd_f, ↓stOf_f, seval]
  rw [boundH2]
  simp -dsimp -implicitDefEqProofs only [push_cast, ↓trAdd_f, ↓stOf_f, seval]
  try refine hK _ ?_
  repeat (first | refine awp_seq ?_ | refine awp_block ?_ | refine awp_skip ?_ | refine awp_scope ?_ | refine awp_label ?_)
  refine awp_region tabOk fun K hK => ?_
  simp -dsimp -implicitDefEqProofs only [push_cast, ↓trAdd_f, ↓stOf_f, seval]
  refine callK_simple (bound_ok [{ bits := 1000, period := 1, jitter := 0 }] 0 (by decide) ⟨by decide, by decide⟩) ?_ rfl fun _ => ?_
  · simp -dsimp -implicitDefEqProofs only [headS, encStream, push_cast, List.mem_append, List.mem_cons, List.mem_singleton, forall_eq_or_imp, forall_eq, ↓trAdd_f, ↓stOf_f, seval]
  rw [boundH3]
  simp -dsimp -implicitDefEqProofs only [push_cast, ↓trAdd_f, ↓stOf_f, seval]
  try refine hK _ ?_
  repeat (first | refine awp_seq ?_ | refine awp_block ?_ | refine awp_skip ?_ | refine awp_scope ?_ | refine awp_label ?_)
  refine awp_region tabOk fun K hK => ?_
  simp -dsimp -implicitDefEqProofs only [push_cast, ↓trAdd_f, ↓stOf_f, seval]
  refine callK_simple (bound_ok [{ bits := 100, period := 1000, jitter := 50 }] (-1) (by decide) ⟨by decide, by decide⟩) ?_ rfl fun _ => ?_
  · simp -dsimp -implicitDefEqProofs only [headS, encStream, push_cast, List.mem_append, List.mem_cons, List.mem_singleton, forall_eq_or_imp, forall_eq, ↓trAdd_f, ↓stOf_f, seval]
  rw [boundH4]
  simp -dsimp -implicitDefEqProofs only [push_cast, ↓trAdd_f, ↓stOf_f, seval]
  refine hK _ ?_
  refine awp_le (le_frz _ [24] ?_ ?_ ?_) ?_
  · simp -dsimp -implicitDefEqProofs only [push_cast, ↓trAdd_f, ↓stOf_f, seval]
  · simp -dsimp -implicitDefEqProofs only [push_cast, ↓trAdd_f, ↓stOf_f, seval]
  · simp -dsimp -implicitDefEqProofs only [push_cast, ↓trAdd_f, ↓stOf_f, seval]
  simp -dsimp -implicitDefEqProofs only [push_cast, ↓trAdd_f, ↓stOf_f, seval]
  try refine hK _ ?_
  repeat (first | refine awp_seq ?_ | refine awp_block ?_ | refine awp_skip ?_ | refine awp_scope ?_ | refine awp_label ?_)
  refine awp_region tabOk fun K hK => ?_
  dsimp only [List.append]
  simp -dsimp -implicitDefEqProofs only [push_cast, ↓trAdd_f, ↓stOf_f, seval]
  refine callK_simple (rRight_ok false headS (by decide)) ?_ rfl fun _ => ?_
  · simp -dsimp -implicitDefEqProofs only [headS, encStream, push_cast, List.mem_append, List.mem_cons, List.mem_singleton, forall_eq_or_imp, forall_eq, ↓trAdd_f, ↓stOf_f, seval]
  rw [rightH0]
  simp -dsimp -implicitDefEqProofs only [push_cast, ↓trAdd_f, ↓stOf_f, seval]
  refine callK_simple (rRight_ok true [] (by decide)) ?_ rfl fun _ => ?_
  · simp -dsimp -implicitDefEqProofs only [headS, encStream, push_cast, List.mem_append, List.mem_cons, List.mem_singleton, forall_eq_or_imp, forall_eq, ↓trAdd_f, ↓stOf_f, seval]
  rw [rightH1]
  simp -dsimp -implicitDefEqProofs only [push_cast, ↓trAdd_f, ↓stOf_f, seval]
  refine callK_simple (rRight_ok false [{ bits := 1, period := 0, jitter := 0 }] (by decide)) ?_ rfl fun _ => ?_
  · simp -dsimp -implicitDefEqProofs only [headS, encStream, push_cast, List.mem_append, List.mem_cons, List.mem_singleton, forall_eq_or_imp, forall_eq, ↓trAdd_f, ↓stOf_f, seval]
  rw [rightH2]
  simp -dsimp -implicitDefEqProofs only [push_cast, ↓trAdd_f, ↓stOf_f, seval]
  refine callK_simple headP0 ?_ rfl fun _ => ?_
  · simp -dsimp -implicitDefEqProofs only [headS, encStream, encI, push_cast, List.mem_append, List.mem_cons, List.mem_singleton, forall_eq_or_imp, forall_eq, ↓trAdd_f, ↓stOf_f, seval]
  simp -dsimp -implicitDefEqProofs only [encI, push_cast, ↓trAdd_f, ↓stOf_f, seval]
  refine callK_simple (ints_ok false false [100, 300] [100, 300] (by decide)) ?_ rfl fun _ => ?_
  · simp -dsimp -implicitDefEqProofs only [headS, encStream, encI, push_cast, List.mem_append, List.mem_cons, List.mem_singleton, forall_eq_or_imp, forall_eq, ↓trAdd_f, ↓stOf_f, seval]
  simp -dsimp -implicitDefEqProofs only [push_cast, ↓trAdd_f, ↓stOf_f, seval]
  refine callK_simple headP1 ?_ rfl fun _ => ?_
  · simp -dsimp -implicitDefEqProofs only [headS, encStream, encI, push_cast, List.mem_append, List.mem_cons, List.mem_singleton, forall_eq_or_imp, forall_eq, ↓trAdd_f, ↓stOf_f, seval]
  simp -dsimp -implicitDefEqProofs only [encI, push_cast, ↓trAdd_f, ↓stOf_f, seval]
  refine callK_simple (ints_ok false false [299, 200] [299, 200] (by decide)) ?_ rfl fun _ => ?_
  · simp -dsimp -implicitDefEqProofs only [headS, encStream, encI, push_cast, List.mem_append, List.mem_cons, List.mem_singleton, forall_eq_or_imp, forall_eq, ↓trAdd_f, ↓stOf_f, seval]
  simp -dsimp -implicitDefEqProofs only [push_cast, ↓trAdd_f, ↓stOf_f, seval]
  refine callK_simple (playBad_ok headS [0] 1000 rightH0 (by decide) (by decide) (by decide)) ?_ rfl fun _ => ?_
  · simp -dsimp -implicitDefEqProofs only [headS, encStream, encI, push_cast, List.mem_append, List.mem_cons, List.mem_singleton, forall_eq_or_imp, forall_eq, ↓trAdd_f, ↓stOf_f, seval]
  simp -dsimp -implicitDefEqProofs only [encI, push_cast, ↓trAdd_f, ↓stOf_f, seval]
  refine callK_simple headP2 ?_ rfl fun _ => ?_
  · simp -dsimp -implicitDefEqProofs only [headS, encStream, encI, push_cast, List.mem_append, List.mem_cons, List.mem_singleton, forall_eq_or_imp, forall_eq, ↓trAdd_f, ↓stOf_f, seval]
  simp -dsimp -implicitDefEqProofs only [encI, push_cast, ↓trAdd_f, ↓stOf_f, seval]
  refine callK_simple (ints_ok false false [0, 0] [0, 0] (by decide)) ?_ rfl fun _ => ?_
  · simp -dsimp -implicitDefEqProofs only [headS, encStream, encI, push_cast, List.mem_append, List.mem_cons, List.mem_singleton, forall_eq_or_imp, forall_eq, ↓trAdd_f, ↓stOf_f, seval]
  simp -dsimp -implicitDefEqProofs only [push_cast, ↓trAdd_f, ↓stOf_f, seval]
  refine hK _ (awp_ret ?_)
  simp -dsimp -implicitDefEqProofs only [push_cast, List.mem_append, List.mem_cons, List.mem_singleton, forall_eq_or_imp, forall_eq, ↓trAdd_f, ↓stOf_f, seval]
end Go.Proofs.YtahkpghgjjlgdaaFw

/-
  How the laws' arguments read.
-/
namespace Go.Proofs.YtahkpghgjjlgdaaFw
open Go Go.Proofs
set_option linter.unusedVariables false
set_option linter.unusedSimpArgs false

theorem I64_wf {x : Int} (h : (Lit.int .i64 x).wf = true) : I64 x := by
  simpa [Lit.wf, IntKind.min, IntKind.max, IntKind.signed, IntKind.bits, I64] using h
theorem u8_wf {x : Int} (h : (Lit.int .u8 x).wf = true) : 0 ≤ x ∧ x ≤ 255 := by
  simpa [Lit.wf, IntKind.min, IntKind.max, IntKind.signed, IntKind.bits] using h
def Stream.i64 (s : Stream) : Prop := I64 s.bits ∧ I64 s.period ∧ I64 s.jitter
theorem opens36 : Opens Try.prog 36 3 encStream Stream.i64 :=
  (opens_struct Try.underlying36 (by kernel_rfl) (opensF_cons rfl (opens_int Try.underlying3 (by kernel_rfl)) (opensF_cons rfl (opens_int Try.underlying3 (by kernel_rfl)) (opensF_one rfl (opens_int Try.underlying3 (by kernel_rfl))))) (fun e : Stream => (e.bits, e.period, e.jitter)) (fun p => ⟨p.1, p.2.1, p.2.2⟩) (fun _ => rfl)).conv (fun _ => rfl) fun y h => ⟨I64_wf h.1, I64_wf h.2.1, I64_wf h.2.2⟩
theorem opens22 : Opens Try.prog 22 1 (fun l : List Stream => [.sl false 3 (l.map encStream)]) (fun l => l.length * 24 ≤ 140737488351232 ∧ l.length ≤ 140737488351232 ∧ ∀ r ∈ l, r.i64) :=
  opens_slice (B := 24) Try.underlying22 (by kernel_rfl) (by kernel_rfl) (by decide) (by decide) opens36
theorem opens23 : Opens Try.prog 23 1 (fun l : List Int => [.sl false 1 (l.map encI)]) (fun l => l.length * 8 ≤ 140737488351232 ∧ l.length ≤ 140737488351232 ∧ ∀ b ∈ l, I64 b) :=
  (opens_slice (B := 8) Try.underlying23 (by kernel_rfl) (by kernel_rfl) (by decide) (by decide) (opens_int Try.underlying3 (by kernel_rfl))).conv (fun _ => rfl) fun y h => ⟨h.1, h.2.1, fun b hb => I64_wf (h.2.2 b hb)⟩
/-- What is asked of one play. -/
structure Played where
  begins : List Int
  until_ : Int
  i : Int
def encPlayed (x : Played) : List PV := [.sl false 1 (x.begins.map encI), .int .i64 x.until_, .int .i64 x.i]
theorem opens25 : Opens Try.prog 25 3 encPlayed (fun x => x.begins.length ≤ 140737488351232 ∧ I64 x.until_ ∧ I64 x.i) :=
  (opens_struct Try.underlying25 (by kernel_rfl) (opensF_cons rfl opens23 (opensF_cons rfl (opens_int Try.underlying3 (by kernel_rfl)) (opensF_one rfl (opens_int Try.underlying3 (by kernel_rfl))))) (fun x : Played => (x.begins, x.until_, x.i)) (fun p => ⟨p.1, p.2.1, p.2.2⟩) (fun _ => rfl)).conv (fun _ => rfl) fun y h => ⟨h.1.2.1, I64_wf h.2.1, I64_wf h.2.2⟩
end Go.Proofs.YtahkpghgjjlgdaaFw

/-
  The law RespEach: what is not right has no bound and is not played.
-/
namespace Go.Proofs.YtahkpghgjjlgdaaFw
open Go Go.Proofs
set_option maxRecDepth 100000
set_option maxHeartbeats 4000000
set_option linter.unusedVariables false
set_option linter.unusedSimpArgs false

def badS (n : Int) : List Stream := [{ bits := 0 - n, period := 40, jitter := 0 }, { bits := 1001 + n, period := 40, jitter := 0 }, { bits := 9, period := 0 - n, jitter := 0 }, { bits := 9, period := 1000001 + n, jitter := 0 }, { bits := 9, period := 40, jitter := -1 - n }, { bits := 9, period := 40, jitter := 1000001 + n }]
theorem badS_bad {n : Int} (h0 : 0 ≤ n) : ∀ s ∈ badS n, streamR s = false := by
  unfold badS
  simp only [List.mem_cons, List.not_mem_nil, or_false, forall_eq_or_imp, forall_eq, streamR, betw, Bool.and_eq_false_iff, decide_eq_false_iff_not]
  omega
theorem right_app {l : List Stream} {s : Stream} (h : streamR s = false) : rightS (l ++ [s]) = false := by
  unfold rightS; simp [h]
theorem bound_bad {l : List Stream} {i : Int} (h : rightS l = false) : boundP l i = (0, false) := by
  unfold boundP; rw [if_neg (by simp [h])]
theorem play_bad {l : List Stream} {bs : List Int} {u : Int} (h : ¬ (rightS l = true ∧ bs.length = l.length ∧ 0 ≤ u ∧ u ≤ 1000000 ∧ ∀ b ∈ bs, 0 ≤ b ∧ b ≤ 1000000)) : playZ l bs u = [] := by
  unfold playZ; rw [if_neg h]
theorem startsN_bd (bs : List Int) (n : Nat) : ∀ b ∈ startsN bs n, 0 ≤ b ∧ b ≤ 1000000 := by
  intro b hb
  unfold startsN at hb
  obtain ⟨k, _, rfl⟩ := List.mem_map.1 hb
  unfold startAt
  split
  · have b1 := band_range (bs.getD k 0) 65535 (w := 16) (by decide) (by decide)
    have m1 : (band (bs.getD k 0) 65535).tmod 2000 = band (bs.getD k 0) 65535 % 2000 := Int.tmod_eq_emod_of_nonneg b1.1
    rw [m1]; omega
  · decide
theorem playZ_full {m : List Stream} {bs : List Int} {u : Int} (h : rightS m = true ∧ bs.length = m.length ∧ 0 ≤ u ∧ u ≤ 1000000 ∧ ∀ b ∈ bs, 0 ≤ b ∧ b ≤ 1000000) : (playZ m bs u).length = m.length := by
  unfold playZ; rw [if_pos h, List.length_map, playN_len]; simp [play0]; omega
theorem respEach_ok (l : List Stream) (c : Int) (bs : List Int) (hl : l.length ≤ 2 ^ 47) (hb : bs.length ≤ 2 ^ 50) (hc : 0 ≤ c ∧ c ≤ 255) : FnS Try.prog 9 [.sl false 3 (l.map encStream), .int .u8 c, .sl false 1 (bs.map encI)] [] (.bool true) [] := by
  obtain ⟨hr, h1, h5⟩ := cut_right l
  have hm0 : c.tmod 9 = c % 9 := Int.tmod_eq_emod_of_nonneg hc.1
  have hn : 0 ≤ c.tmod 9 ∧ c.tmod 9 ≤ 8 := by rw [hm0]; omega
  have hcw : IntKind.i64.wrap c = c := wrap_i64 (by omega) (by omega)
  refine fn_walk tabOk Try.func9 rfl (by decide +kernel) Try.ntmps9 Try.results9 (by simp) fun B hB => ?_
  try refine hK _ ?_
  repeat (first | refine awp_seq ?_ | refine awp_block ?_ | refine awp_skip ?_ | refine awp_scope ?_ | refine awp_label ?_)
  refine awp_region tabOk fun K hK => ?_
  simp -dsimp -implicitDefEqProofs only [push_cast, ↓trAdd_f, ↓stOf_f, seval]
  try refine hK _ ?_
  repeat (first | refine awp_seq ?_ | refine awp_block ?_ | refine awp_skip ?_ | refine awp_scope ?_ | refine awp_label ?_)
  refine awp_region tabOk fun K hK => ?_
  simp -dsimp -implicitDefEqProofs only [push_cast, ↓trAdd_f, ↓stOf_f, seval]
  refine callK_simple head_ok ?_ rfl fun _ => ?_
  · simp -dsimp -implicitDefEqProofs only [push_cast, List.mem_append, List.mem_cons, List.mem_singleton, forall_eq_or_imp, forall_eq, ↓trAdd_f, ↓stOf_f, seval]
  simp -dsimp -implicitDefEqProofs only [push_cast, ↓trAdd_f, ↓stOf_f, seval]
  try refine hK _ ?_
  repeat (first | refine awp_seq ?_ | refine awp_block ?_ | refine awp_skip ?_ | refine awp_scope ?_ | refine awp_label ?_)
  refine awp_region tabOk fun K hK => ?_
  simp -dsimp -implicitDefEqProofs only [push_cast, ↓trAdd_f, ↓stOf_f, seval]
  refine callK_simple (cut_ok false l) ?_ rfl fun _ => ?_
  · simp -dsimp -implicitDefEqProofs only [push_cast, List.mem_append, List.mem_cons, List.mem_singleton, forall_eq_or_imp, forall_eq, ↓trAdd_f, ↓stOf_f, seval]
  simp -dsimp -implicitDefEqProofs only [push_cast, ↓trAdd_f, ↓stOf_f, seval]
  generalize cut l = m at *
  try refine hK _ ?_
  repeat (first | refine awp_seq ?_ | refine awp_block ?_ | refine awp_skip ?_ | refine awp_scope ?_ | refine awp_label ?_)
  refine awp_region tabOk fun K hK => ?_
  simp -dsimp -implicitDefEqProofs only [hcw, push_cast, ↓trAdd_f, ↓stOf_f, seval]
  generalize c.tmod 9 = n at *
  have e1 : IntKind.i64.wrap (0 - n) = 0 - n := wrap_i64 (by omega) (by omega)
  have e2 : IntKind.i64.wrap (1001 + n) = 1001 + n := wrap_i64 (by omega) (by omega)
  have e3 : IntKind.i64.wrap (1000001 + n) = 1000001 + n := wrap_i64 (by omega) (by omega)
  have e4 : IntKind.i64.wrap (-1 - n) = -1 - n := wrap_i64 (by omega) (by omega)
  try refine hK _ ?_
  repeat (first | refine awp_seq ?_ | refine awp_block ?_ | refine awp_skip ?_ | refine awp_scope ?_ | refine awp_label ?_)
  refine awp_join ({ sl := [(0, .sl false 3 (m.map encStream)), (2, .sl false 1 (bs.map encI)), (7, .bool true), (8, .int .i64 n), (9, .sl false 3 ((badS n).map encStream))], st := [], nx := 0, n := 155 }) ?_ (fun _ hl h => awp_le hl h) ?_
  · try refine hK _ ?_
    repeat (first | refine awp_seq ?_ | refine awp_block ?_ | refine awp_skip ?_ | refine awp_scope ?_ | refine awp_label ?_)
    refine awp_region tabOk fun K hK => ?_
    simp -dsimp -implicitDefEqProofs only [e1, e2, e3, e4, push_cast, ↓trAdd_f, ↓stOf_f, seval]
    refine hK _ ?_
    refine AS.le_trans (le_frz _ [224] ?_ ?_ ?_) ?_
    · simp -dsimp -implicitDefEqProofs only [badS, encStream, push_cast, ↓trAdd_f, ↓stOf_f, seval]
    · simp -dsimp -implicitDefEqProofs only [badS, encStream, push_cast, ↓trAdd_f, ↓stOf_f, seval]
    · simp -dsimp -implicitDefEqProofs only [badS, encStream, push_cast, ↓trAdd_f, ↓stOf_f, seval]
    simp -dsimp -implicitDefEqProofs only [badS, encStream, push_cast, ↓trAdd_f, ↓stOf_f, seval]
    refine le_intro hB [] (by simp) (fun b _ => rfl) rfl ?_ ?_ rfl <;> simp -dsimp -implicitDefEqProofs only [push_cast, ↓trAdd_f, ↓stOf_f, seval]
  have hbad := badS_bad hn.1
  have hbl : (badS n).length = 6 := rfl
  generalize badS n = L at *
  try refine hK _ ?_
  repeat (first | refine awp_seq ?_ | refine awp_block ?_ | refine awp_skip ?_ | refine awp_scope ?_ | refine awp_label ?_)
  refine awp_region tabOk fun K hK => ?_
  simp -dsimp -implicitDefEqProofs only [push_cast, ↓trAdd_f, ↓stOf_f, seval]
  refine hK _ (awp_block ?_)
  refine awp_for (fun k : Nat => { sl := [(0, .sl false 3 (m.map encStream)), (2, .sl false 1 (bs.map encI)), (7, .bool true), (8, .int .i64 n), (9, .sl false 3 (L.map encStream)), (10, .int .i64 k)], st := [], nx := 0, n := 155 }) (fun k => k ≤ 6) (fun k => 6 - k) 0 (Nat.zero_le _) ?_ fun k hk => ?_
  · refine le_intro hB [] (by simp) (fun b _ => rfl) rfl ?_ ?_ rfl <;> simp -dsimp -implicitDefEqProofs only [push_cast, ↓trAdd_f, ↓stOf_f, seval]
  try refine hK _ ?_
  repeat (first | refine awp_seq ?_ | refine awp_block ?_ | refine awp_skip ?_ | refine awp_scope ?_ | refine awp_label ?_)
  refine awp_region tabOk fun K hK => ?_
  simp -dsimp -implicitDefEqProofs only [push_cast, ↓trAdd_f, ↓stOf_f, seval]
  try refine hK _ ?_
  repeat (first | refine awp_seq ?_ | refine awp_block ?_ | refine awp_skip ?_ | refine awp_scope ?_ | refine awp_label ?_)
  refine awp_cond (b := decide ((k : Int) < L.length)) (by simp -dsimp -implicitDefEqProofs only [push_cast, ↓trAdd_f, ↓stOf_f, seval]) (fun h => ?_) (fun h => ?_)
  · have hlt : k < L.length := by simp at h; omega
    have hLk : streamR L[k] = false := hbad _ (List.getElem_mem hlt)
    have hr' := right_app (l := m) hLk
    have hbd := bound_bad (i := 0) hr'
    try refine hK _ ?_
    repeat (first | refine awp_seq ?_ | refine awp_block ?_ | refine awp_skip ?_ | refine awp_scope ?_ | refine awp_label ?_)
    refine awp_region tabOk fun K hK => ?_
    simp -dsimp -implicitDefEqProofs only [push_cast, ↓trAdd_f, ↓stOf_f, seval]
    refine ⟨⟨by omega, by omega⟩, hK _ ?_⟩
    try refine hK _ ?_
    repeat (first | refine awp_seq ?_ | refine awp_block ?_ | refine awp_skip ?_ | refine awp_scope ?_ | refine awp_label ?_)
    refine awp_join ({ sl := [(0, .sl false 3 (m.map encStream)), (2, .sl false 1 (bs.map encI)), (7, .bool true), (8, .int .i64 n), (9, .sl false 3 (L.map encStream)), (10, .int .i64 k), (11, .own 112 3 0 (m ++ [L[k]]).length)], st := [(112, .row 3 ((m ++ [L[k]]).map encStream))], nx := 128, n := 155 }) ?_ (fun _ hl h => awp_le hl h) ?_
    · try refine hK _ ?_
      repeat (first | refine awp_seq ?_ | refine awp_block ?_ | refine awp_skip ?_ | refine awp_scope ?_ | refine awp_label ?_)
      refine awp_region tabOk fun K hK => ?_
      simp -dsimp -implicitDefEqProofs only [hlt, getD_map, encStream, push_cast, ↓trAdd_f, ↓stOf_f, seval]
      refine ⟨⟨by omega, by omega⟩, ⟨by omega, by omega⟩, hK _ ?_⟩
      refine le_intro hB [] (by simp) (fun b _ => rfl) rfl ?_ ?_ rfl <;> simp -dsimp -implicitDefEqProofs only [List.map_append, encStream, strm_ren, strm_ok, List.map_cons, List.map_nil, push_cast, ↓trAdd_f, ↓stOf_f, seval]
    have hMl : (m ++ [L[k]]).length ≤ 6 := by simp; omega
    generalize m ++ [L[k]] = M at *
    try refine hK _ ?_
    repeat (first | refine awp_seq ?_ | refine awp_block ?_ | refine awp_skip ?_ | refine awp_scope ?_ | refine awp_label ?_)
    refine awp_region tabOk fun K hK => ?_
    simp -dsimp -implicitDefEqProofs only [push_cast, ↓trAdd_f, ↓stOf_f, seval]
    refine callK_simple (bound_ok M 0 (by omega) ⟨by decide, by decide⟩) ?_ rfl fun _ => ?_
    · simp -dsimp -implicitDefEqProofs only [strm_ren, strm_ok, strm_fzl, push_cast, List.mem_append, List.mem_cons, List.mem_singleton, forall_eq_or_imp, forall_eq, ↓trAdd_f, ↓stOf_f, seval]
    rw [hbd]
    simp -dsimp -implicitDefEqProofs only [push_cast, ↓trAdd_f, ↓stOf_f, seval]
    refine hK _ ?_
    refine awp_le (le_frz _ [112] ?_ ?_ ?_) ?_
    · simp -dsimp -implicitDefEqProofs only [strm_ren, strm_ok, strm_fzl, push_cast, ↓trAdd_f, ↓stOf_f, seval]
    · simp -dsimp -implicitDefEqProofs only [strm_ren, strm_ok, strm_fzl, push_cast, ↓trAdd_f, ↓stOf_f, seval]
    · simp -dsimp -implicitDefEqProofs only [strm_ren, strm_ok, strm_fzl, push_cast, ↓trAdd_f, ↓stOf_f, seval]
    simp -dsimp -implicitDefEqProofs only [strm_ren, strm_ok, strm_fzl, push_cast, ↓trAdd_f, ↓stOf_f, seval]
    try refine hK _ ?_
    repeat (first | refine awp_seq ?_ | refine awp_block ?_ | refine awp_skip ?_ | refine awp_scope ?_ | refine awp_label ?_)
    refine awp_region tabOk fun K hK => ?_
    simp -dsimp -implicitDefEqProofs only [push_cast, ↓trAdd_f, ↓stOf_f, seval]
    refine callK_simple (rRight_ok false M (by omega)) ?_ rfl fun _ => ?_
    · simp -dsimp -implicitDefEqProofs only [push_cast, List.mem_append, List.mem_cons, List.mem_singleton, forall_eq_or_imp, forall_eq, ↓trAdd_f, ↓stOf_f, seval]
    rw [hr']
    simp -dsimp -implicitDefEqProofs only [push_cast, ↓trAdd_f, ↓stOf_f, seval]
    refine callK_simple (starts_ok M bs (by omega) hb) ?_ rfl fun _ => ?_
    · simp -dsimp -implicitDefEqProofs only [push_cast, List.mem_append, List.mem_cons, List.mem_singleton, forall_eq_or_imp, forall_eq, ↓trAdd_f, ↓stOf_f, seval]
    simp -dsimp -implicitDefEqProofs only [push_cast, ↓trAdd_f, ↓stOf_f, seval]
    refine callK_simple (playA_ok M (startsN bs M.length) 100 (by omega) (by rw [startsN_len]; omega) (by rw [hr']; intro h; cases h)) ?_ rfl fun _ => ?_
    · simp -dsimp -implicitDefEqProofs only [push_cast, List.mem_append, List.mem_cons, List.mem_singleton, forall_eq_or_imp, forall_eq, ↓trAdd_f, ↓stOf_f, seval]
    rw [play_bad (l := M) (by rw [hr']; simp)]
    simp -dsimp -implicitDefEqProofs only [push_cast, ↓trAdd_f, ↓stOf_f, seval]
    try refine hK _ ?_
    repeat (first | refine awp_seq ?_ | refine awp_block ?_ | refine awp_skip ?_ | refine awp_scope ?_ | refine awp_label ?_)
    refine awp_cond (b := false) (by simp -dsimp -implicitDefEqProofs only [push_cast, ↓trAdd_f, ↓stOf_f, seval]) (fun h => ?_) (fun h => ?_)
    · simp at h
    refine awp_skip ?_
    try refine hK _ ?_
    repeat (first | refine awp_seq ?_ | refine awp_block ?_ | refine awp_skip ?_ | refine awp_scope ?_ | refine awp_label ?_)
    refine awp_region tabOk fun K hK => ?_
    simp -dsimp -implicitDefEqProofs only [push_cast, ↓trAdd_f, ↓stOf_f, seval]
    try simp (disch := omega) only [wrap_i64, wrap_u8, wrap_u16, wrap_u32]
    refine hK _ ⟨k + 1, by omega, by omega, ?_⟩
    refine le_intro hB [] (by simp) (fun b _ => rfl) rfl ?_ ?_ rfl <;> simp -dsimp -implicitDefEqProofs only [push_cast, ↓trAdd_f, ↓stOf_f, seval]
  clear hbad hbl
  refine awp_exit rfl ?_
  try refine hK _ ?_
  repeat (first | refine awp_seq ?_ | refine awp_block ?_ | refine awp_skip ?_ | refine awp_scope ?_ | refine awp_label ?_)
  refine awp_region tabOk fun K hK => ?_
  simp -dsimp -implicitDefEqProofs only [push_cast, ↓trAdd_f, ↓stOf_f, seval]
  refine callK_simple (starts_ok m bs (by omega) hb) ?_ rfl fun _ => ?_
  · simp -dsimp -implicitDefEqProofs only [push_cast, List.mem_append, List.mem_cons, List.mem_singleton, forall_eq_or_imp, forall_eq, ↓trAdd_f, ↓stOf_f, seval]
  simp -dsimp -implicitDefEqProofs only [push_cast, ↓trAdd_f, ↓stOf_f, seval]
  have hsl := startsN_len bs m.length
  have hsb := startsN_bd bs m.length
  generalize startsN bs m.length = ss at *
  have hw : IntKind.i64.wrap ((ss.length : Int) - 1) = ((ss.length - 1 : Nat) : Int) := by rw [wrap_i64 (by omega) (by omega)]; omega
  have htk : List.take (ss.length - 1) (ss.map encI) = (ss.take (ss.length - 1)).map encI := List.map_take.symm
  have hless : (ss.take (ss.length - 1)).length + 1 = m.length := by rw [List.length_take]; omega
  try refine hK _ ?_
  repeat (first | refine awp_seq ?_ | refine awp_block ?_ | refine awp_skip ?_ | refine awp_scope ?_ | refine awp_label ?_)
  refine awp_region tabOk fun K hK => ?_
  simp -dsimp -implicitDefEqProofs only [hw, push_cast, ↓trAdd_f, ↓stOf_f, seval]
  refine ⟨⟨by omega, by omega⟩, hK _ ?_⟩
  simp only [htk]
  generalize ss.take (ss.length - 1) = q at *
  try refine hK _ ?_
  repeat (first | refine awp_seq ?_ | refine awp_block ?_ | refine awp_skip ?_ | refine awp_scope ?_ | refine awp_label ?_)
  refine awp_region tabOk fun K hK => ?_
  simp -dsimp -implicitDefEqProofs only [push_cast, ↓trAdd_f, ↓stOf_f, seval]
  refine ⟨⟨by omega, by omega⟩, hK _ ?_⟩
  try refine hK _ ?_
  repeat (first | refine awp_seq ?_ | refine awp_block ?_ | refine awp_skip ?_ | refine awp_scope ?_ | refine awp_label ?_)
  refine awp_join ({ sl := [(0, .sl false 3 (m.map encStream)), (2, .sl false 1 (bs.map encI)), (7, .bool true), (8, .int .i64 n), (14, .sl false 1 (ss.map encI)), (15, .sl false 1 (q.map encI)), (16, .sl false 1 ((q ++ [-1 - n]).map encI))], st := [], nx := 192, n := 155 }) ?_ (fun _ hl h => awp_le hl h) ?_
  · try refine hK _ ?_
    repeat (first | refine awp_seq ?_ | refine awp_block ?_ | refine awp_skip ?_ | refine awp_scope ?_ | refine awp_label ?_)
    refine awp_region tabOk fun K hK => ?_
    simp -dsimp -implicitDefEqProofs only [e4, push_cast, ↓trAdd_f, ↓stOf_f, seval]
    refine ⟨⟨by omega, by omega⟩, hK _ ?_⟩
    refine AS.le_trans (s2 := { sl := [(0, .sl false 3 (m.map encStream)), (2, .sl false 1 (bs.map encI)), (7, .bool true), (8, .int .i64 n), (14, .sl false 1 (ss.map encI)), (15, .sl false 1 (q.map encI)), (16, .own 176 1 0 (q ++ [-1 - n]).length)], st := [(176, .row 1 ((q ++ [-1 - n]).map encI))], nx := 192, n := 155 }) ?_ ?_
    · refine le_intro hB [] (by simp) (fun b _ => rfl) rfl ?_ ?_ rfl <;> simp -dsimp -implicitDefEqProofs only [List.map_append, encI, ren_int, ok_int, List.map_cons, List.map_nil, push_cast, ↓trAdd_f, ↓stOf_f, seval]
    generalize q ++ [-1 - n] = Q at *
    refine AS.le_trans (le_frz _ [176] ?_ ?_ ?_) ?_
    · simp -dsimp -implicitDefEqProofs only [ren_int, ok_int, fz_int, push_cast, ↓trAdd_f, ↓stOf_f, seval]
    · simp -dsimp -implicitDefEqProofs only [ren_int, ok_int, fz_int, push_cast, ↓trAdd_f, ↓stOf_f, seval]
    · simp -dsimp -implicitDefEqProofs only [ren_int, ok_int, fz_int, push_cast, ↓trAdd_f, ↓stOf_f, seval]
    simp -dsimp -implicitDefEqProofs only [ren_int, ok_int, fz_int, push_cast, ↓trAdd_f, ↓stOf_f, seval]
    refine le_intro hB [] (by simp) (fun b _ => rfl) rfl ?_ ?_ rfl <;> simp -dsimp -implicitDefEqProofs only [ren_int, ok_int, push_cast, ↓trAdd_f, ↓stOf_f, seval]
  try refine hK _ ?_
  repeat (first | refine awp_seq ?_ | refine awp_block ?_ | refine awp_skip ?_ | refine awp_scope ?_ | refine awp_label ?_)
  refine awp_region tabOk fun K hK => ?_
  simp -dsimp -implicitDefEqProofs only [push_cast, ↓trAdd_f, ↓stOf_f, seval]
  refine ⟨⟨by omega, by omega⟩, hK _ ?_⟩
  try refine hK _ ?_
  repeat (first | refine awp_seq ?_ | refine awp_block ?_ | refine awp_skip ?_ | refine awp_scope ?_ | refine awp_label ?_)
  refine awp_join ({ sl := [(0, .sl false 3 (m.map encStream)), (2, .sl false 1 (bs.map encI)), (7, .bool true), (8, .int .i64 n), (14, .sl false 1 (ss.map encI)), (15, .sl false 1 (q.map encI)), (16, .sl false 1 ((q ++ [-1 - n]).map encI)), (17, .sl false 1 ((q ++ [1000001 + n]).map encI))], st := [], nx := 320, n := 155 }) ?_ (fun _ hl h => awp_le hl h) ?_
  · try refine hK _ ?_
    repeat (first | refine awp_seq ?_ | refine awp_block ?_ | refine awp_skip ?_ | refine awp_scope ?_ | refine awp_label ?_)
    refine awp_region tabOk fun K hK => ?_
    simp -dsimp -implicitDefEqProofs only [e3, push_cast, ↓trAdd_f, ↓stOf_f, seval]
    refine ⟨⟨by omega, by omega⟩, hK _ ?_⟩
    refine AS.le_trans (s2 := { sl := [(0, .sl false 3 (m.map encStream)), (2, .sl false 1 (bs.map encI)), (7, .bool true), (8, .int .i64 n), (14, .sl false 1 (ss.map encI)), (15, .sl false 1 (q.map encI)), (16, .sl false 1 ((q ++ [-1 - n]).map encI)), (17, .own 256 1 0 (q ++ [1000001 + n]).length)], st := [(256, .row 1 ((q ++ [1000001 + n]).map encI))], nx := 320, n := 155 }) ?_ ?_
    · generalize (q ++ [-1 - n]).map encI = Q
      refine le_intro hB [] (by simp) (fun b _ => rfl) rfl ?_ ?_ rfl <;> simp -dsimp -implicitDefEqProofs only [List.map_append, encI, ren_int, ok_int, List.map_cons, List.map_nil, push_cast, ↓trAdd_f, ↓stOf_f, seval]
    generalize q ++ [1000001 + n] = Q at *
    refine AS.le_trans (le_frz _ [256] ?_ ?_ ?_) ?_
    · simp -dsimp -implicitDefEqProofs only [ren_int, ok_int, fz_int, push_cast, ↓trAdd_f, ↓stOf_f, seval]
    · simp -dsimp -implicitDefEqProofs only [ren_int, ok_int, fz_int, push_cast, ↓trAdd_f, ↓stOf_f, seval]
    · simp -dsimp -implicitDefEqProofs only [ren_int, ok_int, fz_int, push_cast, ↓trAdd_f, ↓stOf_f, seval]
    simp -dsimp -implicitDefEqProofs only [ren_int, ok_int, fz_int, push_cast, ↓trAdd_f, ↓stOf_f, seval]
    refine le_intro hB [] (by simp) (fun b _ => rfl) rfl ?_ ?_ rfl <;> simp -dsimp -implicitDefEqProofs only [ren_int, ok_int, push_cast, ↓trAdd_f, ↓stOf_f, seval]
  have hfull := playZ_full (m := m) (bs := ss) (u := 100) ⟨hr, hsl, by decide, by decide, hsb⟩
  try refine hK _ ?_
  repeat (first | refine awp_seq ?_ | refine awp_block ?_ | refine awp_skip ?_ | refine awp_scope ?_ | refine awp_label ?_)
  refine awp_region tabOk fun K hK => ?_
  simp -dsimp -implicitDefEqProofs only [push_cast, ↓trAdd_f, ↓stOf_f, seval]
  refine callK_simple (rRight_ok false m (by omega)) ?_ rfl fun _ => ?_
  · simp -dsimp -implicitDefEqProofs only [push_cast, List.mem_append, List.mem_cons, List.mem_singleton, forall_eq_or_imp, forall_eq, ↓trAdd_f, ↓stOf_f, seval]
  rw [hr]
  simp -dsimp -implicitDefEqProofs only [push_cast, ↓trAdd_f, ↓stOf_f, seval]
  refine callK_simple (playA_ok m q 100 (by omega) (by first | omega | (simp; omega)) (fun _ => h5)) ?_ rfl fun _ => ?_
  · simp -dsimp -implicitDefEqProofs only [push_cast, List.mem_append, List.mem_cons, List.mem_singleton, forall_eq_or_imp, forall_eq, ↓trAdd_f, ↓stOf_f, seval]
  rw [play_bad (l := m) (bs := q) (u := 100) (by omega)]
  simp -dsimp -implicitDefEqProofs only [push_cast, ↓trAdd_f, ↓stOf_f, seval]
  refine callK_simple (playA_ok m (q ++ [-1 - n]) 100 (by omega) (by first | omega | (simp; omega)) (fun _ => h5)) ?_ rfl fun _ => ?_
  · simp -dsimp -implicitDefEqProofs only [push_cast, List.mem_append, List.mem_cons, List.mem_singleton, forall_eq_or_imp, forall_eq, ↓trAdd_f, ↓stOf_f, seval]
  rw [play_bad (l := m) (bs := (q ++ [-1 - n])) (u := 100) (by rintro ⟨_, _, _, _, h⟩; have := h (-1 - n) (by simp); omega)]
  simp -dsimp -implicitDefEqProofs only [push_cast, ↓trAdd_f, ↓stOf_f, seval]
  refine callK_simple (playA_ok m (q ++ [1000001 + n]) 100 (by omega) (by first | omega | (simp; omega)) (fun _ => h5)) ?_ rfl fun _ => ?_
  · simp -dsimp -implicitDefEqProofs only [push_cast, List.mem_append, List.mem_cons, List.mem_singleton, forall_eq_or_imp, forall_eq, ↓trAdd_f, ↓stOf_f, seval]
  rw [play_bad (l := m) (bs := (q ++ [1000001 + n])) (u := 100) (by rintro ⟨_, _, _, _, h⟩; have := h (1000001 + n) (by simp); omega)]
  simp -dsimp -implicitDefEqProofs only [e4, push_cast, ↓trAdd_f, ↓stOf_f, seval]
  refine callK_simple (playA_ok m ss (-1 - n) (by omega) (by first | omega | (simp; omega)) (fun _ => h5)) ?_ rfl fun _ => ?_
  · simp -dsimp -implicitDefEqProofs only [push_cast, List.mem_append, List.mem_cons, List.mem_singleton, forall_eq_or_imp, forall_eq, ↓trAdd_f, ↓stOf_f, seval]
  rw [play_bad (l := m) (bs := ss) (u := (-1 - n)) (by omega)]
  simp -dsimp -implicitDefEqProofs only [e3, push_cast, ↓trAdd_f, ↓stOf_f, seval]
  refine callK_simple (playA_ok m ss (1000001 + n) (by omega) (by first | omega | (simp; omega)) (fun _ => h5)) ?_ rfl fun _ => ?_
  · simp -dsimp -implicitDefEqProofs only [push_cast, List.mem_append, List.mem_cons, List.mem_singleton, forall_eq_or_imp, forall_eq, ↓trAdd_f, ↓stOf_f, seval]
  rw [play_bad (l := m) (bs := ss) (u := (1000001 + n)) (by omega)]
  simp -dsimp -implicitDefEqProofs only [push_cast, ↓trAdd_f, ↓stOf_f, seval]
  refine callK_simple (playA_ok m ss 100 (by omega) (by first | omega | (simp; omega)) (fun _ => h5)) ?_ rfl fun _ => ?_
  · simp -dsimp -implicitDefEqProofs only [push_cast, List.mem_append, List.mem_cons, List.mem_singleton, forall_eq_or_imp, forall_eq, ↓trAdd_f, ↓stOf_f, seval]
  simp -dsimp -implicitDefEqProofs only [hfull, push_cast, ↓trAdd_f, ↓stOf_f, seval]
  refine hK _ (awp_ret ?_)
  simp -dsimp -implicitDefEqProofs only [push_cast, List.mem_append, List.mem_cons, List.mem_singleton, forall_eq_or_imp, forall_eq, ↓trAdd_f, ↓stOf_f, seval]
theorem lawRespEach (l : List Stream) (c : Int) (bs : List Int) (hl : l.length * 24 ≤ 140737488351232 ∧ l.length ≤ 140737488351232 ∧ ∀ r ∈ l, r.i64) (hc : (Lit.int .u8 c).wf = true) (hb : bs.length * 8 ≤ 140737488351232 ∧ bs.length ≤ 140737488351232 ∧ ∀ b ∈ bs, I64 b) :
    FnS Try.prog 9 [.sl false 3 (l.map encStream), .int .u8 c, .sl false 1 (bs.map encI)] [] (.bool true) [] :=
  respEach_ok l c bs (by omega) (by omega) (u8_wf hc)
end Go.Proofs.YtahkpghgjjlgdaaFw
