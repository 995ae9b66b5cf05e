import Derived.Test.YtahkpghgjjlgdaaJ2
import Derived.Test.YtahkpghgjjlgdaaJ6
import Derived.Test.YtahkpghgjjlgdaaJ1
/-
  The walk of head.
-/
namespace Go.Proofs.YtahkpghgjjlgdaaFw
open Go Go.Proofs
set_option maxRecDepth 100000
set_option maxHeartbeats 16000000
set_option linter.unusedVariables false
set_option linter.unusedSimpArgs false

theorem playBad_ok (l : List Stream) (bs : List Int) (until_ : Int) (hr : rightS l = true) (h5 : l.length ≤ 5) (hb : bs.length ≤ 2 ^ 30) (hne : bs.length ≠ l.length) :
    FnS Try.prog 18 [.sl false 3 (l.map encStream), .sl false 1 (bs.map encI), .int .i64 until_] [] (.sl false 1 []) [] := by
  have hne' : ((bs.length : Int) != (l.length : Int)) = true := by simp; omega
  refine fn_walk tabOk Try.func18 rfl (by decide +kernel) Try.ntmps18 Try.results18 (by simp) fun B hB => ?_
  try refine hK _ ?_
  repeat (first | refine awp_seq ?_ | refine awp_block ?_ | refine awp_skip ?_ | refine awp_scope ?_ | refine awp_label ?_)
  refine awp_region tabOk fun K hK => ?_
  simp -dsimp -implicitDefEqProofs only [push_cast, ↓trAdd_f, ↓stOf_f, seval]
  try refine hK _ ?_
  repeat (first | refine awp_seq ?_ | refine awp_block ?_ | refine awp_skip ?_ | refine awp_scope ?_ | refine awp_label ?_)
  refine awp_region tabOk fun K hK => ?_
  simp -dsimp -implicitDefEqProofs only [push_cast, ↓trAdd_f, ↓stOf_f, seval]
  refine callK_simple (rRight_ok false l (by omega)) ?_ rfl fun _ => ?_
  · simp -dsimp -implicitDefEqProofs only [push_cast, List.mem_append, List.mem_cons, List.mem_singleton, forall_eq_or_imp, forall_eq, ↓trAdd_f, ↓stOf_f, seval]
  rw [hr]
  simp -dsimp -implicitDefEqProofs only [hne', push_cast, ↓trAdd_f, ↓stOf_f, seval]
  try refine hK _ ?_
  repeat (first | refine awp_seq ?_ | refine awp_block ?_ | refine awp_skip ?_ | refine awp_scope ?_ | refine awp_label ?_)
  refine awp_cond (b := true) (by simp -dsimp -implicitDefEqProofs only [push_cast, ↓trAdd_f, ↓stOf_f, seval]) (fun h => ?_) (fun h => ?_)
  · try refine hK _ ?_
    repeat (first | refine awp_seq ?_ | refine awp_block ?_ | refine awp_skip ?_ | refine awp_scope ?_ | refine awp_label ?_)
    refine awp_region tabOk fun K hK => ?_
    simp -dsimp -implicitDefEqProofs only [push_cast, ↓trAdd_f, ↓stOf_f, seval]
    refine hK _ (awp_ret ?_)
    simp -dsimp -implicitDefEqProofs only [push_cast, List.mem_append, List.mem_cons, List.mem_singleton, forall_eq_or_imp, forall_eq, ↓trAdd_f, ↓stOf_f, seval]
  · simp at h
def headS : List Stream := [{ bits := 100, period := 1000, jitter := 50 }, { bits := 200, period := 1000, jitter := 0 }]
theorem boundH0 : boundP headS 0 = (350, true) := by decide +kernel
theorem boundH1 : boundP headS 1 = (300, true) := by decide +kernel
theorem boundH2 : boundP headS 2 = (0, false) := by decide +kernel
theorem boundH3 : boundP [{ bits := 1000, period := 1, jitter := 0 }] 0 = (0, false) := by decide +kernel
theorem boundH4 : boundP [{ bits := 100, period := 1000, jitter := 50 }] (-1) = (0, false) := by decide +kernel
theorem playH0 : playZ headS [0, 0] 1000 = [100, 300] := by decide +kernel
theorem playH1 : playZ headS [1, 0] 1000 = [299, 200] := by decide +kernel
theorem playH2 : playZ headS [0, 0] 0 = [0, 0] := by decide +kernel
theorem rightH0 : rightS headS = true := by decide
theorem rightH1 : rightS [] = false := by decide
theorem rightH2 : rightS [{ bits := 1, period := 0, jitter := 0 }] = false := by decide
theorem headP0 : FnS Try.prog 18 [.sl false 3 (headS.map encStream), .sl false 1 (([0, 0] : List Int).map encI), .int .i64 1000] [] (.sl false 1 (([100, 300] : List Int).map encI)) [] := by
  rw [← playH0]; exact play2_ok _ _ 0 0 1000 rightH0 (by decide) (by decide)
theorem headP1 : FnS Try.prog 18 [.sl false 3 (headS.map encStream), .sl false 1 (([1, 0] : List Int).map encI), .int .i64 1000] [] (.sl false 1 (([299, 200] : List Int).map encI)) [] := by
  rw [← playH1]; exact play2_ok _ _ 1 0 1000 rightH0 (by decide) (by decide)
theorem headP2 : FnS Try.prog 18 [.sl false 3 (headS.map encStream), .sl false 1 (([0, 0] : List Int).map encI), .int .i64 0] [] (.sl false 1 (([0, 0] : List Int).map encI)) [] := by
  rw [← playH2]; exact play2_ok _ _ 0 0 0 rightH0 (by decide) (by decide)
theorem head_ok : FnS Try.prog 10 [] [] (.bool true) [] := by
  refine fn_walk tabOk Try.func10 rfl (by decide +kernel) Try.ntmps10 Try.results10 (by simp) fun B hB => ?_
  try refine hK _ ?_
  repeat (first | refine awp_seq ?_ | refine awp_block ?_ | refine awp_skip ?_ | refine awp_scope ?_ | refine awp_label ?_)
  refine awp_region tabOk fun K hK => ?_
  simp -dsimp -implicitDefEqProofs only [push_cast, ↓trAdd_f, ↓stOf_f, seval]
  try refine hK _ ?_
  repeat (first | refine awp_seq ?_ | refine awp_block ?_ | refine awp_skip ?_ | refine awp_scope ?_ | refine awp_label ?_)
  refine awp_region tabOk fun K hK => ?_
  simp -dsimp -implicitDefEqProofs only [push_cast, ↓trAdd_f, ↓stOf_f, seval]
  try refine hK _ ?_
  repeat (first | refine awp_seq ?_ | refine awp_block ?_ | refine awp_skip ?_ | refine awp_scope ?_ | refine awp_label ?_)
  refine awp_region tabOk fun K hK => ?_
  simp -dsimp -implicitDefEqProofs only [push_cast, ↓trAdd_f, ↓stOf_f, seval]
  refine callK_simple (bound_ok headS 0 (by decide) ⟨by decide, by decide⟩) ?_ rfl fun _ => ?_
  · simp -dsimp -implicitDefEqProofs only [headS, encStream, push_cast, List.mem_append, List.mem_cons, List.mem_singleton, forall_eq_or_imp, forall_eq, ↓trAdd_f, ↓stOf_f, seval]
  rw [boundH0]
  simp -dsimp -implicitDefEqProofs only [push_cast, ↓trAdd_f, ↓stOf_f, seval]
  try refine hK _ ?_
  repeat (first | refine awp_seq ?_ | refine awp_block ?_ | refine awp_skip ?_ | refine awp_scope ?_ | refine awp_label ?_)
  refine awp_region tabOk fun K hK => ?_
  simp -dsimp -implicitDefEqProofs only [push_cast, ↓trAdd_f, ↓stOf_f, seval]
  refine callK_simple (bound_ok headS 1 (by decide) ⟨by decide, by decide⟩) ?_ rfl fun _ => ?_
  · simp -dsimp -implicitDefEqProofs only [headS, encStream, push_cast, List.mem_append, List.mem_cons, List.mem_singleton, forall_eq_or_imp, forall_eq, ↓trAdd_f, ↓stOf_f, seval]
  rw [boundH1]
  simp -dsimp -implicitDefEqProofs only [push_cast, ↓trAdd_f, ↓stOf_f, seval]
  try refine hK _ ?_
  repeat (first | refine awp_seq ?_ | refine awp_block ?_ | refine awp_skip ?_ | refine awp_scope ?_ | refine awp_label ?_)
  refine awp_region tabOk fun K hK => ?_
  simp -dsimp -implicitDefEqProofs only [push_cast, ↓trAdd_f, ↓stOf_f, seval]
  refine callK_simple (bound_ok headS 2 (by decide) ⟨by decide, by decide⟩) ?_ rfl fun _ => ?_
  · simp -dsimp -implicitDefEqProofs only [headS, encStream, push_cast, List.mem_append, List.mem_cons, List.mem_singleton, forall_eq_or_imp, forall_eq, ↓trAdd_f, ↓stOf_f, seval]
  rw [boundH2]
  simp -dsimp -implicitDefEqProofs only [push_cast, ↓trAdd_f, ↓stOf_f, seval]
  try refine hK _ ?_
  repeat (first | refine awp_seq ?_ | refine awp_block ?_ | refine awp_skip ?_ | refine awp_scope ?_ | refine awp_label ?_)
  refine awp_region tabOk fun K hK => ?_
  simp -dsimp -implicitDefEqProofs only [push_cast, ↓trAdd_f, ↓stOf_f, seval]
  refine callK_simple (bound_ok [{ bits := 1000, period := 1, jitter := 0 }] 0 (by decide) ⟨by decide, by decide⟩) ?_ rfl fun _ => ?_
  · simp -dsimp -implicitDefEqProofs only [headS, encStream, push_cast, List.mem_append, List.mem_cons, List.mem_singleton, forall_eq_or_imp, forall_eq, ↓trAdd_f, ↓stOf_f, seval]
  rw [boundH3]
  simp -dsimp -implicitDefEqProofs only [push_cast, ↓trAdd_f, ↓stOf_f, seval]
  try refine hK _ ?_
  repeat (first | refine awp_seq ?_ | refine awp_block ?_ | refine awp_skip ?_ | refine awp_scope ?_ | refine awp_label ?_)
  refine awp_region tabOk fun K hK => ?_
  simp -dsimp -implicitDefEqProofs only [push_cast, ↓trAdd_f, ↓stOf_f, seval]
  refine callK_simple (bound_ok [{ bits := 100, period := 1000, jitter := 50 }] (-1) (by decide) ⟨by decide, by decide⟩) ?_ rfl fun _ => ?_
  · simp -dsimp -implicitDefEqProofs only [headS, encStream, push_cast, List.mem_append, List.mem_cons, List.mem_singleton, forall_eq_or_imp, forall_eq, ↓trAdd_f, ↓stOf_f, seval]
  rw [boundH4]
  simp -dsimp -implicitDefEqProofs only [push_cast, ↓trAdd_f, ↓stOf_f, seval]
  refine hK _ ?_
  refine awp_le (le_frz _ [24] ?_ ?_ ?_) ?_
  · simp -dsimp -implicitDefEqProofs only [push_cast, ↓trAdd_f, ↓stOf_f, seval]
  · simp -dsimp -implicitDefEqProofs only [push_cast, ↓trAdd_f, ↓stOf_f, seval]
  · simp -dsimp -implicitDefEqProofs only [push_cast, ↓trAdd_f, ↓stOf_f, seval]
  simp -dsimp -implicitDefEqProofs only [push_cast, ↓trAdd_f, ↓stOf_f, seval]
  try refine hK _ ?_
  repeat (first | refine awp_seq ?_ | refine awp_block ?_ | refine awp_skip ?_ | refine awp_scope ?_ | refine awp_label ?_)
  refine awp_region tabOk fun K hK => ?_
  dsimp only [List.append]
  simp -dsimp -implicitDefEqProofs only [push_cast, ↓trAdd_f, ↓stOf_f, seval]
  refine callK_simple (rRight_ok false headS (by decide)) ?_ rfl fun _ => ?_
  · simp -dsimp -implicitDefEqProofs only [headS, encStream, push_cast, List.mem_append, List.mem_cons, List.mem_singleton, forall_eq_or_imp, forall_eq, ↓trAdd_f, ↓stOf_f, seval]
  rw [rightH0]
  simp -dsimp -implicitDefEqProofs only [push_cast, ↓trAdd_f, ↓stOf_f, seval]
  refine callK_simple (rRight_ok true [] (by decide)) ?_ rfl fun _ => ?_
  · simp -dsimp -implicitDefEqProofs only [headS, encStream, push_cast, List.mem_append, List.mem_cons, List.mem_singleton, forall_eq_or_imp, forall_eq, ↓trAdd_f, ↓stOf_f, seval]
  rw [rightH1]
  simp -dsimp -implicitDefEqProofs only [push_cast, ↓trAdd_f, ↓stOf_f, seval]
  refine callK_simple (rRight_ok false [{ bits := 1, period := 0, jitter := 0 }] (by decide)) ?_ rfl fun _ => ?_
  · simp -dsimp -implicitDefEqProofs only [headS, encStream, push_cast, List.mem_append, List.mem_cons, List.mem_singleton, forall_eq_or_imp, forall_eq, ↓trAdd_f, ↓stOf_f, seval]
  rw [rightH2]
  simp -dsimp -implicitDefEqProofs only [push_cast, ↓trAdd_f, ↓stOf_f, seval]
  refine callK_simple headP0 ?_ rfl fun _ => ?_
  · simp -dsimp -implicitDefEqProofs only [headS, encStream, encI, push_cast, List.mem_append, List.mem_cons, List.mem_singleton, forall_eq_or_imp, forall_eq, ↓trAdd_f, ↓stOf_f, seval]
  simp -dsimp -implicitDefEqProofs only [encI, push_cast, ↓trAdd_f, ↓stOf_f, seval]
  refine callK_simple (ints_ok false false [100, 300] [100, 300] (by decide)) ?_ rfl fun _ => ?_
  · simp -dsimp -implicitDefEqProofs only [headS, encStream, encI, push_cast, List.mem_append, List.mem_cons, List.mem_singleton, forall_eq_or_imp, forall_eq, ↓trAdd_f, ↓stOf_f, seval]
  simp -dsimp -implicitDefEqProofs only [push_cast, ↓trAdd_f, ↓stOf_f, seval]
  refine callK_simple headP1 ?_ rfl fun _ => ?_
  · simp -dsimp -implicitDefEqProofs only [headS, encStream, encI, push_cast, List.mem_append, List.mem_cons, List.mem_singleton, forall_eq_or_imp, forall_eq, ↓trAdd_f, ↓stOf_f, seval]
  simp -dsimp -implicitDefEqProofs only [encI, push_cast, ↓trAdd_f, ↓stOf_f, seval]
  refine callK_simple (ints_ok false false [299, 200] [299, 200] (by decide)) ?_ rfl fun _ => ?_
  · simp -dsimp -implicitDefEqProofs only [headS, encStream, encI, push_cast, List.mem_append, List.mem_cons, List.mem_singleton, forall_eq_or_imp, forall_eq, ↓trAdd_f, ↓stOf_f, seval]
  simp -dsimp -implicitDefEqProofs only [push_cast, ↓trAdd_f, ↓stOf_f, seval]
  refine callK_simple (playBad_ok headS [0] 1000 rightH0 (by decide) (by decide) (by decide)) ?_ rfl fun _ => ?_
  · simp -dsimp -implicitDefEqProofs only [headS, encStream, encI, push_cast, List.mem_append, List.mem_cons, List.mem_singleton, forall_eq_or_imp, forall_eq, ↓trAdd_f, ↓stOf_f, seval]
  simp -dsimp -implicitDefEqProofs only [encI, push_cast, ↓trAdd_f, ↓stOf_f, seval]
  refine callK_simple headP2 ?_ rfl fun _ => ?_
  · simp -dsimp -implicitDefEqProofs only [headS, encStream, encI, push_cast, List.mem_append, List.mem_cons, List.mem_singleton, forall_eq_or_imp, forall_eq, ↓trAdd_f, ↓stOf_f, seval]
  simp -dsimp -implicitDefEqProofs only [encI, push_cast, ↓trAdd_f, ↓stOf_f, seval]
  refine callK_simple (ints_ok false false [0, 0] [0, 0] (by decide)) ?_ rfl fun _ => ?_
  · simp -dsimp -implicitDefEqProofs only [headS, encStream, encI, push_cast, List.mem_append, List.mem_cons, List.mem_singleton, forall_eq_or_imp, forall_eq, ↓trAdd_f, ↓stOf_f, seval]
  simp -dsimp -implicitDefEqProofs only [push_cast, ↓trAdd_f, ↓stOf_f, seval]
  refine hK _ (awp_ret ?_)
  simp -dsimp -implicitDefEqProofs only [push_cast, List.mem_append, List.mem_cons, List.mem_singleton, forall_eq_or_imp, forall_eq, ↓trAdd_f, ↓stOf_f, seval]
end Go.Proofs.YtahkpghgjjlgdaaFw

/-
  How the laws' arguments read.
-/
namespace Go.Proofs.YtahkpghgjjlgdaaFw
open Go Go.Proofs
set_option linter.unusedVariables false
set_option linter.unusedSimpArgs false

theorem I64_wf {x : Int} (h : (Lit.int .i64 x).wf = true) : I64 x := by
  simpa [Lit.wf, IntKind.min, IntKind.max, IntKind.signed, IntKind.bits, I64] using h
theorem u8_wf {x : Int} (h : (Lit.int .u8 x).wf = true) : 0 ≤ x ∧ x ≤ 255 := by
  simpa [Lit.wf, IntKind.min, IntKind.max, IntKind.signed, IntKind.bits] using h
def Stream.i64 (s : Stream) : Prop := I64 s.bits ∧ I64 s.period ∧ I64 s.jitter
theorem opens36 : Opens Try.prog 36 3 encStream Stream.i64 :=
  (opens_struct Try.underlying36 (by kernel_rfl) (opensF_cons rfl (opens_int Try.underlying3 (by kernel_rfl)) (opensF_cons rfl (opens_int Try.underlying3 (by kernel_rfl)) (opensF_one rfl (opens_int Try.underlying3 (by kernel_rfl))))) (fun e : Stream => (e.bits, e.period, e.jitter)) (fun p => ⟨p.1, p.2.1, p.2.2⟩) (fun _ => rfl)).conv (fun _ => rfl) fun y h => ⟨I64_wf h.1, I64_wf h.2.1, I64_wf h.2.2⟩
theorem opens22 : Opens Try.prog 22 1 (fun l : List Stream => [.sl false 3 (l.map encStream)]) (fun l => l.length * 24 ≤ 140737488351232 ∧ l.length ≤ 140737488351232 ∧ ∀ r ∈ l, r.i64) :=
  opens_slice (B := 24) Try.underlying22 (by kernel_rfl) (by kernel_rfl) (by decide) (by decide) opens36
theorem opens23 : Opens Try.prog 23 1 (fun l : List Int => [.sl false 1 (l.map encI)]) (fun l => l.length * 8 ≤ 140737488351232 ∧ l.length ≤ 140737488351232 ∧ ∀ b ∈ l, I64 b) :=
  (opens_slice (B := 8) Try.underlying23 (by kernel_rfl) (by kernel_rfl) (by decide) (by decide) (opens_int Try.underlying3 (by kernel_rfl))).conv (fun _ => rfl) fun y h => ⟨h.1, h.2.1, fun b hb => I64_wf (h.2.2 b hb)⟩
/-- What is asked of one play. -/
structure Played where
  begins : List Int
  until_ : Int
  i : Int
def encPlayed (x : Played) : List PV := [.sl false 1 (x.begins.map encI), .int .i64 x.until_, .int .i64 x.i]
theorem opens25 : Opens Try.prog 25 3 encPlayed (fun x => x.begins.length ≤ 140737488351232 ∧ I64 x.until_ ∧ I64 x.i) :=
  (opens_struct Try.underlying25 (by kernel_rfl) (opensF_cons rfl opens23 (opensF_cons rfl (opens_int Try.underlying3 (by kernel_rfl)) (opensF_one rfl (opens_int Try.underlying3 (by kernel_rfl))))) (fun x : Played => (x.begins, x.until_, x.i)) (fun p => ⟨p.1, p.2.1, p.2.2⟩) (fun _ => rfl)).conv (fun _ => rfl) fun y h => ⟨h.1.2.1, I64_wf h.2.1, I64_wf h.2.2⟩
end Go.Proofs.YtahkpghgjjlgdaaFw

/-
  The law RespTells: the program's bounds and plays, and the document's, are the same.
-/
namespace Go.Proofs.YtahkpghgjjlgdaaFw
open Go Go.Proofs
set_option maxRecDepth 100000
set_option maxHeartbeats 4000000
set_option linter.unusedVariables false
set_option linter.unusedSimpArgs false

theorem playZ_len {l : List Stream} {bs : List Int} {u : Int} : (playZ l bs u).length ≤ l.length := by
  unfold playZ
  split
  · rename_i h; rw [List.length_map, playN_len]; simp [play0]; omega
  · simp
theorem respTells_ok (l : List Stream) (x : Played) (hl : l.length ≤ 2 ^ 47) (hb : x.begins.length ≤ 2 ^ 50) (hu : I64 x.until_) (hi : I64 x.i) : FnS Try.prog 3 [.sl false 3 (l.map encStream), .agg (encPlayed x)] [] (.bool true) [] := by
  obtain ⟨bs, u, i⟩ := x
  obtain ⟨hr, h1, h5⟩ := cut_right l
  have hun : 0 ≤ (band u 65535).tmod 4000 ∧ (band u 65535).tmod 4000 ≤ 1000000 := by
    have b1 := band_range u 65535 (w := 16) (by decide) (by decide)
    have m1 : (band u 65535).tmod 4000 = band u 65535 % 4000 := Int.tmod_eq_emod_of_nonneg b1.1
    rw [m1]; omega
  refine fn_walk tabOk Try.func3 rfl (by decide +kernel) Try.ntmps3 Try.results3 (by simp) fun B hB => ?_
  try refine hK _ ?_
  repeat (first | refine awp_seq ?_ | refine awp_block ?_ | refine awp_skip ?_ | refine awp_scope ?_ | refine awp_label ?_)
  refine awp_region tabOk fun K hK => ?_
  simp -dsimp -implicitDefEqProofs only [encPlayed, push_cast, ↓trAdd_f, ↓stOf_f, seval]
  try refine hK _ ?_
  repeat (first | refine awp_seq ?_ | refine awp_block ?_ | refine awp_skip ?_ | refine awp_scope ?_ | refine awp_label ?_)
  refine awp_region tabOk fun K hK => ?_
  simp -dsimp -implicitDefEqProofs only [push_cast, ↓trAdd_f, ↓stOf_f, seval]
  refine callK_simple head_ok ?_ rfl fun _ => ?_
  · simp -dsimp -implicitDefEqProofs only [push_cast, List.mem_append, List.mem_cons, List.mem_singleton, forall_eq_or_imp, forall_eq, ↓trAdd_f, ↓stOf_f, seval]
  simp -dsimp -implicitDefEqProofs only [push_cast, ↓trAdd_f, ↓stOf_f, seval]
  try refine hK _ ?_
  repeat (first | refine awp_seq ?_ | refine awp_block ?_ | refine awp_skip ?_ | refine awp_scope ?_ | refine awp_label ?_)
  refine awp_region tabOk fun K hK => ?_
  simp -dsimp -implicitDefEqProofs only [push_cast, ↓trAdd_f, ↓stOf_f, seval]
  refine callK_simple (rRight_ok false l hl) ?_ rfl fun _ => ?_
  · simp -dsimp -implicitDefEqProofs only [push_cast, List.mem_append, List.mem_cons, List.mem_singleton, forall_eq_or_imp, forall_eq, ↓trAdd_f, ↓stOf_f, seval]
  simp -dsimp -implicitDefEqProofs only [push_cast, ↓trAdd_f, ↓stOf_f, seval]
  refine callK_simple (right11_ok false l hl) ?_ rfl fun _ => ?_
  · simp -dsimp -implicitDefEqProofs only [push_cast, List.mem_append, List.mem_cons, List.mem_singleton, forall_eq_or_imp, forall_eq, ↓trAdd_f, ↓stOf_f, seval]
  simp -dsimp -implicitDefEqProofs only [push_cast, ↓trAdd_f, ↓stOf_f, seval]
  try refine hK _ ?_
  repeat (first | refine awp_seq ?_ | refine awp_block ?_ | refine awp_skip ?_ | refine awp_scope ?_ | refine awp_label ?_)
  refine awp_cond (b := false) (by simp -dsimp -implicitDefEqProofs only [push_cast, ↓trAdd_f, ↓stOf_f, seval]) (fun h => ?_) (fun h => ?_)
  · simp at h
  refine awp_skip ?_
  try refine hK _ ?_
  repeat (first | refine awp_seq ?_ | refine awp_block ?_ | refine awp_skip ?_ | refine awp_scope ?_ | refine awp_label ?_)
  refine awp_region tabOk fun K hK => ?_
  simp -dsimp -implicitDefEqProofs only [push_cast, ↓trAdd_f, ↓stOf_f, seval]
  refine callK_simple (cut_ok false l) ?_ rfl fun _ => ?_
  · simp -dsimp -implicitDefEqProofs only [push_cast, List.mem_append, List.mem_cons, List.mem_singleton, forall_eq_or_imp, forall_eq, ↓trAdd_f, ↓stOf_f, seval]
  simp -dsimp -implicitDefEqProofs only [push_cast, ↓trAdd_f, ↓stOf_f, seval]
  generalize cut l = m at *
  try refine hK _ ?_
  repeat (first | refine awp_seq ?_ | refine awp_block ?_ | refine awp_skip ?_ | refine awp_scope ?_ | refine awp_label ?_)
  refine awp_region tabOk fun K hK => ?_
  simp -dsimp -implicitDefEqProofs only [push_cast, ↓trAdd_f, ↓stOf_f, seval]
  refine callK_simple (bound_ok m i (by omega) hi) ?_ rfl fun _ => ?_
  · simp -dsimp -implicitDefEqProofs only [push_cast, List.mem_append, List.mem_cons, List.mem_singleton, forall_eq_or_imp, forall_eq, ↓trAdd_f, ↓stOf_f, seval]
  simp -dsimp -implicitDefEqProofs only [push_cast, ↓trAdd_f, ↓stOf_f, seval]
  try refine hK _ ?_
  repeat (first | refine awp_seq ?_ | refine awp_block ?_ | refine awp_skip ?_ | refine awp_scope ?_ | refine awp_label ?_)
  refine awp_region tabOk fun K hK => ?_
  simp -dsimp -implicitDefEqProofs only [push_cast, ↓trAdd_f, ↓stOf_f, seval]
  refine callK_simple (rbound_ok m i (by omega) hi) ?_ rfl fun _ => ?_
  · simp -dsimp -implicitDefEqProofs only [push_cast, List.mem_append, List.mem_cons, List.mem_singleton, forall_eq_or_imp, forall_eq, ↓trAdd_f, ↓stOf_f, seval]
  simp -dsimp -implicitDefEqProofs only [push_cast, ↓trAdd_f, ↓stOf_f, seval]
  try refine hK _ ?_
  repeat (first | refine awp_seq ?_ | refine awp_block ?_ | refine awp_skip ?_ | refine awp_scope ?_ | refine awp_label ?_)
  refine awp_region tabOk fun K hK => ?_
  simp -dsimp -implicitDefEqProofs only [push_cast, ↓trAdd_f, ↓stOf_f, seval]
  try refine hK _ ?_
  repeat (first | refine awp_seq ?_ | refine awp_block ?_ | refine awp_skip ?_ | refine awp_scope ?_ | refine awp_label ?_)
  refine awp_region tabOk fun K hK => ?_
  simp -dsimp -implicitDefEqProofs only [push_cast, ↓trAdd_f, ↓stOf_f, seval]
  refine callK_simple (starts_ok m bs (by omega) hb) ?_ rfl fun _ => ?_
  · simp -dsimp -implicitDefEqProofs only [push_cast, List.mem_append, List.mem_cons, List.mem_singleton, forall_eq_or_imp, forall_eq, ↓trAdd_f, ↓stOf_f, seval]
  simp -dsimp -implicitDefEqProofs only [push_cast, ↓trAdd_f, ↓stOf_f, seval]
  generalize (band u 65535).tmod 4000 = un at *
  have hsl := startsN_len bs m.length
  generalize startsN bs m.length = ss at *
  try refine hK _ ?_
  repeat (first | refine awp_seq ?_ | refine awp_block ?_ | refine awp_skip ?_ | refine awp_scope ?_ | refine awp_label ?_)
  refine awp_region tabOk fun K hK => ?_
  simp -dsimp -implicitDefEqProofs only [push_cast, ↓trAdd_f, ↓stOf_f, seval]
  refine callK_simple (play_ok m ss un hr h5 hsl hun.1 hun.2) ?_ rfl fun _ => ?_
  · simp -dsimp -implicitDefEqProofs only [push_cast, List.mem_append, List.mem_cons, List.mem_singleton, forall_eq_or_imp, forall_eq, ↓trAdd_f, ↓stOf_f, seval]
  simp -dsimp -implicitDefEqProofs only [push_cast, ↓trAdd_f, ↓stOf_f, seval]
  refine callK_simple (rplay_ok m ss un (by omega) (by omega)) ?_ rfl fun _ => ?_
  · simp -dsimp -implicitDefEqProofs only [push_cast, List.mem_append, List.mem_cons, List.mem_singleton, forall_eq_or_imp, forall_eq, ↓trAdd_f, ↓stOf_f, seval]
  simp -dsimp -implicitDefEqProofs only [push_cast, ↓trAdd_f, ↓stOf_f, seval]
  refine callK_simple (ints_ok false false (playZ m ss un) (playZ m ss un) (by have := playZ_len (l := m) (bs := ss) (u := un); omega)) ?_ rfl fun _ => ?_
  · simp -dsimp -implicitDefEqProofs only [push_cast, List.mem_append, List.mem_cons, List.mem_singleton, forall_eq_or_imp, forall_eq, ↓trAdd_f, ↓stOf_f, seval]
  simp -dsimp -implicitDefEqProofs only [push_cast, ↓trAdd_f, ↓stOf_f, seval]
  refine hK _ (awp_ret ?_)
  simp -dsimp -implicitDefEqProofs only [push_cast, List.mem_append, List.mem_cons, List.mem_singleton, forall_eq_or_imp, forall_eq, ↓trAdd_f, ↓stOf_f, seval]
theorem lawRespTells (l : List Stream) (x : Played) (hl : l.length * 24 ≤ 140737488351232 ∧ l.length ≤ 140737488351232 ∧ ∀ r ∈ l, r.i64) (hx : x.begins.length ≤ 140737488351232 ∧ I64 x.until_ ∧ I64 x.i) :
    FnS Try.prog 3 [.sl false 3 (l.map encStream), .agg (encPlayed x)] [] (.bool true) [] :=
  respTells_ok l x (by omega) (by omega) hx.2.1 hx.2.2
end Go.Proofs.YtahkpghgjjlgdaaFw
