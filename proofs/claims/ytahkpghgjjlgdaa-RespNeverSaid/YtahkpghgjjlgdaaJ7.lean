import Derived.Test.YtahkpghgjjlgdaaJ2
import Derived.Test.YtahkpghgjjlgdaaJ6
import Derived.Test.YtahkpghgjjlgdaaJ1
/-
  The walk of head.
-/
namespace Go.Proofs.YtahkpghgjjlgdaaFw
open Go Go.Proofs
set_option maxRecDepth 100000
set_option maxHeartbeats 16000000
set_option linter.unusedVariables false
set_option linter.unusedSimpArgs false

theorem playBad_ok (l : List Stream) (bs : List Int) (until_ : Int) (hr : rightS l = true) (h5 : l.length ≤ 5) (hb : bs.length ≤ 2 ^ 30) (hne : bs.length ≠ l.length) :
    FnS Try.prog 18 [.sl false 3 (l.map encStream), .sl false 1 (bs.map encI), .int .i64 until_] [] (.sl false 1 []) [] := by
  have hne' : ((bs.length : Int) != (l.length : Int)) = true := by simp; omega
  refine fn_walk tabOk Try.func18 rfl (by decide +kernel) Try.ntmps18 Try.results18 (by simp) fun B hB => ?_
  try refine hK _ ?_
  repeat (first | refine awp_seq ?_ | refine awp_block ?_ | refine awp_skip ?_ | refine awp_scope ?_ | refine awp_label ?_)
  refine awp_region tabOk fun K hK => ?_
  simp -dsimp -implicitDefEqProofs only [push_cast, ↓trAdd_f, ↓stOf_f, seval]
  try refine hK _ ?_
  repeat (first | refine awp_seq ?_ | refine awp_block ?_ | refine awp_skip ?_ | refine awp_scope ?_ | refine awp_label ?_)
  refine awp_region tabOk fun K hK => ?_
  simp -dsimp -implicitDefEqProofs only [push_cast, ↓trAdd_f, ↓stOf_f, seval]
  refine callK_simple (rRight_ok false l (by omega)) ?_ rfl fun _ => ?_
  · simp -dsimp -implicitDefEqProofs only [push_cast, List.mem_append, List.mem_cons, List.mem_singleton, forall_eq_or_imp, forall_eq, ↓trAdd_f, ↓stOf_f, seval]
  rw [hr]
  simp -dsimp -implicitDefEqProofs only [hne', push_cast, ↓trAdd_f, ↓stOf_f, seval]
  try refine hK _ ?_
  repeat (first | refine awp_seq ?_ | refine awp_block ?_ | refine awp_skip ?_ | refine awp_scope ?_ | refine awp_label ?_)
  refine awp_cond (b := true) (by simp -dsimp -implicitDefEqProofs only [push_cast, ↓trAdd_f, ↓stOf_f, seval]) (fun h => ?_) (fun h => ?_)
  · try refine hK _ ?_
    repeat (first | refine awp_seq ?_ | refine awp_block ?_ | refine awp_skip ?_ | refine awp_scope ?_ | refine awp_label ?_)
    refine awp_region tabOk fun K hK => ?_
    simp -dsimp -implicitDefEqProofs only [push_cast, ↓trAdd_f, ↓stOf_f, seval]
    refine hK _ (awp_ret ?_)
    simp -dsimp -implicitDefEqProofs only [push_cast, List.mem_append, List.mem_cons, List.mem_singleton, forall_eq_or_imp, forall_eq, ↓trAdd_f, ↓stOf_f, seval]
  · simp at h
def headS : List Stream := [{ bits := 100, period := 1000, jitter := 50 }, { bits := 200, period := 1000, jitter := 0 }]
theorem boundH0 : boundP headS 0 = (350, true) := by decide +kernel
theorem boundH1 : boundP headS 1 = (300, true) := by decide +kernel
theorem boundH2 : boundP headS 2 = (0, false) := by decide +kernel
theorem boundH3 : boundP [{ bits := 1000, period := 1, jitter := 0 }] 0 = (0, false) := by decide +kernel
theorem boundH4 : boundP [{ bits := 100, period := 1000, jitter := 50 }] (-1) = (0, false) := by decide +kernel
theorem playH0 : playZ headS [0, 0] 1000 = [100, 300] := by decide +kernel
theorem playH1 : playZ headS [1, 0] 1000 = [299, 200] := by decide +kernel
theorem playH2 : playZ headS [0, 0] 0 = [0, 0] := by decide +kernel
theorem rightH0 : rightS headS = true := by decide
theorem rightH1 : rightS [] = false := by decide
theorem rightH2 : rightS [{ bits := 1, period := 0, jitter := 0 }] = false := by decide
theorem headP0 : FnS Try.prog 18 [.sl false 3 (headS.map encStream), .sl false 1 (([0, 0] : List Int).map encI), .int .i64 1000] [] (.sl false 1 (([100, 300] : List Int).map encI)) [] := by
  rw [← playH0]; exact play2_ok _ _ 0 0 1000 rightH0 (by decide) (by decide)
theorem headP1 : FnS Try.prog 18 [.sl false 3 (headS.map encStream), .sl false 1 (([1, 0] : List Int).map encI), .int .i64 1000] [] (.sl false 1 (([299, 200] : List Int).map encI)) [] := by
  rw [← playH1]; exact play2_ok _ _ 1 0 1000 rightH0 (by decide) (by decide)
theorem headP2 : FnS Try.prog 18 [.sl false 3 (headS.map encStream), .sl false 1 (([0, 0] : List Int).map encI), .int .i64 0] [] (.sl false 1 (([0, 0] : List Int).map encI)) [] := by
  rw [← playH2]; exact play2_ok _ _ 0 0 0 rightH0 (by decide) (by decide)
theorem head_ok : FnS Try.prog 10 [] [] (.bool true) [] := by
  refine fn_walk tabOk Try.func10 rfl (by decide +kernel) Try.ntmps10 Try.results10 (by simp) fun B hB => ?_
  try refine hK _ ?_
  repeat (first | refine awp_seq ?_ | refine awp_block ?_ | refine awp_skip ?_ | refine awp_scope ?_ | refine awp_label ?_)
  refine awp_region tabOk fun K hK => ?_
  simp -dsimp -implicitDefEqProofs only [push_cast, ↓trAdd_f, ↓stOf_f, seval]
  try refine hK _ ?_
  repeat (first | refine awp_seq ?_ | refine awp_block ?_ | refine awp_skip ?_ | refine awp_scope ?_ | refine awp_label ?_)
  refine awp_region tabOk fun K hK => ?_
  simp -dsimp -implicitDefEqProofs only [push_cast, ↓trAdd_f, ↓stOf_f, seval]
  try refine hK _ ?_
  repeat (first | refine awp_seq ?_ | refine awp_block ?_ | refine awp_skip ?_ | refine awp_scope ?_ | refine awp_label ?_)
  refine awp_region tabOk fun K hK => ?_
  simp -dsimp -implicitDefEqProofs only [push_cast, ↓trAdd_f, ↓stOf_f, seval]
  refine callK_simple (bound_ok headS 0 (by decide) ⟨by decide, by decide⟩) ?_ rfl fun _ => ?_
  · simp -dsimp -implicitDefEqProofs only [headS, encStream, push_cast, List.mem_append, List.mem_cons, List.mem_singleton, forall_eq_or_imp, forall_eq, ↓trAdd_f, ↓stOf_f, seval]
  rw [boundH0]
  simp -dsimp -implicitDefEqProofs only [push_cast, ↓trAdd_f, ↓stOf_f, seval]
  try refine hK _ ?_
  repeat (first | refine awp_seq ?_ | refine awp_block ?_ | refine awp_skip ?_ | refine awp_scope ?_ | refine awp_label ?_)
  refine awp_region tabOk fun K hK => ?_
  simp -dsimp -implicitDefEqProofs only [push_cast, ↓trAdd_f, ↓stOf_f, seval]
  refine callK_simple (bound_ok headS 1 (by decide) ⟨by decide, by decide⟩) ?_ rfl fun _ => ?_
  · simp -dsimp -implicitDefEqProofs only [headS, encStream, push_cast, List.mem_append, List.mem_cons, List.mem_singleton, forall_eq_or_imp, forall_eq, ↓trAdd_f, ↓stOf_f, seval]
  rw [boundH1]
  simp -dsimp -implicitDefEqProofs only [push_cast, ↓trAdd_f, ↓stOf_f, seval]
  try refine hK _ ?_
  repeat (first | refine awp_seq ?_ | refine awp_block ?_ | refine awp_skip ?_ | refine awp_scope ?_ | refine awp_label ?_)
  refine awp_region tabOk fun K hK => ?_
  simp -dsimp -implicitDefEqProofs only [push_cast, ↓trAdd_f, ↓stOf_f, seval]
  refine callK_simple (bound_ok headS 2 (by decide) ⟨by decide, by decide⟩) ?_ rfl fun _ => ?_
  · simp -dsimp -implicitDefEqProofs only [headS, encStream, push_cast, List.mem_append, List.mem_cons, List.mem_singleton, forall_eq_or_imp, forall_eq, ↓trAdd_f, ↓stOf_f, seval]
  rw [boundH2]
  simp -dsimp -implicitDefEqProofs only [push_cast, ↓trAdd_f, ↓stOf_f, seval]
  try refine hK _ ?_
  repeat (first | refine awp_seq ?_ | refine awp_block ?_ | refine awp_skip ?_ | refine awp_scope ?_ | refine awp_label ?_)
  refine awp_region tabOk fun K hK => ?_
  simp -dsimp -implicitDefEqProofs only [push_cast, ↓trAdd_f, ↓stOf_f, seval]
  refine callK_simple (bound_ok [{ bits := 1000, period := 1, jitter := 0 }] 0 (by decide) ⟨by decide, by decide⟩) ?_ rfl fun _ => ?_
  · simp -dsimp -implicitDefEqProofs only [headS, encStream, push_cast, List.mem_append, List.mem_cons, List.mem_singleton, forall_eq_or_imp, forall_eq, ↓trAdd_f, ↓stOf_f, seval]
  rw [boundH3]
  simp -dsimp -implicitDefEqProofs only [push_cast, ↓trAdd_f, ↓stOf_f, seval]
  try refine hK _ ?_
  repeat (first | refine awp_seq ?_ | refine awp_block ?_ | refine awp_skip ?_ | refine awp_scope ?_ | refine awp_label ?_)
  refine awp_region tabOk fun K hK => ?_
  simp -dsimp -implicitDefEqProofs only [push_cast, ↓trAdd_f, ↓stOf_f, seval]
  refine callK_simple (bound_ok [{ bits := 100, period := 1000, jitter := 50 }] (-1) (by decide) ⟨by decide, by decide⟩) ?_ rfl fun _ => ?_
  · simp -dsimp -implicitDefEqProofs only [headS, encStream, push_cast, List.mem_append, List.mem_cons, List.mem_singleton, forall_eq_or_imp, forall_eq, ↓trAdd_f, ↓stOf_f, seval]
  rw [boundH4]
  simp -dsimp -implicitDefEqProofs only [push_cast, ↓trAdd_f, ↓stOf_f, seval]
  refine hK _ ?_
  refine awp_le (le_frz _ [24] ?_ ?_ ?_) ?_
  · simp -dsimp -implicitDefEqProofs only [push_cast, ↓trAdd_f, ↓stOf_f, seval]
  · simp -dsimp -implicitDefEqProofs only [push_cast, ↓trAdd_f, ↓stOf_f, seval]
  · simp -dsimp -implicitDefEqProofs only [push_cast, ↓trAdd_f, ↓stOf_f, seval]
  simp -dsimp -implicitDefEqProofs only [push_cast, ↓trAdd_f, ↓stOf_f, seval]
  try refine hK _ ?_
  repeat (first | refine awp_seq ?_ | refine awp_block ?_ | refine awp_skip ?_ | refine awp_scope ?_ | refine awp_label ?_)
  refine awp_region tabOk fun K hK => ?_
  dsimp only [List.append]
  simp -dsimp -implicitDefEqProofs only [push_cast, ↓trAdd_f, ↓stOf_f, seval]
  refine callK_simple (rRight_ok false headS (by decide)) ?_ rfl fun _ => ?_
  · simp -dsimp -implicitDefEqProofs only [headS, encStream, push_cast, List.mem_append, List.mem_cons, List.mem_singleton, forall_eq_or_imp, forall_eq, ↓trAdd_f, ↓stOf_f, seval]
  rw [rightH0]
  simp -dsimp -implicitDefEqProofs only [push_cast, ↓trAdd_f, ↓stOf_f, seval]
  refine callK_simple (rRight_ok true [] (by decide)) ?_ rfl fun _ => ?_
  · simp -dsimp -implicitDefEqProofs only [headS, encStream, push_cast, List.mem_append, List.mem_cons, List.mem_singleton, forall_eq_or_imp, forall_eq, ↓trAdd_f, ↓stOf_f, seval]
  rw [rightH1]
  simp -dsimp -implicitDefEqProofs only [push_cast, ↓trAdd_f, ↓stOf_f, seval]
  refine callK_simple (rRight_ok false [{ bits := 1, period := 0, jitter := 0 }] (by decide)) ?_ rfl fun _ => ?_
  · simp -dsimp -implicitDefEqProofs only [headS, encStream, push_cast, List.mem_append, List.mem_cons, List.mem_singleton, forall_eq_or_imp, forall_eq, ↓trAdd_f, ↓stOf_f, seval]
  rw [rightH2]
  simp -dsimp -implicitDefEqProofs only [push_cast, ↓trAdd_f, ↓stOf_f, seval]
  refine callK_simple headP0 ?_ rfl fun _ => ?_
  · simp -dsimp -implicitDefEqProofs only [headS, encStream, encI, push_cast, List.mem_append, List.mem_cons, List.mem_singleton, forall_eq_or_imp, forall_eq, ↓trAdd_f, ↓stOf_f, seval]
  simp -dsimp -implicitDefEqProofs only [encI, push_cast, ↓trAdd_f, ↓stOf_f, seval]
  refine callK_simple (ints_ok false false [100, 300] [100, 300] (by decide)) ?_ rfl fun _ => ?_
  · simp -dsimp -implicitDefEqProofs only [headS, encStream, encI, push_cast, List.mem_append, List.mem_cons, List.mem_singleton, forall_eq_or_imp, forall_eq, ↓trAdd_f, ↓stOf_f, seval]
  simp -dsimp -implicitDefEqProofs only [push_cast, ↓trAdd_f, ↓stOf_f, seval]
  refine callK_simple headP1 ?_ rfl fun _ => ?_
  · simp -dsimp -implicitDefEqProofs only [headS, encStream, encI, push_cast, List.mem_append, List.mem_cons, List.mem_singleton, forall_eq_or_imp, forall_eq, ↓trAdd_f, ↓stOf_f, seval]
  simp -dsimp -implicitDefEqProofs only [encI, push_cast, ↓trAdd_f, ↓stOf_f, seval]
  refine callK_simple (ints_ok false false [299, 200] [299, 200] (by decide)) ?_ rfl fun _ => ?_
  · simp -dsimp -implicitDefEqProofs only [headS, encStream, encI, push_cast, List.mem_append, List.mem_cons, List.mem_singleton, forall_eq_or_imp, forall_eq, ↓trAdd_f, ↓stOf_f, seval]
  simp -dsimp -implicitDefEqProofs only [push_cast, ↓trAdd_f, ↓stOf_f, seval]
  refine callK_simple (playBad_ok headS [0] 1000 rightH0 (by decide) (by decide) (by decide)) ?_ rfl fun _ => ?_
  · simp -dsimp -implicitDefEqProofs only [headS, encStream, encI, push_cast, List.mem_append, List.mem_cons, List.mem_singleton, forall_eq_or_imp, forall_eq, ↓trAdd_f, ↓stOf_f, seval]
  simp -dsimp -implicitDefEqProofs only [encI, push_cast, ↓trAdd_f, ↓stOf_f, seval]
  refine callK_simple headP2 ?_ rfl fun _ => ?_
  · simp -dsimp -implicitDefEqProofs only [headS, encStream, encI, push_cast, List.mem_append, List.mem_cons, List.mem_singleton, forall_eq_or_imp, forall_eq, ↓trAdd_f, ↓stOf_f, seval]
  simp -dsimp -implicitDefEqProofs only [encI, push_cast, ↓trAdd_f, ↓stOf_f, seval]
  refine callK_simple (ints_ok false false [0, 0] [0, 0] (by decide)) ?_ rfl fun _ => ?_
  · simp -dsimp -implicitDefEqProofs only [headS, encStream, encI, push_cast, List.mem_append, List.mem_cons, List.mem_singleton, forall_eq_or_imp, forall_eq, ↓trAdd_f, ↓stOf_f, seval]
  simp -dsimp -implicitDefEqProofs only [push_cast, ↓trAdd_f, ↓stOf_f, seval]
  refine hK _ (awp_ret ?_)
  simp -dsimp -implicitDefEqProofs only [push_cast, List.mem_append, List.mem_cons, List.mem_singleton, forall_eq_or_imp, forall_eq, ↓trAdd_f, ↓stOf_f, seval]
end Go.Proofs.YtahkpghgjjlgdaaFw

/-
  How the laws' arguments read.
-/
namespace Go.Proofs.YtahkpghgjjlgdaaFw
open Go Go.Proofs
set_option linter.unusedVariables false
set_option linter.unusedSimpArgs false

theorem I64_wf {x : Int} (h : (Lit.int .i64 x).wf = true) : I64 x := by
  simpa [Lit.wf, IntKind.min, IntKind.max, IntKind.signed, IntKind.bits, I64] using h
theorem u8_wf {x : Int} (h : (Lit.int .u8 x).wf = true) : 0 ≤ x ∧ x ≤ 255 := by
  simpa [Lit.wf, IntKind.min, IntKind.max, IntKind.signed, IntKind.bits] using h
def Stream.i64 (s : Stream) : Prop := I64 s.bits ∧ I64 s.period ∧ I64 s.jitter
theorem opens36 : Opens Try.prog 36 3 encStream Stream.i64 :=
  (opens_struct Try.underlying36 (by kernel_rfl) (opensF_cons rfl (opens_int Try.underlying3 (by kernel_rfl)) (opensF_cons rfl (opens_int Try.underlying3 (by kernel_rfl)) (opensF_one rfl (opens_int Try.underlying3 (by kernel_rfl))))) (fun e : Stream => (e.bits, e.period, e.jitter)) (fun p => ⟨p.1, p.2.1, p.2.2⟩) (fun _ => rfl)).conv (fun _ => rfl) fun y h => ⟨I64_wf h.1, I64_wf h.2.1, I64_wf h.2.2⟩
theorem opens22 : Opens Try.prog 22 1 (fun l : List Stream => [.sl false 3 (l.map encStream)]) (fun l => l.length * 24 ≤ 140737488351232 ∧ l.length ≤ 140737488351232 ∧ ∀ r ∈ l, r.i64) :=
  opens_slice (B := 24) Try.underlying22 (by kernel_rfl) (by kernel_rfl) (by decide) (by decide) opens36
theorem opens23 : Opens Try.prog 23 1 (fun l : List Int => [.sl false 1 (l.map encI)]) (fun l => l.length * 8 ≤ 140737488351232 ∧ l.length ≤ 140737488351232 ∧ ∀ b ∈ l, I64 b) :=
  (opens_slice (B := 8) Try.underlying23 (by kernel_rfl) (by kernel_rfl) (by decide) (by decide) (opens_int Try.underlying3 (by kernel_rfl))).conv (fun _ => rfl) fun y h => ⟨h.1, h.2.1, fun b hb => I64_wf (h.2.2 b hb)⟩
/-- What is asked of one play. -/
structure Played where
  begins : List Int
  until_ : Int
  i : Int
def encPlayed (x : Played) : List PV := [.sl false 1 (x.begins.map encI), .int .i64 x.until_, .int .i64 x.i]
theorem opens25 : Opens Try.prog 25 3 encPlayed (fun x => x.begins.length ≤ 140737488351232 ∧ I64 x.until_ ∧ I64 x.i) :=
  (opens_struct Try.underlying25 (by kernel_rfl) (opensF_cons rfl opens23 (opensF_cons rfl (opens_int Try.underlying3 (by kernel_rfl)) (opensF_one rfl (opens_int Try.underlying3 (by kernel_rfl))))) (fun x : Played => (x.begins, x.until_, x.i)) (fun p => ⟨p.1, p.2.1, p.2.2⟩) (fun _ => rfl)).conv (fun _ => rfl) fun y h => ⟨h.1.2.1, I64_wf h.2.1, I64_wf h.2.2⟩
end Go.Proofs.YtahkpghgjjlgdaaFw

/-
  The law RespNever: no frame is later than its bound.
-/
namespace Go.Proofs.YtahkpghgjjlgdaaFw
open Go Go.Proofs
set_option maxRecDepth 100000
set_option maxHeartbeats 4000000
set_option linter.unusedVariables false
set_option linter.unusedSimpArgs false

theorem starts_bd (bs : List Int) (n : Nat) : ∀ b ∈ startsN bs n, 0 ≤ b ∧ b ≤ 1000000 := by
  intro b hb
  unfold startsN at hb
  obtain ⟨k, _, rfl⟩ := List.mem_map.1 hb
  unfold startAt
  split
  · have b1 := band_range (bs.getD k 0) 65535 (w := 16) (by decide) (by decide)
    have m1 : (band (bs.getD k 0) 65535).tmod 2000 = band (bs.getD k 0) 65535 % 2000 := Int.tmod_eq_emod_of_nonneg b1.1
    rw [m1]; omega
  · decide
theorem late_pos {until_ : Int} : ∀ (n : Nat) (now : Int) (X : List QS), (∀ x ∈ X, 0 ≤ x.late) → ∀ x ∈ playN until_ n now X, 0 ≤ x.late
  | 0, now, X, h => h
  | n + 1, now, X, h => by
    cases hleft : (scan now until_ X).1 with
    | false => rw [playN_done hleft]; exact h
    | true =>
      cases hone : (scan now until_ X).2.1 with
      | none => rw [playN_jump hleft hone]; exact late_pos n _ X h
      | some j =>
        rw [playN_send hleft hone]
        obtain ⟨q1, _⟩ := (scan_spec now until_ X).one j hone
        refine late_pos n _ _ fun x hx => ?_
        rcases sendAt_mem hx with hx | rfl
        · exact h x hx
        · have := h (X.getD j zeroQ) (by rw [show X.getD j zeroQ = X[j] by simp [List.getD, q1]]; exact List.getElem_mem q1)
          show 0 ≤ max (X.getD j zeroQ).late _
          omega
theorem never_law {m : List Stream} {ss : List Int} {u : Int} (hr : rightS m = true) (hl : ss.length = m.length) (hb : ∀ b ∈ ss, 0 ≤ b ∧ b ≤ 1000000) (hu0 : 0 ≤ u) (hu1 : u ≤ 1000000) :
    (playZ m ss u).length = m.length ∧ ∀ (i : Nat) (h : i < (playZ m ss u).length), 0 ≤ (playZ m ss u)[i] ∧ ((boundP m i).2 = true → (playZ m ss u)[i] ≤ (boundP m i).1) := by
  have e : playZ m ss u = (playN u fuel0 0 (play0 m ss)).map (·.late) := by unfold playZ; rw [if_pos ⟨hr, hl, hu0, hu1, hb⟩]
  obtain ⟨h1, h2, h3⟩ := play0_s m ss hl
  have hlen : (play0 m ss).length = m.length := by have := congrArg List.length h1; simpa using this
  have hlen2 : (playZ m ss u).length = m.length := by rw [e, List.length_map, playN_len, hlen]
  have hat : ∀ k < m.length, (play0 m ss).getD k zeroQ ∈ play0 m ss := fun k hk => by
    have hk' : k < (play0 m ss).length := by omega
    rw [show (play0 m ss).getD k zeroQ = (play0 m ss)[k] by simp [List.getD, hk']]; exact List.getElem_mem hk'
  have st : Stand m (play0 m ss) := ⟨hlen, fun k hk => by
    have hk' : k < (play0 m ss).length := by omega
    rw [show (play0 m ss).getD k zeroQ = (play0 m ss)[k] by simp [List.getD, hk'], strmAt_eq hk]
    have : ((play0 m ss).map (·.s))[k]'(by rw [List.length_map]; omega) = m[k] := by simp only [h1]
    rw [List.getElem_map] at this
    exact this⟩
  refine ⟨hlen2, fun i hi => ?_⟩
  have him : i < m.length := by omega
  have hget : (playZ m ss u)[i] = ((playN u fuel0 0 (play0 m ss)).getD i zeroQ).late := by
    simp only [e, List.getElem_map]
    have hi' : i < (playN u fuel0 0 (play0 m ss)).length := by rw [playN_len]; omega
    rw [show (playN u fuel0 0 (play0 m ss)).getD i zeroQ = (playN u fuel0 0 (play0 m ss))[i] by simp [List.getD, hi']]
  rw [hget]
  refine ⟨?_, fun hb2 => ?_⟩
  · have hi' : i < (playN u fuel0 0 (play0 m ss)).length := by rw [playN_len]; omega
    rw [show (playN u fuel0 0 (play0 m ss)).getD i zeroQ = (playN u fuel0 0 (play0 m ss))[i] by simp [List.getD, hi']]
    exact late_pos fuel0 0 _ (fun x hx => by rw [(h3 x hx).2]; exact Int.le_refl _) _ (List.getElem_mem hi')
  · have ht := told hr him hb2
    have hbl := below_bd ht.busy.hs i
    rw [ht.is]
    refine never him ht fuel0 0 (play0 m ss) 0 _ st (win_fresh him ht st (by omega) fun k hk _ => ?_) ?_
    · have hm := hat k (by omega)
      obtain ⟨_, _, q3, _, q5, _⟩ := strmAt_ok ht.busy.hs (show k < m.length by omega)
      have hb0 : 0 ≤ ((play0 m ss).getD k zeroQ).b := (hb _ (by
        have hmem : ((play0 m ss).getD k zeroQ).b ∈ (play0 m ss).map (·.b) := List.mem_map_of_mem hm
        rw [h2] at hmem; exact hmem)).1
      unfold QS.wts
      rw [st.s k (by omega), (h3 _ hm).1]
      have := from_bd (strmAt m k) ((play0 m ss).getD k zeroQ).b q5 (by omega) 0
      have e0 : dueZ (strmAt m k) ((play0 m ss).getD k zeroQ).b 0 = ((play0 m ss).getD k zeroQ).b := by unfold dueZ; simp
      omega
    · rw [(h3 _ (hat i him)).2]
      exact (mostW_ge m i (below m i) (strmAt m i) (q := 0) (n := framesQ m i) (by have := ht.q1; omega)).2
theorem respNever_ok (l : List Stream) (x : Played) (hl : l.length ≤ 2 ^ 47) (hb : x.begins.length ≤ 2 ^ 50) : FnS Try.prog 4 [.sl false 3 (l.map encStream), .agg (encPlayed x)] [] (.bool true) [] := by
  obtain ⟨bs, u, i0⟩ := x
  obtain ⟨hr, h1, h5⟩ := cut_right l
  have hun : 0 ≤ (band u 65535).tmod 4000 ∧ (band u 65535).tmod 4000 ≤ 1000000 := by
    have b1 := band_range u 65535 (w := 16) (by decide) (by decide)
    have m1 : (band u 65535).tmod 4000 = band u 65535 % 4000 := Int.tmod_eq_emod_of_nonneg b1.1
    rw [m1]; omega
  refine fn_walk tabOk Try.func4 rfl (by decide +kernel) Try.ntmps4 Try.results4 (by simp) fun B hB => ?_
  try refine hK _ ?_
  repeat (first | refine awp_seq ?_ | refine awp_block ?_ | refine awp_skip ?_ | refine awp_scope ?_ | refine awp_label ?_)
  refine awp_region tabOk fun K hK => ?_
  simp -dsimp -implicitDefEqProofs only [encPlayed, push_cast, ↓trAdd_f, ↓stOf_f, seval]
  try refine hK _ ?_
  repeat (first | refine awp_seq ?_ | refine awp_block ?_ | refine awp_skip ?_ | refine awp_scope ?_ | refine awp_label ?_)
  refine awp_region tabOk fun K hK => ?_
  simp -dsimp -implicitDefEqProofs only [push_cast, ↓trAdd_f, ↓stOf_f, seval]
  refine callK_simple head_ok ?_ rfl fun _ => ?_
  · simp -dsimp -implicitDefEqProofs only [push_cast, List.mem_append, List.mem_cons, List.mem_singleton, forall_eq_or_imp, forall_eq, ↓trAdd_f, ↓stOf_f, seval]
  simp -dsimp -implicitDefEqProofs only [push_cast, ↓trAdd_f, ↓stOf_f, seval]
  try refine hK _ ?_
  repeat (first | refine awp_seq ?_ | refine awp_block ?_ | refine awp_skip ?_ | refine awp_scope ?_ | refine awp_label ?_)
  refine awp_region tabOk fun K hK => ?_
  simp -dsimp -implicitDefEqProofs only [push_cast, ↓trAdd_f, ↓stOf_f, seval]
  refine callK_simple (cut_ok false l) ?_ rfl fun _ => ?_
  · simp -dsimp -implicitDefEqProofs only [push_cast, List.mem_append, List.mem_cons, List.mem_singleton, forall_eq_or_imp, forall_eq, ↓trAdd_f, ↓stOf_f, seval]
  simp -dsimp -implicitDefEqProofs only [push_cast, ↓trAdd_f, ↓stOf_f, seval]
  generalize cut l = m at *
  have hsl := startsN_len bs m.length
  have hsb := starts_bd bs m.length
  try refine hK _ ?_
  repeat (first | refine awp_seq ?_ | refine awp_block ?_ | refine awp_skip ?_ | refine awp_scope ?_ | refine awp_label ?_)
  refine awp_draw tabOk (by kernel_rfl) (by kernel_rfl) fun K hK C hC => ?_
  simp -dsimp -implicitDefEqProofs only [push_cast, ↓trAdd_f, ↓stOf_f, seval]
  refine callK_simple (starts_ok m bs (by omega) hb) ?_ rfl fun _ => ?_
  · simp -dsimp -implicitDefEqProofs only [push_cast, List.mem_append, List.mem_cons, List.mem_singleton, forall_eq_or_imp, forall_eq, ↓trAdd_f, ↓stOf_f, seval]
  simp -dsimp -implicitDefEqProofs only [push_cast, ↓trAdd_f, ↓stOf_f, seval]
  generalize (band u 65535).tmod 4000 = un at *
  generalize startsN bs m.length = ss at *
  refine callK_simple (play_ok m ss un hr h5 hsl hun.1 hun.2) ?_ rfl fun _ => ?_
  · simp -dsimp -implicitDefEqProofs only [push_cast, List.mem_append, List.mem_cons, List.mem_singleton, forall_eq_or_imp, forall_eq, ↓trAdd_f, ↓stOf_f, seval]
  simp -dsimp -implicitDefEqProofs only [push_cast, ↓trAdd_f, ↓stOf_f, seval]
  refine ⟨hC _ (by kernel_rfl), hK _ ?_⟩
  clear hC C
  obtain ⟨hLl, hlaw⟩ := never_law hr hsl hsb hun.1 hun.2
  generalize playZ m ss un = L at *
  try refine hK _ ?_
  repeat (first | refine awp_seq ?_ | refine awp_block ?_ | refine awp_skip ?_ | refine awp_scope ?_ | refine awp_label ?_)
  refine awp_region tabOk fun K hK => ?_
  simp -dsimp -implicitDefEqProofs only [hLl, bne_self_eq_false, push_cast, ↓trAdd_f, ↓stOf_f, seval]
  try refine hK _ ?_
  repeat (first | refine awp_seq ?_ | refine awp_block ?_ | refine awp_skip ?_ | refine awp_scope ?_ | refine awp_label ?_)
  refine awp_cond (b := false) (by simp -dsimp -implicitDefEqProofs only [push_cast, ↓trAdd_f, ↓stOf_f, seval]) (fun h => ?_) (fun h => ?_)
  · simp at h
  refine awp_skip ?_
  try refine hK _ ?_
  repeat (first | refine awp_seq ?_ | refine awp_block ?_ | refine awp_skip ?_ | refine awp_scope ?_ | refine awp_label ?_)
  refine awp_region tabOk fun K hK => ?_
  simp -dsimp -implicitDefEqProofs only [push_cast, ↓trAdd_f, ↓stOf_f, seval]
  refine hK _ (awp_block ?_)
  refine awp_for (fun k : Nat => { sl := [(0, .sl false 3 (m.map encStream)), (5, .bool true), (6, .sl false 1 (L.map encI)), (7, .int .i64 k)], st := [], nx := 0, n := 57 }) (fun k => k ≤ m.length) (fun k => m.length - k) 0 (Nat.zero_le _) ?_ fun k hk => ?_
  · refine le_intro hB [] (by simp) (fun b _ => rfl) rfl ?_ ?_ rfl <;> simp -dsimp -implicitDefEqProofs only [ren_int, ok_int, push_cast, ↓trAdd_f, ↓stOf_f, seval]
  try refine hK _ ?_
  repeat (first | refine awp_seq ?_ | refine awp_block ?_ | refine awp_skip ?_ | refine awp_scope ?_ | refine awp_label ?_)
  refine awp_region tabOk fun K hK => ?_
  simp -dsimp -implicitDefEqProofs only [push_cast, ↓trAdd_f, ↓stOf_f, seval]
  try refine hK _ ?_
  repeat (first | refine awp_seq ?_ | refine awp_block ?_ | refine awp_skip ?_ | refine awp_scope ?_ | refine awp_label ?_)
  refine awp_cond (b := decide ((k : Int) < m.length)) (by simp -dsimp -implicitDefEqProofs only [push_cast, ↓trAdd_f, ↓stOf_f, seval]) (fun h => ?_) (fun h => ?_)
  · have hlt : k < m.length := by simpa using h
    have hltL : k < L.length := by omega
    obtain ⟨h0, hBd⟩ := hlaw k hltL
    have e1 : decide (L[k] < 0) = false := by simp; omega
    try refine hK _ ?_
    repeat (first | refine awp_seq ?_ | refine awp_block ?_ | refine awp_skip ?_ | refine awp_scope ?_ | refine awp_label ?_)
    refine awp_region tabOk fun K hK => ?_
    simp -dsimp -implicitDefEqProofs only [push_cast, ↓trAdd_f, ↓stOf_f, seval]
    refine callK_simple (bound_ok m k (by omega) (by unfold I64; omega)) ?_ rfl fun _ => ?_
    · simp -dsimp -implicitDefEqProofs only [push_cast, List.mem_append, List.mem_cons, List.mem_singleton, forall_eq_or_imp, forall_eq, ↓trAdd_f, ↓stOf_f, seval]
    simp -dsimp -implicitDefEqProofs only [push_cast, ↓trAdd_f, ↓stOf_f, seval]
    obtain ⟨⟨n, is⟩, hP⟩ : ∃ p, p = boundP m k := ⟨_, rfl⟩
    rw [← hP] at hBd ⊢
    try simp only at hBd
    cases is with
    | false =>
      try refine hK _ ?_
      repeat (first | refine awp_seq ?_ | refine awp_block ?_ | refine awp_skip ?_ | refine awp_scope ?_ | refine awp_label ?_)
      refine awp_region tabOk fun K hK => ?_
      simp -dsimp -implicitDefEqProofs only [hltL, getD_map, encI, e1, push_cast, ↓trAdd_f, ↓stOf_f, seval]
      refine ⟨⟨by omega, by omega⟩, hK _ ?_⟩
      try refine hK _ ?_
      repeat (first | refine awp_seq ?_ | refine awp_block ?_ | refine awp_skip ?_ | refine awp_scope ?_ | refine awp_label ?_)
      refine awp_cond (b := false) (by simp -dsimp -implicitDefEqProofs only [push_cast, ↓trAdd_f, ↓stOf_f, seval]) (fun h => ?_) (fun h => ?_)
      · simp at h
      refine awp_skip ?_
      try refine hK _ ?_
      repeat (first | refine awp_seq ?_ | refine awp_block ?_ | refine awp_skip ?_ | refine awp_scope ?_ | refine awp_label ?_)
      refine awp_region tabOk fun K hK => ?_
      simp -dsimp -implicitDefEqProofs only [push_cast, ↓trAdd_f, ↓stOf_f, seval]
      try simp (disch := omega) only [wrap_i64, wrap_u8, wrap_u16, wrap_u32]
      refine hK _ ⟨k + 1, by omega, by omega, ?_⟩
      refine le_intro hB [] (by simp) (fun b _ => rfl) rfl ?_ ?_ rfl <;> simp -dsimp -implicitDefEqProofs only [ren_int, ok_int, push_cast, ↓trAdd_f, ↓stOf_f, seval]
    | true =>
      have e2 : decide (n < L[k]) = false := by have := hBd rfl; simp; omega
      try refine hK _ ?_
      repeat (first | refine awp_seq ?_ | refine awp_block ?_ | refine awp_skip ?_ | refine awp_scope ?_ | refine awp_label ?_)
      refine awp_region tabOk fun K hK => ?_
      simp -dsimp -implicitDefEqProofs only [hltL, getD_map, encI, e1, e2, push_cast, ↓trAdd_f, ↓stOf_f, seval]
      refine ⟨⟨by omega, by omega⟩, ⟨by omega, by omega⟩, hK _ ?_⟩
      try refine hK _ ?_
      repeat (first | refine awp_seq ?_ | refine awp_block ?_ | refine awp_skip ?_ | refine awp_scope ?_ | refine awp_label ?_)
      refine awp_cond (b := false) (by simp -dsimp -implicitDefEqProofs only [push_cast, ↓trAdd_f, ↓stOf_f, seval]) (fun h => ?_) (fun h => ?_)
      · simp at h
      refine awp_skip ?_
      try refine hK _ ?_
      repeat (first | refine awp_seq ?_ | refine awp_block ?_ | refine awp_skip ?_ | refine awp_scope ?_ | refine awp_label ?_)
      refine awp_region tabOk fun K hK => ?_
      simp -dsimp -implicitDefEqProofs only [push_cast, ↓trAdd_f, ↓stOf_f, seval]
      try simp (disch := omega) only [wrap_i64, wrap_u8, wrap_u16, wrap_u32]
      refine hK _ ⟨k + 1, by omega, by omega, ?_⟩
      refine le_intro hB [] (by simp) (fun b _ => rfl) rfl ?_ ?_ rfl <;> simp -dsimp -implicitDefEqProofs only [ren_int, ok_int, push_cast, ↓trAdd_f, ↓stOf_f, seval]
  refine awp_exit rfl ?_
  try refine hK _ ?_
  repeat (first | refine awp_seq ?_ | refine awp_block ?_ | refine awp_skip ?_ | refine awp_scope ?_ | refine awp_label ?_)
  refine awp_region tabOk fun K hK => ?_
  simp -dsimp -implicitDefEqProofs only [push_cast, ↓trAdd_f, ↓stOf_f, seval]
  refine hK _ (awp_ret ?_)
  simp -dsimp -implicitDefEqProofs only [push_cast, List.mem_append, List.mem_cons, List.mem_singleton, forall_eq_or_imp, forall_eq, ↓trAdd_f, ↓stOf_f, seval]
theorem lawRespNever (l : List Stream) (x : Played) (hl : l.length * 24 ≤ 140737488351232 ∧ l.length ≤ 140737488351232 ∧ ∀ r ∈ l, r.i64) (hx : x.begins.length ≤ 140737488351232 ∧ I64 x.until_ ∧ I64 x.i) :
    FnS Try.prog 4 [.sl false 3 (l.map encStream), .agg (encPlayed x)] [] (.bool true) [] :=
  respNever_ok l x (by omega) (by omega)
end Go.Proofs.YtahkpghgjjlgdaaFw
