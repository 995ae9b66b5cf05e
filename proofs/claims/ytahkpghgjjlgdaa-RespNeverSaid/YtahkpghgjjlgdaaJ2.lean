import Derived.Test.YtahkpghgjjlgdaaJ1
/-
  The walk of the document's Play.
-/
namespace Go.Proofs.YtahkpghgjjlgdaaFw
open Go Go.Proofs
set_option maxRecDepth 100000
set_option maxHeartbeats 8000000
set_option linter.unusedVariables false
set_option linter.unusedSimpArgs false

def oneZ : Option Nat → Int
  | none => -1
  | some j => j
theorem qs_row (X : List QS) (k : Nat) (h : k < X.length) : (X.map fun x => encI x.q).getD k [] = [.int .i64 X[k].q] := by rw [getD_map _ _ _ h]; rfl
theorem late_row (X : List QS) (k : Nat) (h : k < X.length) : (X.map fun x => encI x.late).getD k [] = [.int .i64 X[k].late] := by rw [getD_map _ _ _ h]; rfl
theorem encq_fz (x : QS) : ∀ c ∈ encI x.q, c.fz = true := by simp [encI, PV.fz]
theorem encl_fz (x : QS) : ∀ c ∈ encI x.late, c.fz = true := by simp [encI, PV.fz]
theorem ren_q (l : List QS) (r : Nat → Nat) : (l.map fun x => encI x.q).map (renL r) = l.map fun x => encI x.q := map_ren_fz _ (fz_map encq_fz l) r
theorem ok_q (l : List QS) (S : Nat → Prop) : (∀ e ∈ l.map (fun x => encI x.q), okL S e) = True := all_ok_fz _ (fz_map encq_fz l) S
theorem ren_l (l : List QS) (r : Nat → Nat) : (l.map fun x => encI x.late).map (renL r) = l.map fun x => encI x.late := map_ren_fz _ (fz_map encl_fz l) r
theorem ok_l (l : List QS) (S : Nat → Prop) : (∀ e ∈ l.map (fun x => encI x.late), okL S e) = True := all_ok_fz _ (fz_map encl_fz l) S
theorem fz_l (l : List QS) : (∀ e ∈ l.map (fun x => encI x.late), ∀ c ∈ e, c.fz = true) = True := eq_true (fz_map encl_fz l)

def soonZ (r : Bool × Option Nat × Int) : Int := if r.1 = true then r.2.2 else -1
/-- Between two frames. -/
def rpS (l : List Stream) (bs : List Int) (until_ now : Int) (X : List QS) : AS :=
  { sl := [(0, .sl false 3 (l.map encStream)), (1, .sl false 1 (bs.map encI)), (2, .int .i64 until_), (8, .own 48 1 0 l.length), (9, .own 72 1 0 l.length), (10, .int .i64 now)], st := [(48, .row 1 (X.map fun x => encI x.q)), (72, .row 1 (X.map fun x => encI x.late))], nx := 104, n := 152 }
/-- While the next one is looked for. -/
def rpI (l : List Stream) (bs : List Int) (until_ now : Int) (X : List QS) (k : Nat) (r : Bool × Option Nat × Int) : AS :=
  { sl := [(0, .sl false 3 (l.map encStream)), (1, .sl false 1 (bs.map encI)), (2, .int .i64 until_), (8, .own 48 1 0 l.length), (9, .own 72 1 0 l.length), (10, .int .i64 now), (11, .bool r.1), (12, .int .i64 (oneZ r.2.1)), (13, .int .i64 (soonZ r)), (14, .int .i64 k)], st := [(48, .row 1 (X.map fun x => encI x.q)), (72, .row 1 (X.map fun x => encI x.late))], nx := 104, n := 152 }
theorem oneZ_n : oneZ none = -1 := rfl
theorem oneZ_s (j : Nat) : oneZ (some j) = j := rfl
theorem rplay_ok (l : List Stream) (bs : List Int) (until_ : Int) (hl : l.length ≤ 2 ^ 30) (hbl : bs.length ≤ 2 ^ 30) :
    FnS Try.prog 19 [.sl false 3 (l.map encStream), .sl false 1 (bs.map encI), .int .i64 until_] [] (.sl false 1 ((playZ l bs until_).map encI)) [] := by
  refine fn_walk tabOk Try.func19 rfl (by decide +kernel) Try.ntmps19 Try.results19 (by simp) fun B hB => ?_
  try refine hK _ ?_
  repeat (first | refine awp_seq ?_ | refine awp_block ?_ | refine awp_skip ?_ | refine awp_scope ?_ | refine awp_label ?_)
  refine awp_region tabOk fun K hK => ?_
  simp -dsimp -implicitDefEqProofs only [push_cast, ↓trAdd_f, ↓stOf_f, Nat.reduceBEq, Int.reduceBEq, Int.reduceBNe, Int.reduceNeg, Int.reduceAdd, Int.reduceSub, Int.reduceLT, Int.reduceLE, Int.reduceMul, Nat.reducePow, Int.reducePow, Nat.reduceAdd, Nat.reduceEqDiff, Nat.reduceLT, Nat.reduceLeDiff, Nat.reduceMul, Nat.reduceSub, reduceCtorEq, ↓reduceIte]
  try refine hK _ ?_
  repeat (first | refine awp_seq ?_ | refine awp_block ?_ | refine awp_skip ?_ | refine awp_scope ?_ | refine awp_label ?_)
  refine awp_join ({ sl := [(0, .sl false 3 (l.map encStream)), (1, .sl false 1 (bs.map encI)), (2, .int .i64 until_), (33, .bool (!decide (rightS l = true ∧ bs.length = l.length ∧ 0 ≤ until_ ∧ until_ ≤ 1000000)))], st := [], nx := 0, n := 152 }) ?_ (fun _ hl h => awp_le hl h) ?_
  · try refine hK _ ?_
    repeat (first | refine awp_seq ?_ | refine awp_block ?_ | refine awp_skip ?_ | refine awp_scope ?_ | refine awp_label ?_)
    refine awp_region tabOk fun K hK => ?_
    simp -dsimp -implicitDefEqProofs only [push_cast, ↓trAdd_f, ↓stOf_f, Nat.reduceBEq, Int.reduceBEq, Int.reduceBNe, Int.reduceNeg, Int.reduceAdd, Int.reduceSub, Int.reduceLT, Int.reduceLE, Int.reduceMul, Nat.reducePow, Int.reducePow, Nat.reduceAdd, Nat.reduceEqDiff, Nat.reduceLT, Nat.reduceLeDiff, Nat.reduceMul, Nat.reduceSub, reduceCtorEq, ↓reduceIte]
    refine callK_simple (right11_ok false l (by omega)) ?_ rfl fun _ => ?_
    · simp -dsimp -implicitDefEqProofs only [push_cast, List.mem_append, List.mem_cons, List.mem_singleton, forall_eq_or_imp, forall_eq, ↓trAdd_f, ↓stOf_f, Nat.reduceBEq, Int.reduceBEq, Int.reduceBNe, Int.reduceNeg, Int.reduceAdd, Int.reduceSub, Int.reduceLT, Int.reduceLE, Int.reduceMul, Nat.reducePow, Int.reducePow, Nat.reduceAdd, Nat.reduceEqDiff, Nat.reduceLT, Nat.reduceLeDiff, Nat.reduceMul, Nat.reduceSub, reduceCtorEq, ↓reduceIte]
    cases hr : rightS l with
    | false =>
      simp -dsimp -implicitDefEqProofs only [push_cast, ↓trAdd_f, ↓stOf_f, Nat.reduceBEq, Int.reduceBEq, Int.reduceBNe, Int.reduceNeg, Int.reduceAdd, Int.reduceSub, Int.reduceLT, Int.reduceLE, Int.reduceMul, Nat.reducePow, Int.reducePow, Nat.reduceAdd, Nat.reduceEqDiff, Nat.reduceLT, Nat.reduceLeDiff, Nat.reduceMul, Nat.reduceSub, reduceCtorEq, ↓reduceIte]
      refine hK _ ?_
      have e : decide (rightS l = true ∧ bs.length = l.length ∧ 0 ≤ until_ ∧ until_ ≤ 1000000) = false := by simp [hr]
      refine le_intro hB [] (by simp) (fun b _ => rfl) rfl ?_ ?_ rfl <;> simp -dsimp -implicitDefEqProofs only [e, push_cast, ↓trAdd_f, ↓stOf_f, Nat.reduceBEq, Int.reduceBEq, Int.reduceBNe, Int.reduceNeg, Int.reduceAdd, Int.reduceSub, Int.reduceLT, Int.reduceLE, Int.reduceMul, Nat.reducePow, Int.reducePow, Nat.reduceAdd, Nat.reduceEqDiff, Nat.reduceLT, Nat.reduceLeDiff, Nat.reduceMul, Nat.reduceSub, reduceCtorEq, ↓reduceIte]
    | true =>
      cases hlen : (bs.length : Int) != l.length with
      | true =>
        simp -dsimp -implicitDefEqProofs only [hlen, push_cast, ↓trAdd_f, ↓stOf_f, Nat.reduceBEq, Int.reduceBEq, Int.reduceBNe, Int.reduceNeg, Int.reduceAdd, Int.reduceSub, Int.reduceLT, Int.reduceLE, Int.reduceMul, Nat.reducePow, Int.reducePow, Nat.reduceAdd, Nat.reduceEqDiff, Nat.reduceLT, Nat.reduceLeDiff, Nat.reduceMul, Nat.reduceSub, reduceCtorEq, ↓reduceIte]
        refine hK _ ?_
        have e : decide (rightS l = true ∧ bs.length = l.length ∧ 0 ≤ until_ ∧ until_ ≤ 1000000) = false := by simp at hlen; simp; omega
        refine le_intro hB [] (by simp) (fun b _ => rfl) rfl ?_ ?_ rfl <;> simp -dsimp -implicitDefEqProofs only [e, push_cast, ↓trAdd_f, ↓stOf_f, Nat.reduceBEq, Int.reduceBEq, Int.reduceBNe, Int.reduceNeg, Int.reduceAdd, Int.reduceSub, Int.reduceLT, Int.reduceLE, Int.reduceMul, Nat.reducePow, Int.reducePow, Nat.reduceAdd, Nat.reduceEqDiff, Nat.reduceLT, Nat.reduceLeDiff, Nat.reduceMul, Nat.reduceSub, reduceCtorEq, ↓reduceIte]
      | false =>
        have hlen' : bs.length = l.length := by simp at hlen; omega
        simp -dsimp -implicitDefEqProofs only [hlen, push_cast, ↓trAdd_f, ↓stOf_f, Nat.reduceBEq, Int.reduceBEq, Int.reduceBNe, Int.reduceNeg, Int.reduceAdd, Int.reduceSub, Int.reduceLT, Int.reduceLE, Int.reduceMul, Nat.reducePow, Int.reducePow, Nat.reduceAdd, Nat.reduceEqDiff, Nat.reduceLT, Nat.reduceLeDiff, Nat.reduceMul, Nat.reduceSub, reduceCtorEq, ↓reduceIte]
        refine guardK_f (fun h1 => ?_) (fun h1 => ?_) <;> simp -dsimp -implicitDefEqProofs only [h1, push_cast, ↓trAdd_f, ↓stOf_f, Nat.reduceBEq, Int.reduceBEq, Int.reduceBNe, Int.reduceNeg, Int.reduceAdd, Int.reduceSub, Int.reduceLT, Int.reduceLE, Int.reduceMul, Nat.reducePow, Int.reducePow, Nat.reduceAdd, Nat.reduceEqDiff, Nat.reduceLT, Nat.reduceLeDiff, Nat.reduceMul, Nat.reduceSub, reduceCtorEq, ↓reduceIte]
        · refine hK _ ?_
          have e : (!decide (rightS l = true ∧ bs.length = l.length ∧ 0 ≤ until_ ∧ until_ ≤ 1000000)) = decide (1000000 < until_) := by
            have h2 : 0 ≤ until_ := by simp at h1; exact h1
            rw [Bool.eq_iff_iff]; simp [hr, hlen', h2]
          refine le_intro hB [] (by simp) (fun b _ => rfl) rfl ?_ ?_ rfl <;> simp -dsimp -implicitDefEqProofs only [e, push_cast, ↓trAdd_f, ↓stOf_f, Nat.reduceBEq, Int.reduceBEq, Int.reduceBNe, Int.reduceNeg, Int.reduceAdd, Int.reduceSub, Int.reduceLT, Int.reduceLE, Int.reduceMul, Nat.reducePow, Int.reducePow, Nat.reduceAdd, Nat.reduceEqDiff, Nat.reduceLT, Nat.reduceLeDiff, Nat.reduceMul, Nat.reduceSub, reduceCtorEq, ↓reduceIte]
        · refine hK _ ?_
          have e : decide (rightS l = true ∧ bs.length = l.length ∧ 0 ≤ until_ ∧ until_ ≤ 1000000) = false := by simp at h1; simp; omega
          refine le_intro hB [] (by simp) (fun b _ => rfl) rfl ?_ ?_ rfl <;> simp -dsimp -implicitDefEqProofs only [e, push_cast, ↓trAdd_f, ↓stOf_f, Nat.reduceBEq, Int.reduceBEq, Int.reduceBNe, Int.reduceNeg, Int.reduceAdd, Int.reduceSub, Int.reduceLT, Int.reduceLE, Int.reduceMul, Nat.reducePow, Int.reducePow, Nat.reduceAdd, Nat.reduceEqDiff, Nat.reduceLT, Nat.reduceLeDiff, Nat.reduceMul, Nat.reduceSub, reduceCtorEq, ↓reduceIte]
  try refine hK _ ?_
  repeat (first | refine awp_seq ?_ | refine awp_block ?_ | refine awp_skip ?_ | refine awp_scope ?_ | refine awp_label ?_)
  refine awp_cond (b := !decide (rightS l = true ∧ bs.length = l.length ∧ 0 ≤ until_ ∧ until_ ≤ 1000000)) (by simp -dsimp -implicitDefEqProofs only [push_cast, ↓trAdd_f, ↓stOf_f, Nat.reduceBEq, Int.reduceBEq, Int.reduceBNe, Int.reduceNeg, Int.reduceAdd, Int.reduceSub, Int.reduceLT, Int.reduceLE, Int.reduceMul, Nat.reducePow, Int.reducePow, Nat.reduceAdd, Nat.reduceEqDiff, Nat.reduceLT, Nat.reduceLeDiff, Nat.reduceMul, Nat.reduceSub, reduceCtorEq, ↓reduceIte]) (fun h => ?_) (fun h => ?_)
  · have hn : ¬ (rightS l = true ∧ bs.length = l.length ∧ 0 ≤ until_ ∧ until_ ≤ 1000000) := fun e => by rw [decide_eq_true e] at h; simp at h
    have e : playZ l bs until_ = [] := by unfold playZ; rw [if_neg (fun h => hn ⟨h.1, h.2.1, h.2.2.1, h.2.2.2.1⟩)]
    try refine hK _ ?_
    repeat (first | refine awp_seq ?_ | refine awp_block ?_ | refine awp_skip ?_ | refine awp_scope ?_ | refine awp_label ?_)
    refine awp_region tabOk fun K hK => ?_
    simp -dsimp -implicitDefEqProofs only [push_cast, ↓trAdd_f, ↓stOf_f, Nat.reduceBEq, Int.reduceBEq, Int.reduceBNe, Int.reduceNeg, Int.reduceAdd, Int.reduceSub, Int.reduceLT, Int.reduceLE, Int.reduceMul, Nat.reducePow, Int.reducePow, Nat.reduceAdd, Nat.reduceEqDiff, Nat.reduceLT, Nat.reduceLeDiff, Nat.reduceMul, Nat.reduceSub, reduceCtorEq, ↓reduceIte]
    refine hK _ (awp_ret ?_)
    rw [e]
    simp -dsimp -implicitDefEqProofs only [push_cast, List.mem_append, List.mem_cons, List.mem_singleton, forall_eq_or_imp, forall_eq, ↓trAdd_f, ↓stOf_f, Nat.reduceBEq, Int.reduceBEq, Int.reduceBNe, Int.reduceNeg, Int.reduceAdd, Int.reduceSub, Int.reduceLT, Int.reduceLE, Int.reduceMul, Nat.reducePow, Int.reducePow, Nat.reduceAdd, Nat.reduceEqDiff, Nat.reduceLT, Nat.reduceLeDiff, Nat.reduceMul, Nat.reduceSub, reduceCtorEq, ↓reduceIte]
  have hy : rightS l = true ∧ bs.length = l.length ∧ 0 ≤ until_ ∧ until_ ≤ 1000000 := by simpa using h
  obtain ⟨hr, hlen, hu0, hu1⟩ := hy
  obtain ⟨hs, hl1, hl16⟩ := right_ok_s hr
  clear h
  try refine hK _ ?_
  repeat (first | refine awp_seq ?_ | refine awp_block ?_ | refine awp_skip ?_ | refine awp_scope ?_ | refine awp_label ?_)
  refine awp_region tabOk fun K hK => ?_
  simp -dsimp -implicitDefEqProofs only [push_cast, ↓trAdd_f, ↓stOf_f, Nat.reduceBEq, Int.reduceBEq, Int.reduceBNe, Int.reduceNeg, Int.reduceAdd, Int.reduceSub, Int.reduceLT, Int.reduceLE, Int.reduceMul, Nat.reducePow, Int.reducePow, Nat.reduceAdd, Nat.reduceEqDiff, Nat.reduceLT, Nat.reduceLeDiff, Nat.reduceMul, Nat.reduceSub, reduceCtorEq, ↓reduceIte]
  refine hK _ (awp_block ?_)
  refine awp_for (fun k : Nat => { sl := [(0, .sl false 3 (l.map encStream)), (1, .sl false 1 (bs.map encI)), (2, .int .i64 until_), (7, .int .i64 k)], st := [], nx := 0, n := 152 }) (fun k => k ≤ l.length ∧ ∀ b ∈ bs.take k, 0 ≤ b ∧ b ≤ 1000000) (fun k => l.length - k) 0 ⟨Nat.zero_le _, by simp⟩ ?_ fun k hk => ?_
  · refine le_intro hB [] (by simp) (fun b _ => rfl) rfl ?_ ?_ rfl <;> simp -dsimp -implicitDefEqProofs only [push_cast, ↓trAdd_f, ↓stOf_f, Nat.reduceBEq, Int.reduceBEq, Int.reduceBNe, Int.reduceNeg, Int.reduceAdd, Int.reduceSub, Int.reduceLT, Int.reduceLE, Int.reduceMul, Nat.reducePow, Int.reducePow, Nat.reduceAdd, Nat.reduceEqDiff, Nat.reduceLT, Nat.reduceLeDiff, Nat.reduceMul, Nat.reduceSub, reduceCtorEq, ↓reduceIte]
  try refine hK _ ?_
  repeat (first | refine awp_seq ?_ | refine awp_block ?_ | refine awp_skip ?_ | refine awp_scope ?_ | refine awp_label ?_)
  refine awp_region tabOk fun K hK => ?_
  simp -dsimp -implicitDefEqProofs only [push_cast, ↓trAdd_f, ↓stOf_f, Nat.reduceBEq, Int.reduceBEq, Int.reduceBNe, Int.reduceNeg, Int.reduceAdd, Int.reduceSub, Int.reduceLT, Int.reduceLE, Int.reduceMul, Nat.reducePow, Int.reducePow, Nat.reduceAdd, Nat.reduceEqDiff, Nat.reduceLT, Nat.reduceLeDiff, Nat.reduceMul, Nat.reduceSub, reduceCtorEq, ↓reduceIte]
  try refine hK _ ?_
  repeat (first | refine awp_seq ?_ | refine awp_block ?_ | refine awp_skip ?_ | refine awp_scope ?_ | refine awp_label ?_)
  refine awp_cond (b := decide ((k : Int) < l.length)) (by simp -dsimp -implicitDefEqProofs only [push_cast, ↓trAdd_f, ↓stOf_f, Nat.reduceBEq, Int.reduceBEq, Int.reduceBNe, Int.reduceNeg, Int.reduceAdd, Int.reduceSub, Int.reduceLT, Int.reduceLE, Int.reduceMul, Nat.reducePow, Int.reducePow, Nat.reduceAdd, Nat.reduceEqDiff, Nat.reduceLT, Nat.reduceLeDiff, Nat.reduceMul, Nat.reduceSub, reduceCtorEq, ↓reduceIte]) (fun h => ?_) (fun h => ?_)
  · have hlt : k < l.length := by simpa using h
    have hkb : k < bs.length := by omega
    clear h
    try refine hK _ ?_
    repeat (first | refine awp_seq ?_ | refine awp_block ?_ | refine awp_skip ?_ | refine awp_scope ?_ | refine awp_label ?_)
    refine awp_join ({ sl := [(0, .sl false 3 (l.map encStream)), (1, .sl false 1 (bs.map encI)), (2, .int .i64 until_), (7, .int .i64 k), (51, .bool (!decide (0 ≤ bs[k] ∧ bs[k] ≤ 1000000)))], st := [], nx := 0, n := 152 }) ?_ (fun _ hl h => awp_le hl h) ?_
    · try refine hK _ ?_
      repeat (first | refine awp_seq ?_ | refine awp_block ?_ | refine awp_skip ?_ | refine awp_scope ?_ | refine awp_label ?_)
      refine awp_region tabOk fun K hK => ?_
      simp -dsimp -implicitDefEqProofs only [hkb, getD_map, encI, push_cast, ↓trAdd_f, ↓stOf_f, Nat.reduceBEq, Int.reduceBEq, Int.reduceBNe, Int.reduceNeg, Int.reduceAdd, Int.reduceSub, Int.reduceLT, Int.reduceLE, Int.reduceMul, Nat.reducePow, Int.reducePow, Nat.reduceAdd, Nat.reduceEqDiff, Nat.reduceLT, Nat.reduceLeDiff, Nat.reduceMul, Nat.reduceSub, reduceCtorEq, ↓reduceIte]
      refine ⟨⟨by omega, by omega⟩, ?_⟩
      refine guardK_f (fun h1 => ?_) (fun h1 => ?_) <;> simp -dsimp -implicitDefEqProofs only [h1, hkb, getD_map, encI, push_cast, ↓trAdd_f, ↓stOf_f, Nat.reduceBEq, Int.reduceBEq, Int.reduceBNe, Int.reduceNeg, Int.reduceAdd, Int.reduceSub, Int.reduceLT, Int.reduceLE, Int.reduceMul, Nat.reducePow, Int.reducePow, Nat.reduceAdd, Nat.reduceEqDiff, Nat.reduceLT, Nat.reduceLeDiff, Nat.reduceMul, Nat.reduceSub, reduceCtorEq, ↓reduceIte]
      · refine ⟨⟨by omega, by omega⟩, hK _ ?_⟩
        have e : (!decide (0 ≤ bs[k] ∧ bs[k] ≤ 1000000)) = decide (1000000 < bs[k]) := by
          have h2 : 0 ≤ bs[k] := by simp at h1; exact h1
          rw [Bool.eq_iff_iff]; simp [h2]
        refine le_intro hB [] (by simp) (fun b _ => rfl) rfl ?_ ?_ rfl <;> simp -dsimp -implicitDefEqProofs only [e, push_cast, ↓trAdd_f, ↓stOf_f, Nat.reduceBEq, Int.reduceBEq, Int.reduceBNe, Int.reduceNeg, Int.reduceAdd, Int.reduceSub, Int.reduceLT, Int.reduceLE, Int.reduceMul, Nat.reducePow, Int.reducePow, Nat.reduceAdd, Nat.reduceEqDiff, Nat.reduceLT, Nat.reduceLeDiff, Nat.reduceMul, Nat.reduceSub, reduceCtorEq, ↓reduceIte]
      · refine hK _ ?_
        have e : decide (0 ≤ bs[k] ∧ bs[k] ≤ 1000000) = false := by simp at h1; simp; omega
        refine le_intro hB [] (by simp) (fun b _ => rfl) rfl ?_ ?_ rfl <;> simp -dsimp -implicitDefEqProofs only [e, push_cast, ↓trAdd_f, ↓stOf_f, Nat.reduceBEq, Int.reduceBEq, Int.reduceBNe, Int.reduceNeg, Int.reduceAdd, Int.reduceSub, Int.reduceLT, Int.reduceLE, Int.reduceMul, Nat.reducePow, Int.reducePow, Nat.reduceAdd, Nat.reduceEqDiff, Nat.reduceLT, Nat.reduceLeDiff, Nat.reduceMul, Nat.reduceSub, reduceCtorEq, ↓reduceIte]
    try refine hK _ ?_
    repeat (first | refine awp_seq ?_ | refine awp_block ?_ | refine awp_skip ?_ | refine awp_scope ?_ | refine awp_label ?_)
    refine awp_cond (b := !decide (0 ≤ bs[k] ∧ bs[k] ≤ 1000000)) (by simp -dsimp -implicitDefEqProofs only [push_cast, ↓trAdd_f, ↓stOf_f, Nat.reduceBEq, Int.reduceBEq, Int.reduceBNe, Int.reduceNeg, Int.reduceAdd, Int.reduceSub, Int.reduceLT, Int.reduceLE, Int.reduceMul, Nat.reducePow, Int.reducePow, Nat.reduceAdd, Nat.reduceEqDiff, Nat.reduceLT, Nat.reduceLeDiff, Nat.reduceMul, Nat.reduceSub, reduceCtorEq, ↓reduceIte]) (fun h => ?_) (fun h => ?_)
    · have hn : ¬ (0 ≤ bs[k] ∧ bs[k] ≤ 1000000) := fun e => by rw [decide_eq_true e] at h; simp at h
      have e : playZ l bs until_ = [] := by unfold playZ; rw [if_neg (fun h => hn (h.2.2.2.2 _ (List.getElem_mem hkb)))]
      try refine hK _ ?_
      repeat (first | refine awp_seq ?_ | refine awp_block ?_ | refine awp_skip ?_ | refine awp_scope ?_ | refine awp_label ?_)
      refine awp_region tabOk fun K hK => ?_
      simp -dsimp -implicitDefEqProofs only [push_cast, ↓trAdd_f, ↓stOf_f, Nat.reduceBEq, Int.reduceBEq, Int.reduceBNe, Int.reduceNeg, Int.reduceAdd, Int.reduceSub, Int.reduceLT, Int.reduceLE, Int.reduceMul, Nat.reducePow, Int.reducePow, Nat.reduceAdd, Nat.reduceEqDiff, Nat.reduceLT, Nat.reduceLeDiff, Nat.reduceMul, Nat.reduceSub, reduceCtorEq, ↓reduceIte]
      refine hK _ (awp_ret ?_)
      rw [e]
      simp -dsimp -implicitDefEqProofs only [push_cast, List.mem_append, List.mem_cons, List.mem_singleton, forall_eq_or_imp, forall_eq, ↓trAdd_f, ↓stOf_f, Nat.reduceBEq, Int.reduceBEq, Int.reduceBNe, Int.reduceNeg, Int.reduceAdd, Int.reduceSub, Int.reduceLT, Int.reduceLE, Int.reduceMul, Nat.reducePow, Int.reducePow, Nat.reduceAdd, Nat.reduceEqDiff, Nat.reduceLT, Nat.reduceLeDiff, Nat.reduceMul, Nat.reduceSub, reduceCtorEq, ↓reduceIte]
    · have hy : 0 ≤ bs[k] ∧ bs[k] ≤ 1000000 := by simpa using h
      try refine hK _ ?_
      repeat (first | refine awp_seq ?_ | refine awp_block ?_ | refine awp_skip ?_ | refine awp_scope ?_ | refine awp_label ?_)
      refine awp_region tabOk fun K hK => ?_
      simp -dsimp -implicitDefEqProofs only [push_cast, ↓trAdd_f, ↓stOf_f, Nat.reduceBEq, Int.reduceBEq, Int.reduceBNe, Int.reduceNeg, Int.reduceAdd, Int.reduceSub, Int.reduceLT, Int.reduceLE, Int.reduceMul, Nat.reducePow, Int.reducePow, Nat.reduceAdd, Nat.reduceEqDiff, Nat.reduceLT, Nat.reduceLeDiff, Nat.reduceMul, Nat.reduceSub, reduceCtorEq, ↓reduceIte]
      try simp (disch := omega) only [wrap_i64, wrap_u8, wrap_u16, wrap_u32]
      refine hK _ ⟨k + 1, ⟨hlt, ?_⟩, by omega, ?_⟩
      · intro b hb
        rw [List.take_succ_eq_append_getElem hkb] at hb
        rcases List.mem_append.1 hb with hb | hb
        · exact hk.2 b hb
        · simp at hb; subst hb; exact hy
      refine le_intro hB [] (by simp) (fun b _ => rfl) rfl ?_ ?_ rfl <;> simp -dsimp -implicitDefEqProofs only [push_cast, ↓trAdd_f, ↓stOf_f, Nat.reduceBEq, Int.reduceBEq, Int.reduceBNe, Int.reduceNeg, Int.reduceAdd, Int.reduceSub, Int.reduceLT, Int.reduceLE, Int.reduceMul, Nat.reducePow, Int.reducePow, Nat.reduceAdd, Nat.reduceEqDiff, Nat.reduceLT, Nat.reduceLeDiff, Nat.reduceMul, Nat.reduceSub, reduceCtorEq, ↓reduceIte]
  have hkl : k = l.length := by have := hk.1; simp at h; omega
  have hball : ∀ b ∈ bs, 0 ≤ b ∧ b ≤ 1000000 := by have := hk.2; rwa [hkl, ← hlen, List.take_length] at this
  have p : PlayOk l bs until_ := ⟨hs, hl16, hball, hlen, hu0, hu1⟩
  rw [playZ_ok hr p]
  clear h hk hkl
  refine awp_exit rfl ?_
  try refine hK _ ?_
  repeat (first | refine awp_seq ?_ | refine awp_block ?_ | refine awp_skip ?_ | refine awp_scope ?_ | refine awp_label ?_)
  refine awp_draw tabOk (by kernel_rfl) (by kernel_rfl) fun K hK C hC => ?_
  simp -dsimp -implicitDefEqProofs only [push_cast, ↓trAdd_f, ↓stOf_f, Nat.reduceBEq, Int.reduceBEq, Int.reduceBNe, Int.reduceNeg, Int.reduceAdd, Int.reduceSub, Int.reduceLT, Int.reduceLE, Int.reduceMul, Nat.reducePow, Int.reducePow, Nat.reduceAdd, Nat.reduceEqDiff, Nat.reduceLT, Nat.reduceLeDiff, Nat.reduceMul, Nat.reduceSub, reduceCtorEq, ↓reduceIte]
  refine ⟨⟨by omega, by omega, by omega, by omega⟩, ⟨by omega, by omega, by omega, by omega⟩, hC _ (by kernel_rfl), hK _ (awp_block ?_)⟩
  clear hC C
  have hfirst := pinv_first p
  have hz := (play0_s l bs hlen).2.2
  have hpl : (play0 l bs).length = l.length := hfirst.len
  refine awp_for (fun x : Nat × Int × List QS => rpS l bs until_ x.2.1 x.2.2) (fun x => PInv l bs until_ x.1 x.2.1 x.2.2) (fun x => x.1) (fuel0, 0, play0 l bs) hfirst ?_ fun x hx => ?_
  · have e1 : (play0 l bs).map (fun x => encI x.q) = List.replicate l.length [PV.int .i64 0] := by
      rw [List.eq_replicate_iff]
      refine ⟨by simp [hpl], fun e he => ?_⟩
      obtain ⟨x, hx, rfl⟩ := List.mem_map.1 he
      rw [(hz x hx).1]; rfl
    have e2 : (play0 l bs).map (fun x => encI x.late) = List.replicate l.length [PV.int .i64 0] := by
      rw [List.eq_replicate_iff]
      refine ⟨by simp [hpl], fun e he => ?_⟩
      obtain ⟨x, hx, rfl⟩ := List.mem_map.1 he
      rw [(hz x hx).2]; rfl
    have rr : ∀ r, (List.replicate l.length [PV.int .i64 0]).map (renL r) = List.replicate l.length [PV.int .i64 0] := fun r => by rw [← e1]; exact ren_q _ r
    have oo : ∀ S : Nat → Prop, (∀ e ∈ List.replicate l.length [PV.int .i64 0], okL S e) = True := fun S => by rw [← e1]; exact ok_q _ S
    simp only [rpS]
    refine le_intro hB [] (by simp) (fun b _ => rfl) rfl ?_ ?_ rfl <;> simp -dsimp -implicitDefEqProofs only [e1, e2, rr, oo, push_cast, ↓trAdd_f, ↓stOf_f, Nat.reduceBEq, Int.reduceBEq, Int.reduceBNe, Int.reduceNeg, Int.reduceAdd, Int.reduceSub, Int.reduceLT, Int.reduceLE, Int.reduceMul, Nat.reducePow, Int.reducePow, Nat.reduceAdd, Nat.reduceEqDiff, Nat.reduceLT, Nat.reduceLeDiff, Nat.reduceMul, Nat.reduceSub, reduceCtorEq, ↓reduceIte]
  obtain ⟨n, now, X⟩ := x
  simp only at hx
  obtain ⟨n, rfl⟩ : ∃ k, n = k + 1 := ⟨n - 1, by have := hx.mu; omega⟩
  have hXl := hx.len
  have hbig := hx.big
  have hnow0 := hx.now0
  simp only [rpS]
  try refine hK _ ?_
  repeat (first | refine awp_seq ?_ | refine awp_block ?_ | refine awp_skip ?_ | refine awp_scope ?_ | refine awp_label ?_)
  refine awp_region tabOk fun K hK => ?_
  simp -dsimp -implicitDefEqProofs only [push_cast, ↓trAdd_f, ↓stOf_f, Nat.reduceBEq, Int.reduceBEq, Int.reduceBNe, Int.reduceNeg, Int.reduceAdd, Int.reduceSub, Int.reduceLT, Int.reduceLE, Int.reduceMul, Nat.reducePow, Int.reducePow, Nat.reduceAdd, Nat.reduceEqDiff, Nat.reduceLT, Nat.reduceLeDiff, Nat.reduceMul, Nat.reduceSub, reduceCtorEq, ↓reduceIte]
  refine hK _ (awp_seq ?_)
  refine awp_join (rpI l bs until_ now X l.length (scan now until_ X)) ?_ (fun _ hl h => awp_le hl h) ?_
  · try refine hK _ ?_
    repeat (first | refine awp_seq ?_ | refine awp_block ?_ | refine awp_skip ?_ | refine awp_scope ?_ | refine awp_label ?_)
    refine awp_region tabOk fun K hK => ?_
    simp -dsimp -implicitDefEqProofs only [push_cast, ↓trAdd_f, ↓stOf_f, Nat.reduceBEq, Int.reduceBEq, Int.reduceBNe, Int.reduceNeg, Int.reduceAdd, Int.reduceSub, Int.reduceLT, Int.reduceLE, Int.reduceMul, Nat.reducePow, Int.reducePow, Nat.reduceAdd, Nat.reduceEqDiff, Nat.reduceLT, Nat.reduceLeDiff, Nat.reduceMul, Nat.reduceSub, reduceCtorEq, ↓reduceIte]
    refine hK _ (awp_block ?_)
    refine awp_for (fun k : Nat => rpI l bs until_ now X k (scanN now until_ X k)) (fun k => k ≤ l.length) (fun k => l.length - k) 0 (Nat.zero_le _) ?_ fun k hk => ?_
    · have e0 : scanN now until_ X 0 = (false, none, 0) := rfl
      simp only [rpI, e0, oneZ, soonZ, Bool.false_eq_true, if_false]
      refine le_intro hB [] (by simp) (fun b _ => rfl) rfl ?_ ?_ rfl <;> simp -dsimp -implicitDefEqProofs only [ren_q, ok_q, ren_l, ok_l, push_cast, ↓trAdd_f, ↓stOf_f, Nat.reduceBEq, Int.reduceBEq, Int.reduceBNe, Int.reduceNeg, Int.reduceAdd, Int.reduceSub, Int.reduceLT, Int.reduceLE, Int.reduceMul, Nat.reducePow, Int.reducePow, Nat.reduceAdd, Nat.reduceEqDiff, Nat.reduceLT, Nat.reduceLeDiff, Nat.reduceMul, Nat.reduceSub, reduceCtorEq, ↓reduceIte]
    have hsc := scanN_spec now until_ X k
    have hsucc : scanN now until_ X (k + 1) = scanStep now until_ k (X.getD k zeroQ) (scanN now until_ X k) := rfl
    have hdone : k = l.length → scanN now until_ X k = scan now until_ X := fun e => by unfold scan; rw [hXl, e]
    generalize scanN now until_ X k = r at *
    simp only [rpI]
    try refine hK _ ?_
    repeat (first | refine awp_seq ?_ | refine awp_block ?_ | refine awp_skip ?_ | refine awp_scope ?_ | refine awp_label ?_)
    refine awp_region tabOk fun K hK => ?_
    simp -dsimp -implicitDefEqProofs only [push_cast, ↓trAdd_f, ↓stOf_f, Nat.reduceBEq, Int.reduceBEq, Int.reduceBNe, Int.reduceNeg, Int.reduceAdd, Int.reduceSub, Int.reduceLT, Int.reduceLE, Int.reduceMul, Nat.reducePow, Int.reducePow, Nat.reduceAdd, Nat.reduceEqDiff, Nat.reduceLT, Nat.reduceLeDiff, Nat.reduceMul, Nat.reduceSub, reduceCtorEq, ↓reduceIte]
    try refine hK _ ?_
    repeat (first | refine awp_seq ?_ | refine awp_block ?_ | refine awp_skip ?_ | refine awp_scope ?_ | refine awp_label ?_)
    refine awp_cond (b := decide ((k : Int) < l.length)) (by simp -dsimp -implicitDefEqProofs only [push_cast, ↓trAdd_f, ↓stOf_f, Nat.reduceBEq, Int.reduceBEq, Int.reduceBNe, Int.reduceNeg, Int.reduceAdd, Int.reduceSub, Int.reduceLT, Int.reduceLE, Int.reduceMul, Nat.reducePow, Int.reducePow, Nat.reduceAdd, Nat.reduceEqDiff, Nat.reduceLT, Nat.reduceLeDiff, Nat.reduceMul, Nat.reduceSub, reduceCtorEq, ↓reduceIte]) (fun h => ?_) (fun h => ?_)
    · have hlt : k < l.length := by simpa using h
      have hkb : k < bs.length := by omega
      have hkX : k < X.length := by omega
      clear h hdone
      have hm : X[k] ∈ X := List.getElem_mem hkX
      have hok := hx.okq p hm
      have hls : l[k] = X[k].s := by simp only [← hx.ss, List.getElem_map]
      have hbs : bs[k] = X[k].b := by simp only [← hx.bb, List.getElem_map]
      have hqq := hx.q _ hm
      have hgq := qs_row X k hkX
      have hlq : (X.map fun x => encI x.q).length = l.length := by simp [hXl]
      have hll : (X.map fun x => encI x.late).length = l.length := by simp [hXl]
      have hgb : (bs.map encI).getD k [] = [.int .i64 bs[k]] := by rw [getD_map _ _ _ hkb]; rfl
      have hgX : X.getD k zeroQ = X[k] := by simp [List.getD, hkX]
      rw [hgX] at hsucc
      generalize hxk : X[k] = x at *
      have hdd := due_ok x.s x.b x.q hok.s hok.b hok.q
      have hff := from_ok x.s x.b x.q hok.s hok.b hok.q
      have e1 : dueZ x.s x.b x.q = x.due := rfl
      have e2 : fromZ x.s x.b x.q = x.wts := rfl
      rw [e1] at hdd
      rw [e2] at hff
      rw [hbs] at hgb
      try refine hK _ ?_
      repeat (first | refine awp_seq ?_ | refine awp_block ?_ | refine awp_skip ?_ | refine awp_scope ?_ | refine awp_label ?_)
      refine awp_draw tabOk (by kernel_rfl) (by kernel_rfl) fun K hK C hC => ?_
      simp -dsimp -implicitDefEqProofs only [hlt, getD_map, encStream, hls, hgb, hgq, hlq, List.length_map, hXl, push_cast, ↓trAdd_f, ↓stOf_f, Nat.reduceBEq, Int.reduceBEq, Int.reduceBNe, Int.reduceNeg, Int.reduceAdd, Int.reduceSub, Int.reduceLT, Int.reduceLE, Int.reduceMul, Nat.reducePow, Int.reducePow, Nat.reduceAdd, Nat.reduceEqDiff, Nat.reduceLT, Nat.reduceLeDiff, Nat.reduceMul, Nat.reduceSub, reduceCtorEq, ↓reduceIte]
      refine ⟨⟨by omega, by omega⟩, ⟨by omega, by omega⟩, ⟨by omega, by omega⟩, ?_⟩
      refine callK_simple hdd ?_ rfl fun _ => ?_
      · simp -dsimp -implicitDefEqProofs only [encStream, push_cast, List.mem_append, List.mem_cons, List.mem_singleton, forall_eq_or_imp, forall_eq, ↓trAdd_f, ↓stOf_f, Nat.reduceBEq, Int.reduceBEq, Int.reduceBNe, Int.reduceNeg, Int.reduceAdd, Int.reduceSub, Int.reduceLT, Int.reduceLE, Int.reduceMul, Nat.reducePow, Int.reducePow, Nat.reduceAdd, Nat.reduceEqDiff, Nat.reduceLT, Nat.reduceLeDiff, Nat.reduceMul, Nat.reduceSub, reduceCtorEq, ↓reduceIte]
      simp -dsimp -implicitDefEqProofs only [push_cast, ↓trAdd_f, ↓stOf_f, Nat.reduceBEq, Int.reduceBEq, Int.reduceBNe, Int.reduceNeg, Int.reduceAdd, Int.reduceSub, Int.reduceLT, Int.reduceLE, Int.reduceMul, Nat.reducePow, Int.reducePow, Nat.reduceAdd, Nat.reduceEqDiff, Nat.reduceLT, Nat.reduceLeDiff, Nat.reduceMul, Nat.reduceSub, reduceCtorEq, ↓reduceIte]
      refine ⟨hC _ (by kernel_rfl), ?_⟩
      clear hC C
      try refine hK _ ?_
      repeat (first | refine awp_seq ?_ | refine awp_block ?_ | refine awp_skip ?_ | refine awp_scope ?_ | refine awp_label ?_)
      refine awp_cond (b := decide (until_ ≤ x.due)) (by simp -dsimp -implicitDefEqProofs only [push_cast, ↓trAdd_f, ↓stOf_f, Nat.reduceBEq, Int.reduceBEq, Int.reduceBNe, Int.reduceNeg, Int.reduceAdd, Int.reduceSub, Int.reduceLT, Int.reduceLE, Int.reduceMul, Nat.reducePow, Int.reducePow, Nat.reduceAdd, Nat.reduceEqDiff, Nat.reduceLT, Nat.reduceLeDiff, Nat.reduceMul, Nat.reduceSub, reduceCtorEq, ↓reduceIte]) (fun h => ?_) (fun h => ?_)
      · have hle : until_ ≤ x.due := by simpa using h
        have hst : scanStep now until_ k x r = r := by unfold scanStep; rw [if_pos hle]
        rw [hst] at hsucc
        refine awp_exit rfl ?_
        try refine hK _ ?_
        repeat (first | refine awp_seq ?_ | refine awp_block ?_ | refine awp_skip ?_ | refine awp_scope ?_ | refine awp_label ?_)
        refine awp_region tabOk fun K hK => ?_
        simp -dsimp -implicitDefEqProofs only [push_cast, ↓trAdd_f, ↓stOf_f, Nat.reduceBEq, Int.reduceBEq, Int.reduceBNe, Int.reduceNeg, Int.reduceAdd, Int.reduceSub, Int.reduceLT, Int.reduceLE, Int.reduceMul, Nat.reducePow, Int.reducePow, Nat.reduceAdd, Nat.reduceEqDiff, Nat.reduceLT, Nat.reduceLeDiff, Nat.reduceMul, Nat.reduceSub, reduceCtorEq, ↓reduceIte]
        try simp (disch := omega) only [wrap_i64, wrap_u8, wrap_u16, wrap_u32]
        refine hK _ ⟨k + 1, hlt, by omega, ?_⟩
        rw [hsucc]
        refine le_intro hB [] (by simp) (fun b _ => rfl) rfl ?_ ?_ rfl <;> simp -dsimp -implicitDefEqProofs only [rpI, ren_q, ok_q, ren_l, ok_l, push_cast, ↓trAdd_f, ↓stOf_f, Nat.reduceBEq, Int.reduceBEq, Int.reduceBNe, Int.reduceNeg, Int.reduceAdd, Int.reduceSub, Int.reduceLT, Int.reduceLE, Int.reduceMul, Nat.reducePow, Int.reducePow, Nat.reduceAdd, Nat.reduceEqDiff, Nat.reduceLT, Nat.reduceLeDiff, Nat.reduceMul, Nat.reduceSub, reduceCtorEq, ↓reduceIte]
      · have hle : ¬ until_ ≤ x.due := by simpa using h
        have hon := pinv_on hx p (by rw [← hxk]; exact List.getElem_mem hkX) (show x.on until_ by unfold QS.on; omega)
        refine awp_skip ?_
        try refine hK _ ?_
        repeat (first | refine awp_seq ?_ | refine awp_block ?_ | refine awp_skip ?_ | refine awp_scope ?_ | refine awp_label ?_)
        refine awp_region tabOk fun K hK => ?_
        simp -dsimp -implicitDefEqProofs only [push_cast, ↓trAdd_f, ↓stOf_f, Nat.reduceBEq, Int.reduceBEq, Int.reduceBNe, Int.reduceNeg, Int.reduceAdd, Int.reduceSub, Int.reduceLT, Int.reduceLE, Int.reduceMul, Nat.reducePow, Int.reducePow, Nat.reduceAdd, Nat.reduceEqDiff, Nat.reduceLT, Nat.reduceLeDiff, Nat.reduceMul, Nat.reduceSub, reduceCtorEq, ↓reduceIte]
        try refine hK _ ?_
        repeat (first | refine awp_seq ?_ | refine awp_block ?_ | refine awp_skip ?_ | refine awp_scope ?_ | refine awp_label ?_)
        refine awp_draw tabOk (by kernel_rfl) (by kernel_rfl) fun K hK C hC => ?_
        simp -dsimp -implicitDefEqProofs only [hlt, getD_map, encStream, hls, hgb, hgq, hlq, List.length_map, hXl, push_cast, ↓trAdd_f, ↓stOf_f, Nat.reduceBEq, Int.reduceBEq, Int.reduceBNe, Int.reduceNeg, Int.reduceAdd, Int.reduceSub, Int.reduceLT, Int.reduceLE, Int.reduceMul, Nat.reducePow, Int.reducePow, Nat.reduceAdd, Nat.reduceEqDiff, Nat.reduceLT, Nat.reduceLeDiff, Nat.reduceMul, Nat.reduceSub, reduceCtorEq, ↓reduceIte]
        refine ⟨⟨by omega, by omega⟩, ⟨by omega, by omega⟩, ⟨by omega, by omega⟩, ?_⟩
        refine callK_simple hff ?_ rfl fun _ => ?_
        · simp -dsimp -implicitDefEqProofs only [encStream, push_cast, List.mem_append, List.mem_cons, List.mem_singleton, forall_eq_or_imp, forall_eq, ↓trAdd_f, ↓stOf_f, Nat.reduceBEq, Int.reduceBEq, Int.reduceBNe, Int.reduceNeg, Int.reduceAdd, Int.reduceSub, Int.reduceLT, Int.reduceLE, Int.reduceMul, Nat.reducePow, Int.reducePow, Nat.reduceAdd, Nat.reduceEqDiff, Nat.reduceLT, Nat.reduceLeDiff, Nat.reduceMul, Nat.reduceSub, reduceCtorEq, ↓reduceIte]
        simp -dsimp -implicitDefEqProofs only [push_cast, ↓trAdd_f, ↓stOf_f, Nat.reduceBEq, Int.reduceBEq, Int.reduceBNe, Int.reduceNeg, Int.reduceAdd, Int.reduceSub, Int.reduceLT, Int.reduceLE, Int.reduceMul, Nat.reducePow, Int.reducePow, Nat.reduceAdd, Nat.reduceEqDiff, Nat.reduceLT, Nat.reduceLeDiff, Nat.reduceMul, Nat.reduceSub, reduceCtorEq, ↓reduceIte]
        refine ⟨hC _ (by kernel_rfl), ?_⟩
        clear hC C
        have hst : scanStep now until_ k x r = (true, if r.2.1 = none ∧ x.wts ≤ now then some k else r.2.1, if r.1 = false ∨ x.wts < r.2.2 then x.wts else r.2.2) := by unfold scanStep; rw [if_neg hle]
        rw [hst] at hsucc
        have hsoon0 : r.1 = true → 0 ≤ r.2.2 := fun hl => by
          obtain ⟨⟨i, q1, q2, q3⟩, _⟩ := hsc.soon hl
          have hmi : X.getD i zeroQ ∈ X := by rw [show X.getD i zeroQ = X[i]'(by omega) by simp [List.getD, show i < X.length by omega]]; exact List.getElem_mem _
          have := (pinv_on hx p hmi q2).2.2
          omega
        obtain ⟨left, one, soon⟩ := r
        have hsoon0 : left = true → 0 ≤ soon := hsoon0
        have hs1 : soonZ (left, one, soon) = if left = true then soon else -1 := rfl
        have hs2 : ∀ o sn, soonZ (true, o, sn) = sn := fun _ _ => rfl
        obtain ⟨z, hz⟩ : ∃ z, z = oneZ (if one = none ∧ x.wts ≤ now then some k else one) := ⟨_, rfl⟩
        obtain ⟨y, hy⟩ : ∃ y, y = if left = false ∨ x.wts < soon then x.wts else soon := ⟨_, rfl⟩
        refine hK _ (awp_seq ?_)
        refine awp_join { sl := [(0, .sl false 3 (l.map encStream)), (1, .sl false 1 (bs.map encI)), (2, .int .i64 until_), (8, .own 48 1 0 l.length), (9, .own 72 1 0 l.length), (10, .int .i64 now), (11, .bool true), (12, .int .i64 z), (13, .int .i64 (soonZ (left, one, soon))), (14, .int .i64 k), (15, .int .i64 x.wts)], st := [(48, .row 1 (X.map fun x => encI x.q)), (72, .row 1 (X.map fun x => encI x.late))], nx := 104, n := 152 } ?_ (fun _ hl h => awp_le hl h) ?_
        · cases one with
          | none =>
            try refine hK _ ?_
            repeat (first | refine awp_seq ?_ | refine awp_block ?_ | refine awp_skip ?_ | refine awp_scope ?_ | refine awp_label ?_)
            refine awp_region tabOk fun K hK => ?_
            simp -dsimp -implicitDefEqProofs only [oneZ_n, push_cast, ↓trAdd_f, ↓stOf_f, Nat.reduceBEq, Int.reduceBEq, Int.reduceBNe, Int.reduceNeg, Int.reduceAdd, Int.reduceSub, Int.reduceLT, Int.reduceLE, Int.reduceMul, Nat.reducePow, Int.reducePow, Nat.reduceAdd, Nat.reduceEqDiff, Nat.reduceLT, Nat.reduceLeDiff, Nat.reduceMul, Nat.reduceSub, reduceCtorEq, ↓reduceIte]
            try refine hK _ ?_
            repeat (first | refine awp_seq ?_ | refine awp_block ?_ | refine awp_skip ?_ | refine awp_scope ?_ | refine awp_label ?_)
            refine awp_cond (b := decide (x.wts ≤ now)) (by simp -dsimp -implicitDefEqProofs only [push_cast, ↓trAdd_f, ↓stOf_f, Nat.reduceBEq, Int.reduceBEq, Int.reduceBNe, Int.reduceNeg, Int.reduceAdd, Int.reduceSub, Int.reduceLT, Int.reduceLE, Int.reduceMul, Nat.reducePow, Int.reducePow, Nat.reduceAdd, Nat.reduceEqDiff, Nat.reduceLT, Nat.reduceLeDiff, Nat.reduceMul, Nat.reduceSub, reduceCtorEq, ↓reduceIte]) (fun h => ?_) (fun h => ?_)
            · have e : z = k := by rw [hz, if_pos ⟨rfl, by simpa using h⟩]; rfl
              try refine hK _ ?_
              repeat (first | refine awp_seq ?_ | refine awp_block ?_ | refine awp_skip ?_ | refine awp_scope ?_ | refine awp_label ?_)
              refine awp_region tabOk fun K hK => ?_
              simp -dsimp -implicitDefEqProofs only [push_cast, ↓trAdd_f, ↓stOf_f, Nat.reduceBEq, Int.reduceBEq, Int.reduceBNe, Int.reduceNeg, Int.reduceAdd, Int.reduceSub, Int.reduceLT, Int.reduceLE, Int.reduceMul, Nat.reducePow, Int.reducePow, Nat.reduceAdd, Nat.reduceEqDiff, Nat.reduceLT, Nat.reduceLeDiff, Nat.reduceMul, Nat.reduceSub, reduceCtorEq, ↓reduceIte]
              refine hK _ ?_
              refine le_intro hB [] (by simp) (fun b _ => rfl) rfl ?_ ?_ rfl <;> simp -dsimp -implicitDefEqProofs only [ren_q, ok_q, ren_l, ok_l, e, push_cast, ↓trAdd_f, ↓stOf_f, Nat.reduceBEq, Int.reduceBEq, Int.reduceBNe, Int.reduceNeg, Int.reduceAdd, Int.reduceSub, Int.reduceLT, Int.reduceLE, Int.reduceMul, Nat.reducePow, Int.reducePow, Nat.reduceAdd, Nat.reduceEqDiff, Nat.reduceLT, Nat.reduceLeDiff, Nat.reduceMul, Nat.reduceSub, reduceCtorEq, ↓reduceIte]
            · have e : z = -1 := by rw [hz, if_neg (by simp at h; simp; omega)]; rfl
              refine awp_skip ?_
              refine le_intro hB [] (by simp) (fun b _ => rfl) rfl ?_ ?_ rfl <;> simp -dsimp -implicitDefEqProofs only [ren_q, ok_q, ren_l, ok_l, e, oneZ_n, push_cast, ↓trAdd_f, ↓stOf_f, Nat.reduceBEq, Int.reduceBEq, Int.reduceBNe, Int.reduceNeg, Int.reduceAdd, Int.reduceSub, Int.reduceLT, Int.reduceLE, Int.reduceMul, Nat.reducePow, Int.reducePow, Nat.reduceAdd, Nat.reduceEqDiff, Nat.reduceLT, Nat.reduceLeDiff, Nat.reduceMul, Nat.reduceSub, reduceCtorEq, ↓reduceIte]
          | some j =>
            have e : z = j := by rw [hz, if_neg (by simp)]; rfl
            have hneg : decide ((j : Int) < 0) = false := by simp
            try refine hK _ ?_
            repeat (first | refine awp_seq ?_ | refine awp_block ?_ | refine awp_skip ?_ | refine awp_scope ?_ | refine awp_label ?_)
            refine awp_region tabOk fun K hK => ?_
            simp -dsimp -implicitDefEqProofs only [oneZ_s, hneg, push_cast, ↓trAdd_f, ↓stOf_f, Nat.reduceBEq, Int.reduceBEq, Int.reduceBNe, Int.reduceNeg, Int.reduceAdd, Int.reduceSub, Int.reduceLT, Int.reduceLE, Int.reduceMul, Nat.reducePow, Int.reducePow, Nat.reduceAdd, Nat.reduceEqDiff, Nat.reduceLT, Nat.reduceLeDiff, Nat.reduceMul, Nat.reduceSub, reduceCtorEq, ↓reduceIte]
            try refine hK _ ?_
            repeat (first | refine awp_seq ?_ | refine awp_block ?_ | refine awp_skip ?_ | refine awp_scope ?_ | refine awp_label ?_)
            refine awp_cond (b := false) (by simp -dsimp -implicitDefEqProofs only [push_cast, ↓trAdd_f, ↓stOf_f, Nat.reduceBEq, Int.reduceBEq, Int.reduceBNe, Int.reduceNeg, Int.reduceAdd, Int.reduceSub, Int.reduceLT, Int.reduceLE, Int.reduceMul, Nat.reducePow, Int.reducePow, Nat.reduceAdd, Nat.reduceEqDiff, Nat.reduceLT, Nat.reduceLeDiff, Nat.reduceMul, Nat.reduceSub, reduceCtorEq, ↓reduceIte]) (fun h => ?_) (fun h => ?_)
            · simp at h
            refine awp_skip ?_
            refine le_intro hB [] (by simp) (fun b _ => rfl) rfl ?_ ?_ rfl <;> simp -dsimp -implicitDefEqProofs only [ren_q, ok_q, ren_l, ok_l, e, oneZ_s, push_cast, ↓trAdd_f, ↓stOf_f, Nat.reduceBEq, Int.reduceBEq, Int.reduceBNe, Int.reduceNeg, Int.reduceAdd, Int.reduceSub, Int.reduceLT, Int.reduceLE, Int.reduceMul, Nat.reducePow, Int.reducePow, Nat.reduceAdd, Nat.reduceEqDiff, Nat.reduceLT, Nat.reduceLeDiff, Nat.reduceMul, Nat.reduceSub, reduceCtorEq, ↓reduceIte]
        refine awp_join { sl := [(0, .sl false 3 (l.map encStream)), (1, .sl false 1 (bs.map encI)), (2, .int .i64 until_), (8, .own 48 1 0 l.length), (9, .own 72 1 0 l.length), (10, .int .i64 now), (11, .bool true), (12, .int .i64 z), (13, .int .i64 y), (14, .int .i64 k)], st := [(48, .row 1 (X.map fun x => encI x.q)), (72, .row 1 (X.map fun x => encI x.late))], nx := 104, n := 152 } ?_ (fun _ hl h => awp_le hl h) ?_
        · cases left with
          | false =>
            have e : y = x.wts := by rw [hy, if_pos (.inl rfl)]
            rw [if_neg (by simp)] at hs1
            rw [hs1]
            try refine hK _ ?_
            repeat (first | refine awp_seq ?_ | refine awp_block ?_ | refine awp_skip ?_ | refine awp_scope ?_ | refine awp_label ?_)
            refine awp_region tabOk fun K hK => ?_
            simp -dsimp -implicitDefEqProofs only [push_cast, ↓trAdd_f, ↓stOf_f, Nat.reduceBEq, Int.reduceBEq, Int.reduceBNe, Int.reduceNeg, Int.reduceAdd, Int.reduceSub, Int.reduceLT, Int.reduceLE, Int.reduceMul, Nat.reducePow, Int.reducePow, Nat.reduceAdd, Nat.reduceEqDiff, Nat.reduceLT, Nat.reduceLeDiff, Nat.reduceMul, Nat.reduceSub, reduceCtorEq, ↓reduceIte]
            try refine hK _ ?_
            repeat (first | refine awp_seq ?_ | refine awp_block ?_ | refine awp_skip ?_ | refine awp_scope ?_ | refine awp_label ?_)
            refine awp_cond (b := true) (by simp -dsimp -implicitDefEqProofs only [push_cast, ↓trAdd_f, ↓stOf_f, Nat.reduceBEq, Int.reduceBEq, Int.reduceBNe, Int.reduceNeg, Int.reduceAdd, Int.reduceSub, Int.reduceLT, Int.reduceLE, Int.reduceMul, Nat.reducePow, Int.reducePow, Nat.reduceAdd, Nat.reduceEqDiff, Nat.reduceLT, Nat.reduceLeDiff, Nat.reduceMul, Nat.reduceSub, reduceCtorEq, ↓reduceIte]) (fun h => ?_) (fun h => ?_)
            · try refine hK _ ?_
              repeat (first | refine awp_seq ?_ | refine awp_block ?_ | refine awp_skip ?_ | refine awp_scope ?_ | refine awp_label ?_)
              refine awp_region tabOk fun K hK => ?_
              simp -dsimp -implicitDefEqProofs only [push_cast, ↓trAdd_f, ↓stOf_f, Nat.reduceBEq, Int.reduceBEq, Int.reduceBNe, Int.reduceNeg, Int.reduceAdd, Int.reduceSub, Int.reduceLT, Int.reduceLE, Int.reduceMul, Nat.reducePow, Int.reducePow, Nat.reduceAdd, Nat.reduceEqDiff, Nat.reduceLT, Nat.reduceLeDiff, Nat.reduceMul, Nat.reduceSub, reduceCtorEq, ↓reduceIte]
              refine hK _ ?_
              refine le_intro hB [] (by simp) (fun b _ => rfl) rfl ?_ ?_ rfl <;> simp -dsimp -implicitDefEqProofs only [ren_q, ok_q, ren_l, ok_l, e, push_cast, ↓trAdd_f, ↓stOf_f, Nat.reduceBEq, Int.reduceBEq, Int.reduceBNe, Int.reduceNeg, Int.reduceAdd, Int.reduceSub, Int.reduceLT, Int.reduceLE, Int.reduceMul, Nat.reducePow, Int.reducePow, Nat.reduceAdd, Nat.reduceEqDiff, Nat.reduceLT, Nat.reduceLeDiff, Nat.reduceMul, Nat.reduceSub, reduceCtorEq, ↓reduceIte]
            · simp at h
          | true =>
            have hneg : decide (soon < 0) = false := by have := hsoon0 rfl; simp; omega
            rw [if_pos rfl] at hs1
            rw [hs1]
            try refine hK _ ?_
            repeat (first | refine awp_seq ?_ | refine awp_block ?_ | refine awp_skip ?_ | refine awp_scope ?_ | refine awp_label ?_)
            refine awp_region tabOk fun K hK => ?_
            simp -dsimp -implicitDefEqProofs only [hneg, push_cast, ↓trAdd_f, ↓stOf_f, Nat.reduceBEq, Int.reduceBEq, Int.reduceBNe, Int.reduceNeg, Int.reduceAdd, Int.reduceSub, Int.reduceLT, Int.reduceLE, Int.reduceMul, Nat.reducePow, Int.reducePow, Nat.reduceAdd, Nat.reduceEqDiff, Nat.reduceLT, Nat.reduceLeDiff, Nat.reduceMul, Nat.reduceSub, reduceCtorEq, ↓reduceIte]
            try refine hK _ ?_
            repeat (first | refine awp_seq ?_ | refine awp_block ?_ | refine awp_skip ?_ | refine awp_scope ?_ | refine awp_label ?_)
            refine awp_cond (b := decide (x.wts < soon)) (by simp -dsimp -implicitDefEqProofs only [push_cast, ↓trAdd_f, ↓stOf_f, Nat.reduceBEq, Int.reduceBEq, Int.reduceBNe, Int.reduceNeg, Int.reduceAdd, Int.reduceSub, Int.reduceLT, Int.reduceLE, Int.reduceMul, Nat.reducePow, Int.reducePow, Nat.reduceAdd, Nat.reduceEqDiff, Nat.reduceLT, Nat.reduceLeDiff, Nat.reduceMul, Nat.reduceSub, reduceCtorEq, ↓reduceIte]) (fun h => ?_) (fun h => ?_)
            · have e : y = x.wts := by rw [hy, if_pos (.inr (by simpa using h))]
              try refine hK _ ?_
              repeat (first | refine awp_seq ?_ | refine awp_block ?_ | refine awp_skip ?_ | refine awp_scope ?_ | refine awp_label ?_)
              refine awp_region tabOk fun K hK => ?_
              simp -dsimp -implicitDefEqProofs only [push_cast, ↓trAdd_f, ↓stOf_f, Nat.reduceBEq, Int.reduceBEq, Int.reduceBNe, Int.reduceNeg, Int.reduceAdd, Int.reduceSub, Int.reduceLT, Int.reduceLE, Int.reduceMul, Nat.reducePow, Int.reducePow, Nat.reduceAdd, Nat.reduceEqDiff, Nat.reduceLT, Nat.reduceLeDiff, Nat.reduceMul, Nat.reduceSub, reduceCtorEq, ↓reduceIte]
              refine hK _ ?_
              refine le_intro hB [] (by simp) (fun b _ => rfl) rfl ?_ ?_ rfl <;> simp -dsimp -implicitDefEqProofs only [ren_q, ok_q, ren_l, ok_l, e, push_cast, ↓trAdd_f, ↓stOf_f, Nat.reduceBEq, Int.reduceBEq, Int.reduceBNe, Int.reduceNeg, Int.reduceAdd, Int.reduceSub, Int.reduceLT, Int.reduceLE, Int.reduceMul, Nat.reducePow, Int.reducePow, Nat.reduceAdd, Nat.reduceEqDiff, Nat.reduceLT, Nat.reduceLeDiff, Nat.reduceMul, Nat.reduceSub, reduceCtorEq, ↓reduceIte]
            · have e : y = soon := by rw [hy, if_neg (by simp at h; simp; omega)]
              refine awp_skip ?_
              refine le_intro hB [] (by simp) (fun b _ => rfl) rfl ?_ ?_ rfl <;> simp -dsimp -implicitDefEqProofs only [ren_q, ok_q, ren_l, ok_l, e, push_cast, ↓trAdd_f, ↓stOf_f, Nat.reduceBEq, Int.reduceBEq, Int.reduceBNe, Int.reduceNeg, Int.reduceAdd, Int.reduceSub, Int.reduceLT, Int.reduceLE, Int.reduceMul, Nat.reducePow, Int.reducePow, Nat.reduceAdd, Nat.reduceEqDiff, Nat.reduceLT, Nat.reduceLeDiff, Nat.reduceMul, Nat.reduceSub, reduceCtorEq, ↓reduceIte]
        try refine hK _ ?_
        repeat (first | refine awp_seq ?_ | refine awp_block ?_ | refine awp_skip ?_ | refine awp_scope ?_ | refine awp_label ?_)
        refine awp_region tabOk fun K hK => ?_
        simp -dsimp -implicitDefEqProofs only [push_cast, ↓trAdd_f, ↓stOf_f, Nat.reduceBEq, Int.reduceBEq, Int.reduceBNe, Int.reduceNeg, Int.reduceAdd, Int.reduceSub, Int.reduceLT, Int.reduceLE, Int.reduceMul, Nat.reducePow, Int.reducePow, Nat.reduceAdd, Nat.reduceEqDiff, Nat.reduceLT, Nat.reduceLeDiff, Nat.reduceMul, Nat.reduceSub, reduceCtorEq, ↓reduceIte]
        try simp (disch := omega) only [wrap_i64, wrap_u8, wrap_u16, wrap_u32]
        refine hK _ ⟨k + 1, hlt, by omega, ?_⟩
        rw [hsucc]
        simp only [rpI, hs2, ← hz, ← hy]
        refine le_intro hB [] (by simp) (fun b _ => rfl) rfl ?_ ?_ rfl <;> simp -dsimp -implicitDefEqProofs only [ren_q, ok_q, ren_l, ok_l, push_cast, ↓trAdd_f, ↓stOf_f, Nat.reduceBEq, Int.reduceBEq, Int.reduceBNe, Int.reduceNeg, Int.reduceAdd, Int.reduceSub, Int.reduceLT, Int.reduceLE, Int.reduceMul, Nat.reducePow, Int.reducePow, Nat.reduceAdd, Nat.reduceEqDiff, Nat.reduceLT, Nat.reduceLeDiff, Nat.reduceMul, Nat.reduceSub, reduceCtorEq, ↓reduceIte]
    · have he : k = l.length := by simp at h; omega
      have hd := hdone he
      subst he
      rw [hd]
      refine awp_exit rfl ?_
      refine le_intro hB [] (by simp) (fun b _ => rfl) rfl ?_ ?_ rfl <;> simp -dsimp -implicitDefEqProofs only [rpI, ren_q, ok_q, ren_l, ok_l, push_cast, ↓trAdd_f, ↓stOf_f, Nat.reduceBEq, Int.reduceBEq, Int.reduceBNe, Int.reduceNeg, Int.reduceAdd, Int.reduceSub, Int.reduceLT, Int.reduceLE, Int.reduceMul, Nat.reducePow, Int.reducePow, Nat.reduceAdd, Nat.reduceEqDiff, Nat.reduceLT, Nat.reduceLeDiff, Nat.reduceMul, Nat.reduceSub, reduceCtorEq, ↓reduceIte]
  have hsp := scan_spec now until_ X
  have hjump := fun hl hn => pinv_jump hx p hl hn
  have hsend := fun j hj => pinv_send hx p (j := j) hj
  have hpd := fun h => playN_done (n := n) (now := now) (until_ := until_) (X := X) h
  have hsame := hx.same
  generalize hr : scan now until_ X = r at *
  obtain ⟨left, one, soon⟩ := r
  simp only [rpI]
  simp only at hpd hjump hsend
  cases left with
  | false =>
    rw [hpd rfl] at hsame
    try refine hK _ ?_
    repeat (first | refine awp_seq ?_ | refine awp_block ?_ | refine awp_skip ?_ | refine awp_scope ?_ | refine awp_label ?_)
    refine awp_region tabOk fun K hK => ?_
    simp -dsimp -implicitDefEqProofs only [push_cast, ↓trAdd_f, ↓stOf_f, Nat.reduceBEq, Int.reduceBEq, Int.reduceBNe, Int.reduceNeg, Int.reduceAdd, Int.reduceSub, Int.reduceLT, Int.reduceLE, Int.reduceMul, Nat.reducePow, Int.reducePow, Nat.reduceAdd, Nat.reduceEqDiff, Nat.reduceLT, Nat.reduceLeDiff, Nat.reduceMul, Nat.reduceSub, reduceCtorEq, ↓reduceIte]
    try refine hK _ ?_
    repeat (first | refine awp_seq ?_ | refine awp_block ?_ | refine awp_skip ?_ | refine awp_scope ?_ | refine awp_label ?_)
    refine awp_cond (b := true) (by simp -dsimp -implicitDefEqProofs only [push_cast, ↓trAdd_f, ↓stOf_f, Nat.reduceBEq, Int.reduceBEq, Int.reduceBNe, Int.reduceNeg, Int.reduceAdd, Int.reduceSub, Int.reduceLT, Int.reduceLE, Int.reduceMul, Nat.reducePow, Int.reducePow, Nat.reduceAdd, Nat.reduceEqDiff, Nat.reduceLT, Nat.reduceLeDiff, Nat.reduceMul, Nat.reduceSub, reduceCtorEq, ↓reduceIte]) (fun h => ?_) (fun h => ?_)
    · try refine hK _ ?_
      repeat (first | refine awp_seq ?_ | refine awp_block ?_ | refine awp_skip ?_ | refine awp_scope ?_ | refine awp_label ?_)
      refine awp_region tabOk fun K hK => ?_
      simp -dsimp -implicitDefEqProofs only [push_cast, ↓trAdd_f, ↓stOf_f, Nat.reduceBEq, Int.reduceBEq, Int.reduceBNe, Int.reduceNeg, Int.reduceAdd, Int.reduceSub, Int.reduceLT, Int.reduceLE, Int.reduceMul, Nat.reducePow, Int.reducePow, Nat.reduceAdd, Nat.reduceEqDiff, Nat.reduceLT, Nat.reduceLeDiff, Nat.reduceMul, Nat.reduceSub, reduceCtorEq, ↓reduceIte]
      refine hK _ (awp_ret ?_)
      have e2 : (X.map fun x => encI x.late).take l.length = X.map fun x => encI x.late := List.take_of_length_le (by simp [hXl])
      have e3 : ((playN until_ fuel0 0 (play0 l bs)).map (·.late)).map encI = X.map fun x => encI x.late := by rw [← hsame, List.map_map]; rfl
      rw [e3]
      simp -dsimp -implicitDefEqProofs only [e2, fz_l, List.length_map, hXl, push_cast, List.mem_append, List.mem_cons, List.mem_singleton, forall_eq_or_imp, forall_eq, ↓trAdd_f, ↓stOf_f, Nat.reduceBEq, Int.reduceBEq, Int.reduceBNe, Int.reduceNeg, Int.reduceAdd, Int.reduceSub, Int.reduceLT, Int.reduceLE, Int.reduceMul, Nat.reducePow, Int.reducePow, Nat.reduceAdd, Nat.reduceEqDiff, Nat.reduceLT, Nat.reduceLeDiff, Nat.reduceMul, Nat.reduceSub, reduceCtorEq, ↓reduceIte]
    · simp at h
  | true =>
    try refine hK _ ?_
    repeat (first | refine awp_seq ?_ | refine awp_block ?_ | refine awp_skip ?_ | refine awp_scope ?_ | refine awp_label ?_)
    refine awp_region tabOk fun K hK => ?_
    simp -dsimp -implicitDefEqProofs only [push_cast, ↓trAdd_f, ↓stOf_f, Nat.reduceBEq, Int.reduceBEq, Int.reduceBNe, Int.reduceNeg, Int.reduceAdd, Int.reduceSub, Int.reduceLT, Int.reduceLE, Int.reduceMul, Nat.reducePow, Int.reducePow, Nat.reduceAdd, Nat.reduceEqDiff, Nat.reduceLT, Nat.reduceLeDiff, Nat.reduceMul, Nat.reduceSub, reduceCtorEq, ↓reduceIte]
    try refine hK _ ?_
    repeat (first | refine awp_seq ?_ | refine awp_block ?_ | refine awp_skip ?_ | refine awp_scope ?_ | refine awp_label ?_)
    refine awp_cond (b := false) (by simp -dsimp -implicitDefEqProofs only [push_cast, ↓trAdd_f, ↓stOf_f, Nat.reduceBEq, Int.reduceBEq, Int.reduceBNe, Int.reduceNeg, Int.reduceAdd, Int.reduceSub, Int.reduceLT, Int.reduceLE, Int.reduceMul, Nat.reducePow, Int.reducePow, Nat.reduceAdd, Nat.reduceEqDiff, Nat.reduceLT, Nat.reduceLeDiff, Nat.reduceMul, Nat.reduceSub, reduceCtorEq, ↓reduceIte]) (fun h => ?_) (fun h => ?_)
    · simp at h
    clear h
    refine awp_skip ?_
    cases one with
    | none =>
      obtain ⟨hP, hn1, hgt⟩ := hjump rfl rfl
      try refine hK _ ?_
      repeat (first | refine awp_seq ?_ | refine awp_block ?_ | refine awp_skip ?_ | refine awp_scope ?_ | refine awp_label ?_)
      refine awp_region tabOk fun K hK => ?_
      simp -dsimp -implicitDefEqProofs only [oneZ_n, push_cast, ↓trAdd_f, ↓stOf_f, Nat.reduceBEq, Int.reduceBEq, Int.reduceBNe, Int.reduceNeg, Int.reduceAdd, Int.reduceSub, Int.reduceLT, Int.reduceLE, Int.reduceMul, Nat.reducePow, Int.reducePow, Nat.reduceAdd, Nat.reduceEqDiff, Nat.reduceLT, Nat.reduceLeDiff, Nat.reduceMul, Nat.reduceSub, reduceCtorEq, ↓reduceIte]
      try refine hK _ ?_
      repeat (first | refine awp_seq ?_ | refine awp_block ?_ | refine awp_skip ?_ | refine awp_scope ?_ | refine awp_label ?_)
      refine awp_cond (b := true) (by simp -dsimp -implicitDefEqProofs only [push_cast, ↓trAdd_f, ↓stOf_f, Nat.reduceBEq, Int.reduceBEq, Int.reduceBNe, Int.reduceNeg, Int.reduceAdd, Int.reduceSub, Int.reduceLT, Int.reduceLE, Int.reduceMul, Nat.reducePow, Int.reducePow, Nat.reduceAdd, Nat.reduceEqDiff, Nat.reduceLT, Nat.reduceLeDiff, Nat.reduceMul, Nat.reduceSub, reduceCtorEq, ↓reduceIte]) (fun h => ?_) (fun h => ?_)
      · try refine hK _ ?_
        repeat (first | refine awp_seq ?_ | refine awp_block ?_ | refine awp_skip ?_ | refine awp_scope ?_ | refine awp_label ?_)
        refine awp_region tabOk fun K hK => ?_
        simp -dsimp -implicitDefEqProofs only [push_cast, ↓trAdd_f, ↓stOf_f, Nat.reduceBEq, Int.reduceBEq, Int.reduceBNe, Int.reduceNeg, Int.reduceAdd, Int.reduceSub, Int.reduceLT, Int.reduceLE, Int.reduceMul, Nat.reducePow, Int.reducePow, Nat.reduceAdd, Nat.reduceEqDiff, Nat.reduceLT, Nat.reduceLeDiff, Nat.reduceMul, Nat.reduceSub, reduceCtorEq, ↓reduceIte]
        have hsz : soonZ (true, none, soon) = soon := rfl
        refine hK _ (awp_exit rfl ⟨(n, soon, X), hP, by show n < n + 1; omega, ?_⟩)
        simp only [rpS]
        refine le_intro hB [] (by simp) (fun b _ => rfl) rfl ?_ ?_ rfl <;> simp -dsimp -implicitDefEqProofs only [ren_q, ok_q, ren_l, ok_l, hsz, push_cast, ↓trAdd_f, ↓stOf_f, Nat.reduceBEq, Int.reduceBEq, Int.reduceBNe, Int.reduceNeg, Int.reduceAdd, Int.reduceSub, Int.reduceLT, Int.reduceLE, Int.reduceMul, Nat.reducePow, Int.reducePow, Nat.reduceAdd, Nat.reduceEqDiff, Nat.reduceLT, Nat.reduceLeDiff, Nat.reduceMul, Nat.reduceSub, reduceCtorEq, ↓reduceIte]
      · simp at h
    | some j =>
      obtain ⟨hP, hn1, hjX⟩ := hsend j rfl
      have hneg : decide ((j : Int) < 0) = false := by simp
      try refine hK _ ?_
      repeat (first | refine awp_seq ?_ | refine awp_block ?_ | refine awp_skip ?_ | refine awp_scope ?_ | refine awp_label ?_)
      refine awp_region tabOk fun K hK => ?_
      simp -dsimp -implicitDefEqProofs only [oneZ_s, hneg, push_cast, ↓trAdd_f, ↓stOf_f, Nat.reduceBEq, Int.reduceBEq, Int.reduceBNe, Int.reduceNeg, Int.reduceAdd, Int.reduceSub, Int.reduceLT, Int.reduceLE, Int.reduceMul, Nat.reducePow, Int.reducePow, Nat.reduceAdd, Nat.reduceEqDiff, Nat.reduceLT, Nat.reduceLeDiff, Nat.reduceMul, Nat.reduceSub, reduceCtorEq, ↓reduceIte]
      try refine hK _ ?_
      repeat (first | refine awp_seq ?_ | refine awp_block ?_ | refine awp_skip ?_ | refine awp_scope ?_ | refine awp_label ?_)
      refine awp_cond (b := false) (by simp -dsimp -implicitDefEqProofs only [push_cast, ↓trAdd_f, ↓stOf_f, Nat.reduceBEq, Int.reduceBEq, Int.reduceBNe, Int.reduceNeg, Int.reduceAdd, Int.reduceSub, Int.reduceLT, Int.reduceLE, Int.reduceMul, Nat.reducePow, Int.reducePow, Nat.reduceAdd, Nat.reduceEqDiff, Nat.reduceLT, Nat.reduceLeDiff, Nat.reduceMul, Nat.reduceSub, reduceCtorEq, ↓reduceIte]) (fun h => ?_) (fun h => ?_)
      · simp at h
      clear h
      refine awp_skip ?_
      have hjl : j < l.length := by omega
      have hjb : j < bs.length := by omega
      have hm : X[j] ∈ X := List.getElem_mem hjX
      have hok := hx.okq p hm
      have hls : l[j] = X[j].s := by simp only [← hx.ss, List.getElem_map]
      have hbs : bs[j] = X[j].b := by simp only [← hx.bb, List.getElem_map]
      have hla := hx.late _ hm
      have hqq := hx.q _ hm
      have hgq := qs_row X j hjX
      have hgl := late_row X j hjX
      have hlq : (X.map fun x => encI x.q).length = l.length := by simp [hXl]
      have hll : (X.map fun x => encI x.late).length = l.length := by simp [hXl]
      have hgb : (bs.map encI).getD j [] = [.int .i64 bs[j]] := by rw [getD_map _ _ _ hjb]; rfl
      have hgX : X.getD j zeroQ = X[j] := by simp [List.getD, hjX]
      rw [hgX] at hP
      have hr1 : (sendAt j (now + X[j].s.bits) X).map (fun x => encI x.late) = (X.map fun x => encI x.late).set j [.int .i64 (max X[j].late (now + X[j].s.bits - X[j].due))] := by
        unfold sendAt; rw [List.map_set, hgX]; rfl
      have hr2 : (sendAt j (now + X[j].s.bits) X).map (fun x => encI x.q) = (X.map fun x => encI x.q).set j [.int .i64 ((X[j].q : Int) + 1)] := by
        unfold sendAt; rw [List.map_set, hgX]; rfl
      have hlen2 : (sendAt j (now + X[j].s.bits) X).length = l.length := by unfold sendAt; simp [hXl]
      generalize sendAt j (now + X[j].s.bits) X = Y at *
      rw [hbs] at hgb
      generalize hxj : X[j] = x at *
      have hb1 := hok.s.1
      have hb2 := hok.s.2.1
      have hdue := hok.due
      have hw1 : IntKind.i64.wrap (now + x.s.bits) = now + x.s.bits := wrap_i64 (by omega) (by omega)
      have hw2 : IntKind.i64.wrap (now + x.s.bits - x.due) = now + x.s.bits - x.due := wrap_i64 (by omega) (by omega)
      have hw3 : IntKind.i64.wrap ((x.q : Int) + 1) = (x.q : Int) + 1 := wrap_i64 (by omega) (by omega)
      have hdd := due_ok x.s x.b x.q hok.s hok.b hok.q
      have e1 : dueZ x.s x.b x.q = x.due := rfl
      rw [e1] at hdd
      try refine hK _ ?_
      repeat (first | refine awp_seq ?_ | refine awp_block ?_ | refine awp_skip ?_ | refine awp_scope ?_ | refine awp_label ?_)
      refine awp_region tabOk fun K hK => ?_
      simp -dsimp -implicitDefEqProofs only [hjl, getD_map, encStream, hls, hw1, push_cast, ↓trAdd_f, ↓stOf_f, Nat.reduceBEq, Int.reduceBEq, Int.reduceBNe, Int.reduceNeg, Int.reduceAdd, Int.reduceSub, Int.reduceLT, Int.reduceLE, Int.reduceMul, Nat.reducePow, Int.reducePow, Nat.reduceAdd, Nat.reduceEqDiff, Nat.reduceLT, Nat.reduceLeDiff, Nat.reduceMul, Nat.reduceSub, reduceCtorEq, ↓reduceIte]
      refine ⟨⟨by omega, by omega⟩, ?_⟩
      try refine hK _ ?_
      repeat (first | refine awp_seq ?_ | refine awp_block ?_ | refine awp_skip ?_ | refine awp_scope ?_ | refine awp_label ?_)
      refine awp_draw tabOk (by kernel_rfl) (by kernel_rfl) fun K hK C hC => ?_
      simp -dsimp -implicitDefEqProofs only [hjl, getD_map, encStream, hls, hgb, hgl, hgq, hlq, hll, List.length_map, hXl, push_cast, ↓trAdd_f, ↓stOf_f, Nat.reduceBEq, Int.reduceBEq, Int.reduceBNe, Int.reduceNeg, Int.reduceAdd, Int.reduceSub, Int.reduceLT, Int.reduceLE, Int.reduceMul, Nat.reducePow, Int.reducePow, Nat.reduceAdd, Nat.reduceEqDiff, Nat.reduceLT, Nat.reduceLeDiff, Nat.reduceMul, Nat.reduceSub, reduceCtorEq, ↓reduceIte]
      refine ⟨⟨by omega, by omega⟩, ⟨by omega, by omega⟩, ⟨by omega, by omega⟩, ⟨by omega, by omega⟩, ?_⟩
      refine callK_simple hdd ?_ rfl fun _ => ?_
      · simp -dsimp -implicitDefEqProofs only [encStream, push_cast, List.mem_append, List.mem_cons, List.mem_singleton, forall_eq_or_imp, forall_eq, ↓trAdd_f, ↓stOf_f, Nat.reduceBEq, Int.reduceBEq, Int.reduceBNe, Int.reduceNeg, Int.reduceAdd, Int.reduceSub, Int.reduceLT, Int.reduceLE, Int.reduceMul, Nat.reducePow, Int.reducePow, Nat.reduceAdd, Nat.reduceEqDiff, Nat.reduceLT, Nat.reduceLeDiff, Nat.reduceMul, Nat.reduceSub, reduceCtorEq, ↓reduceIte]
      simp -dsimp -implicitDefEqProofs only [hw2, hXl, List.length_map, hgl, push_cast, ↓trAdd_f, ↓stOf_f, Nat.reduceBEq, Int.reduceBEq, Int.reduceBNe, Int.reduceNeg, Int.reduceAdd, Int.reduceSub, Int.reduceLT, Int.reduceLE, Int.reduceMul, Nat.reducePow, Int.reducePow, Nat.reduceAdd, Nat.reduceEqDiff, Nat.reduceLT, Nat.reduceLeDiff, Nat.reduceMul, Nat.reduceSub, reduceCtorEq, ↓reduceIte]
      rw [← hr1]
      refine ⟨⟨by omega, by omega⟩, by omega, hC _ (by kernel_rfl), hK _ ?_⟩
      clear hC C
      try refine hK _ ?_
      repeat (first | refine awp_seq ?_ | refine awp_block ?_ | refine awp_skip ?_ | refine awp_scope ?_ | refine awp_label ?_)
      refine awp_region tabOk fun K hK => ?_
      simp -dsimp -implicitDefEqProofs only [hgq, hlq, hw3, List.length_map, hXl, push_cast, ↓trAdd_f, ↓stOf_f, Nat.reduceBEq, Int.reduceBEq, Int.reduceBNe, Int.reduceNeg, Int.reduceAdd, Int.reduceSub, Int.reduceLT, Int.reduceLE, Int.reduceMul, Nat.reducePow, Int.reducePow, Nat.reduceAdd, Nat.reduceEqDiff, Nat.reduceLT, Nat.reduceLeDiff, Nat.reduceMul, Nat.reduceSub, reduceCtorEq, ↓reduceIte]
      rw [← hr2]
      refine ⟨⟨by omega, by omega⟩, by omega, ⟨by omega, by omega⟩, by omega, ?_⟩
      refine hK _ ⟨(n, now + x.s.bits, Y), hP, by show n < n + 1; omega, ?_⟩
      simp only [rpS]
      refine le_intro hB [] (by simp) (fun b _ => rfl) rfl ?_ ?_ rfl <;> simp -dsimp -implicitDefEqProofs only [ren_q, ok_q, ren_l, ok_l, push_cast, ↓trAdd_f, ↓stOf_f, Nat.reduceBEq, Int.reduceBEq, Int.reduceBNe, Int.reduceNeg, Int.reduceAdd, Int.reduceSub, Int.reduceLT, Int.reduceLE, Int.reduceMul, Nat.reducePow, Int.reducePow, Nat.reduceAdd, Nat.reduceEqDiff, Nat.reduceLT, Nat.reduceLeDiff, Nat.reduceMul, Nat.reduceSub, reduceCtorEq, ↓reduceIte]
end Go.Proofs.YtahkpghgjjlgdaaFw

/-
  Walks: choose, of 2 queues.
-/
namespace Go.Proofs.YtahkpghgjjlgdaaFw
open Go Go.Proofs
set_option maxRecDepth 100000
set_option maxHeartbeats 16000000
set_option linter.unusedVariables false
set_option linter.unusedSimpArgs false
theorem tn1 : Int.toNat 1 = 1 := rfl
theorem tn2 : Int.toNat 2 = 2 := rfl
theorem tn3 : Int.toNat 3 = 3 := rfl
theorem tn4 : Int.toNat 4 = 4 := rfl
theorem tn5 : Int.toNat 5 = 5 := rfl
def oneP : Option Nat → PV
  | none => .nilp
  | some j => .ptr j 0
theorem oneP_facts {one : Option Nat} {k m : Nat} {w : PV} (h : ∀ j, one = some j → j < k) (hw : w = oneP one) (hk : k ≤ m) : (w.ren (renG []) = w) ∧ (w.ok (· < m) = True) ∧ (wk w w = True) := by
  subst hw
  cases one with
  | none => exact ⟨rfl, eq_true (by simp [oneP, PV.ok]), eq_true (by simp [oneP, wk, wkA, wkC])⟩
  | some j =>
    have := h j rfl
    exact ⟨rfl, eq_true (by simp [oneP, PV.ok]; omega), eq_true (by simp [oneP, wk, wkA, wkC])⟩


theorem choose2_ok (x0 x1 : QS) (now until_ : Int) : FnS Try.prog 33 [.own 2 1 0 2, .int .i64 now, .int .i64 until_] [(0, .box (encQ x0)), (1, .box (encQ x1)), (2, .row 1 [[.ptr 0 0], [.ptr 1 0]])]
    (.tup [oneP (scan now until_ [x0, x1]).2.1, .int .i64 (scan now until_ [x0, x1]).2.2, .bool (scan now until_ [x0, x1]).1]) [(0, .box (encQ x0)), (1, .box (encQ x1)), (2, .row 1 [[.ptr 0 0], [.ptr 1 0]])] := by
  refine fn_walkP tabOk Try.func33 rfl (by decide +kernel) Try.ntmps33 Try.results33 (by simp) fun B hB => ?_
  try simp only [encQ]
  try refine hK _ ?_
  repeat (first | refine awp_seq ?_ | refine awp_block ?_ | refine awp_skip ?_ | refine awp_scope ?_ | refine awp_label ?_)
  refine awp_region tabOk fun K hK => ?_
  simp -dsimp -implicitDefEqProofs only [push_cast, ↓trAdd_f, ↓stOf_f, seval]
  try refine hK _ ?_
  repeat (first | refine awp_seq ?_ | refine awp_block ?_ | refine awp_skip ?_ | refine awp_scope ?_ | refine awp_label ?_)
  refine awp_region tabOk fun K hK => ?_
  simp -dsimp -implicitDefEqProofs only [push_cast, ↓trAdd_f, ↓stOf_f, seval]
  refine hK _ (awp_block ?_)
  refine awp_for (fun k : Nat => { sl := [(0, .own 2 1 0 2), (1, .int .i64 now), (2, .int .i64 until_), (6, oneP (scanN now until_ [x0, x1] k).2.1), (7, .int .i64 (scanN now until_ [x0, x1] k).2.2), (8, .bool (scanN now until_ [x0, x1] k).1), (11, .own 2 1 0 2), (12, .int .i64 2), (13, .int .i64 k)], st := [(0, .box (encQ x0)), (1, .box (encQ x1)), (2, .row 1 [[.ptr 0 0], [.ptr 1 0]])], nx := 40, n := 52 }) (fun k => k ≤ 2) (fun k => 2 - k) 0 (Nat.zero_le _) ?_ fun k hk => ?_
  · have e0 : scanN now until_ [x0, x1] 0 = (false, none, 0) := rfl
    refine le_intro hB [] (by simp) (fun b _ => rfl) rfl ?_ ?_ rfl <;> simp -dsimp -implicitDefEqProofs only [e0, oneP, encQ, push_cast, ↓trAdd_f, ↓stOf_f, seval]
  have hsc := scanN_spec now until_ [x0, x1] k
  have hsucc : scanN now until_ [x0, x1] (k + 1) = scanStep now until_ k (([x0, x1] : List QS).getD k zeroQ) (scanN now until_ [x0, x1] k) := rfl
  have hdone : k = 2 → scanN now until_ [x0, x1] k = scan now until_ [x0, x1] := fun e => by subst e; rfl
  generalize scanN now until_ [x0, x1] k = r at *
  obtain ⟨left, one, soon⟩ := r
  try simp only at hsc hsucc hdone
  have hone : ∀ j, one = some j → j < k := fun j hj => (hsc.one j hj).1
  try simp only [encQ]
  try refine hK _ ?_
  repeat (first | refine awp_seq ?_ | refine awp_block ?_ | refine awp_skip ?_ | refine awp_scope ?_ | refine awp_label ?_)
  refine awp_region tabOk fun K hK => ?_
  simp -dsimp -implicitDefEqProofs only [push_cast, ↓trAdd_f, ↓stOf_f, seval]
  try refine hK _ ?_
  repeat (first | refine awp_seq ?_ | refine awp_block ?_ | refine awp_skip ?_ | refine awp_scope ?_ | refine awp_label ?_)
  refine awp_cond (b := decide ((k : Int) < 2)) (by simp -dsimp -implicitDefEqProofs only [push_cast, ↓trAdd_f, ↓stOf_f, seval]) (fun h => ?_) (fun h => ?_)
  · have hlt : k < 2 := by simp at h; omega
    clear h hdone hsc
    have : k = 0 ∨ k = 1 := by omega
    rcases this with rfl | rfl
    · have hx : ([x0, x1] : List QS).getD 0 zeroQ = x0 := rfl
      rw [hx] at hsucc
      obtain ⟨w0, hw0⟩ : ∃ w, w = oneP one := ⟨_, rfl⟩
      obtain ⟨z0r, z0o, z0w⟩ := oneP_facts hone hw0 (by decide : 0 ≤ 40)
      try refine hK _ ?_
      repeat (first | refine awp_seq ?_ | refine awp_block ?_ | refine awp_skip ?_ | refine awp_scope ?_ | refine awp_label ?_)
      refine awp_region tabOk fun K hK => ?_
      simp -dsimp -implicitDefEqProofs only [tn1, tn2, tn3, tn4, push_cast, ↓trAdd_f, ↓stOf_f, seval]
      try refine hK _ ?_
      repeat (first | refine awp_seq ?_ | refine awp_block ?_ | refine awp_skip ?_ | refine awp_scope ?_ | refine awp_label ?_)
      refine awp_region tabOk fun K hK => ?_
      simp -dsimp -implicitDefEqProofs only [push_cast, ↓trAdd_f, ↓stOf_f, seval]
      try refine hK _ ?_
      repeat (first | refine awp_seq ?_ | refine awp_block ?_ | refine awp_skip ?_ | refine awp_scope ?_ | refine awp_label ?_)
      refine awp_cond (b := decide (until_ ≤ x0.due)) (by simp -dsimp -implicitDefEqProofs only [push_cast, ↓trAdd_f, ↓stOf_f, seval]) (fun h => ?_) (fun h => ?_)
      · have hst : scanStep now until_ 0 x0 (left, one, soon) = (left, one, soon) := by unfold scanStep; rw [if_pos (by simpa using h)]
        rw [hst] at hsucc
        refine awp_exit rfl ?_
        try refine hK _ ?_
        repeat (first | refine awp_seq ?_ | refine awp_block ?_ | refine awp_skip ?_ | refine awp_scope ?_ | refine awp_label ?_)
        refine awp_region tabOk fun K hK => ?_
        simp -dsimp -implicitDefEqProofs only [push_cast, ↓trAdd_f, ↓stOf_f, seval]
        try simp (disch := omega) only [wrap_i64, wrap_u8, wrap_u16, wrap_u32]
        refine hK _ ⟨1, by decide, by decide, ?_⟩
        rw [hsucc]
        simp only [← hw0]
        refine le_intro hB [] (by simp) (fun b _ => rfl) rfl ?_ ?_ rfl <;> simp -dsimp -implicitDefEqProofs only [z0r, z0o, encQ, push_cast, ↓trAdd_f, ↓stOf_f, seval]
        all_goals exact of_eq_true z0w
      · have hst : scanStep now until_ 0 x0 (left, one, soon) = (true, if one = none ∧ x0.wts ≤ now then some 0 else one, if left = false ∨ x0.wts < soon then x0.wts else soon) := by unfold scanStep; rw [if_neg (by simpa using h)]
        rw [hst] at hsucc
        clear h hst
        obtain ⟨z, hz⟩ : ∃ z, z = oneP (if one = none ∧ x0.wts ≤ now then some 0 else one) := ⟨_, rfl⟩
        obtain ⟨y, hy⟩ : ∃ y, y = if left = false ∨ x0.wts < soon then x0.wts else soon := ⟨_, rfl⟩
        have hone' : ∀ j, (if one = none ∧ x0.wts ≤ now then some 0 else one) = some j → j < 1 := fun j hj => by
          split at hj
          · cases hj; decide
          · have := hone j hj; omega
        obtain ⟨zr, zo, zw⟩ := oneP_facts hone' hz (by decide : 1 ≤ 40)
        rw [← hw0]
        refine awp_skip ?_
        refine awp_seq ?_
        refine awp_join { sl := [(0, .own 2 1 0 2), (1, .int .i64 now), (2, .int .i64 until_), (6, w0), (7, .int .i64 y), (8, .bool left), (10, .ptr 0 0), (11, .own 2 1 0 2), (12, .int .i64 2), (13, .int .i64 0)], st := [(0, .box (encQ x0)), (1, .box (encQ x1)), (2, .row 1 [[.ptr 0 0], [.ptr 1 0]])], nx := 40, n := 52 } ?_ (fun _ hl h => awp_le hl h) ?_
        · cases left with
          | false =>
            have e : y = x0.wts := by rw [hy, if_pos (.inl rfl)]
            try refine hK _ ?_
            repeat (first | refine awp_seq ?_ | refine awp_block ?_ | refine awp_skip ?_ | refine awp_scope ?_ | refine awp_label ?_)
            refine awp_region tabOk fun K hK => ?_
            simp -dsimp -implicitDefEqProofs only [push_cast, ↓trAdd_f, ↓stOf_f, seval]
            try refine hK _ ?_
            repeat (first | refine awp_seq ?_ | refine awp_block ?_ | refine awp_skip ?_ | refine awp_scope ?_ | refine awp_label ?_)
            refine awp_cond (b := true) (by simp -dsimp -implicitDefEqProofs only [push_cast, ↓trAdd_f, ↓stOf_f, seval]) (fun h => ?_) (fun h => ?_)
            · try refine hK _ ?_
              repeat (first | refine awp_seq ?_ | refine awp_block ?_ | refine awp_skip ?_ | refine awp_scope ?_ | refine awp_label ?_)
              refine awp_region tabOk fun K hK => ?_
              simp -dsimp -implicitDefEqProofs only [push_cast, ↓trAdd_f, ↓stOf_f, seval]
              refine hK _ ?_
              try simp only [encQ]
              refine le_intro hB [] (by simp) (fun b _ => rfl) rfl ?_ ?_ rfl <;> simp -dsimp -implicitDefEqProofs only [z0r, z0o, e, push_cast, ↓trAdd_f, ↓stOf_f, seval]
              all_goals exact of_eq_true z0w
            · simp at h
          | true =>
            try refine hK _ ?_
            repeat (first | refine awp_seq ?_ | refine awp_block ?_ | refine awp_skip ?_ | refine awp_scope ?_ | refine awp_label ?_)
            refine awp_region tabOk fun K hK => ?_
            simp -dsimp -implicitDefEqProofs only [push_cast, ↓trAdd_f, ↓stOf_f, seval]
            try refine hK _ ?_
            repeat (first | refine awp_seq ?_ | refine awp_block ?_ | refine awp_skip ?_ | refine awp_scope ?_ | refine awp_label ?_)
            refine awp_cond (b := decide (x0.wts < soon)) (by simp -dsimp -implicitDefEqProofs only [push_cast, ↓trAdd_f, ↓stOf_f, seval]) (fun h => ?_) (fun h => ?_)
            · have e : y = x0.wts := by rw [hy, if_pos (.inr (by simpa using h))]
              try refine hK _ ?_
              repeat (first | refine awp_seq ?_ | refine awp_block ?_ | refine awp_skip ?_ | refine awp_scope ?_ | refine awp_label ?_)
              refine awp_region tabOk fun K hK => ?_
              simp -dsimp -implicitDefEqProofs only [push_cast, ↓trAdd_f, ↓stOf_f, seval]
              refine hK _ ?_
              try simp only [encQ]
              refine le_intro hB [] (by simp) (fun b _ => rfl) rfl ?_ ?_ rfl <;> simp -dsimp -implicitDefEqProofs only [z0r, z0o, e, push_cast, ↓trAdd_f, ↓stOf_f, seval]
              all_goals exact of_eq_true z0w
            · have e : y = soon := by rw [hy, if_neg (by simp at h; simp; omega)]
              refine awp_skip ?_
              try simp only [encQ]
              refine le_intro hB [] (by simp) (fun b _ => rfl) rfl ?_ ?_ rfl <;> simp -dsimp -implicitDefEqProofs only [z0r, z0o, e, push_cast, ↓trAdd_f, ↓stOf_f, seval]
              all_goals exact of_eq_true z0w
        try simp only [encQ]
        try refine hK _ ?_
        repeat (first | refine awp_seq ?_ | refine awp_block ?_ | refine awp_skip ?_ | refine awp_scope ?_ | refine awp_label ?_)
        refine awp_region tabOk fun K hK => ?_
        simp -dsimp -implicitDefEqProofs only [push_cast, ↓trAdd_f, ↓stOf_f, seval]
        refine hK _ ?_
        refine awp_join { sl := [(0, .own 2 1 0 2), (1, .int .i64 now), (2, .int .i64 until_), (6, z), (7, .int .i64 y), (8, .bool true), (11, .own 2 1 0 2), (12, .int .i64 2), (13, .int .i64 0)], st := [(0, .box (encQ x0)), (1, .box (encQ x1)), (2, .row 1 [[.ptr 0 0], [.ptr 1 0]])], nx := 40, n := 52 } ?_ (fun _ hl h => awp_le hl h) ?_
        · cases one with
          | none =>
            have e0 : w0 = .nilp := hw0
            subst e0
            try refine hK _ ?_
            repeat (first | refine awp_seq ?_ | refine awp_block ?_ | refine awp_skip ?_ | refine awp_scope ?_ | refine awp_label ?_)
            refine awp_region tabOk fun K hK => ?_
            simp -dsimp -implicitDefEqProofs only [push_cast, ↓trAdd_f, ↓stOf_f, seval]
            try refine hK _ ?_
            repeat (first | refine awp_seq ?_ | refine awp_block ?_ | refine awp_skip ?_ | refine awp_scope ?_ | refine awp_label ?_)
            refine awp_cond (b := decide (x0.wts ≤ now)) (by simp -dsimp -implicitDefEqProofs only [push_cast, ↓trAdd_f, ↓stOf_f, seval]) (fun h => ?_) (fun h => ?_)
            · have e : z = .ptr 0 0 := by rw [hz, if_pos ⟨rfl, by simpa using h⟩]; rfl
              try refine hK _ ?_
              repeat (first | refine awp_seq ?_ | refine awp_block ?_ | refine awp_skip ?_ | refine awp_scope ?_ | refine awp_label ?_)
              refine awp_region tabOk fun K hK => ?_
              simp -dsimp -implicitDefEqProofs only [push_cast, ↓trAdd_f, ↓stOf_f, seval]
              refine hK _ ?_
              try simp only [encQ]
              refine le_intro hB [] (by simp) (fun b _ => rfl) rfl ?_ ?_ rfl <;> simp -dsimp -implicitDefEqProofs only [e, push_cast, ↓trAdd_f, ↓stOf_f, seval]
            · have e : z = .nilp := by rw [hz, if_neg (by simp at h; simp; omega)]; rfl
              refine awp_skip ?_
              try simp only [encQ]
              refine le_intro hB [] (by simp) (fun b _ => rfl) rfl ?_ ?_ rfl <;> simp -dsimp -implicitDefEqProofs only [e, push_cast, ↓trAdd_f, ↓stOf_f, seval]
          | some j =>
            have e0 : w0 = .ptr j 0 := hw0
            have e : z = .ptr j 0 := by rw [hz, if_neg (by simp)]; rfl
            have hj := hone j rfl
            have hj40 : j < 40 := by omega
            subst e0
            try refine hK _ ?_
            repeat (first | refine awp_seq ?_ | refine awp_block ?_ | refine awp_skip ?_ | refine awp_scope ?_ | refine awp_label ?_)
            refine awp_region tabOk fun K hK => ?_
            simp -dsimp -implicitDefEqProofs only [push_cast, ↓trAdd_f, ↓stOf_f, seval]
            try refine hK _ ?_
            repeat (first | refine awp_seq ?_ | refine awp_block ?_ | refine awp_skip ?_ | refine awp_scope ?_ | refine awp_label ?_)
            refine awp_cond (b := false) (by simp -dsimp -implicitDefEqProofs only [push_cast, ↓trAdd_f, ↓stOf_f, seval]) (fun h => ?_) (fun h => ?_)
            · simp at h
            refine awp_skip ?_
            try simp only [encQ]
            refine le_intro hB [] (by simp) (fun b _ => rfl) rfl ?_ ?_ rfl <;> simp -dsimp -implicitDefEqProofs only [e, hj40, renG, lk, push_cast, ↓trAdd_f, ↓stOf_f, seval]
        try refine hK _ ?_
        repeat (first | refine awp_seq ?_ | refine awp_block ?_ | refine awp_skip ?_ | refine awp_scope ?_ | refine awp_label ?_)
        refine awp_region tabOk fun K hK => ?_
        simp -dsimp -implicitDefEqProofs only [push_cast, ↓trAdd_f, ↓stOf_f, seval]
        try simp (disch := omega) only [wrap_i64, wrap_u8, wrap_u16, wrap_u32]
        refine hK _ ⟨1, by decide, by decide, ?_⟩
        rw [hsucc]
        simp only [← hz, ← hy, encQ]
        refine le_intro hB [] (by simp) (fun b _ => rfl) rfl ?_ ?_ rfl <;> simp -dsimp -implicitDefEqProofs only [zr, zo, push_cast, ↓trAdd_f, ↓stOf_f, seval]
        all_goals exact of_eq_true zw
    · have hx : ([x0, x1] : List QS).getD 1 zeroQ = x1 := rfl
      rw [hx] at hsucc
      obtain ⟨w0, hw0⟩ : ∃ w, w = oneP one := ⟨_, rfl⟩
      obtain ⟨z0r, z0o, z0w⟩ := oneP_facts hone hw0 (by decide : 1 ≤ 40)
      try refine hK _ ?_
      repeat (first | refine awp_seq ?_ | refine awp_block ?_ | refine awp_skip ?_ | refine awp_scope ?_ | refine awp_label ?_)
      refine awp_region tabOk fun K hK => ?_
      simp -dsimp -implicitDefEqProofs only [tn1, tn2, tn3, tn4, push_cast, ↓trAdd_f, ↓stOf_f, seval]
      try refine hK _ ?_
      repeat (first | refine awp_seq ?_ | refine awp_block ?_ | refine awp_skip ?_ | refine awp_scope ?_ | refine awp_label ?_)
      refine awp_region tabOk fun K hK => ?_
      simp -dsimp -implicitDefEqProofs only [push_cast, ↓trAdd_f, ↓stOf_f, seval]
      try refine hK _ ?_
      repeat (first | refine awp_seq ?_ | refine awp_block ?_ | refine awp_skip ?_ | refine awp_scope ?_ | refine awp_label ?_)
      refine awp_cond (b := decide (until_ ≤ x1.due)) (by simp -dsimp -implicitDefEqProofs only [push_cast, ↓trAdd_f, ↓stOf_f, seval]) (fun h => ?_) (fun h => ?_)
      · have hst : scanStep now until_ 1 x1 (left, one, soon) = (left, one, soon) := by unfold scanStep; rw [if_pos (by simpa using h)]
        rw [hst] at hsucc
        refine awp_exit rfl ?_
        try refine hK _ ?_
        repeat (first | refine awp_seq ?_ | refine awp_block ?_ | refine awp_skip ?_ | refine awp_scope ?_ | refine awp_label ?_)
        refine awp_region tabOk fun K hK => ?_
        simp -dsimp -implicitDefEqProofs only [push_cast, ↓trAdd_f, ↓stOf_f, seval]
        try simp (disch := omega) only [wrap_i64, wrap_u8, wrap_u16, wrap_u32]
        refine hK _ ⟨2, by decide, by decide, ?_⟩
        rw [hsucc]
        simp only [← hw0]
        refine le_intro hB [] (by simp) (fun b _ => rfl) rfl ?_ ?_ rfl <;> simp -dsimp -implicitDefEqProofs only [z0r, z0o, encQ, push_cast, ↓trAdd_f, ↓stOf_f, seval]
        all_goals exact of_eq_true z0w
      · have hst : scanStep now until_ 1 x1 (left, one, soon) = (true, if one = none ∧ x1.wts ≤ now then some 1 else one, if left = false ∨ x1.wts < soon then x1.wts else soon) := by unfold scanStep; rw [if_neg (by simpa using h)]
        rw [hst] at hsucc
        clear h hst
        obtain ⟨z, hz⟩ : ∃ z, z = oneP (if one = none ∧ x1.wts ≤ now then some 1 else one) := ⟨_, rfl⟩
        obtain ⟨y, hy⟩ : ∃ y, y = if left = false ∨ x1.wts < soon then x1.wts else soon := ⟨_, rfl⟩
        have hone' : ∀ j, (if one = none ∧ x1.wts ≤ now then some 1 else one) = some j → j < 2 := fun j hj => by
          split at hj
          · cases hj; decide
          · have := hone j hj; omega
        obtain ⟨zr, zo, zw⟩ := oneP_facts hone' hz (by decide : 2 ≤ 40)
        rw [← hw0]
        refine awp_skip ?_
        refine awp_seq ?_
        refine awp_join { sl := [(0, .own 2 1 0 2), (1, .int .i64 now), (2, .int .i64 until_), (6, w0), (7, .int .i64 y), (8, .bool left), (10, .ptr 1 0), (11, .own 2 1 0 2), (12, .int .i64 2), (13, .int .i64 1)], st := [(0, .box (encQ x0)), (1, .box (encQ x1)), (2, .row 1 [[.ptr 0 0], [.ptr 1 0]])], nx := 40, n := 52 } ?_ (fun _ hl h => awp_le hl h) ?_
        · cases left with
          | false =>
            have e : y = x1.wts := by rw [hy, if_pos (.inl rfl)]
            try refine hK _ ?_
            repeat (first | refine awp_seq ?_ | refine awp_block ?_ | refine awp_skip ?_ | refine awp_scope ?_ | refine awp_label ?_)
            refine awp_region tabOk fun K hK => ?_
            simp -dsimp -implicitDefEqProofs only [push_cast, ↓trAdd_f, ↓stOf_f, seval]
            try refine hK _ ?_
            repeat (first | refine awp_seq ?_ | refine awp_block ?_ | refine awp_skip ?_ | refine awp_scope ?_ | refine awp_label ?_)
            refine awp_cond (b := true) (by simp -dsimp -implicitDefEqProofs only [push_cast, ↓trAdd_f, ↓stOf_f, seval]) (fun h => ?_) (fun h => ?_)
            · try refine hK _ ?_
              repeat (first | refine awp_seq ?_ | refine awp_block ?_ | refine awp_skip ?_ | refine awp_scope ?_ | refine awp_label ?_)
              refine awp_region tabOk fun K hK => ?_
              simp -dsimp -implicitDefEqProofs only [push_cast, ↓trAdd_f, ↓stOf_f, seval]
              refine hK _ ?_
              try simp only [encQ]
              refine le_intro hB [] (by simp) (fun b _ => rfl) rfl ?_ ?_ rfl <;> simp -dsimp -implicitDefEqProofs only [z0r, z0o, e, push_cast, ↓trAdd_f, ↓stOf_f, seval]
              all_goals exact of_eq_true z0w
            · simp at h
          | true =>
            try refine hK _ ?_
            repeat (first | refine awp_seq ?_ | refine awp_block ?_ | refine awp_skip ?_ | refine awp_scope ?_ | refine awp_label ?_)
            refine awp_region tabOk fun K hK => ?_
            simp -dsimp -implicitDefEqProofs only [push_cast, ↓trAdd_f, ↓stOf_f, seval]
            try refine hK _ ?_
            repeat (first | refine awp_seq ?_ | refine awp_block ?_ | refine awp_skip ?_ | refine awp_scope ?_ | refine awp_label ?_)
            refine awp_cond (b := decide (x1.wts < soon)) (by simp -dsimp -implicitDefEqProofs only [push_cast, ↓trAdd_f, ↓stOf_f, seval]) (fun h => ?_) (fun h => ?_)
            · have e : y = x1.wts := by rw [hy, if_pos (.inr (by simpa using h))]
              try refine hK _ ?_
              repeat (first | refine awp_seq ?_ | refine awp_block ?_ | refine awp_skip ?_ | refine awp_scope ?_ | refine awp_label ?_)
              refine awp_region tabOk fun K hK => ?_
              simp -dsimp -implicitDefEqProofs only [push_cast, ↓trAdd_f, ↓stOf_f, seval]
              refine hK _ ?_
              try simp only [encQ]
              refine le_intro hB [] (by simp) (fun b _ => rfl) rfl ?_ ?_ rfl <;> simp -dsimp -implicitDefEqProofs only [z0r, z0o, e, push_cast, ↓trAdd_f, ↓stOf_f, seval]
              all_goals exact of_eq_true z0w
            · have e : y = soon := by rw [hy, if_neg (by simp at h; simp; omega)]
              refine awp_skip ?_
              try simp only [encQ]
              refine le_intro hB [] (by simp) (fun b _ => rfl) rfl ?_ ?_ rfl <;> simp -dsimp -implicitDefEqProofs only [z0r, z0o, e, push_cast, ↓trAdd_f, ↓stOf_f, seval]
              all_goals exact of_eq_true z0w
        try simp only [encQ]
        try refine hK _ ?_
        repeat (first | refine awp_seq ?_ | refine awp_block ?_ | refine awp_skip ?_ | refine awp_scope ?_ | refine awp_label ?_)
        refine awp_region tabOk fun K hK => ?_
        simp -dsimp -implicitDefEqProofs only [push_cast, ↓trAdd_f, ↓stOf_f, seval]
        refine hK _ ?_
        refine awp_join { sl := [(0, .own 2 1 0 2), (1, .int .i64 now), (2, .int .i64 until_), (6, z), (7, .int .i64 y), (8, .bool true), (11, .own 2 1 0 2), (12, .int .i64 2), (13, .int .i64 1)], st := [(0, .box (encQ x0)), (1, .box (encQ x1)), (2, .row 1 [[.ptr 0 0], [.ptr 1 0]])], nx := 40, n := 52 } ?_ (fun _ hl h => awp_le hl h) ?_
        · cases one with
          | none =>
            have e0 : w0 = .nilp := hw0
            subst e0
            try refine hK _ ?_
            repeat (first | refine awp_seq ?_ | refine awp_block ?_ | refine awp_skip ?_ | refine awp_scope ?_ | refine awp_label ?_)
            refine awp_region tabOk fun K hK => ?_
            simp -dsimp -implicitDefEqProofs only [push_cast, ↓trAdd_f, ↓stOf_f, seval]
            try refine hK _ ?_
            repeat (first | refine awp_seq ?_ | refine awp_block ?_ | refine awp_skip ?_ | refine awp_scope ?_ | refine awp_label ?_)
            refine awp_cond (b := decide (x1.wts ≤ now)) (by simp -dsimp -implicitDefEqProofs only [push_cast, ↓trAdd_f, ↓stOf_f, seval]) (fun h => ?_) (fun h => ?_)
            · have e : z = .ptr 1 0 := by rw [hz, if_pos ⟨rfl, by simpa using h⟩]; rfl
              try refine hK _ ?_
              repeat (first | refine awp_seq ?_ | refine awp_block ?_ | refine awp_skip ?_ | refine awp_scope ?_ | refine awp_label ?_)
              refine awp_region tabOk fun K hK => ?_
              simp -dsimp -implicitDefEqProofs only [push_cast, ↓trAdd_f, ↓stOf_f, seval]
              refine hK _ ?_
              try simp only [encQ]
              refine le_intro hB [] (by simp) (fun b _ => rfl) rfl ?_ ?_ rfl <;> simp -dsimp -implicitDefEqProofs only [e, push_cast, ↓trAdd_f, ↓stOf_f, seval]
            · have e : z = .nilp := by rw [hz, if_neg (by simp at h; simp; omega)]; rfl
              refine awp_skip ?_
              try simp only [encQ]
              refine le_intro hB [] (by simp) (fun b _ => rfl) rfl ?_ ?_ rfl <;> simp -dsimp -implicitDefEqProofs only [e, push_cast, ↓trAdd_f, ↓stOf_f, seval]
          | some j =>
            have e0 : w0 = .ptr j 0 := hw0
            have e : z = .ptr j 0 := by rw [hz, if_neg (by simp)]; rfl
            have hj := hone j rfl
            have hj40 : j < 40 := by omega
            subst e0
            try refine hK _ ?_
            repeat (first | refine awp_seq ?_ | refine awp_block ?_ | refine awp_skip ?_ | refine awp_scope ?_ | refine awp_label ?_)
            refine awp_region tabOk fun K hK => ?_
            simp -dsimp -implicitDefEqProofs only [push_cast, ↓trAdd_f, ↓stOf_f, seval]
            try refine hK _ ?_
            repeat (first | refine awp_seq ?_ | refine awp_block ?_ | refine awp_skip ?_ | refine awp_scope ?_ | refine awp_label ?_)
            refine awp_cond (b := false) (by simp -dsimp -implicitDefEqProofs only [push_cast, ↓trAdd_f, ↓stOf_f, seval]) (fun h => ?_) (fun h => ?_)
            · simp at h
            refine awp_skip ?_
            try simp only [encQ]
            refine le_intro hB [] (by simp) (fun b _ => rfl) rfl ?_ ?_ rfl <;> simp -dsimp -implicitDefEqProofs only [e, hj40, renG, lk, push_cast, ↓trAdd_f, ↓stOf_f, seval]
        try refine hK _ ?_
        repeat (first | refine awp_seq ?_ | refine awp_block ?_ | refine awp_skip ?_ | refine awp_scope ?_ | refine awp_label ?_)
        refine awp_region tabOk fun K hK => ?_
        simp -dsimp -implicitDefEqProofs only [push_cast, ↓trAdd_f, ↓stOf_f, seval]
        try simp (disch := omega) only [wrap_i64, wrap_u8, wrap_u16, wrap_u32]
        refine hK _ ⟨2, by decide, by decide, ?_⟩
        rw [hsucc]
        simp only [← hz, ← hy, encQ]
        refine le_intro hB [] (by simp) (fun b _ => rfl) rfl ?_ ?_ rfl <;> simp -dsimp -implicitDefEqProofs only [zr, zo, push_cast, ↓trAdd_f, ↓stOf_f, seval]
        all_goals exact of_eq_true zw
  · have he : k = 2 := by simp at h; omega
    have hd := hdone he
    subst he
    rw [← hd]
    obtain ⟨w0, hw0⟩ : ∃ w, w = oneP one := ⟨_, rfl⟩
    obtain ⟨z0r, z0o, z0w⟩ := oneP_facts hone hw0 (by decide : 2 ≤ 3)
    simp only [← hw0]
    refine awp_exit rfl ?_
    try refine hK _ ?_
    repeat (first | refine awp_seq ?_ | refine awp_block ?_ | refine awp_skip ?_ | refine awp_scope ?_ | refine awp_label ?_)
    refine awp_region tabOk fun K hK => ?_
    simp -dsimp -implicitDefEqProofs only [push_cast, ↓trAdd_f, ↓stOf_f, seval]
    refine hK _ (awp_ret ?_)
    simp -dsimp -implicitDefEqProofs only [z0o, push_cast, List.mem_append, List.mem_cons, List.mem_singleton, forall_eq_or_imp, forall_eq, ↓trAdd_f, ↓stOf_f, seval]

end Go.Proofs.YtahkpghgjjlgdaaFw

/-
  Walks: sent, and the function that it hands back, of 2 queues.
-/
namespace Go.Proofs.YtahkpghgjjlgdaaFw
open Go Go.Proofs
set_option maxRecDepth 100000
set_option maxHeartbeats 16000000
set_option linter.unusedVariables false
set_option linter.unusedSimpArgs false
/-- A queue's cells behind a frame that ended. -/
def encQL (x : QS) (e : Int) : List PV := [.int .i64 x.s.bits, .int .i64 x.s.period, .int .i64 x.s.jitter, .int .i64 x.q, .int .i64 x.due, .int .i64 x.wts, .int .i64 (max x.late (e - x.due))]
/-- What yield may be called with. -/
abbrev YI := { p : QS × Int // p.1.okq ∧ 0 ≤ p.2 ∧ p.2 ≤ 50000000000 }
def coY (i : YI) : CallO := { args := [.ptr 0 0, .int .i64 i.1.2], st0 := [(0, .box (encQ i.1.1))], res := .bool true, st1 := [(0, .box (encQL i.1.1 i.1.2))], r := [0] }
theorem nextL_ok (x : QS) (e : Int) (hx : x.okq) (h0 : 0 ≤ e) (h1 : e ≤ 50000000000) : FnS Try.prog 34 [.ptr 0 0] [(0, .box (encQL x e))] (.tup []) [(0, .box (encQ (x.sent e)))] :=
  next_ok { x with late := max x.late (e - x.due) } ⟨hx.s, hx.b, hx.q, by have := hx.late; have := hx.due; show 0 ≤ max x.late (e - x.due) ∧ max x.late (e - x.due) ≤ 100000000000000; omega⟩


theorem sent2_ok (x0 x1 : QS) (until_ : Int) : FnS Try.prog 29 [.own 2 1 0 2, .int .i64 until_] [(0, .box (encQ x0)), (1, .box (encQ x1)), (2, .row 1 [[.ptr 0 0], [.ptr 1 0]])] (.fn (.func 32) [] [.ptr 3 0, .ptr 4 0]) [(0, .box (encQ x0)), (1, .box (encQ x1)), (2, .row 1 [[.ptr 0 0], [.ptr 1 0]]), (3, .box [.own 2 1 0 2]), (4, .box [.int .i64 until_])] := by
  refine fn_walkN tabOk Try.func29 rfl (by decide +kernel) Try.ntmps29 Try.results29 (by simp) fun B hB => ?_
  simp only [encQ]
  try refine hK _ ?_
  repeat (first | refine awp_seq ?_ | refine awp_block ?_ | refine awp_skip ?_ | refine awp_scope ?_ | refine awp_label ?_)
  refine awp_region tabOk fun K hK => ?_
  simp -dsimp -implicitDefEqProofs only [push_cast, ↓trAdd_f, ↓stOf_f, seval]
  try refine hK _ ?_
  repeat (first | refine awp_seq ?_ | refine awp_block ?_ | refine awp_skip ?_ | refine awp_scope ?_ | refine awp_label ?_)
  refine awp_region tabOk fun K hK => ?_
  simp -dsimp -implicitDefEqProofs only [push_cast, ↓trAdd_f, ↓stOf_f, seval]
  refine hK _ ?_
  refine awp_le (s' := { sl := [(4, .fn (.func 32) [] [.ptr 3 0, .ptr 4 0])], st := [(0, .box (encQ x0)), (1, .box (encQ x1)), (2, .row 1 [[.ptr 0 0], [.ptr 1 0]]), (3, .box [.own 2 1 0 2]), (4, .box [.int .i64 until_])], nx := 11, n := 6 }) (le_intro hB [(4, 11)] (by simp) (fun b hb => by have hb' : b < 3 := hb; have : ¬ 4 = b := (by omega); simp [renG, lk, this]) rfl ?_ ?_ rfl) ?_
  · simp only [encQ]
    simp -dsimp -implicitDefEqProofs only [push_cast, ↓trAdd_f, ↓stOf_f, seval]
  · simp only [encQ]
    simp -dsimp -implicitDefEqProofs only [push_cast, ↓trAdd_f, ↓stOf_f, seval]
  refine awp_ret ?_
  simp only [encQ]
  simp -dsimp -implicitDefEqProofs only [push_cast, List.mem_append, List.mem_cons, List.mem_singleton, forall_eq_or_imp, forall_eq, ↓trAdd_f, ↓stOf_f, seval]

theorem sentf2_ok {l : List Stream} {bs : List Int} {until_ : Int} (p : PlayOk l bs until_) (hl : l.length = 2) (lp : Nat) (rec : Loop) (hY : ∀ i : YI, YS Try.prog lp rec (coY i)) (x0 x1 : QS) (hx : PInv l bs until_ fuel0 0 [x0, x1]) :
    FnL Try.prog lp rec 32 [.fn (.yield lp) [] [], .ptr 3 0, .ptr 4 0] [(0, .box (encQ x0)), (1, .box (encQ x1)), (2, .row 1 [[.ptr 0 0], [.ptr 1 0]]), (3, .box [.own 2 1 0 2]), (4, .box [.int .i64 until_])] (.tup [])
      [(0, .box (encQ ((playN until_ fuel0 0 [x0, x1]).getD 0 zeroQ))), (1, .box (encQ ((playN until_ fuel0 0 [x0, x1]).getD 1 zeroQ))), (2, .row 1 [[.ptr 0 0], [.ptr 1 0]]), (3, .box [.own 2 1 0 2]), (4, .box [.int .i64 until_])] := by
  refine fnL_walk tabOk Try.func32 rfl (by decide +kernel) Try.ntmps32 Try.results32 (by simp) fun B hRdy hB => ?_
  try refine hK _ ?_
  repeat (first | refine awp_seq ?_ | refine awp_block ?_ | refine awp_skip ?_ | refine awp_scope ?_ | refine awp_label ?_)
  refine awp_region tabOk fun K hK => ?_
  simp -dsimp -implicitDefEqProofs only [push_cast, ↓trAdd_f, ↓stOf_f, seval]
  try refine hK _ ?_
  repeat (first | refine awp_seq ?_ | refine awp_block ?_ | refine awp_skip ?_ | refine awp_scope ?_ | refine awp_label ?_)
  refine awp_for (fun y : Nat × Int × List QS => { sl := [(0, .fn (.yield lp) [] []), (1, .ptr 3 0), (2, .ptr 4 0), (4, .int .i64 y.2.1)], st := [(0, .box (encQ (y.2.2.getD 0 zeroQ))), (1, .box (encQ (y.2.2.getD 1 zeroQ))), (2, .row 1 [[.ptr 0 0], [.ptr 1 0]]), (3, .box [.own 2 1 0 2]), (4, .box [.int .i64 until_])], nx := 40, n := 35 }) (fun y => PInv l bs until_ y.1 y.2.1 y.2.2) (fun y => y.1) (fuel0, 0, [x0, x1]) hx ?_ fun y hy => ?_
  · refine le_intro hB [] (by simp) (fun b _ => rfl) rfl ?_ ?_ rfl <;> simp -dsimp -implicitDefEqProofs only [encQ, push_cast, ↓trAdd_f, ↓stOf_f, seval]
  obtain ⟨m, now, X⟩ := y
  simp only at hy
  obtain ⟨m, rfl⟩ : ∃ k, m = k + 1 := ⟨m - 1, by have := hy.mu; omega⟩
  have hXl : X.length = 2 := hy.len.trans hl
  obtain ⟨z0, z1, rfl⟩ : ∃ z0 z1, X = [z0, z1] := by
    match X, hXl with
    | [z0, z1], _ => exact ⟨z0, z1, rfl⟩
  have hbig := hy.big
  have hnow0 := hy.now0
  simp only [encQ]
  try refine hK _ ?_
  repeat (first | refine awp_seq ?_ | refine awp_block ?_ | refine awp_skip ?_ | refine awp_scope ?_ | refine awp_label ?_)
  refine awp_region tabOk fun K hK => ?_
  simp -dsimp -implicitDefEqProofs only [push_cast, ↓trAdd_f, ↓stOf_f, seval]
  refine ⟨33, [], [], { args := [.own 2 1 0 2, .int .i64 now, .int .i64 until_], st0 := [(0, .box (encQ z0)), (1, .box (encQ z1)), (2, .row 1 [[.ptr 0 0], [.ptr 1 0]])], res := .tup [oneP (scan now until_ [z0, z1]).2.1, .int .i64 (scan now until_ [z0, z1]).2.2, .bool (scan now until_ [z0, z1]).1], st1 := [(0, .box (encQ z0)), (1, .box (encQ z1)), (2, .row 1 [[.ptr 0 0], [.ptr 1 0]])], r := [0, 1, 2] }, rfl, choose2_ok z0 z1 now until_, ?_, ?_⟩
  · have hs := scan_spec now until_ [z0, z1]
    have hj : ∀ j, (scan now until_ [z0, z1]).2.1 = some j → j < 2 := fun j h => (hs.one j h).1
    obtain ⟨w0, hw0⟩ : ∃ w, w = oneP (scan now until_ [z0, z1]).2.1 := ⟨_, rfl⟩
    obtain ⟨z0r, z0o, z0w⟩ := oneP_facts hj hw0 (by decide : 2 ≤ 11)
    simp only [← hw0, encQ]
    simp -dsimp -implicitDefEqProofs only [z0o, push_cast, List.mem_append, List.mem_cons, List.mem_singleton, forall_eq_or_imp, forall_eq, ↓trAdd_f, ↓stOf_f, seval]
    exact rfl
  have hs := scan_spec now until_ [z0, z1]
  have hjump := fun hl hn => pinv_jump hy p hl hn
  have hsend := fun j hj => pinv_send hy p (j := j) hj
  have hpd := fun h => playN_done (n := m) (now := now) (until_ := until_) (X := [z0, z1]) h
  have hsl := fun j h => scan_left (now := now) (until_ := until_) (X := [z0, z1]) (j := j) h
  have hsame := hy.same
  have hj : ∀ j, (scan now until_ [z0, z1]).2.1 = some j → j < 2 := fun j h => (hs.one j h).1
  clear hs
  generalize scan now until_ [z0, z1] = r at *
  obtain ⟨left, one, soon⟩ := r
  try simp only at hpd hjump hsend hsl hj
  cases left with
  | false =>
    have hone : one = none := by
      cases one with
      | none => rfl
      | some j => exact absurd (hsl j rfl) (by simp)
    subst hone
    rw [hpd rfl] at hsame
    simp only [oneP, encQ]
    simp -dsimp -implicitDefEqProofs only [push_cast, ↓trAdd_f, ↓stOf_f, seval]
    try refine hK _ ?_
    repeat (first | refine awp_seq ?_ | refine awp_block ?_ | refine awp_skip ?_ | refine awp_scope ?_ | refine awp_label ?_)
    refine awp_region tabOk fun K hK => ?_
    simp -dsimp -implicitDefEqProofs only [push_cast, ↓trAdd_f, ↓stOf_f, seval]
    try refine hK _ ?_
    repeat (first | refine awp_seq ?_ | refine awp_block ?_ | refine awp_skip ?_ | refine awp_scope ?_ | refine awp_label ?_)
    refine awp_cond (b := true) (by simp -dsimp -implicitDefEqProofs only [push_cast, ↓trAdd_f, ↓stOf_f, seval]) (fun h => ?_) (fun h => ?_)
    · refine awp_ret ?_
      simp only [hx.same, ← hsame, encQ]
      simp -dsimp -implicitDefEqProofs only [push_cast, List.mem_append, List.mem_cons, List.mem_singleton, forall_eq_or_imp, forall_eq, ↓trAdd_f, ↓stOf_f, seval]
    · simp at h
  | true =>
    cases one with
    | none =>
      obtain ⟨hP, hn1, hgt⟩ := hjump rfl rfl
      simp only [oneP, encQ]
      simp -dsimp -implicitDefEqProofs only [push_cast, ↓trAdd_f, ↓stOf_f, seval]
      try refine hK _ ?_
      repeat (first | refine awp_seq ?_ | refine awp_block ?_ | refine awp_skip ?_ | refine awp_scope ?_ | refine awp_label ?_)
      refine awp_region tabOk fun K hK => ?_
      simp -dsimp -implicitDefEqProofs only [push_cast, ↓trAdd_f, ↓stOf_f, seval]
      try refine hK _ ?_
      repeat (first | refine awp_seq ?_ | refine awp_block ?_ | refine awp_skip ?_ | refine awp_scope ?_ | refine awp_label ?_)
      refine awp_cond (b := false) (by simp -dsimp -implicitDefEqProofs only [push_cast, ↓trAdd_f, ↓stOf_f, seval]) (fun h => ?_) (fun h => ?_)
      · simp at h
      clear h
      refine awp_skip ?_
      try refine hK _ ?_
      repeat (first | refine awp_seq ?_ | refine awp_block ?_ | refine awp_skip ?_ | refine awp_scope ?_ | refine awp_label ?_)
      refine awp_region tabOk fun K hK => ?_
      simp -dsimp -implicitDefEqProofs only [push_cast, ↓trAdd_f, ↓stOf_f, seval]
      try refine hK _ ?_
      repeat (first | refine awp_seq ?_ | refine awp_block ?_ | refine awp_skip ?_ | refine awp_scope ?_ | refine awp_label ?_)
      refine awp_cond (b := true) (by simp -dsimp -implicitDefEqProofs only [push_cast, ↓trAdd_f, ↓stOf_f, seval]) (fun h => ?_) (fun h => ?_)
      · try refine hK _ ?_
        repeat (first | refine awp_seq ?_ | refine awp_block ?_ | refine awp_skip ?_ | refine awp_scope ?_ | refine awp_label ?_)
        refine awp_region tabOk fun K hK => ?_
        simp -dsimp -implicitDefEqProofs only [push_cast, ↓trAdd_f, ↓stOf_f, seval]
        refine hK _ (awp_exit rfl ?_)
        refine ⟨(m, soon, [z0, z1]), hP, by show m < m + 1; omega, ?_⟩
        refine le_intro hB [] (by simp) (fun b _ => rfl) rfl ?_ ?_ rfl <;> simp -dsimp -implicitDefEqProofs only [encQ, push_cast, ↓trAdd_f, ↓stOf_f, seval]
      · simp at h
    | some j =>
      obtain ⟨hP, hn1, hjX⟩ := hsend j rfl
      have hjn := hj j rfl
      have : j = 0 ∨ j = 1 := by omega
      rcases this with rfl | rfl
      · have hP : PInv l bs until_ m (now + z0.s.bits) [z0.sent (now + z0.s.bits), z1] := hP
        have hok := hy.okq p (show z0 ∈ [z0, z1] by simp)
        have hla := hy.late z0 (by simp)
        have hb1 := hok.s.1
        have hb2 := hok.s.2.1
        have hdd := hok.due
        have hw1 : IntKind.i64.wrap (now + z0.s.bits) = now + z0.s.bits := wrap_i64 (by omega) (by omega)
        have hys := hY ⟨(z0, now + z0.s.bits), hok, by show 0 ≤ now + z0.s.bits; omega, by show now + z0.s.bits ≤ 50000000000; omega⟩
        have hnx := nextL_ok z0 (now + z0.s.bits) hok (by omega) (by omega)
        simp only [oneP, encQ]
        simp -dsimp -implicitDefEqProofs only [push_cast, ↓trAdd_f, ↓stOf_f, seval]
        try refine hK _ ?_
        repeat (first | refine awp_seq ?_ | refine awp_block ?_ | refine awp_skip ?_ | refine awp_scope ?_ | refine awp_label ?_)
        refine awp_region tabOk fun K hK => ?_
        simp -dsimp -implicitDefEqProofs only [push_cast, ↓trAdd_f, ↓stOf_f, seval]
        try refine hK _ ?_
        repeat (first | refine awp_seq ?_ | refine awp_block ?_ | refine awp_skip ?_ | refine awp_scope ?_ | refine awp_label ?_)
        refine awp_cond (b := false) (by simp -dsimp -implicitDefEqProofs only [push_cast, ↓trAdd_f, ↓stOf_f, seval]) (fun h => ?_) (fun h => ?_)
        · simp at h
        clear h
        refine awp_skip ?_
        try refine hK _ ?_
        repeat (first | refine awp_seq ?_ | refine awp_block ?_ | refine awp_skip ?_ | refine awp_scope ?_ | refine awp_label ?_)
        refine awp_region tabOk fun K hK => ?_
        simp -dsimp -implicitDefEqProofs only [push_cast, ↓trAdd_f, ↓stOf_f, seval]
        try refine hK _ ?_
        repeat (first | refine awp_seq ?_ | refine awp_block ?_ | refine awp_skip ?_ | refine awp_scope ?_ | refine awp_label ?_)
        refine awp_cond (b := false) (by simp -dsimp -implicitDefEqProofs only [push_cast, ↓trAdd_f, ↓stOf_f, seval]) (fun h => ?_) (fun h => ?_)
        · simp at h
        clear h
        refine awp_skip ?_
        try refine hK _ ?_
        repeat (first | refine awp_seq ?_ | refine awp_block ?_ | refine awp_skip ?_ | refine awp_scope ?_ | refine awp_label ?_)
        refine awp_region tabOk fun K hK => ?_
        simp -dsimp -implicitDefEqProofs only [hw1, push_cast, ↓trAdd_f, ↓stOf_f, seval]
        refine hK _ (awp_seq (awp_seq ?_))
        refine awp_region_y (l1 := [_, _, _]) tabOk hRdy fun K hK => ?_
        simp -dsimp -implicitDefEqProofs only [push_cast, ↓trAdd_f, ↓stOf_f, seval]
        refine ⟨by show (31 : Nat) < 35; decide, rfl, { args := [.ptr 0 0, .int .i64 (now + z0.s.bits)], st0 := [(0, .box (encQ z0))], res := .bool true, st1 := [(0, .box (encQL z0 (now + z0.s.bits)))], r := [0] }, hys, ?_, ?_⟩
        · simp only [encQ, encQL]
          simp -dsimp -implicitDefEqProofs only [push_cast, List.mem_append, List.mem_cons, List.mem_singleton, forall_eq_or_imp, forall_eq, ↓trAdd_f, ↓stOf_f, seval]
          all_goals exact rfl
        simp only [encQ, encQL]
        simp -dsimp -implicitDefEqProofs only [push_cast, ↓trAdd_f, ↓stOf_f, seval]
        try refine hK _ ?_
        repeat (first | refine awp_seq ?_ | refine awp_block ?_ | refine awp_skip ?_ | refine awp_scope ?_ | refine awp_label ?_)
        refine awp_cond (b := false) (by simp -dsimp -implicitDefEqProofs only [push_cast, ↓trAdd_f, ↓stOf_f, seval]) (fun h => ?_) (fun h => ?_)
        · simp at h
        clear h
        refine awp_skip ?_
        try refine hK _ ?_
        repeat (first | refine awp_seq ?_ | refine awp_block ?_ | refine awp_skip ?_ | refine awp_scope ?_ | refine awp_label ?_)
        refine awp_region tabOk fun K hK => ?_
        simp -dsimp -implicitDefEqProofs only [push_cast, ↓trAdd_f, ↓stOf_f, seval]
        refine ⟨34, [], [], { args := [.ptr 0 0], st0 := [(0, .box (encQL z0 (now + z0.s.bits)))], res := .tup [], st1 := [(0, .box (encQ (z0.sent (now + z0.s.bits))))], r := [0] }, rfl, hnx, ?_, ?_⟩
        · simp only [encQ, encQL]
          simp -dsimp -implicitDefEqProofs only [push_cast, List.mem_append, List.mem_cons, List.mem_singleton, forall_eq_or_imp, forall_eq, ↓trAdd_f, ↓stOf_f, seval]
          all_goals exact rfl
        simp only [encQ, encQL]
        simp -dsimp -implicitDefEqProofs only [push_cast, ↓trAdd_f, ↓stOf_f, seval]
        refine hK _ ⟨(m, now + z0.s.bits, [z0.sent (now + z0.s.bits), z1]), hP, by show m < m + 1; omega, ?_⟩
        refine le_intro hB [] (by simp) (fun b _ => rfl) rfl ?_ ?_ rfl <;> simp -dsimp -implicitDefEqProofs only [encQ, push_cast, ↓trAdd_f, ↓stOf_f, seval]
      · have hP : PInv l bs until_ m (now + z1.s.bits) [z0, z1.sent (now + z1.s.bits)] := hP
        have hok := hy.okq p (show z1 ∈ [z0, z1] by simp)
        have hla := hy.late z1 (by simp)
        have hb1 := hok.s.1
        have hb2 := hok.s.2.1
        have hdd := hok.due
        have hw1 : IntKind.i64.wrap (now + z1.s.bits) = now + z1.s.bits := wrap_i64 (by omega) (by omega)
        have hys := hY ⟨(z1, now + z1.s.bits), hok, by show 0 ≤ now + z1.s.bits; omega, by show now + z1.s.bits ≤ 50000000000; omega⟩
        have hnx := nextL_ok z1 (now + z1.s.bits) hok (by omega) (by omega)
        simp only [oneP, encQ]
        simp -dsimp -implicitDefEqProofs only [push_cast, ↓trAdd_f, ↓stOf_f, seval]
        try refine hK _ ?_
        repeat (first | refine awp_seq ?_ | refine awp_block ?_ | refine awp_skip ?_ | refine awp_scope ?_ | refine awp_label ?_)
        refine awp_region tabOk fun K hK => ?_
        simp -dsimp -implicitDefEqProofs only [push_cast, ↓trAdd_f, ↓stOf_f, seval]
        try refine hK _ ?_
        repeat (first | refine awp_seq ?_ | refine awp_block ?_ | refine awp_skip ?_ | refine awp_scope ?_ | refine awp_label ?_)
        refine awp_cond (b := false) (by simp -dsimp -implicitDefEqProofs only [push_cast, ↓trAdd_f, ↓stOf_f, seval]) (fun h => ?_) (fun h => ?_)
        · simp at h
        clear h
        refine awp_skip ?_
        try refine hK _ ?_
        repeat (first | refine awp_seq ?_ | refine awp_block ?_ | refine awp_skip ?_ | refine awp_scope ?_ | refine awp_label ?_)
        refine awp_region tabOk fun K hK => ?_
        simp -dsimp -implicitDefEqProofs only [push_cast, ↓trAdd_f, ↓stOf_f, seval]
        try refine hK _ ?_
        repeat (first | refine awp_seq ?_ | refine awp_block ?_ | refine awp_skip ?_ | refine awp_scope ?_ | refine awp_label ?_)
        refine awp_cond (b := false) (by simp -dsimp -implicitDefEqProofs only [push_cast, ↓trAdd_f, ↓stOf_f, seval]) (fun h => ?_) (fun h => ?_)
        · simp at h
        clear h
        refine awp_skip ?_
        try refine hK _ ?_
        repeat (first | refine awp_seq ?_ | refine awp_block ?_ | refine awp_skip ?_ | refine awp_scope ?_ | refine awp_label ?_)
        refine awp_region tabOk fun K hK => ?_
        simp -dsimp -implicitDefEqProofs only [hw1, push_cast, ↓trAdd_f, ↓stOf_f, seval]
        refine hK _ (awp_seq (awp_seq ?_))
        refine awp_region_y (l1 := [_, _, _]) tabOk hRdy fun K hK => ?_
        simp -dsimp -implicitDefEqProofs only [push_cast, ↓trAdd_f, ↓stOf_f, seval]
        refine ⟨by show (31 : Nat) < 35; decide, rfl, { args := [.ptr 0 0, .int .i64 (now + z1.s.bits)], st0 := [(0, .box (encQ z1))], res := .bool true, st1 := [(0, .box (encQL z1 (now + z1.s.bits)))], r := [1] }, hys, ?_, ?_⟩
        · simp only [encQ, encQL]
          simp -dsimp -implicitDefEqProofs only [push_cast, List.mem_append, List.mem_cons, List.mem_singleton, forall_eq_or_imp, forall_eq, ↓trAdd_f, ↓stOf_f, seval]
          all_goals exact rfl
        simp only [encQ, encQL]
        simp -dsimp -implicitDefEqProofs only [push_cast, ↓trAdd_f, ↓stOf_f, seval]
        try refine hK _ ?_
        repeat (first | refine awp_seq ?_ | refine awp_block ?_ | refine awp_skip ?_ | refine awp_scope ?_ | refine awp_label ?_)
        refine awp_cond (b := false) (by simp -dsimp -implicitDefEqProofs only [push_cast, ↓trAdd_f, ↓stOf_f, seval]) (fun h => ?_) (fun h => ?_)
        · simp at h
        clear h
        refine awp_skip ?_
        try refine hK _ ?_
        repeat (first | refine awp_seq ?_ | refine awp_block ?_ | refine awp_skip ?_ | refine awp_scope ?_ | refine awp_label ?_)
        refine awp_region tabOk fun K hK => ?_
        simp -dsimp -implicitDefEqProofs only [push_cast, ↓trAdd_f, ↓stOf_f, seval]
        refine ⟨34, [], [], { args := [.ptr 0 0], st0 := [(0, .box (encQL z1 (now + z1.s.bits)))], res := .tup [], st1 := [(0, .box (encQ (z1.sent (now + z1.s.bits))))], r := [1] }, rfl, hnx, ?_, ?_⟩
        · simp only [encQ, encQL]
          simp -dsimp -implicitDefEqProofs only [push_cast, List.mem_append, List.mem_cons, List.mem_singleton, forall_eq_or_imp, forall_eq, ↓trAdd_f, ↓stOf_f, seval]
          all_goals exact rfl
        simp only [encQ, encQL]
        simp -dsimp -implicitDefEqProofs only [push_cast, ↓trAdd_f, ↓stOf_f, seval]
        refine hK _ ⟨(m, now + z1.s.bits, [z0, z1.sent (now + z1.s.bits)]), hP, by show m < m + 1; omega, ?_⟩
        refine le_intro hB [] (by simp) (fun b _ => rfl) rfl ?_ ?_ rfl <;> simp -dsimp -implicitDefEqProofs only [encQ, push_cast, ↓trAdd_f, ↓stOf_f, seval]

end Go.Proofs.YtahkpghgjjlgdaaFw

/-
  The walk of resp.Play, of 2 streams.
-/
namespace Go.Proofs.YtahkpghgjjlgdaaFw
open Go Go.Proofs
set_option maxRecDepth 100000
set_option maxHeartbeats 16000000
set_option linter.unusedVariables false
set_option linter.unusedSimpArgs false

def pl2O (y0 y1 : QS) : Nat → AS
  | 0 => { sl := [(12, .sl true 1 []), (77, .own 150 1 0 2), (78, .int .i64 2), (79, .int .i64 0)], st := [(100, .box (encQ y0)), (101, .box (encQ y1)), (150, .row 1 [[.ptr 100 0], [.ptr 101 0]])], nx := 400, n := 92 }
  | 1 => { sl := [(12, .own 170 1 0 1), (77, .own 150 1 0 2), (78, .int .i64 2), (79, .int .i64 1)], st := [(100, .box (encQ y0)), (101, .box (encQ y1)), (150, .row 1 [[.ptr 100 0], [.ptr 101 0]]), (170, .row 1 [[.int .i64 y0.late]])], nx := 400, n := 92 }
  | _ => { sl := [(12, .own 170 1 0 2), (77, .own 150 1 0 2), (78, .int .i64 2), (79, .int .i64 2)], st := [(100, .box (encQ y0)), (101, .box (encQ y1)), (150, .row 1 [[.ptr 100 0], [.ptr 101 0]]), (170, .row 1 [[.int .i64 y0.late], [.int .i64 y1.late]])], nx := 400, n := 92 }
def pl2S (u0 u1 : Stream) (b0 b1 until_ : Int) : Nat → AS
  | 0 => { sl := [(0, .sl false 3 ([u0, u1].map encStream)), (1, .sl false 1 ([b0, b1].map encI)), (2, .int .i64 until_), (7, .sl true 1 []), (30, .sl false 3 ([u0, u1].map encStream)), (31, .int .i64 2), (32, .int .i64 0)], st := [], nx := 200, n := 92 }
  | 1 => { sl := [(0, .sl false 3 ([u0, u1].map encStream)), (1, .sl false 1 ([b0, b1].map encI)), (2, .int .i64 until_), (7, .own 150 1 0 1), (30, .sl false 3 ([u0, u1].map encStream)), (31, .int .i64 2), (32, .int .i64 1)], st := [(100, .box [.int .i64 u0.bits, .int .i64 u0.period, .int .i64 u0.jitter, .int .i64 0, .int .i64 b0, .int .i64 b0, .int .i64 0]), (150, .row 1 [[.ptr 100 0]])], nx := 200, n := 92 }
  | _ => { sl := [(0, .sl false 3 ([u0, u1].map encStream)), (1, .sl false 1 ([b0, b1].map encI)), (2, .int .i64 until_), (7, .own 150 1 0 2), (30, .sl false 3 ([u0, u1].map encStream)), (31, .int .i64 2), (32, .int .i64 2)], st := [(100, .box [.int .i64 u0.bits, .int .i64 u0.period, .int .i64 u0.jitter, .int .i64 0, .int .i64 b0, .int .i64 b0, .int .i64 0]), (101, .box [.int .i64 u1.bits, .int .i64 u1.period, .int .i64 u1.jitter, .int .i64 0, .int .i64 b1, .int .i64 b1, .int .i64 0]), (150, .row 1 [[.ptr 100 0], [.ptr 101 0]])], nx := 200, n := 92 }
theorem play2_ok (u0 u1 : Stream) (b0 b1 until_ : Int) (hr : rightS [u0, u1] = true) (hu0 : 0 ≤ until_) (hu1 : until_ ≤ 1000000) :
    FnS Try.prog 18 [.sl false 3 ([u0, u1].map encStream), .sl false 1 ([b0, b1].map encI), .int .i64 until_] [] (.sl false 1 ((playZ [u0, u1] [b0, b1] until_).map encI)) [] := by
  obtain ⟨hs, hl1, hl16⟩ := right_ok_s hr
  refine fn_raw tabOk Try.func18 rfl (by decide +kernel) Try.ntmps18 Try.results18 (by simp) fun B hB hds => ?_
  refine raw_seq (N' := fun s1 => s1.le B { sl := [(0, .sl false 3 ([u0, u1].map encStream)), (1, .sl false 1 ([b0, b1].map encI)), (2, .int .i64 until_)], st := [], nx := 0, n := 92 }) ?_ (fun s1 hle a w hs1 => ?_)
  · try refine hK _ ?_
    repeat (first | refine awp_seq ?_ | refine awp_block ?_ | refine awp_skip ?_ | refine awp_scope ?_ | refine awp_label ?_)
    refine awp_region tabOk fun K hK => ?_
    simp -dsimp -implicitDefEqProofs only [push_cast, ↓trAdd_f, ↓stOf_f, seval]
    refine hK _ ?_
    refine le_intro hB [] (by simp) (fun b _ => rfl) rfl ?_ ?_ rfl <;> simp -dsimp -implicitDefEqProofs only [push_cast, ↓trAdd_f, ↓stOf_f, seval]
  refine raw_seq (s := { sl := [(0, .sl false 3 ([u0, u1].map encStream)), (1, .sl false 1 ([b0, b1].map encI)), (2, .int .i64 until_)], st := [], nx := 0, n := 92 }) (N' := fun s1 => s1.le B { sl := [(0, .sl false 3 ([u0, u1].map encStream)), (1, .sl false 1 ([b0, b1].map encI)), (2, .int .i64 until_)], st := [], nx := 0, n := 92 }) ?_ (fun s1 hle a w hs1 => ?_) a w (hle a w hs1)
  · have hu0' : decide (0 ≤ until_) = true := by simpa using hu0
    have hu1' : decide (until_ ≤ 1000000) = true := by simpa using hu1
    try refine hK _ ?_
    repeat (first | refine awp_seq ?_ | refine awp_block ?_ | refine awp_skip ?_ | refine awp_scope ?_ | refine awp_label ?_)
    refine awp_region tabOk fun K hK => ?_
    simp -dsimp -implicitDefEqProofs only [push_cast, ↓trAdd_f, ↓stOf_f, seval]
    refine callK_simple (rRight_ok false [u0, u1] (by simp)) ?_ rfl fun _ => ?_
    · simp -dsimp -implicitDefEqProofs only [push_cast, List.mem_append, List.mem_cons, List.mem_singleton, forall_eq_or_imp, forall_eq, ↓trAdd_f, ↓stOf_f, seval]
    rw [hr]
    simp -dsimp -implicitDefEqProofs only [push_cast, ↓trAdd_f, ↓stOf_f, seval]
    refine callK_simple (within_ok until_ 0 1000000) ?_ rfl fun _ => ?_
    · simp -dsimp -implicitDefEqProofs only [push_cast, List.mem_append, List.mem_cons, List.mem_singleton, forall_eq_or_imp, forall_eq, ↓trAdd_f, ↓stOf_f, seval]
    simp -dsimp -implicitDefEqProofs only [hu0', hu1', push_cast, ↓trAdd_f, ↓stOf_f, seval]
    try refine hK _ ?_
    repeat (first | refine awp_seq ?_ | refine awp_block ?_ | refine awp_skip ?_ | refine awp_scope ?_ | refine awp_label ?_)
    refine awp_cond (b := false) (by simp -dsimp -implicitDefEqProofs only [push_cast, ↓trAdd_f, ↓stOf_f, seval]) (fun h => ?_) (fun h => ?_)
    · simp at h
    refine awp_skip ?_
    refine le_intro hB [] (by simp) (fun b _ => rfl) rfl ?_ ?_ rfl <;> simp -dsimp -implicitDefEqProofs only [push_cast, ↓trAdd_f, ↓stOf_f, seval]
  refine raw_seq (s := { sl := [(0, .sl false 3 ([u0, u1].map encStream)), (1, .sl false 1 ([b0, b1].map encI)), (2, .int .i64 until_)], st := [], nx := 0, n := 92 }) (N' := fun s1 => s1.le B { sl := [(0, .sl false 3 ([u0, u1].map encStream)), (1, .sl false 1 ([b0, b1].map encI)), (2, .int .i64 until_), (7, .sl true 1 [])], st := [], nx := 0, n := 92 }) ?_ (fun s1 hle a w hs1 => ?_) a w (hle a w hs1)
  · try refine hK _ ?_
    repeat (first | refine awp_seq ?_ | refine awp_block ?_ | refine awp_skip ?_ | refine awp_scope ?_ | refine awp_label ?_)
    refine awp_region tabOk fun K hK => ?_
    simp -dsimp -implicitDefEqProofs only [push_cast, ↓trAdd_f, ↓stOf_f, seval]
    refine hK _ ?_
    refine le_intro hB [] (by simp) (fun b _ => rfl) rfl ?_ ?_ rfl <;> simp -dsimp -implicitDefEqProofs only [push_cast, ↓trAdd_f, ↓stOf_f, seval]
  refine raw_seq (s := { sl := [(0, .sl false 3 ([u0, u1].map encStream)), (1, .sl false 1 ([b0, b1].map encI)), (2, .int .i64 until_), (7, .sl true 1 [])], st := [], nx := 0, n := 92 }) (N' := fun s1 => (∀ b ∈ ([b0, b1] : List Int), 0 ≤ b ∧ b ≤ 1000000) ∧ s1.le B { sl := [(0, .sl false 3 ([u0, u1].map encStream)), (1, .sl false 1 ([b0, b1].map encI)), (2, .int .i64 until_), (7, .own 150 1 0 2)], st := [(100, .box [.int .i64 u0.bits, .int .i64 u0.period, .int .i64 u0.jitter, .int .i64 0, .int .i64 b0, .int .i64 b0, .int .i64 0]), (101, .box [.int .i64 u1.bits, .int .i64 u1.period, .int .i64 u1.jitter, .int .i64 0, .int .i64 b1, .int .i64 b1, .int .i64 0]), (150, .row 1 [[.ptr 100 0], [.ptr 101 0]])], nx := 200, n := 92 }) ?_ (fun s1 hle a w hs1 => ?_) a w (hle a w hs1)
  · try refine hK _ ?_
    repeat (first | refine awp_seq ?_ | refine awp_block ?_ | refine awp_skip ?_ | refine awp_scope ?_ | refine awp_label ?_)
    refine awp_region tabOk fun K hK => ?_
    simp -dsimp -implicitDefEqProofs only [push_cast, ↓trAdd_f, ↓stOf_f, seval]
    refine hK _ (awp_block ?_)
    refine awp_for (fun k : Nat => pl2S u0 u1 b0 b1 until_ k) (fun k => k ≤ 2 ∧ ∀ b ∈ ([b0, b1] : List Int).take k, 0 ≤ b ∧ b ≤ 1000000) (fun k => 2 - k) 0 ⟨Nat.zero_le _, by simp⟩ ?_ fun k hk => ?_
    · simp only [pl2S]
      refine le_intro hB [] (by simp) (fun b _ => rfl) rfl ?_ ?_ rfl <;> simp -dsimp -implicitDefEqProofs only [push_cast, ↓trAdd_f, ↓stOf_f, seval]
    obtain ⟨hk, hbs⟩ := hk
    have : k = 0 ∨ k = 1 ∨ k = 2 := by omega
    rcases this with rfl | rfl | rfl
    · simp only [pl2S]
      try refine hK _ ?_
      repeat (first | refine awp_seq ?_ | refine awp_block ?_ | refine awp_skip ?_ | refine awp_scope ?_ | refine awp_label ?_)
      refine awp_region tabOk fun K hK => ?_
      simp -dsimp -implicitDefEqProofs only [push_cast, ↓trAdd_f, ↓stOf_f, seval]
      try refine hK _ ?_
      repeat (first | refine awp_seq ?_ | refine awp_block ?_ | refine awp_skip ?_ | refine awp_scope ?_ | refine awp_label ?_)
      refine awp_cond (b := true) (by simp -dsimp -implicitDefEqProofs only [push_cast, ↓trAdd_f, ↓stOf_f, seval]) (fun h => ?_) (fun h => ?_)
      · try refine hK _ ?_
        repeat (first | refine awp_seq ?_ | refine awp_block ?_ | refine awp_skip ?_ | refine awp_scope ?_ | refine awp_label ?_)
        refine awp_region tabOk fun K hK => ?_
        simp -dsimp -implicitDefEqProofs only [tn1, tn2, tn3, tn4, encStream, push_cast, ↓trAdd_f, ↓stOf_f, seval]
        cases hb : decide (0 ≤ b0) && decide (b0 ≤ 1000000) with
        | false =>
          have e : playZ [u0, u1] [b0, b1] until_ = [] := by
            unfold playZ
            rw [if_neg]
            rintro ⟨_, _, _, _, h5⟩
            have := h5 b0 (by simp)
            simp at hb; omega
          try refine hK _ ?_
          repeat (first | refine awp_seq ?_ | refine awp_block ?_ | refine awp_skip ?_ | refine awp_scope ?_ | refine awp_label ?_)
          refine awp_region tabOk fun K hK => ?_
          simp -dsimp -implicitDefEqProofs only [tn1, tn2, tn3, tn4, encI, push_cast, ↓trAdd_f, ↓stOf_f, seval]
          refine callK_simple (within_ok b0 0 1000000) ?_ rfl fun _ => ?_
          · simp -dsimp -implicitDefEqProofs only [push_cast, List.mem_append, List.mem_cons, List.mem_singleton, forall_eq_or_imp, forall_eq, ↓trAdd_f, ↓stOf_f, seval]
          rw [hb]
          simp -dsimp -implicitDefEqProofs only [push_cast, ↓trAdd_f, ↓stOf_f, seval]
          try refine hK _ ?_
          repeat (first | refine awp_seq ?_ | refine awp_block ?_ | refine awp_skip ?_ | refine awp_scope ?_ | refine awp_label ?_)
          refine awp_cond (b := true) (by simp -dsimp -implicitDefEqProofs only [push_cast, ↓trAdd_f, ↓stOf_f, seval]) (fun h => ?_) (fun h => ?_)
          · try refine hK _ ?_
            repeat (first | refine awp_seq ?_ | refine awp_block ?_ | refine awp_skip ?_ | refine awp_scope ?_ | refine awp_label ?_)
            refine awp_region tabOk fun K hK => ?_
            simp -dsimp -implicitDefEqProofs only [push_cast, ↓trAdd_f, ↓stOf_f, seval]
            refine hK _ (awp_ret ?_)
            rw [e]
            simp -dsimp -implicitDefEqProofs only [push_cast, List.mem_append, List.mem_cons, List.mem_singleton, forall_eq_or_imp, forall_eq, ↓trAdd_f, ↓stOf_f, seval]
          · simp at h
        | true =>
          have hbk : 0 ≤ b0 ∧ b0 ≤ 1000000 := by simpa using hb
          try refine hK _ ?_
          repeat (first | refine awp_seq ?_ | refine awp_block ?_ | refine awp_skip ?_ | refine awp_scope ?_ | refine awp_label ?_)
          refine awp_region tabOk fun K hK => ?_
          simp -dsimp -implicitDefEqProofs only [tn1, tn2, tn3, tn4, encI, push_cast, ↓trAdd_f, ↓stOf_f, seval]
          refine callK_simple (within_ok b0 0 1000000) ?_ rfl fun _ => ?_
          · simp -dsimp -implicitDefEqProofs only [push_cast, List.mem_append, List.mem_cons, List.mem_singleton, forall_eq_or_imp, forall_eq, ↓trAdd_f, ↓stOf_f, seval]
          rw [hb]
          simp -dsimp -implicitDefEqProofs only [push_cast, ↓trAdd_f, ↓stOf_f, seval]
          try refine hK _ ?_
          repeat (first | refine awp_seq ?_ | refine awp_block ?_ | refine awp_skip ?_ | refine awp_scope ?_ | refine awp_label ?_)
          refine awp_cond (b := false) (by simp -dsimp -implicitDefEqProofs only [push_cast, ↓trAdd_f, ↓stOf_f, seval]) (fun h => ?_) (fun h => ?_)
          · simp at h
          clear h
          refine awp_skip ?_
          try refine hK _ ?_
          repeat (first | refine awp_seq ?_ | refine awp_block ?_ | refine awp_skip ?_ | refine awp_scope ?_ | refine awp_label ?_)
          refine awp_draw tabOk (by kernel_rfl) (by kernel_rfl) fun K hK C hC => ?_
          simp -dsimp -implicitDefEqProofs only [tn1, tn2, tn3, tn4, encI, encStream, push_cast, ↓trAdd_f, ↓stOf_f, seval]
          refine ⟨hC _ (by kernel_rfl), ?_⟩
          clear hC C
          try refine hK _ ?_
          repeat (first | refine awp_seq ?_ | refine awp_block ?_ | refine awp_skip ?_ | refine awp_scope ?_ | refine awp_label ?_)
          refine awp_region tabOk fun K hK => ?_
          simp -dsimp -implicitDefEqProofs only [push_cast, ↓trAdd_f, ↓stOf_f, seval]
          try simp (disch := omega) only [wrap_i64, wrap_u8, wrap_u16, wrap_u32]
          refine hK _ ⟨1, ⟨by decide, ?_⟩, by decide, ?_⟩
          · intro b hb
            rcases List.mem_append.1 (show b ∈ ([b0, b1] : List Int).take 0 ++ [b0] from hb) with hb | hb
            · exact hbs b hb
            · simp at hb; subst hb; exact hbk
          simp only [pl2S]
          refine le_intro hB [(100, 392), (150, 408)] (by simp) (fun b hb => absurd hb (Nat.not_lt_zero b)) rfl ?_ ?_ rfl <;> simp -dsimp -implicitDefEqProofs only [encStream, encI, push_cast, ↓trAdd_f, ↓stOf_f, seval]
      · simp at h
    · simp only [pl2S]
      try refine hK _ ?_
      repeat (first | refine awp_seq ?_ | refine awp_block ?_ | refine awp_skip ?_ | refine awp_scope ?_ | refine awp_label ?_)
      refine awp_region tabOk fun K hK => ?_
      simp -dsimp -implicitDefEqProofs only [push_cast, ↓trAdd_f, ↓stOf_f, seval]
      try refine hK _ ?_
      repeat (first | refine awp_seq ?_ | refine awp_block ?_ | refine awp_skip ?_ | refine awp_scope ?_ | refine awp_label ?_)
      refine awp_cond (b := true) (by simp -dsimp -implicitDefEqProofs only [push_cast, ↓trAdd_f, ↓stOf_f, seval]) (fun h => ?_) (fun h => ?_)
      · try refine hK _ ?_
        repeat (first | refine awp_seq ?_ | refine awp_block ?_ | refine awp_skip ?_ | refine awp_scope ?_ | refine awp_label ?_)
        refine awp_region tabOk fun K hK => ?_
        simp -dsimp -implicitDefEqProofs only [tn1, tn2, tn3, tn4, encStream, push_cast, ↓trAdd_f, ↓stOf_f, seval]
        cases hb : decide (0 ≤ b1) && decide (b1 ≤ 1000000) with
        | false =>
          have e : playZ [u0, u1] [b0, b1] until_ = [] := by
            unfold playZ
            rw [if_neg]
            rintro ⟨_, _, _, _, h5⟩
            have := h5 b1 (by simp)
            simp at hb; omega
          try refine hK _ ?_
          repeat (first | refine awp_seq ?_ | refine awp_block ?_ | refine awp_skip ?_ | refine awp_scope ?_ | refine awp_label ?_)
          refine awp_region tabOk fun K hK => ?_
          simp -dsimp -implicitDefEqProofs only [tn1, tn2, tn3, tn4, encI, push_cast, ↓trAdd_f, ↓stOf_f, seval]
          refine callK_simple (within_ok b1 0 1000000) ?_ rfl fun _ => ?_
          · simp -dsimp -implicitDefEqProofs only [push_cast, List.mem_append, List.mem_cons, List.mem_singleton, forall_eq_or_imp, forall_eq, ↓trAdd_f, ↓stOf_f, seval]
          rw [hb]
          simp -dsimp -implicitDefEqProofs only [push_cast, ↓trAdd_f, ↓stOf_f, seval]
          try refine hK _ ?_
          repeat (first | refine awp_seq ?_ | refine awp_block ?_ | refine awp_skip ?_ | refine awp_scope ?_ | refine awp_label ?_)
          refine awp_cond (b := true) (by simp -dsimp -implicitDefEqProofs only [push_cast, ↓trAdd_f, ↓stOf_f, seval]) (fun h => ?_) (fun h => ?_)
          · try refine hK _ ?_
            repeat (first | refine awp_seq ?_ | refine awp_block ?_ | refine awp_skip ?_ | refine awp_scope ?_ | refine awp_label ?_)
            refine awp_region tabOk fun K hK => ?_
            simp -dsimp -implicitDefEqProofs only [push_cast, ↓trAdd_f, ↓stOf_f, seval]
            refine hK _ (awp_ret ?_)
            rw [e]
            simp -dsimp -implicitDefEqProofs only [push_cast, List.mem_append, List.mem_cons, List.mem_singleton, forall_eq_or_imp, forall_eq, ↓trAdd_f, ↓stOf_f, seval]
          · simp at h
        | true =>
          have hbk : 0 ≤ b1 ∧ b1 ≤ 1000000 := by simpa using hb
          try refine hK _ ?_
          repeat (first | refine awp_seq ?_ | refine awp_block ?_ | refine awp_skip ?_ | refine awp_scope ?_ | refine awp_label ?_)
          refine awp_region tabOk fun K hK => ?_
          simp -dsimp -implicitDefEqProofs only [tn1, tn2, tn3, tn4, encI, push_cast, ↓trAdd_f, ↓stOf_f, seval]
          refine callK_simple (within_ok b1 0 1000000) ?_ rfl fun _ => ?_
          · simp -dsimp -implicitDefEqProofs only [push_cast, List.mem_append, List.mem_cons, List.mem_singleton, forall_eq_or_imp, forall_eq, ↓trAdd_f, ↓stOf_f, seval]
          rw [hb]
          simp -dsimp -implicitDefEqProofs only [push_cast, ↓trAdd_f, ↓stOf_f, seval]
          try refine hK _ ?_
          repeat (first | refine awp_seq ?_ | refine awp_block ?_ | refine awp_skip ?_ | refine awp_scope ?_ | refine awp_label ?_)
          refine awp_cond (b := false) (by simp -dsimp -implicitDefEqProofs only [push_cast, ↓trAdd_f, ↓stOf_f, seval]) (fun h => ?_) (fun h => ?_)
          · simp at h
          clear h
          refine awp_skip ?_
          try refine hK _ ?_
          repeat (first | refine awp_seq ?_ | refine awp_block ?_ | refine awp_skip ?_ | refine awp_scope ?_ | refine awp_label ?_)
          refine awp_draw tabOk (by kernel_rfl) (by kernel_rfl) fun K hK C hC => ?_
          simp -dsimp -implicitDefEqProofs only [tn1, tn2, tn3, tn4, encI, encStream, push_cast, ↓trAdd_f, ↓stOf_f, seval]
          refine ⟨hC _ (by kernel_rfl), ?_⟩
          clear hC C
          try refine hK _ ?_
          repeat (first | refine awp_seq ?_ | refine awp_block ?_ | refine awp_skip ?_ | refine awp_scope ?_ | refine awp_label ?_)
          refine awp_region tabOk fun K hK => ?_
          simp -dsimp -implicitDefEqProofs only [push_cast, ↓trAdd_f, ↓stOf_f, seval]
          try simp (disch := omega) only [wrap_i64, wrap_u8, wrap_u16, wrap_u32]
          refine hK _ ⟨2, ⟨by decide, ?_⟩, by decide, ?_⟩
          · intro b hb
            rcases List.mem_append.1 (show b ∈ ([b0, b1] : List Int).take 1 ++ [b1] from hb) with hb | hb
            · exact hbs b hb
            · simp at hb; subst hb; exact hbk
          simp only [pl2S]
          refine le_intro hB [(101, 392), (150, 408)] (by simp) (fun b hb => absurd hb (Nat.not_lt_zero b)) rfl ?_ ?_ rfl <;> simp -dsimp -implicitDefEqProofs only [encStream, encI, push_cast, ↓trAdd_f, ↓stOf_f, seval]
      · simp at h
    · simp only [pl2S]
      try refine hK _ ?_
      repeat (first | refine awp_seq ?_ | refine awp_block ?_ | refine awp_skip ?_ | refine awp_scope ?_ | refine awp_label ?_)
      refine awp_region tabOk fun K hK => ?_
      simp -dsimp -implicitDefEqProofs only [push_cast, ↓trAdd_f, ↓stOf_f, seval]
      try refine hK _ ?_
      repeat (first | refine awp_seq ?_ | refine awp_block ?_ | refine awp_skip ?_ | refine awp_scope ?_ | refine awp_label ?_)
      refine awp_cond (b := false) (by simp -dsimp -implicitDefEqProofs only [push_cast, ↓trAdd_f, ↓stOf_f, seval]) (fun h => ?_) (fun h => ?_)
      · simp at h
      refine awp_exit rfl ⟨hbs, ?_⟩
      refine le_intro hB [] (by simp) (fun b _ => rfl) rfl ?_ ?_ rfl <;> simp -dsimp -implicitDefEqProofs only [push_cast, ↓trAdd_f, ↓stOf_f, seval]
  obtain ⟨hball, hle⟩ := hle
  have p : PlayOk [u0, u1] [b0, b1] until_ := ⟨hs, hl16, hball, rfl, hu0, hu1⟩
  have hz : playZ [u0, u1] [b0, b1] until_ = (playN until_ fuel0 0 [{ s := u0, b := b0, q := 0, late := 0 }, { s := u1, b := b1, q := 0, late := 0 }]).map (·.late) := playZ_ok hr p
  have hX : PInv [u0, u1] [b0, b1] until_ fuel0 0 [{ s := u0, b := b0, q := 0, late := 0 }, { s := u1, b := b1, q := 0, late := 0 }] := pinv_first p
  have hsent := fun lp rec hY => sentf2_ok p rfl lp rec hY ({ s := u0, b := b0, q := 0, late := 0 }) ({ s := u1, b := b1, q := 0, late := 0 }) hX
  have hYl : (playN until_ fuel0 0 [{ s := u0, b := b0, q := 0, late := 0 }, { s := u1, b := b1, q := 0, late := 0 }]).length = 2 := by rw [playN_len]; rfl
  rw [hz]
  generalize playN until_ fuel0 0 [{ s := u0, b := b0, q := 0, late := 0 }, { s := u1, b := b1, q := 0, late := 0 }] = Y at *
  obtain ⟨y0, y1, rfl⟩ : ∃ y0 y1, Y = [y0, y1] := by
    match Y, hYl with
    | [y0, y1], _ => exact ⟨y0, y1, rfl⟩
  refine raw_seq2 (s := { sl := [(0, .sl false 3 ([u0, u1].map encStream)), (1, .sl false 1 ([b0, b1].map encI)), (2, .int .i64 until_), (7, .own 150 1 0 2)], st := [(100, .box [.int .i64 u0.bits, .int .i64 u0.period, .int .i64 u0.jitter, .int .i64 0, .int .i64 b0, .int .i64 b0, .int .i64 0]), (101, .box [.int .i64 u1.bits, .int .i64 u1.period, .int .i64 u1.jitter, .int .i64 0, .int .i64 b1, .int .i64 b1, .int .i64 0]), (150, .row 1 [[.ptr 100 0], [.ptr 101 0]])], nx := 200, n := 92 }) (N' := fun s1 => s1.le B { sl := [(60, .fn (.func 32) [] [.ptr 160 0, .ptr 161 0]), (7, .own 150 1 0 2)], st := [(100, .box [.int .i64 u0.bits, .int .i64 u0.period, .int .i64 u0.jitter, .int .i64 0, .int .i64 b0, .int .i64 b0, .int .i64 0]), (101, .box [.int .i64 u1.bits, .int .i64 u1.period, .int .i64 u1.jitter, .int .i64 0, .int .i64 b1, .int .i64 b1, .int .i64 0]), (150, .row 1 [[.ptr 100 0], [.ptr 101 0]]), (160, .box [.own 150 1 0 2]), (161, .box [.int .i64 until_])], nx := 208, n := 92 }) ?_ (fun s1 hle a w hs1 => ?_) a w (hle a w hs1)
  · try refine hK _ ?_
    repeat (first | refine awp_seq ?_ | refine awp_block ?_ | refine awp_skip ?_ | refine awp_scope ?_ | refine awp_label ?_)
    refine awp_region tabOk fun K hK => ?_
    simp -dsimp -implicitDefEqProofs only [push_cast, ↓trAdd_f, ↓stOf_f, seval]
    refine ⟨29, [], [], { args := [.own 2 1 0 2, .int .i64 until_], st0 := [(0, .box (encQ { s := u0, b := b0, q := 0, late := 0 })), (1, .box (encQ { s := u1, b := b1, q := 0, late := 0 })), (2, .row 1 [[.ptr 0 0], [.ptr 1 0]])], res := .fn (.func 32) [] [.ptr 3 0, .ptr 4 0], st1 := [(0, .box (encQ { s := u0, b := b0, q := 0, late := 0 })), (1, .box (encQ { s := u1, b := b1, q := 0, late := 0 })), (2, .row 1 [[.ptr 0 0], [.ptr 1 0]]), (3, .box [.own 2 1 0 2]), (4, .box [.int .i64 until_])], r := [100, 101, 150] }, rfl, sent2_ok ({ s := u0, b := b0, q := 0, late := 0 }) ({ s := u1, b := b1, q := 0, late := 0 }) until_, ?_, ?_⟩
    · simp only [encQ, due0, wts0, Int.natCast_zero]
      simp -dsimp -implicitDefEqProofs only [push_cast, List.mem_append, List.mem_cons, List.mem_singleton, forall_eq_or_imp, forall_eq, ↓trAdd_f, ↓stOf_f, seval]
      all_goals exact rfl
    simp only [encQ, due0, wts0, Int.natCast_zero]
    simp -dsimp -implicitDefEqProofs only [push_cast, ↓trAdd_f, ↓stOf_f, seval]
    refine hK _ ?_
    refine le_intro hB [(160, 216), (161, 217)] (by simp) (fun b hb => absurd hb (Nat.not_lt_zero b)) rfl ?_ ?_ rfl <;> simp -dsimp -implicitDefEqProofs only [push_cast, ↓trAdd_f, ↓stOf_f, seval]
  refine range_wp (ι := YI) (co := coY) (x0 := fun _ => .ptr 0 0) (x1 := fun i => .int .i64 i.1.2) (cg := fun lp => { args := [.fn (.yield lp) [] [], .ptr 3 0, .ptr 4 0], st0 := [(0, .box (encQ { s := u0, b := b0, q := 0, late := 0 })), (1, .box (encQ { s := u1, b := b1, q := 0, late := 0 })), (2, .row 1 [[.ptr 0 0], [.ptr 1 0]]), (3, .box [.own 2 1 0 2]), (4, .box [.int .i64 until_])], res := .tup [], st1 := [(0, .box (encQ y0)), (1, .box (encQ y1)), (2, .row 1 [[.ptr 0 0], [.ptr 1 0]]), (3, .box [.own 2 1 0 2]), (4, .box [.int .i64 until_])], r := [100, 101, 150, 160, 161] }) (s := { sl := [(60, .fn (.func 32) [] [.ptr 160 0, .ptr 161 0]), (7, .own 150 1 0 2)], st := [(100, .box [.int .i64 u0.bits, .int .i64 u0.period, .int .i64 u0.jitter, .int .i64 0, .int .i64 b0, .int .i64 b0, .int .i64 0]), (101, .box [.int .i64 u1.bits, .int .i64 u1.period, .int .i64 u1.jitter, .int .i64 0, .int .i64 b1, .int .i64 b1, .int .i64 0]), (150, .row 1 [[.ptr 100 0], [.ptr 101 0]]), (160, .box [.own 150 1 0 2]), (161, .box [.int .i64 until_])], nx := 208, n := 92 }) (n0 := 0) (cap := [.ptr 160 0, .ptr 161 0]) (gf := 32) hB hds rfl (by decide) (by show 61 < 92; decide) (by show 62 < 92; decide) (fun i => ⟨rfl, rfl⟩) (fun l i B hB => ?_) (fun lp rec hY => hsent lp rec hY) (fun lp => ?_) (fun lp B hB => ?_) a w (hle a w hs1)
  · obtain ⟨⟨x, e⟩, hx, he0, he1⟩ := i
    have hdd : 0 ≤ x.due ∧ x.due ≤ 11000000000000 := hx.due
    have he0' : 0 ≤ e := he0
    have he1' : e ≤ 50000000000 := he1
    have hw : IntKind.i64.wrap (e - x.due) = e - x.due := wrap_i64 (by omega) (by omega)
    simp only [coY, roundS, encQ, encQL] at *
    refine awpR_seq (awpR_region tabOk rfl fun K hK => ?_)
    simp -dsimp -implicitDefEqProofs only [push_cast, ↓trAdd_f, ↓stOf_f, seval]
    refine hK _ (awpR_region tabOk rfl fun K hK => ?_)
    simp -dsimp -implicitDefEqProofs only [push_cast, ↓trAdd_f, ↓stOf_f, seval]
    refine hK _ (fun B1 hB1 => awpR_block (awpR_draw tabOk (by kernel_rfl) rfl (by kernel_rfl) fun K hK C hC => ?_))
    simp -dsimp -implicitDefEqProofs only [hw, push_cast, ↓trAdd_f, ↓stOf_f, seval]
    refine ⟨hC _ (by kernel_rfl), hK _ ?_⟩
    simp -dsimp -implicitDefEqProofs only [push_cast, List.mem_append, List.mem_cons, List.mem_singleton, forall_eq_or_imp, forall_eq, ↓trAdd_f, ↓stOf_f, seval]
  · simp only [encQ, due0, wts0, Int.natCast_zero]
    simp -dsimp -implicitDefEqProofs only [push_cast, List.mem_append, List.mem_cons, List.mem_singleton, forall_eq_or_imp, forall_eq, ↓trAdd_f, ↓stOf_f, seval]
    all_goals exact rfl
  · simp only [encQ, due0, wts0, Int.natCast_zero]
    simp -dsimp -implicitDefEqProofs only [push_cast, ↓trAdd_f, ↓stOf_f, seval]
    try refine hK _ ?_
    repeat (first | refine awp_seq ?_ | refine awp_block ?_ | refine awp_skip ?_ | refine awp_scope ?_ | refine awp_label ?_)
    refine awp_region tabOk fun K hK => ?_
    simp -dsimp -implicitDefEqProofs only [push_cast, ↓trAdd_f, ↓stOf_f, seval]
    try refine hK _ ?_
    repeat (first | refine awp_seq ?_ | refine awp_block ?_ | refine awp_skip ?_ | refine awp_scope ?_ | refine awp_label ?_)
    refine awp_region tabOk fun K hK => ?_
    simp -dsimp -implicitDefEqProofs only [push_cast, ↓trAdd_f, ↓stOf_f, seval]
    refine hK _ (awp_block ?_)
    refine awp_for (fun k : Nat => pl2O y0 y1 k) (fun k => k ≤ 2) (fun k => 2 - k) 0 (Nat.zero_le _) ?_ fun k hk => ?_
    · simp only [pl2O, encQ]
      refine le_intro hB [] (by simp) (fun b _ => rfl) rfl ?_ ?_ rfl <;> simp -dsimp -implicitDefEqProofs only [push_cast, ↓trAdd_f, ↓stOf_f, seval]
    have : k = 0 ∨ k = 1 ∨ k = 2 := by omega
    rcases this with rfl | rfl | rfl
    · simp only [pl2O, encQ]
      try refine hK _ ?_
      repeat (first | refine awp_seq ?_ | refine awp_block ?_ | refine awp_skip ?_ | refine awp_scope ?_ | refine awp_label ?_)
      refine awp_region tabOk fun K hK => ?_
      simp -dsimp -implicitDefEqProofs only [push_cast, ↓trAdd_f, ↓stOf_f, seval]
      try refine hK _ ?_
      repeat (first | refine awp_seq ?_ | refine awp_block ?_ | refine awp_skip ?_ | refine awp_scope ?_ | refine awp_label ?_)
      refine awp_cond (b := true) (by simp -dsimp -implicitDefEqProofs only [push_cast, ↓trAdd_f, ↓stOf_f, seval]) (fun h => ?_) (fun h => ?_)
      · try refine hK _ ?_
        repeat (first | refine awp_seq ?_ | refine awp_block ?_ | refine awp_skip ?_ | refine awp_scope ?_ | refine awp_label ?_)
        refine awp_region tabOk fun K hK => ?_
        simp -dsimp -implicitDefEqProofs only [tn1, tn2, tn3, tn4, push_cast, ↓trAdd_f, ↓stOf_f, seval]
        try refine hK _ ?_
        repeat (first | refine awp_seq ?_ | refine awp_block ?_ | refine awp_skip ?_ | refine awp_scope ?_ | refine awp_label ?_)
        refine awp_region tabOk fun K hK => ?_
        simp -dsimp -implicitDefEqProofs only [push_cast, ↓trAdd_f, ↓stOf_f, seval]
        try refine hK _ ?_
        repeat (first | refine awp_seq ?_ | refine awp_block ?_ | refine awp_skip ?_ | refine awp_scope ?_ | refine awp_label ?_)
        refine awp_region tabOk fun K hK => ?_
        simp -dsimp -implicitDefEqProofs only [push_cast, ↓trAdd_f, ↓stOf_f, seval]
        try simp (disch := omega) only [wrap_i64, wrap_u8, wrap_u16, wrap_u32]
        refine hK _ ⟨1, by decide, by decide, ?_⟩
        simp only [pl2O, encQ]
        refine le_intro hB [(170, 480)] (by simp) (fun b hb => absurd hb (Nat.not_lt_zero b)) rfl ?_ ?_ rfl <;> simp -dsimp -implicitDefEqProofs only [push_cast, ↓trAdd_f, ↓stOf_f, seval]
      · simp at h
    · simp only [pl2O, encQ]
      try refine hK _ ?_
      repeat (first | refine awp_seq ?_ | refine awp_block ?_ | refine awp_skip ?_ | refine awp_scope ?_ | refine awp_label ?_)
      refine awp_region tabOk fun K hK => ?_
      simp -dsimp -implicitDefEqProofs only [push_cast, ↓trAdd_f, ↓stOf_f, seval]
      try refine hK _ ?_
      repeat (first | refine awp_seq ?_ | refine awp_block ?_ | refine awp_skip ?_ | refine awp_scope ?_ | refine awp_label ?_)
      refine awp_cond (b := true) (by simp -dsimp -implicitDefEqProofs only [push_cast, ↓trAdd_f, ↓stOf_f, seval]) (fun h => ?_) (fun h => ?_)
      · try refine hK _ ?_
        repeat (first | refine awp_seq ?_ | refine awp_block ?_ | refine awp_skip ?_ | refine awp_scope ?_ | refine awp_label ?_)
        refine awp_region tabOk fun K hK => ?_
        simp -dsimp -implicitDefEqProofs only [tn1, tn2, tn3, tn4, push_cast, ↓trAdd_f, ↓stOf_f, seval]
        try refine hK _ ?_
        repeat (first | refine awp_seq ?_ | refine awp_block ?_ | refine awp_skip ?_ | refine awp_scope ?_ | refine awp_label ?_)
        refine awp_region tabOk fun K hK => ?_
        simp -dsimp -implicitDefEqProofs only [push_cast, ↓trAdd_f, ↓stOf_f, seval]
        try refine hK _ ?_
        repeat (first | refine awp_seq ?_ | refine awp_block ?_ | refine awp_skip ?_ | refine awp_scope ?_ | refine awp_label ?_)
        refine awp_region tabOk fun K hK => ?_
        simp -dsimp -implicitDefEqProofs only [push_cast, ↓trAdd_f, ↓stOf_f, seval]
        try simp (disch := omega) only [wrap_i64, wrap_u8, wrap_u16, wrap_u32]
        refine hK _ ⟨2, by decide, by decide, ?_⟩
        simp only [pl2O, encQ]
        refine le_intro hB [(170, 480)] (by simp) (fun b hb => absurd hb (Nat.not_lt_zero b)) rfl ?_ ?_ rfl <;> simp -dsimp -implicitDefEqProofs only [push_cast, ↓trAdd_f, ↓stOf_f, seval]
      · simp at h
    · simp only [pl2O, encQ]
      try refine hK _ ?_
      repeat (first | refine awp_seq ?_ | refine awp_block ?_ | refine awp_skip ?_ | refine awp_scope ?_ | refine awp_label ?_)
      refine awp_region tabOk fun K hK => ?_
      simp -dsimp -implicitDefEqProofs only [push_cast, ↓trAdd_f, ↓stOf_f, seval]
      try refine hK _ ?_
      repeat (first | refine awp_seq ?_ | refine awp_block ?_ | refine awp_skip ?_ | refine awp_scope ?_ | refine awp_label ?_)
      refine awp_cond (b := false) (by simp -dsimp -implicitDefEqProofs only [push_cast, ↓trAdd_f, ↓stOf_f, seval]) (fun h => ?_) (fun h => ?_)
      · simp at h
      refine awp_exit rfl ?_
      try refine hK _ ?_
      repeat (first | refine awp_seq ?_ | refine awp_block ?_ | refine awp_skip ?_ | refine awp_scope ?_ | refine awp_label ?_)
      refine awp_region tabOk fun K hK => ?_
      simp -dsimp -implicitDefEqProofs only [push_cast, ↓trAdd_f, ↓stOf_f, seval]
      refine hK _ (awp_ret ?_)
      simp -dsimp -implicitDefEqProofs only [encI, push_cast, List.mem_append, List.mem_cons, List.mem_singleton, forall_eq_or_imp, forall_eq, ↓trAdd_f, ↓stOf_f, seval]


end Go.Proofs.YtahkpghgjjlgdaaFw
