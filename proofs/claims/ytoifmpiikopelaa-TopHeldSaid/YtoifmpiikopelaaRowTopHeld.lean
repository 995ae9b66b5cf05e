/-
  The row of the law TopHeld: for every input that can be read the call returns true and each argument reads as before; out of the walk of its code.
-/
import Derived.Test.YtoifmpiikopelaaRows
import Derived.Test.YtoifmpiikopelaaJ5
import Derived.WalkKit
import Derived.ProofKit
import Derived.OpenShut
import Derived.ShutString
import Derived.ChangeOld
import Derived.Below
import Derived.SizedLaws
namespace Go.Proofs.Ytoifmpiikopelaa.topHeld
open Go Go.ChangeShapes Go.WideShapes Go.ChangeAt Go.RowKit Go.Proofs
open Go.Proofs.YtoifmpiikopelaaFw (law_calls rf_cell rf_agg)
set_option linter.unusedVariables false
set_option linter.unusedSimpArgs false
theorem own : ownKnob Try.prog.godebug = none := by kernel_rfl
theorem laidOut : laidOutB Try.prog = true := by kernel_rfl
set_option maxHeartbeats 2000000 in
set_option maxRecDepth 100000 in
theorem lifted (os : Os) (started : os.Started) (H : Type) (enc : TypeId × Value → H) :
    ReturnsInHanded {} Try.checked os 3 .any (Rows.topHeldSpec.pre6 enc Try.prog Try.f3 Rows.topHeldRow.domain false) (Rows.topHeldSpec.post enc Try.prog Try.f3 false true false false) := by
  refine returnsInHanded_of_change_sized (C := Try.checked) own started (by kernel_rfl) Try.func3
    (ChangeSpec.witness6 (enc := enc) (C := Try.checked) false ⟨#[], #[.slice none 0 0, .int .u16 0], []⟩ 8 (by kernel_rfl) (by kernel_rfl) (by kernel_rfl) (by kernel_rfl)) ?_
  intro W base args ds gs before hval0 hW hcnd hsz0 _
  have hsz : (DataW.weightsEach Try.prog (Try.f3.params.toList ++ Rows.topHeldSpec.plain.varTypes Try.prog) (ds ++ gs)).all (· ≤ reachBytes) = true := hsz0
  have hval : ∀ (j : Nat) t v, Try.f3.params[j]? = some t → args[j]? = some v → Value.okWide Try.prog W .any base t v := hval0
  have hW' := hW
  obtain ⟨p, q, hA0, hV, rfl, hfz, hnd⟩ := hW
  have hA : DataW.TrodAll enc Try.prog W 0 (fun _ => true) true Try.f3.params.toList args.toList ds p := hA0
  rw [Try.params3] at hA hval hsz
  obtain ⟨v0, vs0, d0, ds0, p0, q0, hargs, rfl, rfl, h0, r0⟩ := trodAll_cons hA
  obtain ⟨v1, vs1, d1, ds1, p1, q1, rfl, rfl, rfl, h1, r1⟩ := trodAll_cons r0
  obtain ⟨rfl, rfl, rfl⟩ := trodAll_nil r1
  obtain rfl : args = #[v0, v1] := by cases args; simp_all
  obtain ⟨rfl, rfl⟩ := trodVars_none hV
  have lt0 : ∀ x ∈ p0, x.block < W.heap.size := by obtain ⟨m, hm⟩ := h0; exact DataW.trod_lt m _ _ _ hm
  obtain ⟨y0, hK0, ok0⟩ := Go.Proofs.YtoifmpiikopelaaFw.opens_arg (j := 0) (t := 22) Go.Proofs.YtoifmpiikopelaaFw.opens22 hsz rfl rfl h0
  obtain ⟨a0, len0, cap0, rfl⟩ := okWide_slice Try.underlying22 (hval 0 22 v0 rfl rfl)
  have rf0 := rf_cell hK0 rfl
  have lt1 : ∀ x ∈ p1, x.block < W.heap.size := by obtain ⟨m, hm⟩ := h1; exact DataW.trod_lt m _ _ _ hm
  obtain ⟨y1, hK1, ok1⟩ := Go.Proofs.YtoifmpiikopelaaFw.opens_arg (j := 1) (t := 23) Go.Proofs.YtoifmpiikopelaaFw.opens23 hsz rfl rfl h1
  obtain ⟨b1, rfl⟩ := okWide_int Try.underlying23 (hval 1 23 v1 rfl rfl)
  have rf1 := rf_cell hK1 rfl
  clear hA0 hval0 hsz0 hsz
  refine (law_calls (Go.Proofs.YtoifmpiikopelaaFw.lawTopHeld y0 y1 ok0 ok1) W _ rfl ?_).mono fun e W' ⟨he, bel⟩ => ?_
  · intro i p v hp hv
    match i with
    | 0 =>
      obtain rfl := Option.some.inj hp
      obtain rfl := Option.some.inj hv
      exact rf0
    | 1 =>
      obtain rfl := Option.some.inj hp
      obtain rfl := Option.some.inj hv
      exact rf1
    | i + 2 => cases hp
  subst he
  exact ⟨_, rfl, _, _, _, [], _, [], hW', trodAll_mk1 (shut_bool Try.underlying4 _), (trodAll_cons_mk (Below.trod laidOut (by kernel_rfl) (of_decide_eq_true (by kernel_rfl)) h0 bel lt0) (trodAll_cons_mk (Below.trod laidOut (by kernel_rfl) (of_decide_eq_true (by kernel_rfl)) h1 bel lt1) trodAll_mk0)), rfl, bel.frame _, fun h => by cases h⟩
theorem over : Rows.topHeldRow.holds Try.pinned (OpenSpec.ofChange Rows.topHeldSpec) :=
  OpenClaim.holds_of_wide 3 Try.f3 rfl rfl rfl rfl rfl rfl rfl ⟨rfl, rfl, rfl, rfl, rfl⟩ rfl rfl rfl rfl rfl (by kernel_rfl) Try.func3 (by kernel_rfl)
    (of_decide_eq_true (by kernel_rfl)) (by unfold Func.isWrapper; first | (rw [if_pos (by decide +kernel)]; kernel_rfl) | (rw [if_neg (by decide +kernel)]; exact ⟨rfl, rfl⟩))
    (fun os started H enc _ => lifted os started H enc)
theorem proved : Rows.TopHeldSaid := over
#print axioms proved
end Go.Proofs.Ytoifmpiikopelaa.topHeld
namespace Go.Proofs.Ytoifmpiikopelaa
/-- The row, under a short name, for the claim. -/
theorem topHeld_holds : Rows.TopHeldSaid := topHeld.proved
end Go.Proofs.Ytoifmpiikopelaa
