/-
  The row of the law FlashCount: for every input that can be read the call returns true and each argument reads as before; out of the walk of its code.
-/
import Derived.Test.YtihippjbbcpggaaRows
import Derived.Test.YtihippjbbcpggaaJ2
import Derived.WalkKit
import Derived.ProofKit
import Derived.OpenShut
import Derived.ShutString
import Derived.ChangeOld
import Derived.Below
import Derived.SizedLaws
namespace Go.Proofs.Ytihippjbbcpggaa.flashCount
open Go Go.ChangeShapes Go.WideShapes Go.ChangeAt Go.RowKit Go.Proofs
open Go.Proofs.YtihippjbbcpggaaFw (law_calls rf_cell rf_agg)
set_option linter.unusedVariables false
set_option linter.unusedSimpArgs false
theorem own : ownKnob Try.prog.godebug = none := by kernel_rfl
theorem laidOut : laidOutB Try.prog = true := by kernel_rfl
set_option maxHeartbeats 2000000 in
set_option maxRecDepth 100000 in
theorem lifted (os : Os) (started : os.Started) (H : Type) (enc : TypeId × Value → H) :
    ReturnsInHanded {} Try.checked os 6 .any (Rows.flashCountSpec.pre6 enc Try.prog Try.f6 Rows.flashCountRow.domain false) (Rows.flashCountSpec.post enc Try.prog Try.f6 false true false false) := by
  refine returnsInHanded_of_change_sized (C := Try.checked) own started (by kernel_rfl) Try.func6
    (ChangeSpec.witness6 (enc := enc) (C := Try.checked) false ⟨#[], #[.agg #[.slice none 0 0, .slice none 0 0, .int .i64 0, .bool false], .int .u8 0], []⟩ 8 (by kernel_rfl) (by kernel_rfl) (by kernel_rfl) (by kernel_rfl)) ?_
  intro W base args ds gs before hval0 hW hcnd hsz0 _
  have hsz : (DataW.weightsEach Try.prog (Try.f6.params.toList ++ Rows.flashCountSpec.plain.varTypes Try.prog) (ds ++ gs)).all (· ≤ reachBytes) = true := hsz0
  have hval : ∀ (j : Nat) t v, Try.f6.params[j]? = some t → args[j]? = some v → Value.okWide Try.prog W .any base t v := hval0
  have hW' := hW
  obtain ⟨p, q, hA0, hV, rfl, hfz, hnd⟩ := hW
  have hA : DataW.TrodAll enc Try.prog W 0 (fun _ => true) true Try.f6.params.toList args.toList ds p := hA0
  rw [Try.params6] at hA hval hsz
  obtain ⟨v0, vs0, d0, ds0, p0, q0, hargs, rfl, rfl, h0, r0⟩ := trodAll_cons hA
  obtain ⟨v1, vs1, d1, ds1, p1, q1, rfl, rfl, rfl, h1, r1⟩ := trodAll_cons r0
  obtain ⟨rfl, rfl, rfl⟩ := trodAll_nil r1
  obtain rfl : args = #[v0, v1] := by cases args; simp_all
  obtain ⟨rfl, rfl⟩ := trodVars_none hV
  have lt0 : ∀ x ∈ p0, x.block < W.heap.size := by obtain ⟨m, hm⟩ := h0; exact DataW.trod_lt m _ _ _ hm
  obtain ⟨y0, hK0, ok0⟩ := Go.Proofs.YtihippjbbcpggaaFw.opens_arg (j := 0) (t := 25) Go.Proofs.YtihippjbbcpggaaFw.opens25 hsz rfl rfl h0
  obtain ⟨cs0, rfl, hn0⟩ := okWide_struct Try.underlying25 (hval 0 25 v0 rfl rfl)
  have rf0 := rf_agg hK0
  have lt1 : ∀ x ∈ p1, x.block < W.heap.size := by obtain ⟨m, hm⟩ := h1; exact DataW.trod_lt m _ _ _ hm
  obtain ⟨y1, hK1, ok1⟩ := Go.Proofs.YtihippjbbcpggaaFw.opens_arg (j := 1) (t := 5) Go.Proofs.YtihippjbbcpggaaFw.opens5 hsz rfl rfl h1
  obtain ⟨b1, rfl⟩ := okWide_int Try.underlying5 (hval 1 5 v1 rfl rfl)
  have rf1 := rf_cell hK1 rfl
  clear hA0 hval0 hsz0 hsz
  refine (law_calls (Go.Proofs.YtihippjbbcpggaaFw.lawFlashCount y0 y1 ok0 ok1) W _ rfl ?_).mono fun e W' ⟨he, bel⟩ => ?_
  · intro i p v hp hv
    match i with
    | 0 =>
      obtain rfl := Option.some.inj hp
      obtain rfl := Option.some.inj hv
      exact rf0
    | 1 =>
      obtain rfl := Option.some.inj hp
      obtain rfl := Option.some.inj hv
      exact rf1
    | i + 2 => cases hp
  subst he
  exact ⟨_, rfl, _, _, _, [], _, [], hW', trodAll_mk1 (shut_bool Try.underlying4 _), (trodAll_cons_mk (Below.trod laidOut (by kernel_rfl) (of_decide_eq_true (by kernel_rfl)) h0 bel lt0) (trodAll_cons_mk (Below.trod laidOut (by kernel_rfl) (of_decide_eq_true (by kernel_rfl)) h1 bel lt1) trodAll_mk0)), rfl, bel.frame _, fun h => by cases h⟩
theorem over : Rows.flashCountRow.holds Try.pinned (OpenSpec.ofChange Rows.flashCountSpec) :=
  OpenClaim.holds_of_wide 6 Try.f6 rfl rfl rfl rfl rfl rfl rfl ⟨rfl, rfl, rfl, rfl, rfl⟩ rfl rfl rfl rfl rfl (by kernel_rfl) Try.func6 (by kernel_rfl)
    (of_decide_eq_true (by kernel_rfl)) (by unfold Func.isWrapper; first | (rw [if_pos (by decide +kernel)]; kernel_rfl) | (rw [if_neg (by decide +kernel)]; exact ⟨rfl, rfl⟩))
    (fun os started H enc _ => lifted os started H enc)
theorem proved : Rows.FlashCountSaid := over
#print axioms proved
end Go.Proofs.Ytihippjbbcpggaa.flashCount
namespace Go.Proofs.Ytihippjbbcpggaa
/-- The row, under a short name, for the claim. -/
theorem flashCount_holds : Rows.FlashCountSaid := flashCount.proved
end Go.Proofs.Ytihippjbbcpggaa
