/-
  The row of the law phaeton/phaetonlaw08.CountBack: for every input that can be read the call returns true and each argument reads as before; out of its pure statement (YtlbhokkifdjlaaaPureCountBack) and the walk of its code.
-/
import Derived.Test.YtlbhokkifdjlaaaRows
import Derived.Test.YtlbhokkifdjlaaaPx10
import Derived.Test.YtlbhokkifdjlaaaOpens
import Derived.Test.YtlbhokkifdjlaaaPureCountBack
import Derived.WalkKit
import Derived.ProofKit
import Derived.OpenShut
import Derived.ShutString
import Derived.ChangeOld
import Derived.Below
import Derived.SizedLaws
namespace Go.Proofs.Ytlbhokkifdjlaaa.countBack
open Go.ChangeShapes Go.WideShapes Go.ChangeAt Go.RowKit Go.Proofs.YtlbhokkifdjlaaaOwn Go.Proofs.Ytlbhokkifdjlaaa.P Go.Proofs.YtlbhokkifdjlaaaW.PrintWords
open Go.ChangeMaps (open_string shut_string)
set_option linter.unusedVariables false
set_option linter.unusedSimpArgs false
theorem own : ownKnob Try.prog.godebug = none := by kernel_rfl
theorem laidOut : laidOutB Try.prog = true := by kernel_rfl
theorem walk (PURE : ∀ (y0 : S23), (ok23 y0) → ∃ k, phaetonlaw08_CountBack.f k y0.f0 y0.f1 y0.f2 y0.f3 = some true) (W : World) (y0 : S23) (ok0 : ok23 y0) :
    Calls Try.prog 6 #[.agg #[.int .i64 y0.f0, .int .i64 y0.f1, .int .i64 y0.f2, .int .i64 y0.f3]] W fun e w' => e = .returned (.bool true) ∧ Below W.heap.size W w' := by
  obtain ⟨k, h⟩ := PURE y0 ok0
  refine (phaetonlaw08_CountBack.calls k y0.f0 y0.f1 y0.f2 y0.f3 true W  h).mono ?_
  rintro e w' ⟨rfl, hd⟩
  exact ⟨rfl, hd⟩
set_option maxHeartbeats 2000000 in
set_option maxRecDepth 100000 in
theorem lifted (PURE : ∀ (y0 : S23), (ok23 y0) → ∃ k, phaetonlaw08_CountBack.f k y0.f0 y0.f1 y0.f2 y0.f3 = some true) (os : Os) (started : os.Started) (H : Type) (enc : TypeId × Value → H) :
    ReturnsInHanded {} Try.checked os 6 .any (Rows.countBackSpec.pre6 enc Try.prog Try.f6 Rows.countBackRow.domain false) (Rows.countBackSpec.post enc Try.prog Try.f6 false true false false) := by
  refine returnsInHanded_of_change_sized (C := Try.checked) own started (by kernel_rfl) Try.func6
    (ChangeSpec.witness6 (enc := enc) (C := Try.checked) false ⟨#[], #[.agg #[.int .i64 0, .int .i64 0, .int .i64 0, .int .i64 0]], []⟩ 8 (by kernel_rfl) (by kernel_rfl) (by kernel_rfl) (by kernel_rfl)) ?_
  intro W base args ds gs before hval0 hW hcnd hsz0 _
  have hsz : (DataW.weightsEach Try.prog (Try.f6.params.toList ++ Rows.countBackSpec.plain.varTypes Try.prog) (ds ++ gs)).all (· ≤ reachBytes) = true := hsz0
  have hval : ∀ (j : Nat) t v, Try.f6.params[j]? = some t → args[j]? = some v → Value.okWide Try.prog W .any base t v := hval0
  have hW' := hW
  obtain ⟨p, q, hA0, hV, rfl, hfz, hnd⟩ := hW
  have hA : DataW.TrodAll enc Try.prog W 0 (fun _ => true) true Try.f6.params.toList args.toList ds p := hA0
  rw [Try.params6] at hA hval hsz
  obtain ⟨v0, vs0, d0, ds0, p0, q0, hargs, rfl, rfl, h0, r0⟩ := trodAll_cons hA
  obtain ⟨rfl, rfl, rfl⟩ := trodAll_nil r0
  obtain rfl : args = #[v0] := by cases args; simp_all
  obtain ⟨rfl, rfl⟩ := trodVars_none hV
  have lt0 : ∀ x ∈ p0, x.block < W.heap.size := by obtain ⟨m, hm⟩ := h0; exact DataW.trod_lt m _ _ _ hm
  obtain ⟨y0, hK0, ok0⟩ := opens_arg (j := 0) (t := 23) opens23 hsz rfl rfl h0
  obtain ⟨cs0, rfl, hn0⟩ := okWide_struct Try.underlying23 (hval 0 23 v0 rfl rfl)
  have hcs0 := k23_open hK0
  obtain rfl := agg_of hcs0
  clear hcs0 hn0 hK0
  clear hA0 hval0 hsz0 hsz
  refine (walk PURE W  y0 ok0).mono fun e W' ⟨he, bel⟩ => ?_
  subst he
  exact ⟨_, rfl, _, _, _, [], _, [], hW', trodAll_mk1 (shut_bool Try.underlying4 _), (trodAll_cons_mk (Below.trod laidOut (by kernel_rfl) (of_decide_eq_true (by kernel_rfl)) h0 bel lt0) trodAll_mk0), rfl, bel.frame _, fun h => by cases h⟩
theorem over (PURE : ∀ (y0 : S23), (ok23 y0) → ∃ k, phaetonlaw08_CountBack.f k y0.f0 y0.f1 y0.f2 y0.f3 = some true) : Rows.countBackRow.holds Try.pinned (OpenSpec.ofChange Rows.countBackSpec) :=
  OpenClaim.holds_of_wide 6 Try.f6 rfl rfl rfl rfl rfl rfl rfl ⟨rfl, rfl, rfl, rfl, rfl⟩ rfl rfl rfl rfl rfl (by kernel_rfl) Try.func6 (by kernel_rfl)
    (of_decide_eq_true (by kernel_rfl)) (by unfold Func.isWrapper; first | (rw [if_pos (by decide +kernel)]; kernel_rfl) | (rw [if_neg (by decide +kernel)]; exact ⟨rfl, rfl⟩))
    (fun os started H enc _ => lifted PURE os started H enc)
theorem proved : Rows.CountBackSaid := over Pure.CountBack
#print axioms proved
end Go.Proofs.Ytlbhokkifdjlaaa.countBack
namespace Go.Proofs.Ytlbhokkifdjlaaa
/-- The row, under a short name, for the claim. -/
theorem countBack_holds : Rows.CountBackSaid := countBack.proved
end Go.Proofs.Ytlbhokkifdjlaaa
