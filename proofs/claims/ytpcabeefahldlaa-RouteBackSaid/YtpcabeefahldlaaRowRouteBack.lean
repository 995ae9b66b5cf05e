/-
  The row of the law phaeton/phaetonlaw12.RouteBack: for every input that can be read the call returns true and each argument reads as before; out of its pure statement (YtpcabeefahldlaaPureRouteBack) and the walk of its code.
-/
import Derived.Test.YtpcabeefahldlaaRows
import Derived.Test.YtpcabeefahldlaaPx15
import Derived.Test.YtpcabeefahldlaaOpens
import Derived.Test.YtpcabeefahldlaaPureRouteBack
import Derived.WalkKit
import Derived.ProofKit
import Derived.OpenShut
import Derived.ShutString
import Derived.ChangeOld
import Derived.Below
import Derived.SizedLaws
namespace Go.Proofs.Ytpcabeefahldlaa.routeBack
open Go.ChangeShapes Go.WideShapes Go.ChangeAt Go.RowKit Go.Proofs.YtpcabeefahldlaaOwn Go.Proofs.Ytpcabeefahldlaa.P Go.Proofs.YtpcabeefahldlaaW.PrintWords
open Go.ChangeMaps (open_string shut_string)
set_option linter.unusedVariables false
set_option linter.unusedSimpArgs false
theorem own : ownKnob Try.prog.godebug = none := by kernel_rfl
theorem laidOut : laidOutB Try.prog = true := by kernel_rfl
theorem walk (PURE : ∀ (y0 : Int) (y1 : S45), ((Lit.int .u8 y0).wf = true) → (ok45 y1) → ∃ k, phaetonlaw12_RouteBack.f k y0 y1.f0 y1.f1 y1.f2.f0 y1.f2.f1 y1.f2.f2 y1.f3 = some true) (W : World) (y0 : Int) (y1 : S45) (ok0 : (Lit.int .u8 y0).wf = true) (ok1 : ok45 y1) :
    Calls Try.prog 8 #[.int .u8 y0, .agg #[.int .i64 y1.f0, .int .i64 y1.f1, .bool y1.f2.f0, .int .i64 y1.f2.f1, .int .i64 y1.f2.f2, .int .i64 y1.f3]] W fun e w' => e = .returned (.bool true) ∧ Below W.heap.size W w' := by
  obtain ⟨k, h⟩ := PURE y0 y1 ok0 ok1
  refine (phaetonlaw12_RouteBack.calls k y0 y1.f0 y1.f1 y1.f2.f0 y1.f2.f1 y1.f2.f2 y1.f3 true W  h).mono ?_
  rintro e w' ⟨rfl, hd⟩
  exact ⟨rfl, hd⟩
set_option maxHeartbeats 2000000 in
set_option maxRecDepth 100000 in
theorem lifted (PURE : ∀ (y0 : Int) (y1 : S45), ((Lit.int .u8 y0).wf = true) → (ok45 y1) → ∃ k, phaetonlaw12_RouteBack.f k y0 y1.f0 y1.f1 y1.f2.f0 y1.f2.f1 y1.f2.f2 y1.f3 = some true) (os : Os) (started : os.Started) (H : Type) (enc : TypeId × Value → H) :
    ReturnsInHanded {} Try.checked os 8 .any (Rows.routeBackSpec.pre6 enc Try.prog Try.f8 Rows.routeBackRow.domain false) (Rows.routeBackSpec.post enc Try.prog Try.f8 false true false false) := by
  refine returnsInHanded_of_change_sized (C := Try.checked) own started (by kernel_rfl) Try.func8
    (ChangeSpec.witness6 (enc := enc) (C := Try.checked) false ⟨#[], #[.int .u8 0, .agg #[.int .i64 0, .int .i64 0, .bool false, .int .i64 0, .int .i64 0, .int .i64 0]], []⟩ 8 (by kernel_rfl) (by kernel_rfl) (by kernel_rfl) (by kernel_rfl)) ?_
  intro W base args ds gs before hval0 hW hcnd hsz0 _
  have hsz : (DataW.weightsEach Try.prog (Try.f8.params.toList ++ Rows.routeBackSpec.plain.varTypes Try.prog) (ds ++ gs)).all (· ≤ reachBytes) = true := hsz0
  have hval : ∀ (j : Nat) t v, Try.f8.params[j]? = some t → args[j]? = some v → Value.okWide Try.prog W .any base t v := hval0
  have hW' := hW
  obtain ⟨p, q, hA0, hV, rfl, hfz, hnd⟩ := hW
  have hA : DataW.TrodAll enc Try.prog W 0 (fun _ => true) true Try.f8.params.toList args.toList ds p := hA0
  rw [Try.params8] at hA hval hsz
  obtain ⟨v0, vs0, d0, ds0, p0, q0, hargs, rfl, rfl, h0, r0⟩ := trodAll_cons hA
  obtain ⟨v1, vs1, d1, ds1, p1, q1, rfl, rfl, rfl, h1, r1⟩ := trodAll_cons r0
  obtain ⟨rfl, rfl, rfl⟩ := trodAll_nil r1
  obtain rfl : args = #[v0, v1] := by cases args; simp_all
  obtain ⟨rfl, rfl⟩ := trodVars_none hV
  have lt0 : ∀ x ∈ p0, x.block < W.heap.size := by obtain ⟨m, hm⟩ := h0; exact DataW.trod_lt m _ _ _ hm
  obtain ⟨y0, hK0, ok0⟩ := opens_arg (j := 0) (t := 5) (opens_int Try.underlying5 (by kernel_rfl)) hsz rfl rfl h0
  obtain ⟨b0, rfl⟩ := okWide_int Try.underlying5 (hval 0 5 v0 rfl rfl)
  obtain rfl : y0 = b0 := Eq.symm (by have e := hK0; simpa [Value.cells, Kd.int, Kd.scalar] using e)
  have lt1 : ∀ x ∈ p1, x.block < W.heap.size := by obtain ⟨m, hm⟩ := h1; exact DataW.trod_lt m _ _ _ hm
  obtain ⟨y1, hK1, ok1⟩ := opens_arg (j := 1) (t := 45) opens45 hsz rfl rfl h1
  obtain ⟨cs1, rfl, hn1⟩ := okWide_struct Try.underlying45 (hval 1 45 v1 rfl rfl)
  have hcs1 := k45_open hK1
  obtain rfl := agg_of hcs1
  clear hcs1 hn1 hK1
  clear hA0 hval0 hsz0 hsz
  refine (walk PURE W y0  y1 ok0 ok1).mono fun e W' ⟨he, bel⟩ => ?_
  subst he
  exact ⟨_, rfl, _, _, _, [], _, [], hW', trodAll_mk1 (shut_bool Try.underlying4 _), (trodAll_cons_mk (Below.trod laidOut (by kernel_rfl) (of_decide_eq_true (by kernel_rfl)) h0 bel lt0) (trodAll_cons_mk (Below.trod laidOut (by kernel_rfl) (of_decide_eq_true (by kernel_rfl)) h1 bel lt1) trodAll_mk0)), rfl, bel.frame _, fun h => by cases h⟩
theorem over (PURE : ∀ (y0 : Int) (y1 : S45), ((Lit.int .u8 y0).wf = true) → (ok45 y1) → ∃ k, phaetonlaw12_RouteBack.f k y0 y1.f0 y1.f1 y1.f2.f0 y1.f2.f1 y1.f2.f2 y1.f3 = some true) : Rows.routeBackRow.holds Try.pinned (OpenSpec.ofChange Rows.routeBackSpec) :=
  OpenClaim.holds_of_wide 8 Try.f8 rfl rfl rfl rfl rfl rfl rfl ⟨rfl, rfl, rfl, rfl, rfl⟩ rfl rfl rfl rfl rfl (by kernel_rfl) Try.func8 (by kernel_rfl)
    (of_decide_eq_true (by kernel_rfl)) (by unfold Func.isWrapper; first | (rw [if_pos (by decide +kernel)]; kernel_rfl) | (rw [if_neg (by decide +kernel)]; exact ⟨rfl, rfl⟩))
    (fun os started H enc _ => lifted PURE os started H enc)
theorem proved : Rows.RouteBackSaid := over Pure.RouteBack
#print axioms proved
end Go.Proofs.Ytpcabeefahldlaa.routeBack
namespace Go.Proofs.Ytpcabeefahldlaa
/-- The row, under a short name, for the claim. -/
theorem routeBack_holds : Rows.RouteBackSaid := routeBack.proved
end Go.Proofs.Ytpcabeefahldlaa
