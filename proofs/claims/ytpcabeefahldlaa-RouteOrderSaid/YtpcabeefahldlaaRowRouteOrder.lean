/-
  The row of the law phaeton/phaetonlaw12.RouteOrder: for every input that can be read the call returns true and each argument reads as before; out of its pure statement (YtpcabeefahldlaaPureRouteOrder) and the walk of its code.
-/
import Derived.Test.YtpcabeefahldlaaRows
import Derived.Test.YtpcabeefahldlaaPx13
import Derived.Test.YtpcabeefahldlaaOpens
import Derived.Test.YtpcabeefahldlaaPureRouteOrder
import Derived.WalkKit
import Derived.ProofKit
import Derived.OpenShut
import Derived.ShutString
import Derived.ChangeOld
import Derived.Below
import Derived.SizedLaws
namespace Go.Proofs.Ytpcabeefahldlaa.routeOrder
open Go.ChangeShapes Go.WideShapes Go.ChangeAt Go.RowKit Go.Proofs.YtpcabeefahldlaaOwn Go.Proofs.Ytpcabeefahldlaa.P Go.Proofs.YtpcabeefahldlaaW.PrintWords
open Go.ChangeMaps (open_string shut_string)
set_option linter.unusedVariables false
set_option linter.unusedSimpArgs false
theorem own : ownKnob Try.prog.godebug = none := by kernel_rfl
theorem laidOut : laidOutB Try.prog = true := by kernel_rfl
theorem walk (PURE : ∀ (y0 : List (S45)), ((y0.length * 48 ≤ 140737488351232 ∧ y0.length ≤ maxLen ∧ ∀ z0 ∈ y0, ok45 z0)) → ∃ k, phaetonlaw12_RouteOrder.f k y0 = some true) (W : World) (A0 : Option Addr) (c0 : Nat) (y0 : List (S45)) (hr0 : Kd.C k45 W A0 y0.length y0) (hc0 : y0.length ≤ c0) (ok0 : (y0.length * 48 ≤ 140737488351232 ∧ y0.length ≤ maxLen ∧ ∀ z0 ∈ y0, ok45 z0)) :
    Calls Try.prog 5 #[.slice A0 y0.length c0] W fun e w' => e = .returned (.bool true) ∧ Below W.heap.size W w' := by
  obtain ⟨k, h⟩ := PURE y0 ok0
  refine (phaetonlaw12_RouteOrder.calls k A0 c0 y0 true W hr0 hc0 h).mono ?_
  rintro e w' ⟨rfl, hd⟩
  exact ⟨rfl, hd⟩
set_option maxHeartbeats 2000000 in
set_option maxRecDepth 100000 in
theorem lifted (PURE : ∀ (y0 : List (S45)), ((y0.length * 48 ≤ 140737488351232 ∧ y0.length ≤ maxLen ∧ ∀ z0 ∈ y0, ok45 z0)) → ∃ k, phaetonlaw12_RouteOrder.f k y0 = some true) (os : Os) (started : os.Started) (H : Type) (enc : TypeId × Value → H) :
    ReturnsInHanded {} Try.checked os 5 .any (Rows.routeOrderSpec.pre6 enc Try.prog Try.f5 Rows.routeOrderRow.domain false) (Rows.routeOrderSpec.post enc Try.prog Try.f5 false true false false) := by
  refine returnsInHanded_of_change_sized (C := Try.checked) own started (by kernel_rfl) Try.func5
    (ChangeSpec.witness6 (enc := enc) (C := Try.checked) false ⟨#[], #[.slice none 0 0], []⟩ 8 (by kernel_rfl) (by kernel_rfl) (by kernel_rfl) (by kernel_rfl)) ?_
  intro W base args ds gs before hval0 hW hcnd hsz0 _
  have hsz : (DataW.weightsEach Try.prog (Try.f5.params.toList ++ Rows.routeOrderSpec.plain.varTypes Try.prog) (ds ++ gs)).all (· ≤ reachBytes) = true := hsz0
  have hval : ∀ (j : Nat) t v, Try.f5.params[j]? = some t → args[j]? = some v → Value.okWide Try.prog W .any base t v := hval0
  have hW' := hW
  obtain ⟨p, q, hA0, hV, rfl, hfz, hnd⟩ := hW
  have hA : DataW.TrodAll enc Try.prog W 0 (fun _ => true) true Try.f5.params.toList args.toList ds p := hA0
  rw [Try.params5] at hA hval hsz
  obtain ⟨v0, vs0, d0, ds0, p0, q0, hargs, rfl, rfl, h0, r0⟩ := trodAll_cons hA
  obtain ⟨rfl, rfl, rfl⟩ := trodAll_nil r0
  obtain rfl : args = #[v0] := by cases args; simp_all
  obtain ⟨rfl, rfl⟩ := trodVars_none hV
  have lt0 : ∀ x ∈ p0, x.block < W.heap.size := by obtain ⟨m, hm⟩ := h0; exact DataW.trod_lt m _ _ _ hm
  obtain ⟨y0, hK0, ok0⟩ := opens_arg (j := 0) (t := 22) (opens_slice (B := 48) Try.underlying22 (by kernel_rfl) (by kernel_rfl) opens45) hsz rfl rfl h0
  obtain ⟨a0, len0, cap0, rfl⟩ := okWide_slice Try.underlying22 (hval 0 22 v0 rfl rfl)
  obtain ⟨A0, c0, he0, hc0, hr0⟩ := hK0
  simp only [Value.cells, List.cons.injEq, and_true, Value.slice.injEq] at he0
  obtain ⟨rfl, rfl, rfl⟩ := he0
  clear hA0 hval0 hsz0 hsz
  refine (walk PURE W a0 cap0 y0 hr0 hc0 ok0).mono fun e W' ⟨he, bel⟩ => ?_
  subst he
  exact ⟨_, rfl, _, _, _, [], _, [], hW', trodAll_mk1 (shut_bool Try.underlying4 _), (trodAll_cons_mk (Below.trod laidOut (by kernel_rfl) (of_decide_eq_true (by kernel_rfl)) h0 bel lt0) trodAll_mk0), rfl, bel.frame _, fun h => by cases h⟩
theorem over (PURE : ∀ (y0 : List (S45)), ((y0.length * 48 ≤ 140737488351232 ∧ y0.length ≤ maxLen ∧ ∀ z0 ∈ y0, ok45 z0)) → ∃ k, phaetonlaw12_RouteOrder.f k y0 = some true) : Rows.routeOrderRow.holds Try.pinned (OpenSpec.ofChange Rows.routeOrderSpec) :=
  OpenClaim.holds_of_wide 5 Try.f5 rfl rfl rfl rfl rfl rfl rfl ⟨rfl, rfl, rfl, rfl, rfl⟩ rfl rfl rfl rfl rfl (by kernel_rfl) Try.func5 (by kernel_rfl)
    (of_decide_eq_true (by kernel_rfl)) (by unfold Func.isWrapper; first | (rw [if_pos (by decide +kernel)]; kernel_rfl) | (rw [if_neg (by decide +kernel)]; exact ⟨rfl, rfl⟩))
    (fun os started H enc _ => lifted PURE os started H enc)
theorem proved : Rows.RouteOrderSaid := over Pure.RouteOrder
#print axioms proved
end Go.Proofs.Ytpcabeefahldlaa.routeOrder
namespace Go.Proofs.Ytpcabeefahldlaa
/-- The row, under a short name, for the claim. -/
theorem routeOrder_holds : Rows.RouteOrderSaid := routeOrder.proved
end Go.Proofs.Ytpcabeefahldlaa
