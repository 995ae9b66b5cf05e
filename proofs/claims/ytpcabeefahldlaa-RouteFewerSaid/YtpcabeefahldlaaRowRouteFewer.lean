/-
  The row of the law phaeton/phaetonlaw12.RouteFewer: for every input that can be read the call returns true and each argument reads as before; out of its pure statement (YtpcabeefahldlaaPureRouteFewer) and the walk of its code.
-/
import Derived.Test.YtpcabeefahldlaaRows
import Derived.Test.YtpcabeefahldlaaPx12
import Derived.Test.YtpcabeefahldlaaOpens
import Derived.Test.YtpcabeefahldlaaPureRouteFewer
import Derived.WalkKit
import Derived.ProofKit
import Derived.OpenShut
import Derived.ShutString
import Derived.ChangeOld
import Derived.Below
import Derived.SizedLaws
namespace Go.Proofs.Ytpcabeefahldlaa.routeFewer
open Go.ChangeShapes Go.WideShapes Go.ChangeAt Go.RowKit Go.Proofs.YtpcabeefahldlaaOwn Go.Proofs.Ytpcabeefahldlaa.P Go.Proofs.YtpcabeefahldlaaW.PrintWords
open Go.ChangeMaps (open_string shut_string)
set_option linter.unusedVariables false
set_option linter.unusedSimpArgs false
theorem own : ownKnob Try.prog.godebug = none := by kernel_rfl
theorem laidOut : laidOutB Try.prog = true := by kernel_rfl
theorem walk (PURE : ∀ (y0 : List (S45)) (y1 : Int) (y2 : S27), ((y0.length * 48 ≤ 140737488351232 ∧ y0.length ≤ maxLen ∧ ∀ z0 ∈ y0, ok45 z0)) → ((Lit.int .u8 y1).wf = true) → (ok27 y2) → ∃ k, phaetonlaw12_RouteFewer.f k y0 y1 y2.f0 y2.f1.f0 y2.f1.f1 y2.f1.f2 y2.f1.f3 y2.f1.f4 = some true) (W : World) (A0 : Option Addr) (c0 : Nat) (y0 : List (S45)) (y1 : Int) (A2_5 : Option Addr) (c2_5 : Nat) (y2 : S27) (hr0 : Kd.C k45 W A0 y0.length y0) (hc0 : y0.length ≤ c0) (ok0 : (y0.length * 48 ≤ 140737488351232 ∧ y0.length ≤ maxLen ∧ ∀ z0 ∈ y0, ok45 z0)) (ok1 : (Lit.int .u8 y1).wf = true) (hr2_5 : Kd.C (Kd.int .u8) W A2_5 y2.f1.f4.length y2.f1.f4) (hc2_5 : y2.f1.f4.length ≤ c2_5) (ok2 : ok27 y2) :
    Calls Try.prog 6 #[.slice A0 y0.length c0, .int .u8 y1, .agg #[.int .i64 y2.f0, .bool y2.f1.f0, .int .i64 y2.f1.f1, .bool y2.f1.f2, .int .i64 y2.f1.f3, .slice A2_5 y2.f1.f4.length c2_5]] W fun e w' => e = .returned (.bool true) ∧ Below W.heap.size W w' := by
  obtain ⟨k, h⟩ := PURE y0 y1 y2 ok0 ok1 ok2
  refine (phaetonlaw12_RouteFewer.calls k A0 c0 y0 y1 y2.f0 y2.f1.f0 y2.f1.f1 y2.f1.f2 y2.f1.f3 A2_5 c2_5 y2.f1.f4 true W hr0 hc0 hr2_5 hc2_5 h).mono ?_
  rintro e w' ⟨rfl, hd⟩
  exact ⟨rfl, hd⟩
set_option maxHeartbeats 2000000 in
set_option maxRecDepth 100000 in
theorem lifted (PURE : ∀ (y0 : List (S45)) (y1 : Int) (y2 : S27), ((y0.length * 48 ≤ 140737488351232 ∧ y0.length ≤ maxLen ∧ ∀ z0 ∈ y0, ok45 z0)) → ((Lit.int .u8 y1).wf = true) → (ok27 y2) → ∃ k, phaetonlaw12_RouteFewer.f k y0 y1 y2.f0 y2.f1.f0 y2.f1.f1 y2.f1.f2 y2.f1.f3 y2.f1.f4 = some true) (os : Os) (started : os.Started) (H : Type) (enc : TypeId × Value → H) :
    ReturnsInHanded {} Try.checked os 6 .any (Rows.routeFewerSpec.pre6 enc Try.prog Try.f6 Rows.routeFewerRow.domain false) (Rows.routeFewerSpec.post enc Try.prog Try.f6 false true false false) := by
  refine returnsInHanded_of_change_sized (C := Try.checked) own started (by kernel_rfl) Try.func6
    (ChangeSpec.witness6 (enc := enc) (C := Try.checked) false ⟨#[], #[.slice none 0 0, .int .u8 0, .agg #[.int .i64 0, .bool false, .int .i64 0, .bool false, .int .i64 0, .slice none 0 0]], []⟩ 8 (by kernel_rfl) (by kernel_rfl) (by kernel_rfl) (by kernel_rfl)) ?_
  intro W base args ds gs before hval0 hW hcnd hsz0 _
  have hsz : (DataW.weightsEach Try.prog (Try.f6.params.toList ++ Rows.routeFewerSpec.plain.varTypes Try.prog) (ds ++ gs)).all (· ≤ reachBytes) = true := hsz0
  have hval : ∀ (j : Nat) t v, Try.f6.params[j]? = some t → args[j]? = some v → Value.okWide Try.prog W .any base t v := hval0
  have hW' := hW
  obtain ⟨p, q, hA0, hV, rfl, hfz, hnd⟩ := hW
  have hA : DataW.TrodAll enc Try.prog W 0 (fun _ => true) true Try.f6.params.toList args.toList ds p := hA0
  rw [Try.params6] at hA hval hsz
  obtain ⟨v0, vs0, d0, ds0, p0, q0, hargs, rfl, rfl, h0, r0⟩ := trodAll_cons hA
  obtain ⟨v1, vs1, d1, ds1, p1, q1, rfl, rfl, rfl, h1, r1⟩ := trodAll_cons r0
  obtain ⟨v2, vs2, d2, ds2, p2, q2, rfl, rfl, rfl, h2, r2⟩ := trodAll_cons r1
  obtain ⟨rfl, rfl, rfl⟩ := trodAll_nil r2
  obtain rfl : args = #[v0, v1, v2] := by cases args; simp_all
  obtain ⟨rfl, rfl⟩ := trodVars_none hV
  have lt0 : ∀ x ∈ p0, x.block < W.heap.size := by obtain ⟨m, hm⟩ := h0; exact DataW.trod_lt m _ _ _ hm
  obtain ⟨y0, hK0, ok0⟩ := opens_arg (j := 0) (t := 22) (opens_slice (B := 48) Try.underlying22 (by kernel_rfl) (by kernel_rfl) opens45) hsz rfl rfl h0
  obtain ⟨a0, len0, cap0, rfl⟩ := okWide_slice Try.underlying22 (hval 0 22 v0 rfl rfl)
  obtain ⟨A0, c0, he0, hc0, hr0⟩ := hK0
  simp only [Value.cells, List.cons.injEq, and_true, Value.slice.injEq] at he0
  obtain ⟨rfl, rfl, rfl⟩ := he0
  have lt1 : ∀ x ∈ p1, x.block < W.heap.size := by obtain ⟨m, hm⟩ := h1; exact DataW.trod_lt m _ _ _ hm
  obtain ⟨y1, hK1, ok1⟩ := opens_arg (j := 1) (t := 5) (opens_int Try.underlying5 (by kernel_rfl)) hsz rfl rfl h1
  obtain ⟨b1, rfl⟩ := okWide_int Try.underlying5 (hval 1 5 v1 rfl rfl)
  obtain rfl : y1 = b1 := Eq.symm (by have e := hK1; simpa [Value.cells, Kd.int, Kd.scalar] using e)
  have lt2 : ∀ x ∈ p2, x.block < W.heap.size := by obtain ⟨m, hm⟩ := h2; exact DataW.trod_lt m _ _ _ hm
  obtain ⟨y2, hK2, ok2⟩ := opens_arg (j := 2) (t := 27) opens27 hsz rfl rfl h2
  obtain ⟨cs2, rfl, hn2⟩ := okWide_struct Try.underlying27 (hval 2 27 v2 rfl rfl)
  obtain ⟨A2_5, c2_5, hcs2, hc2_5, hr2_5⟩ := k27_open hK2
  obtain rfl := agg_of hcs2
  clear hcs2 hn2 hK2
  clear hA0 hval0 hsz0 hsz
  refine (walk PURE W a0 cap0 y0 y1 A2_5 c2_5 y2 hr0 hc0 ok0 ok1 hr2_5 hc2_5 ok2).mono fun e W' ⟨he, bel⟩ => ?_
  subst he
  exact ⟨_, rfl, _, _, _, [], _, [], hW', trodAll_mk1 (shut_bool Try.underlying4 _), (trodAll_cons_mk (Below.trod laidOut (by kernel_rfl) (of_decide_eq_true (by kernel_rfl)) h0 bel lt0) (trodAll_cons_mk (Below.trod laidOut (by kernel_rfl) (of_decide_eq_true (by kernel_rfl)) h1 bel lt1) (trodAll_cons_mk (Below.trod laidOut (by kernel_rfl) (of_decide_eq_true (by kernel_rfl)) h2 bel lt2) trodAll_mk0))), rfl, bel.frame _, fun h => by cases h⟩
theorem over (PURE : ∀ (y0 : List (S45)) (y1 : Int) (y2 : S27), ((y0.length * 48 ≤ 140737488351232 ∧ y0.length ≤ maxLen ∧ ∀ z0 ∈ y0, ok45 z0)) → ((Lit.int .u8 y1).wf = true) → (ok27 y2) → ∃ k, phaetonlaw12_RouteFewer.f k y0 y1 y2.f0 y2.f1.f0 y2.f1.f1 y2.f1.f2 y2.f1.f3 y2.f1.f4 = some true) : Rows.routeFewerRow.holds Try.pinned (OpenSpec.ofChange Rows.routeFewerSpec) :=
  OpenClaim.holds_of_wide 6 Try.f6 rfl rfl rfl rfl rfl rfl rfl ⟨rfl, rfl, rfl, rfl, rfl⟩ rfl rfl rfl rfl rfl (by kernel_rfl) Try.func6 (by kernel_rfl)
    (of_decide_eq_true (by kernel_rfl)) (by unfold Func.isWrapper; first | (rw [if_pos (by decide +kernel)]; kernel_rfl) | (rw [if_neg (by decide +kernel)]; exact ⟨rfl, rfl⟩))
    (fun os started H enc _ => lifted PURE os started H enc)
theorem proved : Rows.RouteFewerSaid := over Pure.RouteFewer
#print axioms proved
end Go.Proofs.Ytpcabeefahldlaa.routeFewer
namespace Go.Proofs.Ytpcabeefahldlaa
/-- The row, under a short name, for the claim. -/
theorem routeFewer_holds : Rows.RouteFewerSaid := routeFewer.proved
end Go.Proofs.Ytpcabeefahldlaa
