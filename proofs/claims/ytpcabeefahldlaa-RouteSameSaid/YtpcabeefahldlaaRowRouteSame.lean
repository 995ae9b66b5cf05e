/-
  The row of the law phaeton/phaetonlaw12.RouteSame: for every input that can be read the call returns true and each argument reads as before; out of its pure statement (YtpcabeefahldlaaPureRouteSame) and the walk of its code.
-/
import Derived.Test.YtpcabeefahldlaaRows
import Derived.Test.YtpcabeefahldlaaPx14
import Derived.Test.YtpcabeefahldlaaOpens
import Derived.Test.YtpcabeefahldlaaPureRouteSame
import Derived.WalkKit
import Derived.ProofKit
import Derived.OpenShut
import Derived.ShutString
import Derived.ChangeOld
import Derived.Below
import Derived.SizedLaws
namespace Go.Proofs.Ytpcabeefahldlaa.routeSame
open Go.ChangeShapes Go.WideShapes Go.ChangeAt Go.RowKit Go.Proofs.YtpcabeefahldlaaOwn Go.Proofs.Ytpcabeefahldlaa.P Go.Proofs.YtpcabeefahldlaaW.PrintWords
open Go.ChangeMaps (open_string shut_string)
set_option linter.unusedVariables false
set_option linter.unusedSimpArgs false
theorem own : ownKnob Try.prog.godebug = none := by kernel_rfl
theorem laidOut : laidOutB Try.prog = true := by kernel_rfl
theorem walk (PURE : ∀ (y0 : List (S45)) (y1 : S27), ((y0.length * 48 ≤ 140737488351232 ∧ y0.length ≤ maxLen ∧ ∀ z0 ∈ y0, ok45 z0)) → (ok27 y1) → ∃ k, phaetonlaw12_RouteSame.f k y0 y1.f0 y1.f1.f0 y1.f1.f1 y1.f1.f2 y1.f1.f3 y1.f1.f4 = some true) (W : World) (A0 : Option Addr) (c0 : Nat) (y0 : List (S45)) (A1_5 : Option Addr) (c1_5 : Nat) (y1 : S27) (hr0 : Kd.C k45 W A0 y0.length y0) (hc0 : y0.length ≤ c0) (ok0 : (y0.length * 48 ≤ 140737488351232 ∧ y0.length ≤ maxLen ∧ ∀ z0 ∈ y0, ok45 z0)) (hr1_5 : Kd.C (Kd.int .u8) W A1_5 y1.f1.f4.length y1.f1.f4) (hc1_5 : y1.f1.f4.length ≤ c1_5) (ok1 : ok27 y1) :
    Calls Try.prog 7 #[.slice A0 y0.length c0, .agg #[.int .i64 y1.f0, .bool y1.f1.f0, .int .i64 y1.f1.f1, .bool y1.f1.f2, .int .i64 y1.f1.f3, .slice A1_5 y1.f1.f4.length c1_5]] W fun e w' => e = .returned (.bool true) ∧ Below W.heap.size W w' := by
  obtain ⟨k, h⟩ := PURE y0 y1 ok0 ok1
  refine (phaetonlaw12_RouteSame.calls k A0 c0 y0 y1.f0 y1.f1.f0 y1.f1.f1 y1.f1.f2 y1.f1.f3 A1_5 c1_5 y1.f1.f4 true W hr0 hc0 hr1_5 hc1_5 h).mono ?_
  rintro e w' ⟨rfl, hd⟩
  exact ⟨rfl, hd⟩
set_option maxHeartbeats 2000000 in
set_option maxRecDepth 100000 in
theorem lifted (PURE : ∀ (y0 : List (S45)) (y1 : S27), ((y0.length * 48 ≤ 140737488351232 ∧ y0.length ≤ maxLen ∧ ∀ z0 ∈ y0, ok45 z0)) → (ok27 y1) → ∃ k, phaetonlaw12_RouteSame.f k y0 y1.f0 y1.f1.f0 y1.f1.f1 y1.f1.f2 y1.f1.f3 y1.f1.f4 = some true) (os : Os) (started : os.Started) (H : Type) (enc : TypeId × Value → H) :
    ReturnsInHanded {} Try.checked os 7 .any (Rows.routeSameSpec.pre6 enc Try.prog Try.f7 Rows.routeSameRow.domain false) (Rows.routeSameSpec.post enc Try.prog Try.f7 false true false false) := by
  refine returnsInHanded_of_change_sized (C := Try.checked) own started (by kernel_rfl) Try.func7
    (ChangeSpec.witness6 (enc := enc) (C := Try.checked) false ⟨#[], #[.slice none 0 0, .agg #[.int .i64 0, .bool false, .int .i64 0, .bool false, .int .i64 0, .slice none 0 0]], []⟩ 8 (by kernel_rfl) (by kernel_rfl) (by kernel_rfl) (by kernel_rfl)) ?_
  intro W base args ds gs before hval0 hW hcnd hsz0 _
  have hsz : (DataW.weightsEach Try.prog (Try.f7.params.toList ++ Rows.routeSameSpec.plain.varTypes Try.prog) (ds ++ gs)).all (· ≤ reachBytes) = true := hsz0
  have hval : ∀ (j : Nat) t v, Try.f7.params[j]? = some t → args[j]? = some v → Value.okWide Try.prog W .any base t v := hval0
  have hW' := hW
  obtain ⟨p, q, hA0, hV, rfl, hfz, hnd⟩ := hW
  have hA : DataW.TrodAll enc Try.prog W 0 (fun _ => true) true Try.f7.params.toList args.toList ds p := hA0
  rw [Try.params7] at hA hval hsz
  obtain ⟨v0, vs0, d0, ds0, p0, q0, hargs, rfl, rfl, h0, r0⟩ := trodAll_cons hA
  obtain ⟨v1, vs1, d1, ds1, p1, q1, rfl, rfl, rfl, h1, r1⟩ := trodAll_cons r0
  obtain ⟨rfl, rfl, rfl⟩ := trodAll_nil r1
  obtain rfl : args = #[v0, v1] := by cases args; simp_all
  obtain ⟨rfl, rfl⟩ := trodVars_none hV
  have lt0 : ∀ x ∈ p0, x.block < W.heap.size := by obtain ⟨m, hm⟩ := h0; exact DataW.trod_lt m _ _ _ hm
  obtain ⟨y0, hK0, ok0⟩ := opens_arg (j := 0) (t := 22) (opens_slice (B := 48) Try.underlying22 (by kernel_rfl) (by kernel_rfl) opens45) hsz rfl rfl h0
  obtain ⟨a0, len0, cap0, rfl⟩ := okWide_slice Try.underlying22 (hval 0 22 v0 rfl rfl)
  obtain ⟨A0, c0, he0, hc0, hr0⟩ := hK0
  simp only [Value.cells, List.cons.injEq, and_true, Value.slice.injEq] at he0
  obtain ⟨rfl, rfl, rfl⟩ := he0
  have lt1 : ∀ x ∈ p1, x.block < W.heap.size := by obtain ⟨m, hm⟩ := h1; exact DataW.trod_lt m _ _ _ hm
  obtain ⟨y1, hK1, ok1⟩ := opens_arg (j := 1) (t := 27) opens27 hsz rfl rfl h1
  obtain ⟨cs1, rfl, hn1⟩ := okWide_struct Try.underlying27 (hval 1 27 v1 rfl rfl)
  obtain ⟨A1_5, c1_5, hcs1, hc1_5, hr1_5⟩ := k27_open hK1
  obtain rfl := agg_of hcs1
  clear hcs1 hn1 hK1
  clear hA0 hval0 hsz0 hsz
  refine (walk PURE W a0 cap0 y0 A1_5 c1_5 y1 hr0 hc0 ok0 hr1_5 hc1_5 ok1).mono fun e W' ⟨he, bel⟩ => ?_
  subst he
  exact ⟨_, rfl, _, _, _, [], _, [], hW', trodAll_mk1 (shut_bool Try.underlying4 _), (trodAll_cons_mk (Below.trod laidOut (by kernel_rfl) (of_decide_eq_true (by kernel_rfl)) h0 bel lt0) (trodAll_cons_mk (Below.trod laidOut (by kernel_rfl) (of_decide_eq_true (by kernel_rfl)) h1 bel lt1) trodAll_mk0)), rfl, bel.frame _, fun h => by cases h⟩
theorem over (PURE : ∀ (y0 : List (S45)) (y1 : S27), ((y0.length * 48 ≤ 140737488351232 ∧ y0.length ≤ maxLen ∧ ∀ z0 ∈ y0, ok45 z0)) → (ok27 y1) → ∃ k, phaetonlaw12_RouteSame.f k y0 y1.f0 y1.f1.f0 y1.f1.f1 y1.f1.f2 y1.f1.f3 y1.f1.f4 = some true) : Rows.routeSameRow.holds Try.pinned (OpenSpec.ofChange Rows.routeSameSpec) :=
  OpenClaim.holds_of_wide 7 Try.f7 rfl rfl rfl rfl rfl rfl rfl ⟨rfl, rfl, rfl, rfl, rfl⟩ rfl rfl rfl rfl rfl (by kernel_rfl) Try.func7 (by kernel_rfl)
    (of_decide_eq_true (by kernel_rfl)) (by unfold Func.isWrapper; first | (rw [if_pos (by decide +kernel)]; kernel_rfl) | (rw [if_neg (by decide +kernel)]; exact ⟨rfl, rfl⟩))
    (fun os started H enc _ => lifted PURE os started H enc)
theorem proved : Rows.RouteSameSaid := over Pure.RouteSame
#print axioms proved
end Go.Proofs.Ytpcabeefahldlaa.routeSame
namespace Go.Proofs.Ytpcabeefahldlaa
/-- The row, under a short name, for the claim. -/
theorem routeSame_holds : Rows.RouteSameSaid := routeSame.proved
end Go.Proofs.Ytpcabeefahldlaa
