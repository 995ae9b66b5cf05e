/-
  The row of the law phaeton/phaetonlaw15.SigApart: for every input that can be read the call returns true and each argument reads as before; out of its pure statement (YtcgkkjimonfhbaaPureSigApart) and the walk of its code.
-/
import Derived.Test.YtcgkkjimonfhbaaRows
import Derived.Test.YtcgkkjimonfhbaaPx11
import Derived.Test.YtcgkkjimonfhbaaOpens
import Derived.Test.YtcgkkjimonfhbaaPureSigApart
import Derived.WalkKit
import Derived.ProofKit
import Derived.OpenShut
import Derived.ShutString
import Derived.ChangeOld
import Derived.Below
import Derived.SizedLaws
namespace Go.Proofs.Ytcgkkjimonfhbaa.sigApart
open Go.ChangeShapes Go.WideShapes Go.ChangeAt Go.RowKit Go.Proofs.YtcgkkjimonfhbaaOwn Go.Proofs.Ytcgkkjimonfhbaa.P Go.Proofs.YtcgkkjimonfhbaaW.PrintWords
open Go.ChangeMaps (open_string shut_string)
set_option linter.unusedVariables false
set_option linter.unusedSimpArgs false
theorem own : ownKnob Try.prog.godebug = none := by kernel_rfl
theorem laidOut : laidOutB Try.prog = true := by kernel_rfl
theorem walk (PURE : ∀ (y0 : S39) (y1 : List Int) (y2 : S40), (ok39 y0) → ((y1.length * 1 ≤ 140737488351232 ∧ y1.length ≤ maxLen ∧ ∀ z0 ∈ y1, (Lit.int .u8 z0).wf = true)) → (ok40 y2) → ∃ k, phaetonlaw15_SigApart.f k y0.f0.f0 y0.f0.f1 y0.f0.f2 y0.f0.f3 y0.f0.f4 y0.f0.f5 y0.f1.f0 y0.f1.f1 y0.f1.f2 y0.f1.f3 y0.f1.f4 y0.f1.f5 y1 y2.f0 y2.f1 = some true) (W : World) (y0 : S39) (A1 : Option Addr) (c1 : Nat) (y1 : List Int) (y2 : S40) (ok0 : ok39 y0) (hr1 : Kd.C (Kd.int .u8) W A1 y1.length y1) (hc1 : y1.length ≤ c1) (ok1 : (y1.length * 1 ≤ 140737488351232 ∧ y1.length ≤ maxLen ∧ ∀ z0 ∈ y1, (Lit.int .u8 z0).wf = true)) (ok2 : ok40 y2) :
    Calls Try.prog 7 #[.agg #[.int .i64 y0.f0.f0, .int .i64 y0.f0.f1, .bool y0.f0.f2, .bool y0.f0.f3, .int .i64 y0.f0.f4, .int .i64 y0.f0.f5, .int .i64 y0.f1.f0, .int .i64 y0.f1.f1, .bool y0.f1.f2, .bool y0.f1.f3, .int .i64 y0.f1.f4, .int .i64 y0.f1.f5], .slice A1 y1.length c1, .agg #[.int .i64 y2.f0, .int .i64 y2.f1]] W fun e w' => e = .returned (.bool true) ∧ Below W.heap.size W w' := by
  obtain ⟨k, h⟩ := PURE y0 y1 y2 ok0 ok1 ok2
  refine (phaetonlaw15_SigApart.calls k y0.f0.f0 y0.f0.f1 y0.f0.f2 y0.f0.f3 y0.f0.f4 y0.f0.f5 y0.f1.f0 y0.f1.f1 y0.f1.f2 y0.f1.f3 y0.f1.f4 y0.f1.f5 A1 c1 y1 y2.f0 y2.f1 true W hr1 hc1 h).mono ?_
  rintro e w' ⟨rfl, hd⟩
  exact ⟨rfl, hd⟩
set_option maxHeartbeats 2000000 in
set_option maxRecDepth 100000 in
theorem lifted (PURE : ∀ (y0 : S39) (y1 : List Int) (y2 : S40), (ok39 y0) → ((y1.length * 1 ≤ 140737488351232 ∧ y1.length ≤ maxLen ∧ ∀ z0 ∈ y1, (Lit.int .u8 z0).wf = true)) → (ok40 y2) → ∃ k, phaetonlaw15_SigApart.f k y0.f0.f0 y0.f0.f1 y0.f0.f2 y0.f0.f3 y0.f0.f4 y0.f0.f5 y0.f1.f0 y0.f1.f1 y0.f1.f2 y0.f1.f3 y0.f1.f4 y0.f1.f5 y1 y2.f0 y2.f1 = some true) (os : Os) (started : os.Started) (H : Type) (enc : TypeId × Value → H) :
    ReturnsInHanded {} Try.checked os 7 .any (Rows.sigApartSpec.pre6 enc Try.prog Try.f7 Rows.sigApartRow.domain false) (Rows.sigApartSpec.post enc Try.prog Try.f7 false true false false) := by
  refine returnsInHanded_of_change_sized (C := Try.checked) own started (by kernel_rfl) Try.func7
    (ChangeSpec.witness6 (enc := enc) (C := Try.checked) false ⟨#[], #[.agg #[.int .i64 0, .int .i64 0, .bool false, .bool false, .int .i64 0, .int .i64 0, .int .i64 0, .int .i64 0, .bool false, .bool false, .int .i64 0, .int .i64 0], .slice none 0 0, .agg #[.int .i64 0, .int .i64 0]], []⟩ 8 (by kernel_rfl) (by kernel_rfl) (by kernel_rfl) (by kernel_rfl)) ?_
  intro W base args ds gs before hval0 hW hcnd hsz0 _
  have hsz : (DataW.weightsEach Try.prog (Try.f7.params.toList ++ Rows.sigApartSpec.plain.varTypes Try.prog) (ds ++ gs)).all (· ≤ reachBytes) = true := hsz0
  have hval : ∀ (j : Nat) t v, Try.f7.params[j]? = some t → args[j]? = some v → Value.okWide Try.prog W .any base t v := hval0
  have hW' := hW
  obtain ⟨p, q, hA0, hV, rfl, hfz, hnd⟩ := hW
  have hA : DataW.TrodAll enc Try.prog W 0 (fun _ => true) true Try.f7.params.toList args.toList ds p := hA0
  rw [Try.params7] at hA hval hsz
  obtain ⟨v0, vs0, d0, ds0, p0, q0, hargs, rfl, rfl, h0, r0⟩ := trodAll_cons hA
  obtain ⟨v1, vs1, d1, ds1, p1, q1, rfl, rfl, rfl, h1, r1⟩ := trodAll_cons r0
  obtain ⟨v2, vs2, d2, ds2, p2, q2, rfl, rfl, rfl, h2, r2⟩ := trodAll_cons r1
  obtain ⟨rfl, rfl, rfl⟩ := trodAll_nil r2
  obtain rfl : args = #[v0, v1, v2] := by cases args; simp_all
  obtain ⟨rfl, rfl⟩ := trodVars_none hV
  have lt0 : ∀ x ∈ p0, x.block < W.heap.size := by obtain ⟨m, hm⟩ := h0; exact DataW.trod_lt m _ _ _ hm
  obtain ⟨y0, hK0, ok0⟩ := opens_arg (j := 0) (t := 39) opens39 hsz rfl rfl h0
  obtain ⟨cs0, rfl, hn0⟩ := okWide_array Try.underlying39 (hval 0 39 v0 rfl rfl)
  have hcs0 := k39_open hK0
  obtain rfl := agg_of hcs0
  clear hcs0 hn0 hK0
  have lt1 : ∀ x ∈ p1, x.block < W.heap.size := by obtain ⟨m, hm⟩ := h1; exact DataW.trod_lt m _ _ _ hm
  obtain ⟨y1, hK1, ok1⟩ := opens_arg (j := 1) (t := 24) (opens_slice (B := 1) Try.underlying24 (by kernel_rfl) (by kernel_rfl) (opens_int Try.underlying5 (by kernel_rfl))) hsz rfl rfl h1
  obtain ⟨a1, len1, cap1, rfl⟩ := okWide_slice Try.underlying24 (hval 1 24 v1 rfl rfl)
  obtain ⟨A1, c1, he1, hc1, hr1⟩ := hK1
  simp only [Value.cells, List.cons.injEq, and_true, Value.slice.injEq] at he1
  obtain ⟨rfl, rfl, rfl⟩ := he1
  have lt2 : ∀ x ∈ p2, x.block < W.heap.size := by obtain ⟨m, hm⟩ := h2; exact DataW.trod_lt m _ _ _ hm
  obtain ⟨y2, hK2, ok2⟩ := opens_arg (j := 2) (t := 40) opens40 hsz rfl rfl h2
  obtain ⟨cs2, rfl, hn2⟩ := okWide_array Try.underlying40 (hval 2 40 v2 rfl rfl)
  have hcs2 := k40_open hK2
  obtain rfl := agg_of hcs2
  clear hcs2 hn2 hK2
  clear hA0 hval0 hsz0 hsz
  refine (walk PURE W  y0 a1 cap1 y1  y2 ok0 hr1 hc1 ok1 ok2).mono fun e W' ⟨he, bel⟩ => ?_
  subst he
  exact ⟨_, rfl, _, _, _, [], _, [], hW', trodAll_mk1 (shut_bool Try.underlying4 _), (trodAll_cons_mk (Below.trod laidOut (by kernel_rfl) (of_decide_eq_true (by kernel_rfl)) h0 bel lt0) (trodAll_cons_mk (Below.trod laidOut (by kernel_rfl) (of_decide_eq_true (by kernel_rfl)) h1 bel lt1) (trodAll_cons_mk (Below.trod laidOut (by kernel_rfl) (of_decide_eq_true (by kernel_rfl)) h2 bel lt2) trodAll_mk0))), rfl, bel.frame _, fun h => by cases h⟩
theorem over (PURE : ∀ (y0 : S39) (y1 : List Int) (y2 : S40), (ok39 y0) → ((y1.length * 1 ≤ 140737488351232 ∧ y1.length ≤ maxLen ∧ ∀ z0 ∈ y1, (Lit.int .u8 z0).wf = true)) → (ok40 y2) → ∃ k, phaetonlaw15_SigApart.f k y0.f0.f0 y0.f0.f1 y0.f0.f2 y0.f0.f3 y0.f0.f4 y0.f0.f5 y0.f1.f0 y0.f1.f1 y0.f1.f2 y0.f1.f3 y0.f1.f4 y0.f1.f5 y1 y2.f0 y2.f1 = some true) : Rows.sigApartRow.holds Try.pinned (OpenSpec.ofChange Rows.sigApartSpec) :=
  OpenClaim.holds_of_wide 7 Try.f7 rfl rfl rfl rfl rfl rfl rfl ⟨rfl, rfl, rfl, rfl, rfl⟩ rfl rfl rfl rfl rfl (by kernel_rfl) Try.func7 (by kernel_rfl)
    (of_decide_eq_true (by kernel_rfl)) (by unfold Func.isWrapper; first | (rw [if_pos (by decide +kernel)]; kernel_rfl) | (rw [if_neg (by decide +kernel)]; exact ⟨rfl, rfl⟩))
    (fun os started H enc _ => lifted PURE os started H enc)
theorem proved : Rows.SigApartSaid := over Pure.SigApart
#print axioms proved
end Go.Proofs.Ytcgkkjimonfhbaa.sigApart
namespace Go.Proofs.Ytcgkkjimonfhbaa
/-- The row, under a short name, for the claim. -/
theorem sigApart_holds : Rows.SigApartSaid := sigApart.proved
end Go.Proofs.Ytcgkkjimonfhbaa
