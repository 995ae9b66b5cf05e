/-
  The row of the law FlashPages: for every input that can be read the call returns true and each argument reads as before; out of the walk of its code.
-/
import Derived.Test.YtihippjbbcpggaaRows
import Derived.Test.YtihippjbbcpggaaJ2
import Derived.WalkKit
import Derived.ProofKit
import Derived.OpenShut
import Derived.ShutString
import Derived.ChangeOld
import Derived.Below
import Derived.SizedLaws
namespace Go.Proofs.Ytihippjbbcpggaa.flashPages
open Go Go.ChangeShapes Go.WideShapes Go.ChangeAt Go.RowKit Go.Proofs
open Go.Proofs.YtihippjbbcpggaaFw (law_calls rf_cell rf_agg)
set_option linter.unusedVariables false
set_option linter.unusedSimpArgs false
theorem own : ownKnob Try.prog.godebug = none := by kernel_rfl
theorem laidOut : laidOutB Try.prog = true := by kernel_rfl
set_option maxHeartbeats 2000000 in
set_option maxRecDepth 100000 in
theorem lifted (os : Os) (started : os.Started) (H : Type) (enc : TypeId × Value → H) :
    ReturnsInHanded {} Try.checked os 8 .any (Rows.flashPagesSpec.pre6 enc Try.prog Try.f8 Rows.flashPagesRow.domain false) (Rows.flashPagesSpec.post enc Try.prog Try.f8 false true false false) := by
  refine returnsInHanded_of_change_sized (C := Try.checked) own started (by kernel_rfl) Try.func8
    (ChangeSpec.witness6 (enc := enc) (C := Try.checked) false ⟨#[], #[.agg #[.slice none 0 0, .slice none 0 0, .int .i64 0, .bool false], .int .u8 0, .int .u8 0, .int .u8 0, .slice none 0 0, .slice none 0 0], []⟩ 8 (by kernel_rfl) (by kernel_rfl) (by kernel_rfl) (by kernel_rfl)) ?_
  intro W base args ds gs before hval0 hW hcnd hsz0 _
  have hsz : (DataW.weightsEach Try.prog (Try.f8.params.toList ++ Rows.flashPagesSpec.plain.varTypes Try.prog) (ds ++ gs)).all (· ≤ reachBytes) = true := hsz0
  have hval : ∀ (j : Nat) t v, Try.f8.params[j]? = some t → args[j]? = some v → Value.okWide Try.prog W .any base t v := hval0
  have hW' := hW
  obtain ⟨p, q, hA0, hV, rfl, hfz, hnd⟩ := hW
  have hA : DataW.TrodAll enc Try.prog W 0 (fun _ => true) true Try.f8.params.toList args.toList ds p := hA0
  rw [Try.params8] at hA hval hsz
  obtain ⟨v0, vs0, d0, ds0, p0, q0, hargs, rfl, rfl, h0, r0⟩ := trodAll_cons hA
  obtain ⟨v1, vs1, d1, ds1, p1, q1, rfl, rfl, rfl, h1, r1⟩ := trodAll_cons r0
  obtain ⟨v2, vs2, d2, ds2, p2, q2, rfl, rfl, rfl, h2, r2⟩ := trodAll_cons r1
  obtain ⟨v3, vs3, d3, ds3, p3, q3, rfl, rfl, rfl, h3, r3⟩ := trodAll_cons r2
  obtain ⟨v4, vs4, d4, ds4, p4, q4, rfl, rfl, rfl, h4, r4⟩ := trodAll_cons r3
  obtain ⟨v5, vs5, d5, ds5, p5, q5, rfl, rfl, rfl, h5, r5⟩ := trodAll_cons r4
  obtain ⟨rfl, rfl, rfl⟩ := trodAll_nil r5
  obtain rfl : args = #[v0, v1, v2, v3, v4, v5] := by cases args; simp_all
  obtain ⟨rfl, rfl⟩ := trodVars_none hV
  have lt0 : ∀ x ∈ p0, x.block < W.heap.size := by obtain ⟨m, hm⟩ := h0; exact DataW.trod_lt m _ _ _ hm
  obtain ⟨y0, hK0, ok0⟩ := Go.Proofs.YtihippjbbcpggaaFw.opens_arg (j := 0) (t := 25) Go.Proofs.YtihippjbbcpggaaFw.opens25 hsz rfl rfl h0
  obtain ⟨cs0, rfl, hn0⟩ := okWide_struct Try.underlying25 (hval 0 25 v0 rfl rfl)
  have rf0 := rf_agg hK0
  have lt1 : ∀ x ∈ p1, x.block < W.heap.size := by obtain ⟨m, hm⟩ := h1; exact DataW.trod_lt m _ _ _ hm
  obtain ⟨y1, hK1, ok1⟩ := Go.Proofs.YtihippjbbcpggaaFw.opens_arg (j := 1) (t := 5) Go.Proofs.YtihippjbbcpggaaFw.opens5 hsz rfl rfl h1
  obtain ⟨b1, rfl⟩ := okWide_int Try.underlying5 (hval 1 5 v1 rfl rfl)
  have rf1 := rf_cell hK1 rfl
  have lt2 : ∀ x ∈ p2, x.block < W.heap.size := by obtain ⟨m, hm⟩ := h2; exact DataW.trod_lt m _ _ _ hm
  obtain ⟨y2, hK2, ok2⟩ := Go.Proofs.YtihippjbbcpggaaFw.opens_arg (j := 2) (t := 5) Go.Proofs.YtihippjbbcpggaaFw.opens5 hsz rfl rfl h2
  obtain ⟨b2, rfl⟩ := okWide_int Try.underlying5 (hval 2 5 v2 rfl rfl)
  have rf2 := rf_cell hK2 rfl
  have lt3 : ∀ x ∈ p3, x.block < W.heap.size := by obtain ⟨m, hm⟩ := h3; exact DataW.trod_lt m _ _ _ hm
  obtain ⟨y3, hK3, ok3⟩ := Go.Proofs.YtihippjbbcpggaaFw.opens_arg (j := 3) (t := 5) Go.Proofs.YtihippjbbcpggaaFw.opens5 hsz rfl rfl h3
  obtain ⟨b3, rfl⟩ := okWide_int Try.underlying5 (hval 3 5 v3 rfl rfl)
  have rf3 := rf_cell hK3 rfl
  have lt4 : ∀ x ∈ p4, x.block < W.heap.size := by obtain ⟨m, hm⟩ := h4; exact DataW.trod_lt m _ _ _ hm
  obtain ⟨y4, hK4, ok4⟩ := Go.Proofs.YtihippjbbcpggaaFw.opens_arg (j := 4) (t := 26) Go.Proofs.YtihippjbbcpggaaFw.opens26 hsz rfl rfl h4
  obtain ⟨a4, len4, cap4, rfl⟩ := okWide_slice Try.underlying26 (hval 4 26 v4 rfl rfl)
  have rf4 := rf_cell hK4 rfl
  have lt5 : ∀ x ∈ p5, x.block < W.heap.size := by obtain ⟨m, hm⟩ := h5; exact DataW.trod_lt m _ _ _ hm
  obtain ⟨y5, hK5, ok5⟩ := Go.Proofs.YtihippjbbcpggaaFw.opens_arg (j := 5) (t := 26) Go.Proofs.YtihippjbbcpggaaFw.opens26 hsz rfl rfl h5
  obtain ⟨a5, len5, cap5, rfl⟩ := okWide_slice Try.underlying26 (hval 5 26 v5 rfl rfl)
  have rf5 := rf_cell hK5 rfl
  clear hA0 hval0 hsz0 hsz
  refine (law_calls (Go.Proofs.YtihippjbbcpggaaFw.lawFlashPages y0 y1 y2 y3 y4 y5 ok0 ok1 ok2 ok3 ok4 ok5) W _ rfl ?_).mono fun e W' ⟨he, bel⟩ => ?_
  · intro i p v hp hv
    match i with
    | 0 =>
      obtain rfl := Option.some.inj hp
      obtain rfl := Option.some.inj hv
      exact rf0
    | 1 =>
      obtain rfl := Option.some.inj hp
      obtain rfl := Option.some.inj hv
      exact rf1
    | 2 =>
      obtain rfl := Option.some.inj hp
      obtain rfl := Option.some.inj hv
      exact rf2
    | 3 =>
      obtain rfl := Option.some.inj hp
      obtain rfl := Option.some.inj hv
      exact rf3
    | 4 =>
      obtain rfl := Option.some.inj hp
      obtain rfl := Option.some.inj hv
      exact rf4
    | 5 =>
      obtain rfl := Option.some.inj hp
      obtain rfl := Option.some.inj hv
      exact rf5
    | i + 6 => cases hp
  subst he
  exact ⟨_, rfl, _, _, _, [], _, [], hW', trodAll_mk1 (shut_bool Try.underlying4 _), (trodAll_cons_mk (Below.trod laidOut (by kernel_rfl) (of_decide_eq_true (by kernel_rfl)) h0 bel lt0) (trodAll_cons_mk (Below.trod laidOut (by kernel_rfl) (of_decide_eq_true (by kernel_rfl)) h1 bel lt1) (trodAll_cons_mk (Below.trod laidOut (by kernel_rfl) (of_decide_eq_true (by kernel_rfl)) h2 bel lt2) (trodAll_cons_mk (Below.trod laidOut (by kernel_rfl) (of_decide_eq_true (by kernel_rfl)) h3 bel lt3) (trodAll_cons_mk (Below.trod laidOut (by kernel_rfl) (of_decide_eq_true (by kernel_rfl)) h4 bel lt4) (trodAll_cons_mk (Below.trod laidOut (by kernel_rfl) (of_decide_eq_true (by kernel_rfl)) h5 bel lt5) trodAll_mk0)))))), rfl, bel.frame _, fun h => by cases h⟩
theorem over : Rows.flashPagesRow.holds Try.pinned (OpenSpec.ofChange Rows.flashPagesSpec) :=
  OpenClaim.holds_of_wide 8 Try.f8 rfl rfl rfl rfl rfl rfl rfl ⟨rfl, rfl, rfl, rfl, rfl⟩ rfl rfl rfl rfl rfl (by kernel_rfl) Try.func8 (by kernel_rfl)
    (of_decide_eq_true (by kernel_rfl)) (by unfold Func.isWrapper; first | (rw [if_pos (by decide +kernel)]; kernel_rfl) | (rw [if_neg (by decide +kernel)]; exact ⟨rfl, rfl⟩))
    (fun os started H enc _ => lifted os started H enc)
theorem proved : Rows.FlashPagesSaid := over
#print axioms proved
end Go.Proofs.Ytihippjbbcpggaa.flashPages
namespace Go.Proofs.Ytihippjbbcpggaa
/-- The row, under a short name, for the claim. -/
theorem flashPages_holds : Rows.FlashPagesSaid := flashPages.proved
end Go.Proofs.Ytihippjbbcpggaa
