/-
  The row and the card of the law TopWhole: for every input that can be read the call returns true and each argument reads as before; out of the walk of its code.
-/
import Derived.Test.YtoifmpiikopelaaDoorRows
import Derived.Test.YtoifmpiikopelaaDoorTie
import Derived.Test.YtoifmpiikopelaaDoorCards
import Derived.Test.YtoifmpiikopelaaDoorJ6
import Derived.WalkKit
import Derived.ProofKit
import Derived.OpenShut
import Derived.ShutString
import Derived.ChangeOld
import Derived.Below
import Derived.SizedLaws
import Derived.LaidMore
import Derived.SevenTiedAt
import Derived.Stop.Joined
namespace Go.Proofs.YtoifmpiikopelaaDoor.topWhole
open Go Go.ChangeShapes Go.WideShapes Go.ChangeAt Go.RowKit Go.Proofs
open Go.Proofs.YtoifmpiikopelaaDoorFw (law_calls rf_cell rf_agg)
set_option linter.unusedVariables false
set_option linter.unusedSimpArgs false
theorem own : ownKnob Tryd.prog.godebug = none := by kernel_rfl
theorem laidOut : laidOutB Tryd.prog = true := by kernel_rfl
/-- The heap that the door leaves meets what the row lists. -/
theorem door_met (os : Os) (args : Array Value) : laidMetH Tryd.prog Rows.topWholeRow.laid ((World.doorLaid Tryd.prog 400 os).forCall (fun _ _ => 0) ⟨#[], args, []⟩).memory :=
  laidMetH_of_parts (laidMet_of_run' 8 (by kernel_rfl) (by kernel_rfl)) (by kernel_rfl)
set_option maxHeartbeats 2000000 in
set_option maxRecDepth 100000 in
theorem lifted (os : Os) (started : os.Started) (H : Type) (enc : TypeId × Value → H) :
    ReturnsInHanded {} Tryd.checked os 7 .any (fun w args => (Rows.topWholeSpec.pre enc Tryd.prog Tryd.f7 [] false w args ∧ laidMetH Tryd.prog Rows.topWholeRow.laid w) ∧ sizedMet enc Tryd.prog Tryd.f7 (OpenSpec.ofChange Rows.topWholeSpec) false w args)
      (Rows.topWholeSpec.post enc Tryd.prog Tryd.f7 false true false false) := by
  refine returnsInHanded_of_change_and (C := Tryd.checked) (X := fun w _ => laidMetH Tryd.prog Rows.topWholeRow.laid w) (fun _ _ _ hh h => h.of_heap hh) own started (by kernel_rfl) Tryd.func7
    (ChangeSpec.witness_shaped (enc := enc) (C := Tryd.checked) (os := os) (X := fun w _ => laidMetH Tryd.prog Rows.topWholeRow.laid w) false (World.doorLaid Tryd.prog 400 os) #[.agg #[.int .i64 0, .slice none 0 0], .int .i64 0, .int .i64 0, .bool false, .int .u8 0] 8 rfl (World.shaped_of_RefB (by kernel_rfl) (by kernel_rfl)) (by kernel_rfl) (by kernel_rfl) (by kernel_rfl) (door_met os _)) ?_
  intro W base args ds gs before hval0 hW hcnd hsz0 hL _
  have hsz : (DataW.weightsEach Tryd.prog (Tryd.f7.params.toList ++ Rows.topWholeSpec.plain.varTypes Tryd.prog) (ds ++ gs)).all (· ≤ reachBytes) = true := hsz0
  have hval : ∀ (j : Nat) t v, Tryd.f7.params[j]? = some t → args[j]? = some v → Value.okWide Tryd.prog W .any base t v := hval0
  have hW' := hW
  obtain ⟨p, q, hA0, hV, rfl, hfz, hnd⟩ := hW
  have hA : DataW.TrodAll enc Tryd.prog W 0 (fun _ => true) true Tryd.f7.params.toList args.toList ds p := hA0
  rw [Tryd.params7] at hA hval hsz
  obtain ⟨v0, vs0, d0, ds0, p0, q0, hargs, rfl, rfl, h0, r0⟩ := trodAll_cons hA
  obtain ⟨v1, vs1, d1, ds1, p1, q1, rfl, rfl, rfl, h1, r1⟩ := trodAll_cons r0
  obtain ⟨v2, vs2, d2, ds2, p2, q2, rfl, rfl, rfl, h2, r2⟩ := trodAll_cons r1
  obtain ⟨v3, vs3, d3, ds3, p3, q3, rfl, rfl, rfl, h3, r3⟩ := trodAll_cons r2
  obtain ⟨v4, vs4, d4, ds4, p4, q4, rfl, rfl, rfl, h4, r4⟩ := trodAll_cons r3
  obtain ⟨rfl, rfl, rfl⟩ := trodAll_nil r4
  obtain rfl : args = #[v0, v1, v2, v3, v4] := by cases args; simp_all
  obtain ⟨rfl, rfl⟩ := trodVars_none hV
  have lt0 : ∀ x ∈ p0, x.block < W.heap.size := by obtain ⟨m, hm⟩ := h0; exact DataW.trod_lt m _ _ _ hm
  obtain ⟨y0, hK0, ok0⟩ := Go.Proofs.YtoifmpiikopelaaDoorFw.opens_arg (j := 0) (t := 24) Go.Proofs.YtoifmpiikopelaaDoorFw.opens24 hsz rfl rfl h0
  obtain ⟨cs0, rfl, hn0⟩ := okWide_struct Tryd.underlying24 (hval 0 24 v0 rfl rfl)
  have rf0 := rf_agg hK0
  have lt1 : ∀ x ∈ p1, x.block < W.heap.size := by obtain ⟨m, hm⟩ := h1; exact DataW.trod_lt m _ _ _ hm
  obtain ⟨y1, hK1, ok1⟩ := Go.Proofs.YtoifmpiikopelaaDoorFw.opens_arg (j := 1) (t := 3) Go.Proofs.YtoifmpiikopelaaDoorFw.opens3 hsz rfl rfl h1
  obtain ⟨b1, rfl⟩ := okWide_int Tryd.underlying3 (hval 1 3 v1 rfl rfl)
  have rf1 := rf_cell hK1 rfl
  have lt2 : ∀ x ∈ p2, x.block < W.heap.size := by obtain ⟨m, hm⟩ := h2; exact DataW.trod_lt m _ _ _ hm
  obtain ⟨y2, hK2, ok2⟩ := Go.Proofs.YtoifmpiikopelaaDoorFw.opens_arg (j := 2) (t := 3) Go.Proofs.YtoifmpiikopelaaDoorFw.opens3 hsz rfl rfl h2
  obtain ⟨b2, rfl⟩ := okWide_int Tryd.underlying3 (hval 2 3 v2 rfl rfl)
  have rf2 := rf_cell hK2 rfl
  have lt3 : ∀ x ∈ p3, x.block < W.heap.size := by obtain ⟨m, hm⟩ := h3; exact DataW.trod_lt m _ _ _ hm
  obtain ⟨y3, hK3, ok3⟩ := Go.Proofs.YtoifmpiikopelaaDoorFw.opens_arg (j := 3) (t := 4) Go.Proofs.YtoifmpiikopelaaDoorFw.opens4 hsz rfl rfl h3
  obtain ⟨b3, rfl⟩ := okWide_bool Tryd.underlying4 (hval 3 4 v3 rfl rfl)
  have rf3 := rf_cell hK3 rfl
  have lt4 : ∀ x ∈ p4, x.block < W.heap.size := by obtain ⟨m, hm⟩ := h4; exact DataW.trod_lt m _ _ _ hm
  obtain ⟨y4, hK4, ok4⟩ := Go.Proofs.YtoifmpiikopelaaDoorFw.opens_arg (j := 4) (t := 5) Go.Proofs.YtoifmpiikopelaaDoorFw.opens5 hsz rfl rfl h4
  obtain ⟨b4, rfl⟩ := okWide_int Tryd.underlying5 (hval 4 5 v4 rfl rfl)
  have rf4 := rf_cell hK4 rfl
  clear hA0 hval0 hsz0 hsz hL
  refine (law_calls (Go.Proofs.YtoifmpiikopelaaDoorFw.lawTopWholeA y0 y1 y2 y3 y4 ok0 ok1 ok2 ok3 ok4) W _ rfl ?_).mono fun e W' ⟨he, bel⟩ => ?_
  · intro i p v hp hv
    match i with
    | 0 =>
      obtain rfl := Option.some.inj hp
      obtain rfl := Option.some.inj hv
      exact rf0
    | 1 =>
      obtain rfl := Option.some.inj hp
      obtain rfl := Option.some.inj hv
      exact rf1
    | 2 =>
      obtain rfl := Option.some.inj hp
      obtain rfl := Option.some.inj hv
      exact rf2
    | 3 =>
      obtain rfl := Option.some.inj hp
      obtain rfl := Option.some.inj hv
      exact rf3
    | 4 =>
      obtain rfl := Option.some.inj hp
      obtain rfl := Option.some.inj hv
      exact rf4
    | i + 5 => cases hp
  subst he
  exact ⟨_, rfl, _, _, _, [], _, [], hW', trodAll_mk1 (shut_bool Tryd.underlying4 _), (trodAll_cons_mk (Below.trod laidOut (by kernel_rfl) (of_decide_eq_true (by kernel_rfl)) h0 bel lt0) (trodAll_cons_mk (Below.trod laidOut (by kernel_rfl) (of_decide_eq_true (by kernel_rfl)) h1 bel lt1) (trodAll_cons_mk (Below.trod laidOut (by kernel_rfl) (of_decide_eq_true (by kernel_rfl)) h2 bel lt2) (trodAll_cons_mk (Below.trod laidOut (by kernel_rfl) (of_decide_eq_true (by kernel_rfl)) h3 bel lt3) (trodAll_cons_mk (Below.trod laidOut (by kernel_rfl) (of_decide_eq_true (by kernel_rfl)) h4 bel lt4) trodAll_mk0))))), rfl, bel.frame _, fun h => by cases h⟩
theorem over : Rows.topWholeRow.holds Tryd.pinned (OpenSpec.ofChange Rows.topWholeSpec) :=
  OpenClaim.holds_of_wide 7 Tryd.f7 rfl rfl rfl rfl rfl rfl rfl ⟨rfl, rfl, rfl, rfl, rfl⟩ rfl rfl rfl rfl rfl (by kernel_rfl) Tryd.func7 (by kernel_rfl)
    (of_decide_eq_true (by kernel_rfl)) (by unfold Func.isWrapper; first | (rw [if_pos (by decide +kernel)]; kernel_rfl) | (rw [if_neg (by decide +kernel)]; exact ⟨rfl, rfl⟩))
    (fun os started H enc _ => lifted os started H enc)
theorem proved : Rows.TopWholeSaid := over
end Go.Proofs.YtoifmpiikopelaaDoor.topWhole
namespace Go.Proofs.YtoifmpiikopelaaDoor
/-- The tied card of the row. -/
theorem topWhole_holds : Rows.TopWholeCardSaid :=
  Claim7.holds_tied_plain_at .later [] [.sentinel] true (true, "7f7584c9c8d59da61c5daff7fe91556b0f2730051dc46636f16f8ceb9c87943c") true
    topWhole.proved (fun _ h => by cases h) (by kernel_rfl) (fun _ h => by cases h) topWhole_row_tie rfl ⟨rfl, rfl⟩ (by kernel_rfl) rfl
    (fun f fn hf hfn => by
      obtain rfl : f = 7 := Option.some.inj ((show Tryd.prog.funcNamed "phaeton/phaetontop.TopWhole" = some 7 by kernel_rfl).symm.trans hf) |>.symm
      obtain rfl : fn = Tryd.f7 := (Option.some.inj (Tryd.func7.symm.trans hfn)).symm
      refine ⟨by kernel_rfl, fun j t ht => ?_⟩
      rw [Tryd.params7] at ht
      match j, ht with
      | 0, ht =>
        obtain rfl : t = 24 := (Option.some.inj (show some 24 = some t from ht)).symm
        exact (show Tryd.prog.wantsStandIn 24 = false by kernel_rfl)
      | 1, ht =>
        obtain rfl : t = 3 := (Option.some.inj (show some 3 = some t from ht)).symm
        exact (show Tryd.prog.wantsStandIn 3 = false by kernel_rfl)
      | 2, ht =>
        obtain rfl : t = 3 := (Option.some.inj (show some 3 = some t from ht)).symm
        exact (show Tryd.prog.wantsStandIn 3 = false by kernel_rfl)
      | 3, ht =>
        obtain rfl : t = 4 := (Option.some.inj (show some 4 = some t from ht)).symm
        exact (show Tryd.prog.wantsStandIn 4 = false by kernel_rfl)
      | 4, ht =>
        obtain rfl : t = 5 := (Option.some.inj (show some 5 = some t from ht)).symm
        exact (show Tryd.prog.wantsStandIn 5 = false by kernel_rfl)
      | j + 5, ht => cases ht)
    (by kernel_rfl)
#print axioms topWhole_holds
end Go.Proofs.YtoifmpiikopelaaDoor
