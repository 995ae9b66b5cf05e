/-
  The row and the card of the law TopWears: for every input that can be read the call returns true and each argument reads as before; out of the walk of its code.
-/
import Derived.Test.YtoifmpiikopelaaDoorRows
import Derived.Test.YtoifmpiikopelaaDoorTie
import Derived.Test.YtoifmpiikopelaaDoorCards
import Derived.Test.YtoifmpiikopelaaDoorJ6
import Derived.WalkKit
import Derived.ProofKit
import Derived.OpenShut
import Derived.ShutString
import Derived.ChangeOld
import Derived.Below
import Derived.SizedLaws
import Derived.LaidMore
import Derived.SevenTiedAt
import Derived.Stop.Joined
namespace Go.Proofs.YtoifmpiikopelaaDoor.topWears
open Go Go.ChangeShapes Go.WideShapes Go.ChangeAt Go.RowKit Go.Proofs
open Go.Proofs.YtoifmpiikopelaaDoorFw (law_calls rf_cell rf_agg)
set_option linter.unusedVariables false
set_option linter.unusedSimpArgs false
theorem own : ownKnob Tryd.prog.godebug = none := by kernel_rfl
theorem laidOut : laidOutB Tryd.prog = true := by kernel_rfl
/-- The heap that the door leaves meets what the row lists. -/
theorem door_met (os : Os) (args : Array Value) : laidMetH Tryd.prog Rows.topWearsRow.laid ((World.doorLaid Tryd.prog 400 os).forCall (fun _ _ => 0) ⟨#[], args, []⟩).memory :=
  laidMetH_of_parts (laidMet_of_run' 8 (by kernel_rfl) (by kernel_rfl)) (by kernel_rfl)
set_option maxHeartbeats 2000000 in
set_option maxRecDepth 100000 in
theorem lifted (os : Os) (started : os.Started) (H : Type) (enc : TypeId × Value → H) :
    ReturnsInHanded {} Tryd.checked os 9 .any (fun w args => (Rows.topWearsSpec.pre enc Tryd.prog Tryd.f9 [] false w args ∧ laidMetH Tryd.prog Rows.topWearsRow.laid w) ∧ sizedMet enc Tryd.prog Tryd.f9 (OpenSpec.ofChange Rows.topWearsSpec) false w args)
      (Rows.topWearsSpec.post enc Tryd.prog Tryd.f9 false true false false) := by
  refine returnsInHanded_of_change_and (C := Tryd.checked) (X := fun w _ => laidMetH Tryd.prog Rows.topWearsRow.laid w) (fun _ _ _ hh h => h.of_heap hh) own started (by kernel_rfl) Tryd.func9
    (ChangeSpec.witness_shaped (enc := enc) (C := Tryd.checked) (os := os) (X := fun w _ => laidMetH Tryd.prog Rows.topWearsRow.laid w) false (World.doorLaid Tryd.prog 400 os) #[.agg #[.int .i64 0, .slice none 0 0], .agg #[.int .i64 0, .slice none 0 0], .int .i64 0] 8 rfl (World.shaped_of_RefB (by kernel_rfl) (by kernel_rfl)) (by kernel_rfl) (by kernel_rfl) (by kernel_rfl) (door_met os _)) ?_
  intro W base args ds gs before hval0 hW hcnd hsz0 hL _
  have hsz : (DataW.weightsEach Tryd.prog (Tryd.f9.params.toList ++ Rows.topWearsSpec.plain.varTypes Tryd.prog) (ds ++ gs)).all (· ≤ reachBytes) = true := hsz0
  have hval : ∀ (j : Nat) t v, Tryd.f9.params[j]? = some t → args[j]? = some v → Value.okWide Tryd.prog W .any base t v := hval0
  have hW' := hW
  obtain ⟨p, q, hA0, hV, rfl, hfz, hnd⟩ := hW
  have hA : DataW.TrodAll enc Tryd.prog W 0 (fun _ => true) true Tryd.f9.params.toList args.toList ds p := hA0
  rw [Tryd.params9] at hA hval hsz
  obtain ⟨v0, vs0, d0, ds0, p0, q0, hargs, rfl, rfl, h0, r0⟩ := trodAll_cons hA
  obtain ⟨v1, vs1, d1, ds1, p1, q1, rfl, rfl, rfl, h1, r1⟩ := trodAll_cons r0
  obtain ⟨v2, vs2, d2, ds2, p2, q2, rfl, rfl, rfl, h2, r2⟩ := trodAll_cons r1
  obtain ⟨rfl, rfl, rfl⟩ := trodAll_nil r2
  obtain rfl : args = #[v0, v1, v2] := by cases args; simp_all
  obtain ⟨rfl, rfl⟩ := trodVars_none hV
  have lt0 : ∀ x ∈ p0, x.block < W.heap.size := by obtain ⟨m, hm⟩ := h0; exact DataW.trod_lt m _ _ _ hm
  obtain ⟨y0, hK0, ok0⟩ := Go.Proofs.YtoifmpiikopelaaDoorFw.opens_arg (j := 0) (t := 24) Go.Proofs.YtoifmpiikopelaaDoorFw.opens24 hsz rfl rfl h0
  obtain ⟨cs0, rfl, hn0⟩ := okWide_struct Tryd.underlying24 (hval 0 24 v0 rfl rfl)
  have rf0 := rf_agg hK0
  have lt1 : ∀ x ∈ p1, x.block < W.heap.size := by obtain ⟨m, hm⟩ := h1; exact DataW.trod_lt m _ _ _ hm
  obtain ⟨y1, hK1, ok1⟩ := Go.Proofs.YtoifmpiikopelaaDoorFw.opens_arg (j := 1) (t := 24) Go.Proofs.YtoifmpiikopelaaDoorFw.opens24 hsz rfl rfl h1
  obtain ⟨cs1, rfl, hn1⟩ := okWide_struct Tryd.underlying24 (hval 1 24 v1 rfl rfl)
  have rf1 := rf_agg hK1
  have lt2 : ∀ x ∈ p2, x.block < W.heap.size := by obtain ⟨m, hm⟩ := h2; exact DataW.trod_lt m _ _ _ hm
  obtain ⟨y2, hK2, ok2⟩ := Go.Proofs.YtoifmpiikopelaaDoorFw.opens_arg (j := 2) (t := 3) Go.Proofs.YtoifmpiikopelaaDoorFw.opens3 hsz rfl rfl h2
  obtain ⟨b2, rfl⟩ := okWide_int Tryd.underlying3 (hval 2 3 v2 rfl rfl)
  have rf2 := rf_cell hK2 rfl
  clear hA0 hval0 hsz0 hsz hL
  refine (law_calls (Go.Proofs.YtoifmpiikopelaaDoorFw.lawTopWearsA y0 y1 y2 ok0 ok1 ok2) W _ rfl ?_).mono fun e W' ⟨he, bel⟩ => ?_
  · intro i p v hp hv
    match i with
    | 0 =>
      obtain rfl := Option.some.inj hp
      obtain rfl := Option.some.inj hv
      exact rf0
    | 1 =>
      obtain rfl := Option.some.inj hp
      obtain rfl := Option.some.inj hv
      exact rf1
    | 2 =>
      obtain rfl := Option.some.inj hp
      obtain rfl := Option.some.inj hv
      exact rf2
    | i + 3 => cases hp
  subst he
  exact ⟨_, rfl, _, _, _, [], _, [], hW', trodAll_mk1 (shut_bool Tryd.underlying4 _), (trodAll_cons_mk (Below.trod laidOut (by kernel_rfl) (of_decide_eq_true (by kernel_rfl)) h0 bel lt0) (trodAll_cons_mk (Below.trod laidOut (by kernel_rfl) (of_decide_eq_true (by kernel_rfl)) h1 bel lt1) (trodAll_cons_mk (Below.trod laidOut (by kernel_rfl) (of_decide_eq_true (by kernel_rfl)) h2 bel lt2) trodAll_mk0))), rfl, bel.frame _, fun h => by cases h⟩
theorem over : Rows.topWearsRow.holds Tryd.pinned (OpenSpec.ofChange Rows.topWearsSpec) :=
  OpenClaim.holds_of_wide 9 Tryd.f9 rfl rfl rfl rfl rfl rfl rfl ⟨rfl, rfl, rfl, rfl, rfl⟩ rfl rfl rfl rfl rfl (by kernel_rfl) Tryd.func9 (by kernel_rfl)
    (of_decide_eq_true (by kernel_rfl)) (by unfold Func.isWrapper; first | (rw [if_pos (by decide +kernel)]; kernel_rfl) | (rw [if_neg (by decide +kernel)]; exact ⟨rfl, rfl⟩))
    (fun os started H enc _ => lifted os started H enc)
theorem proved : Rows.TopWearsSaid := over
end Go.Proofs.YtoifmpiikopelaaDoor.topWears
namespace Go.Proofs.YtoifmpiikopelaaDoor
/-- The tied card of the row. -/
theorem topWears_holds : Rows.TopWearsCardSaid :=
  Claim7.holds_tied_plain_at .later [] [.sentinel] true (true, "7f7584c9c8d59da61c5daff7fe91556b0f2730051dc46636f16f8ceb9c87943c") true
    topWears.proved (fun _ h => by cases h) (by kernel_rfl) (fun _ h => by cases h) topWears_row_tie rfl ⟨rfl, rfl⟩ (by kernel_rfl) rfl
    (fun f fn hf hfn => by
      obtain rfl : f = 9 := Option.some.inj ((show Tryd.prog.funcNamed "phaeton/phaetontop.TopWears" = some 9 by kernel_rfl).symm.trans hf) |>.symm
      obtain rfl : fn = Tryd.f9 := (Option.some.inj (Tryd.func9.symm.trans hfn)).symm
      refine ⟨by kernel_rfl, fun j t ht => ?_⟩
      rw [Tryd.params9] at ht
      match j, ht with
      | 0, ht =>
        obtain rfl : t = 24 := (Option.some.inj (show some 24 = some t from ht)).symm
        exact (show Tryd.prog.wantsStandIn 24 = false by kernel_rfl)
      | 1, ht =>
        obtain rfl : t = 24 := (Option.some.inj (show some 24 = some t from ht)).symm
        exact (show Tryd.prog.wantsStandIn 24 = false by kernel_rfl)
      | 2, ht =>
        obtain rfl : t = 3 := (Option.some.inj (show some 3 = some t from ht)).symm
        exact (show Tryd.prog.wantsStandIn 3 = false by kernel_rfl)
      | j + 3, ht => cases ht)
    (by kernel_rfl)
#print axioms topWears_holds
end Go.Proofs.YtoifmpiikopelaaDoor
