/-
  The row and the card of the law TopTurns: for every input that can be read the call returns true and each argument reads as before; out of the walk of its code.
-/
import Derived.Test.YtoifmpiikopelaaDoorRows
import Derived.Test.YtoifmpiikopelaaDoorTie
import Derived.Test.YtoifmpiikopelaaDoorCards
import Derived.Test.YtoifmpiikopelaaDoorJ6
import Derived.WalkKit
import Derived.ProofKit
import Derived.OpenShut
import Derived.ShutString
import Derived.ChangeOld
import Derived.Below
import Derived.SizedLaws
import Derived.LaidMore
import Derived.SevenTiedAt
import Derived.Stop.Joined
namespace Go.Proofs.YtoifmpiikopelaaDoor.topTurns
open Go Go.ChangeShapes Go.WideShapes Go.ChangeAt Go.RowKit Go.Proofs
open Go.Proofs.YtoifmpiikopelaaDoorFw (law_calls rf_cell rf_agg)
set_option linter.unusedVariables false
set_option linter.unusedSimpArgs false
theorem own : ownKnob Tryd.prog.godebug = none := by kernel_rfl
theorem laidOut : laidOutB Tryd.prog = true := by kernel_rfl
/-- The heap that the door leaves meets what the row lists. -/
theorem door_met (os : Os) (args : Array Value) : laidMetH Tryd.prog Rows.topTurnsRow.laid ((World.doorLaid Tryd.prog 400 os).forCall (fun _ _ => 0) ⟨#[], args, []⟩).memory :=
  laidMetH_of_parts (laidMet_of_run' 8 (by kernel_rfl) (by kernel_rfl)) (by kernel_rfl)
set_option maxHeartbeats 2000000 in
set_option maxRecDepth 100000 in
theorem lifted (os : Os) (started : os.Started) (H : Type) (enc : TypeId × Value → H) :
    ReturnsInHanded {} Tryd.checked os 11 .any (fun w args => (Rows.topTurnsSpec.pre enc Tryd.prog Tryd.f11 [] false w args ∧ laidMetH Tryd.prog Rows.topTurnsRow.laid w) ∧ sizedMet enc Tryd.prog Tryd.f11 (OpenSpec.ofChange Rows.topTurnsSpec) false w args)
      (Rows.topTurnsSpec.post enc Tryd.prog Tryd.f11 false true false false) := by
  refine returnsInHanded_of_change_and (C := Tryd.checked) (X := fun w _ => laidMetH Tryd.prog Rows.topTurnsRow.laid w) (fun _ _ _ hh h => h.of_heap hh) own started (by kernel_rfl) Tryd.func11
    (ChangeSpec.witness_shaped (enc := enc) (C := Tryd.checked) (os := os) (X := fun w _ => laidMetH Tryd.prog Rows.topTurnsRow.laid w) false (World.doorLaid Tryd.prog 400 os) #[.slice none 0 0, .int .i64 0] 8 rfl (World.shaped_of_RefB (by kernel_rfl) (by kernel_rfl)) (by kernel_rfl) (by kernel_rfl) (by kernel_rfl) (door_met os _)) ?_
  intro W base args ds gs before hval0 hW hcnd hsz0 hL _
  have hsz : (DataW.weightsEach Tryd.prog (Tryd.f11.params.toList ++ Rows.topTurnsSpec.plain.varTypes Tryd.prog) (ds ++ gs)).all (· ≤ reachBytes) = true := hsz0
  have hval : ∀ (j : Nat) t v, Tryd.f11.params[j]? = some t → args[j]? = some v → Value.okWide Tryd.prog W .any base t v := hval0
  have hW' := hW
  obtain ⟨p, q, hA0, hV, rfl, hfz, hnd⟩ := hW
  have hA : DataW.TrodAll enc Tryd.prog W 0 (fun _ => true) true Tryd.f11.params.toList args.toList ds p := hA0
  rw [Tryd.params11] at hA hval hsz
  obtain ⟨v0, vs0, d0, ds0, p0, q0, hargs, rfl, rfl, h0, r0⟩ := trodAll_cons hA
  obtain ⟨v1, vs1, d1, ds1, p1, q1, rfl, rfl, rfl, h1, r1⟩ := trodAll_cons r0
  obtain ⟨rfl, rfl, rfl⟩ := trodAll_nil r1
  obtain rfl : args = #[v0, v1] := by cases args; simp_all
  obtain ⟨rfl, rfl⟩ := trodVars_none hV
  have lt0 : ∀ x ∈ p0, x.block < W.heap.size := by obtain ⟨m, hm⟩ := h0; exact DataW.trod_lt m _ _ _ hm
  obtain ⟨y0, hK0, ok0⟩ := Go.Proofs.YtoifmpiikopelaaDoorFw.opens_arg (j := 0) (t := 28) Go.Proofs.YtoifmpiikopelaaDoorFw.opens28 hsz rfl rfl h0
  obtain ⟨a0, len0, cap0, rfl⟩ := okWide_slice Tryd.underlying28 (hval 0 28 v0 rfl rfl)
  have rf0 := rf_cell hK0 rfl
  have lt1 : ∀ x ∈ p1, x.block < W.heap.size := by obtain ⟨m, hm⟩ := h1; exact DataW.trod_lt m _ _ _ hm
  obtain ⟨y1, hK1, ok1⟩ := Go.Proofs.YtoifmpiikopelaaDoorFw.opens_arg (j := 1) (t := 3) Go.Proofs.YtoifmpiikopelaaDoorFw.opens3 hsz rfl rfl h1
  obtain ⟨b1, rfl⟩ := okWide_int Tryd.underlying3 (hval 1 3 v1 rfl rfl)
  have rf1 := rf_cell hK1 rfl
  clear hA0 hval0 hsz0 hsz hL
  refine (law_calls (Go.Proofs.YtoifmpiikopelaaDoorFw.lawTopTurnsA y0 y1 ok0 ok1) W _ rfl ?_).mono fun e W' ⟨he, bel⟩ => ?_
  · intro i p v hp hv
    match i with
    | 0 =>
      obtain rfl := Option.some.inj hp
      obtain rfl := Option.some.inj hv
      exact rf0
    | 1 =>
      obtain rfl := Option.some.inj hp
      obtain rfl := Option.some.inj hv
      exact rf1
    | i + 2 => cases hp
  subst he
  exact ⟨_, rfl, _, _, _, [], _, [], hW', trodAll_mk1 (shut_bool Tryd.underlying4 _), (trodAll_cons_mk (Below.trod laidOut (by kernel_rfl) (of_decide_eq_true (by kernel_rfl)) h0 bel lt0) (trodAll_cons_mk (Below.trod laidOut (by kernel_rfl) (of_decide_eq_true (by kernel_rfl)) h1 bel lt1) trodAll_mk0)), rfl, bel.frame _, fun h => by cases h⟩
theorem over : Rows.topTurnsRow.holds Tryd.pinned (OpenSpec.ofChange Rows.topTurnsSpec) :=
  OpenClaim.holds_of_wide 11 Tryd.f11 rfl rfl rfl rfl rfl rfl rfl ⟨rfl, rfl, rfl, rfl, rfl⟩ rfl rfl rfl rfl rfl (by kernel_rfl) Tryd.func11 (by kernel_rfl)
    (of_decide_eq_true (by kernel_rfl)) (by unfold Func.isWrapper; first | (rw [if_pos (by decide +kernel)]; kernel_rfl) | (rw [if_neg (by decide +kernel)]; exact ⟨rfl, rfl⟩))
    (fun os started H enc _ => lifted os started H enc)
theorem proved : Rows.TopTurnsSaid := over
end Go.Proofs.YtoifmpiikopelaaDoor.topTurns
namespace Go.Proofs.YtoifmpiikopelaaDoor
/-- The tied card of the row. -/
theorem topTurns_holds : Rows.TopTurnsCardSaid :=
  Claim7.holds_tied_plain_at .later [] [.sentinel] true (true, "7f7584c9c8d59da61c5daff7fe91556b0f2730051dc46636f16f8ceb9c87943c") true
    topTurns.proved (fun _ h => by cases h) (by kernel_rfl) (fun _ h => by cases h) topTurns_row_tie rfl ⟨rfl, rfl⟩ (by kernel_rfl) rfl
    (fun f fn hf hfn => by
      obtain rfl : f = 11 := Option.some.inj ((show Tryd.prog.funcNamed "phaeton/phaetontop.TopTurns" = some 11 by kernel_rfl).symm.trans hf) |>.symm
      obtain rfl : fn = Tryd.f11 := (Option.some.inj (Tryd.func11.symm.trans hfn)).symm
      refine ⟨by kernel_rfl, fun j t ht => ?_⟩
      rw [Tryd.params11] at ht
      match j, ht with
      | 0, ht =>
        obtain rfl : t = 28 := (Option.some.inj (show some 28 = some t from ht)).symm
        exact (show Tryd.prog.wantsStandIn 28 = false by kernel_rfl)
      | 1, ht =>
        obtain rfl : t = 3 := (Option.some.inj (show some 3 = some t from ht)).symm
        exact (show Tryd.prog.wantsStandIn 3 = false by kernel_rfl)
      | j + 2, ht => cases ht)
    (by kernel_rfl)
#print axioms topTurns_holds
end Go.Proofs.YtoifmpiikopelaaDoor
