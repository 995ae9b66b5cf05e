/-
  The row and the card of the law TopForged: for every input that can be read the call returns true and each argument reads as before; out of the walk of its code.
-/
import Derived.Test.YtoifmpiikopelaaDoorRows
import Derived.Test.YtoifmpiikopelaaDoorTie
import Derived.Test.YtoifmpiikopelaaDoorCards
import Derived.Test.YtoifmpiikopelaaDoorJ6
import Derived.WalkKit
import Derived.ProofKit
import Derived.OpenShut
import Derived.ShutString
import Derived.ChangeOld
import Derived.Below
import Derived.SizedLaws
import Derived.LaidMore
import Derived.SevenTiedAt
import Derived.Stop.Joined
namespace Go.Proofs.YtoifmpiikopelaaDoor.topForged
open Go Go.ChangeShapes Go.WideShapes Go.ChangeAt Go.RowKit Go.Proofs
open Go.Proofs.YtoifmpiikopelaaDoorFw (law_calls rf_cell rf_agg)
set_option linter.unusedVariables false
set_option linter.unusedSimpArgs false
theorem own : ownKnob Tryd.prog.godebug = none := by kernel_rfl
theorem laidOut : laidOutB Tryd.prog = true := by kernel_rfl
/-- The heap that the door leaves meets what the row lists. -/
theorem door_met (os : Os) (args : Array Value) : laidMetH Tryd.prog Rows.topForgedRow.laid ((World.doorLaid Tryd.prog 400 os).forCall (fun _ _ => 0) ⟨#[], args, []⟩).memory :=
  laidMetH_of_parts (laidMet_of_run' 8 (by kernel_rfl) (by kernel_rfl)) (by kernel_rfl)
set_option maxHeartbeats 2000000 in
set_option maxRecDepth 100000 in
theorem lifted (os : Os) (started : os.Started) (H : Type) (enc : TypeId × Value → H) :
    ReturnsInHanded {} Tryd.checked os 6 .any (fun w args => (Rows.topForgedSpec.pre enc Tryd.prog Tryd.f6 [] false w args ∧ laidMetH Tryd.prog Rows.topForgedRow.laid w) ∧ sizedMet enc Tryd.prog Tryd.f6 (OpenSpec.ofChange Rows.topForgedSpec) false w args)
      (Rows.topForgedSpec.post enc Tryd.prog Tryd.f6 false true false false) := by
  refine returnsInHanded_of_change_and (C := Tryd.checked) (X := fun w _ => laidMetH Tryd.prog Rows.topForgedRow.laid w) (fun _ _ _ hh h => h.of_heap hh) own started (by kernel_rfl) Tryd.func6
    (ChangeSpec.witness_shaped (enc := enc) (C := Tryd.checked) (os := os) (X := fun w _ => laidMetH Tryd.prog Rows.topForgedRow.laid w) false (World.doorLaid Tryd.prog 400 os) #[.slice none 0 0, .slice none 0 0, .int .u32 0, .int .u16 0, .int .u8 0] 8 rfl (World.shaped_of_RefB (by kernel_rfl) (by kernel_rfl)) (by kernel_rfl) (by kernel_rfl) (by kernel_rfl) (door_met os _)) ?_
  intro W base args ds gs before hval0 hW hcnd hsz0 hL _
  have hsz : (DataW.weightsEach Tryd.prog (Tryd.f6.params.toList ++ Rows.topForgedSpec.plain.varTypes Tryd.prog) (ds ++ gs)).all (· ≤ reachBytes) = true := hsz0
  have hval : ∀ (j : Nat) t v, Tryd.f6.params[j]? = some t → args[j]? = some v → Value.okWide Tryd.prog W .any base t v := hval0
  have hW' := hW
  obtain ⟨p, q, hA0, hV, rfl, hfz, hnd⟩ := hW
  have hA : DataW.TrodAll enc Tryd.prog W 0 (fun _ => true) true Tryd.f6.params.toList args.toList ds p := hA0
  rw [Tryd.params6] at hA hval hsz
  obtain ⟨v0, vs0, d0, ds0, p0, q0, hargs, rfl, rfl, h0, r0⟩ := trodAll_cons hA
  obtain ⟨v1, vs1, d1, ds1, p1, q1, rfl, rfl, rfl, h1, r1⟩ := trodAll_cons r0
  obtain ⟨v2, vs2, d2, ds2, p2, q2, rfl, rfl, rfl, h2, r2⟩ := trodAll_cons r1
  obtain ⟨v3, vs3, d3, ds3, p3, q3, rfl, rfl, rfl, h3, r3⟩ := trodAll_cons r2
  obtain ⟨v4, vs4, d4, ds4, p4, q4, rfl, rfl, rfl, h4, r4⟩ := trodAll_cons r3
  obtain ⟨rfl, rfl, rfl⟩ := trodAll_nil r4
  obtain rfl : args = #[v0, v1, v2, v3, v4] := by cases args; simp_all
  obtain ⟨rfl, rfl⟩ := trodVars_none hV
  have lt0 : ∀ x ∈ p0, x.block < W.heap.size := by obtain ⟨m, hm⟩ := h0; exact DataW.trod_lt m _ _ _ hm
  obtain ⟨y0, hK0, ok0⟩ := Go.Proofs.YtoifmpiikopelaaDoorFw.opens_arg (j := 0) (t := 22) Go.Proofs.YtoifmpiikopelaaDoorFw.opens22 hsz rfl rfl h0
  obtain ⟨a0, len0, cap0, rfl⟩ := okWide_slice Tryd.underlying22 (hval 0 22 v0 rfl rfl)
  have rf0 := rf_cell hK0 rfl
  have lt1 : ∀ x ∈ p1, x.block < W.heap.size := by obtain ⟨m, hm⟩ := h1; exact DataW.trod_lt m _ _ _ hm
  obtain ⟨y1, hK1, ok1⟩ := Go.Proofs.YtoifmpiikopelaaDoorFw.opens_arg (j := 1) (t := 22) Go.Proofs.YtoifmpiikopelaaDoorFw.opens22 hsz rfl rfl h1
  obtain ⟨a1, len1, cap1, rfl⟩ := okWide_slice Tryd.underlying22 (hval 1 22 v1 rfl rfl)
  have rf1 := rf_cell hK1 rfl
  have lt2 : ∀ x ∈ p2, x.block < W.heap.size := by obtain ⟨m, hm⟩ := h2; exact DataW.trod_lt m _ _ _ hm
  obtain ⟨y2, hK2, ok2⟩ := Go.Proofs.YtoifmpiikopelaaDoorFw.opens_arg (j := 2) (t := 25) Go.Proofs.YtoifmpiikopelaaDoorFw.opens25 hsz rfl rfl h2
  obtain ⟨b2, rfl⟩ := okWide_int Tryd.underlying25 (hval 2 25 v2 rfl rfl)
  have rf2 := rf_cell hK2 rfl
  have lt3 : ∀ x ∈ p3, x.block < W.heap.size := by obtain ⟨m, hm⟩ := h3; exact DataW.trod_lt m _ _ _ hm
  obtain ⟨y3, hK3, ok3⟩ := Go.Proofs.YtoifmpiikopelaaDoorFw.opens_arg (j := 3) (t := 56) Go.Proofs.YtoifmpiikopelaaDoorFw.opens56 hsz rfl rfl h3
  obtain ⟨b3, rfl⟩ := okWide_int Tryd.underlying56 (hval 3 56 v3 rfl rfl)
  have rf3 := rf_cell hK3 rfl
  have lt4 : ∀ x ∈ p4, x.block < W.heap.size := by obtain ⟨m, hm⟩ := h4; exact DataW.trod_lt m _ _ _ hm
  obtain ⟨y4, hK4, ok4⟩ := Go.Proofs.YtoifmpiikopelaaDoorFw.opens_arg (j := 4) (t := 5) Go.Proofs.YtoifmpiikopelaaDoorFw.opens5 hsz rfl rfl h4
  obtain ⟨b4, rfl⟩ := okWide_int Tryd.underlying5 (hval 4 5 v4 rfl rfl)
  have rf4 := rf_cell hK4 rfl
  clear hA0 hval0 hsz0 hsz hL
  refine (law_calls (Go.Proofs.YtoifmpiikopelaaDoorFw.lawTopForgedA y0 y1 y2 y3 y4 ok0 ok1 ok2 ok3 ok4) W _ rfl ?_).mono fun e W' ⟨he, bel⟩ => ?_
  · intro i p v hp hv
    match i with
    | 0 =>
      obtain rfl := Option.some.inj hp
      obtain rfl := Option.some.inj hv
      exact rf0
    | 1 =>
      obtain rfl := Option.some.inj hp
      obtain rfl := Option.some.inj hv
      exact rf1
    | 2 =>
      obtain rfl := Option.some.inj hp
      obtain rfl := Option.some.inj hv
      exact rf2
    | 3 =>
      obtain rfl := Option.some.inj hp
      obtain rfl := Option.some.inj hv
      exact rf3
    | 4 =>
      obtain rfl := Option.some.inj hp
      obtain rfl := Option.some.inj hv
      exact rf4
    | i + 5 => cases hp
  subst he
  exact ⟨_, rfl, _, _, _, [], _, [], hW', trodAll_mk1 (shut_bool Tryd.underlying4 _), (trodAll_cons_mk (Below.trod laidOut (by kernel_rfl) (of_decide_eq_true (by kernel_rfl)) h0 bel lt0) (trodAll_cons_mk (Below.trod laidOut (by kernel_rfl) (of_decide_eq_true (by kernel_rfl)) h1 bel lt1) (trodAll_cons_mk (Below.trod laidOut (by kernel_rfl) (of_decide_eq_true (by kernel_rfl)) h2 bel lt2) (trodAll_cons_mk (Below.trod laidOut (by kernel_rfl) (of_decide_eq_true (by kernel_rfl)) h3 bel lt3) (trodAll_cons_mk (Below.trod laidOut (by kernel_rfl) (of_decide_eq_true (by kernel_rfl)) h4 bel lt4) trodAll_mk0))))), rfl, bel.frame _, fun h => by cases h⟩
theorem over : Rows.topForgedRow.holds Tryd.pinned (OpenSpec.ofChange Rows.topForgedSpec) :=
  OpenClaim.holds_of_wide 6 Tryd.f6 rfl rfl rfl rfl rfl rfl rfl ⟨rfl, rfl, rfl, rfl, rfl⟩ rfl rfl rfl rfl rfl (by kernel_rfl) Tryd.func6 (by kernel_rfl)
    (of_decide_eq_true (by kernel_rfl)) (by unfold Func.isWrapper; first | (rw [if_pos (by decide +kernel)]; kernel_rfl) | (rw [if_neg (by decide +kernel)]; exact ⟨rfl, rfl⟩))
    (fun os started H enc _ => lifted os started H enc)
theorem proved : Rows.TopForgedSaid := over
end Go.Proofs.YtoifmpiikopelaaDoor.topForged
namespace Go.Proofs.YtoifmpiikopelaaDoor
/-- The tied card of the row. -/
theorem topForged_holds : Rows.TopForgedCardSaid :=
  Claim7.holds_tied_plain_at .later [] [.sentinel] true (true, "7f7584c9c8d59da61c5daff7fe91556b0f2730051dc46636f16f8ceb9c87943c") true
    topForged.proved (fun _ h => by cases h) (by kernel_rfl) (fun _ h => by cases h) topForged_row_tie rfl ⟨rfl, rfl⟩ (by kernel_rfl) rfl
    (fun f fn hf hfn => by
      obtain rfl : f = 6 := Option.some.inj ((show Tryd.prog.funcNamed "phaeton/phaetontop.TopForged" = some 6 by kernel_rfl).symm.trans hf) |>.symm
      obtain rfl : fn = Tryd.f6 := (Option.some.inj (Tryd.func6.symm.trans hfn)).symm
      refine ⟨by kernel_rfl, fun j t ht => ?_⟩
      rw [Tryd.params6] at ht
      match j, ht with
      | 0, ht =>
        obtain rfl : t = 22 := (Option.some.inj (show some 22 = some t from ht)).symm
        exact (show Tryd.prog.wantsStandIn 22 = false by kernel_rfl)
      | 1, ht =>
        obtain rfl : t = 22 := (Option.some.inj (show some 22 = some t from ht)).symm
        exact (show Tryd.prog.wantsStandIn 22 = false by kernel_rfl)
      | 2, ht =>
        obtain rfl : t = 25 := (Option.some.inj (show some 25 = some t from ht)).symm
        exact (show Tryd.prog.wantsStandIn 25 = false by kernel_rfl)
      | 3, ht =>
        obtain rfl : t = 56 := (Option.some.inj (show some 56 = some t from ht)).symm
        exact (show Tryd.prog.wantsStandIn 56 = false by kernel_rfl)
      | 4, ht =>
        obtain rfl : t = 5 := (Option.some.inj (show some 5 = some t from ht)).symm
        exact (show Tryd.prog.wantsStandIn 5 = false by kernel_rfl)
      | j + 5, ht => cases ht)
    (by kernel_rfl)
#print axioms topForged_holds
end Go.Proofs.YtoifmpiikopelaaDoor
