/-
  sig.walk and its closure, and sig.Right, by hand: a signal's places, and whether it may be so. Conditions: none for Right; for the closure, what a round keeps.
-/
import Derived.RangeFuncBox
import Derived.RangeFuncLeaves
import Derived.RangeFuncNested
import Derived.Shelf.Abstract
import Derived.WalkKit
import Derived.OwnWalkIn
import Derived.TacticsInMore
import Derived.LoopNIn
import Derived.LoopIn
import Derived.Maps.AppendAt
import Derived.Test.YtcgkkjimonfhbaaPx1
namespace Go.Proofs.Ytcgkkjimonfhbaa.P
open Go.RowKit Go.Shelf Go.Proofs.YtcgkkjimonfhbaaW.PrintWords Go.Proofs.YtcgkkjimonfhbaaW.PrintLast Go.Proofs.YtcgkkjimonfhbaaW.PrintMore
attribute [local go_sem] Oper.semAt_some
set_option linter.unusedVariables false
set_option linter.unusedSimpArgs false

/-- The next place of a walk; the k-th one; all. -/
def nxtS (big : Bool) (at_ : Int) : Int := if big = true then (if at_ % 8 = 0 then at_ + 15 else at_ - 1) else at_ + 1
def atK (big : Bool) (st : Int) : Nat → Int
  | 0 => st
  | k + 1 => nxtS big (atK big st k)
def placesK (big : Bool) (st : Int) (n : Nat) : List Int := (List.range n).map (atK big st)
theorem placesK_len (big : Bool) (st : Int) (n : Nat) : (placesK big st n).length = n := by simp [placesK]
theorem placesK_succ (big : Bool) (st : Int) (n : Nat) : placesK big st (n + 1) = placesK big st n ++ [atK big st n] := by simp [placesK, List.range_succ]
theorem placesK_prefix (big : Bool) (st : Int) {k n : Nat} (h : k ≤ n) : placesK big st k <+: placesK big st n := by
  rw [List.prefix_iff_eq_take, placesK_len]
  unfold placesK
  rw [← List.map_take, List.take_range, Nat.min_eq_left h]
theorem atK_range (big : Bool) (st : Int) (h : 0 ≤ st ∧ st < 64) : ∀ k : Nat, 0 ≤ atK big st k ∧ atK big st k < 64 + 15 * k
  | 0 => by simp [atK]; omega
  | k + 1 => by
    have := atK_range big st h k
    unfold atK nxtS
    split
    · split <;> omega
    · omega

/-- The signal's own cells. -/
def sigC (st ln : Int) (big sgn : Bool) (mul add : Int) : Array Value := #[.int .i64 st, .int .i64 ln, .bool big, .bool sgn, .int .i64 mul, .int .i64 add]
/-- What a round keeps: the block of the signal. -/
def KpB (B : Nat) (W W' : World) : Prop := W'.heap[B]? = W.heap[B]?
theorem kpB_t {B : Nat} {A C D : World} (h : KpB B A C) (k : KpB B C D) : KpB B A D := Eq.trans k h
theorem kpB_b {B : Nat} {w : World} (hB : B < w.heap.size) (W : World) (l : Nat) (o o' : Obj) (hl : w.heap.size ≤ l) (h : W.heap[l]? = some o) (_ : o.isCells = false) (_ : o.isWalk = false) : KpB B W (W.putObj l o') := World.putObj_heap_other (by omega)

theorem walk_in (F : Fence) (n : Nat) (hf : F.fn 33) (hro : F.round = none) (st ln : Int) (big sgn : Bool) (mul add : Int) (w : World) :
    CallsIn F n Try.prog 33 #[.agg #[.int .i64 st, .int .i64 ln, .bool big, .bool sgn, .int .i64 mul, .int .i64 add]] w fun e w' => e = .returned (.func (.func 36) #[] #[.pointer (some ⟨w.heap.size, 0, none⟩)]) ∧ w' = w.alloc (.cells #[.int .i64 st, .int .i64 ln, .bool big, .bool sgn, .int .i64 mul, .int .i64 add] 23) := by
  refine callsIn_of_wp Try.func33 rfl hf ?_ hro
  simp only [Try.ntmps33, List.size_toArray, List.length_cons, List.length_nil, Nat.reduceAdd, Nat.reduceSub, Array.replicate_succ, Array.replicate_zero, List.push_toArray, List.append_toArray, List.nil_append, List.cons_append]
  gi_wp2
  go_ret
  exact ⟨rfl, rfl⟩

set_option maxRecDepth 100000 in
set_option maxHeartbeats 4000000 in
theorem walk1_in (F : Fence) (n : Nat) (hf : F.fn 36) (hro : F.round = none) (hn : 1 ≤ n) (l B : Nat) (st : Int) (hst : 0 ≤ st ∧ st < 64) (ln : Nat) (hln : ln ≤ 32) (big sgn : Bool) (mul add : Int) (J Jx : List Int → World → Prop)
    (hY : ∀ pre x W, J pre W → pre.length < ln → x = atK big st pre.length → YieldAt F (n - 1) Try.prog l #[.int .i64 x] W fun e W' =>
      (e = .returned (.bool true) ∧ J (pre ++ [x]) W' ∧ KpB B W W') ∨ (e = .returned (.bool false) ∧ Jx (pre ++ [x]) W'))
    (W : World) (hB : W.heap[B]? = some (.cells (sigC st ln big sgn mul add) 23 (0, 0))) (h0 : J [] W) :
    CallsIn F n Try.prog 36 #[.func (.yield l) #[] #[], .pointer (some ⟨B, 0, none⟩)] W fun e W' => (∃ v, e = .returned v) ∧
      ((∃ ys, ys = placesK big st ln ∧ J ys W') ∨ (∃ pre, pre <+: placesK big st ln ∧ Jx pre W')) := by
  refine callsIn_of_wp Try.func36 rfl hf ?_ hro
  simp only [Try.ntmps36, List.size_toArray, List.length_cons, List.length_nil, Nat.reduceAdd, Nat.reduceSub, Array.replicate_succ, Array.replicate_zero, List.push_toArray, List.append_toArray, List.nil_append, List.cons_append]
  have q0 : W.cell? ⟨B, 0, none⟩ = some (.int .i64 st) := (blk_cell hB 0).trans rfl
  have q1 : W.cell? ⟨B, 1, none⟩ = some (.int .i64 ln) := (blk_cell hB 1).trans rfl
  gi_wp2
  gi_loopw [3, 8] (fun p i wr => ∃ k : Nat, k ≤ ln ∧ p = .int .i64 (atK big st k) ∧ i = .int .i64 k ∧ J (placesK big st k) wr ∧ wr.heap[B]? = some (.cells (sigC st ln big sgn mul add) 23 (0, 0)))
    (fun p i wr => ln - (intOf i).toNat)
  case atStart =>
    exact ⟨0, Nat.zero_le _, rfl, rfl, h0, hB⟩
  case round =>
    obtain ⟨k, hk, rfl, rfl, hJ, hBr⟩ := hrel
    clear q0 q1
    have hr := atK_range big st hst k
    by_cases hlt : k < ln
    · obtain ⟨fn, tmps, assign, body, hy, hR⟩ := hY (placesK big st k) (atK big st k) wr hJ (by rw [placesK_len]; exact hlt) (by rw [placesK_len])
      have hlz : (k : Int) < (ln : Int) := by omega
      obtain ⟨a, ha⟩ : ∃ a, a = atK big st k := ⟨_, rfl⟩
      have HN := Aside0.mk (show atK big st (k + 1) = nxtS big a by rw [ha]; rfl)
      have HP := Aside0.mk (show placesK big st k ++ [a] = placesK big st (k + 1) by rw [placesK_succ, ha])
      rw [← ha] at hy hR hr ⊢
      clear ha
      have a0 : 0 ≤ a := hr.1
      have a1 : a < 1000 := by omega
      gi_wp2
      refine hR.mono ?_
      rintro e W3 (⟨rfl, hJ3, hk3⟩ | ⟨rfl, hJx3⟩)
      · have hB3 : W3.heap[B]? = some (.cells (sigC st ln big sgn mul add) 23 (0, 0)) := (show W3.heap[B]? = wr.heap[B]? from hk3).trans hBr
        have q2 : W3.cell? ⟨B, 2, none⟩ = some (.bool big) := (blk_cell hB3 2).trans rfl
        cases big with
        | false =>
          gi_wp2
          go_roundw
          case rel => exact ⟨k + 1, by omega, by rw [HN.out]; rfl, by go_num, by rw [← HP.out]; exact hJ3, hB3⟩
          case measure => simp [intOf]; omega
        | true =>
          by_cases h8 : a % 8 = 0
          · gi_wp2
            go_roundw
            case rel => exact ⟨k + 1, by omega, by rw [HN.out, nxtS, if_pos rfl, if_pos h8], by go_num, by rw [← HP.out]; exact hJ3, hB3⟩
            case measure => simp [intOf]; omega
          · have h8' : (a % 8 == 0) = false := by simpa using h8
            gi_wp2
            go_roundw
            case rel => exact ⟨k + 1, by omega, by rw [HN.out, nxtS, if_pos rfl, if_neg h8], by go_num, by rw [← HP.out]; exact hJ3, hB3⟩
            case measure => simp [intOf]; omega
      · gi_wp2
        refine bodyPost_ret (results_none rfl _ _ _) rfl ?_
        refine ⟨⟨_, rfl⟩, .inr ⟨placesK big st k ++ [a], ?_, hJx3⟩⟩
        rw [HP.out]
        exact placesK_prefix big st (by omega)
    · have hge : ¬ (k : Int) < (ln : Int) := by omega
      gi_wp2
      go_end0
      exact ⟨⟨_, rfl⟩, .inl (by rw [show ln = k by omega]; exact hJ)⟩

theorem walk_stops (F : Fence) (n : Nat) (hf : F.fn 36) (hro : F.round = none) (hn : 1 ≤ n) (B : Nat) (st : Int) (hst : 0 ≤ st ∧ st < 64) (ln : Nat) (hln : ln ≤ 32) (big sgn : Bool) (mul add : Int) (w : World) (hB : w.heap[B]? = some (.cells (sigC st ln big sgn mul add) 23 (0, 0))) :
    SeqStopsK F n Try.prog 36 #[.pointer (some ⟨B, 0, none⟩)] (fun x : Int => #[Value.int .i64 x]) (KpB B) (fun ys => ys = placesK big st ln) (fun pre => pre <+: placesK big st ln) ln w := fun l J Jx W hW _ _ hY h0 =>
  walk1_in F n hf hro hn l B st hst ln hln big sgn mul add J Jx (fun pre x W hJ hlen _ => hY pre x W hJ hlen) W (blk_below hB hW) h0

/-- May a signal be so, among so many bytes? -/
def withinB (n far : Int) : Bool := decide (-far ≤ n) && decide (n ≤ far)
def rightS (st ln : Int) (big sgn : Bool) (mul add bytes : Int) : Bool :=
  decide (0 ≤ bytes) && (decide (bytes ≤ 8) && (decide (1 ≤ ln) && (decide (ln ≤ 32) && (decide (0 ≤ st) && (decide (st < 8 * bytes) && ((placesK big st ln.toNat).all (fun a => decide (a < 8 * bytes)) && (!(mul == 0) && (withinB mul 1000000 && withinB add 1000000000))))))))
def sig_Right.f (a0_0 : Int) (a0_1 : Int) (a0_2 : Bool) (a0_3 : Bool) (a0_4 : Int) (a0_5 : Int) (a1 : Int) : Option (Bool) := some (rightS a0_0 a0_1 a0_2 a0_3 a0_4 a0_5 a1)

theorem within_some (a far : Int) (h : 0 ≤ far ∧ far ≤ 1000000000) : sig_within.f a far = some (withinB a far) := by
  have hw : wrap64 (-far) = -far := by unfold wrap64; omega
  unfold sig_within.f withinB
  rw [hw]
  by_cases h : a ≥ -far
  · rw [if_pos h, decide_eq_true (show -far ≤ a from h)]; simp
  · rw [if_neg h, decide_eq_false (show ¬ -far ≤ a from h)]; simp

theorem r3_b0 (w : World) (o0 o1 o2 : Obj) : (((w.alloc o0).alloc o1).alloc o2).heap[w.heap.size]? = some o0 := blk_alloc (blk_alloc (blk_new _ _) _) _
theorem r3_b1 (w : World) (o0 o1 o2 : Obj) : (((w.alloc o0).alloc o1).alloc o2).heap[w.heap.size + 1]? = some o1 := by
  have h : (((w.alloc o0).alloc o1).heap[(w.alloc o0).heap.size]?) = some o1 := blk_new _ _
  rw [show (w.alloc o0).heap.size = w.heap.size + 1 by simp] at h
  exact blk_alloc h _
theorem r3_b2 (w : World) (o0 o1 o2 : Obj) : (((w.alloc o0).alloc o1).alloc o2).heap[w.heap.size + 1 + 1]? = some o2 := by
  have h : ((((w.alloc o0).alloc o1).alloc o2).heap[((w.alloc o0).alloc o1).heap.size]?) = some o2 := blk_new _ _
  rw [show ((w.alloc o0).alloc o1).heap.size = w.heap.size + 1 + 1 by simp] at h
  exact h
theorem r3_below (w : World) (o0 o1 o2 : Obj) : Below w.heap.size w (((w.alloc o0).alloc o1).alloc o2) := below_alloc (below_alloc (below_alloc (Below.refl _ w) _) _) _
/-- What is wrong ahead of the walk. -/
theorem right_early (st ln : Int) (big sgn : Bool) (mul add bytes : Int) (w : World) (h : bytes < 0 ∨ (¬ bytes < 0 ∧ bytes > 8) ∨ (¬ bytes < 0 ∧ ¬ bytes > 8 ∧ ln < 1) ∨ (¬ bytes < 0 ∧ ¬ bytes > 8 ∧ ¬ ln < 1 ∧ ln > 32) ∨ (¬ bytes < 0 ∧ ¬ bytes > 8 ∧ ¬ ln < 1 ∧ ¬ ln > 32 ∧ st < 0) ∨ (¬ bytes < 0 ∧ ¬ bytes > 8 ∧ ¬ ln < 1 ∧ ¬ ln > 32 ∧ ¬ st < 0 ∧ 8 * bytes ≤ st)) :
    Calls Try.prog 16 #[.agg #[.int .i64 st, .int .i64 ln, .bool big, .bool sgn, .int .i64 mul, .int .i64 add], .int .i64 bytes] w fun e w' => e = .returned (.bool false) ∧ Below w.heap.size w w' := by
  have hu23 := Try.underlying23
  rcases h with h1 | ⟨h1, h2⟩ | ⟨h1, h2, h3⟩ | ⟨h1, h2, h3, h4⟩ | ⟨h1, h2, h3, h4, h5⟩ | ⟨h1, h2, h3, h4, h5, h6⟩
  · have g1 : decide (bytes < 0) = true := decide_eq_true h1
    clear h1
    go_enter Try.func16, Try.ntmps16
    go_wp2
    exact bodyPost_ret (v := .bool false) (by simp [results, Try.f16, go_sem]) rfl ⟨rfl, r3_below w _ _ _⟩
  · have g1 : decide (bytes < 0) = false := decide_eq_false h1
    have g2 : decide (8 < bytes) = true := decide_eq_true h2
    clear h1 h2
    go_enter Try.func16, Try.ntmps16
    go_wp2
    exact bodyPost_ret (v := .bool false) (by simp [results, Try.f16, go_sem]) rfl ⟨rfl, r3_below w _ _ _⟩
  · have g1 : decide (bytes < 0) = false := decide_eq_false h1
    have g2 : decide (8 < bytes) = false := decide_eq_false h2
    have g3 : decide (ln < 1) = true := decide_eq_true h3
    clear h1 h2 h3
    go_enter Try.func16, Try.ntmps16
    go_wp2
    exact bodyPost_ret (v := .bool false) (by simp [results, Try.f16, go_sem]) rfl ⟨rfl, r3_below w _ _ _⟩
  · have g1 : decide (bytes < 0) = false := decide_eq_false h1
    have g2 : decide (8 < bytes) = false := decide_eq_false h2
    have g3 : decide (ln < 1) = false := decide_eq_false h3
    have g4 : decide (32 < ln) = true := decide_eq_true h4
    clear h1 h2 h3 h4
    go_enter Try.func16, Try.ntmps16
    go_wp2
    exact bodyPost_ret (v := .bool false) (by simp [results, Try.f16, go_sem]) rfl ⟨rfl, r3_below w _ _ _⟩
  · have g1 : decide (bytes < 0) = false := decide_eq_false h1
    have g2 : decide (8 < bytes) = false := decide_eq_false h2
    have g3 : decide (ln < 1) = false := decide_eq_false h3
    have g4 : decide (32 < ln) = false := decide_eq_false h4
    have g5 : decide (st < 0) = true := decide_eq_true h5
    clear h1 h2 h3 h4 h5
    go_enter Try.func16, Try.ntmps16
    go_wp2
    exact bodyPost_ret (v := .bool false) (by simp [results, Try.f16, go_sem]) rfl ⟨rfl, r3_below w _ _ _⟩
  · have b1 : 0 ≤ bytes := by omega
    have b2 : bytes ≤ 8 := by omega
    have g1 : decide (bytes < 0) = false := decide_eq_false h1
    have g2 : decide (8 < bytes) = false := decide_eq_false h2
    have g3 : decide (ln < 1) = false := decide_eq_false h3
    have g4 : decide (32 < ln) = false := decide_eq_false h4
    have g5 : decide (st < 0) = false := decide_eq_false h5
    have g6 : decide (8 * bytes ≤ st) = true := decide_eq_true h6
    clear h1 h2 h3 h4 h5 h6
    go_enter Try.func16, Try.ntmps16
    go_wp2
    exact bodyPost_ret (v := .bool false) (by simp [results, Try.f16, go_sem]) rfl ⟨rfl, r3_below w _ _ _⟩

theorem below_drewN_ {B : Nat} {w W : World} (h : Below B w W) (n : Nat) : Below B w (W.drewN n) := pw_below_drewN h n
/-- The end: the result's cell is read behind the loop's deferred calls. -/
theorem right_end (w : World) (n D : Nat) (W : World) (r r' : Bool) (tmps : Array Value) (ht : tmps[4]? = some (.pointer (some ⟨w.heap.size + 1 + 1, 0, none⟩))) (hr : r' = r) (hcr : W.cell? ⟨w.heap.size + 1 + 1, 0, none⟩ = some (.bool r')) (hB : Below w.heap.size w W) (hD : w.heap.size ≤ D) (hK : W.heap[D]? = some (.deferred (some []))) :
    bodyPostM Fence.wide n Try.prog Try.f16 (fun e w' => e = .returned (.bool r) ∧ Below w.heap.size w w') Exit.ret { tmps := tmps, defers := [{ target := Target.collected D, args := #[] }] } W := by
  refine ⟨by simp, .inl ⟨_, _, rfl, run_takeDeferred hK, ?_⟩⟩
  have hcc := cell_kept hcr (grownBy_putObj' _ D (.deferred none)) (fun r e => by cases e; exact ⟨_, hK, rfl⟩)
  refine ⟨.bool r', ?_, by rw [hr], hB.trans (belowK_b (w := w) (Nat.le_refl _) W D _ _ hD hK rfl rfl)⟩
  simp [results, Try.f16, go_sem, hcc, ht]

set_option maxRecDepth 100000 in
set_option maxHeartbeats 4000000 in
/-- The walk: from the first place on. -/
theorem right_walk (st : Int) (ln : Nat) (big sgn : Bool) (mul add bytes : Int) (w : World) (hb : 0 ≤ bytes ∧ bytes ≤ 8) (hln : 1 ≤ ln ∧ ln ≤ 32) (hst : 0 ≤ st ∧ st < 8 * bytes) :
    Calls Try.prog 16 #[.agg #[.int .i64 st, .int .i64 ln, .bool big, .bool sgn, .int .i64 mul, .int .i64 add], .int .i64 bytes] w fun e w' => e = .returned (.bool ((placesK big st ln).all (fun a => decide (a < 8 * bytes)) && (!(mul == 0) && (withinB mul 1000000 && withinB add 1000000000)))) ∧ Below w.heap.size w w' := by
  have hu23 := Try.underlying23
  have b1 : 0 ≤ bytes := hb.1
  have b2 : bytes ≤ 8 := hb.2
  have g1 : decide (bytes < 0) = false := decide_eq_false (by omega)
  have g2 : decide (8 < bytes) = false := decide_eq_false (by omega)
  have g3 : decide ((ln : Int) < 1) = false := decide_eq_false (by omega)
  have g4 : decide (32 < (ln : Int)) = false := decide_eq_false (by omega)
  have g5 : decide (st < 0) = false := decide_eq_false (by omega)
  have g6 : decide (8 * bytes ≤ st) = false := decide_eq_false (by omega)
  obtain ⟨n, hn⟩ : ∃ n : Nat, 5 ≤ n := ⟨5, Nat.le_refl _⟩
  refine (callsIn_wide (n := n)).1 ?_
  have hro : Fence.wide.round = none := rfl
  have h1 : 1 ≤ n := by omega
  refine callsIn_of_wp_marks Try.func16 rfl trivial ?_ hro
  simp only [Try.ntmps16, List.size_toArray, List.length_cons, List.length_nil, Nat.reduceAdd, Nat.reduceSub, Array.replicate_succ, Array.replicate_zero, List.push_toArray, List.append_toArray, List.nil_append, List.cons_append]
  gi_wp2_with (refine ⟨trivial, ?_⟩; gi_at_call 33; refine (walk_in Fence.wide (n - 1) trivial hro st ln big sgn mul add _).mono ?_; rintro e w' ⟨rfl, rfl⟩)
  have hsB : ((((w.alloc (.cells #[.int .i64 st, .int .i64 ln, .bool big, .bool sgn, .int .i64 mul, .int .i64 add] 23)).alloc (.cells #[.int .i64 bytes] 3)).alloc (.cells #[.bool false] 4)).alloc (.cells #[.int .i64 st, .int .i64 ln, .bool big, .bool sgn, .int .i64 mul, .int .i64 add] 23)).heap[w.heap.size + 1 + 1 + 1]? = some (.cells (sigC st ln big sgn mul add) 23 (0, 0)) := by
    have h := blk_new (((w.alloc (.cells #[.int .i64 st, .int .i64 ln, .bool big, .bool sgn, .int .i64 mul, .int .i64 add] 23)).alloc (.cells #[.int .i64 bytes] 3)).alloc (.cells #[.bool false] 4)) (.cells #[.int .i64 st, .int .i64 ln, .bool big, .bool sgn, .int .i64 mul, .int .i64 add] 23)
    rw [show (((w.alloc (.cells #[.int .i64 st, .int .i64 ln, .bool big, .bool sgn, .int .i64 mul, .int .i64 add] 23)).alloc (.cells #[.int .i64 bytes] 3)).alloc (.cells #[.bool false] 4)).heap.size = w.heap.size + 1 + 1 + 1 by simp] at h
    exact h
  have h0 := blk_alloc (r3_b0 w (.cells #[.int .i64 st, .int .i64 ln, .bool big, .bool sgn, .int .i64 mul, .int .i64 add] 23) (.cells #[.int .i64 bytes] 3) (.cells #[.bool false] 4)) (.cells #[.int .i64 st, .int .i64 ln, .bool big, .bool sgn, .int .i64 mul, .int .i64 add] 23)
  have h1' := blk_alloc (r3_b1 w (.cells #[.int .i64 st, .int .i64 ln, .bool big, .bool sgn, .int .i64 mul, .int .i64 add] 23) (.cells #[.int .i64 bytes] 3) (.cells #[.bool false] 4)) (.cells #[.int .i64 st, .int .i64 ln, .bool big, .bool sgn, .int .i64 mul, .int .i64 add] 23)
  have h2' := blk_alloc (r3_b2 w (.cells #[.int .i64 st, .int .i64 ln, .bool big, .bool sgn, .int .i64 mul, .int .i64 add] 23) (.cells #[.int .i64 bytes] 3) (.cells #[.bool false] 4)) (.cells #[.int .i64 st, .int .i64 ln, .bool big, .bool sgn, .int .i64 mul, .int .i64 add] 23)
  have hB0 := below_alloc (r3_below w (.cells #[.int .i64 st, .int .i64 ln, .bool big, .bool sgn, .int .i64 mul, .int .i64 add] 23) (.cells #[.int .i64 bytes] 3) (.cells #[.bool false] 4)) (.cells #[.int .i64 st, .int .i64 ln, .bool big, .bool sgn, .int .i64 mul, .int .i64 add] 23)
  refine wpIn_rangeFunc_ownF hro h1 (gf := 36) (lb := #[.pointer (some ⟨w.heap.size + 1 + 1 + 1, 0, none⟩)]) rfl trivial (enters_of Try.func36 (by kernel_rfl) rfl)
    (walk_stops Fence.wide (n - 1) trivial hro (by omega) (w.heap.size + 1 + 1 + 1) st (by omega) ln (by omega) big sgn mul add _ hsB) kpB_t (kpB_b (by simp)) (Below.refl _ _) (fun _ => rfl)
    (fun pre W => ((∀ y ∈ pre, y < 8 * bytes) ∧ W.cell? ⟨w.heap.size + 1, 0, none⟩ = some (.int .i64 bytes) ∧ W.cell? ⟨w.heap.size + 1 + 1, 0, none⟩ = some (.bool false) ∧ W.frozen? ⟨w.heap.size + 1 + 1, 0, none⟩ = false ∧ W.cell? ⟨w.heap.size, 4, none⟩ = some (.int .i64 mul) ∧ W.cell? ⟨w.heap.size, 5, none⟩ = some (.int .i64 add)) ∧ Below w.heap.size w W)
    (fun c pre W => (c = .ret ∧ (∃ y ∈ pre, ¬ y < 8 * bytes) ∧ W.cell? ⟨w.heap.size + 1 + 1, 0, none⟩ = some (.bool false)) ∧ Below w.heap.size w W)
    (OwnFrom.and (Own.from (fun s A B row hs hg hr => ⟨hs.1, cell_kept hs.2.1 hg hr, cell_kept hs.2.2.1 hg hr, (frozen_kept hs.2.2.1 hg hr).trans hs.2.2.2.1, cell_kept hs.2.2.2.2.1 hg hr, cell_kept hs.2.2.2.2.2 hg hr⟩) _) (ownFrom_below (Nat.le_refl _) (by simp; omega)))
    (fun c => OwnFrom.and (Own.from (fun s A B row hs hg hr => ⟨hs.1, hs.2.1, cell_kept hs.2.2 hg hr⟩) _) (ownFrom_below (Nat.le_refl _) (by simp; omega)))
    ⟨⟨by simp, (blk_cell h1' 0).trans rfl, (blk_cell h2' 0).trans rfl, blk_frozen h2' 0, (blk_cell h0 4).trans rfl, (blk_cell h0 5).trans rfl⟩, hB0⟩
    (fun x => { tmps := #[.agg #[.int .i64 st, .int .i64 (ln : Int), .bool big, .bool sgn, .int .i64 mul, .int .i64 add], .int .i64 bytes, .pointer (some ⟨w.heap.size, 0, none⟩), .pointer (some ⟨w.heap.size + 1, 0, none⟩), .pointer (some ⟨w.heap.size + 1 + 1, 0, none⟩), .int .i64 x, .int .i64 bytes, .bool false, .bool false, .int .i64 bytes, .bool false, .bool false, .bool false, .pointer (some ⟨w.heap.size, 1, none⟩), .int .i64 (ln : Int), .bool false, .bool false, .bool false, .pointer (some ⟨w.heap.size, 1, none⟩), .int .i64 (ln : Int), .bool false, .bool false, .bool false, .pointer (some ⟨w.heap.size, 0, none⟩), .int .i64 st, .bool false, .bool false, .bool false, .pointer (some ⟨w.heap.size, 0, none⟩), .int .i64 st, .int .i64 bytes, .int .i64 (8 * bytes), .bool false, .bool false, .agg #[.int .i64 st, .int .i64 (ln : Int), .bool big, .bool sgn, .int .i64 mul, .int .i64 add], .func (.func 36) #[] #[.pointer (some ⟨w.heap.size + 1 + 1 + 1, 0, none⟩)], .int .i64 x, undef, undef, undef, undef, undef, undef, undef, undef, undef, undef, undef, undef, undef, undef, undef, undef, undef], defers := [] }) ?assign ?body ?done ?stop
  case assign =>
    intro l x W K hK
    gi_wp2
    exact hK
  case body =>
    rintro l pre x W ⟨⟨hp, hcb, hcr, hfr, hc4, hc5⟩, hB⟩ _
    by_cases hx : 8 * bytes ≤ x
    · gi_wp2
      exact ⟨KeepsOthers.setCell _ _ _, ⟨rfl, ⟨x, by simp, by omega⟩, World.cell?_setCell_same' _ _ _ (by rw [hcr]; rfl)⟩, hB.setCell (p := ⟨w.heap.size + 1 + 1, 0, none⟩) (by simp; omega) _⟩
    · have hx' : decide (8 * bytes ≤ x) = false := decide_eq_false hx
      gi_wp2
      exact ⟨KeepsOthers.refl _, rfl, ⟨fun y hy => (List.mem_append.1 hy).elim (hp y) (fun e => by simp at e; omega), hcb, hcr, hfr, hc4, hc5⟩, hB⟩
  case done =>
    rintro D ys W hD rfl ⟨⟨hp, hcb, hcr, hfr, hc4, hc5⟩, hB⟩ hK
    have hall : (placesK big st ln).all (fun a => decide (a < 8 * bytes)) = true := by
      rw [List.all_eq_true]
      exact fun y hy => by simpa using hp y hy
    have HA := Aside0.mk hall
    have HBW := Aside0.mk hB
    have HK := Aside0.mk hK
    have HD := Aside0.mk (show w.heap.size ≤ D by simp at hD; omega)
    clear hall hB hp hcb hD
    by_cases hm : mul = 0
    · subst hm
      gi_wp2
      refine ⟨trivial, ?_⟩
      gi_wp2
      refine ⟨trivial, ?_⟩
      gi_wp2
      refine right_end w n D _ _ false _ rfl (by first | rfl | (rw [HA.out]; rfl)) (World.cell?_setCell_same' _ _ _ (by rw [hcr]; rfl)) (HBW.out.setCell (p := ⟨w.heap.size + 1 + 1, 0, none⟩) (by simp; omega) _) HD.out ((KeepsOthers.setCell W _ _).same D _ HK.out rfl)
    · have hm' : (mul == 0) = false := by simpa using hm
      have hm2 : (mul != 0) = true := by simpa using hm
      clear hm
      cases hw : withinB mul 1000000 with
      | false =>
        have W1 := Aside0.mk (show sig_within.f mul 1000000 = some false by rw [within_some _ _ (by omega), hw])
        have HW := Aside0.mk hw
        clear hw
        gi_wp2
        refine ⟨trivial, ?_⟩
        gi_at_call 34
        refine (callsIn_wide.2 (sig_within.calls mul 1000000 false _ W1.out)).mono ?_
        rintro e w1 ⟨rfl, ⟨m1, rfl⟩⟩
        gi_wp2
        refine ⟨trivial, ?_⟩
        gi_wp2
        refine right_end w n D _ _ false _ rfl (by rw [HA.out, hm', HW.out]; rfl) (World.cell?_setCell_same' _ _ _ (by rw [World.cell?_drewN, hcr]; rfl)) ((below_drewN_ HBW.out m1).setCell (p := ⟨w.heap.size + 1 + 1, 0, none⟩) (by simp; omega) _) HD.out ((KeepsOthers.setCell (W.drewN m1) _ _).same D _ HK.out rfl)
      | true =>
        have W1 := Aside0.mk (show sig_within.f mul 1000000 = some true by rw [within_some _ _ (by omega), hw])
        have HW := Aside0.mk hw
        clear hw
        obtain ⟨r, hr⟩ : ∃ r, withinB add 1000000000 = r := ⟨_, rfl⟩
        have W2 := Aside0.mk (show sig_within.f add 1000000000 = some r by rw [within_some _ _ (by omega), hr])
        have HRR := Aside0.mk hr
        clear hr
        gi_wp2
        refine ⟨trivial, ?_⟩
        gi_at_call 34
        refine (callsIn_wide.2 (sig_within.calls mul 1000000 true _ W1.out)).mono ?_
        rintro e w1 ⟨rfl, ⟨m1, rfl⟩⟩
        gi_wp2
        refine ⟨trivial, ?_⟩
        gi_at_call 34
        refine (callsIn_wide.2 (sig_within.calls add 1000000000 r _ W2.out)).mono ?_
        rintro e w1 ⟨rfl, ⟨m2, rfl⟩⟩
        gi_wp2
        exact right_end w n D _ _ r _ rfl (by rw [HA.out, hm', HW.out, HRR.out]; rfl) (World.cell?_setCell_same' _ _ _ (by rw [World.cell?_drewN, hcr]; rfl)) ((below_drewN_ HBW.out (m1 + m2)).setCell (p := ⟨w.heap.size + 1 + 1, 0, none⟩) (by simp; omega) _) HD.out ((KeepsOthers.setCell (W.drewN (m1 + m2)) _ _).same D _ HK.out rfl)
  case stop =>
    rintro D c pre W hD hpre ⟨⟨rfl, ⟨y, hy, hlt⟩, hcr⟩, hB⟩ hK
    have hall : (placesK big st ln).all (fun a => decide (a < 8 * bytes)) = false := by
      rw [List.all_eq_false]
      exact ⟨y, hpre.subset hy, by simpa using hlt⟩
    gi_wp2
    refine ⟨by simp, .inl ⟨_, _, rfl, run_takeDeferred hK, ?_⟩⟩
    have hcc := cell_kept hcr (grownBy_putObj' _ D (.deferred none)) (fun r e => by cases e; exact ⟨_, hK, rfl⟩)
    refine ⟨.bool false, ?_, by first | rfl | (rw [hall]; rfl), hB.trans (belowK_b (w := w) (Nat.le_refl _) W D _ _ (by simp at hD; omega) hK rfl rfl)⟩
    simp [results, Try.f16, go_sem, hcc]

theorem sig_Right.calls (a0_0 : Int) (a0_1 : Int) (a0_2 : Bool) (a0_3 : Bool) (a0_4 : Int) (a0_5 : Int) (a1 : Int) (r : Bool) (w : World) (h : sig_Right.f a0_0 a0_1 a0_2 a0_3 a0_4 a0_5 a1 = some r) :
    Calls Try.prog 16 #[.agg #[.int .i64 a0_0, .int .i64 a0_1, .bool a0_2, .bool a0_3, .int .i64 a0_4, .int .i64 a0_5], .int .i64 a1] w fun e w' => e = .returned (.bool r) ∧ Below w.heap.size w w' := by
  have hr : rightS a0_0 a0_1 a0_2 a0_3 a0_4 a0_5 a1 = r := by simpa [sig_Right.f] using h
  clear h
  by_cases c : 0 ≤ a1 ∧ a1 ≤ 8 ∧ 1 ≤ a0_1 ∧ a0_1 ≤ 32 ∧ 0 ≤ a0_0 ∧ a0_0 < 8 * a1
  · obtain ⟨c1, c2, c3, c4, c5, c6⟩ := c
    obtain ⟨ln, rfl⟩ : ∃ ln : Nat, a0_1 = ln := ⟨a0_1.toNat, by omega⟩
    refine (right_walk a0_0 ln a0_2 a0_3 a0_4 a0_5 a1 w ⟨c1, c2⟩ ⟨by omega, by omega⟩ ⟨c5, c6⟩).mono ?_
    rintro e w' ⟨rfl, hb⟩
    refine ⟨?_, hb⟩
    rw [← hr]
    unfold rightS
    rw [decide_eq_true c1, decide_eq_true c2, decide_eq_true c3, decide_eq_true c4, decide_eq_true c5, decide_eq_true c6]
    simp only [Bool.true_and, Int.toNat_natCast]
  · refine (right_early a0_0 a0_1 a0_2 a0_3 a0_4 a0_5 a1 w (by omega)).mono ?_
    rintro e w' ⟨rfl, hb⟩
    refine ⟨?_, hb⟩
    rw [← hr]
    have : rightS a0_0 a0_1 a0_2 a0_3 a0_4 a0_5 a1 = false := by
      rw [← Bool.not_eq_true]
      intro hh
      unfold rightS at hh
      simp only [Bool.and_eq_true, decide_eq_true_eq] at hh
      exact c ⟨hh.1, hh.2.1, hh.2.2.1, hh.2.2.2.1, hh.2.2.2.2.1, hh.2.2.2.2.2.1⟩
    rw [this]
end Go.Proofs.Ytcgkkjimonfhbaa.P
