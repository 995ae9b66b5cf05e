/-
  sig.Places by hand: a signal's places. No condition.
-/
import Derived.IntWalk
import Derived.Deep.RegionHeld3
import Derived.BigRegion
import Derived.RegionTactic
import Derived.Deep.LoopGhost
import Derived.Test.YtcgkkjimonfhbaaGRight
namespace Go.Proofs.Ytcgkkjimonfhbaa.P
open Go.RowKit Go.Shelf Go.Proofs.YtcgkkjimonfhbaaW.PrintWords Go.Proofs.YtcgkkjimonfhbaaW.PrintLast Go.Proofs.YtcgkkjimonfhbaaW.PrintMore
attribute [local go_sem] Oper.semAt_some
set_option linter.unusedVariables false
set_option linter.unusedSimpArgs false

def placesS (st ln : Int) (big sgn : Bool) (mul add : Int) : List Int :=
  if rightS st ln big sgn mul add 8 = true then (if big = true then (placesK big st ln.toNat).reverse else placesK big st ln.toNat) else []
def sig_Places.f (a0_0 : Int) (a0_1 : Int) (a0_2 : Bool) (a0_3 : Bool) (a0_4 : Int) (a0_5 : Int) : Option (List Int) := some (placesS a0_0 a0_1 a0_2 a0_3 a0_4 a0_5)
theorem infoP3 : (Try.prog.info? 3).map (fun i => (i.zero, i.size, i.bytes)) = some (some (.int .i64 0), 1, 8) := by kernel_rfl

theorem sig_kept {W w1 : World} {S B n₀ k : Nat} {cs : Array Value} {v v' : Value} {xs : List Value} {tmp : Obj} (hS : W.heap[S]? = some (.cells cs 23 (0, 0))) (hrow : W.ownsRow n₀ 3 1 v k xs) (hgrow : (W.alloc tmp).grownBy w1 v.ownBlock) (hne : S ≠ B) : (w1.setCell ⟨B, 0, none⟩ v').heap[S]? = some (.cells cs 23 (0, 0)) := by
  refine blk_far (p := ⟨B, 0, none⟩) (blk_grown (blk_alloc hS _) hgrow ?_) hne _
  intro e
  obtain ⟨cells, h2⟩ := own_typed hrow S e.symm
  rw [hS] at h2
  simp at h2
theorem heap_kept {A B : World} {g : Nat} {cs : Array Value} {t : TypeId} {m : Nat × Nat} {row : Option Nat} (h : A.heap[g]? = some (.cells cs t m)) (hg : A.grownBy B row) (hr : ∀ r, row = some r → ∃ o : Obj, A.heap[r]? = some o ∧ o.isCells = false) : B.heap[g]? = some (.cells cs t m) := by
  refine (hg.block g (Array.getElem?_eq_some_iff.1 h).1 (fun e => ?_)).trans h
  obtain ⟨o, ho, hc⟩ := hr g e.symm
  rw [h] at ho; cases ho; cases hc

/-- A list of which so many at the ends are exchanged. -/
def revK (xs : List Int) : Nat → List Int
  | 0 => xs
  | k + 1 => ((revK xs k).set k ((revK xs k).getD (xs.length - 1 - k) 0)).set (xs.length - 1 - k) ((revK xs k).getD k 0)
theorem revK_len (xs : List Int) : ∀ k, (revK xs k).length = xs.length
  | 0 => rfl
  | k + 1 => by simp [revK, revK_len xs k]
theorem revK_get (xs : List Int) : ∀ k, k ≤ xs.length / 2 → ∀ j, j < xs.length → (revK xs k).getD j 0 = if j < k ∨ xs.length - 1 - j < k then xs.getD (xs.length - 1 - j) 0 else xs.getD j 0
  | 0, _, j, _ => by simp [revK]
  | k + 1, hk, j, hj => by
    have I := fun j hj => revK_get xs k (by omega) j hj
    have L := revK_len xs k
    have h1 := I k (by omega)
    have h2 := I (xs.length - 1 - k) (by omega)
    have h3 := I j hj
    rw [if_neg (by omega)] at h1
    rw [if_neg (by omega)] at h2
    simp only [List.getD_eq_getElem?_getD] at h1 h2 h3 ⊢
    unfold revK
    rw [List.getElem?_set, List.length_set, L]
    by_cases c1 : xs.length - 1 - k = j
    · rw [if_pos c1, if_pos (by omega), if_pos (by omega)]
      simp only [List.getD_eq_getElem?_getD, Option.getD_some]
      rw [h1, show xs.length - 1 - j = k by omega]
    · rw [if_neg c1, List.getElem?_set, L]
      by_cases c2 : k = j
      · rw [if_pos c2, if_pos (by omega), if_pos (by omega)]
        simp only [List.getD_eq_getElem?_getD, Option.getD_some]
        rw [h2, c2]
      · rw [if_neg c2, h3]
        by_cases c3 : j < k ∨ xs.length - 1 - j < k
        · rw [if_pos c3, if_pos (by omega)]
        · rw [if_neg c3, if_neg (by omega)]
theorem revK_all (xs : List Int) : revK xs (xs.length / 2) = xs.reverse := by
  apply List.ext_getElem
  · rw [revK_len, List.length_reverse]
  · intro j h1 h2
    rw [revK_len] at h1
    have h := revK_get xs (xs.length / 2) (Nat.le_refl _) j h1
    have e1 : (revK xs (xs.length / 2)).getD j 0 = (revK xs (xs.length / 2))[j]'(by rw [revK_len]; exact h1) := by simp [List.getD_eq_getElem?_getD, revK_len, h1]
    rw [← e1, h, List.getElem_reverse]
    have g : ∀ i, (hi : i < xs.length) → xs.getD i 0 = xs[i] := fun i hi => by simp [List.getD_eq_getElem?_getD, hi]
    by_cases c : j < xs.length / 2 ∨ xs.length - 1 - j < xs.length / 2
    · rw [if_pos c, g _ (by omega)]
    · rw [if_neg c, g _ h1]
      congr 1
      omega

theorem row_cell {W : World} {base g n cap : Nat} {ok : Nat → Prop} {ys : List Int} (h : Kd.R (Kd.int .i64) 3 W base ok (.slice (some ⟨g, 0, none⟩) n cap) ys) (hn : ys.length = n) (i : Nat) (hi : i < n) : W.cell? ⟨g, i, none⟩ = some (.int .i64 (ys.getD i 0)) ∧ W.frozen? ⟨g, i, none⟩ = false := by
  subst hn
  have := Kd.R_cell (d := (0 : Int)) (enc := Value.int .i64) (h1 := fun _ => rfl) h (i : Int) (by omega) (by omega)
  simpa [rdOf] using this
theorem row_put {W : World} {base g n cap : Nat} {ok : Nat → Prop} {ys : List Int} (h : Kd.R (Kd.int .i64) 3 W base ok (.slice (some ⟨g, 0, none⟩) n cap) ys) (hn : ys.length = n) (i : Nat) (x : Int) : Kd.R (Kd.int .i64) 3 (W.setCell ⟨g, i, none⟩ (.int .i64 x)) base ok (.slice (some ⟨g, 0, none⟩) n cap) (ys.set i x) ∧ W.grownBy (W.setCell ⟨g, i, none⟩ (.int .i64 x)) (some g) := by
  subst hn
  have := Kd.R_put (enc := Value.int .i64) (h1 := fun _ => rfl) h (i : Int) x
  rw [Int.toNat_natCast] at this
  exact this

theorem places_no (st ln : Int) (big sgn : Bool) (mul add : Int) (w : World) (h : rightS st ln big sgn mul add 8 = false) :
    Calls Try.prog 19 #[.agg #[.int .i64 st, .int .i64 ln, .bool big, .bool sgn, .int .i64 mul, .int .i64 add]] w fun e w' => ∃ v0_ : Value, e = .returned (v0_) ∧ Kd.R (Kd.int .i64) 3 w' w.heap.size (fun _ => True) v0_ [] ∧ Below w.heap.size w w' := by
  have hu23 := Try.underlying23
  have HF := Aside0.mk (show sig_Right.f st ln big sgn mul add 8 = some false by rw [sig_Right.f, h])
  clear h
  go_enter Try.func19, Try.ntmps19
  go_wp2_with (go_at_call 16; refine (sig_Right.calls st ln big sgn mul add 8 false _ HF.out).mono ?_; rintro e w1 ⟨rfl, hb⟩)
  go_ret
  exact ⟨_, rfl, Kd.R_nil _ _ _ _ _, (below_alloc (Below.refl _ w) _).trans (hb.mono (by simp))⟩

set_option maxRecDepth 100000 in
set_option maxHeartbeats 4000000 in
theorem places_yes (st : Int) (ln : Nat) (big sgn : Bool) (mul add : Int) (w : World) (h : rightS st ln big sgn mul add 8 = true) :
    Calls Try.prog 19 #[.agg #[.int .i64 st, .int .i64 ln, .bool big, .bool sgn, .int .i64 mul, .int .i64 add]] w fun e w' => ∃ v0_ : Value, e = .returned (v0_) ∧ Kd.R (Kd.int .i64) 3 w' w.heap.size (fun _ => True) v0_ (if big = true then (placesK big st ln).reverse else placesK big st ln) ∧ Below w.heap.size w w' := by
  have hu23 := Try.underlying23
  have HF := Aside0.mk (show sig_Right.f st ln big sgn mul add 8 = some true by rw [sig_Right.f, h])
  have hr := h
  unfold rightS at hr
  simp only [Bool.and_eq_true, decide_eq_true_eq] at hr
  have hln : 1 ≤ ln ∧ ln ≤ 32 := by omega
  have hst : 0 ≤ st ∧ st < 64 := by omega
  clear h hr
  obtain ⟨n, hn⟩ : ∃ n : Nat, 5 ≤ n := ⟨5, Nat.le_refl _⟩
  refine (callsIn_wide (n := n)).1 ?_
  have hro : Fence.wide.round = none := rfl
  have h1 : 1 ≤ n := by omega
  refine callsIn_of_wp_marks Try.func19 rfl trivial ?_ hro
  simp only [Try.ntmps19, List.size_toArray, List.length_cons, List.length_nil, Nat.reduceAdd, Nat.reduceSub, Array.replicate_succ, Array.replicate_zero, List.push_toArray, List.append_toArray, List.nil_append, List.cons_append]
  refine wpIn_wide.2 ?_
  go_wp2_with (first | (go_at_call 16; refine (sig_Right.calls st ln big sgn mul add 8 true _ HF.out).mono ?_; rintro e w1 ⟨rfl, hb⟩; have hs0 := blk_below (blk_new w (.cells #[.int .i64 st, .int .i64 ln, .bool big, .bool sgn, .int .i64 mul, .int .i64 add] 23)) hb; have HB1 := Aside0.mk ((below_alloc (Below.refl _ w) (.cells #[.int .i64 st, .int .i64 ln, .bool big, .bool sgn, .int .i64 mul, .int .i64 add] 23)).trans (hb.mono (by simp))); have x0 : w1.cell? ⟨w.heap.size, 0, none⟩ = some (.int .i64 st) := (blk_cell hs0 0).trans rfl; have x1 : w1.cell? ⟨w.heap.size, 1, none⟩ = some (.int .i64 ln) := (blk_cell hs0 1).trans rfl; have x2 : w1.cell? ⟨w.heap.size, 2, none⟩ = some (.bool big) := (blk_cell hs0 2).trans rfl; have x3 : w1.cell? ⟨w.heap.size, 3, none⟩ = some (.bool sgn) := (blk_cell hs0 3).trans rfl; have x4 : w1.cell? ⟨w.heap.size, 4, none⟩ = some (.int .i64 mul) := (blk_cell hs0 4).trans rfl; have x5 : w1.cell? ⟨w.heap.size, 5, none⟩ = some (.int .i64 add) := (blk_cell hs0 5).trans rfl; have HS0 := Aside0.mk hs0; clear hs0 hb; have hlt := blk_lt HS0.out) | (go_at_call 33; refine (callsIn_wide.1 (walk_in Fence.wide n trivial hro st ln big sgn mul add _)).mono ?_; rintro e w' ⟨rfl, rfl⟩))
  have bO := Boxed.new w1 32 (.slice none 0 0)
  have hsB : ((w1.alloc (.cells #[.slice none 0 0] 32)).alloc (.cells #[.int .i64 st, .int .i64 ln, .bool big, .bool sgn, .int .i64 mul, .int .i64 add] 23)).heap[w1.heap.size + 1]? = some (.cells (sigC st ln big sgn mul add) 23 (0, 0)) := by
    have h := blk_new (w1.alloc (.cells #[.slice none 0 0] 32)) (.cells #[.int .i64 st, .int .i64 ln, .bool big, .bool sgn, .int .i64 mul, .int .i64 add] 23)
    rw [show (w1.alloc (.cells #[.slice none 0 0] 32)).heap.size = w1.heap.size + 1 by simp] at h
    exact h
  have hs2 := blk_alloc (blk_alloc HS0.out (.cells #[.slice none 0 0] 32)) (.cells #[.int .i64 st, .int .i64 ln, .bool big, .bool sgn, .int .i64 mul, .int .i64 add] 23)
  have hB0 := below_alloc (below_alloc HB1.out (.cells #[.slice none 0 0] 32)) (.cells #[.int .i64 st, .int .i64 ln, .bool big, .bool sgn, .int .i64 mul, .int .i64 add] 23)
  have hsz := HB1.out.size
  obtain ⟨i0, hi, hz0, hz1, hz2⟩ := info_parts infoP3
  refine (wpIn_wide (n := n)).1 ?_
  refine wpIn_rangeFunc_ownG hro h1 (gf := 36) (lb := #[.pointer (some ⟨w1.heap.size + 1, 0, none⟩)]) rfl trivial (enters_of Try.func36 (by kernel_rfl) rfl)
    (walk_stops Fence.wide (n - 1) trivial hro (by omega) (w1.heap.size + 1) st hst ln (by omega) big sgn mul add _ hsB) kpB_t (kpB_b (by simp)) (Below.refl _ _) (fun _ => rfl)
    (fun pre W => ((∃ v, Boxed W w1.heap.size 32 v ∧ W.ownsRow w.heap.size 3 1 v pre.length (pre.map (Value.int .i64)) ∧ (v = .slice none 0 0 ↔ pre = [])) ∧ W.heap[w1.heap.size + 1]? = some (.cells (sigC st ln big sgn mul add) 23 (0, 0)) ∧ W.heap[w.heap.size]? = some (.cells (sigC st ln big sgn mul add) 23 (0, 0))) ∧ Below w.heap.size w W)
    (fun _ _ _ => False)
    (OwnFrom.and (OwnFrom.and (Own.from (holdsRow_own w.heap.size w1.heap.size 32 3 1 (fun pre => pre.length) (fun pre => pre.map (Value.int .i64)) (fun pre v => v = .slice none 0 0 ↔ pre = [])) _) (Own.from (fun s A B row hs hg hr => ⟨heap_kept hs.1 hg hr, heap_kept hs.2 hg hr⟩) _)) (ownFrom_below (Nat.le_refl _) (by simp; omega)))
    (fun _ _ _ _ _ hs _ _ => hs)
    ⟨⟨⟨_, bO.alloc _, World.ownsRow_nil _ _ _ _, by simp⟩, hsB, hs2⟩, hB0⟩
    (fun x => { tmps := #[.agg #[.int .i64 st, .int .i64 (ln : Int), .bool big, .bool sgn, .int .i64 mul, .int .i64 add], .pointer (some ⟨w.heap.size, 0, none⟩), .slice none 0 0, .pointer (some ⟨w1.heap.size, 0, none⟩), .int .i64 x, undef, .agg #[.int .i64 st, .int .i64 (ln : Int), .bool big, .bool sgn, .int .i64 mul, .int .i64 add], .bool true, .bool false, .agg #[.int .i64 st, .int .i64 (ln : Int), .bool big, .bool sgn, .int .i64 mul, .int .i64 add], .func (.func 36) #[] #[.pointer (some ⟨w1.heap.size + 1, 0, none⟩)], .int .i64 x, undef, undef, undef, undef, undef, undef, undef, undef, undef, undef, undef, undef, undef, undef, undef, undef, undef, undef, undef, undef, undef, undef, undef, undef, undef, undef, undef, undef, undef, undef, undef, undef, undef, undef, undef, undef], defers := [] }) ?assign ?body ?done ?stop
  case assign =>
    intro l x W K hK
    gi_wp2
    exact hK
  case body =>
    rintro l pre x W ⟨⟨⟨v, hv, hrow, hnil⟩, hS, hS2⟩, hB⟩ hlt
    have hc := hv.cell
    gi_wp2_with (gi_at_builtin; refine wpListIn_append_own _ rfl _ _ 32 rfl w.heap.size 3 i0 (.int .i64 0) 1 8 Try.underlying32 hi hz0 hz1 hz2 rfl (by decide) _ _ _ rfl (hrow.alloc _) ⟨W.heap.size, 0, none⟩ 1 1 [.int .i64 x] rfl rfl (cell_one_new _ _ _) (by simp [Value.oneCell']) (by simp [maxLen]; omega) (by omega) (by have := hB.size; simp; omega) ?_; intro v' w2 hown' hgrow _; obtain ⟨g', cap', rfl⟩ := ownsRow_succ hown'; have hS' := Aside0.mk (sig_kept (v' := .slice (some ⟨g', 0, none⟩) (pre.length + 1) cap') hS hrow hgrow (B := w1.heap.size) (by omega)); have hS2' := Aside0.mk (sig_kept (v' := .slice (some ⟨g', 0, none⟩) (pre.length + 1) cap') hS2 hrow hgrow (B := w1.heap.size) (by omega)); obtain ⟨hv1, hv2, hr2, hk2, hb2⟩ := hv.appended (by decide) hrow hB.size (by omega) hown' hgrow; have hc1 := hv1.cell; have hf1 := hv1.frozen)
    exact ⟨hk2.from _, hS'.out.trans hS.symm, ⟨⟨_, hv2, by simpa using hr2, by simp⟩, hS'.out, hS2'.out⟩, hB.trans hb2⟩
  case done =>
    rintro D ys W hD rfl ⟨⟨⟨v, hv, hrow, hnil⟩, hS, hS2⟩, hB⟩ hK
    have hc := hv.cell
    have hf := hv.frozen
    have q2 : W.cell? ⟨w.heap.size, 2, none⟩ = some (.bool big) := (blk_cell hS2 2).trans rfl
    have hl := placesK_len big st ln
    have HRow := Aside0.mk (Kd.R_of_own (h1 := fun _ => rfl) (ok := fun _ => True) hrow (fun _ _ => trivial))
    have HBW := Aside0.mk hB
    have HK := Aside0.mk hK
    have HD := Aside0.mk (show w.heap.size ≤ D by simp at hD; omega)
    clear hS hB hnil hD hrow
    cases big with
    | false =>
      go_wp2
      refine ⟨by simp, .inl ⟨_, _, rfl, run_takeDeferred HK.out, ?_⟩⟩
      exact ⟨_, results_tmp rfl _ _ _, v, rfl, Kd.R_of_own (ownsRow_putObj (Kd.own_of_R HRow.out) _ HK.out rfl) (fun _ _ => trivial), HBW.out.trans (belowK_b (w := w) (Nat.le_refl _) W D _ _ HD.out HK.out rfl rfl)⟩
    | true =>
      obtain ⟨m, rfl⟩ : ∃ m, ln = m + 1 := ⟨ln - 1, by omega⟩
      have hro2 := Kd.own_of_R HRow.out
      rw [hl] at hro2
      obtain ⟨g, cap, rfl⟩ := ownsRow_succ hro2
      clear hro2 hS2
      go_wp2
      obtain ⟨xs, hxs⟩ : ∃ xs, xs = placesK true st (m + 1) := ⟨_, rfl⟩
      have hxl : xs.length = m + 1 := by rw [hxs, placesK_len]
      rw [← hxs] at HRow
      have HX := Aside0.mk hxs
      have HXL := Aside0.mk hxl
      have HBox := Aside0.mk hv
      rw [← hxl] at HRow HBox
      clear hxs hxl hl hv hc hf q2
      go_loopg [21] ((m + 1) / 2) (fun gg s21 wr => ∃ k : Nat, k + gg = (m + 1) / 2 ∧ s21 = .int .i64 k ∧ Aside0 (Boxed wr w1.heap.size 32 (.slice (some ⟨g, 0, none⟩) (m + 1) cap)) ∧ Aside0 (wr.heap[D]? = some (.deferred (some []))) ∧ Aside0 (Below w.heap.size w wr) ∧ Aside0 (Kd.R (Kd.int .i64) 3 wr w.heap.size (fun _ => True) (.slice (some ⟨g, 0, none⟩) (m + 1) cap) (revK xs k)))
      case atStart => exact ⟨0, by omega, rfl, ⟨by have := HBox.out; rwa [HXL.out] at this⟩, HK, HBW, ⟨by have := HRow.out; rwa [HXL.out] at this⟩⟩
      case round =>
        obtain ⟨k, hk, rfl, BX, BK, BB, BR⟩ := hrel
        by_cases hlt : k < (m + 1) / 2
        · have hz : (k : Int) < ((m : Int) + 1) / 2 := by omega
          have hc := BX.out.cell
          have hf := BX.out.frozen
          have hkn : k < m + 1 := by omega
          obtain ⟨a0, f0⟩ := row_cell BR.out (by rw [revK_len, HXL.out]) k hkn
          obtain ⟨a1, f1⟩ := row_cell BR.out (by rw [revK_len, HXL.out]) (m - k) (by omega)
          obtain ⟨y0, hy0⟩ : ∃ y, (revK xs k).getD k 0 = y := ⟨_, rfl⟩
          obtain ⟨y1, hy1⟩ : ∃ y, (revK xs k).getD (m - k) 0 = y := ⟨_, rfl⟩
          rw [hy0] at a0
          rw [hy1] at a1
          have HY0 := Aside0.mk hy0
          have HY1 := Aside0.mk hy1
          clear hy0 hy1
          have s0 : IntKind.i64.wrap (m : Int) = (m : Int) := IntWalk.i64_in _ (by omega)
          have s1 : IntKind.i64.wrap ((m : Int) - (k : Int)) = ((m - k : Nat) : Int) := (IntWalk.i64_in _ (by omega)).trans (by omega)
          have s2 : ((m - k : Nat) : Int) < (m : Int) + 1 := by omega
          have hkz : (k : Int) < (m : Int) + 1 := by omega
          have hb1 : w1.heap.size ≠ g := fun e => (BX.out.not_row (by decide) (Kd.own_of_R BR.out)) (by simp [Value.ownBlock, e])
          have hb2 := hb1.symm
          have hk1 : k ≠ m - k := by omega
          have hk2 := hk1.symm
          go_wp2
          refine wp_region_noPanic ?_
          refine wp_region_held_drew (S := fun w' => w'.cell? ⟨w1.heap.size, 0, none⟩ = some (.slice (some ⟨g, 0, none⟩) (m + 1) cap)) (by kernel_rfl) (by (try dsimp only); go_keep) (fun hHeld => ?_)
          refine wpAnyH_take (i := 0) (v := ?vv1) rfl (by kernel_rfl) (by kernel_rfl) (by kernel_rfl) (fun _ _ _ h => h) (Or.inl ⟨by rfl, ?hy1⟩) (by assumption) ?rest1
          case hy1 => first | (intro w_ hSw; (try dsimp only at hSw); go_simp; done) | (intro w_ hSw; (try dsimp only at hSw); go_simp; with_reducible rfl)
          try simp only [Act.put, List.setIfInBounds_toArray, List.set_cons_zero, List.set_cons_succ]
          refine wpAnyH_take (i := 1) (v := ?vv2) rfl (by kernel_rfl) (by kernel_rfl) (by kernel_rfl) (fun _ _ _ h => h) (Or.inl ⟨by rfl, ?hy2⟩) (by assumption) ?rest2
          case hy2 => first | (intro w_ hSw; (try dsimp only at hSw); go_simp; done) | (intro w_ hSw; (try dsimp only at hSw); go_simp; with_reducible rfl)
          try simp only [Act.put, List.setIfInBounds_toArray, List.set_cons_zero, List.set_cons_succ]
          refine wpAnyH_take (i := 2) (v := ?vv3) rfl (by kernel_rfl) (by kernel_rfl) (by kernel_rfl) (fun _ _ _ h => h) (Or.inl ⟨by rfl, ?hy3⟩) (by assumption) ?rest3
          case hy3 => first | (intro w_ hSw; (try dsimp only at hSw); go_simp; done) | (intro w_ hSw; (try dsimp only at hSw); go_simp; with_reducible rfl)
          try simp only [Act.put, List.setIfInBounds_toArray, List.set_cons_zero, List.set_cons_succ]
          refine wpAnyH_take (i := 3) (v := ?vv4) rfl (by kernel_rfl) (by kernel_rfl) (by kernel_rfl) (fun _ _ _ h => h) (Or.inl ⟨by rfl, ?hy4⟩) (by assumption) ?rest4
          case hy4 => first | (intro w_ hSw; (try dsimp only at hSw); go_simp; done) | (intro w_ hSw; (try dsimp only at hSw); go_simp; with_reducible rfl)
          try simp only [Act.put, List.setIfInBounds_toArray, List.set_cons_zero, List.set_cons_succ]
          refine wpAnyH_take (i := 4) (v := ?vv5) rfl (by kernel_rfl) (by kernel_rfl) (by kernel_rfl) (fun _ _ _ h => h) (Or.inl ⟨by rfl, ?hy5⟩) (by assumption) ?rest5
          case hy5 => first | (intro w_ hSw; (try dsimp only at hSw); go_simp; done) | (intro w_ hSw; (try dsimp only at hSw); go_simp; with_reducible rfl)
          try simp only [Act.put, List.setIfInBounds_toArray, List.set_cons_zero, List.set_cons_succ]
          refine wpAnyH_take (i := 5) (v := ?vv6) rfl (by kernel_rfl) (by kernel_rfl) (by kernel_rfl) (fun _ _ _ h => h) (Or.inl ⟨by rfl, ?hy6⟩) (by assumption) ?rest6
          case hy6 => first | (intro w_ hSw; (try dsimp only at hSw); go_simp; done) | (intro w_ hSw; (try dsimp only at hSw); go_simp; with_reducible rfl)
          try simp only [Act.put, List.setIfInBounds_toArray, List.set_cons_zero, List.set_cons_succ]
          refine wpAnyH_take (i := 6) (v := ?vv7) rfl (by kernel_rfl) (by kernel_rfl) (by kernel_rfl) (fun _ _ _ h => h) (Or.inl ⟨by rfl, ?hy7⟩) (by assumption) ?rest7
          case hy7 => first | (intro w_ hSw; (try dsimp only at hSw); go_simp; done) | (intro w_ hSw; (try dsimp only at hSw); go_simp; with_reducible rfl)
          try simp only [Act.put, List.setIfInBounds_toArray, List.set_cons_zero, List.set_cons_succ]
          refine wpAnyH_take (i := 7) (v := ?vv8) rfl (by kernel_rfl) (by kernel_rfl) (by kernel_rfl) (fun _ _ _ h => h) (Or.inl ⟨by rfl, ?hy8⟩) (by assumption) ?rest8
          case hy8 => first | (intro w_ hSw; (try dsimp only at hSw); go_simp; done) | (intro w_ hSw; (try dsimp only at hSw); go_simp; with_reducible rfl)
          try simp only [Act.put, List.setIfInBounds_toArray, List.set_cons_zero, List.set_cons_succ]
          refine wpAnyH_take (i := 8) (v := ?vv9) rfl (by kernel_rfl) (by kernel_rfl) (by kernel_rfl) (fun _ _ _ h => h) (Or.inl ⟨by rfl, ?hy9⟩) (by assumption) ?rest9
          case hy9 => first | (intro w_ hSw; (try dsimp only at hSw); go_simp; done) | (intro w_ hSw; (try dsimp only at hSw); go_simp; with_reducible rfl)
          try simp only [Act.put, List.setIfInBounds_toArray, List.set_cons_zero, List.set_cons_succ]
          refine wpAnyH_take (i := 9) (v := ?vv10) rfl (by kernel_rfl) (by kernel_rfl) (by kernel_rfl) (fun _ _ _ h => h) (Or.inl ⟨by rfl, ?hy10⟩) (by assumption) ?rest10
          case hy10 => first | (intro w_ hSw; (try dsimp only at hSw); go_simp; done) | (intro w_ hSw; (try dsimp only at hSw); go_simp; with_reducible rfl)
          try simp only [Act.put, List.setIfInBounds_toArray, List.set_cons_zero, List.set_cons_succ]
          refine wpAnyH_take (i := 10) (v := ?vv11) rfl (by kernel_rfl) (by kernel_rfl) (by kernel_rfl) (fun _ _ _ h => h) (Or.inl ⟨by rfl, ?hy11⟩) (by assumption) ?rest11
          case hy11 => first | (intro w_ hSw; (try dsimp only at hSw); go_simp; done) | (intro w_ hSw; (try dsimp only at hSw); go_simp; with_reducible rfl)
          try simp only [Act.put, List.setIfInBounds_toArray, List.set_cons_zero, List.set_cons_succ]
          refine wpAnyH_take (i := 11) (v := ?vv12) rfl (by kernel_rfl) (by kernel_rfl) (by kernel_rfl) (fun _ _ _ h => h) (Or.inl ⟨by rfl, ?hy12⟩) (by assumption) ?rest12
          case hy12 => first | (intro w_ hSw; (try dsimp only at hSw); go_simp; done) | (intro w_ hSw; (try dsimp only at hSw); go_simp; with_reducible rfl)
          try simp only [Act.put, List.setIfInBounds_toArray, List.set_cons_zero, List.set_cons_succ]
          refine wpAnyH_take (i := 12) (v := ?vv13) rfl (by kernel_rfl) (by kernel_rfl) (by kernel_rfl) (fun _ _ _ h => h) (Or.inl ⟨by rfl, ?hy13⟩) (by assumption) ?rest13
          case hy13 => first | (intro w_ hSw; (try dsimp only at hSw); go_simp; done) | (intro w_ hSw; (try dsimp only at hSw); go_simp; with_reducible rfl)
          try simp only [Act.put, List.setIfInBounds_toArray, List.set_cons_zero, List.set_cons_succ]
          refine wpAnyH_take (i := 13) (v := ?vv14) rfl (by kernel_rfl) (by kernel_rfl) (by kernel_rfl) (fun _ _ _ h => h) (Or.inl ⟨by rfl, ?hy14⟩) (by assumption) ?rest14
          case hy14 => first | (intro w_ hSw; (try dsimp only at hSw); go_simp; done) | (intro w_ hSw; (try dsimp only at hSw); go_simp; with_reducible rfl)
          try simp only [Act.put, List.setIfInBounds_toArray, List.set_cons_zero, List.set_cons_succ]
          refine wpAnyH_take (i := 14) (v := ?vv15) rfl (by kernel_rfl) (by kernel_rfl) (by kernel_rfl) (fun _ _ _ h => h) (Or.inl ⟨by rfl, ?hy15⟩) (by assumption) ?rest15
          case hy15 => first | (intro w_ hSw; (try dsimp only at hSw); go_simp; done) | (intro w_ hSw; (try dsimp only at hSw); go_simp; with_reducible rfl)
          try simp only [Act.put, List.setIfInBounds_toArray, List.set_cons_zero, List.set_cons_succ]
          refine wpAnyH_take (i := 16) (v := ?vv16) rfl (by kernel_rfl) (by kernel_rfl) (by kernel_rfl) (fun _ _ _ h => h) (Or.inl ⟨by rfl, ?hy16⟩) (by assumption) ?rest16
          case hy16 => first | (intro w_ hSw; (try dsimp only at hSw); go_simp; done) | (intro w_ hSw; (try dsimp only at hSw); go_simp; with_reducible rfl)
          try simp only [Act.put, List.setIfInBounds_toArray, List.set_cons_zero, List.set_cons_succ]
          refine wpAnyH_take (i := 17) (v := ?vv17) rfl (by kernel_rfl) (by kernel_rfl) (by kernel_rfl) (fun _ _ _ h => h) (Or.inl ⟨by rfl, ?hy17⟩) (by assumption) ?rest17
          case hy17 => first | (intro w_ hSw; (try dsimp only at hSw); go_simp; done) | (intro w_ hSw; (try dsimp only at hSw); go_simp; with_reducible rfl)
          try simp only [Act.put, List.setIfInBounds_toArray, List.set_cons_zero, List.set_cons_succ]
          refine wpAnyH_take (i := 18) (v := ?vv18) rfl (by kernel_rfl) (by kernel_rfl) (by kernel_rfl) (fun _ _ _ h => h) (Or.inl ⟨by rfl, ?hy18⟩) (by assumption) ?rest18
          case hy18 => first | (intro w_ hSw; (try dsimp only at hSw); go_simp; done) | (intro w_ hSw; (try dsimp only at hSw); go_simp; with_reducible rfl)
          try simp only [Act.put, List.setIfInBounds_toArray, List.set_cons_zero, List.set_cons_succ]
          refine wpAnyH_ready (rs := [15, 19]) (by kernel_rfl) (by simp) ?_
          refine AllReadyH.cons (i := 15) rfl (fun K hK => ?_) ?_
          · go_simp
            refine hK.out _ _ (by first | exact hHeld | (try dsimp only); go_keep) (fun hHeld => ?_)
            clear hK K
            try simp only [Act.put, List.setIfInBounds_toArray, List.set_cons_zero, List.set_cons_succ]
            refine wpAnyH_ready (rs := [19]) (by kernel_rfl) (by simp) ?_
            refine AllReadyH.cons (i := 19) rfl (fun K hK => ?_) ?_
            · go_simp
              refine hK.out _ _ (by first | exact hHeld | (try dsimp only); go_keep) (fun hHeld => ?_)
              clear hK K
              try simp only [Act.put, List.setIfInBounds_toArray, List.set_cons_zero, List.set_cons_succ]
              refine wpAnyH_take (i := 20) (v := ?vv19) rfl (by kernel_rfl) (by kernel_rfl) (by kernel_rfl) (fun _ _ _ h => h) (Or.inl ⟨by rfl, ?hy19⟩) (by assumption) ?rest19
              case hy19 => first | (intro w_ hSw; (try dsimp only at hSw); go_simp; done) | (intro w_ hSw; (try dsimp only at hSw); go_simp; with_reducible rfl)
              try simp only [Act.put, List.setIfInBounds_toArray, List.set_cons_zero, List.set_cons_succ]
              refine wpAnyH_ready (rs := [21]) (by kernel_rfl) (by simp) ?_
              refine AllReadyH.cons (i := 21) rfl (fun K hK => ?_) ?_
              · go_simp
                refine hK.out _ _ (by first | exact hHeld | (try dsimp only); go_keep) (fun hHeld => ?_)
                clear hK K
                try simp only [Act.put, List.setIfInBounds_toArray, List.set_cons_zero, List.set_cons_succ]
                refine wpAnyH_take (i := 22) (v := ?vv20) rfl (by kernel_rfl) (by kernel_rfl) (by kernel_rfl) (fun _ _ _ h => h) (Or.inl ⟨by rfl, ?hy20⟩) (by assumption) ?rest20
                case hy20 => first | (intro w_ hSw; (try dsimp only at hSw); go_simp; done) | (intro w_ hSw; (try dsimp only at hSw); go_simp; with_reducible rfl)
                try simp only [Act.put, List.setIfInBounds_toArray, List.set_cons_zero, List.set_cons_succ]
                refine wpAnyH_ready (rs := [23]) (by kernel_rfl) (by simp) ?_
                refine AllReadyH.cons (i := 23) rfl (fun K hK => ?_) ?_
                · go_simp
                  refine hK.out _ _ (by first | exact hHeld | (try dsimp only); go_keep) (fun hHeld => ?_)
                  clear hK K
                  try simp only [Act.put, List.setIfInBounds_toArray, List.set_cons_zero, List.set_cons_succ]
                  refine wpAnyH_done (by kernel_rfl) ?_ _
                  refine NoPanic.normal ?_
                  obtain ⟨p1, q1⟩ := row_put BR.out (by rw [revK_len, HXL.out]) k y1
                  obtain ⟨p2, q2⟩ := row_put p1 (by rw [List.length_set, revK_len, HXL.out]) (m - k) y0
                  have e2 : ((revK xs k).set k y1).set (m - k) y0 = revK xs (k + 1) := by
                    rw [show revK xs (k + 1) = ((revK xs k).set k ((revK xs k).getD (xs.length - 1 - k) 0)).set (xs.length - 1 - k) ((revK xs k).getD k 0) from rfl, HXL.out, show m + 1 - 1 - k = m - k by omega, HY0.out, HY1.out]
                  rw [e2] at p2
                  have RN := Aside0.mk p2
                  have BN := Aside0.mk ((BX.out.kept q1 (by intro e; exact hb1 (by simpa using e))).kept q2 (by intro e; exact hb1 (by simpa using e)))
                  have KN := Aside0.mk ((KeepsOthers.setCell ((wr.setCell ⟨g, k, none⟩ (.int .i64 y1))) ⟨g, m - k, none⟩ (.int .i64 y0)).same D _ ((KeepsOthers.setCell wr ⟨g, k, none⟩ (.int .i64 y1)).same D _ BK.out rfl) rfl)
                  have hgb : w.heap.size ≤ g := by
                    have h_ := Kd.own_of_R BR.out
                    rcases h_.2 with ⟨h_, _⟩ | ⟨g_, cap_, cur_, h_, hg_, _⟩
                    · simp at h_
                    · simp at h_; omega
                  have BBN := Aside0.mk (below_set (below_set BB.out (g := g) (j := k) (v := .int .i64 y1) hgb) (g := g) (j := m - k) (v := .int .i64 y0) hgb)
                  clear p1 q1 p2 q2 e2 a0 f0 a1 f1 hc hf
                  go_wp2
                  go_roundg ((m + 1) / 2 - (k + 1))
                  case measure => omega
                  case rel => exact ⟨k + 1, by omega, by go_num, ⟨BN.out⟩, ⟨KN.out⟩, ⟨below_drew1 BBN.out⟩, ⟨Kd.R_drew RN.out⟩⟩
                exact AllReadyH.nil
              exact AllReadyH.nil
            exact AllReadyH.nil
          refine AllReadyH.cons (i := 19) rfl (fun K hK => ?_) ?_
          · go_simp
            refine hK.out _ _ (by first | exact hHeld | (try dsimp only); go_keep) (fun hHeld => ?_)
            clear hK K
            try simp only [Act.put, List.setIfInBounds_toArray, List.set_cons_zero, List.set_cons_succ]
            refine wpAnyH_ready (rs := [15]) (by kernel_rfl) (by simp) ?_
            refine AllReadyH.cons (i := 15) rfl (fun K hK => ?_) ?_
            · go_simp
              refine hK.out _ _ (by first | exact hHeld | (try dsimp only); go_keep) (fun hHeld => ?_)
              clear hK K
              try simp only [Act.put, List.setIfInBounds_toArray, List.set_cons_zero, List.set_cons_succ]
              refine wpAnyH_take (i := 20) (v := ?vv21) rfl (by kernel_rfl) (by kernel_rfl) (by kernel_rfl) (fun _ _ _ h => h) (Or.inl ⟨by rfl, ?hy21⟩) (by assumption) ?rest21
              case hy21 => first | (intro w_ hSw; (try dsimp only at hSw); go_simp; done) | (intro w_ hSw; (try dsimp only at hSw); go_simp; with_reducible rfl)
              try simp only [Act.put, List.setIfInBounds_toArray, List.set_cons_zero, List.set_cons_succ]
              refine wpAnyH_ready (rs := [21]) (by kernel_rfl) (by simp) ?_
              refine AllReadyH.cons (i := 21) rfl (fun K hK => ?_) ?_
              · go_simp
                refine hK.out _ _ (by first | exact hHeld | (try dsimp only); go_keep) (fun hHeld => ?_)
                clear hK K
                try simp only [Act.put, List.setIfInBounds_toArray, List.set_cons_zero, List.set_cons_succ]
                refine wpAnyH_take (i := 22) (v := ?vv22) rfl (by kernel_rfl) (by kernel_rfl) (by kernel_rfl) (fun _ _ _ h => h) (Or.inl ⟨by rfl, ?hy22⟩) (by assumption) ?rest22
                case hy22 => first | (intro w_ hSw; (try dsimp only at hSw); go_simp; done) | (intro w_ hSw; (try dsimp only at hSw); go_simp; with_reducible rfl)
                try simp only [Act.put, List.setIfInBounds_toArray, List.set_cons_zero, List.set_cons_succ]
                refine wpAnyH_ready (rs := [23]) (by kernel_rfl) (by simp) ?_
                refine AllReadyH.cons (i := 23) rfl (fun K hK => ?_) ?_
                · go_simp
                  refine hK.out _ _ (by first | exact hHeld | (try dsimp only); go_keep) (fun hHeld => ?_)
                  clear hK K
                  try simp only [Act.put, List.setIfInBounds_toArray, List.set_cons_zero, List.set_cons_succ]
                  refine wpAnyH_done (by kernel_rfl) ?_ _
                  refine NoPanic.normal ?_
                  obtain ⟨p1, q1⟩ := row_put BR.out (by rw [revK_len, HXL.out]) k y1
                  obtain ⟨p2, q2⟩ := row_put p1 (by rw [List.length_set, revK_len, HXL.out]) (m - k) y0
                  have e2 : ((revK xs k).set k y1).set (m - k) y0 = revK xs (k + 1) := by
                    rw [show revK xs (k + 1) = ((revK xs k).set k ((revK xs k).getD (xs.length - 1 - k) 0)).set (xs.length - 1 - k) ((revK xs k).getD k 0) from rfl, HXL.out, show m + 1 - 1 - k = m - k by omega, HY0.out, HY1.out]
                  rw [e2] at p2
                  have RN := Aside0.mk p2
                  have BN := Aside0.mk ((BX.out.kept q1 (by intro e; exact hb1 (by simpa using e))).kept q2 (by intro e; exact hb1 (by simpa using e)))
                  have KN := Aside0.mk ((KeepsOthers.setCell ((wr.setCell ⟨g, k, none⟩ (.int .i64 y1))) ⟨g, m - k, none⟩ (.int .i64 y0)).same D _ ((KeepsOthers.setCell wr ⟨g, k, none⟩ (.int .i64 y1)).same D _ BK.out rfl) rfl)
                  have hgb : w.heap.size ≤ g := by
                    have h_ := Kd.own_of_R BR.out
                    rcases h_.2 with ⟨h_, _⟩ | ⟨g_, cap_, cur_, h_, hg_, _⟩
                    · simp at h_
                    · simp at h_; omega
                  have BBN := Aside0.mk (below_set (below_set BB.out (g := g) (j := k) (v := .int .i64 y1) hgb) (g := g) (j := m - k) (v := .int .i64 y0) hgb)
                  clear p1 q1 p2 q2 e2 a0 f0 a1 f1 hc hf
                  go_wp2
                  go_roundg ((m + 1) / 2 - (k + 1))
                  case measure => omega
                  case rel => exact ⟨k + 1, by omega, by go_num, ⟨BN.out⟩, ⟨KN.out⟩, ⟨below_drew1 BBN.out⟩, ⟨Kd.R_drew RN.out⟩⟩
                exact AllReadyH.nil
              exact AllReadyH.nil
            exact AllReadyH.nil
          exact AllReadyH.nil
        · have hz : ¬ (k : Int) < ((m : Int) + 1) / 2 := by omega
          have hc := BX.out.cell
          have hf := BX.out.frozen
          go_wp2
          refine ⟨by simp, .inl ⟨_, _, rfl, run_takeDeferred BK.out, ?_⟩⟩
          have hkk : revK xs k = xs.reverse := by rw [← revK_all xs, HXL.out]; congr 1; omega
          refine ⟨_, results_tmp rfl _ _ _, .slice (some ⟨g, 0, none⟩) (m + 1) cap, rfl, ?_, BB.out.trans (belowK_b (w := w) (Nat.le_refl _) _ D _ _ HD.out BK.out rfl rfl)⟩
          have hR := BR.out
          rw [hkk] at hR
          have e3 : (if true = true then (placesK true st (m + 1)).reverse else placesK true st (m + 1)) = xs.reverse := by rw [if_pos rfl, ← HX.out]
          first
            | (rw [e3]; exact Kd.R_of_own (ownsRow_putObj (Kd.own_of_R hR) _ BK.out rfl) (fun _ _ => trivial))
            | (rw [← HX.out]; exact Kd.R_of_own (ownsRow_putObj (Kd.own_of_R hR) _ BK.out rfl) (fun _ _ => trivial))
  case stop =>
    rintro D c pre W _ _ h _
    exact h.elim

theorem sig_Places.calls (a0_0 : Int) (a0_1 : Int) (a0_2 : Bool) (a0_3 : Bool) (a0_4 : Int) (a0_5 : Int) (r : List Int) (w : World) (h : sig_Places.f a0_0 a0_1 a0_2 a0_3 a0_4 a0_5 = some r) :
    Calls Try.prog 19 #[.agg #[.int .i64 a0_0, .int .i64 a0_1, .bool a0_2, .bool a0_3, .int .i64 a0_4, .int .i64 a0_5]] w fun e w' => ∃ v0_ : Value, e = .returned (v0_) ∧ Kd.R (Kd.int .i64) 3 w' w.heap.size (fun _ => True) v0_ r ∧ Below w.heap.size w w' := by
  have hr : placesS a0_0 a0_1 a0_2 a0_3 a0_4 a0_5 = r := by simpa [sig_Places.f] using h
  clear h
  subst hr
  unfold placesS
  cases c : rightS a0_0 a0_1 a0_2 a0_3 a0_4 a0_5 8 with
  | false =>
    rw [if_neg (by decide)]
    exact places_no a0_0 a0_1 a0_2 a0_3 a0_4 a0_5 w c
  | true =>
    rw [if_pos rfl]
    have hr := c
    unfold rightS at hr
    simp only [Bool.and_eq_true, decide_eq_true_eq] at hr
    obtain ⟨ln, rfl⟩ : ∃ ln : Nat, a0_1 = ln := ⟨a0_1.toNat, by omega⟩
    rw [Int.toNat_natCast]
    exact places_yes a0_0 ln a0_2 a0_3 a0_4 a0_5 w c
end Go.Proofs.Ytcgkkjimonfhbaa.P
