/-
  sig.Apart by hand: do no two signals share a bit? A range over a function inside a loop: each round leaves a mark among the deferred calls. No condition.
-/
import Derived.IntWalk
import Derived.RangeFuncBound
import Derived.Deep.LoopGhost
import Derived.Test.YtcgkkjimonfhbaaGGet
namespace Go.Proofs.Ytcgkkjimonfhbaa.P
open Go.RowKit Go.Shelf Go.Proofs.YtcgkkjimonfhbaaW.PrintWords Go.Proofs.YtcgkkjimonfhbaaW.PrintLast Go.Proofs.YtcgkkjimonfhbaaW.PrintMore
attribute [local go_sem] Oper.semAt_some
set_option linter.unusedVariables false
set_option linter.unusedSimpArgs false

/-- The marks that the rounds have left. -/
def Marks (B : Nat) (W : World) : List Deferred → Prop
  | [] => True
  | d :: ds => ∃ D, d = { target := .collected D, args := #[] } ∧ B ≤ D ∧ W.heap[D]? = some (.deferred (some [])) ∧ (∀ d' ∈ ds, d'.target ≠ .collected D) ∧ Marks B W ds
theorem marks_kept {B : Nat} {W W' : World} : ∀ {ds : List Deferred}, Marks B W ds → (∀ D, W.heap[D]? = some (.deferred (some [])) → (∃ d ∈ ds, d.target = .collected D) → W'.heap[D]? = W.heap[D]?) → Marks B W' ds
  | [], _, _ => trivial
  | d :: ds, ⟨D, hd, hB, hD, hne, hm⟩, hk => ⟨D, hd, hB, (hk D hD ⟨d, by simp, by rw [hd]⟩).trans hD, hne, marks_kept hm (fun D' hD' ⟨d', hm', ht⟩ => hk D' hD' ⟨d', List.mem_cons_of_mem _ hm', ht⟩)⟩
theorem marks_lt {B : Nat} {W : World} : ∀ {ds : List Deferred}, Marks B W ds → ∀ d ∈ ds, ∀ D, d.target = .collected D → D < W.heap.size
  | d :: ds, ⟨D, hd, hB, hD, hne, hm⟩, d', hd', D', ht => by
    rcases List.mem_cons.1 hd' with rfl | h
    · rw [hd] at ht
      cases ht
      exact blk_lt hD
    · exact marks_lt hm d' h D' ht
theorem marks_below {B : Nat} {W W' : World} {ds : List Deferred} (hm : Marks B W ds) (hb : Below W.heap.size W W') : Marks B W' ds := marks_kept hm (fun D hD _ => hb.block D (blk_lt hD))
theorem leaves_marks {F : Fence} {n : Nat} {P : Program} {fn : Func} {tmps : Array Value} {R : Ending → World → Prop} {B : Nat} (K : World → Prop) (hK : ∀ W D, K W → B ≤ D → W.heap[D]? = some (.deferred (some [])) → K (W.putObj D (.deferred none))) (hR : ∀ W, K W → LeavesIn F n P fn tmps R [] .returning W) :
    ∀ (ds : List Deferred) (W : World), Marks B W ds → K W → LeavesInM F n P fn tmps R ds .returning W
  | [], W, _, h => hR W h
  | d :: ds, W, ⟨D, hd, hB, hD, hne, hm⟩, h => ⟨by simp, .inl ⟨D, _, by rw [hd], run_takeDeferred hD, leaves_marks K hK hR ds _ (marks_kept hm (fun D' hD' ⟨d', hm', ht⟩ => World.putObj_heap_other (fun e => hne d' hm' (by rw [ht, e])))) (hK W D h hB hD)⟩⟩

/-- The places of one signal are taken, one by one; 'none': one is taken already. -/
def takeS (tk : List Bool) : List Int → Option (List Bool)
  | [] => some tk
  | p :: ps => if tk.getD p.toNat false = true then none else takeS (tk.set p.toNat true) ps
theorem takeS_append (ps : List Int) (x : Int) : ∀ tk, takeS tk (ps ++ [x]) = (takeS tk ps).bind (fun t => takeS t [x]) := by
  induction ps with
  | nil => intro tk; rfl
  | cons p ps ih =>
    intro tk
    simp only [List.cons_append, takeS]
    split
    · rfl
    · exact ih _
theorem takeS_prefix {ps qs : List Int} (h : ps <+: qs) : ∀ tk, takeS tk ps = none → takeS tk qs = none := by
  obtain ⟨rs, rfl⟩ := h
  induction ps with
  | nil => intro tk hn; simp [takeS] at hn
  | cons p ps ih =>
    intro tk hn
    simp only [List.cons_append, takeS] at hn ⊢
    split at hn
    · rename_i hc; rw [if_pos hc]
    · rename_i hc; rw [if_neg hc]; exact ih _ hn
theorem takeS_len {ps : List Int} : ∀ {tk tk' : List Bool}, takeS tk ps = some tk' → tk'.length = tk.length := by
  induction ps with
  | nil => intro tk tk' h; simp [takeS] at h; rw [h]
  | cons p ps ih =>
    intro tk tk' h
    simp only [takeS] at h
    split at h
    · cases h
    · rw [ih h, List.length_set]
def apartS (bytes : Int) : List S23 → List Bool → Bool
  | [], _ => true
  | s :: l, tk => if rightS s.f0 s.f1 s.f2 s.f3 s.f4 s.f5 bytes = true then (match takeS tk (placesK s.f2 s.f0 s.f1.toNat) with | none => false | some tk' => apartS bytes l tk') else false
def sig_Apart.f (l0 : List S23) (a1 : Int) : Option Bool := if l0.length < 140737488355328 then some (apartS a1 l0 (List.replicate 64 false)) else none

theorem marks_others {B : Nat} {W W' : World} {ds : List Deferred} (hm : Marks B W ds) (hk : KeepsOthers W W') : Marks B W' ds := marks_kept hm (fun D hD _ => (hk.same D _ hD rfl).trans hD.symm)
/-- A place. -/
abbrev P64 := { x : Int // 0 ≤ x ∧ x < 64 }
def v64 (ys : List P64) : List Int := ys.map (·.1)
theorem v64_app (ys : List P64) (x : P64) : v64 (ys ++ [x]) = v64 ys ++ [x.1] := by simp [v64]
theorem walk_stops64 (F : Fence) (n : Nat) (hf : F.fn 36) (hro : F.round = none) (hn : 1 ≤ n) (B : Nat) (st : Int) (hst : 0 ≤ st ∧ st < 64) (ln : Nat) (hln : ln ≤ 32) (big sgn : Bool) (mul add : Int) (hr : ∀ k, k < ln → 0 ≤ atK big st k ∧ atK big st k < 64) (w : World) (hB : w.heap[B]? = some (.cells (sigC st ln big sgn mul add) 23 (0, 0))) :
    SeqStopsK F n Try.prog 36 #[.pointer (some ⟨B, 0, none⟩)] (fun x : P64 => #[Value.int .i64 x.1]) (KpB B) (fun ys => v64 ys = placesK big st ln) (fun pre => v64 pre <+: placesK big st ln) ln w := fun l J Jx W hW _ _ hY h0 => by
  refine (walk1_in F n hf hro hn l B st hst ln hln big sgn mul add (fun ys W => ∃ zs : List P64, v64 zs = ys ∧ J zs W) (fun ys W => ∃ zs : List P64, v64 zs = ys ∧ Jx zs W) ?_ W (blk_below hB hW) ⟨[], rfl, h0⟩).mono ?_
  · rintro pre x W1 ⟨zs, rfl, hJ⟩ hlen hx
    rw [show (v64 zs).length = zs.length by simp [v64]] at hlen hx
    have hp := hr _ hlen
    rw [← hx] at hp
    refine YieldAt.mono (hY zs ⟨x, hp⟩ W1 hJ hlen) ?_
    rintro e W' (⟨rfl, hJ', hk⟩ | ⟨rfl, hJ'⟩)
    · exact .inl ⟨rfl, ⟨zs ++ [⟨x, hp⟩], v64_app _ _, hJ'⟩, hk⟩
    · exact .inr ⟨rfl, ⟨zs ++ [⟨x, hp⟩], v64_app _ _, hJ'⟩⟩
  · rintro e W' ⟨hv, (⟨ys, hys, zs, rfl, hJ⟩ | ⟨pre, hpre, zs, rfl, hJ⟩)⟩
    · exact ⟨hv, .inl ⟨zs, hys, hJ⟩⟩
    · exact ⟨hv, .inr ⟨zs, hpre, hJ⟩⟩
/-- Whatever mark there was is there. -/
def KD (w1 W : World) : Prop := ∀ D : Nat, w1.heap[D]? = some (Obj.deferred (some [])) → W.heap[D]? = some (Obj.deferred (some []))
theorem keeps_marks {β : Type} (w1 : World) (B : Nat) (hB : w1.heap.size ≤ B) : OwnFrom B (fun (_ : β) W => KD w1 W) := fun s A A' row hs hg hr D hD =>
  (hg.block D (blk_lt (hs D hD)) (fun e => by have h1 := (hr D e.symm).1; have h2 := blk_lt hD; omega)).trans (hs D hD)
theorem kd_set {w1 W : World} (h : KD w1 W) (p : Addr) (v : Value) : KD w1 (W.setCell p v) := fun D hD => (KeepsOthers.setCell W p v).same D _ (h D hD) rfl
/-- The function's end. -/
theorem apart_end (w : World) (n : Nat) (W : World) (r : Bool) (tmps : Array Value) (ht : tmps[4]? = some (.pointer (some ⟨w.heap.size, 0, none⟩))) (ds : List Deferred) (hm : Marks w.heap.size W ds) (hc : W.cell? ⟨w.heap.size, 0, none⟩ = some (.bool r)) (hb : Below w.heap.size w W) :
    bodyPostM Fence.wide n Try.prog Try.f27 (fun e w' => e = .returned (.bool r) ∧ Below w.heap.size w w') Exit.ret { tmps := tmps, defers := ds } W :=
  leaves_marks (fun W => W.cell? ⟨w.heap.size, 0, none⟩ = some (.bool r) ∧ Below w.heap.size w W)
    (fun W D h hD hW => ⟨cell_kept h.1 (grownBy_putObj' _ D (.deferred none)) (fun r e => by cases e; exact ⟨_, hW, rfl⟩), h.2.trans (belowK_b (w := w) (Nat.le_refl _) W D _ _ hD hW rfl rfl)⟩)
    (fun W h => ⟨.bool r, by simp [results, Try.f27, go_sem, h.1, ht], rfl, h.2⟩) ds W hm ⟨hc, hb⟩
/-- The room that the places lie in. -/
def tkC (tk : List Bool) : Array Value := (tk.map Value.bool).toArray
theorem tkC_get (tk : List Bool) (i : Nat) (h : i < tk.length) : (tkC tk)[i]? = some (.bool (tk.getD i false)) := by
  simp [tkC, List.getD_eq_getElem?_getD, h]
theorem tkC_set (tk : List Bool) (i : Nat) (b : Bool) : (tkC tk).setIfInBounds i (.bool b) = tkC (tk.set i b) := by
  simp [tkC, List.map_set]

set_option maxRecDepth 100000 in
set_option maxHeartbeats 4000000 in
theorem sig_Apart.calls (A0 : Option Addr) (c0 : Nat) (l0 : List S23) (a1 : Int) (r : Bool) (w : World) (hr0 : Kd.C k23 w A0 l0.length l0) (hc0 : l0.length ≤ c0) (h : sig_Apart.f l0 a1 = some r) :
    Calls Try.prog 27 #[.slice A0 l0.length c0, .int .i64 a1] w fun e w' => e = .returned (.bool r) ∧ Below w.heap.size w w' := by
  obtain ⟨hll, hr⟩ : l0.length < 140737488355328 ∧ apartS a1 l0 (List.replicate 64 false) = r := by
    unfold sig_Apart.f at h
    split at h
    · exact ⟨by assumption, Option.some.inj h⟩
    · cases h
  have HLL := Aside0.mk hll
  have HR := Aside0.mk hr
  have HC := Aside0.mk hr0
  clear h hr hr0 hll
  have hu23 := Try.underlying23
  have hu53 := Try.underlying53
  obtain ⟨n, hn⟩ : ∃ n : Nat, 5 ≤ n := ⟨5, Nat.le_refl _⟩
  refine (callsIn_wide (n := n)).1 ?_
  have hro : Fence.wide.round = none := rfl
  have h1 : 1 ≤ n := by omega
  refine callsIn_of_wp_marks Try.func27 rfl trivial ?_ hro
  simp only [Try.ntmps27, List.size_toArray, List.length_cons, List.length_nil, Nat.reduceAdd, Nat.reduceSub, Array.replicate_succ, Array.replicate_zero, List.push_toArray, List.append_toArray, List.nil_append, List.cons_append]
  refine wpIn_wide.2 ?_
  go_wp2
  refine wp_loop_ghost_k (fun g a' W => ∃ (k : Nat) (tk : List Bool) (ds : List Deferred) (u6 u7 u8 u12 u13 u14 u15 u16 u17 u18 u19 u20 u21 u22 u23 u24 u25 u26 u27 : Value), (k + g = l0.length ∧ tk.length = 64 ∧ Aside0 (apartS a1 (l0.drop k) tk = r) ∧ Aside0 (Marks w.heap.size W ds) ∧ Aside0 (W.heap[w.heap.size]? = some (.cells #[.bool false] 4 (0, 0))) ∧ Aside0 (W.heap[w.heap.size + 1]? = some (.cells (tkC tk) 53 (0, 0))) ∧ Aside0 (Below w.heap.size w W)) ∧ a' = { tmps := #[.slice A0 l0.length c0, .int .i64 a1, undef, undef, .pointer (some ⟨w.heap.size, 0, none⟩), .pointer (some ⟨w.heap.size + 1, 0, none⟩), u6, u7, u8, .slice A0 l0.length c0, .int .i64 l0.length, .int .i64 k, u12, u13, u14, u15, u16, u17, u18, u19, u20, u21, u22, u23, u24, u25, u26, u27], defers := ds }) l0.length ?_ ?_
  · refine ⟨0, List.replicate 64 false, [], undef, undef, undef, undef, undef, undef, undef, undef, undef, undef, undef, undef, undef, undef, undef, undef, undef, undef, undef, ⟨by omega, by simp, ⟨by rw [List.drop_zero]; exact HR.out⟩, ⟨trivial⟩, ⟨blk_alloc (blk_new _ _) _⟩, ⟨?_⟩, ⟨below_alloc (below_alloc (Below.refl _ w) _) _⟩⟩, rfl⟩
    have h := blk_new (w.alloc (.cells #[.bool false] 4)) (.cells (tkC (List.replicate 64 false)) 53)
    rw [show (w.alloc (.cells #[.bool false] 4)).heap.size = w.heap.size + 1 by simp] at h
    exact h
  · intro gk _ wr hinv
    obtain ⟨k, tk, ds, u6, u7, u8, u12, u13, u14, u15, u16, u17, u18, u19, u20, u21, u22, u23, u24, u25, u26, u27, ⟨hk, htk, HA, HM, H4, H5, HB⟩, ha⟩ := hinv
    subst ha
    intro _ _ _ _
    by_cases hlt : k < l0.length
    · have hz : (k : Int) < (l0.length : Int) := by omega
      have hkz : (0 : Int) ≤ (k : Int) := by omega
      obtain ⟨ad, e1, hx0, hx1, hx2, hx3, hx4, hx5⟩ := at_T23 HC.out (k : Int) hkz (by omega)
      cases e1
      replace hx0 := (HB.out.cell (World.block_lt_of_cell? w _ hx0)).trans hx0
      replace hx1 := (HB.out.cell (World.block_lt_of_cell? w _ hx1)).trans hx1
      replace hx2 := (HB.out.cell (World.block_lt_of_cell? w _ hx2)).trans hx2
      replace hx3 := (HB.out.cell (World.block_lt_of_cell? w _ hx3)).trans hx3
      replace hx4 := (HB.out.cell (World.block_lt_of_cell? w _ hx4)).trans hx4
      replace hx5 := (HB.out.cell (World.block_lt_of_cell? w _ hx5)).trans hx5
      have hd : l0.drop k = rd_T23 l0 k :: l0.drop (k + 1) := by
        rw [List.drop_eq_getElem_cons hlt]
        congr 1
        simp [rd_T23, List.getD_eq_getElem?_getD, hlt]
      obtain ⟨s, hs⟩ : ∃ s, rd_T23 l0 k = s := ⟨_, rfl⟩
      rw [hs] at hx0 hx1 hx2 hx3 hx4 hx5 hd
      obtain ⟨st, ln, big, sgn, mul, add⟩ := s
      simp only [Int.toNat_natCast] at hx0 hx1 hx2 hx3 hx4 hx5
      have hc4 := (blk_cell H4.out 0).trans (show _ = some (.bool false) from rfl)
      have hf4 := blk_frozen H4.out 0
      have HD := Aside0.mk hd
      clear hs hd
      cases hrt : rightS st ln big sgn mul add a1 with
      | false =>
        have HF := Aside0.mk (show sig_Right.f st ln big sgn mul add a1 = some false by rw [sig_Right.f, hrt])
        have hr1 : false = r := by
          have h_ := HA.out
          rw [HD.out, apartS] at h_
          dsimp only at h_
          rw [hrt, if_neg (by decide)] at h_
          exact h_
        have HR1 := Aside0.mk hr1
        clear hr1 hrt
        go_wp2_with (go_at_call 16; refine (sig_Right.calls st ln big sgn mul add a1 false _ HF.out).mono ?_; rintro e w1 ⟨rfl, hb⟩; have hs1 := blk_below (blk_new wr (.cells #[.int .i64 st, .int .i64 ln, .bool big, .bool sgn, .int .i64 mul, .int .i64 add] 23)) hb; have hbw := (below_alloc (Below.refl _ wr) (.cells #[.int .i64 st, .int .i64 ln, .bool big, .bool sgn, .int .i64 mul, .int .i64 add] 23)).trans (hb.mono (by simp)); have G4 := Aside0.mk (blk_below H4.out hbw); have G5 := Aside0.mk (blk_below H5.out hbw); have GM := Aside0.mk (marks_below HM.out hbw); have GB := Aside0.mk (HB.out.trans (hbw.mono HB.out.size)); have GS := Aside0.mk hs1; have hg4 := (blk_cell G4.out 0).trans (show _ = some (.bool false) from rfl); have hgf4 := blk_frozen G4.out 0; clear hs1 hb hbw hx0 hx1 hx2 hx3 hx4 hx5 hc4 hf4)
        exact apart_end w n _ r _ rfl ds (marks_others GM.out (KeepsOthers.setCell w1 _ _)) (by rw [← HR1.out]; exact World.cell?_setCell_same' _ _ _ (by rw [hg4]; rfl)) (below_set GB.out (Nat.le_refl _))
      | true =>
        have HF := Aside0.mk (show sig_Right.f st ln big sgn mul add a1 = some true by rw [sig_Right.f, hrt])
        have hf := right_facts hrt
        have HX := Aside0.mk hrt
        clear hrt
        obtain ⟨ln, rfl⟩ : ∃ m : Nat, ln = m := ⟨ln.toNat, by omega⟩
        go_wp2_with (first | (go_at_call 16; refine (sig_Right.calls st ln big sgn mul add a1 true _ HF.out).mono ?_; rintro e w1 ⟨rfl, hb⟩; have hs1 := blk_below (blk_new wr (.cells #[.int .i64 st, .int .i64 ln, .bool big, .bool sgn, .int .i64 mul, .int .i64 add] 23)) hb; have hbw := (below_alloc (Below.refl _ wr) (.cells #[.int .i64 st, .int .i64 ln, .bool big, .bool sgn, .int .i64 mul, .int .i64 add] 23)).trans (hb.mono (by simp)); have G4 := Aside0.mk (blk_below H4.out hbw); have G5 := Aside0.mk (blk_below H5.out hbw); have GM := Aside0.mk (marks_below HM.out hbw); have GB := Aside0.mk (HB.out.trans (hbw.mono HB.out.size)); have GS := Aside0.mk hs1; have hg4 := (blk_cell G4.out 0).trans (show _ = some (.bool false) from rfl); have hgf4 := blk_frozen G4.out 0; clear hs1 hb hbw hx0 hx1 hx2 hx3 hx4 hx5 hc4 hf4; have x0 := (blk_cell GS.out 0).trans (show _ = some (.int .i64 st) from rfl); have x1 := (blk_cell GS.out 1).trans (show _ = some (.int .i64 ln) from rfl); have x2 := (blk_cell GS.out 2).trans (show _ = some (.bool big) from rfl); have x3 := (blk_cell GS.out 3).trans (show _ = some (.bool sgn) from rfl); have x4 := (blk_cell GS.out 4).trans (show _ = some (.int .i64 mul) from rfl); have x5 := (blk_cell GS.out 5).trans (show _ = some (.int .i64 add) from rfl)) | (go_at_call 33; refine (callsIn_wide.1 (walk_in Fence.wide n trivial hro st ln big sgn mul add _)).mono ?_; rintro e w' ⟨rfl, rfl⟩))
        have hpl : ∀ j, j < ln → 0 ≤ atK big st j ∧ atK big st j < 64 := fun j hj => by
          have hm := hf.2.2.2.2.2.2 (atK big st j) (by rw [Int.toNat_natCast]; unfold placesK; exact List.mem_map.2 ⟨j, List.mem_range.2 hj, rfl⟩)
          have h0 := (atK_range big st (by omega) j).1
          omega
        have hsB := blk_new w1 (.cells #[.int .i64 st, .int .i64 ln, .bool big, .bool sgn, .int .i64 mul, .int .i64 add] 23)
        have hsz := GB.out.size
        have hg5 := blk_lt G5.out
        have hst : 0 ≤ st ∧ st < 64 := by omega
        have hln : ln ≤ 32 := by omega
        clear hf x0 x1 x2 x3 x4 x5 hg4 hgf4
        refine (wpIn_wide (n := n)).1 ?_
        refine wpIn_rangeFunc_ownF hro h1 (gf := 36) (lb := #[.pointer (some ⟨w1.heap.size, 0, none⟩)]) rfl trivial (enters_of Try.func36 (by kernel_rfl) rfl)
          (walk_stops64 Fence.wide (n - 1) trivial hro (by omega) w1.heap.size st hst ln hln big sgn mul add hpl _ hsB) kpB_t (kpB_b (by simp)) (Below.refl _ _) (fun _ => rfl)
          (fun pre W => (((∃ tk', takeS tk (v64 pre) = some tk' ∧ W.heap[w.heap.size + 1]? = some (.cells (tkC tk') 53 (0, 0))) ∧ W.heap[w.heap.size]? = some (.cells #[.bool false] 4 (0, 0))) ∧ KD w1 W) ∧ Below w.heap.size w W)
          (fun c pre W => ((c = .ret ∧ takeS tk (v64 pre) = none ∧ W.heap[w.heap.size]? = some (.cells #[.bool false] 4 (0, 0))) ∧ KD w1 W) ∧ Below w.heap.size w W)
          (OwnFrom.and (OwnFrom.and (Own.from (fun s A B row hs hg hr => ⟨by obtain ⟨⟨tk', e, h⟩, _⟩ := hs; exact ⟨tk', e, heap_kept h hg hr⟩, heap_kept hs.2 hg hr⟩) _) (keeps_marks _ _ (by simp))) (ownFrom_below (Nat.le_refl _) (by simp; omega)))
          (fun c => OwnFrom.and (OwnFrom.and (Own.from (fun s A B row hs hg hr => ⟨hs.1, hs.2.1, heap_kept hs.2.2 hg hr⟩) _) (keeps_marks _ _ (by simp))) (ownFrom_below (Nat.le_refl _) (by simp; omega)))
          ⟨⟨⟨⟨tk, rfl, blk_alloc G5.out _⟩, blk_alloc G4.out _⟩, fun D hD => blk_alloc hD _⟩, below_alloc GB.out _⟩
          (fun x => { tmps := #[.slice (some ad) l0.length c0, .int .i64 a1, undef, undef, .pointer (some ⟨w.heap.size, 0, none⟩), .pointer (some ⟨w.heap.size + 1, 0, none⟩), u6, .pointer (some ⟨wr.heap.size, 0, none⟩), .int .i64 x.1, .slice (some ad) l0.length c0, .int .i64 l0.length, .int .i64 k, .bool true, .pointer (some (ad.add (k * 6))), .agg #[.int .i64 st, .int .i64 (ln : Int), .bool big, .bool sgn, .int .i64 mul, .int .i64 add], .agg #[.int .i64 st, .int .i64 (ln : Int), .bool big, .bool sgn, .int .i64 mul, .int .i64 add], .int .i64 a1, .bool true, .bool false, .agg #[.int .i64 st, .int .i64 (ln : Int), .bool big, .bool sgn, .int .i64 mul, .int .i64 add], .func (.func 36) #[] #[.pointer (some ⟨w1.heap.size, 0, none⟩)], .int .i64 x.1, u22, u23, u24, u25, u26, u27], defers := [] }) ?assign ?body ?done ?stop
        case assign =>
          intro l x W K hK
          gi_wp2
          exact hK
        case body =>
          rintro l pre ⟨x, hx⟩ W ⟨⟨⟨⟨tk', htk', hA⟩, hF⟩, hKD⟩, hB⟩ _
          have hlen := takeS_len htk'
          have hx0 : 0 ≤ x := hx.1
          have hx1 : x < 64 := hx.2
          have hcx := (blk_cell hA x.toNat).trans (tkC_get tk' x.toNat (by omega))
          have hfx := blk_frozen hA x.toNat
          have hc4 := (blk_cell hF 0).trans (show _ = some (.bool false) from rfl)
          have hf4 := blk_frozen hF 0
          have ht := takeS_append (v64 pre) x tk
          rw [htk', Option.bind_some, takeS] at ht
          have HT := Aside0.mk ht
          have HKD := Aside0.mk hKD
          have HB' := Aside0.mk hB
          have HA' := Aside0.mk hA
          have HF' := Aside0.mk hF
          clear ht hKD hB hA hF
          cases hb : tk'.getD x.toNat false with
          | true =>
            have h3 : takeS tk (v64 (pre ++ [⟨x, hx⟩])) = none := by
              rw [v64_app]
              have h_ := HT.out
              rw [if_pos hb] at h_
              exact h_
            have H3 := Aside0.mk h3
            rw [hb] at hcx
            clear h3 hb htk'
            gi_wp2
            exact ⟨KeepsOthers.setCell _ _ _, ⟨⟨rfl, H3.out, blk_put HF'.out 0 _ rfl⟩, kd_set HKD.out _ _⟩, below_set HB'.out (Nat.le_refl _)⟩
          | false =>
            have h3 : takeS tk (v64 (pre ++ [⟨x, hx⟩])) = some (tk'.set x.toNat true) := by
              rw [v64_app]
              have h_ := HT.out
              rw [if_neg (by rw [hb]; decide), takeS] at h_
              exact h_
            have H3 := Aside0.mk h3
            rw [hb] at hcx
            clear h3 hb htk'
            gi_wp2
            exact ⟨KeepsOthers.setCell _ _ _, Below.heap_setCell W _ _ _ (by simp; omega), ⟨⟨⟨_, H3.out, blk_put HA'.out x.toNat _ (tkC_set _ _ _)⟩, blk_far HF'.out (by simp) _⟩, kd_set HKD.out _ _⟩, below_set HB'.out (by omega)⟩
        case done =>
          rintro D ys W hD hys ⟨⟨⟨⟨tk', htk', hA⟩, hF⟩, hKD⟩, hB⟩ hK
          rw [hys] at htk'
          have hlen := takeS_len htk'
          have hr1 : apartS a1 (l0.drop (k + 1)) tk' = r := by
            have h_ := HA.out
            rw [HD.out, apartS] at h_
            dsimp only at h_
            rw [if_pos HX.out, Int.toNat_natCast, htk'] at h_
            exact h_
          have HR1 := Aside0.mk hr1
          have HM1 := Aside0.mk (show Marks w.heap.size W ({ target := .collected D, args := #[] } :: ds) from ⟨D, rfl, by simp at hD; omega, hK, fun d' hd' e => by have h_ := marks_lt GM.out d' hd' D e; simp at hD; omega, marks_kept GM.out (fun D' hD' _ => (hKD D' hD').trans hD'.symm)⟩)
          have HA1 := Aside0.mk hA
          have HF1 := Aside0.mk hF
          have HB1 := Aside0.mk hB
          clear hr1 hA hF hB hK hKD htk' hys
          have HK1 := Aside0.mk (show wrap64 ((k : Int) + 1) = ((k + 1 : Nat) : Int) by have := HLL.out; unfold wrap64; omega)
          go_wp2
          rw [HK1.out]
          refine Handed.intro (gk - 1) (by omega) ?_
          go_step
          exact ⟨k + 1, tk', _ :: ds, _, _, _, _, _, _, _, _, _, _, _, _, _, _, _, _, _, _, _, ⟨by omega, by omega, HR1, HM1, HF1, HA1, HB1⟩, rfl⟩
        case stop =>
          rintro D c pre W hD hpre ⟨⟨⟨rfl, hn0, hF⟩, hKD⟩, hB⟩ hK
          have hr1 : false = r := by
            have h_ := HA.out
            rw [HD.out, apartS] at h_
            dsimp only at h_
            rw [if_pos HX.out, Int.toNat_natCast, takeS_prefix hpre tk hn0] at h_
            exact h_
          have HM1 := Aside0.mk (show Marks w.heap.size W ({ target := .collected D, args := #[] } :: ds) from ⟨D, rfl, by simp at hD; omega, hK, fun d' hd' e => by have h_ := marks_lt GM.out d' hd' D e; simp at hD; omega, marks_kept GM.out (fun D' hD' _ => (hKD D' hD').trans hD'.symm)⟩)
          subst hr1
          gi_wp2
          exact apart_end w n _ _ _ rfl _ HM1.out ((blk_cell hF 0).trans rfl) hB
    · have hz : ¬ (k : Int) < (l0.length : Int) := by omega
      have hc4 := (blk_cell H4.out 0).trans (show _ = some (.bool false) from rfl)
      have hf4 := blk_frozen H4.out 0
      have hnil : l0.drop k = [] := List.drop_eq_nil_of_le (by omega)
      have hr1 : true = r := by have h_ := HA.out; rw [hnil] at h_; exact h_
      have HR1 := Aside0.mk hr1
      clear hnil hr1
      go_wp2
      exact apart_end w n _ r _ rfl ds (marks_others HM.out (KeepsOthers.setCell wr _ _)) (by rw [← HR1.out]; exact World.cell?_setCell_same' _ _ _ (by rw [hc4]; rfl)) (below_set HB.out (Nat.le_refl _))
end Go.Proofs.Ytcgkkjimonfhbaa.P
