/-
  count.Right and count.Step by hand: whether a counter may be so, and what something that happens makes of it (by a table of functions). No condition beyond what the types say.
-/
import Derived.Test.YtlbhokkifdjlaaaPx1
import Derived.Test.YtlbhokkifdjlaaaPx3
import Derived.Shelf.Abstract
namespace Go.Proofs.Ytlbhokkifdjlaaa.P
open Go.Shelf Go.RowKit Go.Proofs.YtlbhokkifdjlaaaW.PrintWords Go.Proofs.YtlbhokkifdjlaaaW.PrintLast Go.Proofs.YtlbhokkifdjlaaaW.PrintMore
attribute [local go_sem] max2_int min2_int max_two min_two
attribute [local go_sem high] eqA23
set_option linter.unusedVariables false
set_option linter.unusedSimpArgs false

def stOf (t r : Int) : Int := if mx t r > 127 then 2 else 1
def rightC (t r s q : Int) : Bool := if s = 3 then (t == 256 && (r == 0 && true) && decide (q / 128 = 0)) else (decide (t / 256 = 0) && decide (r / 256 = 0) && decide (q = 0) && s == stOf t r)
def count_Right.f (a0_0 : Int) (a0_1 : Int) (a0_2 : Int) (a0_3 : Int) : Option (Bool) := some (rightC a0_0 a0_1 a0_2 a0_3)

theorem state_q (g : Nat) (t r : Int) (W : World) (h0 : W.cell? ⟨g, 0, none⟩ = some (.int .i64 t)) (h1 : W.cell? ⟨g, 1, none⟩ = some (.int .i64 r)) :
    Calls Try.prog 20 #[.pointer (some ⟨g, 0, none⟩)] W fun e w' => e = .returned (.int .i64 (stOf t r)) ∧ ∃ n, w' = W.drewN n := by
  obtain ⟨j, hj⟩ : ∃ j : Int, mx t r = j := ⟨_, rfl⟩
  have hst : stOf t r = if j > 127 then 2 else 1 := by unfold stOf; rw [hj]
  rw [hst]
  have hj_ : (if t < r then r else t) = j := hj
  clear hst hj
  by_cases c : j > 127
  · rw [if_pos c]
    have cb : decide (127 < j) = true := decide_eq_true c
    clear c
    go_enter Try.func20, Try.ntmps20
    go_wp2
    repeat (go_quiet (fail); try go_wp2)
    go_ret
    exact ⟨rfl, _, rfl⟩
  · rw [if_neg c]
    have cb : decide (127 < j) = false := decide_eq_false c
    clear c
    go_enter Try.func20, Try.ntmps20
    go_wp2
    repeat (go_quiet (fail); try go_wp2)
    go_ret
    exact ⟨rfl, _, rfl⟩

theorem count_Right.calls (a0_0 : Int) (a0_1 : Int) (a0_2 : Int) (a0_3 : Int) (r : Bool) (w : World) (h : count_Right.f a0_0 a0_1 a0_2 a0_3 = some r) :
    Calls Try.prog 11 #[.agg #[.int .i64 a0_0, .int .i64 a0_1, .int .i64 a0_2, .int .i64 a0_3]] w fun e w' => e = .returned (.bool r) ∧ Below w.heap.size w w' := by
  have hre : r = rightC a0_0 a0_1 a0_2 a0_3 := by simpa [count_Right.f] using h.symm
  subst hre
  clear h
  have hu23 := Try.underlying23
  have hu36 := Try.underlying36
  by_cases c : a0_2 = 3
  · subst c
    obtain ⟨b, hb⟩ : ∃ b, decide (a0_3 / 128 = 0) = b := ⟨_, rfl⟩
    have hb2 : (a0_3 / 128 == 0) = b := by rw [← hb, Bool.eq_iff_iff]; simp
    have hr : rightC a0_0 a0_1 3 a0_3 = (a0_0 == 256 && (a0_1 == 0 && true) && b) := by simp [rightC, hb]
    rw [hr]
    clear hr hb
    by_cases e0 : a0_0 = 256
    · subst e0
      by_cases e1 : a0_1 = 0
      · subst e1
        go_enter Try.func11, Try.ntmps11
        go_wp2
        go_ret
        exact ⟨by simp, below_alloc (Below.refl _ _) _⟩
      · have f1 : (a0_1 == 0) = false := by simpa using e1
        have r1 : ((256 : Int) == 256 && (a0_1 == 0 && true) && b) = false := by rw [f1]; simp
        rw [r1]
        clear r1 e1
        go_enter Try.func11, Try.ntmps11
        go_wp2
        go_ret
        exact ⟨by simp, below_alloc (Below.refl _ _) _⟩
    · have f0 : (a0_0 == 256) = false := by simpa using e0
      have r1 : (a0_0 == 256 && (a0_1 == 0 && true) && b) = false := by rw [f0]; simp
      rw [r1]
      clear r1 e0
      go_enter Try.func11, Try.ntmps11
      go_wp2
      go_ret
      exact ⟨by simp, below_alloc (Below.refl _ _) _⟩
  · have c0 : (a0_2 == 3) = false := by simpa using c
    have hr : rightC a0_0 a0_1 a0_2 a0_3 = (decide (a0_0 / 256 = 0) && decide (a0_1 / 256 = 0) && decide (a0_3 = 0) && a0_2 == stOf a0_0 a0_1) := by simp [rightC, c]
    rw [hr]
    clear hr c
    by_cases e0 : a0_0 / 256 = 0
    · have f0 : (a0_0 / 256 == 0) = true := by simpa using e0
      by_cases e1 : a0_1 / 256 = 0
      · have f1 : (a0_1 / 256 == 0) = true := by simpa using e1
        by_cases e2 : a0_3 = 0
        · have r1 : (decide (a0_0 / 256 = 0) && decide (a0_1 / 256 = 0) && decide (a0_3 = 0) && a0_2 == stOf a0_0 a0_1) = (a0_2 == stOf a0_0 a0_1) := by simp [e0, e1, e2]
          rw [r1]
          subst e2
          have f2 : ((0 : Int) == 0) = true := rfl
          clear r1 e0 e1
          go_enter Try.func11, Try.ntmps11
          go_wp2
          go_quiet ((go_at_call 20; exact Calls.quiet_of (state_q _ a0_0 a0_1 _ (by simp) (by simp))))
          go_wp2
          go_ret
          exact ⟨rfl, pw_below_drewN (below_alloc (below_alloc (Below.refl _ _) _) _) _⟩
        · have f2 : (a0_3 == 0) = false := by simpa using e2
          have r1 : (decide (a0_0 / 256 = 0) && decide (a0_1 / 256 = 0) && decide (a0_3 = 0) && a0_2 == stOf a0_0 a0_1) = false := by simp [e2]
          rw [r1]
          clear r1 e0 e1 e2
          go_enter Try.func11, Try.ntmps11
          go_wp2
          go_quiet (fail)
          go_wp2
          go_ret
          exact ⟨rfl, pw_below_drewN (below_alloc (below_alloc (Below.refl _ _) _) _) _⟩
      · have f1 : (a0_1 / 256 == 0) = false := by simpa using e1
        have r1 : (decide (a0_0 / 256 = 0) && decide (a0_1 / 256 = 0) && decide (a0_3 = 0) && a0_2 == stOf a0_0 a0_1) = false := by simp [e1]
        rw [r1]
        clear r1 e0 e1
        go_enter Try.func11, Try.ntmps11
        go_wp2
        go_quiet (fail)
        go_wp2
        go_ret
        exact ⟨rfl, pw_below_drewN (below_alloc (below_alloc (Below.refl _ _) _) _) _⟩
    · have f0 : (a0_0 / 256 == 0) = false := by simpa using e0
      have r1 : (decide (a0_0 / 256 = 0) && decide (a0_1 / 256 = 0) && decide (a0_3 = 0) && a0_2 == stOf a0_0 a0_1) = false := by simp [e0]
      rw [r1]
      clear r1 e0
      go_enter Try.func11, Try.ntmps11
      go_wp2
      go_quiet (fail)
      go_wp2
      go_ret
      exact ⟨rfl, pw_below_drewN (below_alloc (below_alloc (Below.refl _ _) _) _) _⟩

/-- What a step makes of the two numbers of a counter that is not Off. -/
def stepN (t r what : Int) : Int × Int :=
  if what = 1 then (mx (wrap64 (t - 1)) 0, r) else if what = 2 then (t, mn (mx (wrap64 (r - 1)) 0) 127) else if what = 3 then (wrap64 (t + 8), r)
  else if what = 4 then (t, mn (wrap64 (r + 1)) 255) else if what = 5 then (t, mn (wrap64 (r + 8)) 255) else (t, r)
def stepC (t r s q what : Int) : Int × Int × Int × Int :=
  if s = 3 then (if what = 6 then (if wrap64 (q + 1) = 128 then (0, 0, 1, 0) else (t, r, 3, wrap64 (q + 1))) else (t, r, 3, q))
  else if (stepN t r what).1 > 255 then (256, 0, 3, 0) else ((stepN t r what).1, (stepN t r what).2, stOf (stepN t r what).1 (stepN t r what).2, q)
def count_Step.f (a0_0 : Int) (a0_1 : Int) (a0_2 : Int) (a0_3 : Int) (a1 : Int) : Option (Int × Int × Int × Int) := some (stepC a0_0 a0_1 a0_2 a0_3 a1)

theorem heap_set (W : World) (g j : Nat) (v : Value) (b : Nat) (hb : b ≠ g) : (W.setCell ⟨g, j, none⟩ v).heap[b]? = W.heap[b]? := Below.heap_setCell W ⟨g, j, none⟩ v b hb
/-- What a piece of work leaves: the counter in block g, all else as it was. -/
def Worked (W W' : World) (g : Nat) (t r s q : Int) : Prop :=
  W'.heap[g]? = some (.cells #[.int .i64 t, .int .i64 r, .int .i64 s, .int .i64 q] 36 (0, 0)) ∧ (∀ b, b ≠ g → W'.heap[b]? = W.heap[b]?) ∧ W'.heap.size = W.heap.size ∧ Below g W W'

theorem worked_set (W : World) (n : Nat) (g : Nat) (t r s q : Int) (hb : W.heap[g]? = some (.cells #[.int .i64 t, .int .i64 r, .int .i64 s, .int .i64 q] 36 (0, 0))) (j : Nat) (v : Value) (t' r' : Int)
    (hv : (#[.int .i64 t, .int .i64 r, .int .i64 s, .int .i64 q] : Array Value).setIfInBounds j v = #[.int .i64 t', .int .i64 r', .int .i64 s, .int .i64 q]) : Worked W ((W.drewN n).setCell ⟨g, j, none⟩ v) g t' r' s q := by
  refine ⟨?_, fun b hb' => (heap_set _ g j v b hb').trans (by simp), by simp, ?_⟩
  · rw [← hv]
    exact blk_put (blk_drewN hb n) j v rfl
  · exact (pw_below_drewN (Below.refl g W) n).setCell (Nat.le_refl _) _

theorem worked_drew {W W' : World} {g : Nat} {t r s q : Int} (h : Worked W W' g t r s q) : Worked W W'.drew g t r s q := ⟨h.1, h.2.1, h.2.2.1, ⟨h.2.2.2.os, h.2.2.2.tape, h.2.2.2.output, h.2.2.2.size, h.2.2.2.block⟩⟩
theorem sent_calls (g : Nat) (t r s q : Int) (W : World) (hb : W.heap[g]? = some (.cells #[.int .i64 t, .int .i64 r, .int .i64 s, .int .i64 q] 36 (0, 0))) :
    Calls Try.prog 23 #[.pointer (some ⟨g, 0, none⟩)] W fun e w' => (∃ v, e = .returned v) ∧ Worked W w' g (mx (wrap64 (t - 1)) 0) r s q := by
  obtain ⟨j, hj⟩ : ∃ j : Int, mx (wrap64 (t - 1)) 0 = j := ⟨_, rfl⟩
  rw [hj]
  have hj_ : (if wrap64 (t - 1) < 0 then 0 else wrap64 (t - 1)) = j := hj
  clear hj
  have HBK := Aside0.mk hb
  have c0 := (blk_cell hb 0).trans rfl
  have f0 := blk_frozen hb 0
  clear hb
  go_enter Try.func23, Try.ntmps23
  go_wp2
  go_end0
  exact ⟨⟨_, rfl⟩, worked_set W 0 g t r s q HBK.out 0 _ j r rfl⟩
theorem heard_calls (g : Nat) (t r s q : Int) (W : World) (hb : W.heap[g]? = some (.cells #[.int .i64 t, .int .i64 r, .int .i64 s, .int .i64 q] 36 (0, 0))) :
    Calls Try.prog 24 #[.pointer (some ⟨g, 0, none⟩)] W fun e w' => (∃ v, e = .returned v) ∧ Worked W w' g t (mn (mx (wrap64 (r - 1)) 0) 127) s q := by
  obtain ⟨j, hj⟩ : ∃ j : Int, mx (wrap64 (r - 1)) 0 = j := ⟨_, rfl⟩
  rw [hj]
  have hj_ : (if wrap64 (r - 1) < 0 then 0 else wrap64 (r - 1)) = j := hj
  obtain ⟨i, hi⟩ : ∃ i : Int, mn j 127 = i := ⟨_, rfl⟩
  rw [hi]
  have hi_ : (if 127 < j then 127 else j) = i := hi
  clear hj hi
  have HBK := Aside0.mk hb
  have c0 := (blk_cell hb 1).trans rfl
  have f0 := blk_frozen hb 1
  clear hb
  go_enter Try.func24, Try.ntmps24
  go_wp2
  go_end0
  exact ⟨⟨_, rfl⟩, worked_set W 0 g t r s q HBK.out 1 _ t i rfl⟩
theorem bad_calls (g : Nat) (t r s q : Int) (W : World) (hb : W.heap[g]? = some (.cells #[.int .i64 t, .int .i64 r, .int .i64 s, .int .i64 q] 36 (0, 0))) :
    Calls Try.prog 25 #[.pointer (some ⟨g, 0, none⟩)] W fun e w' => (∃ v, e = .returned v) ∧ Worked W w' g (wrap64 (t + 8)) r s q := by
  have HBK := Aside0.mk hb
  have c0 := (blk_cell hb 0).trans rfl
  have f0 := blk_frozen hb 0
  clear hb
  go_enter Try.func25, Try.ntmps25
  go_wp2
  go_end0
  exact ⟨⟨_, rfl⟩, worked_set W 0 g t r s q HBK.out 0 _ (wrap64 (t + 8)) r rfl⟩
theorem poor_calls (g : Nat) (t r s q : Int) (B : Nat) (by_ : Int) (W : World) (hb : W.heap[g]? = some (.cells #[.int .i64 t, .int .i64 r, .int .i64 s, .int .i64 q] 36 (0, 0))) (hB : W.cell? ⟨B, 0, none⟩ = some (.int .i64 by_)) :
    Calls Try.prog 27 #[.pointer (some ⟨g, 0, none⟩), .pointer (some ⟨B, 0, none⟩)] W fun e w' => (∃ v, e = .returned v) ∧ Worked W w' g t (mn (wrap64 (r + by_)) 255) s q := by
  obtain ⟨i, hi⟩ : ∃ i : Int, mn (wrap64 (r + by_)) 255 = i := ⟨_, rfl⟩
  rw [hi]
  have hi_ : (if 255 < wrap64 (r + by_) then 255 else wrap64 (r + by_)) = i := hi
  clear hi
  have HBK := Aside0.mk hb
  have c0 := (blk_cell hb 1).trans rfl
  have f0 := blk_frozen hb 1
  clear hb
  go_enter Try.func27, Try.ntmps27
  go_region
  all_goals (go_end0; exact ⟨⟨_, rfl⟩, worked_drew (worked_set W 0 g t r s q HBK.out 1 _ t i rfl)⟩)

/-- One entry more of a map that is being filled with whole numbers as keys. -/
theorem insert_step {ops : Array Oper} {rest : List Oper} {o : Oper} {a : Act} {Q : Exit → Act → World → Prop} {W : World} (m : Nat) (es : Array MapEntry) (clock : Nat) (key : Int) (val : Value) {x k v : Operand}
    (ho : o.op = .insert 41 x k v) (hgd : o.guard = none) (hd : o.dst = none) (hx : a.eval x = .map (some m)) (hk : a.eval k = .int .i64 key) (hv : a.eval v = val) (hb : W.heap[m]? = some (.map es clock))
    (hf : Instr.findNow (.int .i64) (.int .i64 key) es.toList 0 = some none)
    (h : ∀ W1 : World, W1.heap[m]? = some (.map (es.push { key := .int .i64 key, val := val, born := clock }) (clock + 1)) → (∀ b, b ≠ m → W1.heap[b]? = W.heap[b]?) → W1.heap.size = W.heap.size → Below m W W1 → wpList Try.prog ops Q rest a W1) :
    wpList Try.prog ops Q (o :: rest) a W := by
  have hc : (Instr.checkKey false 10000 3 (.int .i64 key)).run Try.prog W = .ok () W := MapKept.run_checkKey (k := .int .i64 key) Try.underlying3 (show MapKept.IsKey (.int .i64) (.int .i64 key) from rfl) false 9999
  have hrun : (Instr.mapUpdate 41 (.map (some m)) (.int .i64 key) val).run Try.prog W = .ok () { W with heap := W.heap.setIfInBounds m (.map (es.push { key := .int .i64 key, val := val, born := clock }) (clock + 1)) } := by
    simp [Instr.mapUpdate, run_underlying Try.underlying41, MapKept.run_getObj_map hb, hc, MapKept.run_findKey Try.underlying3 hf, MapKept.run_setObj_map _ hb, Result.andThen]
  have hex : (execOp a.eval o).run Try.prog W = .ok .skip { W with heap := W.heap.setIfInBounds m (.map (es.push { key := .int .i64 key, val := val, born := clock }) (clock + 1)) } := by
    unfold execOp
    rw [ho]
    simp [hx, hk, hv, hrun, Result.andThen]
  have hlt : m < W.heap.size := (Array.getElem?_eq_some_iff.1 hb).1
  refine wpList_plain hgd fun K hK => ?_
  unfold Oper.wp
  rw [hex, Oper.upon_skip, hd]
  refine hK _ _ (h _ (by simp [hlt]) (fun b hbm => by simp [Array.getElem?_setIfInBounds, Ne.symm hbm]) (by simp) ⟨rfl, rfl, rfl, by simp, fun i hi => ?_⟩)
  simp [Array.getElem?_setIfInBounds, show m ≠ i by omega]

def worksES (m : Nat) : Array MapEntry := #[{ key := .int .i64 1, val := .func (.func 23) #[] #[], born := 0 }, { key := .int .i64 2, val := .func (.func 24) #[] #[], born := 1 }, { key := .int .i64 3, val := .func (.func 25) #[] #[], born := 2 },
  { key := .int .i64 4, val := .func (.func 27) #[] #[.pointer (some ⟨m + 1, 0, none⟩)], born := 3 }, { key := .int .i64 5, val := .func (.func 27) #[] #[.pointer (some ⟨m + 2, 0, none⟩)], born := 4 }]
theorem gate_op {ops : Array Oper} {rest : List Oper} {o : Oper} {a : Act} {Q : Exit → Act → World → Prop} {W : World} {op : Op} (_h : o.op = op) (h : wpList Try.prog ops Q (o :: rest) a W) : wpList Try.prog ops Q (o :: rest) a W := h
theorem poor_make (n : Int) (W : World) : Calls Try.prog 26 #[.int .i64 n] W fun e w' => e = .returned (.func (.func 27) #[] #[.pointer (some ⟨W.heap.size, 0, none⟩)]) ∧ w' = W.alloc (.cells #[.int .i64 n] 3) := by
  go_enter Try.func26, Try.ntmps26
  go_wp2
  go_ret
  exact ⟨rfl, rfl⟩
theorem below_alloc' {B : Nat} {w W : World} (h : Below B w W) (hb : B ≤ W.heap.size) (o : Obj) : Below B w (W.alloc o) := h.alloc hb o
theorem works_calls (W : World) : Calls Try.prog 22 #[] W fun e w' => e = .returned (.map (some W.heap.size)) ∧ w'.heap[W.heap.size]? = some (.map (worksES W.heap.size) 5) ∧
    w'.heap[W.heap.size + 1]? = some (.cells #[.int .i64 1] 3 (0, 0)) ∧ w'.heap[W.heap.size + 2]? = some (.cells #[.int .i64 8] 3 (0, 0)) ∧ Below W.heap.size W w' := by
  have hmm := @run_makeMap Try.prog
  have hw0 := Aside0.mk (show (W.alloc (.map #[] 0)).heap[W.heap.size]? = some (.map #[] 0) from blk_new W _)
  have hsz := Aside0.mk (show (W.alloc (.map #[] 0)).heap.size = W.heap.size + 1 by simp)
  have hB0 := Aside0.mk (below_alloc (Below.refl _ W) (.map #[] 0))
  go_enter Try.func22, Try.ntmps22
  go_wp2_with (first
    | ((with_reducible refine gate_op (op := .insert 41 (.tmp 1) (.const (.int .i64 1)) (.func 23)) rfl ?_); refine insert_step W.heap.size #[] 0 1 (.func (.func 23) #[] #[]) rfl rfl rfl rfl rfl (rfl) (hw0.out) rfl ?_; intro W1 h1 h2 h3 h4; have H1 := Aside0.mk h1; have S1 := Aside0.mk (h3.trans (hsz.out)); have B1 := Aside0.mk ((hB0.out).trans (h4.mono (Nat.le_refl _))); have K1 := Aside0.mk h2; clear h1 h2 h3 h4)
    | ((with_reducible refine gate_op (op := .insert 41 (.tmp 1) (.const (.int .i64 2)) (.func 24)) rfl ?_); refine insert_step W.heap.size #[{ key := .int .i64 1, val := .func (.func 23) #[] #[], born := 0 }] 1 2 (.func (.func 24) #[] #[]) rfl rfl rfl rfl rfl (rfl) (H1.out) rfl ?_; intro W2 h1 h2 h3 h4; have H2 := Aside0.mk h1; have S2 := Aside0.mk (h3.trans (S1.out)); have B2 := Aside0.mk ((B1.out).trans (h4.mono (Nat.le_refl _))); have K2 := Aside0.mk h2; clear h1 h2 h3 h4)
    | ((with_reducible refine gate_op (op := .insert 41 (.tmp 1) (.const (.int .i64 3)) (.func 25)) rfl ?_); refine insert_step W.heap.size #[{ key := .int .i64 1, val := .func (.func 23) #[] #[], born := 0 }, { key := .int .i64 2, val := .func (.func 24) #[] #[], born := 1 }] 2 3 (.func (.func 25) #[] #[]) rfl rfl rfl rfl rfl (rfl) (H2.out) rfl ?_; intro W3 h1 h2 h3 h4; have H3 := Aside0.mk h1; have S3 := Aside0.mk (h3.trans (S2.out)); have B3 := Aside0.mk ((B2.out).trans (h4.mono (Nat.le_refl _))); have K3 := Aside0.mk h2; clear h1 h2 h3 h4)
    | ((with_reducible refine gate_op (op := .insert 41 (.tmp 1) (.const (.int .i64 4)) (.tmp 2)) rfl ?_); refine insert_step W.heap.size #[{ key := .int .i64 1, val := .func (.func 23) #[] #[], born := 0 }, { key := .int .i64 2, val := .func (.func 24) #[] #[], born := 1 }, { key := .int .i64 3, val := .func (.func 25) #[] #[], born := 2 }] 3 4 (.func (.func 27) #[] #[.pointer (some ⟨W.heap.size + 1, 0, none⟩)]) rfl rfl rfl rfl rfl (by show Value.func _ _ #[.pointer (some ⟨W3.heap.size, 0, none⟩)] = _; rw [S3.out]) (blk_alloc H3.out _) rfl ?_; intro W4 h1 h2 h3 h4; have H4 := Aside0.mk h1; have S4 := Aside0.mk (h3.trans (show (W3.alloc _).heap.size = W.heap.size + 2 by simp [S3.out])); have B4 := Aside0.mk ((below_alloc' B3.out (by rw [S3.out]; omega) _).trans (h4.mono (Nat.le_refl _))); have K4 := Aside0.mk h2; clear h1 h2 h3 h4)
    | ((with_reducible refine gate_op (op := .insert 41 (.tmp 1) (.const (.int .i64 5)) (.tmp 3)) rfl ?_); refine insert_step W.heap.size #[{ key := .int .i64 1, val := .func (.func 23) #[] #[], born := 0 }, { key := .int .i64 2, val := .func (.func 24) #[] #[], born := 1 }, { key := .int .i64 3, val := .func (.func 25) #[] #[], born := 2 }, { key := .int .i64 4, val := .func (.func 27) #[] #[.pointer (some ⟨W.heap.size + 1, 0, none⟩)], born := 3 }] 4 5 (.func (.func 27) #[] #[.pointer (some ⟨W.heap.size + 2, 0, none⟩)]) rfl rfl rfl rfl rfl (by show Value.func _ _ #[.pointer (some ⟨W4.heap.size, 0, none⟩)] = _; rw [S4.out]) (blk_alloc H4.out _) rfl ?_; intro W5 h1 h2 h3 h4; have H5 := Aside0.mk h1; have S5 := Aside0.mk (h3.trans (show (W4.alloc _).heap.size = W.heap.size + 3 by simp [S4.out])); have B5 := Aside0.mk ((below_alloc' B4.out (by rw [S4.out]; omega) _).trans (h4.mono (Nat.le_refl _))); have K5 := Aside0.mk h2; clear h1 h2 h3 h4)
    | (go_at_call 26; refine (poor_make _ _).mono ?_; rintro e w' ⟨rfl, rfl⟩))
  go_ret
  refine ⟨rfl, H5.out, ?_, ?_, B5.out⟩
  · rw [K5.out _ (by omega), blk_alloc ((K4.out _ (by omega)).trans ?_) _]
    rw [← S3.out]; exact blk_new W3 _
  · rw [K5.out _ (by omega), ← S4.out]; exact blk_new W4 _

theorem works_at (W : World) (n : Nat) (hn : W.heap.size = n) : Calls Try.prog 22 #[] W fun e w' => e = .returned (.map (some n)) ∧ w'.heap[n]? = some (.map (worksES n) 5) ∧
    w'.heap[n + 1]? = some (.cells #[.int .i64 1] 3 (0, 0)) ∧ w'.heap[n + 2]? = some (.cells #[.int .i64 8] 3 (0, 0)) ∧ Below n W w' := by
  subst hn
  exact works_calls W
theorem run_lookup {W : World} (m : Nat) (es : Array MapEntry) (clock : Nat) (key : Int) (i : Nat) (val : Value) (hb : W.heap[m]? = some (.map es clock)) (hf : Instr.findNow (.int .i64) (.int .i64 key) es.toList 0 = some (some (i, val))) :
    (Instr.lookup 41 (.map (some m)) (.int .i64 key) true).run Try.prog W = .ok (.tuple #[val, .bool true]) W := by
  have hc : (Instr.checkKey es.isEmpty 10000 3 (.int .i64 key)).run Try.prog W = .ok () W := MapKept.run_checkKey (k := .int .i64 key) Try.underlying3 (show MapKept.IsKey (.int .i64) (.int .i64 key) from rfl) _ 9999
  simp [Instr.lookup, run_underlying Try.underlying41, MapKept.run_getObj_map hb, hc, MapKept.run_findKey Try.underlying3 hf, Result.andThen]
theorem run_lookup_no {W : World} (m : Nat) (es : Array MapEntry) (clock : Nat) (key : Int) (hb : W.heap[m]? = some (.map es clock)) (hf : Instr.findNow (.int .i64) (.int .i64 key) es.toList 0 = some none) :
    (Instr.lookup 41 (.map (some m)) (.int .i64 key) true).run Try.prog W = .ok (.tuple #[.nilFunc, .bool false]) W := by
  have hc : (Instr.checkKey es.isEmpty 10000 3 (.int .i64 key)).run Try.prog W = .ok () W := MapKept.run_checkKey (k := .int .i64 key) Try.underlying3 (show MapKept.IsKey (.int .i64) (.int .i64 key) from rfl) _ 9999
  have hz : (zeroValue 39).run Try.prog W = .ok .nilFunc W := by kernel_rfl
  simp [Instr.lookup, run_underlying Try.underlying41, MapKept.run_getObj_map hb, hc, MapKept.run_findKey Try.underlying3 hf, hz, Result.andThen]

theorem step_on (F i : Nat) (lb : Nat → Array Value) (t r s q what t' r' : Int) (w : World) (c0 : (s == 3) = false)
    (eg : ∀ args w, (callFunc F args).run Try.prog w = .ok (.enter F args) w)
    (hfind : ∀ m, Instr.findNow (.int .i64) (.int .i64 what) (worksES m).toList 0 = some (some (i, .func (.func F) #[] (lb m))))
    (hwork : ∀ (W : World) (m g : Nat), W.heap[g]? = some (.cells #[.int .i64 t, .int .i64 r, .int .i64 s, .int .i64 q] 36 (0, 0)) → W.heap[m + 1]? = some (.cells #[.int .i64 1] 3 (0, 0)) → W.heap[m + 2]? = some (.cells #[.int .i64 8] 3 (0, 0)) →
      Calls Try.prog F (#[.pointer (some ⟨g, 0, none⟩)] ++ lb m) W fun e w' => (∃ v, e = .returned v) ∧ Worked W w' g t' r' s q) :
    Calls Try.prog 15 #[.agg #[.int .i64 t, .int .i64 r, .int .i64 s, .int .i64 q], .int .i64 what] w fun e w' =>
      e = .returned (if t' > 255 then .agg #[.int .i64 256, .int .i64 0, .int .i64 3, .int .i64 0] else .agg #[.int .i64 t', .int .i64 r', .int .i64 (stOf t' r'), .int .i64 q]) ∧ Below w.heap.size w w' := by
  have hu23 := Try.underlying23
  have hu36 := Try.underlying36
  have HF := Aside0.mk hfind
  have HW := Aside0.mk hwork
  clear hfind hwork
  have HX := Aside0.mk (show (((w.alloc (.cells #[.int .i64 t, .int .i64 r, .int .i64 s, .int .i64 q] 23)).alloc (.cells #[.int .i64 0, .int .i64 0, .int .i64 0, .int .i64 0] 23)).alloc (.cells #[.int .i64 t, .int .i64 r, .int .i64 s, .int .i64 q] 36)).heap[w.heap.size + 1 + 1]? = some (.cells #[.int .i64 t, .int .i64 r, .int .i64 s, .int .i64 q] 36 (0, 0)) from by
    rw [show w.heap.size + 1 + 1 = ((w.alloc (.cells #[.int .i64 t, .int .i64 r, .int .i64 s, .int .i64 q] 23)).alloc (.cells #[.int .i64 0, .int .i64 0, .int .i64 0, .int .i64 0] 23)).heap.size by simp]; exact blk_new _ _)
  have HZ := Aside0.mk (show (((w.alloc (.cells #[.int .i64 t, .int .i64 r, .int .i64 s, .int .i64 q] 23)).alloc (.cells #[.int .i64 0, .int .i64 0, .int .i64 0, .int .i64 0] 23)).alloc (.cells #[.int .i64 t, .int .i64 r, .int .i64 s, .int .i64 q] 36)).heap[w.heap.size + 1]? = some (.cells #[.int .i64 0, .int .i64 0, .int .i64 0, .int .i64 0] 23 (0, 0)) from
    blk_alloc (by rw [show w.heap.size + 1 = (w.alloc (.cells #[.int .i64 t, .int .i64 r, .int .i64 s, .int .i64 q] 23)).heap.size by simp]; exact blk_new _ _) _)
  have HN := Aside0.mk (show (((w.alloc (.cells #[.int .i64 t, .int .i64 r, .int .i64 s, .int .i64 q] 23)).alloc (.cells #[.int .i64 0, .int .i64 0, .int .i64 0, .int .i64 0] 23)).alloc (.cells #[.int .i64 t, .int .i64 r, .int .i64 s, .int .i64 q] 36)).heap.size = w.heap.size + 3 by simp)
  have HB0 := Aside0.mk (below_alloc (below_alloc (below_alloc (Below.refl _ w) (.cells #[.int .i64 t, .int .i64 r, .int .i64 s, .int .i64 q] 23)) (.cells #[.int .i64 0, .int .i64 0, .int .i64 0, .int .i64 0] 23)) (.cells #[.int .i64 t, .int .i64 r, .int .i64 s, .int .i64 q] 36))
  by_cases hT : t' > 255
  · have ht : decide (255 < t') = true := decide_eq_true hT
    rw [if_pos hT]
    clear hT
    go_enter Try.func15, Try.ntmps15
    go_wp2_with (first
      | (go_at_call 22; refine (works_at _ (w.heap.size + 3) HN.out).mono ?_; rintro e w1 ⟨rfl, hmap, hb1, hb2, hbel⟩; have hl := run_lookup (w.heap.size + 3) (worksES (w.heap.size + 3)) 5 what i _ hmap (HF.out _); have HX1 := Aside0.mk (blk_below HX.out (hbel.mono (by rw [HN.out]; exact Nat.le_refl _))); have HZ1 := Aside0.mk (blk_below HZ.out (hbel.mono (by rw [HN.out]; exact Nat.le_refl _))); have HB1 := Aside0.mk (HB0.out.trans (hbel.mono (by omega))); have M1 := Aside0.mk hb1; have M2 := Aside0.mk hb2; clear hmap hb1 hb2 hbel)
      | (go_at_fn F; refine (HW.out w1 (w.heap.size + 3) (w.heap.size + 1 + 1) HX1.out M1.out M2.out).mono ?_; rintro e w2 ⟨⟨v, rfl⟩, hW2⟩; have d0 := (blk_cell hW2.1 0).trans rfl; have d1 := (blk_cell hW2.1 1).trans rfl; have d2 := (blk_cell hW2.1 2).trans rfl; have d3 := (blk_cell hW2.1 3).trans rfl; have f2 := blk_frozen hW2.1 2; have HZ2 := Aside0.mk ((hW2.2.1 (w.heap.size + 1) (by omega)).trans HZ1.out); have z0 := (blk_cell HZ2.out 0).trans rfl; have z1 := (blk_cell HZ2.out 1).trans rfl; have z2 := (blk_cell HZ2.out 2).trans rfl; have z3 := (blk_cell HZ2.out 3).trans rfl; have g0 := blk_frozen HZ2.out 0; have g1 := blk_frozen HZ2.out 1; have g2 := blk_frozen HZ2.out 2; have g3 := blk_frozen HZ2.out 3; have HB2 := Aside0.mk (HB1.out.trans (hW2.2.2.2.mono (by omega))); have HX2 := Aside0.mk hW2.1; clear hW2))
    refine bodyPost_ret (results_cell_row rfl _ _ (w.heap.size + 1) 23 #[.int .i64 256, .int .i64 0, .int .i64 3, .int .i64 0] (0, 0) _ rfl (blk_put (blk_put (blk_put (blk_put HZ2.out 0 (.int .i64 256) rfl) 1 (.int .i64 0) rfl) 2 (.int .i64 3) rfl) 3 (.int .i64 0) rfl) Try.underlying23 rfl (by kernel_rfl)) rfl ?_
    exact ⟨rfl, below_set (below_set (below_set (below_set HB2.out (by omega)) (by omega)) (by omega)) (by omega)⟩
  · have ht : decide (255 < t') = false := decide_eq_false hT
    rw [if_neg hT]
    clear hT
    go_enter Try.func15, Try.ntmps15
    go_wp2_with (first
      | (go_at_call 22; refine (works_at _ (w.heap.size + 3) HN.out).mono ?_; rintro e w1 ⟨rfl, hmap, hb1, hb2, hbel⟩; have hl := run_lookup (w.heap.size + 3) (worksES (w.heap.size + 3)) 5 what i _ hmap (HF.out _); have HX1 := Aside0.mk (blk_below HX.out (hbel.mono (by rw [HN.out]; exact Nat.le_refl _))); have HZ1 := Aside0.mk (blk_below HZ.out (hbel.mono (by rw [HN.out]; exact Nat.le_refl _))); have HB1 := Aside0.mk (HB0.out.trans (hbel.mono (by omega))); have M1 := Aside0.mk hb1; have M2 := Aside0.mk hb2; clear hmap hb1 hb2 hbel)
      | (go_at_fn F; refine (HW.out w1 (w.heap.size + 3) (w.heap.size + 1 + 1) HX1.out M1.out M2.out).mono ?_; rintro e w2 ⟨⟨v, rfl⟩, hW2⟩; have d0 := (blk_cell hW2.1 0).trans rfl; have d1 := (blk_cell hW2.1 1).trans rfl; have d2 := (blk_cell hW2.1 2).trans rfl; have d3 := (blk_cell hW2.1 3).trans rfl; have f2 := blk_frozen hW2.1 2; have HZ2 := Aside0.mk ((hW2.2.1 (w.heap.size + 1) (by omega)).trans HZ1.out); have z0 := (blk_cell HZ2.out 0).trans rfl; have z1 := (blk_cell HZ2.out 1).trans rfl; have z2 := (blk_cell HZ2.out 2).trans rfl; have z3 := (blk_cell HZ2.out 3).trans rfl; have g0 := blk_frozen HZ2.out 0; have g1 := blk_frozen HZ2.out 1; have g2 := blk_frozen HZ2.out 2; have g3 := blk_frozen HZ2.out 3; have HB2 := Aside0.mk (HB1.out.trans (hW2.2.2.2.mono (by omega))); have HX2 := Aside0.mk hW2.1; clear hW2)
      | (go_at_call 20; refine (state_q _ t' r' _ (by assumption) (by assumption)).mono ?_; rintro e w3 ⟨rfl, n, rfl⟩))
    have k0 := blk_far (p := ⟨w.heap.size + 1 + 1, 2, none⟩) (blk_drewN HZ2.out n) (by show w.heap.size + 1 ≠ w.heap.size + 1 + 1; omega) (.int .i64 (stOf t' r'))
    have k1 := blk_put k0 0 (.int .i64 t') rfl
    have k2 := blk_put k1 1 (.int .i64 r') rfl
    have k3 := blk_put k2 2 (.int .i64 (stOf t' r')) rfl
    have k4 := blk_put k3 3 (.int .i64 q) rfl
    have k5 := k4
    refine bodyPost_ret (results_cell_row rfl _ _ (w.heap.size + 1) 23 #[.int .i64 t', .int .i64 r', .int .i64 (stOf t' r'), .int .i64 q] (0, 0) _ rfl k5 Try.underlying23 rfl (by kernel_rfl)) rfl ?_
    exact ⟨rfl, below_set (below_set (below_set (below_set (below_set (pw_below_drewN HB2.out n) (by omega)) (by omega)) (by omega)) (by omega)) (by omega)⟩

theorem step_none (t r s q what : Int) (w : World) (c0 : (s == 3) = false) (hfind : ∀ m, Instr.findNow (.int .i64) (.int .i64 what) (worksES m).toList 0 = some none) :
    Calls Try.prog 15 #[.agg #[.int .i64 t, .int .i64 r, .int .i64 s, .int .i64 q], .int .i64 what] w fun e w' =>
      e = .returned (if t > 255 then .agg #[.int .i64 256, .int .i64 0, .int .i64 3, .int .i64 0] else .agg #[.int .i64 t, .int .i64 r, .int .i64 (stOf t r), .int .i64 q]) ∧ Below w.heap.size w w' := by
  have hu23 := Try.underlying23
  have hu36 := Try.underlying36
  have HF := Aside0.mk hfind
  clear hfind
  have HX := Aside0.mk (show (((w.alloc (.cells #[.int .i64 t, .int .i64 r, .int .i64 s, .int .i64 q] 23)).alloc (.cells #[.int .i64 0, .int .i64 0, .int .i64 0, .int .i64 0] 23)).alloc (.cells #[.int .i64 t, .int .i64 r, .int .i64 s, .int .i64 q] 36)).heap[w.heap.size + 1 + 1]? = some (.cells #[.int .i64 t, .int .i64 r, .int .i64 s, .int .i64 q] 36 (0, 0)) from by
    rw [show w.heap.size + 1 + 1 = ((w.alloc (.cells #[.int .i64 t, .int .i64 r, .int .i64 s, .int .i64 q] 23)).alloc (.cells #[.int .i64 0, .int .i64 0, .int .i64 0, .int .i64 0] 23)).heap.size by simp]; exact blk_new _ _)
  have HZ := Aside0.mk (show (((w.alloc (.cells #[.int .i64 t, .int .i64 r, .int .i64 s, .int .i64 q] 23)).alloc (.cells #[.int .i64 0, .int .i64 0, .int .i64 0, .int .i64 0] 23)).alloc (.cells #[.int .i64 t, .int .i64 r, .int .i64 s, .int .i64 q] 36)).heap[w.heap.size + 1]? = some (.cells #[.int .i64 0, .int .i64 0, .int .i64 0, .int .i64 0] 23 (0, 0)) from
    blk_alloc (by rw [show w.heap.size + 1 = (w.alloc (.cells #[.int .i64 t, .int .i64 r, .int .i64 s, .int .i64 q] 23)).heap.size by simp]; exact blk_new _ _) _)
  have HN := Aside0.mk (show (((w.alloc (.cells #[.int .i64 t, .int .i64 r, .int .i64 s, .int .i64 q] 23)).alloc (.cells #[.int .i64 0, .int .i64 0, .int .i64 0, .int .i64 0] 23)).alloc (.cells #[.int .i64 t, .int .i64 r, .int .i64 s, .int .i64 q] 36)).heap.size = w.heap.size + 3 by simp)
  have HB0 := Aside0.mk (below_alloc (below_alloc (below_alloc (Below.refl _ w) (.cells #[.int .i64 t, .int .i64 r, .int .i64 s, .int .i64 q] 23)) (.cells #[.int .i64 0, .int .i64 0, .int .i64 0, .int .i64 0] 23)) (.cells #[.int .i64 t, .int .i64 r, .int .i64 s, .int .i64 q] 36))
  by_cases hT : t > 255
  · have ht : decide (255 < t) = true := decide_eq_true hT
    rw [if_pos hT]
    clear hT
    go_enter Try.func15, Try.ntmps15
    go_wp2_with (first
      | (go_at_call 22; refine (works_at _ (w.heap.size + 3) HN.out).mono ?_; rintro e w1 ⟨rfl, hmap, _, _, hbel⟩; have hl := run_lookup_no (w.heap.size + 3) (worksES (w.heap.size + 3)) 5 what hmap (HF.out _); have hX1 := blk_below HX.out (hbel.mono (by rw [HN.out]; exact Nat.le_refl _)); have d0 := (blk_cell hX1 0).trans rfl; have d1 := (blk_cell hX1 1).trans rfl; have d2 := (blk_cell hX1 2).trans rfl; have d3 := (blk_cell hX1 3).trans rfl; have f2 := blk_frozen hX1 2; have HZ1 := Aside0.mk (blk_below HZ.out (hbel.mono (by rw [HN.out]; exact Nat.le_refl _))); have z0 := (blk_cell HZ1.out 0).trans rfl; have z1 := (blk_cell HZ1.out 1).trans rfl; have z2 := (blk_cell HZ1.out 2).trans rfl; have z3 := (blk_cell HZ1.out 3).trans rfl; have g0 := blk_frozen HZ1.out 0; have g1 := blk_frozen HZ1.out 1; have g2 := blk_frozen HZ1.out 2; have g3 := blk_frozen HZ1.out 3; have HB1 := Aside0.mk (HB0.out.trans (hbel.mono (by omega))); clear hmap hbel hX1))
    refine bodyPost_ret (results_cell_row rfl _ _ (w.heap.size + 1) 23 #[.int .i64 256, .int .i64 0, .int .i64 3, .int .i64 0] (0, 0) _ rfl (blk_put (blk_put (blk_put (blk_put HZ1.out 0 (.int .i64 256) rfl) 1 (.int .i64 0) rfl) 2 (.int .i64 3) rfl) 3 (.int .i64 0) rfl) Try.underlying23 rfl (by kernel_rfl)) rfl ?_
    exact ⟨rfl, below_set (below_set (below_set (below_set HB1.out (by omega)) (by omega)) (by omega)) (by omega)⟩
  · have ht : decide (255 < t) = false := decide_eq_false hT
    rw [if_neg hT]
    clear hT
    go_enter Try.func15, Try.ntmps15
    go_wp2_with (first
      | (go_at_call 22; refine (works_at _ (w.heap.size + 3) HN.out).mono ?_; rintro e w1 ⟨rfl, hmap, _, _, hbel⟩; have hl := run_lookup_no (w.heap.size + 3) (worksES (w.heap.size + 3)) 5 what hmap (HF.out _); have hX1 := blk_below HX.out (hbel.mono (by rw [HN.out]; exact Nat.le_refl _)); have d0 := (blk_cell hX1 0).trans rfl; have d1 := (blk_cell hX1 1).trans rfl; have d2 := (blk_cell hX1 2).trans rfl; have d3 := (blk_cell hX1 3).trans rfl; have f2 := blk_frozen hX1 2; have HZ1 := Aside0.mk (blk_below HZ.out (hbel.mono (by rw [HN.out]; exact Nat.le_refl _))); have z0 := (blk_cell HZ1.out 0).trans rfl; have z1 := (blk_cell HZ1.out 1).trans rfl; have z2 := (blk_cell HZ1.out 2).trans rfl; have z3 := (blk_cell HZ1.out 3).trans rfl; have g0 := blk_frozen HZ1.out 0; have g1 := blk_frozen HZ1.out 1; have g2 := blk_frozen HZ1.out 2; have g3 := blk_frozen HZ1.out 3; have HB1 := Aside0.mk (HB0.out.trans (hbel.mono (by omega))); clear hmap hbel hX1)
      | (go_at_call 20; refine (state_q _ t r _ (by assumption) (by assumption)).mono ?_; rintro e w3 ⟨rfl, n, rfl⟩))
    have k0 := blk_far (p := ⟨w.heap.size + 1 + 1, 2, none⟩) (blk_drewN HZ1.out n) (by show w.heap.size + 1 ≠ w.heap.size + 1 + 1; omega) (.int .i64 (stOf t r))
    have k1 := blk_put k0 0 (.int .i64 t) rfl
    have k2 := blk_put k1 1 (.int .i64 r) rfl
    have k3 := blk_put k2 2 (.int .i64 (stOf t r)) rfl
    have k4 := blk_put k3 3 (.int .i64 q) rfl
    have k5 := k4
    refine bodyPost_ret (results_cell_row rfl _ _ (w.heap.size + 1) 23 #[.int .i64 t, .int .i64 r, .int .i64 (stOf t r), .int .i64 q] (0, 0) _ rfl k5 Try.underlying23 rfl (by kernel_rfl)) rfl ?_
    exact ⟨rfl, below_set (below_set (below_set (below_set (below_set (pw_below_drewN HB1.out n) (by omega)) (by omega)) (by omega)) (by omega)) (by omega)⟩

theorem step_off (t r q what : Int) (w : World) :
    Calls Try.prog 15 #[.agg #[.int .i64 t, .int .i64 r, .int .i64 3, .int .i64 q], .int .i64 what] w fun e w' =>
      e = .returned (if what = 6 then (if wrap64 (q + 1) = 128 then .agg #[.int .i64 0, .int .i64 0, .int .i64 1, .int .i64 0] else .agg #[.int .i64 t, .int .i64 r, .int .i64 3, .int .i64 (wrap64 (q + 1))]) else .agg #[.int .i64 t, .int .i64 r, .int .i64 3, .int .i64 q]) ∧ Below w.heap.size w w' := by
  have hu23 := Try.underlying23
  have HZ := Aside0.mk (show ((w.alloc (.cells #[.int .i64 t, .int .i64 r, .int .i64 3, .int .i64 q] 23)).alloc (.cells #[.int .i64 0, .int .i64 0, .int .i64 0, .int .i64 0] 23)).heap[w.heap.size + 1]? = some (.cells #[.int .i64 0, .int .i64 0, .int .i64 0, .int .i64 0] 23 (0, 0)) from
    by rw [show w.heap.size + 1 = (w.alloc (.cells #[.int .i64 t, .int .i64 r, .int .i64 3, .int .i64 q] 23)).heap.size by simp]; exact blk_new _ _)
  have HB0 := Aside0.mk (below_alloc (below_alloc (Below.refl _ w) (.cells #[.int .i64 t, .int .i64 r, .int .i64 3, .int .i64 q] 23)) (.cells #[.int .i64 0, .int .i64 0, .int .i64 0, .int .i64 0] 23))
  by_cases h6 : what = 6
  · subst h6
    rw [if_pos rfl]
    have hres : ∃ x0 x1 x2 x3 : Int, count_rested.f t r 3 q = some (x0, x1, x2, x3) ∧ (if wrap64 (q + 1) = 128 then (.agg #[.int .i64 0, .int .i64 0, .int .i64 1, .int .i64 0] : Value) else .agg #[.int .i64 t, .int .i64 r, .int .i64 3, .int .i64 (wrap64 (q + 1))]) = .agg #[.int .i64 x0, .int .i64 x1, .int .i64 x2, .int .i64 x3] := by
      unfold count_rested.f
      by_cases h : wrap64 (q + 1) = 128
      · simp [h, count_New.f]
      · simp [h]
    obtain ⟨x0, x1, x2, x3, hf, hx⟩ := hres
    rw [hx]
    have HF := Aside0.mk hf
    clear hx hf
    go_enter Try.func15, Try.ntmps15
    go_wp2_with (go_at_call 21; refine (count_rested.calls t r 3 q x0 x1 x2 x3 _ HF.out).mono ?_; rintro e w1 ⟨rfl, hb⟩; have HZ1 := Aside0.mk (blk_below HZ.out hb); have HB1 := Aside0.mk (HB0.out.trans (hb.mono (by simp; omega))); have z0 := (blk_cell HZ1.out 0).trans rfl; have z1 := (blk_cell HZ1.out 1).trans rfl; have z2 := (blk_cell HZ1.out 2).trans rfl; have z3 := (blk_cell HZ1.out 3).trans rfl; have g0 := blk_frozen HZ1.out 0; have g1 := blk_frozen HZ1.out 1; have g2 := blk_frozen HZ1.out 2; have g3 := blk_frozen HZ1.out 3; clear hb)
    refine bodyPost_ret (results_cell_row rfl _ _ (w.heap.size + 1) 23 #[.int .i64 x0, .int .i64 x1, .int .i64 x2, .int .i64 x3] (0, 0) _ rfl (blk_put (blk_put (blk_put (blk_put HZ1.out 0 (.int .i64 x0) rfl) 1 (.int .i64 x1) rfl) 2 (.int .i64 x2) rfl) 3 (.int .i64 x3) rfl) Try.underlying23 rfl (by kernel_rfl)) rfl ?_
    exact ⟨rfl, below_set (below_set (below_set (below_set HB1.out (by omega)) (by omega)) (by omega)) (by omega)⟩
  · have hb6 : (what == 6) = false := by simpa using h6
    have HZ2 := Aside0.mk (show ((w.alloc (.cells #[.int .i64 t, .int .i64 r, .int .i64 3, .int .i64 q] 23)).alloc (.cells #[.int .i64 t, .int .i64 r, .int .i64 3, .int .i64 q] 23)).heap[w.heap.size + 1]? = some (.cells #[.int .i64 t, .int .i64 r, .int .i64 3, .int .i64 q] 23 (0, 0)) from
      by rw [show w.heap.size + 1 = (w.alloc (.cells #[.int .i64 t, .int .i64 r, .int .i64 3, .int .i64 q] 23)).heap.size by simp]; exact blk_new _ _)
    rw [if_neg h6]
    clear h6
    go_enter Try.func15, Try.ntmps15
    go_wp2
    refine bodyPost_ret (results_cell_row rfl _ _ (w.heap.size + 1) 23 #[.int .i64 t, .int .i64 r, .int .i64 3, .int .i64 q] (0, 0) _ rfl HZ2.out Try.underlying23 rfl (by kernel_rfl)) rfl ?_
    exact ⟨rfl, below_alloc (below_alloc (Below.refl _ w) _) _⟩

theorem count_Step.calls (a0_0 : Int) (a0_1 : Int) (a0_2 : Int) (a0_3 : Int) (a1 : Int) (r1 : Int) (r2 : Int) (r3 : Int) (r4 : Int) (w : World) (h : count_Step.f a0_0 a0_1 a0_2 a0_3 a1 = some (r1, r2, r3, r4)) :
    Calls Try.prog 15 #[.agg #[.int .i64 a0_0, .int .i64 a0_1, .int .i64 a0_2, .int .i64 a0_3], .int .i64 a1] w fun e w' => e = .returned (.agg #[.int .i64 r1, .int .i64 r2, .int .i64 r3, .int .i64 r4]) ∧ Below w.heap.size w w' := by
  have hs : stepC a0_0 a0_1 a0_2 a0_3 a1 = (r1, r2, r3, r4) := by simpa [count_Step.f] using h
  clear h
  by_cases c : a0_2 = 3
  · subst c
    refine (step_off a0_0 a0_1 a0_3 a1 w).mono ?_
    rintro e w' ⟨rfl, hb⟩
    refine ⟨?_, hb⟩
    unfold stepC at hs
    rw [if_pos rfl] at hs
    by_cases h6 : a1 = 6
    · rw [if_pos h6] at hs ⊢
      by_cases h8 : wrap64 (a0_3 + 1) = 128
      · rw [if_pos h8] at hs ⊢; simp only [Prod.mk.injEq] at hs; obtain ⟨rfl, rfl, rfl, rfl⟩ := hs; rfl
      · rw [if_neg h8] at hs ⊢; simp only [Prod.mk.injEq] at hs; obtain ⟨rfl, rfl, rfl, rfl⟩ := hs; rfl
    · rw [if_neg h6] at hs ⊢; simp only [Prod.mk.injEq] at hs; obtain ⟨rfl, rfl, rfl, rfl⟩ := hs; rfl
  · have c0 : (a0_2 == 3) = false := by simpa using c
    have fin : ∀ t' r' : Int, stepN a0_0 a0_1 a1 = (t', r') → (if t' > 255 then (.agg #[.int .i64 256, .int .i64 0, .int .i64 3, .int .i64 0] : Value) else .agg #[.int .i64 t', .int .i64 r', .int .i64 (stOf t' r'), .int .i64 a0_3]) = .agg #[.int .i64 r1, .int .i64 r2, .int .i64 r3, .int .i64 r4] := by
      intro t' r' hn
      unfold stepC at hs
      rw [if_neg c, hn] at hs
      by_cases hT : t' > 255
      · rw [if_pos hT] at hs ⊢; simp only [Prod.mk.injEq] at hs; obtain ⟨rfl, rfl, rfl, rfl⟩ := hs; rfl
      · rw [if_neg hT] at hs ⊢; simp only [Prod.mk.injEq] at hs; obtain ⟨rfl, rfl, rfl, rfl⟩ := hs; rfl
    by_cases h1 : a1 = 1
    · subst h1
      refine (step_on 23 0 (fun _ => #[]) a0_0 a0_1 a0_2 a0_3 1 _ _ w c0 (enters_of Try.func23 (by kernel_rfl) rfl) (fun m => rfl) (fun W m g hb _ _ => sent_calls g a0_0 a0_1 a0_2 a0_3 W hb)).mono ?_
      rintro e w' ⟨rfl, hb⟩
      exact ⟨by rw [fin _ _ rfl], hb⟩
    by_cases h2 : a1 = 2
    · subst h2
      refine (step_on 24 1 (fun _ => #[]) a0_0 a0_1 a0_2 a0_3 2 _ _ w c0 (enters_of Try.func24 (by kernel_rfl) rfl) (fun m => rfl) (fun W m g hb _ _ => heard_calls g a0_0 a0_1 a0_2 a0_3 W hb)).mono ?_
      rintro e w' ⟨rfl, hb⟩
      exact ⟨by rw [fin _ _ rfl], hb⟩
    by_cases h3 : a1 = 3
    · subst h3
      refine (step_on 25 2 (fun _ => #[]) a0_0 a0_1 a0_2 a0_3 3 _ _ w c0 (enters_of Try.func25 (by kernel_rfl) rfl) (fun m => rfl) (fun W m g hb _ _ => bad_calls g a0_0 a0_1 a0_2 a0_3 W hb)).mono ?_
      rintro e w' ⟨rfl, hb⟩
      exact ⟨by rw [fin _ _ rfl], hb⟩
    by_cases h4 : a1 = 4
    · subst h4
      refine (step_on 27 3 (fun m => #[.pointer (some ⟨m + 1, 0, none⟩)]) a0_0 a0_1 a0_2 a0_3 4 _ _ w c0 (enters_of Try.func27 (by kernel_rfl) rfl) (fun m => rfl) (fun W m g hb hm1 _ => poor_calls g a0_0 a0_1 a0_2 a0_3 (m + 1) 1 W hb ((blk_cell hm1 0).trans rfl))).mono ?_
      rintro e w' ⟨rfl, hb⟩
      exact ⟨by rw [fin _ _ rfl], hb⟩
    by_cases h5 : a1 = 5
    · subst h5
      refine (step_on 27 4 (fun m => #[.pointer (some ⟨m + 2, 0, none⟩)]) a0_0 a0_1 a0_2 a0_3 5 _ _ w c0 (enters_of Try.func27 (by kernel_rfl) rfl) (fun m => rfl) (fun W m g hb _ hm2 => poor_calls g a0_0 a0_1 a0_2 a0_3 (m + 2) 8 W hb ((blk_cell hm2 0).trans rfl))).mono ?_
      rintro e w' ⟨rfl, hb⟩
      exact ⟨by rw [fin _ _ rfl], hb⟩
    refine (step_none a0_0 a0_1 a0_2 a0_3 a1 w c0 (fun m => ?_)).mono ?_
    · have e1 : (a1 == 1) = false := by simpa using h1
      have e2 : (a1 == 2) = false := by simpa using h2
      have e3 : (a1 == 3) = false := by simpa using h3
      have e4 : (a1 == 4) = false := by simpa using h4
      have e5 : (a1 == 5) = false := by simpa using h5
      simp [worksES, Instr.findNow, Instr.sameNow, e1, e2, e3, e4, e5]
    · rintro e w' ⟨rfl, hb⟩
      exact ⟨by rw [fin a0_0 a0_1 (by simp [stepN, h1, h2, h3, h4, h5])], hb⟩
end Go.Proofs.Ytlbhokkifdjlaaa.P
