import Derived.Test.YtihippjbbcpggaaJ1
/-
  Pages erased one by one, as far as the power goes (no program in sight).
-/
namespace Go.Proofs.YtihippjbbcpggaaFw
open Go Go.Proofs
set_option linter.unusedVariables false

def erasedN (f : Flash) (n : Nat) : Nat → Flash
  | 0 => powerF f n
  | i + 1 => (eraseF (erasedN f n i) i).1
def pageN (f : Flash) (n i j : Nat) : List Int := if j < i ∧ j < n then clean64 else if j = n ∧ n < i then tornP (f.pages.getD j []) else f.pages.getD j []
theorem pageN_clean {f : Flash} {n i j : Nat} (h1 : j < i) (h2 : j < n) : pageN f n i j = clean64 := if_pos ⟨h1, h2⟩
theorem pageN_cut {f : Flash} {n i : Nat} (h : n < i) : pageN f n i n = tornP (f.pages.getD n []) := by unfold pageN; rw [if_neg (by omega), if_pos ⟨rfl, h⟩]
theorem pageN_rest {f : Flash} {n i j : Nat} (h1 : i ≤ j ∨ n < j) : (i ≤ n ∨ j ≠ n) → pageN f n i j = f.pages.getD j [] := fun h2 => by unfold pageN; rw [if_neg (by omega), if_neg (by omega)]
structure InvN (f : Flash) (n i : Nat) (g : Flash) : Prop where
  fine : g.fine
  len : g.pages.length = f.pages.length
  left : g.left = ((n - i : Nat) : Int)
  down : g.down = decide (n < i)
  page : ∀ j, j < f.pages.length → g.pages.getD j [] = pageN f n i j
theorem getD_set_ne {α : Type} (l : List α) {i j : Nat} (h : i ≠ j) (x d : α) : (l.set i x).getD j d = l.getD j d := by
  rw [List.getD_eq_getElem?_getD, List.getElem?_set, if_neg h, ← List.getD_eq_getElem?_getD]
theorem getD_set_eq {α : Type} (l : List α) {i : Nat} (h : i < l.length) (x d : α) : (l.set i x).getD i d = x := by
  rw [List.getD_eq_getElem?_getD, List.getElem?_set, if_pos rfl, if_pos h]; rfl
theorem invN_step {f g : Flash} {n i : Nat} (h : InvN f n i g) (hi : i < f.pages.length) : InvN f n (i + 1) (eraseF g i).1 ∧ (eraseF g i).2 = if i < n then 0 else 250 := by
  have fe := fine_erase h.fine (i : Int)
  have hin : inF g i 0 0 = true := (inF_iff _ _ _ _).2 ⟨⟨by omega, by have := h.len; omega⟩, by omega, by omega, by omega⟩
  have hgi : i < g.pages.length := by have := h.len; omega
  by_cases c1 : n < i
  · have hd : g.down = true := by rw [h.down]; simpa using c1
    rw [erase_down hd, if_neg (by omega)]
    refine ⟨⟨h.fine, h.len, by rw [h.left]; omega, by rw [h.down]; simp; omega, fun j hj => ?_⟩, rfl⟩
    rw [h.page j hj]
    by_cases q1 : j < n
    · rw [pageN_clean (by omega) q1, pageN_clean (by omega) q1]
    · by_cases q3 : j = n
      · subst q3; rw [pageN_cut c1, pageN_cut (by omega)]
      · rw [pageN_rest (by omega) (by omega), pageN_rest (by omega) (by omega)]
  · have hd : g.down = false := by rw [h.down]; simpa using c1
    have hp := h.page i hi
    have hpi : pageN f n i i = f.pages.getD i [] := by unfold pageN; rw [if_neg (by omega), if_neg (by omega)]
    rw [hpi] at hp
    by_cases c2 : i = n
    · subst c2
      have hl : g.left = 0 := by rw [h.left]; omega
      have he : eraseF g i = ({ g with pages := g.pages.set i (tornP (g.pages.getD i [])), left := 0, down := true }, 250) := by
        unfold eraseF; rw [hd, hin, hl]; simp
      rw [he] at fe ⊢
      refine ⟨⟨fe, by simpa using h.len, by show (0 : Int) = _; omega, by simp, fun j hj => ?_⟩, by rw [if_neg (by omega)]⟩
      show (g.pages.set i (tornP (g.pages.getD i []))).getD j [] = _
      by_cases q : j = i
      · subst q
        rw [getD_set_eq _ hgi, hp]
        rw [pageN_cut (by omega)]
      · rw [getD_set_ne _ (fun e => q e.symm), h.page j hj]
        by_cases q1 : j < i
        · rw [pageN_clean q1 q1, pageN_clean (by omega) q1]
        · rw [pageN_rest (by omega) (by omega), pageN_rest (by omega) (by omega)]
    · have hl0 : g.left ≠ 0 := by rw [h.left]; omega
      have hdl : decL g.left = ((n - (i + 1) : Nat) : Int) := by unfold decL; rw [h.left, if_pos (by omega)]; omega
      have he : eraseF g i = ({ g with pages := g.pages.set i clean64, wear := g.wear.set i (min (g.wear.getD i 0 + 1) 1099511627776), left := decL g.left }, 0) := by
        unfold eraseF; rw [hd, hin]; simp [hl0]
      rw [he] at fe ⊢
      refine ⟨⟨fe, by simpa using h.len, hdl, by show g.down = _; rw [hd]; simp; omega, fun j hj => ?_⟩, by rw [if_pos (by omega)]⟩
      show (g.pages.set i clean64).getD j [] = _
      by_cases q : j = i
      · subst q
        rw [getD_set_eq _ hgi]
        rw [pageN_clean (by omega) (by omega)]
      · rw [getD_set_ne _ (fun e => q e.symm), h.page j hj]
        by_cases q1 : j < i
        · rw [pageN_clean q1 (by omega), pageN_clean (by omega) (by omega)]
        · rw [pageN_rest (by omega) (by omega), pageN_rest (by omega) (by omega)]
theorem invN_zero {f : Flash} (n : Nat) (h : f.fine) (hn : n ≤ 1000) : InvN f n 0 (powerF f n) :=
  ⟨fine_power h n (by omega) (by omega), rfl, rfl, by simp [powerF], fun j hj => by unfold pageN; rw [if_neg (by omega), if_neg (by omega)]; rfl⟩
theorem invN_all {f : Flash} (n : Nat) (h : f.fine) (hn : n ≤ 1000) : ∀ i, i ≤ f.pages.length → InvN f n i (erasedN f n i)
  | 0, _ => invN_zero n h hn
  | i + 1, hi => (invN_step (invN_all n h hn i (by omega)) (by omega)).1
theorem pageN_get {f : Flash} {n j k : Nat} (h : f.fine) (hj : j < f.pages.length) (hk : k < (pageN f n f.pages.length j).length) (hc : j < n ∨ j = n ∧ k < 32) : (pageN f n f.pages.length j)[k] = 255 := by
  have key : ∀ (l : List Int), l = pageN f n f.pages.length j → ∀ hk : k < l.length, l[k] = 255 := by
    intro l hl hk
    rcases hc with hc | ⟨rfl, hk2⟩
    · rw [pageN_clean hj hc] at hl
      subst hl
      simp only [clean64, List.getElem_replicate]
    · rw [pageN_cut hj] at hl
      unfold tornP at hl
      subst hl
      rw [List.getElem_append_left (by simp [clean64]; omega), List.getElem_take]
      simp only [clean64, List.getElem_replicate]
  exact key _ rfl hk
theorem pageN_torn {f : Flash} {n : Nat} (h : f.fine) (hn : n < f.pages.length) : (pageN f n f.pages.length n).drop 32 = (f.pages.getD n []).drop 32 := by
  unfold pageN
  rw [if_neg (by omega), if_pos ⟨rfl, hn⟩]
  unfold tornP
  rw [List.drop_append_of_le_length (by simp [clean64]), List.drop_of_length_le (by simp [clean64]), List.nil_append]
theorem pageN_behind {f : Flash} {n j : Nat} (hj : n < j) : pageN f n f.pages.length j = f.pages.getD j [] := by
  unfold pageN; rw [if_neg (by omega), if_neg (by omega)]
end Go.Proofs.YtihippjbbcpggaaFw

/-
  The law FlashCount: of pages that are erased one by one as many are as Left says.
-/
namespace Go.Proofs.YtihippjbbcpggaaFw
open Go Go.Proofs
set_option maxRecDepth 100000
set_option maxHeartbeats 4000000
set_option linter.unusedVariables false
set_option linter.unusedSimpArgs false

theorem lawFlashCount (f : Flash) (left : Int) (hf : f.wf) (hl : byte left) :
    FnS Try.prog 6 [.agg (encFlash f), .int .u8 left] [] (.bool true) [] := by
  refine fn_walk tabOk Try.func6 rfl (by decide +kernel) Try.ntmps6 Try.results6 (by simp) fun B hB => ?_
  try refine hK _ ?_
  repeat (first | refine awp_seq ?_ | refine awp_block ?_ | refine awp_skip ?_ | refine awp_scope ?_ | refine awp_label ?_)
  refine awp_region tabOk fun K hK => ?_
  simp -dsimp -implicitDefEqProofs only [encFlash, push_cast, ↓trAdd_f, ↓stOf_f, seval]
  try refine hK _ ?_
  repeat (first | refine awp_seq ?_ | refine awp_block ?_ | refine awp_skip ?_ | refine awp_scope ?_ | refine awp_label ?_)
  refine awp_region tabOk fun K hK => ?_
  simp -dsimp -implicitDefEqProofs only [push_cast, ↓trAdd_f, ↓stOf_f, seval]
  refine callK_simple head_ok ?_ rfl fun _ => ?_
  · simp -dsimp -implicitDefEqProofs only [push_cast, List.mem_append, List.mem_cons, List.mem_singleton, forall_eq_or_imp, forall_eq, ↓trAdd_f, ↓stOf_f, seval]
  simp -dsimp -implicitDefEqProofs only [push_cast, ↓trAdd_f, ↓stOf_f, seval]
  refine hK _ ?_
  try refine hK _ ?_
  repeat (first | refine awp_seq ?_ | refine awp_block ?_ | refine awp_skip ?_ | refine awp_scope ?_ | refine awp_label ?_)
  refine awp_region tabOk fun K hK => ?_
  simp -dsimp -implicitDefEqProofs only [push_cast, ↓trAdd_f, ↓stOf_f, seval]
  refine callK_simple (great_ok f) ?_ rfl fun _ => ?_
  · simp -dsimp -implicitDefEqProofs only [encFlash, push_cast, List.mem_append, List.mem_cons, List.mem_singleton, forall_eq_or_imp, forall_eq, ↓trAdd_f, ↓stOf_f, seval]
  cases c1 : greatF f
  rotate_left
  · simp -dsimp -implicitDefEqProofs only [push_cast, ↓trAdd_f, ↓stOf_f, seval]
    refine hK _ ?_
    try refine hK _ ?_
    repeat (first | refine awp_seq ?_ | refine awp_block ?_ | refine awp_skip ?_ | refine awp_scope ?_ | refine awp_label ?_)
    refine awp_cond (b := true) (by simp -dsimp -implicitDefEqProofs only [push_cast, ↓trAdd_f, ↓stOf_f, seval]) (fun h => ?_) (fun h => ?_)
    rotate_left
    · cases h
    try refine hK _ ?_
    repeat (first | refine awp_seq ?_ | refine awp_block ?_ | refine awp_skip ?_ | refine awp_scope ?_ | refine awp_label ?_)
    refine awp_region tabOk fun K hK => ?_
    simp -dsimp -implicitDefEqProofs only [push_cast, ↓trAdd_f, ↓stOf_f, seval]
    refine hK _ (awp_ret ?_)
    simp -dsimp -implicitDefEqProofs only [push_cast, List.mem_append, List.mem_cons, List.mem_singleton, forall_eq_or_imp, forall_eq, ↓trAdd_f, ↓stOf_f, seval]
  obtain ⟨f1, f2, f3⟩ := great_no c1
  simp -dsimp -implicitDefEqProofs only [push_cast, ↓trAdd_f, ↓stOf_f, seval]
  refine callK_simple (right_ok f (by omega) (by omega)) ?_ rfl fun _ => ?_
  · simp -dsimp -implicitDefEqProofs only [encFlash, push_cast, List.mem_append, List.mem_cons, List.mem_singleton, forall_eq_or_imp, forall_eq, ↓trAdd_f, ↓stOf_f, seval]
  cases hr : rightF f
  · simp -dsimp -implicitDefEqProofs only [push_cast, ↓trAdd_f, ↓stOf_f, seval]
    refine hK _ ?_
    try refine hK _ ?_
    repeat (first | refine awp_seq ?_ | refine awp_block ?_ | refine awp_skip ?_ | refine awp_scope ?_ | refine awp_label ?_)
    refine awp_cond (b := true) (by simp -dsimp -implicitDefEqProofs only [push_cast, ↓trAdd_f, ↓stOf_f, seval]) (fun h => ?_) (fun h => ?_)
    rotate_left
    · cases h
    try refine hK _ ?_
    repeat (first | refine awp_seq ?_ | refine awp_block ?_ | refine awp_skip ?_ | refine awp_scope ?_ | refine awp_label ?_)
    refine awp_region tabOk fun K hK => ?_
    simp -dsimp -implicitDefEqProofs only [push_cast, ↓trAdd_f, ↓stOf_f, seval]
    refine hK _ (awp_ret ?_)
    simp -dsimp -implicitDefEqProofs only [push_cast, List.mem_append, List.mem_cons, List.mem_singleton, forall_eq_or_imp, forall_eq, ↓trAdd_f, ↓stOf_f, seval]
  simp -dsimp -implicitDefEqProofs only [push_cast, ↓trAdd_f, ↓stOf_f, seval]
  refine hK _ ?_
  try refine hK _ ?_
  repeat (first | refine awp_seq ?_ | refine awp_block ?_ | refine awp_skip ?_ | refine awp_scope ?_ | refine awp_label ?_)
  refine awp_cond (b := false) (by simp -dsimp -implicitDefEqProofs only [push_cast, ↓trAdd_f, ↓stOf_f, seval]) (fun h => ?_) (fun h => ?_)
  · cases h
  have ff := fine_of hf hr
  refine awp_skip ?_
  obtain ⟨M, hM⟩ : ∃ M, M = f.pages.length + 3 := ⟨_, rfl⟩
  obtain ⟨n, hn1, hn⟩ := u8_mod (n := M) hl (by omega)
  have hw1 : IntKind.i64.wrap left = left := wrap_i64 (by have := hl.1; omega) (by have := hl.2; omega)
  have hw2 : IntKind.i64.wrap ((f.pages.length : Int) + 3) = (M : Int) := by rw [wrap_i64 (by omega) (by omega)]; omega
  have inv := invN_all n ff (by omega)
  try refine hK _ ?_
  repeat (first | refine awp_seq ?_ | refine awp_block ?_ | refine awp_skip ?_ | refine awp_scope ?_ | refine awp_label ?_)
  refine awp_region tabOk fun K hK => ?_
  simp -dsimp -implicitDefEqProofs only [hw1, hw2, hn1, push_cast, ↓trAdd_f, ↓stOf_f, seval]
  refine ⟨by omega, hK _ ?_⟩
  try refine hK _ ?_
  repeat (first | refine awp_seq ?_ | refine awp_block ?_ | refine awp_skip ?_ | refine awp_scope ?_ | refine awp_label ?_)
  refine awp_region tabOk fun K hK => ?_
  simp -dsimp -implicitDefEqProofs only [push_cast, ↓trAdd_f, ↓stOf_f, seval]
  refine callK_simple (power_ok f n) ?_ rfl fun _ => ?_
  · simp -dsimp -implicitDefEqProofs only [encFlash, push_cast, List.mem_append, List.mem_cons, List.mem_singleton, forall_eq_or_imp, forall_eq, ↓trAdd_f, ↓stOf_f, seval]
  simp -dsimp -implicitDefEqProofs only [encFlash, push_cast, ↓trAdd_f, ↓stOf_f, seval]
  refine hK _ ?_
  try refine hK _ ?_
  repeat (first | refine awp_seq ?_ | refine awp_block ?_ | refine awp_skip ?_ | refine awp_scope ?_ | refine awp_label ?_)
  refine awp_region tabOk fun K hK => ?_
  simp -dsimp -implicitDefEqProofs only [push_cast, ↓trAdd_f, ↓stOf_f, seval]
  refine hK _ (awp_block ?_)
  refine awp_for (fun i : Nat => { sl := [(2, .ptr 0 0), (5, .bool true), (6, .int .i64 n), (7, .ptr 176 0), (8, .int .i64 i)], st := [(0, .box (encFlash f)), (176, .box (encFlash (erasedN f n i)))], nx := 200, n := 159 }) (fun i => i ≤ f.pages.length) (fun i => f.pages.length - i) 0 (Nat.zero_le _) ?_ fun i hi => ?_
  · have e : erasedN f n 0 = powerF f n := rfl
    refine le_intro hB [] (by simp) (fun b _ => rfl) rfl ?_ ?_ rfl <;> simp -dsimp -implicitDefEqProofs only [encFlash, e, push_cast, ↓trAdd_f, ↓stOf_f, seval]
  obtain ⟨st1, st2⟩ : (i < f.pages.length → InvN f n (i + 1) (eraseF (erasedN f n i) i).1) ∧ (i < f.pages.length → (eraseF (erasedN f n i) i).2 = if i < n then 0 else 250) := ⟨fun h => (invN_step (inv i hi) h).1, fun h => (invN_step (inv i hi) h).2⟩
  have iv := inv i hi
  have hG : (eraseF (erasedN f n i) i).1 = erasedN f n (i + 1) := rfl
  try refine hK _ ?_
  repeat (first | refine awp_seq ?_ | refine awp_block ?_ | refine awp_skip ?_ | refine awp_scope ?_ | refine awp_label ?_)
  refine awp_region tabOk fun K hK => ?_
  simp -dsimp -implicitDefEqProofs only [encFlash, push_cast, ↓trAdd_f, ↓stOf_f, seval]
  try refine hK _ ?_
  repeat (first | refine awp_seq ?_ | refine awp_block ?_ | refine awp_skip ?_ | refine awp_scope ?_ | refine awp_label ?_)
  refine awp_cond (b := decide ((i : Int) < f.pages.length)) (by simp -dsimp -implicitDefEqProofs only [push_cast, ↓trAdd_f, ↓stOf_f, seval]) (fun h => ?_) (fun h => ?_)
  · have hlt : i < f.pages.length := by simpa using h
    have he := st2 hlt
    refine awp_skip ?_
    try refine hK _ ?_
    repeat (first | refine awp_seq ?_ | refine awp_block ?_ | refine awp_skip ?_ | refine awp_scope ?_ | refine awp_label ?_)
    refine awp_region tabOk fun K hK => ?_
    simp -dsimp -implicitDefEqProofs only [encFlash, push_cast, ↓trAdd_f, ↓stOf_f, seval]
    refine callK_simple (erase_ok (erasedN f n i) i iv.fine.good iv.fine.lim) ?_ rfl fun _ => ?_
    · simp -dsimp -implicitDefEqProofs only [encFlash, push_cast, List.mem_append, List.mem_cons, List.mem_singleton, forall_eq_or_imp, forall_eq, ↓trAdd_f, ↓stOf_f, seval]
    rw [hG]
    simp -dsimp -implicitDefEqProofs only [encFlash, push_cast, ↓trAdd_f, ↓stOf_f, seval]
    refine hK _ ?_
    try refine hK _ ?_
    repeat (first | refine awp_seq ?_ | refine awp_block ?_ | refine awp_skip ?_ | refine awp_scope ?_ | refine awp_label ?_)
    refine awp_join ({ sl := [(2, .ptr 0 0), (5, .bool true), (6, .int .i64 n), (7, .ptr 176 0), (8, .int .i64 i), (9, .ptr 288 0), (58, .bool false)], st := [(0, .box (encFlash f)), (176, .box (encFlash (erasedN f n i))), (288, .box (encFlash (erasedN f n (i + 1))))], nx := 400, n := 159 }) ?_ (fun _ hl h => awp_le hl h) ?_
    · by_cases c2 : i < n
      · rw [if_pos c2] at he
        have c3 : decide ((i : Int) < n) = true := by simpa using c2
        try refine hK _ ?_
        repeat (first | refine awp_seq ?_ | refine awp_block ?_ | refine awp_skip ?_ | refine awp_scope ?_ | refine awp_label ?_)
        refine awp_region tabOk fun K hK => ?_
        simp -dsimp -implicitDefEqProofs only [he, c3, push_cast, ↓trAdd_f, ↓stOf_f, seval]
        refine hK _ ?_

        refine le_intro hB [] (by simp) (fun b _ => rfl) rfl ?_ ?_ rfl <;> simp -dsimp -implicitDefEqProofs only [encFlash, push_cast, ↓trAdd_f, ↓stOf_f, seval]
      · rw [if_neg c2] at he
        have c3 : decide ((i : Int) < n) = false := by simpa using c2
        try refine hK _ ?_
        repeat (first | refine awp_seq ?_ | refine awp_block ?_ | refine awp_skip ?_ | refine awp_scope ?_ | refine awp_label ?_)
        refine awp_region tabOk fun K hK => ?_
        simp -dsimp -implicitDefEqProofs only [he, c3, push_cast, ↓trAdd_f, ↓stOf_f, seval]
        refine hK _ ?_
        refine le_intro hB [] (by simp) (fun b _ => rfl) rfl ?_ ?_ rfl <;> simp -dsimp -implicitDefEqProofs only [encFlash, push_cast, ↓trAdd_f, ↓stOf_f, seval]
    try refine hK _ ?_
    repeat (first | refine awp_seq ?_ | refine awp_block ?_ | refine awp_skip ?_ | refine awp_scope ?_ | refine awp_label ?_)
    refine awp_cond (b := false) (by simp -dsimp -implicitDefEqProofs only [push_cast, ↓trAdd_f, ↓stOf_f, seval]) (fun h => ?_) (fun h => ?_)
    · cases h
    refine awp_skip ?_
    try refine hK _ ?_
    repeat (first | refine awp_seq ?_ | refine awp_block ?_ | refine awp_skip ?_ | refine awp_scope ?_ | refine awp_label ?_)
    refine awp_region tabOk fun K hK => ?_
    simp -dsimp -implicitDefEqProofs only [encFlash, push_cast, ↓trAdd_f, ↓stOf_f, seval]
    refine hK _ ?_
    try refine hK _ ?_
    repeat (first | refine awp_seq ?_ | refine awp_block ?_ | refine awp_skip ?_ | refine awp_scope ?_ | refine awp_label ?_)
    refine awp_region tabOk fun K hK => ?_
    simp -dsimp -implicitDefEqProofs only [push_cast, ↓trAdd_f, ↓stOf_f, seval]
    try simp (disch := omega) only [wrap_i64, wrap_u8, wrap_u16, wrap_u32]
    refine hK _ ⟨i + 1, hlt, by omega, ?_⟩
    refine le_intro hB [] (by simp) (fun b _ => rfl) rfl ?_ ?_ rfl <;> simp -dsimp -implicitDefEqProofs only [encFlash, push_cast, ↓trAdd_f, ↓stOf_f, seval]
  have hie : i = f.pages.length := by simp at h; omega
  subst hie
  obtain ⟨g, eg⟩ : ∃ g, g = erasedN f n f.pages.length := ⟨_, rfl⟩
  simp only [← eg] at iv ⊢
  have gl := iv.len
  have gd := iv.down
  have bq : ∀ x : Int, (x != x) = false := fun x => by simp
  have bb : ∀ x : Bool, (x != x) = false := fun x => by simp
  have gpd : ∀ (j : Nat) (hj : j < f.pages.length) (hj2 : j < g.pages.length), g.pages[j] = pageN f n f.pages.length j := fun j hj hj2 => by
    have := iv.page j hj
    rwa [List.getD_eq_getElem?_getD, List.getElem?_eq_getElem hj2] at this
  have fpd : ∀ (j : Nat) (hj : j < f.pages.length), f.pages.getD j [] = f.pages[j] := fun j hj => by simp [List.getD, hj]
  refine awp_exit rfl ?_
  have cdn : decide ((n : Int) < f.pages.length) = decide (n < f.pages.length) := by simp
  try refine hK _ ?_
  repeat (first | refine awp_seq ?_ | refine awp_block ?_ | refine awp_skip ?_ | refine awp_scope ?_ | refine awp_label ?_)
  refine awp_region tabOk fun K hK => ?_
  simp -dsimp -implicitDefEqProofs only [encFlash, gl, bq, gd, cdn, bb, push_cast, ↓trAdd_f, ↓stOf_f, seval]
  refine hK _ ?_
  try refine hK _ ?_
  repeat (first | refine awp_seq ?_ | refine awp_block ?_ | refine awp_skip ?_ | refine awp_scope ?_ | refine awp_label ?_)
  refine awp_cond (b := false) (by simp -dsimp -implicitDefEqProofs only [push_cast, ↓trAdd_f, ↓stOf_f, seval]) (fun h => ?_) (fun h => ?_)
  · cases h
  refine awp_skip ?_
  try refine hK _ ?_
  repeat (first | refine awp_seq ?_ | refine awp_block ?_ | refine awp_skip ?_ | refine awp_scope ?_ | refine awp_label ?_)
  refine awp_region tabOk fun K hK => ?_
  simp -dsimp -implicitDefEqProofs only [push_cast, ↓trAdd_f, ↓stOf_f, seval]
  refine hK _ (awp_block ?_)
  refine awp_for (fun j : Nat => { sl := [(2, .ptr 0 0), (5, .bool true), (6, .int .i64 n), (7, .ptr 176 0), (11, .int .i64 j)], st := [(0, .box (encFlash f)), (176, .box (encFlash g))], nx := 200, n := 159 }) (fun j => j ≤ f.pages.length) (fun j => f.pages.length - j) 0 (Nat.zero_le _) ?_ fun j hj => ?_
  · refine le_intro hB [] (by simp) (fun b _ => rfl) rfl ?_ ?_ rfl <;> simp -dsimp -implicitDefEqProofs only [encFlash, gd, push_cast, ↓trAdd_f, ↓stOf_f, seval]
  try refine hK _ ?_
  repeat (first | refine awp_seq ?_ | refine awp_block ?_ | refine awp_skip ?_ | refine awp_scope ?_ | refine awp_label ?_)
  refine awp_region tabOk fun K hK => ?_
  simp -dsimp -implicitDefEqProofs only [encFlash, push_cast, ↓trAdd_f, ↓stOf_f, seval]
  try refine hK _ ?_
  repeat (first | refine awp_seq ?_ | refine awp_block ?_ | refine awp_skip ?_ | refine awp_scope ?_ | refine awp_label ?_)
  refine awp_cond (b := decide ((j : Int) < f.pages.length)) (by simp -dsimp -implicitDefEqProofs only [push_cast, ↓trAdd_f, ↓stOf_f, seval]) (fun h => ?_) (fun h => ?_)
  · have hlt : j < f.pages.length := by simpa using h
    have hltg : j < g.pages.length := by omega
    have g64 := iv.fine.good.block _ (List.getElem_mem hltg)
    have f64 := ff.good.block _ (List.getElem_mem hlt)
    have gby := iv.fine.bytes _ (List.getElem_mem hltg)
    have fby := ff.bytes _ (List.getElem_mem hlt)
    have hgp := gpd j hlt hltg
    refine awp_skip ?_
    try refine hK _ ?_
    repeat (first | refine awp_seq ?_ | refine awp_block ?_ | refine awp_skip ?_ | refine awp_scope ?_ | refine awp_label ?_)
    refine awp_join ({ sl := [(2, .ptr 0 0), (5, .bool true), (6, .int .i64 n), (7, .ptr 176 0), (11, .int .i64 j), (130, .bool false)], st := [(0, .box (encFlash f)), (176, .box (encFlash g))], nx := 200, n := 159 }) ?_ (fun _ hl h => awp_le hl h) ?_
    · try refine hK _ ?_
      repeat (first | refine awp_seq ?_ | refine awp_block ?_ | refine awp_skip ?_ | refine awp_scope ?_ | refine awp_label ?_)
      refine awp_draw tabOk (by kernel_rfl) (by kernel_rfl) fun K hK C hC => ?_
      simp -dsimp -implicitDefEqProofs only [encFlash, hlt, hltg, gl, getD_map, encP, g64, push_cast, ↓trAdd_f, ↓stOf_f, seval]
      cases c3 : decide ((n : Int) < j)
      rotate_left
      · have hnj : n < j := by simpa using c3
        have e5 : g.pages[j] = f.pages[j] := by rw [hgp, pageN_behind hnj, fpd j hlt]
        have c4 : ((j : Int) == n) = false := by simp; omega
        simp -dsimp -implicitDefEqProofs only [hlt, hltg, gl, getD_map, encP, push_cast, ↓trAdd_f, ↓stOf_f, seval]
        refine ⟨⟨by omega, by omega⟩, ⟨by omega, by omega⟩, ⟨by omega, by omega⟩, ?_⟩
        refine callK_simple (sameBytes_ok false false g.pages[j] f.pages[j] gby fby) ?_ rfl fun _ => ?_
        · simp -dsimp -implicitDefEqProofs only [push_cast, List.mem_append, List.mem_cons, List.mem_singleton, forall_eq_or_imp, forall_eq, ↓trAdd_f, ↓stOf_f, seval]
        rw [decide_eq_true e5]
        simp -dsimp -implicitDefEqProofs only [c4, push_cast, ↓trAdd_f, ↓stOf_f, seval]
        refine ⟨hC _ (by kernel_rfl), hK _ ?_⟩
        refine le_intro hB [] (by simp) (fun b _ => rfl) rfl ?_ ?_ rfl <;> simp -dsimp -implicitDefEqProofs only [encFlash, push_cast, ↓trAdd_f, ↓stOf_f, seval]
      · cases c4 : ((j : Int) == n)
        · simp -dsimp -implicitDefEqProofs only [c4, push_cast, ↓trAdd_f, ↓stOf_f, seval]
          refine ⟨⟨by omega, by omega⟩, hC _ (by kernel_rfl), hK _ ?_⟩
          refine le_intro hB [] (by simp) (fun b _ => rfl) rfl ?_ ?_ rfl <;> simp -dsimp -implicitDefEqProofs only [encFlash, push_cast, ↓trAdd_f, ↓stOf_f, seval]
        · have hjn : j = n := by simp at c4; omega
          have e5 : g.pages[j].drop 32 = f.pages[j].drop 32 := by rw [hgp]; subst hjn; rw [pageN_torn ff hlt, fpd j hlt]
          have hs1 : List.take 32 (List.drop 32 (g.pages[j].map encB)) = (g.pages[j].drop 32).map encB := by rw [← List.map_drop, ← List.map_take, List.take_of_length_le (by simp; omega)]
          have hs2 : List.take 32 (List.drop 32 (f.pages[j].map encB)) = (f.pages[j].drop 32).map encB := by rw [← List.map_drop, ← List.map_take, List.take_of_length_le (by simp; omega)]
          simp -dsimp -implicitDefEqProofs only [hlt, hltg, gl, getD_map, encP, c4, g64, f64, hs1, hs2, push_cast, ↓trAdd_f, ↓stOf_f, seval]
          refine ⟨⟨by omega, by omega⟩, ⟨by omega, by omega⟩, ⟨by omega, by omega⟩, ?_⟩
          refine callK_simple (sameBytes_ok false false (g.pages[j].drop 32) (f.pages[j].drop 32) (fun x hx => gby x (List.mem_of_mem_drop hx)) (fun x hx => fby x (List.mem_of_mem_drop hx))) ?_ rfl fun _ => ?_
          · simp -dsimp -implicitDefEqProofs only [push_cast, List.mem_append, List.mem_cons, List.mem_singleton, forall_eq_or_imp, forall_eq, ↓trAdd_f, ↓stOf_f, seval]
          rw [decide_eq_true e5]
          simp -dsimp -implicitDefEqProofs only [c4, push_cast, ↓trAdd_f, ↓stOf_f, seval]
          refine ⟨hC _ (by kernel_rfl), hK _ ?_⟩
          refine le_intro hB [] (by simp) (fun b _ => rfl) rfl ?_ ?_ rfl <;> simp -dsimp -implicitDefEqProofs only [encFlash, push_cast, ↓trAdd_f, ↓stOf_f, seval]
    try refine hK _ ?_
    repeat (first | refine awp_seq ?_ | refine awp_block ?_ | refine awp_skip ?_ | refine awp_scope ?_ | refine awp_label ?_)
    refine awp_cond (b := false) (by simp -dsimp -implicitDefEqProofs only [push_cast, ↓trAdd_f, ↓stOf_f, seval]) (fun h => ?_) (fun h => ?_)
    · cases h
    refine awp_skip ?_
    try refine hK _ ?_
    repeat (first | refine awp_seq ?_ | refine awp_block ?_ | refine awp_skip ?_ | refine awp_scope ?_ | refine awp_label ?_)
    refine awp_region tabOk fun K hK => ?_
    simp -dsimp -implicitDefEqProofs only [push_cast, ↓trAdd_f, ↓stOf_f, seval]
    refine hK _ (awp_block ?_)
    refine awp_for (fun k : Nat => { sl := [(2, .ptr 0 0), (5, .bool true), (6, .int .i64 n), (7, .ptr 176 0), (11, .int .i64 j), (12, .int .i64 k)], st := [(0, .box (encFlash f)), (176, .box (encFlash g))], nx := 200, n := 159 }) (fun k => k ≤ 64) (fun k => 64 - k) 0 (Nat.zero_le _) ?_ fun k hk => ?_
    · refine le_intro hB [] (by simp) (fun b _ => rfl) rfl ?_ ?_ rfl <;> simp -dsimp -implicitDefEqProofs only [encFlash, push_cast, ↓trAdd_f, ↓stOf_f, seval]
    try refine hK _ ?_
    repeat (first | refine awp_seq ?_ | refine awp_block ?_ | refine awp_skip ?_ | refine awp_scope ?_ | refine awp_label ?_)
    refine awp_region tabOk fun K hK => ?_
    simp -dsimp -implicitDefEqProofs only [push_cast, ↓trAdd_f, ↓stOf_f, seval]
    try refine hK _ ?_
    repeat (first | refine awp_seq ?_ | refine awp_block ?_ | refine awp_skip ?_ | refine awp_scope ?_ | refine awp_label ?_)
    refine awp_cond (b := decide ((k : Int) < 64)) (by simp -dsimp -implicitDefEqProofs only [push_cast, ↓trAdd_f, ↓stOf_f, seval]) (fun h => ?_) (fun h => ?_)
    · have hk64 : k < 64 := by simp at h; omega
      have hkl : k < g.pages[j].length := by omega
      refine awp_skip ?_
      try refine hK _ ?_
      repeat (first | refine awp_seq ?_ | refine awp_block ?_ | refine awp_skip ?_ | refine awp_scope ?_ | refine awp_label ?_)
      refine awp_join ({ sl := [(2, .ptr 0 0), (5, .bool true), (6, .int .i64 n), (7, .ptr 176 0), (11, .int .i64 j), (12, .int .i64 k), (157, .bool false)], st := [(0, .box (encFlash f)), (176, .box (encFlash g))], nx := 200, n := 159 }) ?_ (fun _ hl h => awp_le hl h) ?_
      · try refine hK _ ?_
        repeat (first | refine awp_seq ?_ | refine awp_block ?_ | refine awp_skip ?_ | refine awp_scope ?_ | refine awp_label ?_)
        refine awp_region tabOk fun K hK => ?_
        simp -dsimp -implicitDefEqProofs only [encFlash, hlt, hltg, gl, getD_map, encP, encB, hkl, hk64, g64, push_cast, ↓trAdd_f, ↓stOf_f, seval]
        refine ⟨⟨by omega, by omega⟩, ⟨by omega, by omega⟩, ?_⟩
        cases c5 : (g.pages[j][k] != 255)
        · simp -dsimp -implicitDefEqProofs only [c5, push_cast, ↓trAdd_f, ↓stOf_f, seval]
          refine hK _ ?_
          refine le_intro hB [] (by simp) (fun b _ => rfl) rfl ?_ ?_ rfl <;> simp -dsimp -implicitDefEqProofs only [encFlash, push_cast, ↓trAdd_f, ↓stOf_f, seval]
        · have hne : g.pages[j][k] ≠ 255 := by simpa using c5
          have hno : ¬ (j < n ∨ j = n ∧ k < 32) := fun hc => hne (by
            have e : ∀ (l : List Int), l = pageN f n f.pages.length j → ∀ hk : k < l.length, l[k] = 255 := fun l hl hk => by subst hl; exact pageN_get ff hlt hk hc
            exact e _ hgp hkl)
          have c6 : decide ((j : Int) < n) = false := by simp; omega
          cases c7 : ((j : Int) == n)
          · simp -dsimp -implicitDefEqProofs only [c5, c6, c7, push_cast, ↓trAdd_f, ↓stOf_f, seval]
            refine hK _ ?_
            refine le_intro hB [] (by simp) (fun b _ => rfl) rfl ?_ ?_ rfl <;> simp -dsimp -implicitDefEqProofs only [encFlash, push_cast, ↓trAdd_f, ↓stOf_f, seval]
          · have c8 : decide ((k : Int) < 32) = false := by simp at c7 ⊢; omega
            simp -dsimp -implicitDefEqProofs only [c5, c6, c7, c8, push_cast, ↓trAdd_f, ↓stOf_f, seval]
            refine hK _ ?_
            refine le_intro hB [] (by simp) (fun b _ => rfl) rfl ?_ ?_ rfl <;> simp -dsimp -implicitDefEqProofs only [encFlash, push_cast, ↓trAdd_f, ↓stOf_f, seval]
      try refine hK _ ?_
      repeat (first | refine awp_seq ?_ | refine awp_block ?_ | refine awp_skip ?_ | refine awp_scope ?_ | refine awp_label ?_)
      refine awp_cond (b := false) (by simp -dsimp -implicitDefEqProofs only [push_cast, ↓trAdd_f, ↓stOf_f, seval]) (fun h => ?_) (fun h => ?_)
      · cases h
      refine awp_skip ?_
      try refine hK _ ?_
      repeat (first | refine awp_seq ?_ | refine awp_block ?_ | refine awp_skip ?_ | refine awp_scope ?_ | refine awp_label ?_)
      refine awp_region tabOk fun K hK => ?_
      simp -dsimp -implicitDefEqProofs only [push_cast, ↓trAdd_f, ↓stOf_f, seval]
      try simp (disch := omega) only [wrap_i64, wrap_u8, wrap_u16, wrap_u32]
      refine hK _ ⟨k + 1, hk64, by omega, ?_⟩
      refine le_intro hB [] (by simp) (fun b _ => rfl) rfl ?_ ?_ rfl <;> simp -dsimp -implicitDefEqProofs only [encFlash, push_cast, ↓trAdd_f, ↓stOf_f, seval]
    refine awp_exit rfl ?_
    try refine hK _ ?_
    repeat (first | refine awp_seq ?_ | refine awp_block ?_ | refine awp_skip ?_ | refine awp_scope ?_ | refine awp_label ?_)
    refine awp_region tabOk fun K hK => ?_
    simp -dsimp -implicitDefEqProofs only [push_cast, ↓trAdd_f, ↓stOf_f, seval]
    try simp (disch := omega) only [wrap_i64, wrap_u8, wrap_u16, wrap_u32]
    refine hK _ ⟨j + 1, hlt, by omega, ?_⟩
    refine le_intro hB [] (by simp) (fun b _ => rfl) rfl ?_ ?_ rfl <;> simp -dsimp -implicitDefEqProofs only [encFlash, push_cast, ↓trAdd_f, ↓stOf_f, seval]
  refine awp_exit rfl ?_
  try refine hK _ ?_
  repeat (first | refine awp_seq ?_ | refine awp_block ?_ | refine awp_skip ?_ | refine awp_scope ?_ | refine awp_label ?_)
  refine awp_region tabOk fun K hK => ?_
  simp -dsimp -implicitDefEqProofs only [push_cast, ↓trAdd_f, ↓stOf_f, seval]
  refine hK _ (awp_ret ?_)
  simp -dsimp -implicitDefEqProofs only [push_cast, List.mem_append, List.mem_cons, List.mem_singleton, forall_eq_or_imp, forall_eq, ↓trAdd_f, ↓stOf_f, seval]
end Go.Proofs.YtihippjbbcpggaaFw
