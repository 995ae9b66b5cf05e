import Derived.Test.YtoifmpiikopelaaDoorJ0
import Derived.Lib.MakeNoZero
/-
  Walks: Great, the document's Right, both Sames.
-/
namespace Go.Proofs.YtoifmpiikopelaaDoorFw
open Go Go.Proofs
set_option maxRecDepth 100000
set_option maxHeartbeats 4000000
set_option linter.unusedVariables false
set_option linter.unusedSimpArgs false

def Flash.bytes (f : Flash) : Prop := ∀ p ∈ f.pages, ∀ x ∈ p, byte x
def sameF (f g : Flash) : Bool := decide (f.pages = g.pages) && (decide (f.wear = g.wear) && ((f.left == g.left) && (f.down == g.down)))
theorem pages_len_ne {α : Type} {l m : List α} (h : (l.length : Int) ≠ m.length) : l ≠ m := fun e => h (by rw [e])
theorem equalPages_ok (ps qs : List (List Int)) (hp : ∀ p ∈ ps, ∀ x ∈ p, byte x) (hq : ∀ p ∈ qs, ∀ x ∈ p, byte x) (hl : ps.length ≤ 2 ^ 40) :
    FnS Tryd.prog 51 [.sl false 1 (ps.map encP), .sl false 1 (qs.map encP), .fn (.func 52) [] []] [] (.bool (decide (ps = qs))) [] := by
  refine fn_walk tabOk Tryd.func51 rfl (by decide +kernel) Tryd.ntmps51 Tryd.results51 (by simp) fun B hB => ?_
  try refine hK _ ?_
  repeat (first | refine awp_seq ?_ | refine awp_block ?_ | refine awp_skip ?_ | refine awp_scope ?_ | refine awp_label ?_)
  refine awp_region tabOk fun K hK => ?_
  simp -dsimp -implicitDefEqProofs only [push_cast, ↓trAdd_f, ↓stOf_f, seval]
  try refine hK _ ?_
  repeat (first | refine awp_seq ?_ | refine awp_block ?_ | refine awp_skip ?_ | refine awp_scope ?_ | refine awp_label ?_)
  refine awp_region tabOk fun K hK => ?_
  simp -dsimp -implicitDefEqProofs only [push_cast, ↓trAdd_f, ↓stOf_f, seval]
  try refine hK _ ?_
  repeat (first | refine awp_seq ?_ | refine awp_block ?_ | refine awp_skip ?_ | refine awp_scope ?_ | refine awp_label ?_)
  refine awp_cond (b := (ps.length : Int) != qs.length) (by simp -dsimp -implicitDefEqProofs only [push_cast, ↓trAdd_f, ↓stOf_f, seval]) (fun h => ?_) (fun h => ?_)
  · try refine hK _ ?_
    repeat (first | refine awp_seq ?_ | refine awp_block ?_ | refine awp_skip ?_ | refine awp_scope ?_ | refine awp_label ?_)
    refine awp_region tabOk fun K hK => ?_
    simp -dsimp -implicitDefEqProofs only [push_cast, ↓trAdd_f, ↓stOf_f, seval]
    refine hK _ (awp_ret ?_)
    have : ps ≠ qs := pages_len_ne (by simpa using h)
    simp -dsimp -implicitDefEqProofs only [this, decide_false, push_cast, List.mem_append, List.mem_cons, List.mem_singleton, forall_eq_or_imp, forall_eq, ↓trAdd_f, ↓stOf_f, seval]
  have hlen : ps.length = qs.length := by simp at h; omega
  refine awp_skip ?_
  try refine hK _ ?_
  repeat (first | refine awp_seq ?_ | refine awp_block ?_ | refine awp_skip ?_ | refine awp_scope ?_ | refine awp_label ?_)
  refine awp_region tabOk fun K hK => ?_
  simp -dsimp -implicitDefEqProofs only [push_cast, ↓trAdd_f, ↓stOf_f, seval]
  refine hK _ (awp_block ?_)
  refine awp_for (fun k : Nat => { sl := [(0, .sl false 1 (ps.map encP)), (1, .sl false 1 (qs.map encP)), (2, .fn (.func 52) [] []), (15, .sl false 1 (ps.map encP)), (16, .int .i64 ps.length), (17, .int .i64 k)], st := [], nx := 0, n := 32 }) (fun k => k ≤ ps.length ∧ ps.take k = qs.take k) (fun k => ps.length - k) 0 ⟨Nat.zero_le _, rfl⟩ ?_ fun k hk => ?_
  · refine le_intro hB [] (by simp) (fun b _ => rfl) rfl ?_ ?_ rfl <;> simp -dsimp -implicitDefEqProofs only [push_cast, ↓trAdd_f, ↓stOf_f, seval]
  obtain ⟨hk, he⟩ := hk
  try refine hK _ ?_
  repeat (first | refine awp_seq ?_ | refine awp_block ?_ | refine awp_skip ?_ | refine awp_scope ?_ | refine awp_label ?_)
  refine awp_region tabOk fun K hK => ?_
  simp -dsimp -implicitDefEqProofs only [push_cast, ↓trAdd_f, ↓stOf_f, seval]
  try refine hK _ ?_
  repeat (first | refine awp_seq ?_ | refine awp_block ?_ | refine awp_skip ?_ | refine awp_scope ?_ | refine awp_label ?_)
  refine awp_cond (b := decide ((k : Int) < ps.length)) (by simp -dsimp -implicitDefEqProofs only [push_cast, ↓trAdd_f, ↓stOf_f, seval]) (fun h => ?_) (fun h => ?_)
  · have hlt : k < ps.length := by simpa using h
    have hlt' : k < qs.length := by omega
    try refine hK _ ?_
    repeat (first | refine awp_seq ?_ | refine awp_block ?_ | refine awp_skip ?_ | refine awp_scope ?_ | refine awp_label ?_)
    refine awp_region tabOk fun K hK => ?_
    simp -dsimp -implicitDefEqProofs only [hlt, hlt', getD_map, encP, push_cast, ↓trAdd_f, ↓stOf_f, seval]
    refine ⟨⟨by omega, by omega⟩, hK _ ?_⟩
    try refine hK _ ?_
    repeat (first | refine awp_seq ?_ | refine awp_block ?_ | refine awp_skip ?_ | refine awp_scope ?_ | refine awp_label ?_)
    refine awp_region tabOk fun K hK => ?_
    simp -dsimp -implicitDefEqProofs only [hlt, hlt', getD_map, encP, push_cast, ↓trAdd_f, ↓stOf_f, seval]
    refine ⟨⟨by omega, by omega⟩, hK _ ?_⟩
    try refine hK _ ?_
    repeat (first | refine awp_seq ?_ | refine awp_block ?_ | refine awp_skip ?_ | refine awp_scope ?_ | refine awp_label ?_)
    refine awp_region tabOk fun K hK => ?_
    simp -dsimp -implicitDefEqProofs only [push_cast, ↓trAdd_f, ↓stOf_f, seval]
    refine callK_simple (equal_ok false false ps[k] qs[k] (hp _ (List.getElem_mem hlt)) (hq _ (List.getElem_mem hlt'))) ?_ rfl fun _ => ?_
    · simp -dsimp -implicitDefEqProofs only [push_cast, List.mem_append, List.mem_cons, List.mem_singleton, forall_eq_or_imp, forall_eq, ↓trAdd_f, ↓stOf_f, seval]
    simp -dsimp -implicitDefEqProofs only [push_cast, ↓trAdd_f, ↓stOf_f, seval]
    try refine hK _ ?_
    repeat (first | refine awp_seq ?_ | refine awp_block ?_ | refine awp_skip ?_ | refine awp_scope ?_ | refine awp_label ?_)
    refine awp_cond (b := !decide (ps[k] = qs[k])) (by simp -dsimp -implicitDefEqProofs only [push_cast, ↓trAdd_f, ↓stOf_f, seval]) (fun h => ?_) (fun h => ?_)
    · try refine hK _ ?_
      repeat (first | refine awp_seq ?_ | refine awp_block ?_ | refine awp_skip ?_ | refine awp_scope ?_ | refine awp_label ?_)
      refine awp_region tabOk fun K hK => ?_
      simp -dsimp -implicitDefEqProofs only [push_cast, ↓trAdd_f, ↓stOf_f, seval]
      refine hK _ (awp_ret ?_)
      have hne : ps[k] ≠ qs[k] := by simpa using h
      have : ps ≠ qs := fun e => hne (by subst e; rfl)
      simp -dsimp -implicitDefEqProofs only [this, decide_false, push_cast, List.mem_append, List.mem_cons, List.mem_singleton, forall_eq_or_imp, forall_eq, ↓trAdd_f, ↓stOf_f, seval]
    have hee : ps[k] = qs[k] := by simpa using h
    refine awp_skip ?_
    try refine hK _ ?_
    repeat (first | refine awp_seq ?_ | refine awp_block ?_ | refine awp_skip ?_ | refine awp_scope ?_ | refine awp_label ?_)
    refine awp_region tabOk fun K hK => ?_
    simp -dsimp -implicitDefEqProofs only [push_cast, ↓trAdd_f, ↓stOf_f, seval]
    try simp (disch := omega) only [wrap_i64, wrap_u8, wrap_u16, wrap_u32]
    refine hK _ ⟨k + 1, ⟨hlt, ?_⟩, by omega, ?_⟩
    · rw [List.take_succ_eq_append_getElem hlt, List.take_succ_eq_append_getElem hlt', he, hee]
    refine le_intro hB [] (by simp) (fun b _ => rfl) rfl ?_ ?_ rfl <;> simp -dsimp -implicitDefEqProofs only [push_cast, ↓trAdd_f, ↓stOf_f, seval]
  have hke : k = ps.length := by simp at h; omega
  subst hke
  refine awp_exit rfl ?_
  try refine hK _ ?_
  repeat (first | refine awp_seq ?_ | refine awp_block ?_ | refine awp_skip ?_ | refine awp_scope ?_ | refine awp_label ?_)
  refine awp_region tabOk fun K hK => ?_
  simp -dsimp -implicitDefEqProofs only [push_cast, ↓trAdd_f, ↓stOf_f, seval]
  refine hK _ (awp_ret ?_)
  have : ps = qs := by rwa [List.take_length, hlen, List.take_length] at he
  simp -dsimp -implicitDefEqProofs only [this, decide_true, push_cast, List.mem_append, List.mem_cons, List.mem_singleton, forall_eq_or_imp, forall_eq, ↓trAdd_f, ↓stOf_f, seval]
theorem same_ok (f g : Flash) (hf : f.bytes) (hg : g.bytes) (h1 : f.pages.length ≤ 2 ^ 40) (h2 : f.wear.length ≤ 2 ^ 40) : FnS Tryd.prog 18 [.agg (encFlash f), .agg (encFlash g)] [] (.bool (sameF f g)) [] := by
  refine fn_walk tabOk Tryd.func18 rfl (by decide +kernel) Tryd.ntmps18 Tryd.results18 (by simp) fun B hB => ?_
  try refine hK _ ?_
  repeat (first | refine awp_seq ?_ | refine awp_block ?_ | refine awp_skip ?_ | refine awp_scope ?_ | refine awp_label ?_)
  refine awp_region tabOk fun K hK => ?_
  simp -dsimp -implicitDefEqProofs only [encFlash, push_cast, ↓trAdd_f, ↓stOf_f, seval]
  try refine hK _ ?_
  repeat (first | refine awp_seq ?_ | refine awp_block ?_ | refine awp_skip ?_ | refine awp_scope ?_ | refine awp_label ?_)
  refine awp_region tabOk fun K hK => ?_
  simp -dsimp -implicitDefEqProofs only [push_cast, ↓trAdd_f, ↓stOf_f, seval]
  refine callK_simple (equalPages_ok _ _ hf hg h1) ?_ rfl fun _ => ?_
  · simp -dsimp -implicitDefEqProofs only [push_cast, List.mem_append, List.mem_cons, List.mem_singleton, forall_eq_or_imp, forall_eq, ↓trAdd_f, ↓stOf_f, seval]
  cases hp : decide (f.pages = g.pages)
  · have e : sameF f g = false := by simp only [sameF, hp, Bool.false_and]
    simp -dsimp -implicitDefEqProofs only [push_cast, ↓trAdd_f, ↓stOf_f, seval]
    refine hK _ (awp_ret ?_)
    simp -dsimp -implicitDefEqProofs only [e, push_cast, List.mem_append, List.mem_cons, List.mem_singleton, forall_eq_or_imp, forall_eq, ↓trAdd_f, ↓stOf_f, seval]
  simp -dsimp -implicitDefEqProofs only [push_cast, ↓trAdd_f, ↓stOf_f, seval]
  refine callK_simple (slicesEqual_ok false false f.wear g.wear h2) ?_ rfl fun _ => ?_
  · simp -dsimp -implicitDefEqProofs only [push_cast, List.mem_append, List.mem_cons, List.mem_singleton, forall_eq_or_imp, forall_eq, ↓trAdd_f, ↓stOf_f, seval]
  cases hw : decide (f.wear = g.wear)
  · have e : sameF f g = false := by simp only [sameF, hp, hw, Bool.false_and, Bool.and_false]
    simp -dsimp -implicitDefEqProofs only [push_cast, ↓trAdd_f, ↓stOf_f, seval]
    refine hK _ (awp_ret ?_)
    simp -dsimp -implicitDefEqProofs only [e, push_cast, List.mem_append, List.mem_cons, List.mem_singleton, forall_eq_or_imp, forall_eq, ↓trAdd_f, ↓stOf_f, seval]
  simp -dsimp -implicitDefEqProofs only [push_cast, ↓trAdd_f, ↓stOf_f, seval]
  cases hl : f.left == g.left
  · have e : sameF f g = false := by simp only [sameF, hp, hw, hl, Bool.false_and, Bool.and_false]
    simp -dsimp -implicitDefEqProofs only [push_cast, ↓trAdd_f, ↓stOf_f, seval]
    refine hK _ (awp_ret ?_)
    simp -dsimp -implicitDefEqProofs only [e, push_cast, List.mem_append, List.mem_cons, List.mem_singleton, forall_eq_or_imp, forall_eq, ↓trAdd_f, ↓stOf_f, seval]
  simp -dsimp -implicitDefEqProofs only [push_cast, ↓trAdd_f, ↓stOf_f, seval]
  refine hK _ (awp_ret ?_)
  have e : sameF f g = (f.down == g.down) := by simp only [sameF, hp, hw, hl, Bool.true_and]
  simp -dsimp -implicitDefEqProofs only [e, push_cast, List.mem_append, List.mem_cons, List.mem_singleton, forall_eq_or_imp, forall_eq, ↓trAdd_f, ↓stOf_f, seval]
theorem sameRef_ok (f g : Flash) (hf : f.bytes) (hg : g.bytes) (h1 : f.pages.length ≤ 2 ^ 40) (h2 : f.wear.length ≤ 2 ^ 40) : FnS Tryd.prog 40 [.agg (encFlash f), .agg (encFlash g)] [] (.bool (sameF f g)) [] := by
  refine fn_walk tabOk Tryd.func40 rfl (by decide +kernel) Tryd.ntmps40 Tryd.results40 (by simp) fun B hB => ?_
  try refine hK _ ?_
  repeat (first | refine awp_seq ?_ | refine awp_block ?_ | refine awp_skip ?_ | refine awp_scope ?_ | refine awp_label ?_)
  refine awp_region tabOk fun K hK => ?_
  simp -dsimp -implicitDefEqProofs only [encFlash, push_cast, ↓trAdd_f, ↓stOf_f, seval]
  try refine hK _ ?_
  repeat (first | refine awp_seq ?_ | refine awp_block ?_ | refine awp_skip ?_ | refine awp_scope ?_ | refine awp_label ?_)
  refine awp_region tabOk fun K hK => ?_
  simp -dsimp -implicitDefEqProofs only [push_cast, ↓trAdd_f, ↓stOf_f, seval]
  cases hn : ((f.pages.length : Int) != g.pages.length)
  rotate_left
  · have hne : f.pages ≠ g.pages := pages_len_ne (by simpa using hn)
    have e : sameF f g = false := by simp [sameF, hne]
    simp -dsimp -implicitDefEqProofs only [push_cast, ↓trAdd_f, ↓stOf_f, seval]
    refine hK _ ?_
    try refine hK _ ?_
    repeat (first | refine awp_seq ?_ | refine awp_block ?_ | refine awp_skip ?_ | refine awp_scope ?_ | refine awp_label ?_)
    refine awp_cond (b := true) (by simp -dsimp -implicitDefEqProofs only [push_cast, ↓trAdd_f, ↓stOf_f, seval]) (fun h => ?_) (fun h => ?_)
    · try refine hK _ ?_
      repeat (first | refine awp_seq ?_ | refine awp_block ?_ | refine awp_skip ?_ | refine awp_scope ?_ | refine awp_label ?_)
      refine awp_region tabOk fun K hK => ?_
      simp -dsimp -implicitDefEqProofs only [push_cast, ↓trAdd_f, ↓stOf_f, seval]
      refine hK _ (awp_ret ?_)
      simp -dsimp -implicitDefEqProofs only [e, push_cast, List.mem_append, List.mem_cons, List.mem_singleton, forall_eq_or_imp, forall_eq, ↓trAdd_f, ↓stOf_f, seval]
    · cases h
  have hlen : f.pages.length = g.pages.length := by simp at hn; omega
  simp -dsimp -implicitDefEqProofs only [push_cast, ↓trAdd_f, ↓stOf_f, seval]
  refine callK_simple (refSame_ok false false f.wear g.wear h2) ?_ rfl fun _ => ?_
  · simp -dsimp -implicitDefEqProofs only [push_cast, List.mem_append, List.mem_cons, List.mem_singleton, forall_eq_or_imp, forall_eq, ↓trAdd_f, ↓stOf_f, seval]
  cases hw : decide (f.wear = g.wear)
  · have e : sameF f g = false := by simp [sameF, hw]
    simp -dsimp -implicitDefEqProofs only [push_cast, ↓trAdd_f, ↓stOf_f, seval]
    refine hK _ ?_
    try refine hK _ ?_
    repeat (first | refine awp_seq ?_ | refine awp_block ?_ | refine awp_skip ?_ | refine awp_scope ?_ | refine awp_label ?_)
    refine awp_cond (b := true) (by simp -dsimp -implicitDefEqProofs only [push_cast, ↓trAdd_f, ↓stOf_f, seval]) (fun h => ?_) (fun h => ?_)
    · try refine hK _ ?_
      repeat (first | refine awp_seq ?_ | refine awp_block ?_ | refine awp_skip ?_ | refine awp_scope ?_ | refine awp_label ?_)
      refine awp_region tabOk fun K hK => ?_
      simp -dsimp -implicitDefEqProofs only [push_cast, ↓trAdd_f, ↓stOf_f, seval]
      refine hK _ (awp_ret ?_)
      simp -dsimp -implicitDefEqProofs only [e, push_cast, List.mem_append, List.mem_cons, List.mem_singleton, forall_eq_or_imp, forall_eq, ↓trAdd_f, ↓stOf_f, seval]
    · cases h
  simp -dsimp -implicitDefEqProofs only [push_cast, ↓trAdd_f, ↓stOf_f, seval]
  cases hl : f.left != g.left
  rotate_left
  · have e : sameF f g = false := by simp at hl; simp [sameF, hl]
    simp -dsimp -implicitDefEqProofs only [push_cast, ↓trAdd_f, ↓stOf_f, seval]
    refine hK _ ?_
    try refine hK _ ?_
    repeat (first | refine awp_seq ?_ | refine awp_block ?_ | refine awp_skip ?_ | refine awp_scope ?_ | refine awp_label ?_)
    refine awp_cond (b := true) (by simp -dsimp -implicitDefEqProofs only [push_cast, ↓trAdd_f, ↓stOf_f, seval]) (fun h => ?_) (fun h => ?_)
    · try refine hK _ ?_
      repeat (first | refine awp_seq ?_ | refine awp_block ?_ | refine awp_skip ?_ | refine awp_scope ?_ | refine awp_label ?_)
      refine awp_region tabOk fun K hK => ?_
      simp -dsimp -implicitDefEqProofs only [push_cast, ↓trAdd_f, ↓stOf_f, seval]
      refine hK _ (awp_ret ?_)
      simp -dsimp -implicitDefEqProofs only [e, push_cast, List.mem_append, List.mem_cons, List.mem_singleton, forall_eq_or_imp, forall_eq, ↓trAdd_f, ↓stOf_f, seval]
    · cases h
  simp -dsimp -implicitDefEqProofs only [push_cast, ↓trAdd_f, ↓stOf_f, seval]
  refine hK _ ?_
  try refine hK _ ?_
  repeat (first | refine awp_seq ?_ | refine awp_block ?_ | refine awp_skip ?_ | refine awp_scope ?_ | refine awp_label ?_)
  refine awp_cond (b := !(f.down == g.down)) (by simp -dsimp -implicitDefEqProofs only [push_cast, ↓trAdd_f, ↓stOf_f, seval]) (fun h => ?_) (fun h => ?_)
  · have e : sameF f g = false := by
      have h' : (f.down == g.down) = false := by cases hq : f.down <;> cases hr : g.down <;> simp_all
      simp [sameF, h']
    try refine hK _ ?_
    repeat (first | refine awp_seq ?_ | refine awp_block ?_ | refine awp_skip ?_ | refine awp_scope ?_ | refine awp_label ?_)
    refine awp_region tabOk fun K hK => ?_
    simp -dsimp -implicitDefEqProofs only [push_cast, ↓trAdd_f, ↓stOf_f, seval]
    refine hK _ (awp_ret ?_)
    simp -dsimp -implicitDefEqProofs only [e, push_cast, List.mem_append, List.mem_cons, List.mem_singleton, forall_eq_or_imp, forall_eq, ↓trAdd_f, ↓stOf_f, seval]
  have hd : f.down = g.down := by simpa using h
  have hl' : f.left = g.left := by simpa using hl
  refine awp_skip ?_
  try refine hK _ ?_
  repeat (first | refine awp_seq ?_ | refine awp_block ?_ | refine awp_skip ?_ | refine awp_scope ?_ | refine awp_label ?_)
  refine awp_region tabOk fun K hK => ?_
  simp -dsimp -implicitDefEqProofs only [push_cast, ↓trAdd_f, ↓stOf_f, seval]
  refine hK _ (awp_block ?_)
  refine awp_for (fun k : Nat => { sl := [(2, .ptr 0 0), (3, .ptr 1 0), (5, .int .i64 k)], st := [(0, .box (encFlash f)), (1, .box (encFlash g))], nx := 16, n := 54 }) (fun k => k ≤ f.pages.length ∧ f.pages.take k = g.pages.take k) (fun k => f.pages.length - k) 0 ⟨Nat.zero_le _, rfl⟩ ?_ fun k hk => ?_
  · refine le_intro hB [(1, 8)] (by simp) (fun b hb => absurd hb (Nat.not_lt_zero b)) rfl ?_ ?_ rfl <;> simp -dsimp -implicitDefEqProofs only [encFlash, push_cast, ↓trAdd_f, ↓stOf_f, seval]
  obtain ⟨hk, he⟩ := hk
  try refine hK _ ?_
  repeat (first | refine awp_seq ?_ | refine awp_block ?_ | refine awp_skip ?_ | refine awp_scope ?_ | refine awp_label ?_)
  refine awp_region tabOk fun K hK => ?_
  simp -dsimp -implicitDefEqProofs only [encFlash, push_cast, ↓trAdd_f, ↓stOf_f, seval]
  try refine hK _ ?_
  repeat (first | refine awp_seq ?_ | refine awp_block ?_ | refine awp_skip ?_ | refine awp_scope ?_ | refine awp_label ?_)
  refine awp_cond (b := decide ((k : Int) < f.pages.length)) (by simp -dsimp -implicitDefEqProofs only [push_cast, ↓trAdd_f, ↓stOf_f, seval]) (fun h => ?_) (fun h => ?_)
  · have hlt : k < f.pages.length := by simpa using h
    have hlt' : k < g.pages.length := by omega
    try refine hK _ ?_
    repeat (first | refine awp_seq ?_ | refine awp_block ?_ | refine awp_skip ?_ | refine awp_scope ?_ | refine awp_label ?_)
    refine awp_draw tabOk (by kernel_rfl) (by kernel_rfl) fun K hK C hC => ?_
    simp -dsimp -implicitDefEqProofs only [hlt, hlt', getD_map, encP, push_cast, ↓trAdd_f, ↓stOf_f, seval]
    refine ⟨⟨by omega, by omega⟩, ⟨by omega, by omega⟩, ?_⟩
    refine callK_simple (sameBytes_ok false false f.pages[k] g.pages[k] (hf _ (List.getElem_mem hlt)) (hg _ (List.getElem_mem hlt'))) ?_ rfl fun _ => ?_
    · simp -dsimp -implicitDefEqProofs only [push_cast, List.mem_append, List.mem_cons, List.mem_singleton, forall_eq_or_imp, forall_eq, ↓trAdd_f, ↓stOf_f, seval]
    simp -dsimp -implicitDefEqProofs only [push_cast, ↓trAdd_f, ↓stOf_f, seval]
    refine ⟨hC _ (by kernel_rfl), ?_⟩
    try refine hK _ ?_
    repeat (first | refine awp_seq ?_ | refine awp_block ?_ | refine awp_skip ?_ | refine awp_scope ?_ | refine awp_label ?_)
    refine awp_cond (b := !decide (f.pages[k] = g.pages[k])) (by simp -dsimp -implicitDefEqProofs only [push_cast, ↓trAdd_f, ↓stOf_f, seval]) (fun h => ?_) (fun h => ?_)
    · try refine hK _ ?_
      repeat (first | refine awp_seq ?_ | refine awp_block ?_ | refine awp_skip ?_ | refine awp_scope ?_ | refine awp_label ?_)
      refine awp_region tabOk fun K hK => ?_
      simp -dsimp -implicitDefEqProofs only [push_cast, ↓trAdd_f, ↓stOf_f, seval]
      refine hK _ (awp_ret ?_)
      have hne : f.pages[k] ≠ g.pages[k] := by simpa using h
      have hne2 : f.pages ≠ g.pages := fun e => hne (by simp [e])
      have e : sameF f g = false := by simp [sameF, hne2]
      simp -dsimp -implicitDefEqProofs only [e, push_cast, List.mem_append, List.mem_cons, List.mem_singleton, forall_eq_or_imp, forall_eq, ↓trAdd_f, ↓stOf_f, seval]
    have hee : f.pages[k] = g.pages[k] := by simpa using h
    refine awp_skip ?_
    try refine hK _ ?_
    repeat (first | refine awp_seq ?_ | refine awp_block ?_ | refine awp_skip ?_ | refine awp_scope ?_ | refine awp_label ?_)
    refine awp_region tabOk fun K hK => ?_
    simp -dsimp -implicitDefEqProofs only [push_cast, ↓trAdd_f, ↓stOf_f, seval]
    try simp (disch := omega) only [wrap_i64, wrap_u8, wrap_u16, wrap_u32]
    refine hK _ ⟨k + 1, ⟨hlt, ?_⟩, by omega, ?_⟩
    · rw [List.take_succ_eq_append_getElem hlt, List.take_succ_eq_append_getElem hlt', he, hee]
    refine le_intro hB [] (by simp) (fun b _ => rfl) rfl ?_ ?_ rfl <;> simp -dsimp -implicitDefEqProofs only [encFlash, push_cast, ↓trAdd_f, ↓stOf_f, seval]
  have hke : k = f.pages.length := by simp at h; omega
  subst hke
  refine awp_exit rfl ?_
  try refine hK _ ?_
  repeat (first | refine awp_seq ?_ | refine awp_block ?_ | refine awp_skip ?_ | refine awp_scope ?_ | refine awp_label ?_)
  refine awp_region tabOk fun K hK => ?_
  simp -dsimp -implicitDefEqProofs only [push_cast, ↓trAdd_f, ↓stOf_f, seval]
  refine hK _ (awp_ret ?_)
  have hpp : f.pages = g.pages := by rwa [List.take_length, hlen, List.take_length] at he
  have e : sameF f g = true := by simp at hw; simp [sameF, hpp, hw, hl', hd]
  simp -dsimp -implicitDefEqProofs only [e, push_cast, List.mem_append, List.mem_cons, List.mem_singleton, forall_eq_or_imp, forall_eq, ↓trAdd_f, ↓stOf_f, seval]
end Go.Proofs.YtoifmpiikopelaaDoorFw

/-
  Walks: Great, the document's Right.
-/
namespace Go.Proofs.YtoifmpiikopelaaDoorFw
open Go Go.Proofs
set_option maxRecDepth 100000
set_option maxHeartbeats 4000000
set_option linter.unusedVariables false
set_option linter.unusedSimpArgs false

theorem foldl_min (l : List Int) : ∀ a, (∀ x ∈ a :: l, l.foldl min a ≤ x) ∧ l.foldl min a ∈ a :: l := by
  induction l with
  | nil => intro a; simp
  | cons b l ih =>
    intro a
    obtain ⟨h1, h2⟩ := ih (min a b)
    have h3 := h1 (min a b) (by simp)
    refine ⟨fun x hx => ?_, ?_⟩
    · simp only [List.foldl_cons]
      rcases List.mem_cons.1 hx with rfl | hx
      · omega
      · rcases List.mem_cons.1 hx with rfl | hx
        · omega
        · exact h1 x (by simp [hx])
    · simp only [List.foldl_cons]
      rcases List.mem_cons.1 h2 with h2 | h2
      · rw [h2]
        by_cases hab : a ≤ b
        · rw [Int.min_eq_left hab]; simp
        · rw [Int.min_eq_right (by omega)]; simp
      · simp [h2]
theorem foldl_max (l : List Int) : ∀ a, (∀ x ∈ a :: l, x ≤ l.foldl max a) ∧ l.foldl max a ∈ a :: l := by
  induction l with
  | nil => intro a; simp
  | cons b l ih =>
    intro a
    obtain ⟨h1, h2⟩ := ih (max a b)
    have h3 := h1 (max a b) (by simp)
    refine ⟨fun x hx => ?_, ?_⟩
    · simp only [List.foldl_cons]
      rcases List.mem_cons.1 hx with rfl | hx
      · omega
      · rcases List.mem_cons.1 hx with rfl | hx
        · omega
        · exact h1 x (by simp [hx])
    · simp only [List.foldl_cons]
      rcases List.mem_cons.1 h2 with h2 | h2
      · rw [h2]
        by_cases hab : a ≤ b
        · rw [Int.max_eq_right hab]; simp
        · rw [Int.max_eq_left (by omega)]; simp
      · simp [h2]
theorem foldF_min (l : List Int) (h : 1 ≤ l.length) : 0 ≤ foldF min l ↔ ∀ x ∈ l, 0 ≤ x := by
  match l with
  | [] => simp at h
  | a :: l =>
    obtain ⟨h1, h2⟩ := foldl_min l a
    exact ⟨fun hh x hx => Int.le_trans hh (h1 x hx), fun hh => hh _ h2⟩
theorem foldF_max (l : List Int) (h : 1 ≤ l.length) (m : Int) : foldF max l ≤ m ↔ ∀ x ∈ l, x ≤ m := by
  match l with
  | [] => simp at h
  | a :: l =>
    obtain ⟨h1, h2⟩ := foldl_max l a
    exact ⟨fun hh x hx => Int.le_trans (h1 x hx) hh, fun hh => hh _ h2⟩
/-- The document's word of a flash that may be so. -/
structure Flash.good (f : Flash) : Prop where
  n1 : 1 ≤ f.pages.length
  n80 : f.pages.length ≤ 80
  wl : f.wear.length = f.pages.length
  left : -1 ≤ f.left
  down : f.down = true → f.left = 0
  wear : ∀ x ∈ f.wear, 0 ≤ x ∧ x ≤ 1099511627776
  block : ∀ p ∈ f.pages, p.length = 64
def headB (f : Flash) : Bool := decide ((f.pages.length : Int) < 1) || decide (80 < (f.pages.length : Int)) || ((f.wear.length : Int) != f.pages.length) || decide (f.left < -1) || (f.down && (f.left != 0))
theorem headB_iff (f : Flash) : headB f = false ↔ 1 ≤ f.pages.length ∧ f.pages.length ≤ 80 ∧ f.wear.length = f.pages.length ∧ -1 ≤ f.left ∧ (f.down = true → f.left = 0) := by
  unfold headB
  simp only [Bool.or_eq_false_iff, decide_eq_false_iff_not, bne_eq_false_iff_eq, Bool.and_eq_false_imp]
  constructor
  · rintro ⟨⟨⟨⟨h1, h2⟩, h3⟩, h4⟩, h5⟩
    exact ⟨by omega, by omega, by omega, by omega, h5⟩
  · rintro ⟨h1, h2, h3, h4, h5⟩
    exact ⟨⟨⟨⟨by omega, by omega⟩, by omega⟩, by omega⟩, h5⟩
theorem right_iff (f : Flash) : rightF f = true ↔ f.good := by
  have hb : badHead f = (headB f || decide (foldF min f.wear < 0) || decide (1099511627776 < foldF max f.wear)) := rfl
  unfold rightF
  rw [Bool.and_eq_true, Bool.not_eq_true', Bool.not_eq_true', hb]
  simp only [Bool.or_eq_false_iff, decide_eq_false_iff_not, headB_iff]
  have hneg := badFrom_neg f.pages 0
  constructor
  · rintro ⟨⟨⟨⟨h1, h2, h3, h4, h5⟩, h6⟩, h7⟩, h8⟩
    have hw : 1 ≤ f.wear.length := by omega
    have h6' := (foldF_min f.wear hw).1 (by omega)
    have h7' := (foldF_max f.wear hw 1099511627776).1 (by omega)
    exact ⟨h1, h2, h3, h4, h5, fun x hx => ⟨h6' x hx, h7' x hx⟩, hneg.1 (by omega)⟩
  · rintro ⟨h1, h2, h3, h4, h5, h6, h7⟩
    have hw : 1 ≤ f.wear.length := by omega
    have h6' := (foldF_min f.wear hw).2 fun x hx => (h6 x hx).1
    have h7' := (foldF_max f.wear hw 1099511627776).2 fun x hx => (h6 x hx).2
    have h8 := hneg.2 h7
    exact ⟨⟨⟨⟨h1, h2, h3, h4, h5⟩, by omega⟩, by omega⟩, by omega⟩
theorem rightF_false {f : Flash} (h : ¬ f.good) : rightF f = false := by
  cases e : rightF f with
  | false => rfl
  | true => exact (h ((right_iff f).1 e)).elim

def greatF (f : Flash) : Bool := decide (100 < (f.pages.length : Int)) || decide (100 < (f.wear.length : Int)) || f.pages.any fun p => decide (100 < (p.length : Int))
end Go.Proofs.YtoifmpiikopelaaDoorFw

/-
  Walks: copies of slices; bytes.Repeat of one byte, clean.
-/
namespace Go.Proofs.YtoifmpiikopelaaDoorFw
open Go Go.Proofs
set_option maxRecDepth 100000
set_option maxHeartbeats 4000000
set_option linter.unusedVariables false
set_option linter.unusedSimpArgs false

theorem noZero_ok (n : Nat) (hn : n ≤ 2 ^ 40) : FnE Tryd.prog 97 [.int .i64 n] [] (.own 0 1 0 n) [(0, .row 1 [])] := by
  intro B vs hi
  have hsz : vs.size = 1 := hi.size
  obtain ⟨v0, rfl⟩ : ∃ v, vs = #[v] := ⟨vs[0], by apply Array.ext (by simpa using hsz); intro i h1 h2; have : i = 0 := by omega
                                                  subst this; rfl⟩
  have h0 := (hi.arg 0 _ _ rfl rfl).int_inv
  subst h0
  have hb0 : Tryd.prog.underlying 22 = some (.slice 5) := by kernel_rfl
  obtain ⟨cs, hrun, hle, hcs⟩ := Lib.run_makeNoZero (P := Tryd.prog) B.w0 #[3] 22 5 hb0 n (by omega)
  have hcall : (callFunc 97 #[.int .i64 n]).run Tryd.prog B.w0 = .ok (.value (.slice (some ⟨B.w0.heap.size, 0, none⟩) n cs.size)) (B.w0.drew.drew.alloc (.cells cs 5)) := by
    rw [run_callFunc_extern Tryd.func97 (by kernel_rfl) (by kernel_rfl) (by kernel_rfl) (e := Extern.BytealgMakeNoZero.makeNoZero #[3] #[22]) (by kernel_rfl), hrun]
    rfl
  have hm0 : ∀ b, B.m0 b = none := fun b => Classical.byContradiction fun e => absurd (hi.ids b e) (Nat.not_lt_zero b)
  have g := (grow_drew (F := B.F0) (w := B.w0) (m := B.m0)).trans ((grow_drew (F := B.F0) (w := B.w0.drew) (m := B.m0)).trans
    (grow_alloc (w := B.w0.drew.drew) (x := some ⟨B.w0.heap.size, 0, none⟩) (fun x hx => (hi.fz x hx).1) (.cells cs 5) (hm0 0)))
  have hget : (B.w0.drew.drew.alloc (.cells cs 5)).heap[B.w0.heap.size]? = some (Obj.cells cs 5 (0, 0)) := by
    show (B.w0.heap.push _)[B.w0.heap.size]? = _
    simp
  refine ⟨_, _, B.F0, updI B.m0 0 (some ⟨B.w0.heap.size, 0, none⟩), hcall, ?_⟩
  refine ⟨.own 0 1 0 n cs.size _ hle (by omega) fun _ => ⟨⟨B.w0.heap.size, 0, none⟩, cs, 5, (0, 0), by simp [updI], rfl, rfl, hget, by simp⟩, ?_, ?_, ?_, ?_, fun x hx => ⟨?_, .inl hx⟩, g, ?_⟩
  · intro b k hb
    simp only [lk] at hb
    split at hb
    · rename_i e; subst e; cases hb
      refine ⟨_, by simp [updI], by simp, by simp, .inr ⟨B.w0.heap.size, 0, cs, 5, _, rfl, hget, frOk.zero _, by simp, fun i j el c hi hj => by simp at hi⟩⟩
    · cases hb
  · intro b k x hb hx
    simp only [lk] at hb
    split at hb
    · rename_i e; subst e; cases hb
      simp [updI] at hx; subst hx
      exact ⟨fun hf => absurd (hi.fz _ hf).1 (Nat.lt_irrefl _), .inl (Nat.le_refl _)⟩
    · cases hb
  · intro b b' k k' x x' hb hb' hne
    simp only [lk] at hb hb'
    split at hb <;> split at hb' <;> first | omega | (cases hb; done) | (cases hb'; done)
  · intro b hb
    unfold updI at hb
    split at hb
    · omega
    · exact (hb (hm0 b)).elim
  · have := (hi.fz x hx).1
    show x < (B.w0.heap.push _).size
    simp; omega
  · refine ⟨rfl, rfl, rfl, ?_, fun k hk _ => push_old (w := B.w0) _ hk⟩
    show B.w0.heap.size ≤ (B.w0.heap.push _).size
    simp
theorem wrap_u64 {n : Int} (h1 : 0 ≤ n) (h2 : n ≤ 18446744073709551615) : IntKind.u64.wrap n = n := by
  simp [IntKind.wrap, IntKind.bits, IntKind.signed]; omega
theorem mul64_ok : FnS Tryd.prog 101 [.int .u64 1, .int .u64 64] [] (.tup [.int .u64 0, .int .u64 64]) [] := by
  refine fn_walk tabOk Tryd.func101 rfl (by decide +kernel) Tryd.ntmps101 Tryd.results101 (by simp) fun B hB => ?_
  try refine hK _ ?_
  repeat (first | refine awp_seq ?_ | refine awp_block ?_ | refine awp_skip ?_ | refine awp_scope ?_ | refine awp_label ?_)
  refine awp_region tabOk fun K hK => ?_
  simp -dsimp -implicitDefEqProofs only [push_cast, ↓trAdd_f, ↓stOf_f, seval]
  try refine hK _ ?_
  repeat (first | refine awp_seq ?_ | refine awp_block ?_ | refine awp_skip ?_ | refine awp_scope ?_ | refine awp_label ?_)
  refine awp_region tabOk fun K hK => ?_
  simp -dsimp -implicitDefEqProofs only [push_cast, ↓trAdd_f, ↓stOf_f, seval]
  try refine hK _ ?_
  repeat (first | refine awp_seq ?_ | refine awp_block ?_ | refine awp_skip ?_ | refine awp_scope ?_ | refine awp_label ?_)
  refine awp_region tabOk fun K hK => ?_
  simp -dsimp -implicitDefEqProofs only [push_cast, ↓trAdd_f, ↓stOf_f, seval]
  try refine hK _ ?_
  repeat (first | refine awp_seq ?_ | refine awp_block ?_ | refine awp_skip ?_ | refine awp_scope ?_ | refine awp_label ?_)
  refine awp_region tabOk fun K hK => ?_
  simp -dsimp -implicitDefEqProofs only [push_cast, ↓trAdd_f, ↓stOf_f, seval]
  try refine hK _ ?_
  repeat (first | refine awp_seq ?_ | refine awp_block ?_ | refine awp_skip ?_ | refine awp_scope ?_ | refine awp_label ?_)
  refine awp_region tabOk fun K hK => ?_
  simp -dsimp -implicitDefEqProofs only [push_cast, ↓trAdd_f, ↓stOf_f, seval]
  try refine hK _ ?_
  repeat (first | refine awp_seq ?_ | refine awp_block ?_ | refine awp_skip ?_ | refine awp_scope ?_ | refine awp_label ?_)
  refine awp_region tabOk fun K hK => ?_
  simp -dsimp -implicitDefEqProofs only [push_cast, ↓trAdd_f, ↓stOf_f, seval]
  try refine hK _ ?_
  repeat (first | refine awp_seq ?_ | refine awp_block ?_ | refine awp_skip ?_ | refine awp_scope ?_ | refine awp_label ?_)
  refine awp_region tabOk fun K hK => ?_
  simp -dsimp -implicitDefEqProofs only [push_cast, ↓trAdd_f, ↓stOf_f, seval]
  try refine hK _ ?_
  repeat (first | refine awp_seq ?_ | refine awp_block ?_ | refine awp_skip ?_ | refine awp_scope ?_ | refine awp_label ?_)
  refine awp_region tabOk fun K hK => ?_
  simp -dsimp -implicitDefEqProofs only [push_cast, ↓trAdd_f, ↓stOf_f, seval]
  try refine hK _ ?_
  repeat (first | refine awp_seq ?_ | refine awp_block ?_ | refine awp_skip ?_ | refine awp_scope ?_ | refine awp_label ?_)
  refine awp_region tabOk fun K hK => ?_
  simp -dsimp -implicitDefEqProofs only [push_cast, ↓trAdd_f, ↓stOf_f, seval]
  try refine hK _ ?_
  repeat (first | refine awp_seq ?_ | refine awp_block ?_ | refine awp_skip ?_ | refine awp_scope ?_ | refine awp_label ?_)
  refine awp_region tabOk fun K hK => ?_
  simp -dsimp -implicitDefEqProofs only [push_cast, ↓trAdd_f, ↓stOf_f, seval]
  try refine hK _ ?_
  repeat (first | refine awp_seq ?_ | refine awp_block ?_ | refine awp_skip ?_ | refine awp_scope ?_ | refine awp_label ?_)
  refine awp_region tabOk fun K hK => ?_
  simp -dsimp -implicitDefEqProofs only [push_cast, ↓trAdd_f, ↓stOf_f, seval]
  try refine hK _ ?_
  repeat (first | refine awp_seq ?_ | refine awp_block ?_ | refine awp_skip ?_ | refine awp_scope ?_ | refine awp_label ?_)
  refine awp_region tabOk fun K hK => ?_
  simp -dsimp -implicitDefEqProofs only [push_cast, ↓trAdd_f, ↓stOf_f, seval]
  refine hK _ (awp_ret ?_)
  simp -dsimp -implicitDefEqProofs only [push_cast, List.mem_append, List.mem_cons, List.mem_singleton, forall_eq_or_imp, forall_eq, ↓trAdd_f, ↓stOf_f, seval]
  exact .inl (by decide +kernel)
theorem mul_ok : FnS Tryd.prog 96 [.int .u64 1, .int .u64 64] [] (.tup [.int .u64 0, .int .u64 64]) [] := by
  refine fn_walk tabOk Tryd.func96 rfl (by decide +kernel) Tryd.ntmps96 Tryd.results96 (by simp) fun B hB => ?_
  try refine hK _ ?_
  repeat (first | refine awp_seq ?_ | refine awp_block ?_ | refine awp_skip ?_ | refine awp_scope ?_ | refine awp_label ?_)
  refine awp_region tabOk fun K hK => ?_
  simp -dsimp -implicitDefEqProofs only [push_cast, ↓trAdd_f, ↓stOf_f, seval]
  try refine hK _ ?_
  repeat (first | refine awp_seq ?_ | refine awp_block ?_ | refine awp_skip ?_ | refine awp_scope ?_ | refine awp_label ?_)
  refine awp_cond (b := false) (by simp -dsimp -implicitDefEqProofs only [push_cast, ↓trAdd_f, ↓stOf_f, seval]) (fun h => ?_) (fun h => ?_)
  · cases h
  refine awp_skip ?_
  try refine hK _ ?_
  repeat (first | refine awp_seq ?_ | refine awp_block ?_ | refine awp_skip ?_ | refine awp_scope ?_ | refine awp_label ?_)
  refine awp_region tabOk fun K hK => ?_
  simp -dsimp -implicitDefEqProofs only [push_cast, ↓trAdd_f, ↓stOf_f, seval]
  refine callK_simple mul64_ok ?_ rfl fun _ => ?_
  · simp -dsimp -implicitDefEqProofs only [push_cast, List.mem_append, List.mem_cons, List.mem_singleton, forall_eq_or_imp, forall_eq, ↓trAdd_f, ↓stOf_f, seval]
  simp -dsimp -implicitDefEqProofs only [push_cast, ↓trAdd_f, ↓stOf_f, seval]
  refine hK _ ?_
  try refine hK _ ?_
  repeat (first | refine awp_seq ?_ | refine awp_block ?_ | refine awp_skip ?_ | refine awp_scope ?_ | refine awp_label ?_)
  refine awp_region tabOk fun K hK => ?_
  simp -dsimp -implicitDefEqProofs only [push_cast, ↓trAdd_f, ↓stOf_f, seval]
  refine hK _ (awp_ret ?_)
  simp -dsimp -implicitDefEqProofs only [push_cast, List.mem_append, List.mem_cons, List.mem_singleton, forall_eq_or_imp, forall_eq, ↓trAdd_f, ↓stOf_f, seval]
def ffs (n : Nat) : List (List PV) := List.replicate n [.int .u8 255]
theorem ffs_len (n : Nat) : (ffs n).length = n := by simp [ffs]
theorem ffs_copy (m c l : Nat) (h1 : c ≤ m) : (ffs m).take m ++ (((ffs m).take c).take l ++ (ffs m).drop (m + min c l)) = ffs (m + min c l) := by
  have e1 : (ffs m).drop (m + min c l) = [] := List.drop_of_length_le (by rw [ffs_len]; omega)
  rw [e1, List.append_nil, List.take_of_length_le (by rw [ffs_len]; omega)]
  simp only [ffs, List.take_replicate, Nat.min_eq_left h1, List.replicate_append_replicate, Nat.min_comm c l]
theorem ren_ffs (n : Nat) (r : Nat → Nat) : (ffs n).map (renL r) = ffs n := map_ren_fz _ (fun e he c hc => by rw [(List.mem_replicate.1 he).2] at hc; simp at hc; subst hc; rfl) r
theorem ok_ffs (n : Nat) (S : Nat → Prop) : (∀ e ∈ ffs n, okL S e) = True := all_ok_fz _ (fun e he c hc => by rw [(List.mem_replicate.1 he).2] at hc; simp at hc; subst hc; rfl) S
theorem repeat_ok : FnS Tryd.prog 89 [.sl false 1 [[.int .u8 255]], .int .i64 64] [] (.sl false 1 (ffs 64)) [] := by
  refine fn_walk tabOk Tryd.func89 rfl (by decide +kernel) Tryd.ntmps89 Tryd.results89 (by simp) fun B hB => ?_
  try refine hK _ ?_
  repeat (first | refine awp_seq ?_ | refine awp_block ?_ | refine awp_skip ?_ | refine awp_scope ?_ | refine awp_label ?_)
  refine awp_region tabOk fun K hK => ?_
  simp -dsimp -implicitDefEqProofs only [push_cast, ↓trAdd_f, ↓stOf_f, seval]
  try refine hK _ ?_
  repeat (first | refine awp_seq ?_ | refine awp_block ?_ | refine awp_skip ?_ | refine awp_scope ?_ | refine awp_label ?_)
  refine awp_region tabOk fun K hK => ?_
  simp -dsimp -implicitDefEqProofs only [push_cast, ↓trAdd_f, ↓stOf_f, seval]
  try refine hK _ ?_
  repeat (first | refine awp_seq ?_ | refine awp_block ?_ | refine awp_skip ?_ | refine awp_scope ?_ | refine awp_label ?_)
  refine awp_cond (b := false) (by simp -dsimp -implicitDefEqProofs only [push_cast, ↓trAdd_f, ↓stOf_f, seval]) (fun h => ?_) (fun h => ?_)
  · cases h
  refine awp_skip ?_
  try refine hK _ ?_
  repeat (first | refine awp_seq ?_ | refine awp_block ?_ | refine awp_skip ?_ | refine awp_scope ?_ | refine awp_label ?_)
  refine awp_region tabOk fun K hK => ?_
  simp -dsimp -implicitDefEqProofs only [push_cast, ↓trAdd_f, ↓stOf_f, seval]
  try refine hK _ ?_
  repeat (first | refine awp_seq ?_ | refine awp_block ?_ | refine awp_skip ?_ | refine awp_scope ?_ | refine awp_label ?_)
  refine awp_cond (b := false) (by simp -dsimp -implicitDefEqProofs only [push_cast, ↓trAdd_f, ↓stOf_f, seval]) (fun h => ?_) (fun h => ?_)
  · cases h
  refine awp_skip ?_
  try refine hK _ ?_
  repeat (first | refine awp_seq ?_ | refine awp_block ?_ | refine awp_skip ?_ | refine awp_scope ?_ | refine awp_label ?_)
  refine awp_region tabOk fun K hK => ?_
  simp -dsimp -implicitDefEqProofs only [push_cast, ↓trAdd_f, ↓stOf_f, seval]
  try simp (disch := omega) only [wrap_i64, wrap_u8, wrap_u16, wrap_u32]
  try simp (disch := omega) only [wrap_u64]
  refine callK_simple mul_ok ?_ rfl fun _ => ?_
  · simp -dsimp -implicitDefEqProofs only [push_cast, List.mem_append, List.mem_cons, List.mem_singleton, forall_eq_or_imp, forall_eq, ↓trAdd_f, ↓stOf_f, seval]
  simp -dsimp -implicitDefEqProofs only [push_cast, ↓trAdd_f, ↓stOf_f, seval]
  refine hK _ ?_
  try refine hK _ ?_
  repeat (first | refine awp_seq ?_ | refine awp_block ?_ | refine awp_skip ?_ | refine awp_scope ?_ | refine awp_label ?_)
  refine awp_region tabOk fun K hK => ?_
  simp -dsimp -implicitDefEqProofs only [push_cast, ↓trAdd_f, ↓stOf_f, seval]
  refine hK _ ?_
  try refine hK _ ?_
  repeat (first | refine awp_seq ?_ | refine awp_block ?_ | refine awp_skip ?_ | refine awp_scope ?_ | refine awp_label ?_)
  refine awp_cond (b := false) (by simp -dsimp -implicitDefEqProofs only [push_cast, ↓trAdd_f, ↓stOf_f, seval]) (fun h => ?_) (fun h => ?_)
  · cases h
  refine awp_skip ?_
  try refine hK _ ?_
  repeat (first | refine awp_seq ?_ | refine awp_block ?_ | refine awp_skip ?_ | refine awp_scope ?_ | refine awp_label ?_)
  refine awp_region tabOk fun K hK => ?_
  simp -dsimp -implicitDefEqProofs only [push_cast, ↓trAdd_f, ↓stOf_f, seval]
  try simp (disch := omega) only [wrap_i64, wrap_u8, wrap_u16, wrap_u32]
  try refine hK _ ?_
  repeat (first | refine awp_seq ?_ | refine awp_block ?_ | refine awp_skip ?_ | refine awp_scope ?_ | refine awp_label ?_)
  refine awp_region tabOk fun K hK => ?_
  simp -dsimp -implicitDefEqProofs only [push_cast, ↓trAdd_f, ↓stOf_f, seval]
  try refine hK _ ?_
  repeat (first | refine awp_seq ?_ | refine awp_block ?_ | refine awp_skip ?_ | refine awp_scope ?_ | refine awp_label ?_)
  refine awp_cond (b := false) (by simp -dsimp -implicitDefEqProofs only [push_cast, ↓trAdd_f, ↓stOf_f, seval]) (fun h => ?_) (fun h => ?_)
  · cases h
  refine awp_skip ?_
  try refine hK _ ?_
  repeat (first | refine awp_seq ?_ | refine awp_block ?_ | refine awp_skip ?_ | refine awp_scope ?_ | refine awp_label ?_)
  refine awp_region tabOk fun K hK => ?_
  simp -dsimp -implicitDefEqProofs only [push_cast, ↓trAdd_f, ↓stOf_f, seval]
  try refine hK _ ?_
  repeat (first | refine awp_seq ?_ | refine awp_block ?_ | refine awp_skip ?_ | refine awp_scope ?_ | refine awp_label ?_)
  refine awp_region tabOk fun K hK => ?_
  simp -dsimp -implicitDefEqProofs only [push_cast, ↓trAdd_f, ↓stOf_f, seval]
  try refine hK _ ?_
  repeat (first | refine awp_seq ?_ | refine awp_block ?_ | refine awp_skip ?_ | refine awp_scope ?_ | refine awp_label ?_)
  refine awp_cond (b := false) (by simp -dsimp -implicitDefEqProofs only [push_cast, ↓trAdd_f, ↓stOf_f, seval]) (fun h => ?_) (fun h => ?_)
  · cases h
  refine awp_skip ?_
  try refine hK _ ?_
  repeat (first | refine awp_seq ?_ | refine awp_block ?_ | refine awp_skip ?_ | refine awp_scope ?_ | refine awp_label ?_)
  refine awp_region tabOk fun K hK => ?_
  simp -dsimp -implicitDefEqProofs only [push_cast, ↓trAdd_f, ↓stOf_f, seval]
  refine ⟨97, [], [], { args := [.int .i64 64], st0 := [], res := .own 0 1 0 64, st1 := [(0, .row 1 [])], r := [] }, rfl, .inr (noZero_ok 64 (by decide)), ?_, ?_⟩
  · simp -dsimp -implicitDefEqProofs only [push_cast, List.mem_append, List.mem_cons, List.mem_singleton, forall_eq_or_imp, forall_eq, ↓trAdd_f, ↓stOf_f, seval]
    rfl
  simp -dsimp -implicitDefEqProofs only [push_cast, ↓trAdd_f, ↓stOf_f, seval]
  refine ⟨fun m hm => hm.symm, hK _ ?_⟩
  try refine hK _ ?_
  repeat (first | refine awp_seq ?_ | refine awp_block ?_ | refine awp_skip ?_ | refine awp_scope ?_ | refine awp_label ?_)
  refine awp_region tabOk fun K hK => ?_
  simp -dsimp -implicitDefEqProofs only [push_cast, ↓trAdd_f, ↓stOf_f, seval]
  refine hK _ ?_
  refine awp_seq (awp_block ?_)
  refine awp_for (fun m : Nat => { sl := [(7, .int .i64 64), (8, .int .i64 64), (9, .own 264 1 0 64), (10, .int .i64 m)], st := [(264, .row 1 (ffs m))], nx := 304, n := 77 }) (fun m => 1 ≤ m ∧ m ≤ 64) (fun m => 64 - m) 1 ⟨Nat.le_refl _, by decide⟩ ?_ fun m hm => ?_
  · have e : ffs 1 = [[.int .u8 255]] := rfl
    refine le_intro hB [] (by simp) (fun b _ => rfl) rfl ?_ ?_ rfl <;> simp -dsimp -implicitDefEqProofs only [e, push_cast, ↓trAdd_f, ↓stOf_f, seval]
    decide
  try refine hK _ ?_
  repeat (first | refine awp_seq ?_ | refine awp_block ?_ | refine awp_skip ?_ | refine awp_scope ?_ | refine awp_label ?_)
  refine awp_region tabOk fun K hK => ?_
  simp -dsimp -implicitDefEqProofs only [push_cast, ↓trAdd_f, ↓stOf_f, seval]
  try refine hK _ ?_
  repeat (first | refine awp_seq ?_ | refine awp_block ?_ | refine awp_skip ?_ | refine awp_scope ?_ | refine awp_label ?_)
  refine awp_cond (b := decide ((m : Int) < 64)) (by simp -dsimp -implicitDefEqProofs only [push_cast, ↓trAdd_f, ↓stOf_f, seval]) (fun h => ?_) (fun h => ?_)
  · have hlt : m < 64 := by simp at h; omega
    refine awp_skip ?_
    have hmin : min (m : Int) 64 = m := by omega
    have hl1 := ffs_len m
    have hl2 : ((ffs m).take m).length = m := by rw [List.length_take, ffs_len]; omega
    have hcp := ffs_copy m m (64 - m) (Nat.le_refl _)
    try refine hK _ ?_
    repeat (first | refine awp_seq ?_ | refine awp_block ?_ | refine awp_skip ?_ | refine awp_scope ?_ | refine awp_label ?_)
    refine awp_region tabOk fun K hK => ?_
    simp -dsimp -implicitDefEqProofs only [hmin, push_cast, ↓trAdd_f, ↓stOf_f, seval]
    try refine hK _ ?_
    repeat (first | refine awp_seq ?_ | refine awp_block ?_ | refine awp_skip ?_ | refine awp_scope ?_ | refine awp_label ?_)
    refine awp_draw tabOk (by kernel_rfl) (by kernel_rfl) fun K hK C hC => ?_
    simp -dsimp -implicitDefEqProofs only [hmin, hl1, hl2, Int.toNat_natCast, push_cast, ↓trAdd_f, ↓stOf_f, seval]
    refine ⟨⟨by omega, by omega⟩, ⟨by omega, by omega⟩, ⟨by omega, by omega, by omega⟩, hC _ (by kernel_rfl), hK _ ?_⟩
    rw [hcp]
    try simp (disch := omega) only [wrap_i64, wrap_u8, wrap_u16, wrap_u32]
    refine ⟨m + min m (64 - m), ⟨by omega, by omega⟩, by omega, ?_⟩
    refine le_intro hB [] (by simp) (fun b _ => rfl) rfl ?_ ?_ rfl <;> simp -dsimp -implicitDefEqProofs only [ren_ffs, ok_ffs, push_cast, ↓trAdd_f, ↓stOf_f, seval]
  have he : m = 64 := by simp at h; omega
  subst he
  refine awp_exit rfl ?_
  try refine hK _ ?_
  repeat (first | refine awp_seq ?_ | refine awp_block ?_ | refine awp_skip ?_ | refine awp_scope ?_ | refine awp_label ?_)
  refine awp_region tabOk fun K hK => ?_
  simp -dsimp -implicitDefEqProofs only [push_cast, ↓trAdd_f, ↓stOf_f, seval]
  refine hK _ (awp_ret ?_)
  have f1 : (∀ e ∈ ffs 64, ∀ c ∈ e, c.fz = true) = True := eq_true fun e he c hc => by rw [(List.mem_replicate.1 he).2] at hc; simp at hc; subst hc; rfl
  have f2 : (ffs 64).take 64 = ffs 64 := rfl
  have f3 : (ffs 64).length = 64 := rfl
  generalize ffs 64 = q at *
  simp -dsimp -implicitDefEqProofs only [f1, f2, f3, push_cast, List.mem_append, List.mem_cons, List.mem_singleton, forall_eq_or_imp, forall_eq, ↓trAdd_f, ↓stOf_f, seval]
def clean64 : List Int := List.replicate 64 255
theorem clean64_map : clean64.map encB = ffs 64 := by simp [clean64, ffs, encB]
theorem clean_ok : FnS Tryd.prog 70 [] [] (.sl false 1 (clean64.map encB)) [] := by
  rw [clean64_map]
  refine fn_walk tabOk Tryd.func70 rfl (by decide +kernel) Tryd.ntmps70 Tryd.results70 (by simp) fun B hB => ?_
  try refine hK _ ?_
  repeat (first | refine awp_seq ?_ | refine awp_block ?_ | refine awp_skip ?_ | refine awp_scope ?_ | refine awp_label ?_)
  refine awp_region tabOk fun K hK => ?_
  simp -dsimp -implicitDefEqProofs only [push_cast, ↓trAdd_f, ↓stOf_f, seval]
  try refine hK _ ?_
  repeat (first | refine awp_seq ?_ | refine awp_block ?_ | refine awp_skip ?_ | refine awp_scope ?_ | refine awp_label ?_)
  refine awp_region tabOk fun K hK => ?_
  simp -dsimp -implicitDefEqProofs only [push_cast, ↓trAdd_f, ↓stOf_f, seval]
  refine callK_simple repeat_ok ?_ rfl fun _ => ?_
  · simp -dsimp -implicitDefEqProofs only [push_cast, List.mem_append, List.mem_cons, List.mem_singleton, forall_eq_or_imp, forall_eq, ↓trAdd_f, ↓stOf_f, seval]
  simp -dsimp -implicitDefEqProofs only [push_cast, ↓trAdd_f, ↓stOf_f, seval]
  refine hK _ (awp_ret ?_)
  simp -dsimp -implicitDefEqProofs only [push_cast, List.mem_append, List.mem_cons, List.mem_singleton, forall_eq_or_imp, forall_eq, ↓trAdd_f, ↓stOf_f, seval]
theorem cloneI_ok (l : List Int) (h0 : l ≠ []) (hl : l.length ≤ 2 ^ 40) : FnS Tryd.prog 73 [.sl false 1 (l.map encI)] [] (.own 0 1 0 l.length) [(0, .row 1 (l.map encI))] := by
  have hne : (l.map encI).isEmpty = false := by cases l <;> simp at h0 ⊢
  have f1 : (∀ e ∈ l.map encI, ∀ c ∈ e, c.fz = true) := fz_map encI_fz l
  have f2 := fun r => map_ren_fz (l.map encI) f1 r
  have f3 := fun S => all_ok_fz (l.map encI) f1 S
  refine fn_walkN tabOk Tryd.func73 rfl (by decide +kernel) Tryd.ntmps73 Tryd.results73 (by simp) fun B hB => ?_
  try refine hK _ ?_
  repeat (first | refine awp_seq ?_ | refine awp_block ?_ | refine awp_skip ?_ | refine awp_scope ?_ | refine awp_label ?_)
  refine awp_region tabOk fun K hK => ?_
  simp -dsimp -implicitDefEqProofs only [push_cast, ↓trAdd_f, ↓stOf_f, seval]
  try refine hK _ ?_
  repeat (first | refine awp_seq ?_ | refine awp_block ?_ | refine awp_skip ?_ | refine awp_scope ?_ | refine awp_label ?_)
  refine awp_region tabOk fun K hK => ?_
  simp -dsimp -implicitDefEqProofs only [hne, push_cast, ↓trAdd_f, ↓stOf_f, seval]
  try refine hK _ ?_
  repeat (first | refine awp_seq ?_ | refine awp_block ?_ | refine awp_skip ?_ | refine awp_scope ?_ | refine awp_label ?_)
  refine awp_cond (b := false) (by simp -dsimp -implicitDefEqProofs only [push_cast, ↓trAdd_f, ↓stOf_f, seval]) (fun h => ?_) (fun h => ?_)
  · cases h
  refine awp_skip ?_
  try refine hK _ ?_
  repeat (first | refine awp_seq ?_ | refine awp_block ?_ | refine awp_skip ?_ | refine awp_scope ?_ | refine awp_label ?_)
  refine awp_region tabOk fun K hK => ?_
  simp -dsimp -implicitDefEqProofs only [push_cast, ↓trAdd_f, ↓stOf_f, seval]
  refine ⟨⟨by omega, by omega⟩, hK _ ?_⟩
  refine awp_le (s' := { sl := [(2, .own 0 1 0 l.length)], st := [(0, .row 1 (l.map encI))], nx := 8, n := 8 }) ?_ (awp_ret ?_)
  · refine le_intro hB [(0, 40)] (by simp) (fun b hb => absurd hb (Nat.not_lt_zero b)) rfl ?_ ?_ rfl <;> simp -dsimp -implicitDefEqProofs only [f2, f3, push_cast, ↓trAdd_f, ↓stOf_f, seval]
  simp -dsimp -implicitDefEqProofs only [f3, push_cast, List.mem_append, List.mem_cons, List.mem_singleton, forall_eq_or_imp, forall_eq, ↓trAdd_f, ↓stOf_f, seval]
theorem cloneP_ok (l : List (List Int)) (h0 : l ≠ []) (hl : l.length ≤ 2 ^ 40) : FnS Tryd.prog 90 [.sl false 1 (l.map encP)] [] (.own 0 1 0 l.length) [(0, .row 1 (l.map encP))] := by
  have hne : (l.map encP).isEmpty = false := by cases l <;> simp at h0 ⊢
  have f1 : (∀ e ∈ l.map encP, ∀ c ∈ e, c.fz = true) := fz_map (fun x c hc => by simp [encP] at hc; subst hc; rfl) l
  have f2 := fun r => map_ren_fz (l.map encP) f1 r
  have f3 := fun S => all_ok_fz (l.map encP) f1 S
  refine fn_walkN tabOk Tryd.func90 rfl (by decide +kernel) Tryd.ntmps90 Tryd.results90 (by simp) fun B hB => ?_
  try refine hK _ ?_
  repeat (first | refine awp_seq ?_ | refine awp_block ?_ | refine awp_skip ?_ | refine awp_scope ?_ | refine awp_label ?_)
  refine awp_region tabOk fun K hK => ?_
  simp -dsimp -implicitDefEqProofs only [push_cast, ↓trAdd_f, ↓stOf_f, seval]
  try refine hK _ ?_
  repeat (first | refine awp_seq ?_ | refine awp_block ?_ | refine awp_skip ?_ | refine awp_scope ?_ | refine awp_label ?_)
  refine awp_region tabOk fun K hK => ?_
  simp -dsimp -implicitDefEqProofs only [hne, push_cast, ↓trAdd_f, ↓stOf_f, seval]
  try refine hK _ ?_
  repeat (first | refine awp_seq ?_ | refine awp_block ?_ | refine awp_skip ?_ | refine awp_scope ?_ | refine awp_label ?_)
  refine awp_cond (b := false) (by simp -dsimp -implicitDefEqProofs only [push_cast, ↓trAdd_f, ↓stOf_f, seval]) (fun h => ?_) (fun h => ?_)
  · cases h
  refine awp_skip ?_
  try refine hK _ ?_
  repeat (first | refine awp_seq ?_ | refine awp_block ?_ | refine awp_skip ?_ | refine awp_scope ?_ | refine awp_label ?_)
  refine awp_region tabOk fun K hK => ?_
  simp -dsimp -implicitDefEqProofs only [push_cast, ↓trAdd_f, ↓stOf_f, seval]
  refine ⟨⟨by omega, by omega⟩, hK _ ?_⟩
  refine awp_le (s' := { sl := [(2, .own 0 1 0 l.length)], st := [(0, .row 1 (l.map encP))], nx := 8, n := 8 }) ?_ (awp_ret ?_)
  · refine le_intro hB [(0, 40)] (by simp) (fun b hb => absurd hb (Nat.not_lt_zero b)) rfl ?_ ?_ rfl <;> simp -dsimp -implicitDefEqProofs only [f2, f3, push_cast, ↓trAdd_f, ↓stOf_f, seval]
  simp -dsimp -implicitDefEqProofs only [f3, push_cast, List.mem_append, List.mem_cons, List.mem_singleton, forall_eq_or_imp, forall_eq, ↓trAdd_f, ↓stOf_f, seval]
end Go.Proofs.YtoifmpiikopelaaDoorFw

/-
  Walks: flash.in, own.
-/
namespace Go.Proofs.YtoifmpiikopelaaDoorFw
open Go Go.Proofs
set_option maxRecDepth 100000
set_option maxHeartbeats 4000000
set_option linter.unusedVariables false
set_option linter.unusedSimpArgs false

theorem encP_fz (p : List Int) : ∀ c ∈ encP p, c.fz = true := by simp [encP, PV.fz]
def inF (f : Flash) (page at_ n : Int) : Bool := decide (0 ≤ page) && (decide (page < (f.pages.length : Int)) && (decide (0 ≤ at_) && (decide (0 ≤ n) && (decide (at_ ≤ 64) && decide (n ≤ 64 - at_)))))
theorem inF_iff (f : Flash) (page at_ n : Int) : inF f page at_ n = true ↔ (0 ≤ page ∧ page < f.pages.length) ∧ 0 ≤ at_ ∧ 0 ≤ n ∧ at_ + n ≤ 64 := by
  simp only [inF, Bool.and_eq_true, decide_eq_true_eq]
  omega
theorem in_ok (f : Flash) (page at_ n : Int) : FnS Tryd.prog 71 [.agg (encFlash f), .int .i64 page, .int .i64 at_, .int .i64 n] [] (.bool (inF f page at_ n)) [] := by
  refine fn_walk tabOk Tryd.func71 rfl (by decide +kernel) Tryd.ntmps71 Tryd.results71 (by simp) fun B hB => ?_
  try refine hK _ ?_
  repeat (first | refine awp_seq ?_ | refine awp_block ?_ | refine awp_skip ?_ | refine awp_scope ?_ | refine awp_label ?_)
  refine awp_region tabOk fun K hK => ?_
  simp -dsimp -implicitDefEqProofs only [encFlash, push_cast, ↓trAdd_f, ↓stOf_f, seval]
  try refine hK _ ?_
  repeat (first | refine awp_seq ?_ | refine awp_block ?_ | refine awp_skip ?_ | refine awp_scope ?_ | refine awp_label ?_)
  refine awp_region tabOk fun K hK => ?_
  simp -dsimp -implicitDefEqProofs only [push_cast, ↓trAdd_f, ↓stOf_f, seval]
  cases h1 : decide (0 ≤ page)
  · have e : inF f page at_ n = false := by simp only [inF, h1, Bool.false_and]
    simp -dsimp -implicitDefEqProofs only [push_cast, ↓trAdd_f, ↓stOf_f, seval]
    refine hK _ (awp_ret ?_)
    simp -dsimp -implicitDefEqProofs only [e, push_cast, List.mem_append, List.mem_cons, List.mem_singleton, forall_eq_or_imp, forall_eq, ↓trAdd_f, ↓stOf_f, seval]
  simp -dsimp -implicitDefEqProofs only [push_cast, ↓trAdd_f, ↓stOf_f, seval]
  cases h2 : decide (page < (f.pages.length : Int))
  · have e : inF f page at_ n = false := by simp only [inF, h1, h2, Bool.false_and, Bool.and_false]
    simp -dsimp -implicitDefEqProofs only [push_cast, ↓trAdd_f, ↓stOf_f, seval]
    refine hK _ (awp_ret ?_)
    simp -dsimp -implicitDefEqProofs only [e, push_cast, List.mem_append, List.mem_cons, List.mem_singleton, forall_eq_or_imp, forall_eq, ↓trAdd_f, ↓stOf_f, seval]
  simp -dsimp -implicitDefEqProofs only [push_cast, ↓trAdd_f, ↓stOf_f, seval]
  cases h3 : decide (0 ≤ at_)
  · have e : inF f page at_ n = false := by simp only [inF, h1, h2, h3, Bool.false_and, Bool.and_false]
    simp -dsimp -implicitDefEqProofs only [push_cast, ↓trAdd_f, ↓stOf_f, seval]
    refine hK _ (awp_ret ?_)
    simp -dsimp -implicitDefEqProofs only [e, push_cast, List.mem_append, List.mem_cons, List.mem_singleton, forall_eq_or_imp, forall_eq, ↓trAdd_f, ↓stOf_f, seval]
  simp -dsimp -implicitDefEqProofs only [push_cast, ↓trAdd_f, ↓stOf_f, seval]
  cases h4 : decide (0 ≤ n)
  · have e : inF f page at_ n = false := by simp only [inF, h1, h2, h3, h4, Bool.false_and, Bool.and_false]
    simp -dsimp -implicitDefEqProofs only [push_cast, ↓trAdd_f, ↓stOf_f, seval]
    refine hK _ (awp_ret ?_)
    simp -dsimp -implicitDefEqProofs only [e, push_cast, List.mem_append, List.mem_cons, List.mem_singleton, forall_eq_or_imp, forall_eq, ↓trAdd_f, ↓stOf_f, seval]
  simp -dsimp -implicitDefEqProofs only [push_cast, ↓trAdd_f, ↓stOf_f, seval]
  cases h5 : decide (at_ ≤ 64)
  · have e : inF f page at_ n = false := by simp only [inF, h1, h2, h3, h4, h5, Bool.false_and, Bool.and_false]
    simp -dsimp -implicitDefEqProofs only [push_cast, ↓trAdd_f, ↓stOf_f, seval]
    refine hK _ (awp_ret ?_)
    simp -dsimp -implicitDefEqProofs only [e, push_cast, List.mem_append, List.mem_cons, List.mem_singleton, forall_eq_or_imp, forall_eq, ↓trAdd_f, ↓stOf_f, seval]
  simp -dsimp -implicitDefEqProofs only [push_cast, ↓trAdd_f, ↓stOf_f, seval]
  have e : inF f page at_ n = decide (n ≤ 64 - at_) := by simp only [inF, h1, h2, h3, h4, h5, Bool.true_and]
  have q1 : 0 ≤ at_ := by simpa using h3
  have q2 : at_ ≤ 64 := by simpa using h5
  try simp (disch := omega) only [wrap_i64, wrap_u8, wrap_u16, wrap_u32]
  refine hK _ (awp_ret ?_)
  simp -dsimp -implicitDefEqProofs only [e, push_cast, List.mem_append, List.mem_cons, List.mem_singleton, forall_eq_or_imp, forall_eq, ↓trAdd_f, ↓stOf_f, seval]

/-- The pages of a flash of which one is its own, under an id. -/
def ownR (ps : List (List Int)) (k b : Nat) : List (List PV) := (ps.map encP).set k [.own b 1 0 64]
theorem ownR_len (ps : List (List Int)) (k b : Nat) : (ownR ps k b).length = ps.length := by simp [ownR]
theorem ren_ownR (ps : List (List Int)) (k b : Nat) (r : Nat → Nat) : (ownR ps k b).map (renL r) = ownR ps k (r b) := by
  unfold ownR
  rw [List.map_set, map_ren_fz _ (fz_map encP_fz ps) r]
  simp [renL, PV.ren]
theorem ok_ownR (ps : List (List Int)) (k b : Nat) (hk : k < ps.length) (S : Nat → Prop) : (∀ e ∈ ownR ps k b, okL S e) = S b := by
  have f3 := all_ok_fz _ (fz_map encP_fz ps) S
  refine propext ⟨fun h => ?_, fun h e he => ?_⟩
  · have := h [.own b 1 0 64] (List.mem_of_getElem? (by unfold ownR; rw [List.getElem?_set_self (by simpa using hk)]))
    simpa [okL, PV.ok] using this
  · rcases List.mem_or_eq_of_mem_set he with he | rfl
    · exact (of_eq_true f3) e he
    · simpa [okL, PV.ok] using h
theorem ownR_get (ps : List (List Int)) (k b : Nat) (hk : k < ps.length) : (ownR ps k b).getD k [] = [.own b 1 0 64] := by
  unfold ownR
  simp [List.getD, hk]
theorem own_ok (f : Flash) (k : Nat) (hk : k < f.pages.length) (h64 : f.pages[k].length = 64) (hl : f.pages.length ≤ 2 ^ 40) :
    FnS Tryd.prog 72 [.agg (encFlash f), .int .i64 k] [] (.agg [.own 0 1 0 f.pages.length, .sl false 1 (f.wear.map encI), .int .i64 f.left, .bool f.down])
      [(0, .row 1 (ownR f.pages k 1)), (1, .row 1 (f.pages[k].map encB))] := by
  have hne : f.pages ≠ [] := by intro e; rw [e] at hk; simp at hk
  have f1 : (∀ e ∈ f.pages.map encP, ∀ c ∈ e, c.fz = true) := fz_map encP_fz f.pages
  have f2 := fun r => map_ren_fz (f.pages.map encP) f1 r
  have f3 := fun S => all_ok_fz (f.pages.map encP) f1 S
  have g1 : (∀ e ∈ f.pages[k].map encB, ∀ c ∈ e, c.fz = true) := fz_map encB_fz f.pages[k]
  have g2 := fun r => map_ren_fz (f.pages[k].map encB) g1 r
  have g3 := fun S => all_ok_fz (f.pages[k].map encB) g1 S
  refine fn_walkN tabOk Tryd.func72 rfl (by decide +kernel) Tryd.ntmps72 Tryd.results72 (by simp) fun B hB => ?_
  try refine hK _ ?_
  repeat (first | refine awp_seq ?_ | refine awp_block ?_ | refine awp_skip ?_ | refine awp_scope ?_ | refine awp_label ?_)
  refine awp_region tabOk fun K hK => ?_
  simp -dsimp -implicitDefEqProofs only [encFlash, push_cast, ↓trAdd_f, ↓stOf_f, seval]
  try refine hK _ ?_
  repeat (first | refine awp_seq ?_ | refine awp_block ?_ | refine awp_skip ?_ | refine awp_scope ?_ | refine awp_label ?_)
  refine awp_region tabOk fun K hK => ?_
  simp -dsimp -implicitDefEqProofs only [push_cast, ↓trAdd_f, ↓stOf_f, seval]
  refine ⟨90, [], [], { args := [.sl false 1 (f.pages.map encP)], st0 := [], res := .own 0 1 0 f.pages.length, st1 := [(0, .row 1 (f.pages.map encP))], r := [] }, rfl, .inl (cloneP_ok f.pages hne hl), ?_, ?_⟩
  · simp -dsimp -implicitDefEqProofs only [f3, push_cast, List.mem_append, List.mem_cons, List.mem_singleton, forall_eq_or_imp, forall_eq, ↓trAdd_f, ↓stOf_f, seval]
    rfl
  simp -dsimp -implicitDefEqProofs only [f2, push_cast, ↓trAdd_f, ↓stOf_f, seval]
  refine hK _ ?_
  try refine hK _ ?_
  repeat (first | refine awp_seq ?_ | refine awp_block ?_ | refine awp_skip ?_ | refine awp_scope ?_ | refine awp_label ?_)
  refine awp_region tabOk fun K hK => ?_
  simp -dsimp -implicitDefEqProofs only [push_cast, ↓trAdd_f, ↓stOf_f, seval]
  refine hK _ ?_
  have htake : (f.pages[k].map encB).take 64 = f.pages[k].map encB := List.take_of_length_le (by simp; omega)
  have hlen : (f.pages.map encP).length = f.pages.length := by simp
  try refine hK _ ?_
  repeat (first | refine awp_seq ?_ | refine awp_block ?_ | refine awp_skip ?_ | refine awp_scope ?_ | refine awp_label ?_)
  refine awp_region tabOk fun K hK => ?_
  simp -dsimp -implicitDefEqProofs only [hk, getD_map, encP, h64, Nat.min_self, htake, push_cast, ↓trAdd_f, ↓stOf_f, seval]
  refine ⟨⟨by omega, by omega⟩, hK _ ?_⟩
  try refine hK _ ?_
  repeat (first | refine awp_seq ?_ | refine awp_block ?_ | refine awp_skip ?_ | refine awp_scope ?_ | refine awp_label ?_)
  refine awp_region tabOk fun K hK => ?_
  simp -dsimp -implicitDefEqProofs only [hk, hlen, push_cast, ↓trAdd_f, ↓stOf_f, seval]
  refine ⟨⟨by omega, by omega⟩, hK _ ?_⟩
  try refine hK _ ?_
  repeat (first | refine awp_seq ?_ | refine awp_block ?_ | refine awp_skip ?_ | refine awp_scope ?_ | refine awp_label ?_)
  refine awp_region tabOk fun K hK => ?_
  simp -dsimp -implicitDefEqProofs only [push_cast, ↓trAdd_f, ↓stOf_f, seval]
  refine hK _ ?_
  have hd1 : (f.pages.map encP).set k (PV.own 56 1 0 64 :: List.drop 1 ((f.pages.map encP).getD k [])) = ownR f.pages k 56 := by
    rw [getD_map encP f.pages k hk]; rfl
  rw [hd1]
  have r1 := ren_ownR f.pages k 1
  have r2 := ok_ownR f.pages k 1 hk
  refine awp_le (s' := { sl := [(4, .ptr 2 0)], st := [(0, .row 1 (ownR f.pages k 1)), (1, .row 1 (f.pages[k].map encB)), (2, .box [.own 0 1 0 f.pages.length, .sl false 1 (f.wear.map encI), .int .i64 f.left, .bool f.down])], nx := 8, n := 24 }) ?_ (awp_ret ?_)
  · refine le_intro hB [(0, 32), (1, 56), (2, 8)] (by simp) (fun b hb => absurd hb (Nat.not_lt_zero b)) rfl ?_ ?_ rfl <;> simp -dsimp -implicitDefEqProofs only [g2, g3, r1, r2, push_cast, ↓trAdd_f, ↓stOf_f, seval]
  simp -dsimp -implicitDefEqProofs only [g3, r2, push_cast, List.mem_append, List.mem_cons, List.mem_singleton, forall_eq_or_imp, forall_eq, ↓trAdd_f, ↓stOf_f, seval]
end Go.Proofs.YtoifmpiikopelaaDoorFw

/-
  Walks: Erase's two functions, do with them.
-/
namespace Go.Proofs.YtoifmpiikopelaaDoorFw
open Go Go.Proofs
set_option maxRecDepth 100000
set_option maxHeartbeats 4000000
set_option linter.unusedVariables false
set_option linter.unusedSimpArgs false

theorem set_encI (w : List Int) (k : Nat) (v : Int) : (w.map encI).set k [.int .i64 v] = (w.set k v).map encI := by rw [List.map_set]; rfl
theorem set_encB (w : List Int) (k : Nat) (v : Int) : (w.map encB).set k [.int .u8 v] = (w.set k v).map encB := by rw [List.map_set]; rfl
theorem bytes_ren (l : List Int) (r : Nat → Nat) : (l.map encB).map (renL r) = l.map encB := map_ren_fz _ (fz_map encB_fz l) r
theorem bytes_okl (l : List Int) (S : Nat → Prop) : (∀ e ∈ l.map encB, okL S e) = True := all_ok_fz _ (fz_map encB_fz l) S
theorem bytes_fz (l : List Int) : (∀ e ∈ l.map encB, ∀ c ∈ e, c.fz = true) = True := eq_true (fz_map encB_fz l)
theorem ints_ren (l : List Int) (r : Nat → Nat) : (l.map encI).map (renL r) = l.map encI := map_ren_fz _ (fz_map encI_fz l) r
theorem ints_okl (l : List Int) (S : Nat → Prop) : (∀ e ∈ l.map encI, okL S e) = True := all_ok_fz _ (fz_map encI_fz l) S
theorem ints_fz (l : List Int) : (∀ e ∈ l.map encI, ∀ c ∈ e, c.fz = true) = True := eq_true (fz_map encI_fz l)
theorem pages_ren (l : List (List Int)) (r : Nat → Nat) : (l.map encP).map (renL r) = l.map encP := map_ren_fz _ (fz_map encP_fz l) r
theorem pages_okl (l : List (List Int)) (S : Nat → Prop) : (∀ e ∈ l.map encP, okL S e) = True := all_ok_fz _ (fz_map encP_fz l) S
theorem pages_fz (l : List (List Int)) : (∀ e ∈ l.map encP, ∀ c ∈ e, c.fz = true) = True := eq_true (fz_map encP_fz l)

/-- What Erase lends to its two functions, and to do. -/
def stE (ps : List (List Int)) (w : List Int) (m : Nat) (left : Int) (down : Bool) (k : Nat) (pg : List Int) : List (Nat × Blk) :=
  [(0, .box [.own 2 1 0 ps.length, .own 4 1 0 m, .int .i64 left, .bool down]), (1, .box [.int .i64 k]), (2, .row 1 (ownR ps k 3)), (3, .row 1 (pg.map encB)), (4, .row 1 (w.map encI))]
def worn (w : List Int) (k : Nat) (h : k < w.length) : List Int := w.set k (min (w[k] + 1) 1099511627776)
theorem erase1_ok (ps : List (List Int)) (w : List Int) (left : Int) (down : Bool) (k : Nat) (pg : List Int) (hk : k < ps.length) (hw : k < w.length) (hpg : pg.length = 64) (hl : ps.length ≤ 80) (hlw : w.length ≤ 80)
    (hv : 0 ≤ w[k] ∧ w[k] ≤ 1099511627776) : FnS Tryd.prog 74 [.ptr 0 0, .ptr 1 0] (stE ps w w.length left down k pg) (.tup []) (stE ps (worn w k hw) w.length left down k clean64) := by
  have h1 := ownR_len ps k 3
  have h2 := ownR_get ps k 3 hk
  have hcl : (clean64.map encB).length = 64 := by simp [clean64]
  have hct : (clean64.map encB).take 64 = clean64.map encB := List.take_of_length_le (by simp [clean64])
  have hpl : (pg.map encB).length = 64 := by simp [hpg]
  have hpd : (pg.map encB).drop 64 = [] := List.drop_of_length_le (by simp [hpg])
  simp only [stE]
  refine fn_walk tabOk Tryd.func74 rfl (by decide +kernel) Tryd.ntmps74 Tryd.results74 (by simp) fun B hB => ?_
  try refine hK _ ?_
  repeat (first | refine awp_seq ?_ | refine awp_block ?_ | refine awp_skip ?_ | refine awp_scope ?_ | refine awp_label ?_)
  refine awp_draw tabOk (by kernel_rfl) (by kernel_rfl) fun K hK C hC => ?_
  simp -dsimp -implicitDefEqProofs only [h1, h2, push_cast, ↓trAdd_f, ↓stOf_f, seval]
  refine ⟨⟨by omega, by omega⟩, by omega, ?_⟩
  refine callK_simple clean_ok ?_ rfl fun _ => ?_
  · simp -dsimp -implicitDefEqProofs only [push_cast, List.mem_append, List.mem_cons, List.mem_singleton, forall_eq_or_imp, forall_eq, ↓trAdd_f, ↓stOf_f, seval]
  simp -dsimp -implicitDefEqProofs only [hcl, hct, hpl, hpd, Nat.min_self, push_cast, ↓trAdd_f, ↓stOf_f, seval]
  refine ⟨hC _ (by kernel_rfl), hK _ ?_⟩
  have hset := set_encI w k (min (w[k] + 1) 1099511627776)
  have hww : worn w k hw = w.set k (min (w[k] + 1) 1099511627776) := rfl
  try refine hK _ ?_
  repeat (first | refine awp_seq ?_ | refine awp_block ?_ | refine awp_skip ?_ | refine awp_scope ?_ | refine awp_label ?_)
  refine awp_draw tabOk (by kernel_rfl) (by kernel_rfl) fun K hK C hC => ?_
  simp -dsimp -implicitDefEqProofs only [hw, getD_map, encI, push_cast, ↓trAdd_f, ↓stOf_f, seval]
  try simp (disch := omega) only [wrap_i64, wrap_u8, wrap_u16, wrap_u32]
  refine ⟨⟨by omega, by omega⟩, ⟨by omega, by omega⟩, hC _ (by kernel_rfl), hK _ ?_⟩
  rw [hset]
  simp -dsimp -implicitDefEqProofs only [ok_ownR, bytes_okl, ints_okl, hk, hww, encI, push_cast, List.mem_append, List.mem_cons, List.mem_singleton, forall_eq_or_imp, forall_eq, ↓trAdd_f, ↓stOf_f, seval]

def tornP (pg : List Int) : List Int := clean64.take 32 ++ pg.drop 32
theorem erase2_ok (ps : List (List Int)) (w : List Int) (left : Int) (down : Bool) (k : Nat) (pg : List Int) (hk : k < ps.length) (hpg : pg.length = 64) (hl : ps.length ≤ 80) :
    FnS Tryd.prog 75 [.ptr 0 0, .ptr 1 0] (stE ps w w.length left down k pg) (.tup []) (stE ps w w.length left down k (tornP pg)) := by
  have h1 := ownR_len ps k 3
  have h2 := ownR_get ps k 3 hk
  have hcl : (clean64.map encB).length = 64 := by simp [clean64]
  have hct : ((clean64.map encB).take 32).length = 32 := by simp [clean64]
  have hcu : ((clean64.map encB).take 32).take 64 = (clean64.map encB).take 32 := List.take_of_length_le (by omega)
  have hpl : (pg.map encB).length = 64 := by simp [hpg]
  have htp : (clean64.map encB).take 32 ++ (pg.map encB).drop 32 = (tornP pg).map encB := by simp [tornP]
  simp only [stE]
  refine fn_walk tabOk Tryd.func75 rfl (by decide +kernel) Tryd.ntmps75 Tryd.results75 (by simp) fun B hB => ?_
  try refine hK _ ?_
  repeat (first | refine awp_seq ?_ | refine awp_block ?_ | refine awp_skip ?_ | refine awp_scope ?_ | refine awp_label ?_)
  refine awp_draw tabOk (by kernel_rfl) (by kernel_rfl) fun K hK C hC => ?_
  simp -dsimp -implicitDefEqProofs only [h1, h2, push_cast, ↓trAdd_f, ↓stOf_f, seval]
  refine ⟨⟨by omega, by omega⟩, by omega, ?_⟩
  refine callK_simple clean_ok ?_ rfl fun _ => ?_
  · simp -dsimp -implicitDefEqProofs only [push_cast, List.mem_append, List.mem_cons, List.mem_singleton, forall_eq_or_imp, forall_eq, ↓trAdd_f, ↓stOf_f, seval]
  have hm : min 32 64 = 32 := rfl
  simp -dsimp -implicitDefEqProofs only [hcl, hct, hcu, hm, htp, push_cast, ↓trAdd_f, ↓stOf_f, seval]
  refine ⟨by omega, hC _ (by kernel_rfl), hK _ ?_⟩
  simp -dsimp -implicitDefEqProofs only [ok_ownR, bytes_okl, ints_okl, hk, encI, push_cast, List.mem_append, List.mem_cons, List.mem_singleton, forall_eq_or_imp, forall_eq, ↓trAdd_f, ↓stOf_f, seval]
def decL (left : Int) : Int := if 0 < left then left - 1 else left
theorem do1_torn (ps : List (List Int)) (w : List Int) (down : Bool) (k : Nat) (pg : List Int) (hk : k < ps.length) (hpg : pg.length = 64) (hl : ps.length ≤ 80) :
    FnS Tryd.prog 76 [.ptr 0 0, .agg [.fn (.func 74) [] [.ptr 0 0, .ptr 1 0], .fn (.func 75) [] [.ptr 0 0, .ptr 1 0]]] (stE ps w w.length 0 down k pg) (.bool false) (stE ps w w.length 0 true k (tornP pg)) := by
  have he := erase2_ok ps w 0 true k pg hk hpg hl
  simp only [stE] at he ⊢
  refine fn_walk tabOk Tryd.func76 rfl (by decide +kernel) Tryd.ntmps76 Tryd.results76 (by simp) fun B hB => ?_
  try refine hK _ ?_
  repeat (first | refine awp_seq ?_ | refine awp_block ?_ | refine awp_skip ?_ | refine awp_scope ?_ | refine awp_label ?_)
  refine awp_region tabOk fun K hK => ?_
  simp -dsimp -implicitDefEqProofs only [push_cast, ↓trAdd_f, ↓stOf_f, seval]
  try refine hK _ ?_
  repeat (first | refine awp_seq ?_ | refine awp_block ?_ | refine awp_skip ?_ | refine awp_scope ?_ | refine awp_label ?_)
  refine awp_region tabOk fun K hK => ?_
  simp -dsimp -implicitDefEqProofs only [push_cast, ↓trAdd_f, ↓stOf_f, seval]
  try refine hK _ ?_
  repeat (first | refine awp_seq ?_ | refine awp_block ?_ | refine awp_skip ?_ | refine awp_scope ?_ | refine awp_label ?_)
  refine awp_cond (b := true) (by simp -dsimp -implicitDefEqProofs only [push_cast, ↓trAdd_f, ↓stOf_f, seval]) (fun h => ?_) (fun h => ?_)
  rotate_left
  · cases h
  try refine hK _ ?_
  repeat (first | refine awp_seq ?_ | refine awp_block ?_ | refine awp_skip ?_ | refine awp_scope ?_ | refine awp_label ?_)
  refine awp_region tabOk fun K hK => ?_
  simp -dsimp -implicitDefEqProofs only [push_cast, ↓trAdd_f, ↓stOf_f, seval]
  refine hK _ ?_
  try refine hK _ ?_
  repeat (first | refine awp_seq ?_ | refine awp_block ?_ | refine awp_skip ?_ | refine awp_scope ?_ | refine awp_label ?_)
  refine awp_region tabOk fun K hK => ?_
  simp -dsimp -implicitDefEqProofs only [push_cast, ↓trAdd_f, ↓stOf_f, seval]
  refine ⟨75, [], [.ptr 0 0, .ptr 1 0], { args := [.ptr 0 0, .ptr 1 0], st0 := stE ps w w.length 0 true k pg, res := .tup [], st1 := stE ps w w.length 0 true k (tornP pg), r := [0, 1, 2, 3, 4] }, rfl, .inl he, ?_, ?_⟩
  · simp -dsimp -implicitDefEqProofs only [stE, ok_ownR, ren_ownR, bytes_okl, ints_okl, bytes_ren, ints_ren, hk, push_cast, List.mem_append, List.mem_cons, List.mem_singleton, forall_eq_or_imp, forall_eq, ↓trAdd_f, ↓stOf_f, seval]
    rfl
  simp -dsimp -implicitDefEqProofs only [stE, ok_ownR, ren_ownR, bytes_okl, ints_okl, bytes_ren, ints_ren, hk, push_cast, ↓trAdd_f, ↓stOf_f, seval]
  refine hK _ ?_
  try refine hK _ ?_
  repeat (first | refine awp_seq ?_ | refine awp_block ?_ | refine awp_skip ?_ | refine awp_scope ?_ | refine awp_label ?_)
  refine awp_region tabOk fun K hK => ?_
  simp -dsimp -implicitDefEqProofs only [push_cast, ↓trAdd_f, ↓stOf_f, seval]
  refine hK _ (awp_ret ?_)
  simp -dsimp -implicitDefEqProofs only [ok_ownR, bytes_okl, ints_okl, hk, push_cast, List.mem_append, List.mem_cons, List.mem_singleton, forall_eq_or_imp, forall_eq, ↓trAdd_f, ↓stOf_f, seval]
theorem do1_whole (ps : List (List Int)) (w : List Int) (left : Int) (down : Bool) (k : Nat) (pg : List Int) (hk : k < ps.length) (hw : k < w.length) (hpg : pg.length = 64) (hl : ps.length ≤ 80) (hlw : w.length ≤ 80)
    (hv : 0 ≤ w[k] ∧ w[k] ≤ 1099511627776) (h0 : left ≠ 0) (hI : -1 ≤ left ∧ left ≤ 9223372036854775807) :
    FnS Tryd.prog 76 [.ptr 0 0, .agg [.fn (.func 74) [] [.ptr 0 0, .ptr 1 0], .fn (.func 75) [] [.ptr 0 0, .ptr 1 0]]] (stE ps w w.length left down k pg) (.bool true) (stE ps (worn w k hw) w.length (decL left) down k clean64) := by
  have he := erase1_ok ps w (decL left) down k pg hk hw hpg hl hlw hv
  have hl0 : (left == 0) = false := by simpa using h0
  simp only [stE] at he ⊢
  refine fn_walk tabOk Tryd.func76 rfl (by decide +kernel) Tryd.ntmps76 Tryd.results76 (by simp) fun B hB => ?_
  try refine hK _ ?_
  repeat (first | refine awp_seq ?_ | refine awp_block ?_ | refine awp_skip ?_ | refine awp_scope ?_ | refine awp_label ?_)
  refine awp_region tabOk fun K hK => ?_
  simp -dsimp -implicitDefEqProofs only [push_cast, ↓trAdd_f, ↓stOf_f, seval]
  refine hK _ ?_
  refine awp_seq ?_
  refine awp_join ({ sl := [(3, .ptr 5 0)], st := [(0, .box [.own 2 1 0 ps.length, .own 4 1 0 w.length, .int .i64 (decL left), .bool down]), (1, .box [.int .i64 k]), (2, .row 1 (ownR ps k 3)), (3, .row 1 (pg.map encB)), (4, .row 1 (w.map encI)), (5, .box [.fn (.func 74) [] [.ptr 0 0, .ptr 1 0], .fn (.func 75) [] [.ptr 0 0, .ptr 1 0]])], nx := 13, n := 33 }) ?_ (fun _ hl h => awp_le hl h) ?_
  · try refine hK _ ?_
    repeat (first | refine awp_seq ?_ | refine awp_block ?_ | refine awp_skip ?_ | refine awp_scope ?_ | refine awp_label ?_)
    refine awp_region tabOk fun K hK => ?_
    simp -dsimp -implicitDefEqProofs only [hl0, push_cast, ↓trAdd_f, ↓stOf_f, seval]
    try refine hK _ ?_
    repeat (first | refine awp_seq ?_ | refine awp_block ?_ | refine awp_skip ?_ | refine awp_scope ?_ | refine awp_label ?_)
    refine awp_cond (b := false) (by simp -dsimp -implicitDefEqProofs only [push_cast, ↓trAdd_f, ↓stOf_f, seval]) (fun h => ?_) (fun h => ?_)
    · cases h
    try refine hK _ ?_
    repeat (first | refine awp_seq ?_ | refine awp_block ?_ | refine awp_skip ?_ | refine awp_scope ?_ | refine awp_label ?_)
    refine awp_region tabOk fun K hK => ?_
    simp -dsimp -implicitDefEqProofs only [push_cast, ↓trAdd_f, ↓stOf_f, seval]
    try refine hK _ ?_
    repeat (first | refine awp_seq ?_ | refine awp_block ?_ | refine awp_skip ?_ | refine awp_scope ?_ | refine awp_label ?_)
    refine awp_cond (b := decide (0 < left)) (by simp -dsimp -implicitDefEqProofs only [push_cast, ↓trAdd_f, ↓stOf_f, seval]) (fun h => ?_) (fun h => ?_)
    · have hp : 0 < left := by simpa using h
      have hd : decL left = left - 1 := if_pos hp
      try refine hK _ ?_
      repeat (first | refine awp_seq ?_ | refine awp_block ?_ | refine awp_skip ?_ | refine awp_scope ?_ | refine awp_label ?_)
      refine awp_region tabOk fun K hK => ?_
      simp -dsimp -implicitDefEqProofs only [push_cast, ↓trAdd_f, ↓stOf_f, seval]
      try simp (disch := omega) only [wrap_i64, wrap_u8, wrap_u16, wrap_u32]
      refine hK _ ?_
      refine le_intro hB [] (by simp) (fun b _ => rfl) rfl ?_ ?_ rfl <;> simp -dsimp -implicitDefEqProofs only [ren_ownR, ok_ownR, bytes_okl, ints_okl, bytes_ren, ints_ren, hk, hd, push_cast, ↓trAdd_f, ↓stOf_f, seval]
    · have hp : ¬ 0 < left := by simpa using h
      have hd : decL left = left := if_neg hp
      refine awp_skip ?_
      refine le_intro hB [] (by simp) (fun b _ => rfl) rfl ?_ ?_ rfl <;> simp -dsimp -implicitDefEqProofs only [ren_ownR, ok_ownR, bytes_okl, ints_okl, bytes_ren, ints_ren, hk, hd, push_cast, ↓trAdd_f, ↓stOf_f, seval]
  try refine hK _ ?_
  repeat (first | refine awp_seq ?_ | refine awp_block ?_ | refine awp_skip ?_ | refine awp_scope ?_ | refine awp_label ?_)
  refine awp_region tabOk fun K hK => ?_
  simp -dsimp -implicitDefEqProofs only [push_cast, ↓trAdd_f, ↓stOf_f, seval]
  refine ⟨74, [], [.ptr 0 0, .ptr 1 0], { args := [.ptr 0 0, .ptr 1 0], st0 := stE ps w w.length (decL left) down k pg, res := .tup [], st1 := stE ps (worn w k hw) w.length (decL left) down k clean64, r := [0, 1, 2, 3, 4] }, rfl, .inl he, ?_, ?_⟩
  · simp -dsimp -implicitDefEqProofs only [stE, ok_ownR, ren_ownR, bytes_okl, ints_okl, bytes_ren, ints_ren, hk, push_cast, List.mem_append, List.mem_cons, List.mem_singleton, forall_eq_or_imp, forall_eq, ↓trAdd_f, ↓stOf_f, seval]
    rfl
  simp -dsimp -implicitDefEqProofs only [stE, ok_ownR, ren_ownR, bytes_okl, ints_okl, bytes_ren, ints_ren, hk, push_cast, ↓trAdd_f, ↓stOf_f, seval]
  refine hK _ ?_
  try refine hK _ ?_
  repeat (first | refine awp_seq ?_ | refine awp_block ?_ | refine awp_skip ?_ | refine awp_scope ?_ | refine awp_label ?_)
  refine awp_region tabOk fun K hK => ?_
  simp -dsimp -implicitDefEqProofs only [push_cast, ↓trAdd_f, ↓stOf_f, seval]
  refine hK _ (awp_ret ?_)
  simp -dsimp -implicitDefEqProofs only [ok_ownR, bytes_okl, ints_okl, hk, push_cast, List.mem_append, List.mem_cons, List.mem_singleton, forall_eq_or_imp, forall_eq, ↓trAdd_f, ↓stOf_f, seval]
end Go.Proofs.YtoifmpiikopelaaDoorFw

/-
  Walks: Erase.
-/
namespace Go.Proofs.YtoifmpiikopelaaDoorFw
open Go Go.Proofs
set_option maxRecDepth 100000
set_option maxHeartbeats 4000000
set_option linter.unusedVariables false
set_option linter.unusedSimpArgs false

/-- What Erase makes of a flash. -/
def eraseF (f : Flash) (page : Int) : Flash × Int :=
  if f.down then (f, 250) else if inF f page 0 0 = false then (f, 251) else
  if f.left = 0 then ({ f with pages := f.pages.set page.toNat (tornP (f.pages.getD page.toNat [])), left := 0, down := true }, 250) else
  ({ f with pages := f.pages.set page.toNat clean64, wear := f.wear.set page.toNat (min (f.wear.getD page.toNat 0 + 1) 1099511627776), left := decL f.left }, 0)
theorem frz_ownR (ps : List (List Int)) (k b : Nat) (st : St) (pg : List Int) (hpg : pg.length = 64) (hst : st b = some (.row 1 (pg.map encB))) :
    (ownR ps k b).map (fun e => e.map (frzC st [b])) = (ps.set k pg).map encP := by
  unfold ownR
  rw [List.map_set, List.map_set]
  have e1 : (ps.map encP).map (fun e => e.map (frzC st [b])) = ps.map encP := by
    rw [List.map_map]
    refine List.map_congr_left fun p _ => ?_
    simp [encP, frzC]
  have e2 : (pg.map encB).take 64 = pg.map encB := List.take_of_length_le (by simp [hpg])
  rw [e1]
  congr 1
  simp [frzC, viewC, hst, encP, e2]
theorem frzOk_ownR (ps : List (List Int)) (k b : Nat) (st : St) (pg : List Int) (hpg : pg.length = 64) (hst : st b = some (.row 1 (pg.map encB))) :
    ∀ e ∈ ownR ps k b, ∀ c ∈ e, frzOkC st [b] c := by
  intro e he c hc
  rcases List.mem_or_eq_of_mem_set he with he | rfl
  · obtain ⟨p, _, rfl⟩ := List.mem_map.1 he
    simp [encP] at hc
    subst hc
    simp [frzOkC]
  · simp at hc
    subst hc
    simp only [frzOkC, List.contains_cons, List.contains_nil, BEq.rfl, Bool.true_or, if_true, viewOkC, hst]
    refine ⟨trivial, by decide, by simp [hpg], fun e he c hc => ?_⟩
    exact fz_map encB_fz pg e (List.mem_of_mem_drop (List.mem_of_mem_take he)) c hc
theorem erase_ok (f : Flash) (page : Int) (hg : f.good) (hI : f.left ≤ 9223372036854775807) :
    FnS Tryd.prog 43 [.agg (encFlash f), .int .i64 page] [] (.tup [.agg (encFlash (eraseF f page).1), .int .i64 (eraseF f page).2]) [] := by
  obtain ⟨ps, w, left, down⟩ := f
  obtain ⟨n1, n80, wl, gl, gd, gw, gb⟩ := hg
  simp only at n1 n80 wl gl gd gw gb hI
  refine fn_walk tabOk Tryd.func43 rfl (by decide +kernel) Tryd.ntmps43 Tryd.results43 (by simp) fun B hB => ?_
  try refine hK _ ?_
  repeat (first | refine awp_seq ?_ | refine awp_block ?_ | refine awp_skip ?_ | refine awp_scope ?_ | refine awp_label ?_)
  refine awp_region tabOk fun K hK => ?_
  simp -dsimp -implicitDefEqProofs only [encFlash, push_cast, ↓trAdd_f, ↓stOf_f, seval]
  try refine hK _ ?_
  repeat (first | refine awp_seq ?_ | refine awp_block ?_ | refine awp_skip ?_ | refine awp_scope ?_ | refine awp_label ?_)
  refine awp_region tabOk fun K hK => ?_
  simp -dsimp -implicitDefEqProofs only [push_cast, ↓trAdd_f, ↓stOf_f, seval]
  try refine hK _ ?_
  repeat (first | refine awp_seq ?_ | refine awp_block ?_ | refine awp_skip ?_ | refine awp_scope ?_ | refine awp_label ?_)
  refine awp_cond (b := down) (by simp -dsimp -implicitDefEqProofs only [push_cast, ↓trAdd_f, ↓stOf_f, seval]) (fun h => ?_) (fun h => ?_)
  · subst h
    try refine hK _ ?_
    repeat (first | refine awp_seq ?_ | refine awp_block ?_ | refine awp_skip ?_ | refine awp_scope ?_ | refine awp_label ?_)
    refine awp_region tabOk fun K hK => ?_
    simp -dsimp -implicitDefEqProofs only [push_cast, ↓trAdd_f, ↓stOf_f, seval]
    refine hK _ (awp_ret ?_)
    simp -dsimp -implicitDefEqProofs only [eraseF, encFlash, push_cast, List.mem_append, List.mem_cons, List.mem_singleton, forall_eq_or_imp, forall_eq, ↓trAdd_f, ↓stOf_f, seval]
  subst h
  try refine hK _ ?_
  repeat (first | refine awp_seq ?_ | refine awp_block ?_ | refine awp_skip ?_ | refine awp_scope ?_ | refine awp_label ?_)
  refine awp_region tabOk fun K hK => ?_
  simp -dsimp -implicitDefEqProofs only [push_cast, ↓trAdd_f, ↓stOf_f, seval]
  refine callK_simple (in_ok ⟨ps, w, left, false⟩ page 0 0) ?_ rfl fun _ => ?_
  · simp -dsimp -implicitDefEqProofs only [encFlash, push_cast, List.mem_append, List.mem_cons, List.mem_singleton, forall_eq_or_imp, forall_eq, ↓trAdd_f, ↓stOf_f, seval]
  simp -dsimp -implicitDefEqProofs only [push_cast, ↓trAdd_f, ↓stOf_f, seval]
  refine hK _ ?_
  try refine hK _ ?_
  repeat (first | refine awp_seq ?_ | refine awp_block ?_ | refine awp_skip ?_ | refine awp_scope ?_ | refine awp_label ?_)
  refine awp_cond (b := !inF ⟨ps, w, left, false⟩ page 0 0) (by simp -dsimp -implicitDefEqProofs only [push_cast, ↓trAdd_f, ↓stOf_f, seval]) (fun h => ?_) (fun h => ?_)
  · have h' : inF ⟨ps, w, left, false⟩ page 0 0 = false := by simpa using h
    try refine hK _ ?_
    repeat (first | refine awp_seq ?_ | refine awp_block ?_ | refine awp_skip ?_ | refine awp_scope ?_ | refine awp_label ?_)
    refine awp_region tabOk fun K hK => ?_
    simp -dsimp -implicitDefEqProofs only [push_cast, ↓trAdd_f, ↓stOf_f, seval]
    refine hK _ (awp_ret ?_)
    simp -dsimp -implicitDefEqProofs only [eraseF, encFlash, h', push_cast, List.mem_append, List.mem_cons, List.mem_singleton, forall_eq_or_imp, forall_eq, ↓trAdd_f, ↓stOf_f, seval]
  have h' : inF ⟨ps, w, left, false⟩ page 0 0 = true := by simpa using h
  obtain ⟨⟨p0, p1⟩, _⟩ := (inF_iff _ _ _ _).1 h'
  obtain ⟨k, rfl⟩ := Int.eq_ofNat_of_zero_le p0
  have hk : k < ps.length := by simpa using p1
  have hw : k < w.length := by omega
  have hwne : w ≠ [] := by intro e; rw [e] at hw; simp at hw
  have h64 := gb ps[k] (List.getElem_mem hk)
  have hv := gw w[k] (List.getElem_mem hw)
  refine awp_skip ?_
  try refine hK _ ?_
  repeat (first | refine awp_seq ?_ | refine awp_block ?_ | refine awp_skip ?_ | refine awp_scope ?_ | refine awp_label ?_)
  refine awp_region tabOk fun K hK => ?_
  simp -dsimp -implicitDefEqProofs only [push_cast, ↓trAdd_f, ↓stOf_f, seval]
  refine ⟨72, [], [], { args := [.agg (encFlash ⟨ps, w, left, false⟩), .int .i64 k], st0 := [], res := .agg [.own 0 1 0 ps.length, .sl false 1 (w.map encI), .int .i64 left, .bool false], st1 := [(0, .row 1 (ownR ps k 1)), (1, .row 1 (ps[k].map encB))], r := [] }, rfl, .inl (own_ok ⟨ps, w, left, false⟩ k hk h64 (by simp; omega)), ?_, ?_⟩
  · simp -dsimp -implicitDefEqProofs only [encFlash, ok_ownR, bytes_okl, hk, push_cast, List.mem_append, List.mem_cons, List.mem_singleton, forall_eq_or_imp, forall_eq, ↓trAdd_f, ↓stOf_f, seval]
    rfl
  simp -dsimp -implicitDefEqProofs only [encFlash, ren_ownR, bytes_ren, push_cast, ↓trAdd_f, ↓stOf_f, seval]
  refine hK _ ?_
  try refine hK _ ?_
  repeat (first | refine awp_seq ?_ | refine awp_block ?_ | refine awp_skip ?_ | refine awp_scope ?_ | refine awp_label ?_)
  refine awp_region tabOk fun K hK => ?_
  simp -dsimp -implicitDefEqProofs only [push_cast, ↓trAdd_f, ↓stOf_f, seval]
  refine ⟨73, [], [], { args := [.sl false 1 (w.map encI)], st0 := [], res := .own 0 1 0 w.length, st1 := [(0, .row 1 (w.map encI))], r := [] }, rfl, .inl (cloneI_ok w hwne (by omega)), ?_, ?_⟩
  · simp -dsimp -implicitDefEqProofs only [ints_okl, push_cast, List.mem_append, List.mem_cons, List.mem_singleton, forall_eq_or_imp, forall_eq, ↓trAdd_f, ↓stOf_f, seval]
    rfl
  simp -dsimp -implicitDefEqProofs only [ints_ren, push_cast, ↓trAdd_f, ↓stOf_f, seval]
  refine hK _ ?_
  try refine hK _ ?_
  repeat (first | refine awp_seq ?_ | refine awp_block ?_ | refine awp_skip ?_ | refine awp_scope ?_ | refine awp_label ?_)
  refine awp_region tabOk fun K hK => ?_
  simp -dsimp -implicitDefEqProofs only [push_cast, ↓trAdd_f, ↓stOf_f, seval]
  refine hK _ ?_
  try refine hK _ ?_
  repeat (first | refine awp_seq ?_ | refine awp_block ?_ | refine awp_skip ?_ | refine awp_scope ?_ | refine awp_label ?_)
  refine awp_region tabOk fun K hK => ?_
  simp -dsimp -implicitDefEqProofs only [push_cast, ↓trAdd_f, ↓stOf_f, seval]
  have hgp : ps.getD k [] = ps[k] := by simp [List.getD, hk]
  have hgw : w.getD k 0 = w[k] := by simp [List.getD, hw]
  by_cases h0 : left = 0
  · subst h0
    have he := do1_torn ps w false k ps[k] hk h64 (by omega)
    have hE : eraseF ⟨ps, w, 0, false⟩ k = ({ pages := ps.set k (tornP ps[k]), wear := w, left := 0, down := true }, 250) := by
      simp only [eraseF, h', Int.toNat_natCast, hgp, if_false, if_true, Bool.false_eq_true, Bool.true_eq_false]
    have ht : (tornP ps[k]).length = 64 := by simp [tornP, clean64, h64]
    refine ⟨76, [], [], { args := [.ptr 0 0, .agg [.fn (.func 74) [] [.ptr 0 0, .ptr 1 0], .fn (.func 75) [] [.ptr 0 0, .ptr 1 0]]], st0 := stE ps w w.length 0 false k ps[k], res := .bool false, st1 := stE ps w w.length 0 true k (tornP ps[k]), r := [0, 8, 112, 113, 144] }, rfl, .inl he, ?_, ?_⟩
    · simp -dsimp -implicitDefEqProofs only [stE, ok_ownR, ren_ownR, bytes_okl, ints_okl, bytes_ren, ints_ren, hk, push_cast, List.mem_append, List.mem_cons, List.mem_singleton, forall_eq_or_imp, forall_eq, ↓trAdd_f, ↓stOf_f, seval]
      rfl
    simp -dsimp -implicitDefEqProofs only [stE, ok_ownR, ren_ownR, bytes_okl, ints_okl, bytes_ren, ints_ren, hk, push_cast, ↓trAdd_f, ↓stOf_f, seval]
    refine hK _ ?_
    try refine hK _ ?_
    repeat (first | refine awp_seq ?_ | refine awp_block ?_ | refine awp_skip ?_ | refine awp_scope ?_ | refine awp_label ?_)
    refine awp_cond (b := true) (by simp -dsimp -implicitDefEqProofs only [push_cast, ↓trAdd_f, ↓stOf_f, seval]) (fun h => ?_) (fun h => ?_)
    rotate_left
    · cases h
    try refine hK _ ?_
    repeat (first | refine awp_seq ?_ | refine awp_block ?_ | refine awp_skip ?_ | refine awp_scope ?_ | refine awp_label ?_)
    refine awp_region tabOk fun K hK => ?_
    simp -dsimp -implicitDefEqProofs only [push_cast, ↓trAdd_f, ↓stOf_f, seval]
    refine hK _ ?_
    refine awp_le (le_frzR _ [113] 112 1 (ownR ps k 113) rfl (by decide) (frzOk_ownR ps k 113 _ _ ht rfl) (by simp [lk])) ?_
    rw [frz_ownR ps k 113 _ _ ht rfl]
    have hl3 : ((ps.set k (tornP ps[k])).map encP).take ps.length = (ps.set k (tornP ps[k])).map encP := List.take_of_length_le (by simp)
    have hl4 : (w.map encI).take w.length = w.map encI := List.take_of_length_le (by simp)
    refine awp_ret ?_
    simp -dsimp -implicitDefEqProofs only [hE, encFlash, pages_fz, ints_fz, hl3, hl4, ins, del, delAll, List.length_set, List.length_map, Nat.le_refl, push_cast, List.mem_append, List.mem_cons, List.mem_singleton, forall_eq_or_imp, forall_eq, ↓trAdd_f, ↓stOf_f, seval]
  · have he := do1_whole ps w left false k ps[k] hk hw h64 (by omega) (by omega) hv h0 ⟨gl, hI⟩
    have hE : eraseF ⟨ps, w, left, false⟩ k = ({ pages := ps.set k clean64, wear := worn w k hw, left := decL left, down := false }, 0) := by
      simp only [eraseF, h', Int.toNat_natCast, hgw, if_false, Bool.false_eq_true, Bool.true_eq_false, h0, worn]
    have hwl : (worn w k hw).length = w.length := by simp [worn]
    refine ⟨76, [], [], { args := [.ptr 0 0, .agg [.fn (.func 74) [] [.ptr 0 0, .ptr 1 0], .fn (.func 75) [] [.ptr 0 0, .ptr 1 0]]], st0 := stE ps w w.length left false k ps[k], res := .bool true, st1 := stE ps (worn w k hw) w.length (decL left) false k clean64, r := [0, 8, 112, 113, 144] }, rfl, .inl he, ?_, ?_⟩
    · simp -dsimp -implicitDefEqProofs only [stE, ok_ownR, ren_ownR, bytes_okl, ints_okl, bytes_ren, ints_ren, hk, push_cast, List.mem_append, List.mem_cons, List.mem_singleton, forall_eq_or_imp, forall_eq, ↓trAdd_f, ↓stOf_f, seval]
      rfl
    simp -dsimp -implicitDefEqProofs only [stE, ok_ownR, ren_ownR, bytes_okl, ints_okl, bytes_ren, ints_ren, hk, push_cast, ↓trAdd_f, ↓stOf_f, seval]
    refine hK _ ?_
    try refine hK _ ?_
    repeat (first | refine awp_seq ?_ | refine awp_block ?_ | refine awp_skip ?_ | refine awp_scope ?_ | refine awp_label ?_)
    refine awp_cond (b := false) (by simp -dsimp -implicitDefEqProofs only [push_cast, ↓trAdd_f, ↓stOf_f, seval]) (fun h => ?_) (fun h => ?_)
    · cases h
    refine awp_skip ?_
    try refine hK _ ?_
    repeat (first | refine awp_seq ?_ | refine awp_block ?_ | refine awp_skip ?_ | refine awp_scope ?_ | refine awp_label ?_)
    refine awp_region tabOk fun K hK => ?_
    simp -dsimp -implicitDefEqProofs only [push_cast, ↓trAdd_f, ↓stOf_f, seval]
    refine hK _ ?_
    have ht : clean64.length = 64 := rfl
    refine awp_le (le_frzR _ [113] 112 1 (ownR ps k 113) rfl (by decide) (frzOk_ownR ps k 113 _ _ ht rfl) (by simp [lk])) ?_
    rw [frz_ownR ps k 113 _ _ ht rfl]
    have hl3 : ((ps.set k clean64).map encP).take ps.length = (ps.set k clean64).map encP := List.take_of_length_le (by simp)
    have hl4 : ((worn w k hw).map encI).take w.length = (worn w k hw).map encI := List.take_of_length_le (by simp [hwl])
    refine awp_ret ?_
    simp -dsimp -implicitDefEqProofs only [hE, hwl, encFlash, pages_fz, ints_fz, hl3, hl4, ins, del, delAll, List.length_set, List.length_map, Nat.le_refl, push_cast, List.mem_append, List.mem_cons, List.mem_singleton, forall_eq_or_imp, forall_eq, ↓trAdd_f, ↓stOf_f, seval]
end Go.Proofs.YtoifmpiikopelaaDoorFw

/-
  Walks: Write's two functions, do with them.
-/
namespace Go.Proofs.YtoifmpiikopelaaDoorFw
open Go Go.Proofs
set_option maxRecDepth 100000
set_option maxHeartbeats 4000000
set_option linter.unusedVariables false
set_option linter.unusedSimpArgs false

def or15 (x : Int) : Int := IntKind.u8.wrap (BitVec.ofInt IntKind.u8.bits x ||| BitVec.ofInt IntKind.u8.bits 15).toNat
theorem or15_fold (x : Int) : IntKind.u8.wrap (BitVec.ofInt IntKind.u8.bits x ||| BitVec.ofInt IntKind.u8.bits 15).toNat = or15 x := rfl
/-- What Write lends to its two functions, and to do. -/
def stW (ps : List (List Int)) (w : List Int) (left : Int) (down : Bool) (k : Nat) (x : Int) (j : Nat) (pg : List Int) : List (Nat × Blk) :=
  [(0, .box [.own 4 1 0 ps.length, .sl false 1 (w.map encI), .int .i64 left, .bool down]), (1, .box [.int .u8 x]), (2, .box [.rp 3 1 j 0]), (3, .row 1 (pg.map encB)), (4, .row 1 (ownR ps k 3))]
theorem write1_ok (ps : List (List Int)) (w : List Int) (left : Int) (down : Bool) (k : Nat) (x : Int) (j : Nat) (pg : List Int) (hk : k < ps.length) (hj : j < pg.length) :
    FnS Tryd.prog 77 [.ptr 1 0, .ptr 2 0] (stW ps w left down k x j pg) (.tup []) (stW ps w left down k x j (pg.set j x)) := by
  have hset := set_encB pg j x
  simp only [stW]
  refine fn_walk tabOk Tryd.func77 rfl (by decide +kernel) Tryd.ntmps77 Tryd.results77 (by simp) fun B hB => ?_
  try refine hK _ ?_
  repeat (first | refine awp_seq ?_ | refine awp_block ?_ | refine awp_skip ?_ | refine awp_scope ?_ | refine awp_label ?_)
  refine awp_region tabOk fun K hK => ?_
  simp -dsimp -implicitDefEqProofs only [hj, getD_map, encB, push_cast, ↓trAdd_f, ↓stOf_f, seval]
  refine hK _ ?_
  simp -dsimp -implicitDefEqProofs only [hset, ok_ownR, bytes_okl, hk, encB, push_cast, List.mem_append, List.mem_cons, List.mem_singleton, forall_eq_or_imp, forall_eq, ↓trAdd_f, ↓stOf_f, seval]
theorem write2_ok (ps : List (List Int)) (w : List Int) (left : Int) (down : Bool) (k : Nat) (x : Int) (j : Nat) (pg : List Int) (hk : k < ps.length) (hj : j < pg.length) :
    FnS Tryd.prog 78 [.ptr 1 0, .ptr 2 0] (stW ps w left down k x j pg) (.tup []) (stW ps w left down k x j (pg.set j (or15 x))) := by
  have hset := set_encB pg j (or15 x)
  simp only [stW]
  refine fn_walk tabOk Tryd.func78 rfl (by decide +kernel) Tryd.ntmps78 Tryd.results78 (by simp) fun B hB => ?_
  try refine hK _ ?_
  repeat (first | refine awp_seq ?_ | refine awp_block ?_ | refine awp_skip ?_ | refine awp_scope ?_ | refine awp_label ?_)
  refine awp_region tabOk fun K hK => ?_
  simp -dsimp -implicitDefEqProofs only [hj, getD_map, encB, or15_fold, push_cast, ↓trAdd_f, ↓stOf_f, seval]
  refine hK _ ?_
  simp -dsimp -implicitDefEqProofs only [hset, ok_ownR, bytes_okl, hk, encB, push_cast, List.mem_append, List.mem_cons, List.mem_singleton, forall_eq_or_imp, forall_eq, ↓trAdd_f, ↓stOf_f, seval]
theorem do2_torn (ps : List (List Int)) (w : List Int) (down : Bool) (k : Nat) (x : Int) (j : Nat) (pg : List Int) (hk : k < ps.length) (hj : j < pg.length) :
    FnS Tryd.prog 76 [.ptr 0 0, .agg [.fn (.func 77) [] [.ptr 1 0, .ptr 2 0], .fn (.func 78) [] [.ptr 1 0, .ptr 2 0]]] (stW ps w 0 down k x j pg) (.bool false) (stW ps w 0 true k x j (pg.set j (or15 x))) := by
  have he := write2_ok ps w 0 true k x j pg hk hj
  simp only [stW] at he ⊢
  refine fn_walk tabOk Tryd.func76 rfl (by decide +kernel) Tryd.ntmps76 Tryd.results76 (by simp) fun B hB => ?_
  try refine hK _ ?_
  repeat (first | refine awp_seq ?_ | refine awp_block ?_ | refine awp_skip ?_ | refine awp_scope ?_ | refine awp_label ?_)
  refine awp_region tabOk fun K hK => ?_
  simp -dsimp -implicitDefEqProofs only [push_cast, ↓trAdd_f, ↓stOf_f, seval]
  try refine hK _ ?_
  repeat (first | refine awp_seq ?_ | refine awp_block ?_ | refine awp_skip ?_ | refine awp_scope ?_ | refine awp_label ?_)
  refine awp_region tabOk fun K hK => ?_
  simp -dsimp -implicitDefEqProofs only [push_cast, ↓trAdd_f, ↓stOf_f, seval]
  try refine hK _ ?_
  repeat (first | refine awp_seq ?_ | refine awp_block ?_ | refine awp_skip ?_ | refine awp_scope ?_ | refine awp_label ?_)
  refine awp_cond (b := true) (by simp -dsimp -implicitDefEqProofs only [push_cast, ↓trAdd_f, ↓stOf_f, seval]) (fun h => ?_) (fun h => ?_)
  rotate_left
  · cases h
  try refine hK _ ?_
  repeat (first | refine awp_seq ?_ | refine awp_block ?_ | refine awp_skip ?_ | refine awp_scope ?_ | refine awp_label ?_)
  refine awp_region tabOk fun K hK => ?_
  simp -dsimp -implicitDefEqProofs only [push_cast, ↓trAdd_f, ↓stOf_f, seval]
  refine hK _ ?_
  try refine hK _ ?_
  repeat (first | refine awp_seq ?_ | refine awp_block ?_ | refine awp_skip ?_ | refine awp_scope ?_ | refine awp_label ?_)
  refine awp_region tabOk fun K hK => ?_
  simp -dsimp -implicitDefEqProofs only [push_cast, ↓trAdd_f, ↓stOf_f, seval]
  refine ⟨78, [], [.ptr 1 0, .ptr 2 0], { args := [.ptr 1 0, .ptr 2 0], st0 := stW ps w 0 true k x j pg, res := .tup [], st1 := stW ps w 0 true k x j (pg.set j (or15 x)), r := [0, 1, 2, 3, 4] }, rfl, .inl he, ?_, ?_⟩
  · simp -dsimp -implicitDefEqProofs only [stW, ok_ownR, ren_ownR, bytes_okl, bytes_ren, hk, push_cast, List.mem_append, List.mem_cons, List.mem_singleton, forall_eq_or_imp, forall_eq, ↓trAdd_f, ↓stOf_f, seval]
    rfl
  simp -dsimp -implicitDefEqProofs only [stW, ok_ownR, ren_ownR, bytes_okl, bytes_ren, hk, push_cast, ↓trAdd_f, ↓stOf_f, seval]
  refine hK _ ?_
  try refine hK _ ?_
  repeat (first | refine awp_seq ?_ | refine awp_block ?_ | refine awp_skip ?_ | refine awp_scope ?_ | refine awp_label ?_)
  refine awp_region tabOk fun K hK => ?_
  simp -dsimp -implicitDefEqProofs only [push_cast, ↓trAdd_f, ↓stOf_f, seval]
  refine hK _ (awp_ret ?_)
  simp -dsimp -implicitDefEqProofs only [ok_ownR, bytes_okl, hk, push_cast, List.mem_append, List.mem_cons, List.mem_singleton, forall_eq_or_imp, forall_eq, ↓trAdd_f, ↓stOf_f, seval]
theorem do2_whole (ps : List (List Int)) (w : List Int) (left : Int) (down : Bool) (k : Nat) (x : Int) (j : Nat) (pg : List Int) (hk : k < ps.length) (hj : j < pg.length) (h0 : left ≠ 0) (hI : -1 ≤ left ∧ left ≤ 9223372036854775807) :
    FnS Tryd.prog 76 [.ptr 0 0, .agg [.fn (.func 77) [] [.ptr 1 0, .ptr 2 0], .fn (.func 78) [] [.ptr 1 0, .ptr 2 0]]] (stW ps w left down k x j pg) (.bool true) (stW ps w (decL left) down k x j (pg.set j x)) := by
  have he := write1_ok ps w (decL left) down k x j pg hk hj
  have hl0 : (left == 0) = false := by simpa using h0
  simp only [stW] at he ⊢
  refine fn_walk tabOk Tryd.func76 rfl (by decide +kernel) Tryd.ntmps76 Tryd.results76 (by simp) fun B hB => ?_
  try refine hK _ ?_
  repeat (first | refine awp_seq ?_ | refine awp_block ?_ | refine awp_skip ?_ | refine awp_scope ?_ | refine awp_label ?_)
  refine awp_region tabOk fun K hK => ?_
  simp -dsimp -implicitDefEqProofs only [push_cast, ↓trAdd_f, ↓stOf_f, seval]
  refine hK _ ?_
  refine awp_seq ?_
  refine awp_join ({ sl := [(3, .ptr 5 0)], st := [(0, .box [.own 4 1 0 ps.length, .sl false 1 (w.map encI), .int .i64 (decL left), .bool down]), (1, .box [.int .u8 x]), (2, .box [.rp 3 1 j 0]), (3, .row 1 (pg.map encB)), (4, .row 1 (ownR ps k 3)), (5, .box [.fn (.func 77) [] [.ptr 1 0, .ptr 2 0], .fn (.func 78) [] [.ptr 1 0, .ptr 2 0]])], nx := 13, n := 33 }) ?_ (fun _ hl h => awp_le hl h) ?_
  · try refine hK _ ?_
    repeat (first | refine awp_seq ?_ | refine awp_block ?_ | refine awp_skip ?_ | refine awp_scope ?_ | refine awp_label ?_)
    refine awp_region tabOk fun K hK => ?_
    simp -dsimp -implicitDefEqProofs only [hl0, push_cast, ↓trAdd_f, ↓stOf_f, seval]
    try refine hK _ ?_
    repeat (first | refine awp_seq ?_ | refine awp_block ?_ | refine awp_skip ?_ | refine awp_scope ?_ | refine awp_label ?_)
    refine awp_cond (b := false) (by simp -dsimp -implicitDefEqProofs only [push_cast, ↓trAdd_f, ↓stOf_f, seval]) (fun h => ?_) (fun h => ?_)
    · cases h
    try refine hK _ ?_
    repeat (first | refine awp_seq ?_ | refine awp_block ?_ | refine awp_skip ?_ | refine awp_scope ?_ | refine awp_label ?_)
    refine awp_region tabOk fun K hK => ?_
    simp -dsimp -implicitDefEqProofs only [push_cast, ↓trAdd_f, ↓stOf_f, seval]
    try refine hK _ ?_
    repeat (first | refine awp_seq ?_ | refine awp_block ?_ | refine awp_skip ?_ | refine awp_scope ?_ | refine awp_label ?_)
    refine awp_cond (b := decide (0 < left)) (by simp -dsimp -implicitDefEqProofs only [push_cast, ↓trAdd_f, ↓stOf_f, seval]) (fun h => ?_) (fun h => ?_)
    · have hp : 0 < left := by simpa using h
      have hd : decL left = left - 1 := if_pos hp
      try refine hK _ ?_
      repeat (first | refine awp_seq ?_ | refine awp_block ?_ | refine awp_skip ?_ | refine awp_scope ?_ | refine awp_label ?_)
      refine awp_region tabOk fun K hK => ?_
      simp -dsimp -implicitDefEqProofs only [push_cast, ↓trAdd_f, ↓stOf_f, seval]
      try simp (disch := omega) only [wrap_i64, wrap_u8, wrap_u16, wrap_u32]
      refine hK _ ?_
      refine le_intro hB [] (by simp) (fun b _ => rfl) rfl ?_ ?_ rfl <;> simp -dsimp -implicitDefEqProofs only [ren_ownR, ok_ownR, bytes_okl, bytes_ren, hk, hd, push_cast, ↓trAdd_f, ↓stOf_f, seval]
    · have hp : ¬ 0 < left := by simpa using h
      have hd : decL left = left := if_neg hp
      refine awp_skip ?_
      refine le_intro hB [] (by simp) (fun b _ => rfl) rfl ?_ ?_ rfl <;> simp -dsimp -implicitDefEqProofs only [ren_ownR, ok_ownR, bytes_okl, bytes_ren, hk, hd, push_cast, ↓trAdd_f, ↓stOf_f, seval]
  try refine hK _ ?_
  repeat (first | refine awp_seq ?_ | refine awp_block ?_ | refine awp_skip ?_ | refine awp_scope ?_ | refine awp_label ?_)
  refine awp_region tabOk fun K hK => ?_
  simp -dsimp -implicitDefEqProofs only [push_cast, ↓trAdd_f, ↓stOf_f, seval]
  refine ⟨77, [], [.ptr 1 0, .ptr 2 0], { args := [.ptr 1 0, .ptr 2 0], st0 := stW ps w (decL left) down k x j pg, res := .tup [], st1 := stW ps w (decL left) down k x j (pg.set j x), r := [0, 1, 2, 3, 4] }, rfl, .inl he, ?_, ?_⟩
  · simp -dsimp -implicitDefEqProofs only [stW, ok_ownR, ren_ownR, bytes_okl, bytes_ren, hk, push_cast, List.mem_append, List.mem_cons, List.mem_singleton, forall_eq_or_imp, forall_eq, ↓trAdd_f, ↓stOf_f, seval]
    rfl
  simp -dsimp -implicitDefEqProofs only [stW, ok_ownR, ren_ownR, bytes_okl, bytes_ren, hk, push_cast, ↓trAdd_f, ↓stOf_f, seval]
  refine hK _ ?_
  try refine hK _ ?_
  repeat (first | refine awp_seq ?_ | refine awp_block ?_ | refine awp_skip ?_ | refine awp_scope ?_ | refine awp_label ?_)
  refine awp_region tabOk fun K hK => ?_
  simp -dsimp -implicitDefEqProofs only [push_cast, ↓trAdd_f, ↓stOf_f, seval]
  refine hK _ (awp_ret ?_)
  simp -dsimp -implicitDefEqProofs only [ok_ownR, bytes_okl, hk, push_cast, List.mem_append, List.mem_cons, List.mem_singleton, forall_eq_or_imp, forall_eq, ↓trAdd_f, ↓stOf_f, seval]
end Go.Proofs.YtoifmpiikopelaaDoorFw

/-
  Walks: Write.
-/
namespace Go.Proofs.YtoifmpiikopelaaDoorFw
open Go Go.Proofs
set_option maxRecDepth 100000
set_option maxHeartbeats 4000000
set_option linter.unusedVariables false
set_option linter.unusedSimpArgs false

/-- Bytes laid into a page one by one, as far as the power goes: the page, the power that is left, whether it was torn. -/
def laidF : List Int → Nat → List Int → Int → List Int × Int × Bool
  | [], _, pg, left => (pg, left, false)
  | x :: b, j, pg, left => if left = 0 then (pg.set j (or15 x), 0, true) else laidF b (j + 1) (pg.set j x) (decL left)
theorem laidF_nil (j : Nat) (pg : List Int) (left : Int) : laidF [] j pg left = (pg, left, false) := rfl
theorem laidF_torn (x : Int) (b : List Int) (j : Nat) (pg : List Int) : laidF (x :: b) j pg 0 = (pg.set j (or15 x), 0, true) := by rw [laidF, if_pos rfl]
theorem laidF_next (x : Int) (b : List Int) (j : Nat) (pg : List Int) {left : Int} (h : left ≠ 0) : laidF (x :: b) j pg left = laidF b (j + 1) (pg.set j x) (decL left) := by rw [laidF, if_neg h]
theorem laidF_len : ∀ (b : List Int) (j : Nat) (pg : List Int) (left : Int), (laidF b j pg left).1.length = pg.length
  | [], _, _, _ => rfl
  | x :: b, j, pg, left => by
    unfold laidF
    split
    · simp
    · rw [laidF_len b]; simp
def freeF (p : List Int) (at_ n : Nat) : Bool := decide ((p.drop at_).take n = clean64.take n)
/-- What Write makes of a flash. -/
def writeF (f : Flash) (page at_ : Int) (b : List Int) : Flash × Int :=
  if f.down then (f, 250) else if inF f page at_ b.length = false then (f, 251) else
  if freeF (f.pages.getD page.toNat []) at_.toNat b.length = false then (f, 252) else
  ({ f with pages := f.pages.set page.toNat (laidF b at_.toNat (f.pages.getD page.toNat []) f.left).1, left := (laidF b at_.toNat (f.pages.getD page.toNat []) f.left).2.1, down := (laidF b at_.toNat (f.pages.getD page.toNat []) f.left).2.2 },
    if (laidF b at_.toNat (f.pages.getD page.toNat []) f.left).2.2 then 250 else 0)
theorem write_ok (f : Flash) (page at_ : Int) (t : Bool) (b : List Int) (hg : f.good) (hb : f.bytes) (hI : f.left ≤ 9223372036854775807) (hbl : b.length ≤ 2 ^ 40) :
    FnS Tryd.prog 44 [.agg (encFlash f), .int .i64 page, .int .i64 at_, .sl t 1 (b.map encB)] [] (.tup [.agg (encFlash (writeF f page at_ b).1), .int .i64 (writeF f page at_ b).2]) [] := by
  obtain ⟨ps, w, left, down⟩ := f
  obtain ⟨n1, n80, wl, gl, gd, gw, gb⟩ := hg
  unfold Flash.bytes at hb
  simp only at n1 n80 wl gl gd gw gb hI hb
  refine fn_walk tabOk Tryd.func44 rfl (by decide +kernel) Tryd.ntmps44 Tryd.results44 (by simp) fun B hB => ?_
  try refine hK _ ?_
  repeat (first | refine awp_seq ?_ | refine awp_block ?_ | refine awp_skip ?_ | refine awp_scope ?_ | refine awp_label ?_)
  refine awp_region tabOk fun K hK => ?_
  simp -dsimp -implicitDefEqProofs only [encFlash, push_cast, ↓trAdd_f, ↓stOf_f, seval]
  try refine hK _ ?_
  repeat (first | refine awp_seq ?_ | refine awp_block ?_ | refine awp_skip ?_ | refine awp_scope ?_ | refine awp_label ?_)
  refine awp_region tabOk fun K hK => ?_
  simp -dsimp -implicitDefEqProofs only [push_cast, ↓trAdd_f, ↓stOf_f, seval]
  try refine hK _ ?_
  repeat (first | refine awp_seq ?_ | refine awp_block ?_ | refine awp_skip ?_ | refine awp_scope ?_ | refine awp_label ?_)
  refine awp_cond (b := down) (by simp -dsimp -implicitDefEqProofs only [push_cast, ↓trAdd_f, ↓stOf_f, seval]) (fun h => ?_) (fun h => ?_)
  · subst h
    try refine hK _ ?_
    repeat (first | refine awp_seq ?_ | refine awp_block ?_ | refine awp_skip ?_ | refine awp_scope ?_ | refine awp_label ?_)
    refine awp_region tabOk fun K hK => ?_
    simp -dsimp -implicitDefEqProofs only [push_cast, ↓trAdd_f, ↓stOf_f, seval]
    refine hK _ (awp_ret ?_)
    simp -dsimp -implicitDefEqProofs only [writeF, encFlash, push_cast, List.mem_append, List.mem_cons, List.mem_singleton, forall_eq_or_imp, forall_eq, ↓trAdd_f, ↓stOf_f, seval]
  subst h
  try refine hK _ ?_
  repeat (first | refine awp_seq ?_ | refine awp_block ?_ | refine awp_skip ?_ | refine awp_scope ?_ | refine awp_label ?_)
  refine awp_region tabOk fun K hK => ?_
  simp -dsimp -implicitDefEqProofs only [push_cast, ↓trAdd_f, ↓stOf_f, seval]
  refine callK_simple (in_ok ⟨ps, w, left, false⟩ page at_ b.length) ?_ rfl fun _ => ?_
  · simp -dsimp -implicitDefEqProofs only [encFlash, push_cast, List.mem_append, List.mem_cons, List.mem_singleton, forall_eq_or_imp, forall_eq, ↓trAdd_f, ↓stOf_f, seval]
  simp -dsimp -implicitDefEqProofs only [push_cast, ↓trAdd_f, ↓stOf_f, seval]
  refine hK _ ?_
  try refine hK _ ?_
  repeat (first | refine awp_seq ?_ | refine awp_block ?_ | refine awp_skip ?_ | refine awp_scope ?_ | refine awp_label ?_)
  refine awp_cond (b := !inF ⟨ps, w, left, false⟩ page at_ b.length) (by simp -dsimp -implicitDefEqProofs only [push_cast, ↓trAdd_f, ↓stOf_f, seval]) (fun h => ?_) (fun h => ?_)
  · have h' : inF ⟨ps, w, left, false⟩ page at_ b.length = false := by simpa using h
    try refine hK _ ?_
    repeat (first | refine awp_seq ?_ | refine awp_block ?_ | refine awp_skip ?_ | refine awp_scope ?_ | refine awp_label ?_)
    refine awp_region tabOk fun K hK => ?_
    simp -dsimp -implicitDefEqProofs only [push_cast, ↓trAdd_f, ↓stOf_f, seval]
    refine hK _ (awp_ret ?_)
    simp -dsimp -implicitDefEqProofs only [writeF, encFlash, h', push_cast, List.mem_append, List.mem_cons, List.mem_singleton, forall_eq_or_imp, forall_eq, ↓trAdd_f, ↓stOf_f, seval]
  have h' : inF ⟨ps, w, left, false⟩ page at_ b.length = true := by simpa using h
  obtain ⟨⟨p0, p1⟩, a0, _, a1⟩ := (inF_iff _ _ _ _).1 h'
  obtain ⟨k, rfl⟩ := Int.eq_ofNat_of_zero_le p0
  obtain ⟨a, rfl⟩ := Int.eq_ofNat_of_zero_le a0
  have hk : k < ps.length := by simpa using p1
  have h64 := gb ps[k] (List.getElem_mem hk)
  have hal : a + b.length ≤ 64 := by omega
  have hpl : (ps[k].map encB).length = 64 := by simpa using h64
  have hcl : (clean64.map encB).length = 64 := by simp [clean64]
  have hgp : ps.getD k [] = ps[k] := by simp [List.getD, hk]
  have htn : ((a : Int) + (b.length : Int)).toNat - a = b.length := by omega
  have hwr : IntKind.i64.wrap ((a : Int) + (b.length : Int)) = (a : Int) + b.length := wrap_i64 (by omega) (by omega)
  have hs1 : List.take (((a : Int) + (b.length : Int)).toNat - a) (List.drop a (ps[k].map encB)) = ((ps[k].drop a).take b.length).map encB := by rw [htn, List.map_take, List.map_drop]
  try refine hK _ ?_
  repeat (first | refine awp_seq ?_ | refine awp_block ?_ | refine awp_skip ?_ | refine awp_scope ?_ | refine awp_label ?_)
  refine awp_draw tabOk (by kernel_rfl) (by kernel_rfl) fun K hK C hC => ?_
  simp -dsimp -implicitDefEqProofs only [hk, getD_map, encP, Int.toNat_natCast, hwr, hs1, push_cast, ↓trAdd_f, ↓stOf_f, seval]
  have hs2 : List.take b.length (clean64.map encB) = (clean64.take b.length).map encB := by rw [List.map_take]
  have hfree : freeF ps[k] a b.length = decide ((ps[k].drop a).take b.length = clean64.take b.length) := rfl
  refine ⟨⟨by omega, by omega⟩, ⟨by omega, by omega, by omega⟩, ?_⟩
  refine callK_simple clean_ok ?_ rfl fun _ => ?_
  · simp -dsimp -implicitDefEqProofs only [push_cast, List.mem_append, List.mem_cons, List.mem_singleton, forall_eq_or_imp, forall_eq, ↓trAdd_f, ↓stOf_f, seval]
  simp -dsimp -implicitDefEqProofs only [hcl, hs2, Int.toNat_natCast, push_cast, ↓trAdd_f, ↓stOf_f, seval]
  refine ⟨⟨by omega, by omega⟩, ?_⟩
  refine callK_simple (equal_ok false false ((ps[k].drop a).take b.length) (clean64.take b.length) (fun x hx => hb _ (List.getElem_mem hk) x (List.mem_of_mem_drop (List.mem_of_mem_take hx))) (fun x hx => by have := List.mem_of_mem_take hx; simp [clean64] at this; subst this; exact ⟨by decide, by decide⟩)) ?_ rfl fun _ => ?_
  · simp -dsimp -implicitDefEqProofs only [push_cast, List.mem_append, List.mem_cons, List.mem_singleton, forall_eq_or_imp, forall_eq, ↓trAdd_f, ↓stOf_f, seval]
  rw [← hfree]
  simp -dsimp -implicitDefEqProofs only [push_cast, ↓trAdd_f, ↓stOf_f, seval]
  refine ⟨hC _ (by kernel_rfl), hK _ ?_⟩
  try refine hK _ ?_
  repeat (first | refine awp_seq ?_ | refine awp_block ?_ | refine awp_skip ?_ | refine awp_scope ?_ | refine awp_label ?_)
  refine awp_cond (b := !freeF ps[k] a b.length) (by simp -dsimp -implicitDefEqProofs only [push_cast, ↓trAdd_f, ↓stOf_f, seval]) (fun h => ?_) (fun h => ?_)
  · have h2 : freeF ps[k] a b.length = false := by simpa using h
    try refine hK _ ?_
    repeat (first | refine awp_seq ?_ | refine awp_block ?_ | refine awp_skip ?_ | refine awp_scope ?_ | refine awp_label ?_)
    refine awp_region tabOk fun K hK => ?_
    simp -dsimp -implicitDefEqProofs only [push_cast, ↓trAdd_f, ↓stOf_f, seval]
    refine hK _ (awp_ret ?_)
    simp -dsimp -implicitDefEqProofs only [writeF, encFlash, h', Int.toNat_natCast, hgp, h2, push_cast, List.mem_append, List.mem_cons, List.mem_singleton, forall_eq_or_imp, forall_eq, ↓trAdd_f, ↓stOf_f, seval]
  have h2 : freeF ps[k] a b.length = true := by simpa using h
  refine awp_skip ?_
  try refine hK _ ?_
  repeat (first | refine awp_seq ?_ | refine awp_block ?_ | refine awp_skip ?_ | refine awp_scope ?_ | refine awp_label ?_)
  refine awp_region tabOk fun K hK => ?_
  simp -dsimp -implicitDefEqProofs only [push_cast, ↓trAdd_f, ↓stOf_f, seval]
  refine ⟨72, [], [], { args := [.agg (encFlash ⟨ps, w, left, false⟩), .int .i64 k], st0 := [], res := .agg [.own 0 1 0 ps.length, .sl false 1 (w.map encI), .int .i64 left, .bool false], st1 := [(0, .row 1 (ownR ps k 1)), (1, .row 1 (ps[k].map encB))], r := [] }, rfl, .inl (own_ok ⟨ps, w, left, false⟩ k hk h64 (by simp; omega)), ?_, ?_⟩
  · simp -dsimp -implicitDefEqProofs only [encFlash, ok_ownR, bytes_okl, hk, push_cast, List.mem_append, List.mem_cons, List.mem_singleton, forall_eq_or_imp, forall_eq, ↓trAdd_f, ↓stOf_f, seval]
    rfl
  simp -dsimp -implicitDefEqProofs only [encFlash, ren_ownR, bytes_ren, push_cast, ↓trAdd_f, ↓stOf_f, seval]
  refine hK _ ?_
  try refine hK _ ?_
  repeat (first | refine awp_seq ?_ | refine awp_block ?_ | refine awp_skip ?_ | refine awp_scope ?_ | refine awp_label ?_)
  refine awp_region tabOk fun K hK => ?_
  simp -dsimp -implicitDefEqProofs only [push_cast, ↓trAdd_f, ↓stOf_f, seval]
  refine hK _ (awp_block ?_)
  refine awp_for (fun x : Nat × List Int × Int => { sl := [(1, .int .i64 k), (2, .int .i64 a), (4, .ptr 0 0), (8, .ptr 8 0), (48, .sl t 1 (b.map encB)), (49, .int .i64 b.length), (50, .int .i64 x.1)], st := [(0, .box [.own 272 1 0 ps.length, .sl false 1 (w.map encI), .int .i64 x.2.2, .bool false]), (8, .box [.sl true 1 [], .sl true 1 [], .int .i64 0, .bool false]), (273, .row 1 (x.2.1.map encB)), (272, .row 1 (ownR ps k 273))], nx := 312, n := 72 })
    (fun x => x.1 ≤ b.length ∧ x.2.1.length = 64 ∧ (-1 ≤ x.2.2 ∧ x.2.2 ≤ 9223372036854775807) ∧ laidF (b.drop x.1) (a + x.1) x.2.1 x.2.2 = laidF b a ps[k] left) (fun x => b.length - x.1) (0, ps[k], left) ⟨Nat.zero_le _, h64, ⟨gl, hI⟩, rfl⟩ ?_ fun x hx => ?_
  · refine le_intro hB [] (by simp) (fun b _ => rfl) rfl ?_ ?_ rfl <;> simp -dsimp -implicitDefEqProofs only [ren_ownR, ok_ownR, bytes_okl, bytes_ren, hk, push_cast, ↓trAdd_f, ↓stOf_f, seval]
  obtain ⟨i, pg, lf⟩ := x
  obtain ⟨hi, hpg, hlf, hla⟩ := hx
  simp only at hi hpg hlf hla
  have hR := ownR_len ps k 273
  have hR2 := ownR_get ps k 273 hk
  try refine hK _ ?_
  repeat (first | refine awp_seq ?_ | refine awp_block ?_ | refine awp_skip ?_ | refine awp_scope ?_ | refine awp_label ?_)
  refine awp_region tabOk fun K hK => ?_
  simp -dsimp -implicitDefEqProofs only [push_cast, ↓trAdd_f, ↓stOf_f, seval]
  try refine hK _ ?_
  repeat (first | refine awp_seq ?_ | refine awp_block ?_ | refine awp_skip ?_ | refine awp_scope ?_ | refine awp_label ?_)
  refine awp_cond (b := decide ((i : Int) < b.length)) (by simp -dsimp -implicitDefEqProofs only [push_cast, ↓trAdd_f, ↓stOf_f, seval]) (fun h => ?_) (fun h => ?_)
  rotate_left
  · have hib : i = b.length := by simp at h; omega
    subst hib
    rw [List.drop_length, laidF_nil] at hla
    refine awp_exit rfl ?_
    try refine hK _ ?_
    repeat (first | refine awp_seq ?_ | refine awp_block ?_ | refine awp_skip ?_ | refine awp_scope ?_ | refine awp_label ?_)
    refine awp_region tabOk fun K hK => ?_
    simp -dsimp -implicitDefEqProofs only [push_cast, ↓trAdd_f, ↓stOf_f, seval]
    refine hK _ ?_
    refine awp_le (le_frzR _ [273] 272 1 (ownR ps k 273) rfl (by decide) (frzOk_ownR ps k 273 _ _ hpg rfl) (by simp [lk])) ?_
    rw [frz_ownR ps k 273 _ _ hpg rfl]
    have hl3 : ((ps.set k pg).map encP).take ps.length = (ps.set k pg).map encP := List.take_of_length_le (by simp)
    have hE : writeF ⟨ps, w, left, false⟩ k a b = ({ pages := ps.set k pg, wear := w, left := lf, down := false }, 0) := by
      simp only [writeF, h', Int.toNat_natCast, hgp, h2, ← hla, if_false, Bool.false_eq_true, Bool.true_eq_false]
    refine awp_ret ?_
    simp -dsimp -implicitDefEqProofs only [hE, encFlash, pages_fz, ints_fz, hl3, ins, del, delAll, List.length_set, List.length_map, Nat.le_refl, push_cast, List.mem_append, List.mem_cons, List.mem_singleton, forall_eq_or_imp, forall_eq, ↓trAdd_f, ↓stOf_f, seval]
  have hlt : i < b.length := by simpa using h
  have hwi : IntKind.i64.wrap ((a : Int) + (i : Int)) = (a : Int) + i := wrap_i64 (by omega) (by omega)
  have hti : ((a : Int) + (i : Int)).toNat = a + i := by omega
  refine awp_skip ?_
  try refine hK _ ?_
  repeat (first | refine awp_seq ?_ | refine awp_block ?_ | refine awp_skip ?_ | refine awp_scope ?_ | refine awp_label ?_)
  refine awp_region tabOk fun K hK => ?_
  simp -dsimp -implicitDefEqProofs only [hlt, getD_map, encB, push_cast, ↓trAdd_f, ↓stOf_f, seval]
  refine ⟨⟨by omega, by omega⟩, hK _ ?_⟩
  try refine hK _ ?_
  repeat (first | refine awp_seq ?_ | refine awp_block ?_ | refine awp_skip ?_ | refine awp_scope ?_ | refine awp_label ?_)
  refine awp_region tabOk fun K hK => ?_
  simp -dsimp -implicitDefEqProofs only [hR, hR2, hwi, hti, push_cast, ↓trAdd_f, ↓stOf_f, seval]
  refine ⟨⟨by omega, by omega⟩, by omega, ⟨by omega, by omega⟩, hK _ ?_⟩
  try refine hK _ ?_
  repeat (first | refine awp_seq ?_ | refine awp_block ?_ | refine awp_skip ?_ | refine awp_scope ?_ | refine awp_label ?_)
  refine awp_region tabOk fun K hK => ?_
  simp -dsimp -implicitDefEqProofs only [push_cast, ↓trAdd_f, ↓stOf_f, seval]
  have hbd : b.drop i = b[i] :: b.drop (i + 1) := List.drop_eq_getElem_cons hlt
  rw [hbd] at hla
  by_cases h0 : lf = 0
  · subst h0
    rw [laidF_torn] at hla
    have he := do2_torn ps w false k b[i] (a + i) pg hk (by omega)
    refine ⟨76, [], [], { args := [.ptr 0 0, .agg [.fn (.func 77) [] [.ptr 1 0, .ptr 2 0], .fn (.func 78) [] [.ptr 1 0, .ptr 2 0]]], st0 := stW ps w 0 false k b[i] (a + i) pg, res := .bool false, st1 := stW ps w 0 true k b[i] (a + i) (pg.set (a + i) (or15 b[i])), r := [0, 344, 440, 273, 272] }, rfl, .inl he, ?_, ?_⟩
    · simp -dsimp -implicitDefEqProofs only [stW, ok_ownR, ren_ownR, bytes_okl, bytes_ren, hk, push_cast, List.mem_append, List.mem_cons, List.mem_singleton, forall_eq_or_imp, forall_eq, ↓trAdd_f, ↓stOf_f, seval]
      rfl
    simp -dsimp -implicitDefEqProofs only [stW, ok_ownR, ren_ownR, bytes_okl, bytes_ren, hk, push_cast, ↓trAdd_f, ↓stOf_f, seval]
    refine hK _ ?_
    try refine hK _ ?_
    repeat (first | refine awp_seq ?_ | refine awp_block ?_ | refine awp_skip ?_ | refine awp_scope ?_ | refine awp_label ?_)
    refine awp_cond (b := true) (by simp -dsimp -implicitDefEqProofs only [push_cast, ↓trAdd_f, ↓stOf_f, seval]) (fun h => ?_) (fun h => ?_)
    rotate_left
    · cases h
    try refine hK _ ?_
    repeat (first | refine awp_seq ?_ | refine awp_block ?_ | refine awp_skip ?_ | refine awp_scope ?_ | refine awp_label ?_)
    refine awp_region tabOk fun K hK => ?_
    simp -dsimp -implicitDefEqProofs only [push_cast, ↓trAdd_f, ↓stOf_f, seval]
    refine hK _ ?_
    have ht : (pg.set (a + i) (or15 b[i])).length = 64 := by simpa using hpg
    refine awp_le (le_frzR _ [273] 272 1 (ownR ps k 273) rfl (by decide) (frzOk_ownR ps k 273 _ _ ht rfl) (by simp [lk])) ?_
    rw [frz_ownR ps k 273 _ _ ht rfl]
    have hl3 : ((ps.set k (pg.set (a + i) (or15 b[i]))).map encP).take ps.length = (ps.set k (pg.set (a + i) (or15 b[i]))).map encP := List.take_of_length_le (by simp)
    have hE : writeF ⟨ps, w, left, false⟩ k a b = ({ pages := ps.set k (pg.set (a + i) (or15 b[i])), wear := w, left := 0, down := true }, 250) := by
      simp only [writeF, h', Int.toNat_natCast, hgp, h2, ← hla, if_false, if_true, Bool.false_eq_true, Bool.true_eq_false]
    refine awp_ret ?_
    simp -dsimp -implicitDefEqProofs only [hE, encFlash, pages_fz, ints_fz, hl3, ins, del, delAll, List.length_set, List.length_map, Nat.le_refl, push_cast, List.mem_append, List.mem_cons, List.mem_singleton, forall_eq_or_imp, forall_eq, ↓trAdd_f, ↓stOf_f, seval]
  · rw [laidF_next _ _ _ _ h0] at hla
    have he := do2_whole ps w lf false k b[i] (a + i) pg hk (by omega) h0 hlf
    refine ⟨76, [], [], { args := [.ptr 0 0, .agg [.fn (.func 77) [] [.ptr 1 0, .ptr 2 0], .fn (.func 78) [] [.ptr 1 0, .ptr 2 0]]], st0 := stW ps w lf false k b[i] (a + i) pg, res := .bool true, st1 := stW ps w (decL lf) false k b[i] (a + i) (pg.set (a + i) b[i]), r := [0, 344, 440, 273, 272] }, rfl, .inl he, ?_, ?_⟩
    · simp -dsimp -implicitDefEqProofs only [stW, ok_ownR, ren_ownR, bytes_okl, bytes_ren, hk, push_cast, List.mem_append, List.mem_cons, List.mem_singleton, forall_eq_or_imp, forall_eq, ↓trAdd_f, ↓stOf_f, seval]
      rfl
    simp -dsimp -implicitDefEqProofs only [stW, ok_ownR, ren_ownR, bytes_okl, bytes_ren, hk, push_cast, ↓trAdd_f, ↓stOf_f, seval]
    refine hK _ ?_
    try refine hK _ ?_
    repeat (first | refine awp_seq ?_ | refine awp_block ?_ | refine awp_skip ?_ | refine awp_scope ?_ | refine awp_label ?_)
    refine awp_cond (b := false) (by simp -dsimp -implicitDefEqProofs only [push_cast, ↓trAdd_f, ↓stOf_f, seval]) (fun h => ?_) (fun h => ?_)
    · cases h
    refine awp_skip ?_
    try refine hK _ ?_
    repeat (first | refine awp_seq ?_ | refine awp_block ?_ | refine awp_skip ?_ | refine awp_scope ?_ | refine awp_label ?_)
    refine awp_region tabOk fun K hK => ?_
    simp -dsimp -implicitDefEqProofs only [push_cast, ↓trAdd_f, ↓stOf_f, seval]
    try simp (disch := omega) only [wrap_i64, wrap_u8, wrap_u16, wrap_u32]
    have hdl : -1 ≤ decL lf ∧ decL lf ≤ 9223372036854775807 := by unfold decL; split <;> omega
    refine hK _ ⟨(i + 1, pg.set (a + i) b[i], decL lf), ⟨hlt, by simpa using hpg, hdl, by rw [← hla, Nat.add_assoc]⟩, by simp only; omega, ?_⟩
    refine le_intro hB [] (by simp) (fun b _ => rfl) rfl ?_ ?_ rfl <;> simp -dsimp -implicitDefEqProofs only [ren_ownR, ok_ownR, bytes_okl, bytes_ren, hk, push_cast, ↓trAdd_f, ↓stOf_f, seval]
end Go.Proofs.YtoifmpiikopelaaDoorFw

/-
  Walks: Read, New.
-/
namespace Go.Proofs.YtoifmpiikopelaaDoorFw
open Go Go.Proofs
set_option maxRecDepth 100000
set_option maxHeartbeats 4000000
set_option linter.unusedVariables false
set_option linter.unusedSimpArgs false

def readF (f : Flash) (page at_ n : Int) : List Int × Int :=
  if f.down then ([], 250) else if inF f page at_ n = false then ([], 251) else (((f.pages.getD page.toNat []).drop at_.toNat).take n.toNat, 0)
def newF (n : Nat) : Flash := { pages := List.replicate n clean64, wear := List.replicate n 0, left := -1, down := false }
theorem rep_succ {α : Type} (n : Nat) (x : α) : List.replicate n x ++ [x] = List.replicate (n + 1) x := by rw [List.replicate_succ']
theorem pagesN_ren (n : Nat) (r : Nat → Nat) : (List.replicate n (encP clean64)).map (renL r) = List.replicate n (encP clean64) := map_ren_fz _ (fun e he c hc => by rw [(List.mem_replicate.1 he).2] at hc; exact encP_fz _ c hc) r
theorem pagesN_okl (n : Nat) (S : Nat → Prop) : (∀ e ∈ List.replicate n (encP clean64), okL S e) = True := all_ok_fz _ (fun e he c hc => by rw [(List.mem_replicate.1 he).2] at hc; exact encP_fz _ c hc) S
theorem pagesN_fz (n : Nat) : (∀ e ∈ List.replicate n (encP clean64), ∀ c ∈ e, c.fz = true) = True := eq_true fun e he c hc => by rw [(List.mem_replicate.1 he).2] at hc; exact encP_fz _ c hc
theorem zerosN_ren (n : Nat) (r : Nat → Nat) : (List.replicate n [PV.int .i64 0]).map (renL r) = List.replicate n [PV.int .i64 0] := map_ren_fz _ (fun e he c hc => by rw [(List.mem_replicate.1 he).2] at hc; exact encI_fz 0 c hc) r
theorem zerosN_okl (n : Nat) (S : Nat → Prop) : (∀ e ∈ List.replicate n [PV.int .i64 0], okL S e) = True := all_ok_fz _ (fun e he c hc => by rw [(List.mem_replicate.1 he).2] at hc; exact encI_fz 0 c hc) S
theorem zerosN_fz (n : Nat) : (∀ e ∈ List.replicate n [PV.int .i64 0], ∀ c ∈ e, c.fz = true) = True := eq_true fun e he c hc => by rw [(List.mem_replicate.1 he).2] at hc; exact encI_fz 0 c hc
theorem new_ok (n : Nat) (hn : n ≤ 80) : FnS Tryd.prog 41 [.int .i64 n] [] (.agg (encFlash (newF n))) [] := by
  refine fn_walk tabOk Tryd.func41 rfl (by decide +kernel) Tryd.ntmps41 Tryd.results41 (by simp) fun B hB => ?_
  try refine hK _ ?_
  repeat (first | refine awp_seq ?_ | refine awp_block ?_ | refine awp_skip ?_ | refine awp_scope ?_ | refine awp_label ?_)
  refine awp_region tabOk fun K hK => ?_
  simp -dsimp -implicitDefEqProofs only [push_cast, ↓trAdd_f, ↓stOf_f, seval]
  try refine hK _ ?_
  repeat (first | refine awp_seq ?_ | refine awp_block ?_ | refine awp_skip ?_ | refine awp_scope ?_ | refine awp_label ?_)
  refine awp_region tabOk fun K hK => ?_
  simp -dsimp -implicitDefEqProofs only [Int.toNat_natCast, push_cast, ↓trAdd_f, ↓stOf_f, seval]
  refine ⟨⟨by omega, by omega⟩, hK _ ?_⟩
  try refine hK _ ?_
  repeat (first | refine awp_seq ?_ | refine awp_block ?_ | refine awp_skip ?_ | refine awp_scope ?_ | refine awp_label ?_)
  refine awp_region tabOk fun K hK => ?_
  simp -dsimp -implicitDefEqProofs only [push_cast, ↓trAdd_f, ↓stOf_f, seval]
  refine hK _ (awp_le (le_nil1 _ 1) (awp_block ?_))
  refine awp_for (fun i : Nat => { sl := [(2, .ptr 0 0), (3, .ptr 32 0), (7, .int .i64 n), (8, .int .i64 i)], st := [(0, .box [.sl true 1 [], .sl true 1 [], .int .i64 0, .bool false]), (16, .row 1 (List.replicate n [.int .i64 0])), (32, .box [.own 64 1 0 i, .own 16 1 0 n, .int .i64 (-1), .bool false]), (64, .row 1 (List.replicate i (encP clean64)))], nx := 65, n := 18 }) (fun i => i ≤ n) (fun i => n - i) 0 (Nat.zero_le _) ?_ fun i hi => ?_
  · simp only [ins]
    refine le_intro hB [] (by simp) (fun b _ => rfl) rfl ?_ ?_ rfl <;> simp -dsimp -implicitDefEqProofs only [zerosN_ren, zerosN_okl, List.replicate_zero, push_cast, ↓trAdd_f, ↓stOf_f, seval]
  try refine hK _ ?_
  repeat (first | refine awp_seq ?_ | refine awp_block ?_ | refine awp_skip ?_ | refine awp_scope ?_ | refine awp_label ?_)
  refine awp_region tabOk fun K hK => ?_
  simp -dsimp -implicitDefEqProofs only [push_cast, ↓trAdd_f, ↓stOf_f, seval]
  try refine hK _ ?_
  repeat (first | refine awp_seq ?_ | refine awp_block ?_ | refine awp_skip ?_ | refine awp_scope ?_ | refine awp_label ?_)
  refine awp_cond (b := decide ((i : Int) < n)) (by simp -dsimp -implicitDefEqProofs only [push_cast, ↓trAdd_f, ↓stOf_f, seval]) (fun h => ?_) (fun h => ?_)
  · have hlt : i < n := by simpa using h
    have hlen : (List.replicate i (encP clean64)).length = i := by simp
    have htk : (List.replicate i (encP clean64)).take i = List.replicate i (encP clean64) := by simp
    have hsc : List.replicate i (encP clean64) ++ [[.sl false 1 (clean64.map encB)]] = List.replicate (i + 1) (encP clean64) := rep_succ i (encP clean64)
    refine awp_skip ?_
    try refine hK _ ?_
    repeat (first | refine awp_seq ?_ | refine awp_block ?_ | refine awp_skip ?_ | refine awp_scope ?_ | refine awp_label ?_)
    refine awp_draw tabOk (by kernel_rfl) (by kernel_rfl) fun K hK C hC => ?_
    simp -dsimp -implicitDefEqProofs only [push_cast, ↓trAdd_f, ↓stOf_f, seval]
    refine callK_simple clean_ok ?_ rfl fun _ => ?_
    · simp -dsimp -implicitDefEqProofs only [push_cast, List.mem_append, List.mem_cons, List.mem_singleton, forall_eq_or_imp, forall_eq, ↓trAdd_f, ↓stOf_f, seval]
    simp -dsimp -implicitDefEqProofs only [hlen, htk, hsc, push_cast, ↓trAdd_f, ↓stOf_f, seval]
    refine ⟨⟨by omega, by omega⟩, hC _ (by kernel_rfl), hK _ ?_⟩
    try refine hK _ ?_
    repeat (first | refine awp_seq ?_ | refine awp_block ?_ | refine awp_skip ?_ | refine awp_scope ?_ | refine awp_label ?_)
    refine awp_region tabOk fun K hK => ?_
    simp -dsimp -implicitDefEqProofs only [push_cast, ↓trAdd_f, ↓stOf_f, seval]
    try simp (disch := omega) only [wrap_i64, wrap_u8, wrap_u16, wrap_u32]
    refine hK _ ⟨i + 1, hlt, by omega, ?_⟩
    refine le_intro hB [(64, 105)] (by simp) (fun b hb => absurd hb (Nat.not_lt_zero b)) rfl ?_ ?_ rfl <;> simp -dsimp -implicitDefEqProofs only [zerosN_ren, zerosN_okl, pagesN_ren, pagesN_okl, push_cast, ↓trAdd_f, ↓stOf_f, seval]
  have he : i = n := by simp at h; omega
  subst he
  refine awp_exit rfl ?_
  try refine hK _ ?_
  repeat (first | refine awp_seq ?_ | refine awp_block ?_ | refine awp_skip ?_ | refine awp_scope ?_ | refine awp_label ?_)
  refine awp_region tabOk fun K hK => ?_
  simp -dsimp -implicitDefEqProofs only [push_cast, ↓trAdd_f, ↓stOf_f, seval]
  refine hK _ (awp_ret ?_)
  have e1 : (List.replicate i (encP clean64)).take i = List.replicate i (encP clean64) := by simp
  have e2 : (List.replicate i [PV.int .i64 0]).take i = List.replicate i [PV.int .i64 0] := by simp
  have e3 : (List.replicate i clean64).map encP = List.replicate i (encP clean64) := by simp
  have e4 : (List.replicate i (0 : Int)).map encI = List.replicate i [PV.int .i64 0] := by simp [encI]
  simp -dsimp -implicitDefEqProofs only [newF, encFlash, pagesN_fz, zerosN_fz, e1, e2, e3, e4, List.length_replicate, Nat.le_refl, push_cast, List.mem_append, List.mem_cons, List.mem_singleton, forall_eq_or_imp, forall_eq, ↓trAdd_f, ↓stOf_f, seval]
end Go.Proofs.YtoifmpiikopelaaDoorFw

/-
  A flash stays as it may be, whatever is done (no program in sight).
-/
namespace Go.Proofs.YtoifmpiikopelaaDoorFw
open Go Go.Proofs
set_option linter.unusedVariables false

structure Flash.fine (f : Flash) : Prop where
  good : f.good
  bytes : f.bytes
  lim : f.left ≤ 9223372036854775807
theorem byte255 : byte 255 := ⟨by decide, by decide⟩
theorem byte_clean : ∀ x ∈ clean64, byte x := fun x hx => by rw [(List.mem_replicate.1 hx).2]; exact byte255
theorem clean_len : clean64.length = 64 := rfl
theorem byte_or15 (x : Int) : byte (or15 x) := by
  unfold or15 byte
  have : ∀ n : Nat, 0 ≤ IntKind.u8.wrap (n : Int) ∧ IntKind.u8.wrap (n : Int) ≤ 255 := fun n => by
    simp [IntKind.wrap, IntKind.bits, IntKind.signed]; omega
  exact this _
theorem torn_len {p : List Int} (h : p.length = 64) : (tornP p).length = 64 := by simp [tornP, clean64, h]
theorem byte_torn {p : List Int} (h : ∀ x ∈ p, byte x) : ∀ x ∈ tornP p, byte x := by
  intro x hx
  rcases List.mem_append.1 hx with hx | hx
  · exact byte_clean x (List.mem_of_mem_take hx)
  · exact h x (List.mem_of_mem_drop hx)
theorem dec_lim {l : Int} (h1 : -1 ≤ l) (h2 : l ≤ 9223372036854775807) : -1 ≤ decL l ∧ decL l ≤ 9223372036854775807 := by unfold decL; split <;> omega
theorem byte_set {p : List Int} (h : ∀ x ∈ p, byte x) (j : Nat) {y : Int} (hy : byte y) : ∀ x ∈ p.set j y, byte x := by
  intro x hx
  rcases List.mem_or_eq_of_mem_set hx with hx | rfl
  · exact h x hx
  · exact hy
theorem laidF_bytes : ∀ (b : List Int) (j : Nat) (pg : List Int) (left : Int), (∀ x ∈ b, byte x) → (∀ x ∈ pg, byte x) → ∀ x ∈ (laidF b j pg left).1, byte x
  | [], _, _, _, _, hp => hp
  | y :: b, j, pg, left, hb, hp => by
    unfold laidF
    split
    · exact byte_set hp j (byte_or15 y)
    · exact laidF_bytes b _ _ _ (fun x hx => hb x (by simp [hx])) (byte_set hp j (hb y (by simp)))
theorem laidF_left : ∀ (b : List Int) (j : Nat) (pg : List Int) (left : Int), -1 ≤ left → left ≤ 9223372036854775807 → -1 ≤ (laidF b j pg left).2.1 ∧ (laidF b j pg left).2.1 ≤ 9223372036854775807 ∧ ((laidF b j pg left).2.2 = true → (laidF b j pg left).2.1 = 0)
  | [], _, _, _, h1, h2 => ⟨h1, h2, by simp [laidF]⟩
  | y :: b, j, pg, left, h1, h2 => by
    unfold laidF
    split
    · simp
    · obtain ⟨h3, h4⟩ := dec_lim h1 h2
      exact laidF_left b _ _ _ h3 h4
theorem fine_power {f : Flash} (h : f.fine) (l : Int) (h1 : -1 ≤ l) (h2 : l ≤ 9223372036854775807) : (powerF f l).fine :=
  ⟨⟨h.good.n1, h.good.n80, h.good.wl, h1, by simp [powerF], h.good.wear, h.good.block⟩, h.bytes, h2⟩
theorem set_block {ps : List (List Int)} (h : ∀ p ∈ ps, p.length = 64) (k : Nat) {q : List Int} (hq : q.length = 64) : ∀ p ∈ ps.set k q, p.length = 64 := by
  intro x hx
  rcases List.mem_or_eq_of_mem_set hx with hx | rfl
  · exact h x hx
  · exact hq
theorem set_bytes {ps : List (List Int)} (h : ∀ p ∈ ps, ∀ x ∈ p, byte x) (k : Nat) {q : List Int} (hq : ∀ x ∈ q, byte x) : ∀ p ∈ ps.set k q, ∀ x ∈ p, byte x := by
  intro x hx
  rcases List.mem_or_eq_of_mem_set hx with hx | rfl
  · exact h x hx
  · exact hq
theorem page_of {f : Flash} {page at_ n : Int} (h : inF f page at_ n = true) : page.toNat < f.pages.length ∧ f.pages.getD page.toNat [] ∈ f.pages := by
  obtain ⟨⟨h1, h2⟩, _⟩ := (inF_iff _ _ _ _).1 h
  have hk : page.toNat < f.pages.length := by omega
  refine ⟨hk, ?_⟩
  rw [List.getD_eq_getElem?_getD, List.getElem?_eq_getElem hk]
  exact List.getElem_mem hk
theorem fine_erase {f : Flash} (h : f.fine) (page : Int) : (eraseF f page).1.fine := by
  unfold eraseF
  split
  · exact h
  · split
    · exact h
    · rename_i hin
      obtain ⟨hk, hm⟩ := page_of (by simpa using hin)
      have h64 := h.good.block _ hm
      have hby := h.bytes _ hm
      split
      · exact ⟨⟨by simpa using h.good.n1, by simpa using h.good.n80, by simpa using h.good.wl, by show (-1 : Int) ≤ 0; decide, fun _ => rfl, h.good.wear, set_block h.good.block _ (torn_len h64)⟩, set_bytes h.bytes _ (byte_torn hby), by show (0 : Int) ≤ _; decide⟩
      · obtain ⟨h3, h4⟩ := dec_lim h.good.left h.lim
        refine ⟨⟨by simpa using h.good.n1, by simpa using h.good.n80, by simpa using h.good.wl, h3, fun hd => ?_, fun x hx => ?_, set_block h.good.block _ clean_len⟩, set_bytes h.bytes _ byte_clean, h4⟩
        · have := h.good.down hd
          rename_i h0; exact (h0 this).elim
        · rcases List.mem_or_eq_of_mem_set hx with hx | rfl
          · exact h.good.wear x hx
          · have hw : page.toNat < f.wear.length := by rw [h.good.wl]; exact hk
            have := h.good.wear (f.wear.getD page.toNat 0) (by rw [List.getD_eq_getElem?_getD, List.getElem?_eq_getElem hw]; exact List.getElem_mem hw)
            omega
theorem fine_write {f : Flash} (h : f.fine) (page at_ : Int) {b : List Int} (hb : ∀ x ∈ b, byte x) : (writeF f page at_ b).1.fine := by
  unfold writeF
  split
  · exact h
  · split
    · exact h
    · rename_i hin
      obtain ⟨hk, hm⟩ := page_of (by simpa using hin)
      have h64 := h.good.block _ hm
      have hby := h.bytes _ hm
      split
      · exact h
      · obtain ⟨h3, h4, h5⟩ := laidF_left b at_.toNat (f.pages.getD page.toNat []) f.left h.good.left h.lim
        exact ⟨⟨by simpa using h.good.n1, by simpa using h.good.n80, by simpa using h.good.wl, h3, h5, h.good.wear, set_block h.good.block _ (by rw [laidF_len]; exact h64)⟩, set_bytes h.bytes _ (laidF_bytes _ _ _ _ hb hby), h4⟩
theorem fine_new (n : Nat) (h1 : 1 ≤ n) (h2 : n ≤ 80) : (newF n).fine :=
  ⟨⟨by simpa [newF] using h1, by simpa [newF] using h2, by simp [newF], by show (-1 : Int) ≤ -1; decide, by simp [newF], fun x hx => by rw [(List.mem_replicate.1 hx).2]; omega, fun p hp => by rw [(List.mem_replicate.1 hp).2]; rfl⟩,
    fun p hp => by rw [(List.mem_replicate.1 hp).2]; exact byte_clean, by show (-1 : Int) ≤ _; decide⟩
theorem read_bytes {f : Flash} (h : f.fine) (page at_ n : Int) : ∀ x ∈ (readF f page at_ n).1, byte x := by
  unfold readF
  split
  · simp
  · split
    · simp
    · rename_i hin
      obtain ⟨hk, hm⟩ := page_of (by simpa using hin)
      exact fun x hx => h.bytes _ hm x (List.mem_of_mem_drop (List.mem_of_mem_take hx))
end Go.Proofs.YtoifmpiikopelaaDoorFw

/-
  Walks: slot.Read, Put, Fresh, none, Save.
-/
namespace Go.Proofs.YtoifmpiikopelaaDoorFw
open Go Go.Proofs
set_option maxRecDepth 100000
set_option maxHeartbeats 4000000
set_option linter.unusedVariables false
set_option linter.unusedSimpArgs false

def rec0 : Rec := ⟨0, 0, 0, 0, 0, 0⟩
def takeR (p : List Int) (i : Nat) (o : Rec × Int) : Rec × Int := if heldB p i && decide (o.1.seq < (heldR p).seq) then (heldR p, 0) else o
def readTo (f : Flash) : Nat → Rec × Int
  | 0 => (rec0, 260)
  | k + 1 => takeR (f.pages.getD k []) k (readTo f k)
def readS (f : Flash) : Rec × Int := if f.down then (rec0, 250) else readTo f 2
def rdS (f : Flash) (k : Nat) (o : Rec × Int) : AS := { sl := [(1, .ptr 100 0), (2, .ptr 101 0), (4, .ptr 102 0), (5, .int .i64 o.2), (16, .sl false 1 ((f.pages.take 2).map encP)), (17, .int .i64 2), (18, .int .i64 k)], st := [(100, .box (encFlash f)), (101, .box (encRec rec0)), (102, .box (encRec o.1))], nx := 200, n := 41 }
theorem read_ok (f : Flash) (hl : 2 ≤ f.pages.length) (hp : ∀ p ∈ f.pages, p.length = 64) (hb : f.bytes) : FnS Tryd.prog 21 [.agg (encFlash f)] [] (.tup [.agg (encRec (readS f).1), .int .i64 (readS f).2]) [] := by
  refine fn_walk tabOk Tryd.func21 rfl (by decide +kernel) Tryd.ntmps21 Tryd.results21 (by simp) fun B hB => ?_
  try refine hK _ ?_
  repeat (first | refine awp_seq ?_ | refine awp_block ?_ | refine awp_skip ?_ | refine awp_scope ?_ | refine awp_label ?_)
  refine awp_region tabOk fun K hK => ?_
  simp -dsimp -implicitDefEqProofs only [encFlash, push_cast, ↓trAdd_f, ↓stOf_f, seval]
  refine hK _ ?_
  try refine hK _ ?_
  repeat (first | refine awp_seq ?_ | refine awp_block ?_ | refine awp_skip ?_ | refine awp_scope ?_ | refine awp_label ?_)
  refine awp_region tabOk fun K hK => ?_
  simp -dsimp -implicitDefEqProofs only [push_cast, ↓trAdd_f, ↓stOf_f, seval]
  try refine hK _ ?_
  repeat (first | refine awp_seq ?_ | refine awp_block ?_ | refine awp_skip ?_ | refine awp_scope ?_ | refine awp_label ?_)
  refine awp_cond (b := f.down) (by simp -dsimp -implicitDefEqProofs only [push_cast, ↓trAdd_f, ↓stOf_f, seval]) (fun h => ?_) (fun h => ?_)
  · have e : readS f = (rec0, 250) := by unfold readS; rw [if_pos h]
    try refine hK _ ?_
    repeat (first | refine awp_seq ?_ | refine awp_block ?_ | refine awp_skip ?_ | refine awp_scope ?_ | refine awp_label ?_)
    refine awp_region tabOk fun K hK => ?_
    simp -dsimp -implicitDefEqProofs only [push_cast, ↓trAdd_f, ↓stOf_f, seval]
    refine hK _ (awp_ret ?_)
    simp -dsimp -implicitDefEqProofs only [e, encRec, rec0, push_cast, List.mem_append, List.mem_cons, List.mem_singleton, forall_eq_or_imp, forall_eq, ↓trAdd_f, ↓stOf_f, seval]
  have e0 : readS f = readTo f 2 := by unfold readS; rw [if_neg (by simp [h])]
  refine awp_skip ?_
  try refine hK _ ?_
  repeat (first | refine awp_seq ?_ | refine awp_block ?_ | refine awp_skip ?_ | refine awp_scope ?_ | refine awp_label ?_)
  refine awp_region tabOk fun K hK => ?_
  simp -dsimp -implicitDefEqProofs only [push_cast, ↓trAdd_f, ↓stOf_f, seval]
  refine hK _ ?_
  have hm : min 2 f.pages.length = 2 := by omega
  have hl2 : (f.pages.take 2).length = 2 := by simp; omega
  have hte : (f.pages.map encP).take 2 = (f.pages.take 2).map encP := by rw [List.map_take]
  have h2 : Int.toNat 2 = 2 := rfl
  try refine hK _ ?_
  repeat (first | refine awp_seq ?_ | refine awp_block ?_ | refine awp_skip ?_ | refine awp_scope ?_ | refine awp_label ?_)
  refine awp_region tabOk fun K hK => ?_
  simp -dsimp -implicitDefEqProofs only [hte, h2, hl2, push_cast, ↓trAdd_f, ↓stOf_f, seval]
  refine ⟨by omega, hK _ (awp_block ?_)⟩
  refine awp_for (fun k : Nat => rdS f k (readTo f k)) (fun k => k ≤ 2) (fun k => 2 - k) 0 (Nat.zero_le _) ?_ fun k hk => ?_
  · simp only [rdS, encRec, rec0, readTo, encFlash]
    refine le_intro hB [(100, 0), (101, 8), (102, 48)] (by simp) (fun b hb => absurd hb (Nat.not_lt_zero b)) rfl ?_ ?_ rfl <;> simp -dsimp -implicitDefEqProofs only [push_cast, ↓trAdd_f, ↓stOf_f, seval]
  simp only [rdS]
  try refine hK _ ?_
  repeat (first | refine awp_seq ?_ | refine awp_block ?_ | refine awp_skip ?_ | refine awp_scope ?_ | refine awp_label ?_)
  refine awp_region tabOk fun K hK => ?_
  simp -dsimp -implicitDefEqProofs only [push_cast, ↓trAdd_f, ↓stOf_f, seval]
  try refine hK _ ?_
  repeat (first | refine awp_seq ?_ | refine awp_block ?_ | refine awp_skip ?_ | refine awp_scope ?_ | refine awp_label ?_)
  refine awp_cond (b := decide ((k : Int) < 2)) (by simp -dsimp -implicitDefEqProofs only [push_cast, ↓trAdd_f, ↓stOf_f, seval]) (fun h => ?_) (fun h => ?_)
  · have hlt : k < 2 := by have := of_decide_eq_true h; omega
    have hkl : k < f.pages.length := by omega
    have hkq : k < (f.pages.take 2).length := by omega
    have hgk : (f.pages.take 2)[k] = f.pages[k] := by simp
    have hstep : readTo f (k + 1) = takeR f.pages[k] k (readTo f k) := by
      show takeR (f.pages.getD k []) k (readTo f k) = _
      rw [show f.pages.getD k [] = f.pages[k] by simp [List.getD, hkl]]
    refine awp_skip ?_
    try refine hK _ ?_
    repeat (first | refine awp_seq ?_ | refine awp_block ?_ | refine awp_skip ?_ | refine awp_scope ?_ | refine awp_label ?_)
    refine awp_region tabOk fun K hK => ?_
    simp -dsimp -implicitDefEqProofs only [hkq, getD_map, encP, hgk, push_cast, ↓trAdd_f, ↓stOf_f, seval]
    refine ⟨⟨by omega, by omega⟩, hK _ ?_⟩
    try refine hK _ ?_
    repeat (first | refine awp_seq ?_ | refine awp_block ?_ | refine awp_skip ?_ | refine awp_scope ?_ | refine awp_label ?_)
    refine awp_region tabOk fun K hK => ?_
    simp -dsimp -implicitDefEqProofs only [push_cast, ↓trAdd_f, ↓stOf_f, seval]
    refine callK_simple (held_ok f.pages[k] k (hp _ (List.getElem_mem hkl)) (hb _ (List.getElem_mem hkl))) ?_ rfl fun _ => ?_
    · simp -dsimp -implicitDefEqProofs only [push_cast, List.mem_append, List.mem_cons, List.mem_singleton, forall_eq_or_imp, forall_eq, ↓trAdd_f, ↓stOf_f, seval]
    simp -dsimp -implicitDefEqProofs only [encRec, push_cast, ↓trAdd_f, ↓stOf_f, seval]
    refine hK _ ?_
    have hw : IntKind.i64.wrap ((k : Int) + 1) = (k : Int) + 1 := wrap_i64 (by omega) (by omega)
    generalize readTo f k = o at *
    obtain ⟨o1, o2⟩ := o
    cases hA : heldB f.pages[k] k with
    | false =>
      have e : takeR f.pages[k] k (o1, o2) = (o1, o2) := by unfold takeR; rw [hA]; simp
      try refine hK _ ?_
      repeat (first | refine awp_seq ?_ | refine awp_block ?_ | refine awp_skip ?_ | refine awp_scope ?_ | refine awp_label ?_)
      refine awp_region tabOk fun K hK => ?_
      simp -dsimp -implicitDefEqProofs only [hA, push_cast, ↓trAdd_f, ↓stOf_f, seval]
      try refine hK _ ?_
      repeat (first | refine awp_seq ?_ | refine awp_block ?_ | refine awp_skip ?_ | refine awp_scope ?_ | refine awp_label ?_)
      refine awp_cond (b := false) (by simp -dsimp -implicitDefEqProofs only [push_cast, ↓trAdd_f, ↓stOf_f, seval]) (fun h => ?_) (fun h => ?_)
      · cases h
      refine awp_skip ?_
      try refine hK _ ?_
      repeat (first | refine awp_seq ?_ | refine awp_block ?_ | refine awp_skip ?_ | refine awp_scope ?_ | refine awp_label ?_)
      refine awp_region tabOk fun K hK => ?_
      simp -dsimp -implicitDefEqProofs only [hw, push_cast, ↓trAdd_f, ↓stOf_f, seval]
      refine hK _ ⟨k + 1, hlt, Nat.sub_lt_sub_left (by omega) (by omega), ?_⟩
      rw [hstep, e]
      refine le_intro hB [] (by simp) (fun b _ => rfl) rfl ?_ ?_ rfl <;> simp -dsimp -implicitDefEqProofs only [encRec, encFlash, push_cast, ↓trAdd_f, ↓stOf_f, seval]
    | true =>
    cases hQ : decide (o1.seq < (heldR f.pages[k]).seq) with
    | false =>
      have e : takeR f.pages[k] k (o1, o2) = (o1, o2) := by unfold takeR; rw [hA]; simp only [Bool.true_and]; rw [hQ]; simp
      try refine hK _ ?_
      repeat (first | refine awp_seq ?_ | refine awp_block ?_ | refine awp_skip ?_ | refine awp_scope ?_ | refine awp_label ?_)
      refine awp_region tabOk fun K hK => ?_
      simp -dsimp -implicitDefEqProofs only [hA, hQ, encRec, push_cast, ↓trAdd_f, ↓stOf_f, seval]
      try refine hK _ ?_
      repeat (first | refine awp_seq ?_ | refine awp_block ?_ | refine awp_skip ?_ | refine awp_scope ?_ | refine awp_label ?_)
      refine awp_cond (b := false) (by simp -dsimp -implicitDefEqProofs only [push_cast, ↓trAdd_f, ↓stOf_f, seval]) (fun h => ?_) (fun h => ?_)
      · cases h
      refine awp_skip ?_
      try refine hK _ ?_
      repeat (first | refine awp_seq ?_ | refine awp_block ?_ | refine awp_skip ?_ | refine awp_scope ?_ | refine awp_label ?_)
      refine awp_region tabOk fun K hK => ?_
      simp -dsimp -implicitDefEqProofs only [hw, push_cast, ↓trAdd_f, ↓stOf_f, seval]
      refine hK _ ⟨k + 1, hlt, Nat.sub_lt_sub_left (by omega) (by omega), ?_⟩
      rw [hstep, e]
      refine le_intro hB [] (by simp) (fun b _ => rfl) rfl ?_ ?_ rfl <;> simp -dsimp -implicitDefEqProofs only [encRec, encFlash, push_cast, ↓trAdd_f, ↓stOf_f, seval]
    | true =>
      have e : takeR f.pages[k] k (o1, o2) = (heldR f.pages[k], 0) := by unfold takeR; rw [hA]; simp only [Bool.true_and]; rw [hQ]; simp
      try refine hK _ ?_
      repeat (first | refine awp_seq ?_ | refine awp_block ?_ | refine awp_skip ?_ | refine awp_scope ?_ | refine awp_label ?_)
      refine awp_region tabOk fun K hK => ?_
      simp -dsimp -implicitDefEqProofs only [hA, hQ, encRec, push_cast, ↓trAdd_f, ↓stOf_f, seval]
      try refine hK _ ?_
      repeat (first | refine awp_seq ?_ | refine awp_block ?_ | refine awp_skip ?_ | refine awp_scope ?_ | refine awp_label ?_)
      refine awp_cond (b := true) (by simp -dsimp -implicitDefEqProofs only [push_cast, ↓trAdd_f, ↓stOf_f, seval]) (fun h => ?_) (fun h => ?_)
      rotate_left
      · cases h
      try refine hK _ ?_
      repeat (first | refine awp_seq ?_ | refine awp_block ?_ | refine awp_skip ?_ | refine awp_scope ?_ | refine awp_label ?_)
      refine awp_region tabOk fun K hK => ?_
      simp -dsimp -implicitDefEqProofs only [push_cast, ↓trAdd_f, ↓stOf_f, seval]
      refine hK _ ?_
      try refine hK _ ?_
      repeat (first | refine awp_seq ?_ | refine awp_block ?_ | refine awp_skip ?_ | refine awp_scope ?_ | refine awp_label ?_)
      refine awp_region tabOk fun K hK => ?_
      simp -dsimp -implicitDefEqProofs only [hw, push_cast, ↓trAdd_f, ↓stOf_f, seval]
      refine hK _ ⟨k + 1, hlt, Nat.sub_lt_sub_left (by omega) (by omega), ?_⟩
      rw [hstep, e]
      refine le_intro hB [] (by simp) (fun b _ => rfl) rfl ?_ ?_ rfl <;> simp -dsimp -implicitDefEqProofs only [encRec, encFlash, push_cast, ↓trAdd_f, ↓stOf_f, seval]
  · have hke : k = 2 := by simp at h; omega
    subst hke
    refine awp_exit rfl ?_
    try refine hK _ ?_
    repeat (first | refine awp_seq ?_ | refine awp_block ?_ | refine awp_skip ?_ | refine awp_scope ?_ | refine awp_label ?_)
    refine awp_region tabOk fun K hK => ?_
    simp -dsimp -implicitDefEqProofs only [encRec, push_cast, ↓trAdd_f, ↓stOf_f, seval]
    refine hK _ (awp_ret ?_)
    simp -dsimp -implicitDefEqProofs only [e0, encRec, push_cast, List.mem_append, List.mem_cons, List.mem_singleton, forall_eq_or_imp, forall_eq, ↓trAdd_f, ↓stOf_f, seval]
end Go.Proofs.YtoifmpiikopelaaDoorFw
