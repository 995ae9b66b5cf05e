import Derived.Test.YtihippjbbcpggaaJ1
/-
  The law FlashPages: what is done with two pages may be done in either order.
-/
namespace Go.Proofs.YtihippjbbcpggaaFw
open Go Go.Proofs
set_option maxRecDepth 100000
set_option maxHeartbeats 4000000
set_option linter.unusedVariables false
set_option linter.unusedSimpArgs false

/-- What a writing, with the power on, makes of a page, and its error. -/
def wpage (pg : List Int) (a : Nat) (b : List Int) : List Int × Int := if a + b.length ≤ 64 then (if freeF pg a b.length then (laidAt b a pg, 0) else (pg, 252)) else (pg, 251)
theorem write_page {f : Flash} {k a : Nat} (b : List Int) (h : f.fine) (hk : k < f.pages.length) (hd : f.down = false) (hl : f.left = -1) :
    writeF f k a b = ({ f with pages := f.pages.set k (wpage f.pages[k] a b).1 }, (wpage f.pages[k] a b).2) := by
  have hgp : f.pages.getD k [] = f.pages[k] := by simp [List.getD, hk]
  have hself : f.pages.set k f.pages[k] = f.pages := by simp
  unfold wpage
  by_cases h1 : a + b.length ≤ 64
  · rw [if_pos h1]
    cases h2 : freeF f.pages[k] a b.length
    · have hin : inF f k a b.length = true := (inF_iff _ _ _ _).2 ⟨⟨by omega, by omega⟩, by omega, by omega, by omega⟩
      unfold writeF
      rw [hd, hin, Int.toNat_natCast, Int.toNat_natCast, hgp, h2]
      simp [hself]
      obtain ⟨ps, w, l, d⟩ := f
      simp only at hd; subst hd; rfl
    · rw [if_pos rfl]
      exact write_on h hk h1 hd hl h2
  · rw [if_neg h1]
    have hin : inF f k a b.length = false := by
      cases hq : inF f k a b.length with
      | false => rfl
      | true => have := (inF_iff _ _ _ _).1 hq; omega
    unfold writeF
    rw [hd, hin]
    simp [hself]
    obtain ⟨ps, w, l, d⟩ := f
    simp only at hd; subst hd; rfl
theorem pages_swap {F : Flash} {i k a : Nat} {b c : List Int} (h : F.fine) (hi : i < F.pages.length) (hk : k < F.pages.length) (hik : i ≠ k) (hd : F.down = false) (hl : F.left = -1) (hb : ∀ x ∈ b, byte x) (hc : ∀ x ∈ c, byte x) :
    writeF (eraseF (writeF F i a b).1 k).1 k (0 : Nat) c = ((writeF (writeF (eraseF F k).1 k (0 : Nat) c).1 i a b).1, (writeF (eraseF F k).1 k (0 : Nat) c).2) ∧
    (writeF F i a b).2 = (writeF (writeF (eraseF F k).1 k (0 : Nat) c).1 i a b).2 ∧ (eraseF (writeF F i a b).1 k).2 = (eraseF F k).2 := by
  have fx := fine_write h (i : Int) (a : Int) hb
  have ex := write_page (a := a) b h hi hd hl
  have fu := fine_erase h (k : Int)
  have eu := erase_on h hk hd hl
  rw [ex] at fx ⊢
  rw [eu] at fu ⊢
  dsimp only at fx fu ⊢
  have hkx : k < (F.pages.set i (wpage F.pages[i] a b).1).length := by simpa using hk
  have ey := erase_on fx hkx hd hl
  have fy := fine_erase fx (k : Int)
  rw [ey] at fy ⊢
  dsimp only at fy ⊢
  have hku : k < (F.pages.set k clean64).length := by simpa using hk
  have eu2 := write_page (a := 0) c fu hku hd hl
  have fu2 := fine_write fu (k : Int) ((0 : Nat) : Int) hc
  rw [eu2] at fu2 ⊢
  dsimp only at fu2 ⊢
  have hky : k < ((F.pages.set i (wpage F.pages[i] a b).1).set k clean64).length := by simpa using hk
  have ey2 := write_page (a := 0) c fy hky hd hl
  have hiu : i < ((F.pages.set k clean64).set k (wpage ((F.pages.set k clean64)[k]'hku) 0 c).1).length := by simpa using hi
  have ev := write_page (a := a) b fu2 hiu hd hl
  rw [ey2, ev]
  simp only [List.getElem_set_self, List.set_set]
  have e1 : ((F.pages.set k (wpage clean64 0 c).1)[i]'(by simpa using hi)) = F.pages[i] := by rw [List.getElem_set, if_neg (fun q => hik q.symm)]
  simp only [e1, List.set_comm _ _ hik, and_self]
theorem lawFlashPages (f : Flash) (p q at_ : Int) (b c : List Int) (hf : f.wf) (hp : byte p) (hq : byte q) (ha : byte at_) (hb : b.length ≤ 140737488351232 ∧ ∀ x ∈ b, byte x) (hc : c.length ≤ 140737488351232 ∧ ∀ x ∈ c, byte x) :
    FnS Try.prog 8 [.agg (encFlash f), .int .u8 p, .int .u8 q, .int .u8 at_, .sl false 1 (b.map encB), .sl false 1 (c.map encB)] [] (.bool true) [] := by
  refine fn_walk tabOk Try.func8 rfl (by decide +kernel) Try.ntmps8 Try.results8 (by simp) fun B hB => ?_
  try refine hK _ ?_
  repeat (first | refine awp_seq ?_ | refine awp_block ?_ | refine awp_skip ?_ | refine awp_scope ?_ | refine awp_label ?_)
  refine awp_region tabOk fun K hK => ?_
  simp -dsimp -implicitDefEqProofs only [encFlash, push_cast, ↓trAdd_f, ↓stOf_f, seval]
  try refine hK _ ?_
  repeat (first | refine awp_seq ?_ | refine awp_block ?_ | refine awp_skip ?_ | refine awp_scope ?_ | refine awp_label ?_)
  refine awp_region tabOk fun K hK => ?_
  simp -dsimp -implicitDefEqProofs only [push_cast, ↓trAdd_f, ↓stOf_f, seval]
  refine callK_simple head_ok ?_ rfl fun _ => ?_
  · simp -dsimp -implicitDefEqProofs only [push_cast, List.mem_append, List.mem_cons, List.mem_singleton, forall_eq_or_imp, forall_eq, ↓trAdd_f, ↓stOf_f, seval]
  simp -dsimp -implicitDefEqProofs only [push_cast, ↓trAdd_f, ↓stOf_f, seval]
  refine hK _ ?_
  try refine hK _ ?_
  repeat (first | refine awp_seq ?_ | refine awp_block ?_ | refine awp_skip ?_ | refine awp_scope ?_ | refine awp_label ?_)
  refine awp_region tabOk fun K hK => ?_
  simp -dsimp -implicitDefEqProofs only [push_cast, ↓trAdd_f, ↓stOf_f, seval]
  refine callK_simple (great_ok f) ?_ rfl fun _ => ?_
  · simp -dsimp -implicitDefEqProofs only [encFlash, push_cast, List.mem_append, List.mem_cons, List.mem_singleton, forall_eq_or_imp, forall_eq, ↓trAdd_f, ↓stOf_f, seval]
  cases c1 : greatF f
  rotate_left
  · simp -dsimp -implicitDefEqProofs only [push_cast, ↓trAdd_f, ↓stOf_f, seval]
    refine hK _ ?_
    try refine hK _ ?_
    repeat (first | refine awp_seq ?_ | refine awp_block ?_ | refine awp_skip ?_ | refine awp_scope ?_ | refine awp_label ?_)
    refine awp_cond (b := true) (by simp -dsimp -implicitDefEqProofs only [push_cast, ↓trAdd_f, ↓stOf_f, seval]) (fun h => ?_) (fun h => ?_)
    rotate_left
    · cases h
    try refine hK _ ?_
    repeat (first | refine awp_seq ?_ | refine awp_block ?_ | refine awp_skip ?_ | refine awp_scope ?_ | refine awp_label ?_)
    refine awp_region tabOk fun K hK => ?_
    simp -dsimp -implicitDefEqProofs only [push_cast, ↓trAdd_f, ↓stOf_f, seval]
    refine hK _ (awp_ret ?_)
    simp -dsimp -implicitDefEqProofs only [push_cast, List.mem_append, List.mem_cons, List.mem_singleton, forall_eq_or_imp, forall_eq, ↓trAdd_f, ↓stOf_f, seval]
  obtain ⟨f1, f2, f3⟩ := great_no c1
  simp -dsimp -implicitDefEqProofs only [push_cast, ↓trAdd_f, ↓stOf_f, seval]
  refine callK_simple (right_ok f (by omega) (by omega)) ?_ rfl fun _ => ?_
  · simp -dsimp -implicitDefEqProofs only [encFlash, push_cast, List.mem_append, List.mem_cons, List.mem_singleton, forall_eq_or_imp, forall_eq, ↓trAdd_f, ↓stOf_f, seval]
  cases hr : rightF f
  · simp -dsimp -implicitDefEqProofs only [push_cast, ↓trAdd_f, ↓stOf_f, seval]
    refine hK _ ?_
    try refine hK _ ?_
    repeat (first | refine awp_seq ?_ | refine awp_block ?_ | refine awp_skip ?_ | refine awp_scope ?_ | refine awp_label ?_)
    refine awp_cond (b := true) (by simp -dsimp -implicitDefEqProofs only [push_cast, ↓trAdd_f, ↓stOf_f, seval]) (fun h => ?_) (fun h => ?_)
    rotate_left
    · cases h
    try refine hK _ ?_
    repeat (first | refine awp_seq ?_ | refine awp_block ?_ | refine awp_skip ?_ | refine awp_scope ?_ | refine awp_label ?_)
    refine awp_region tabOk fun K hK => ?_
    simp -dsimp -implicitDefEqProofs only [push_cast, ↓trAdd_f, ↓stOf_f, seval]
    refine hK _ (awp_ret ?_)
    simp -dsimp -implicitDefEqProofs only [push_cast, List.mem_append, List.mem_cons, List.mem_singleton, forall_eq_or_imp, forall_eq, ↓trAdd_f, ↓stOf_f, seval]
  simp -dsimp -implicitDefEqProofs only [push_cast, ↓trAdd_f, ↓stOf_f, seval]
  cases c2 : decide (60 < (b.length : Int))
  rotate_left
  · simp -dsimp -implicitDefEqProofs only [push_cast, ↓trAdd_f, ↓stOf_f, seval]
    refine hK _ ?_
    try refine hK _ ?_
    repeat (first | refine awp_seq ?_ | refine awp_block ?_ | refine awp_skip ?_ | refine awp_scope ?_ | refine awp_label ?_)
    refine awp_cond (b := true) (by simp -dsimp -implicitDefEqProofs only [push_cast, ↓trAdd_f, ↓stOf_f, seval]) (fun h => ?_) (fun h => ?_)
    rotate_left
    · cases h
    try refine hK _ ?_
    repeat (first | refine awp_seq ?_ | refine awp_block ?_ | refine awp_skip ?_ | refine awp_scope ?_ | refine awp_label ?_)
    refine awp_region tabOk fun K hK => ?_
    simp -dsimp -implicitDefEqProofs only [push_cast, ↓trAdd_f, ↓stOf_f, seval]
    refine hK _ (awp_ret ?_)
    simp -dsimp -implicitDefEqProofs only [push_cast, List.mem_append, List.mem_cons, List.mem_singleton, forall_eq_or_imp, forall_eq, ↓trAdd_f, ↓stOf_f, seval]
  simp -dsimp -implicitDefEqProofs only [push_cast, ↓trAdd_f, ↓stOf_f, seval]
  cases c3 : decide (60 < (c.length : Int))
  rotate_left
  · simp -dsimp -implicitDefEqProofs only [push_cast, ↓trAdd_f, ↓stOf_f, seval]
    refine hK _ ?_
    try refine hK _ ?_
    repeat (first | refine awp_seq ?_ | refine awp_block ?_ | refine awp_skip ?_ | refine awp_scope ?_ | refine awp_label ?_)
    refine awp_cond (b := true) (by simp -dsimp -implicitDefEqProofs only [push_cast, ↓trAdd_f, ↓stOf_f, seval]) (fun h => ?_) (fun h => ?_)
    rotate_left
    · cases h
    try refine hK _ ?_
    repeat (first | refine awp_seq ?_ | refine awp_block ?_ | refine awp_skip ?_ | refine awp_scope ?_ | refine awp_label ?_)
    refine awp_region tabOk fun K hK => ?_
    simp -dsimp -implicitDefEqProofs only [push_cast, ↓trAdd_f, ↓stOf_f, seval]
    refine hK _ (awp_ret ?_)
    simp -dsimp -implicitDefEqProofs only [push_cast, List.mem_append, List.mem_cons, List.mem_singleton, forall_eq_or_imp, forall_eq, ↓trAdd_f, ↓stOf_f, seval]
  simp -dsimp -implicitDefEqProofs only [push_cast, ↓trAdd_f, ↓stOf_f, seval]
  refine hK _ ?_
  try refine hK _ ?_
  repeat (first | refine awp_seq ?_ | refine awp_block ?_ | refine awp_skip ?_ | refine awp_scope ?_ | refine awp_label ?_)
  refine awp_cond (b := decide ((f.pages.length : Int) < 2)) (by simp -dsimp -implicitDefEqProofs only [push_cast, ↓trAdd_f, ↓stOf_f, seval]) (fun h => ?_) (fun h => ?_)
  · try refine hK _ ?_
    repeat (first | refine awp_seq ?_ | refine awp_block ?_ | refine awp_skip ?_ | refine awp_scope ?_ | refine awp_label ?_)
    refine awp_region tabOk fun K hK => ?_
    simp -dsimp -implicitDefEqProofs only [push_cast, ↓trAdd_f, ↓stOf_f, seval]
    refine hK _ (awp_ret ?_)
    simp -dsimp -implicitDefEqProofs only [push_cast, List.mem_append, List.mem_cons, List.mem_singleton, forall_eq_or_imp, forall_eq, ↓trAdd_f, ↓stOf_f, seval]
  have hbl : b.length ≤ 60 := by simp at c2; omega
  have hcl : c.length ≤ 60 := by simp at c3; omega
  have ff := fine_of hf hr
  refine awp_skip ?_
  have fp := fine_power ff (-1) (by decide) (by decide)
  obtain ⟨F, eF⟩ : ∃ x, x = powerF f (-1) := ⟨_, rfl⟩
  rw [← eF] at fp
  have p1 : F.pages = f.pages := by rw [eF]; rfl
  have p2 : F.left = -1 := by rw [eF]; rfl
  have p3 : F.down = false := by rw [eF]; rfl
  try refine hK _ ?_
  repeat (first | refine awp_seq ?_ | refine awp_block ?_ | refine awp_skip ?_ | refine awp_scope ?_ | refine awp_label ?_)
  refine awp_region tabOk fun K hK => ?_
  simp -dsimp -implicitDefEqProofs only [push_cast, ↓trAdd_f, ↓stOf_f, seval]
  refine callK_simple (refPower_ok f (-1)) ?_ rfl fun _ => ?_
  · simp -dsimp -implicitDefEqProofs only [encFlash, push_cast, List.mem_append, List.mem_cons, List.mem_singleton, forall_eq_or_imp, forall_eq, ↓trAdd_f, ↓stOf_f, seval]
  rw [← eF]
  simp -dsimp -implicitDefEqProofs only [encFlash, push_cast, ↓trAdd_f, ↓stOf_f, seval]
  refine hK _ ?_
  obtain ⟨i, hi1, hi⟩ := u8_mod (n := F.pages.length) hp fp.good.n1
  obtain ⟨k, hk1, hk⟩ := u8_mod (n := F.pages.length) hq fp.good.n1
  obtain ⟨a, ha1, hal⟩ := u8_mod (n := 60) ha (by decide)
  have ha1' : Int.tmod at_ 60 = (a : Int) := ha1
  have hw1 : IntKind.i64.wrap p = p := wrap_i64 (by have := hp.1; omega) (by have := hp.2; omega)
  have hw2 : IntKind.i64.wrap q = q := wrap_i64 (by have := hq.1; omega) (by have := hq.2; omega)
  have hw3 : IntKind.i64.wrap at_ = at_ := wrap_i64 (by have := ha.1; omega) (by have := ha.2; omega)
  try refine hK _ ?_
  repeat (first | refine awp_seq ?_ | refine awp_block ?_ | refine awp_skip ?_ | refine awp_scope ?_ | refine awp_label ?_)
  refine awp_region tabOk fun K hK => ?_
  simp -dsimp -implicitDefEqProofs only [hw1, hi1, push_cast, ↓trAdd_f, ↓stOf_f, seval]
  refine ⟨by have := fp.good.n1; omega, hK _ ?_⟩
  try refine hK _ ?_
  repeat (first | refine awp_seq ?_ | refine awp_block ?_ | refine awp_skip ?_ | refine awp_scope ?_ | refine awp_label ?_)
  refine awp_region tabOk fun K hK => ?_
  simp -dsimp -implicitDefEqProofs only [hw2, hk1, push_cast, ↓trAdd_f, ↓stOf_f, seval]
  refine ⟨by have := fp.good.n1; omega, hK _ ?_⟩
  try refine hK _ ?_
  repeat (first | refine awp_seq ?_ | refine awp_block ?_ | refine awp_skip ?_ | refine awp_scope ?_ | refine awp_label ?_)
  refine awp_region tabOk fun K hK => ?_
  simp -dsimp -implicitDefEqProofs only [push_cast, ↓trAdd_f, ↓stOf_f, seval]
  try refine hK _ ?_
  repeat (first | refine awp_seq ?_ | refine awp_block ?_ | refine awp_skip ?_ | refine awp_scope ?_ | refine awp_label ?_)
  refine awp_cond (b := (i : Int) == k) (by simp -dsimp -implicitDefEqProofs only [push_cast, ↓trAdd_f, ↓stOf_f, seval]) (fun h => ?_) (fun h => ?_)
  · try refine hK _ ?_
    repeat (first | refine awp_seq ?_ | refine awp_block ?_ | refine awp_skip ?_ | refine awp_scope ?_ | refine awp_label ?_)
    refine awp_region tabOk fun K hK => ?_
    simp -dsimp -implicitDefEqProofs only [push_cast, ↓trAdd_f, ↓stOf_f, seval]
    refine hK _ (awp_ret ?_)
    simp -dsimp -implicitDefEqProofs only [push_cast, List.mem_append, List.mem_cons, List.mem_singleton, forall_eq_or_imp, forall_eq, ↓trAdd_f, ↓stOf_f, seval]
  have hik : i ≠ k := by simp at h; omega
  refine awp_skip ?_
  obtain ⟨s1, s2, s3⟩ := pages_swap (a := a) (b := b) (c := c) fp hi hk hik p3 p2 hb.2 hc.2
  have fx := fine_write fp (i : Int) (a : Int) hb.2
  obtain ⟨x, ex⟩ : ∃ x, x = writeF F i a b := ⟨_, rfl⟩
  rw [← ex] at fx s1 s2 s3
  have fy := fine_erase fx (k : Int)
  obtain ⟨y, ey⟩ : ∃ y, y = eraseF x.1 k := ⟨_, rfl⟩
  rw [← ey] at fy s1 s3
  have fz := fine_write fy (k : Int) ((0 : Nat) : Int) hc.2
  obtain ⟨z, ez⟩ : ∃ x, x = writeF y.1 k ((0 : Nat) : Int) c := ⟨_, rfl⟩
  rw [← ez] at fz s1
  have fu := fine_erase fp (k : Int)
  obtain ⟨u, eu⟩ : ∃ x, x = eraseF F k := ⟨_, rfl⟩
  rw [← eu] at fu s1 s2 s3
  have ft := fine_write fu (k : Int) ((0 : Nat) : Int) hc.2
  obtain ⟨t, et⟩ : ∃ x, x = writeF u.1 k ((0 : Nat) : Int) c := ⟨_, rfl⟩
  rw [← et] at ft s1 s2
  have fv := fine_write ft (i : Int) (a : Int) hb.2
  obtain ⟨v, ev⟩ : ∃ x, x = writeF t.1 i a b := ⟨_, rfl⟩
  rw [← ev] at fv s1 s2
  have v1 : z.2 = t.2 := by rw [s1]
  have v2 : z.1 = v.1 := by rw [s1]
  have sf : sameF z.1 v.1 = true := by rw [v2]; exact sameF_refl _
  have lim : ∀ {x : Flash}, x.fine → x.pages.length ≤ 2 ^ 40 ∧ x.wear.length ≤ 2 ^ 40 := fun hx => by have := hx.good.n80; have := hx.good.wl; omega
  try refine hK _ ?_
  repeat (first | refine awp_seq ?_ | refine awp_block ?_ | refine awp_skip ?_ | refine awp_scope ?_ | refine awp_label ?_)
  refine awp_region tabOk fun K hK => ?_
  simp -dsimp -implicitDefEqProofs only [hw3, ha1', push_cast, ↓trAdd_f, ↓stOf_f, seval]
  refine callK_simple (write_ok F i a false b fp.good fp.bytes fp.lim (by omega)) ?_ rfl fun _ => ?_
  · simp -dsimp -implicitDefEqProofs only [encFlash, push_cast, List.mem_append, List.mem_cons, List.mem_singleton, forall_eq_or_imp, forall_eq, ↓trAdd_f, ↓stOf_f, seval]
  rw [← ex]
  simp -dsimp -implicitDefEqProofs only [encFlash, push_cast, ↓trAdd_f, ↓stOf_f, seval]
  refine hK _ ?_
  try refine hK _ ?_
  repeat (first | refine awp_seq ?_ | refine awp_block ?_ | refine awp_skip ?_ | refine awp_scope ?_ | refine awp_label ?_)
  refine awp_region tabOk fun K hK => ?_
  simp -dsimp -implicitDefEqProofs only [push_cast, ↓trAdd_f, ↓stOf_f, seval]
  refine callK_simple (erase_ok x.1 k fx.good fx.lim) ?_ rfl fun _ => ?_
  · simp -dsimp -implicitDefEqProofs only [encFlash, push_cast, List.mem_append, List.mem_cons, List.mem_singleton, forall_eq_or_imp, forall_eq, ↓trAdd_f, ↓stOf_f, seval]
  rw [← ey]
  simp -dsimp -implicitDefEqProofs only [encFlash, push_cast, ↓trAdd_f, ↓stOf_f, seval]
  refine hK _ ?_
  try refine hK _ ?_
  repeat (first | refine awp_seq ?_ | refine awp_block ?_ | refine awp_skip ?_ | refine awp_scope ?_ | refine awp_label ?_)
  refine awp_region tabOk fun K hK => ?_
  simp -dsimp -implicitDefEqProofs only [push_cast, ↓trAdd_f, ↓stOf_f, seval]
  refine callK_simple (write_ok y.1 k ((0 : Nat) : Int) false c fy.good fy.bytes fy.lim (by omega)) ?_ rfl fun _ => ?_
  · simp -dsimp -implicitDefEqProofs only [encFlash, push_cast, List.mem_append, List.mem_cons, List.mem_singleton, forall_eq_or_imp, forall_eq, ↓trAdd_f, ↓stOf_f, seval]
  rw [← ez]
  simp -dsimp -implicitDefEqProofs only [encFlash, push_cast, ↓trAdd_f, ↓stOf_f, seval]
  refine hK _ ?_
  try refine hK _ ?_
  repeat (first | refine awp_seq ?_ | refine awp_block ?_ | refine awp_skip ?_ | refine awp_scope ?_ | refine awp_label ?_)
  refine awp_region tabOk fun K hK => ?_
  simp -dsimp -implicitDefEqProofs only [push_cast, ↓trAdd_f, ↓stOf_f, seval]
  refine callK_simple (erase_ok F k fp.good fp.lim) ?_ rfl fun _ => ?_
  · simp -dsimp -implicitDefEqProofs only [encFlash, push_cast, List.mem_append, List.mem_cons, List.mem_singleton, forall_eq_or_imp, forall_eq, ↓trAdd_f, ↓stOf_f, seval]
  rw [← eu]
  simp -dsimp -implicitDefEqProofs only [encFlash, push_cast, ↓trAdd_f, ↓stOf_f, seval]
  refine hK _ ?_
  try refine hK _ ?_
  repeat (first | refine awp_seq ?_ | refine awp_block ?_ | refine awp_skip ?_ | refine awp_scope ?_ | refine awp_label ?_)
  refine awp_region tabOk fun K hK => ?_
  simp -dsimp -implicitDefEqProofs only [push_cast, ↓trAdd_f, ↓stOf_f, seval]
  refine callK_simple (write_ok u.1 k ((0 : Nat) : Int) false c fu.good fu.bytes fu.lim (by omega)) ?_ rfl fun _ => ?_
  · simp -dsimp -implicitDefEqProofs only [encFlash, push_cast, List.mem_append, List.mem_cons, List.mem_singleton, forall_eq_or_imp, forall_eq, ↓trAdd_f, ↓stOf_f, seval]
  rw [← et]
  simp -dsimp -implicitDefEqProofs only [encFlash, push_cast, ↓trAdd_f, ↓stOf_f, seval]
  refine hK _ ?_
  try refine hK _ ?_
  repeat (first | refine awp_seq ?_ | refine awp_block ?_ | refine awp_skip ?_ | refine awp_scope ?_ | refine awp_label ?_)
  refine awp_region tabOk fun K hK => ?_
  simp -dsimp -implicitDefEqProofs only [hw3, ha1', push_cast, ↓trAdd_f, ↓stOf_f, seval]
  refine callK_simple (write_ok t.1 i a false b ft.good ft.bytes ft.lim (by omega)) ?_ rfl fun _ => ?_
  · simp -dsimp -implicitDefEqProofs only [encFlash, push_cast, List.mem_append, List.mem_cons, List.mem_singleton, forall_eq_or_imp, forall_eq, ↓trAdd_f, ↓stOf_f, seval]
  rw [← ev]
  simp -dsimp -implicitDefEqProofs only [encFlash, push_cast, ↓trAdd_f, ↓stOf_f, seval]
  refine hK _ ?_
  have bq : ∀ n : Int, (n == n) = true := fun n => by simp
  try refine hK _ ?_
  repeat (first | refine awp_seq ?_ | refine awp_block ?_ | refine awp_skip ?_ | refine awp_scope ?_ | refine awp_label ?_)
  refine awp_region tabOk fun K hK => ?_
  simp -dsimp -implicitDefEqProofs only [s2, s3, v1, bq, push_cast, ↓trAdd_f, ↓stOf_f, seval]
  refine callK_simple (sameRef_ok z.1 v.1 fz.bytes fv.bytes (lim fz).1 (lim fz).2) ?_ rfl fun _ => ?_
  · simp -dsimp -implicitDefEqProofs only [encFlash, push_cast, List.mem_append, List.mem_cons, List.mem_singleton, forall_eq_or_imp, forall_eq, ↓trAdd_f, ↓stOf_f, seval]
  simp -dsimp -implicitDefEqProofs only [sf, push_cast, ↓trAdd_f, ↓stOf_f, seval]
  refine hK _ (awp_ret ?_)
  simp -dsimp -implicitDefEqProofs only [push_cast, List.mem_append, List.mem_cons, List.mem_singleton, forall_eq_or_imp, forall_eq, ↓trAdd_f, ↓stOf_f, seval]
end Go.Proofs.YtihippjbbcpggaaFw
