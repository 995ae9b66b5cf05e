import Derived.Test.YtihippjbbcpggaaJ1
/-
  The law FlashBack: what is written, where all is erased, is read; all else is as it was.
-/
namespace Go.Proofs.YtihippjbbcpggaaFw
open Go Go.Proofs
set_option maxRecDepth 100000
set_option maxHeartbeats 4000000
set_option linter.unusedVariables false
set_option linter.unusedSimpArgs false

theorem u8_mod {x : Int} {n : Nat} (h : byte x) (hn : 1 ≤ n) : ∃ k : Nat, Int.tmod x (n : Int) = (k : Int) ∧ k < n := by
  have m1 : Int.tmod x n = x % n := Int.tmod_eq_emod_of_nonneg h.1
  have h1 := Int.emod_nonneg x (show (n : Int) ≠ 0 by omega)
  have h2 := Int.emod_lt_of_pos x (show (0 : Int) < n by omega)
  exact ⟨(x % n).toNat, by rw [m1]; omega, by omega⟩
theorem lawFlashBack (f : Flash) (page at_ : Int) (b : List Int) (hf : f.wf) (hp : byte page) (ha : byte at_) (hb : b.length ≤ 140737488351232 ∧ ∀ x ∈ b, byte x) :
    FnS Try.prog 4 [.agg (encFlash f), .int .u8 page, .int .u8 at_, .sl false 1 (b.map encB)] [] (.bool true) [] := by
  refine fn_walk tabOk Try.func4 rfl (by decide +kernel) Try.ntmps4 Try.results4 (by simp) fun B hB => ?_
  try refine hK _ ?_
  repeat (first | refine awp_seq ?_ | refine awp_block ?_ | refine awp_skip ?_ | refine awp_scope ?_ | refine awp_label ?_)
  refine awp_region tabOk fun K hK => ?_
  simp -dsimp -implicitDefEqProofs only [encFlash, push_cast, ↓trAdd_f, ↓stOf_f, seval]
  try refine hK _ ?_
  repeat (first | refine awp_seq ?_ | refine awp_block ?_ | refine awp_skip ?_ | refine awp_scope ?_ | refine awp_label ?_)
  refine awp_region tabOk fun K hK => ?_
  simp -dsimp -implicitDefEqProofs only [push_cast, ↓trAdd_f, ↓stOf_f, seval]
  refine callK_simple head_ok ?_ rfl fun _ => ?_
  · simp -dsimp -implicitDefEqProofs only [push_cast, List.mem_append, List.mem_cons, List.mem_singleton, forall_eq_or_imp, forall_eq, ↓trAdd_f, ↓stOf_f, seval]
  simp -dsimp -implicitDefEqProofs only [push_cast, ↓trAdd_f, ↓stOf_f, seval]
  refine hK _ ?_
  try refine hK _ ?_
  repeat (first | refine awp_seq ?_ | refine awp_block ?_ | refine awp_skip ?_ | refine awp_scope ?_ | refine awp_label ?_)
  refine awp_region tabOk fun K hK => ?_
  simp -dsimp -implicitDefEqProofs only [push_cast, ↓trAdd_f, ↓stOf_f, seval]
  refine callK_simple (great_ok f) ?_ rfl fun _ => ?_
  · simp -dsimp -implicitDefEqProofs only [encFlash, push_cast, List.mem_append, List.mem_cons, List.mem_singleton, forall_eq_or_imp, forall_eq, ↓trAdd_f, ↓stOf_f, seval]
  cases c1 : greatF f
  rotate_left
  · simp -dsimp -implicitDefEqProofs only [push_cast, ↓trAdd_f, ↓stOf_f, seval]
    refine hK _ ?_
    try refine hK _ ?_
    repeat (first | refine awp_seq ?_ | refine awp_block ?_ | refine awp_skip ?_ | refine awp_scope ?_ | refine awp_label ?_)
    refine awp_cond (b := true) (by simp -dsimp -implicitDefEqProofs only [push_cast, ↓trAdd_f, ↓stOf_f, seval]) (fun h => ?_) (fun h => ?_)
    rotate_left
    · cases h
    try refine hK _ ?_
    repeat (first | refine awp_seq ?_ | refine awp_block ?_ | refine awp_skip ?_ | refine awp_scope ?_ | refine awp_label ?_)
    refine awp_region tabOk fun K hK => ?_
    simp -dsimp -implicitDefEqProofs only [push_cast, ↓trAdd_f, ↓stOf_f, seval]
    refine hK _ (awp_ret ?_)
    simp -dsimp -implicitDefEqProofs only [push_cast, List.mem_append, List.mem_cons, List.mem_singleton, forall_eq_or_imp, forall_eq, ↓trAdd_f, ↓stOf_f, seval]
  obtain ⟨f1, f2, f3⟩ := great_no c1
  simp -dsimp -implicitDefEqProofs only [push_cast, ↓trAdd_f, ↓stOf_f, seval]
  refine callK_simple (right_ok f (by omega) (by omega)) ?_ rfl fun _ => ?_
  · simp -dsimp -implicitDefEqProofs only [encFlash, push_cast, List.mem_append, List.mem_cons, List.mem_singleton, forall_eq_or_imp, forall_eq, ↓trAdd_f, ↓stOf_f, seval]
  cases hr : rightF f
  · simp -dsimp -implicitDefEqProofs only [push_cast, ↓trAdd_f, ↓stOf_f, seval]
    refine hK _ ?_
    try refine hK _ ?_
    repeat (first | refine awp_seq ?_ | refine awp_block ?_ | refine awp_skip ?_ | refine awp_scope ?_ | refine awp_label ?_)
    refine awp_cond (b := true) (by simp -dsimp -implicitDefEqProofs only [push_cast, ↓trAdd_f, ↓stOf_f, seval]) (fun h => ?_) (fun h => ?_)
    rotate_left
    · cases h
    try refine hK _ ?_
    repeat (first | refine awp_seq ?_ | refine awp_block ?_ | refine awp_skip ?_ | refine awp_scope ?_ | refine awp_label ?_)
    refine awp_region tabOk fun K hK => ?_
    simp -dsimp -implicitDefEqProofs only [push_cast, ↓trAdd_f, ↓stOf_f, seval]
    refine hK _ (awp_ret ?_)
    simp -dsimp -implicitDefEqProofs only [push_cast, List.mem_append, List.mem_cons, List.mem_singleton, forall_eq_or_imp, forall_eq, ↓trAdd_f, ↓stOf_f, seval]
  simp -dsimp -implicitDefEqProofs only [push_cast, ↓trAdd_f, ↓stOf_f, seval]
  refine hK _ ?_
  try refine hK _ ?_
  repeat (first | refine awp_seq ?_ | refine awp_block ?_ | refine awp_skip ?_ | refine awp_scope ?_ | refine awp_label ?_)
  refine awp_cond (b := decide (64 < (b.length : Int))) (by simp -dsimp -implicitDefEqProofs only [push_cast, ↓trAdd_f, ↓stOf_f, seval]) (fun h => ?_) (fun h => ?_)
  · try refine hK _ ?_
    repeat (first | refine awp_seq ?_ | refine awp_block ?_ | refine awp_skip ?_ | refine awp_scope ?_ | refine awp_label ?_)
    refine awp_region tabOk fun K hK => ?_
    simp -dsimp -implicitDefEqProofs only [push_cast, ↓trAdd_f, ↓stOf_f, seval]
    refine hK _ (awp_ret ?_)
    simp -dsimp -implicitDefEqProofs only [push_cast, List.mem_append, List.mem_cons, List.mem_singleton, forall_eq_or_imp, forall_eq, ↓trAdd_f, ↓stOf_f, seval]
  have hbl : b.length ≤ 64 := by simp at h; omega
  have ff := fine_of hf hr
  refine awp_skip ?_
  obtain ⟨k, hk1, hk⟩ := u8_mod (n := f.pages.length) hp ff.good.n1
  obtain ⟨a, ha1, hal⟩ := u8_mod (n := 65 - b.length) ha (by omega)
  have hw1 : IntKind.i64.wrap page = page := wrap_i64 (by have := hp.1; omega) (by have := hp.2; omega)
  have hw2 : IntKind.i64.wrap at_ = at_ := wrap_i64 (by have := ha.1; omega) (by have := ha.2; omega)
  have hw3 : IntKind.i64.wrap (65 - (b.length : Int)) = ((65 - b.length : Nat) : Int) := by rw [wrap_i64 (by omega) (by omega)]; omega
  try refine hK _ ?_
  repeat (first | refine awp_seq ?_ | refine awp_block ?_ | refine awp_skip ?_ | refine awp_scope ?_ | refine awp_label ?_)
  refine awp_region tabOk fun K hK => ?_
  simp -dsimp -implicitDefEqProofs only [hw1, hk1, push_cast, ↓trAdd_f, ↓stOf_f, seval]
  refine ⟨by omega, hK _ ?_⟩
  try refine hK _ ?_
  repeat (first | refine awp_seq ?_ | refine awp_block ?_ | refine awp_skip ?_ | refine awp_scope ?_ | refine awp_label ?_)
  refine awp_region tabOk fun K hK => ?_
  simp -dsimp -implicitDefEqProofs only [hw2, hw3, ha1, push_cast, ↓trAdd_f, ↓stOf_f, seval]
  refine ⟨by omega, hK _ ?_⟩
  have fp := fine_power ff (-1) (by decide) (by decide)
  obtain ⟨F1, eF⟩ : ∃ x, x = powerF f (-1) := ⟨_, rfl⟩
  rw [← eF] at fp
  have p1 : F1.pages = f.pages := by rw [eF]; rfl
  have p2 : F1.left = -1 := by rw [eF]; rfl
  have p3 : F1.down = false := by rw [eF]; rfl
  have hk' : k < F1.pages.length := by rw [p1]; exact hk
  have ex0 := erase_on fp hk' p3 p2
  have fx := fine_erase fp (k : Int)
  obtain ⟨x, ex⟩ : ∃ x, x = eraseF F1 k := ⟨_, rfl⟩
  rw [← ex] at fx ex0
  have vx : x.2 = 0 := by rw [ex0]
  have xp : x.1.pages = f.pages.set k clean64 := by rw [ex0, ← p1]
  have xl : x.1.left = -1 := by rw [ex0]; exact p2
  have xd : x.1.down = false := by rw [ex0]; exact p3
  have hkx : k < x.1.pages.length := by rw [xp]; simpa using hk
  have hpk : x.1.pages[k] = clean64 := by simp [xp]
  have ew0 := write_on (a := a) (b := b) fx hkx (by omega) xd xl (by rw [hpk]; exact free_clean a b.length (by omega))
  have fw := fine_write fx (k : Int) (a : Int) hb.2
  obtain ⟨w, ew⟩ : ∃ w, w = writeF x.1 k a b := ⟨_, rfl⟩
  rw [← ew] at fw ew0
  obtain ⟨L, hL⟩ : ∃ L, L = laidAt b a clean64 := ⟨_, rfl⟩
  have hLl : L.length = 64 := by rw [hL]; exact laidAt_len b a clean64 (by rw [clean_len]; omega)
  have vw : w.2 = 0 := by rw [ew0]
  have wp : w.1.pages = f.pages.set k L := by rw [ew0, hpk, xp, hL]; simp
  have wd : w.1.down = false := by rw [ew0]; exact xd
  have hkw : k < w.1.pages.length := by rw [wp]; simpa using hk
  have hwk : w.1.pages[k] = L := by simp [wp]
  have r1 : readF w.1 k 0 64 = (L, 0) := by
    have := read_on (a := 0) (n := 64) fw hkw (by decide) wd
    rw [hwk, List.drop_zero, List.take_of_length_le (by omega)] at this
    exact this
  have r2 : readF w.1 k a b.length = (b, 0) := by
    have := read_on (a := a) (n := b.length) fw hkw (by omega) wd
    rw [hwk, hL, laidAt_mid b a clean64 (by rw [clean_len]; omega)] at this
    exact this
  have wl : w.1.pages.length = f.pages.length := by rw [wp]; simp
  try refine hK _ ?_
  repeat (first | refine awp_seq ?_ | refine awp_block ?_ | refine awp_skip ?_ | refine awp_scope ?_ | refine awp_label ?_)
  refine awp_region tabOk fun K hK => ?_
  simp -dsimp -implicitDefEqProofs only [push_cast, ↓trAdd_f, ↓stOf_f, seval]
  refine callK_simple (power_ok f (-1)) ?_ rfl fun _ => ?_
  · simp -dsimp -implicitDefEqProofs only [encFlash, push_cast, List.mem_append, List.mem_cons, List.mem_singleton, forall_eq_or_imp, forall_eq, ↓trAdd_f, ↓stOf_f, seval]
  rw [← eF]
  simp -dsimp -implicitDefEqProofs only [encFlash, push_cast, ↓trAdd_f, ↓stOf_f, seval]
  refine callK_simple (erase_ok F1 k fp.good fp.lim) ?_ rfl fun _ => ?_
  · simp -dsimp -implicitDefEqProofs only [encFlash, push_cast, List.mem_append, List.mem_cons, List.mem_singleton, forall_eq_or_imp, forall_eq, ↓trAdd_f, ↓stOf_f, seval]
  rw [← ex]
  simp -dsimp -implicitDefEqProofs only [vx, encFlash, push_cast, ↓trAdd_f, ↓stOf_f, seval]
  refine hK _ ?_
  try refine hK _ ?_
  repeat (first | refine awp_seq ?_ | refine awp_block ?_ | refine awp_skip ?_ | refine awp_scope ?_ | refine awp_label ?_)
  refine awp_region tabOk fun K hK => ?_
  simp -dsimp -implicitDefEqProofs only [push_cast, ↓trAdd_f, ↓stOf_f, seval]
  refine callK_simple (write_ok x.1 k a false b fx.good fx.bytes fx.lim (by omega)) ?_ rfl fun _ => ?_
  · simp -dsimp -implicitDefEqProofs only [encFlash, push_cast, List.mem_append, List.mem_cons, List.mem_singleton, forall_eq_or_imp, forall_eq, ↓trAdd_f, ↓stOf_f, seval]
  rw [← ew]
  simp -dsimp -implicitDefEqProofs only [vw, encFlash, push_cast, ↓trAdd_f, ↓stOf_f, seval]
  refine hK _ ?_
  try refine hK _ ?_
  repeat (first | refine awp_seq ?_ | refine awp_block ?_ | refine awp_skip ?_ | refine awp_scope ?_ | refine awp_label ?_)
  refine awp_region tabOk fun K hK => ?_
  simp -dsimp -implicitDefEqProofs only [push_cast, ↓trAdd_f, ↓stOf_f, seval]
  refine callK_simple (read_ok w.1 k 0 64 fw.good) ?_ rfl fun _ => ?_
  · simp -dsimp -implicitDefEqProofs only [encFlash, push_cast, List.mem_append, List.mem_cons, List.mem_singleton, forall_eq_or_imp, forall_eq, ↓trAdd_f, ↓stOf_f, seval]
  rw [r1]
  simp -dsimp -implicitDefEqProofs only [push_cast, ↓trAdd_f, ↓stOf_f, seval]
  refine hK _ ?_
  try refine hK _ ?_
  repeat (first | refine awp_seq ?_ | refine awp_block ?_ | refine awp_skip ?_ | refine awp_scope ?_ | refine awp_label ?_)
  refine awp_region tabOk fun K hK => ?_
  simp -dsimp -implicitDefEqProofs only [push_cast, ↓trAdd_f, ↓stOf_f, seval]
  refine callK_simple (read_ok w.1 k a b.length fw.good) ?_ rfl fun _ => ?_
  · simp -dsimp -implicitDefEqProofs only [encFlash, push_cast, List.mem_append, List.mem_cons, List.mem_singleton, forall_eq_or_imp, forall_eq, ↓trAdd_f, ↓stOf_f, seval]
  rw [r2]
  simp -dsimp -implicitDefEqProofs only [push_cast, ↓trAdd_f, ↓stOf_f, seval]
  refine hK _ ?_
  try refine hK _ ?_
  repeat (first | refine awp_seq ?_ | refine awp_block ?_ | refine awp_skip ?_ | refine awp_scope ?_ | refine awp_label ?_)
  refine awp_region tabOk fun K hK => ?_
  simp -dsimp -implicitDefEqProofs only [push_cast, ↓trAdd_f, ↓stOf_f, seval]
  refine callK_simple (sameBytes_ok false false b b hb.2 hb.2) ?_ rfl fun _ => ?_
  · simp -dsimp -implicitDefEqProofs only [push_cast, List.mem_append, List.mem_cons, List.mem_singleton, forall_eq_or_imp, forall_eq, ↓trAdd_f, ↓stOf_f, seval]
  rw [decide_eq_true (rfl : b = b)]
  simp -dsimp -implicitDefEqProofs only [hLl, wl, bne_self_eq_false, push_cast, ↓trAdd_f, ↓stOf_f, seval]
  refine hK _ ?_
  try refine hK _ ?_
  repeat (first | refine awp_seq ?_ | refine awp_block ?_ | refine awp_skip ?_ | refine awp_scope ?_ | refine awp_label ?_)
  refine awp_cond (b := false) (by simp -dsimp -implicitDefEqProofs only [push_cast, ↓trAdd_f, ↓stOf_f, seval]) (fun h => ?_) (fun h => ?_)
  · cases h
  refine awp_skip ?_
  try refine hK _ ?_
  repeat (first | refine awp_seq ?_ | refine awp_block ?_ | refine awp_skip ?_ | refine awp_scope ?_ | refine awp_label ?_)
  refine awp_region tabOk fun K hK => ?_
  simp -dsimp -implicitDefEqProofs only [push_cast, ↓trAdd_f, ↓stOf_f, seval]
  refine hK _ (awp_block ?_)
  have hLb : ∀ x ∈ L, byte x := by
    have := read_bytes fw (k : Int) 0 64
    rw [r1] at this; exact this
  have hout : ∀ (j : Nat) (hj : j < L.length), (j < a ∨ a + b.length ≤ j) → L[j] = 255 := by
    intro j hj ho
    have h1 := laidAt_get b a clean64 (by rw [clean_len]; omega) j
    rw [← hL] at h1
    have h2 : (if j < a then clean64[j]? else if j < a + b.length then b[j - a]? else clean64[j]?) = clean64[j]? := by
      split
      · rfl
      · rw [if_neg (by omega)]
    rw [h2, List.getElem?_eq_getElem hj] at h1
    have h3 : clean64[j]? = some 255 := by unfold clean64; rw [List.getElem?_replicate, if_pos (by omega)]
    rw [h3] at h1
    exact Option.some.inj h1
  refine awp_for (fun j : Nat => { sl := [(3, .sl false 1 (b.map encB)), (4, .ptr 0 0), (9, .bool true), (10, .int .i64 k), (11, .int .i64 a), (14, .ptr 384 0), (16, .sl false 1 (L.map encB)), (20, .int .i64 j)], st := [(0, .box (encFlash f)), (384, .box (encFlash w.1))], nx := 832, n := 159 }) (fun j => j ≤ 64) (fun j => 64 - j) 0 (Nat.zero_le _) ?_ fun j hj => ?_
  · refine le_intro hB [] (by simp) (fun b _ => rfl) rfl ?_ ?_ rfl <;> simp -dsimp -implicitDefEqProofs only [encFlash, push_cast, ↓trAdd_f, ↓stOf_f, seval]
  try refine hK _ ?_
  repeat (first | refine awp_seq ?_ | refine awp_block ?_ | refine awp_skip ?_ | refine awp_scope ?_ | refine awp_label ?_)
  refine awp_region tabOk fun K hK => ?_
  simp -dsimp -implicitDefEqProofs only [push_cast, ↓trAdd_f, ↓stOf_f, seval]
  try refine hK _ ?_
  repeat (first | refine awp_seq ?_ | refine awp_block ?_ | refine awp_skip ?_ | refine awp_scope ?_ | refine awp_label ?_)
  refine awp_cond (b := decide ((j : Int) < 64)) (by simp -dsimp -implicitDefEqProofs only [push_cast, ↓trAdd_f, ↓stOf_f, seval]) (fun h => ?_) (fun h => ?_)
  · have hlt : j < 64 := by simp at h; omega
    have hltL : j < L.length := by omega
    have hw5 : IntKind.i64.wrap ((a : Int) + b.length) = (a : Int) + b.length := wrap_i64 (by omega) (by omega)
    have hLl2 : (L.length : Int) = 64 := by omega
    try refine hK _ ?_
    repeat (first | refine awp_seq ?_ | refine awp_block ?_ | refine awp_skip ?_ | refine awp_scope ?_ | refine awp_label ?_)
    refine awp_join ({ sl := [(3, .sl false 1 (b.map encB)), (4, .ptr 0 0), (9, .bool true), (10, .int .i64 k), (11, .int .i64 a), (14, .ptr 384 0), (16, .sl false 1 (L.map encB)), (20, .int .i64 j), (133, .bool false)], st := [(0, .box (encFlash f)), (384, .box (encFlash w.1))], nx := 832, n := 159 }) ?_ (fun _ hl h => awp_le hl h) ?_
    · try refine hK _ ?_
      repeat (first | refine awp_seq ?_ | refine awp_block ?_ | refine awp_skip ?_ | refine awp_scope ?_ | refine awp_label ?_)
      refine awp_region tabOk fun K hK => ?_
      simp -dsimp -implicitDefEqProofs only [hw5, push_cast, ↓trAdd_f, ↓stOf_f, seval]
      cases c3 : decide ((j : Int) < a)
      · cases c4 : decide ((a : Int) + b.length ≤ j)
        · simp -dsimp -implicitDefEqProofs only [c3, hw5, c4, push_cast, ↓trAdd_f, ↓stOf_f, seval]
          refine hK _ ?_
          refine le_intro hB [] (by simp) (fun b _ => rfl) rfl ?_ ?_ rfl <;> simp -dsimp -implicitDefEqProofs only [encFlash, push_cast, ↓trAdd_f, ↓stOf_f, seval]
        · have e := hout j hltL (.inr (by simp at c4; omega))
          have e2 : ((255 : Int) != 255) = false := rfl
          simp -dsimp -implicitDefEqProofs only [c3, hw5, c4, hlt, hltL, getD_map, encB, e, hLl, push_cast, ↓trAdd_f, ↓stOf_f, seval]
          refine ⟨by omega, hK _ ?_⟩
          refine le_intro hB [] (by simp) (fun b _ => rfl) rfl ?_ ?_ rfl <;> simp -dsimp -implicitDefEqProofs only [encFlash, e2, push_cast, ↓trAdd_f, ↓stOf_f, seval]
      · have e := hout j hltL (.inl (by simp at c3; omega))
        have e2 : ((255 : Int) != 255) = false := rfl
        simp -dsimp -implicitDefEqProofs only [c3, hlt, hltL, getD_map, encB, e, hLl, push_cast, ↓trAdd_f, ↓stOf_f, seval]
        refine ⟨by omega, hK _ ?_⟩
        refine le_intro hB [] (by simp) (fun b _ => rfl) rfl ?_ ?_ rfl <;> simp -dsimp -implicitDefEqProofs only [encFlash, e2, push_cast, ↓trAdd_f, ↓stOf_f, seval]
    try refine hK _ ?_
    repeat (first | refine awp_seq ?_ | refine awp_block ?_ | refine awp_skip ?_ | refine awp_scope ?_ | refine awp_label ?_)
    refine awp_cond (b := false) (by simp -dsimp -implicitDefEqProofs only [push_cast, ↓trAdd_f, ↓stOf_f, seval]) (fun h => ?_) (fun h => ?_)
    · cases h
    refine awp_skip ?_
    try refine hK _ ?_
    repeat (first | refine awp_seq ?_ | refine awp_block ?_ | refine awp_skip ?_ | refine awp_scope ?_ | refine awp_label ?_)
    refine awp_region tabOk fun K hK => ?_
    simp -dsimp -implicitDefEqProofs only [push_cast, ↓trAdd_f, ↓stOf_f, seval]
    try simp (disch := omega) only [wrap_i64, wrap_u8, wrap_u16, wrap_u32]
    refine hK _ ⟨j + 1, hlt, by omega, ?_⟩
    refine le_intro hB [] (by simp) (fun b _ => rfl) rfl ?_ ?_ rfl <;> simp -dsimp -implicitDefEqProofs only [encFlash, push_cast, ↓trAdd_f, ↓stOf_f, seval]
  have hej : j = 64 := by simp at h; omega
  subst hej
  refine awp_exit rfl ?_
  try refine hK _ ?_
  repeat (first | refine awp_seq ?_ | refine awp_block ?_ | refine awp_skip ?_ | refine awp_scope ?_ | refine awp_label ?_)
  refine awp_region tabOk fun K hK => ?_
  simp -dsimp -implicitDefEqProofs only [push_cast, ↓trAdd_f, ↓stOf_f, seval]
  refine hK _ (awp_block ?_)
  refine awp_for (fun j : Nat => { sl := [(4, .ptr 0 0), (9, .bool true), (10, .int .i64 k), (14, .ptr 384 0), (21, .int .i64 j)], st := [(0, .box (encFlash f)), (384, .box (encFlash w.1))], nx := 832, n := 159 }) (fun j => j ≤ f.pages.length) (fun j => f.pages.length - j) 0 (Nat.zero_le _) ?_ fun j hj => ?_
  · refine le_intro hB [] (by simp) (fun b _ => rfl) rfl ?_ ?_ rfl <;> simp -dsimp -implicitDefEqProofs only [encFlash, push_cast, ↓trAdd_f, ↓stOf_f, seval]
  try refine hK _ ?_
  repeat (first | refine awp_seq ?_ | refine awp_block ?_ | refine awp_skip ?_ | refine awp_scope ?_ | refine awp_label ?_)
  refine awp_region tabOk fun K hK => ?_
  simp -dsimp -implicitDefEqProofs only [encFlash, push_cast, ↓trAdd_f, ↓stOf_f, seval]
  try refine hK _ ?_
  repeat (first | refine awp_seq ?_ | refine awp_block ?_ | refine awp_skip ?_ | refine awp_scope ?_ | refine awp_label ?_)
  refine awp_cond (b := decide ((j : Int) < f.pages.length)) (by simp -dsimp -implicitDefEqProofs only [push_cast, ↓trAdd_f, ↓stOf_f, seval]) (fun h => ?_) (fun h => ?_)
  · have hlt : j < f.pages.length := by simpa using h
    have hltw : j < w.1.pages.length := by omega
    try refine hK _ ?_
    repeat (first | refine awp_seq ?_ | refine awp_block ?_ | refine awp_skip ?_ | refine awp_scope ?_ | refine awp_label ?_)
    refine awp_join ({ sl := [(4, .ptr 0 0), (9, .bool true), (10, .int .i64 k), (14, .ptr 384 0), (21, .int .i64 j), (157, .bool false)], st := [(0, .box (encFlash f)), (384, .box (encFlash w.1))], nx := 832, n := 159 }) ?_ (fun _ hl h => awp_le hl h) ?_
    · try refine hK _ ?_
      repeat (first | refine awp_seq ?_ | refine awp_block ?_ | refine awp_skip ?_ | refine awp_scope ?_ | refine awp_label ?_)
      refine awp_draw tabOk (by kernel_rfl) (by kernel_rfl) fun K hK C hC => ?_
      simp -dsimp -implicitDefEqProofs only [encFlash, push_cast, ↓trAdd_f, ↓stOf_f, seval]
      cases c5 : ((j : Int) != k)
      · simp -dsimp -implicitDefEqProofs only [c5, push_cast, ↓trAdd_f, ↓stOf_f, seval]
        refine ⟨hC _ (by kernel_rfl), hK _ ?_⟩
        refine le_intro hB [] (by simp) (fun b _ => rfl) rfl ?_ ?_ rfl <;> simp -dsimp -implicitDefEqProofs only [encFlash, push_cast, ↓trAdd_f, ↓stOf_f, seval]
      · have hjk : j ≠ k := by simp at c5; omega
        have e5 : w.1.pages[j] = f.pages[j] := by simp [wp, List.getElem_set, hjk.symm]
        simp -dsimp -implicitDefEqProofs only [c5, hlt, hltw, getD_map, encP, wl, push_cast, ↓trAdd_f, ↓stOf_f, seval]
        refine ⟨by omega, by omega, ?_⟩
        refine callK_simple (sameBytes_ok false false w.1.pages[j] f.pages[j] (fw.bytes _ (List.getElem_mem hltw)) (ff.bytes _ (List.getElem_mem hlt))) ?_ rfl fun _ => ?_
        · simp -dsimp -implicitDefEqProofs only [push_cast, List.mem_append, List.mem_cons, List.mem_singleton, forall_eq_or_imp, forall_eq, ↓trAdd_f, ↓stOf_f, seval]
        rw [decide_eq_true e5]
        simp -dsimp -implicitDefEqProofs only [c5, push_cast, ↓trAdd_f, ↓stOf_f, seval]
        refine ⟨hC _ (by kernel_rfl), hK _ ?_⟩
        refine le_intro hB [] (by simp) (fun b _ => rfl) rfl ?_ ?_ rfl <;> simp -dsimp -implicitDefEqProofs only [encFlash, push_cast, ↓trAdd_f, ↓stOf_f, seval]
    try refine hK _ ?_
    repeat (first | refine awp_seq ?_ | refine awp_block ?_ | refine awp_skip ?_ | refine awp_scope ?_ | refine awp_label ?_)
    refine awp_cond (b := false) (by simp -dsimp -implicitDefEqProofs only [push_cast, ↓trAdd_f, ↓stOf_f, seval]) (fun h => ?_) (fun h => ?_)
    · cases h
    refine awp_skip ?_
    try refine hK _ ?_
    repeat (first | refine awp_seq ?_ | refine awp_block ?_ | refine awp_skip ?_ | refine awp_scope ?_ | refine awp_label ?_)
    refine awp_region tabOk fun K hK => ?_
    simp -dsimp -implicitDefEqProofs only [push_cast, ↓trAdd_f, ↓stOf_f, seval]
    try simp (disch := omega) only [wrap_i64, wrap_u8, wrap_u16, wrap_u32]
    refine hK _ ⟨j + 1, hlt, by omega, ?_⟩
    refine le_intro hB [] (by simp) (fun b _ => rfl) rfl ?_ ?_ rfl <;> simp -dsimp -implicitDefEqProofs only [encFlash, push_cast, ↓trAdd_f, ↓stOf_f, seval]
  refine awp_exit rfl ?_
  try refine hK _ ?_
  repeat (first | refine awp_seq ?_ | refine awp_block ?_ | refine awp_skip ?_ | refine awp_scope ?_ | refine awp_label ?_)
  refine awp_region tabOk fun K hK => ?_
  simp -dsimp -implicitDefEqProofs only [push_cast, ↓trAdd_f, ↓stOf_f, seval]
  refine hK _ (awp_ret ?_)
  simp -dsimp -implicitDefEqProofs only [push_cast, List.mem_append, List.mem_cons, List.mem_singleton, forall_eq_or_imp, forall_eq, ↓trAdd_f, ↓stOf_f, seval]
end Go.Proofs.YtihippjbbcpggaaFw
