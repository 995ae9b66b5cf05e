import Derived.Test.YtihippjbbcpggaaJ0
/-
  Walks: Erase.
-/
namespace Go.Proofs.YtihippjbbcpggaaFw
open Go Go.Proofs
set_option maxRecDepth 100000
set_option maxHeartbeats 4000000
set_option linter.unusedVariables false
set_option linter.unusedSimpArgs false

/-- What Erase makes of a flash. -/
def eraseF (f : Flash) (page : Int) : Flash × Int :=
  if f.down then (f, 250) else if inF f page 0 0 = false then (f, 251) else
  if f.left = 0 then ({ f with pages := f.pages.set page.toNat (tornP (f.pages.getD page.toNat [])), left := 0, down := true }, 250) else
  ({ f with pages := f.pages.set page.toNat clean64, wear := f.wear.set page.toNat (min (f.wear.getD page.toNat 0 + 1) 1099511627776), left := decL f.left }, 0)
theorem frz_ownR (ps : List (List Int)) (k b : Nat) (st : St) (pg : List Int) (hpg : pg.length = 64) (hst : st b = some (.row 1 (pg.map encB))) :
    (ownR ps k b).map (fun e => e.map (frzC st [b])) = (ps.set k pg).map encP := by
  unfold ownR
  rw [List.map_set, List.map_set]
  have e1 : (ps.map encP).map (fun e => e.map (frzC st [b])) = ps.map encP := by
    rw [List.map_map]
    refine List.map_congr_left fun p _ => ?_
    simp [encP, frzC]
  have e2 : (pg.map encB).take 64 = pg.map encB := List.take_of_length_le (by simp [hpg])
  rw [e1]
  congr 1
  simp [frzC, viewC, hst, encP, e2]
theorem frzOk_ownR (ps : List (List Int)) (k b : Nat) (st : St) (pg : List Int) (hpg : pg.length = 64) (hst : st b = some (.row 1 (pg.map encB))) :
    ∀ e ∈ ownR ps k b, ∀ c ∈ e, frzOkC st [b] c := by
  intro e he c hc
  rcases List.mem_or_eq_of_mem_set he with he | rfl
  · obtain ⟨p, _, rfl⟩ := List.mem_map.1 he
    simp [encP] at hc
    subst hc
    simp [frzOkC]
  · simp at hc
    subst hc
    simp only [frzOkC, List.contains_cons, List.contains_nil, BEq.rfl, Bool.true_or, if_true, viewOkC, hst]
    refine ⟨trivial, by decide, by simp [hpg], fun e he c hc => ?_⟩
    exact fz_map encB_fz pg e (List.mem_of_mem_drop (List.mem_of_mem_take he)) c hc
theorem erase_ok (f : Flash) (page : Int) (hg : f.good) (hI : f.left ≤ 9223372036854775807) :
    FnS Try.prog 15 [.agg (encFlash f), .int .i64 page] [] (.tup [.agg (encFlash (eraseF f page).1), .int .i64 (eraseF f page).2]) [] := by
  obtain ⟨ps, w, left, down⟩ := f
  obtain ⟨n1, n80, wl, gl, gd, gw, gb⟩ := hg
  simp only at n1 n80 wl gl gd gw gb hI
  refine fn_walk tabOk Try.func15 rfl (by decide +kernel) Try.ntmps15 Try.results15 (by simp) fun B hB => ?_
  try refine hK _ ?_
  repeat (first | refine awp_seq ?_ | refine awp_block ?_ | refine awp_skip ?_ | refine awp_scope ?_ | refine awp_label ?_)
  refine awp_region tabOk fun K hK => ?_
  simp -dsimp -implicitDefEqProofs only [encFlash, push_cast, ↓trAdd_f, ↓stOf_f, seval]
  try refine hK _ ?_
  repeat (first | refine awp_seq ?_ | refine awp_block ?_ | refine awp_skip ?_ | refine awp_scope ?_ | refine awp_label ?_)
  refine awp_region tabOk fun K hK => ?_
  simp -dsimp -implicitDefEqProofs only [push_cast, ↓trAdd_f, ↓stOf_f, seval]
  try refine hK _ ?_
  repeat (first | refine awp_seq ?_ | refine awp_block ?_ | refine awp_skip ?_ | refine awp_scope ?_ | refine awp_label ?_)
  refine awp_cond (b := down) (by simp -dsimp -implicitDefEqProofs only [push_cast, ↓trAdd_f, ↓stOf_f, seval]) (fun h => ?_) (fun h => ?_)
  · subst h
    try refine hK _ ?_
    repeat (first | refine awp_seq ?_ | refine awp_block ?_ | refine awp_skip ?_ | refine awp_scope ?_ | refine awp_label ?_)
    refine awp_region tabOk fun K hK => ?_
    simp -dsimp -implicitDefEqProofs only [push_cast, ↓trAdd_f, ↓stOf_f, seval]
    refine hK _ (awp_ret ?_)
    simp -dsimp -implicitDefEqProofs only [eraseF, encFlash, push_cast, List.mem_append, List.mem_cons, List.mem_singleton, forall_eq_or_imp, forall_eq, ↓trAdd_f, ↓stOf_f, seval]
  subst h
  try refine hK _ ?_
  repeat (first | refine awp_seq ?_ | refine awp_block ?_ | refine awp_skip ?_ | refine awp_scope ?_ | refine awp_label ?_)
  refine awp_region tabOk fun K hK => ?_
  simp -dsimp -implicitDefEqProofs only [push_cast, ↓trAdd_f, ↓stOf_f, seval]
  refine callK_simple (in_ok ⟨ps, w, left, false⟩ page 0 0) ?_ rfl fun _ => ?_
  · simp -dsimp -implicitDefEqProofs only [encFlash, push_cast, List.mem_append, List.mem_cons, List.mem_singleton, forall_eq_or_imp, forall_eq, ↓trAdd_f, ↓stOf_f, seval]
  simp -dsimp -implicitDefEqProofs only [push_cast, ↓trAdd_f, ↓stOf_f, seval]
  refine hK _ ?_
  try refine hK _ ?_
  repeat (first | refine awp_seq ?_ | refine awp_block ?_ | refine awp_skip ?_ | refine awp_scope ?_ | refine awp_label ?_)
  refine awp_cond (b := !inF ⟨ps, w, left, false⟩ page 0 0) (by simp -dsimp -implicitDefEqProofs only [push_cast, ↓trAdd_f, ↓stOf_f, seval]) (fun h => ?_) (fun h => ?_)
  · have h' : inF ⟨ps, w, left, false⟩ page 0 0 = false := by simpa using h
    try refine hK _ ?_
    repeat (first | refine awp_seq ?_ | refine awp_block ?_ | refine awp_skip ?_ | refine awp_scope ?_ | refine awp_label ?_)
    refine awp_region tabOk fun K hK => ?_
    simp -dsimp -implicitDefEqProofs only [push_cast, ↓trAdd_f, ↓stOf_f, seval]
    refine hK _ (awp_ret ?_)
    simp -dsimp -implicitDefEqProofs only [eraseF, encFlash, h', push_cast, List.mem_append, List.mem_cons, List.mem_singleton, forall_eq_or_imp, forall_eq, ↓trAdd_f, ↓stOf_f, seval]
  have h' : inF ⟨ps, w, left, false⟩ page 0 0 = true := by simpa using h
  obtain ⟨⟨p0, p1⟩, _⟩ := (inF_iff _ _ _ _).1 h'
  obtain ⟨k, rfl⟩ := Int.eq_ofNat_of_zero_le p0
  have hk : k < ps.length := by simpa using p1
  have hw : k < w.length := by omega
  have hwne : w ≠ [] := by intro e; rw [e] at hw; simp at hw
  have h64 := gb ps[k] (List.getElem_mem hk)
  have hv := gw w[k] (List.getElem_mem hw)
  refine awp_skip ?_
  try refine hK _ ?_
  repeat (first | refine awp_seq ?_ | refine awp_block ?_ | refine awp_skip ?_ | refine awp_scope ?_ | refine awp_label ?_)
  refine awp_region tabOk fun K hK => ?_
  simp -dsimp -implicitDefEqProofs only [push_cast, ↓trAdd_f, ↓stOf_f, seval]
  refine ⟨35, [], [], { args := [.agg (encFlash ⟨ps, w, left, false⟩), .int .i64 k], st0 := [], res := .agg [.own 0 1 0 ps.length, .sl false 1 (w.map encI), .int .i64 left, .bool false], st1 := [(0, .row 1 (ownR ps k 1)), (1, .row 1 (ps[k].map encB))], r := [] }, rfl, .inl (own_ok ⟨ps, w, left, false⟩ k hk h64 (by simp; omega)), ?_, ?_⟩
  · simp -dsimp -implicitDefEqProofs only [encFlash, ok_ownR, bytes_okl, hk, push_cast, List.mem_append, List.mem_cons, List.mem_singleton, forall_eq_or_imp, forall_eq, ↓trAdd_f, ↓stOf_f, seval]
    rfl
  simp -dsimp -implicitDefEqProofs only [encFlash, ren_ownR, bytes_ren, push_cast, ↓trAdd_f, ↓stOf_f, seval]
  refine hK _ ?_
  try refine hK _ ?_
  repeat (first | refine awp_seq ?_ | refine awp_block ?_ | refine awp_skip ?_ | refine awp_scope ?_ | refine awp_label ?_)
  refine awp_region tabOk fun K hK => ?_
  simp -dsimp -implicitDefEqProofs only [push_cast, ↓trAdd_f, ↓stOf_f, seval]
  refine ⟨36, [], [], { args := [.sl false 1 (w.map encI)], st0 := [], res := .own 0 1 0 w.length, st1 := [(0, .row 1 (w.map encI))], r := [] }, rfl, .inl (cloneI_ok w hwne (by omega)), ?_, ?_⟩
  · simp -dsimp -implicitDefEqProofs only [ints_okl, push_cast, List.mem_append, List.mem_cons, List.mem_singleton, forall_eq_or_imp, forall_eq, ↓trAdd_f, ↓stOf_f, seval]
    rfl
  simp -dsimp -implicitDefEqProofs only [ints_ren, push_cast, ↓trAdd_f, ↓stOf_f, seval]
  refine hK _ ?_
  try refine hK _ ?_
  repeat (first | refine awp_seq ?_ | refine awp_block ?_ | refine awp_skip ?_ | refine awp_scope ?_ | refine awp_label ?_)
  refine awp_region tabOk fun K hK => ?_
  simp -dsimp -implicitDefEqProofs only [push_cast, ↓trAdd_f, ↓stOf_f, seval]
  refine hK _ ?_
  try refine hK _ ?_
  repeat (first | refine awp_seq ?_ | refine awp_block ?_ | refine awp_skip ?_ | refine awp_scope ?_ | refine awp_label ?_)
  refine awp_region tabOk fun K hK => ?_
  simp -dsimp -implicitDefEqProofs only [push_cast, ↓trAdd_f, ↓stOf_f, seval]
  have hgp : ps.getD k [] = ps[k] := by simp [List.getD, hk]
  have hgw : w.getD k 0 = w[k] := by simp [List.getD, hw]
  by_cases h0 : left = 0
  · subst h0
    have he := do1_torn ps w false k ps[k] hk h64 (by omega)
    have hE : eraseF ⟨ps, w, 0, false⟩ k = ({ pages := ps.set k (tornP ps[k]), wear := w, left := 0, down := true }, 250) := by
      simp only [eraseF, h', Int.toNat_natCast, hgp, if_false, if_true, Bool.false_eq_true, Bool.true_eq_false]
    have ht : (tornP ps[k]).length = 64 := by simp [tornP, clean64, h64]
    refine ⟨40, [], [], { args := [.ptr 0 0, .agg [.fn (.func 37) [] [.ptr 0 0, .ptr 1 0], .fn (.func 39) [] [.ptr 0 0, .ptr 1 0]]], st0 := stE ps w w.length 0 false k ps[k], res := .bool false, st1 := stE ps w w.length 0 true k (tornP ps[k]), r := [0, 8, 112, 113, 144] }, rfl, .inl he, ?_, ?_⟩
    · simp -dsimp -implicitDefEqProofs only [stE, ok_ownR, ren_ownR, bytes_okl, ints_okl, bytes_ren, ints_ren, hk, push_cast, List.mem_append, List.mem_cons, List.mem_singleton, forall_eq_or_imp, forall_eq, ↓trAdd_f, ↓stOf_f, seval]
      rfl
    simp -dsimp -implicitDefEqProofs only [stE, ok_ownR, ren_ownR, bytes_okl, ints_okl, bytes_ren, ints_ren, hk, push_cast, ↓trAdd_f, ↓stOf_f, seval]
    refine hK _ ?_
    try refine hK _ ?_
    repeat (first | refine awp_seq ?_ | refine awp_block ?_ | refine awp_skip ?_ | refine awp_scope ?_ | refine awp_label ?_)
    refine awp_cond (b := true) (by simp -dsimp -implicitDefEqProofs only [push_cast, ↓trAdd_f, ↓stOf_f, seval]) (fun h => ?_) (fun h => ?_)
    rotate_left
    · cases h
    try refine hK _ ?_
    repeat (first | refine awp_seq ?_ | refine awp_block ?_ | refine awp_skip ?_ | refine awp_scope ?_ | refine awp_label ?_)
    refine awp_region tabOk fun K hK => ?_
    simp -dsimp -implicitDefEqProofs only [push_cast, ↓trAdd_f, ↓stOf_f, seval]
    refine hK _ ?_
    refine awp_le (le_frzR _ [113] 112 1 (ownR ps k 113) rfl (by decide) (frzOk_ownR ps k 113 _ _ ht rfl) (by simp [lk])) ?_
    rw [frz_ownR ps k 113 _ _ ht rfl]
    have hl3 : ((ps.set k (tornP ps[k])).map encP).take ps.length = (ps.set k (tornP ps[k])).map encP := List.take_of_length_le (by simp)
    have hl4 : (w.map encI).take w.length = w.map encI := List.take_of_length_le (by simp)
    refine awp_ret ?_
    simp -dsimp -implicitDefEqProofs only [hE, encFlash, pages_fz, ints_fz, hl3, hl4, ins, del, delAll, List.length_set, List.length_map, Nat.le_refl, push_cast, List.mem_append, List.mem_cons, List.mem_singleton, forall_eq_or_imp, forall_eq, ↓trAdd_f, ↓stOf_f, seval]
  · have he := do1_whole ps w left false k ps[k] hk hw h64 (by omega) (by omega) hv h0 ⟨gl, hI⟩
    have hE : eraseF ⟨ps, w, left, false⟩ k = ({ pages := ps.set k clean64, wear := worn w k hw, left := decL left, down := false }, 0) := by
      simp only [eraseF, h', Int.toNat_natCast, hgw, if_false, Bool.false_eq_true, Bool.true_eq_false, h0, worn]
    have hwl : (worn w k hw).length = w.length := by simp [worn]
    refine ⟨40, [], [], { args := [.ptr 0 0, .agg [.fn (.func 37) [] [.ptr 0 0, .ptr 1 0], .fn (.func 39) [] [.ptr 0 0, .ptr 1 0]]], st0 := stE ps w w.length left false k ps[k], res := .bool true, st1 := stE ps (worn w k hw) w.length (decL left) false k clean64, r := [0, 8, 112, 113, 144] }, rfl, .inl he, ?_, ?_⟩
    · simp -dsimp -implicitDefEqProofs only [stE, ok_ownR, ren_ownR, bytes_okl, ints_okl, bytes_ren, ints_ren, hk, push_cast, List.mem_append, List.mem_cons, List.mem_singleton, forall_eq_or_imp, forall_eq, ↓trAdd_f, ↓stOf_f, seval]
      rfl
    simp -dsimp -implicitDefEqProofs only [stE, ok_ownR, ren_ownR, bytes_okl, ints_okl, bytes_ren, ints_ren, hk, push_cast, ↓trAdd_f, ↓stOf_f, seval]
    refine hK _ ?_
    try refine hK _ ?_
    repeat (first | refine awp_seq ?_ | refine awp_block ?_ | refine awp_skip ?_ | refine awp_scope ?_ | refine awp_label ?_)
    refine awp_cond (b := false) (by simp -dsimp -implicitDefEqProofs only [push_cast, ↓trAdd_f, ↓stOf_f, seval]) (fun h => ?_) (fun h => ?_)
    · cases h
    refine awp_skip ?_
    try refine hK _ ?_
    repeat (first | refine awp_seq ?_ | refine awp_block ?_ | refine awp_skip ?_ | refine awp_scope ?_ | refine awp_label ?_)
    refine awp_region tabOk fun K hK => ?_
    simp -dsimp -implicitDefEqProofs only [push_cast, ↓trAdd_f, ↓stOf_f, seval]
    refine hK _ ?_
    have ht : clean64.length = 64 := rfl
    refine awp_le (le_frzR _ [113] 112 1 (ownR ps k 113) rfl (by decide) (frzOk_ownR ps k 113 _ _ ht rfl) (by simp [lk])) ?_
    rw [frz_ownR ps k 113 _ _ ht rfl]
    have hl3 : ((ps.set k clean64).map encP).take ps.length = (ps.set k clean64).map encP := List.take_of_length_le (by simp)
    have hl4 : ((worn w k hw).map encI).take w.length = (worn w k hw).map encI := List.take_of_length_le (by simp [hwl])
    refine awp_ret ?_
    simp -dsimp -implicitDefEqProofs only [hE, hwl, encFlash, pages_fz, ints_fz, hl3, hl4, ins, del, delAll, List.length_set, List.length_map, Nat.le_refl, push_cast, List.mem_append, List.mem_cons, List.mem_singleton, forall_eq_or_imp, forall_eq, ↓trAdd_f, ↓stOf_f, seval]
end Go.Proofs.YtihippjbbcpggaaFw

/-
  Walks: Write's two functions, do with them.
-/
namespace Go.Proofs.YtihippjbbcpggaaFw
open Go Go.Proofs
set_option maxRecDepth 100000
set_option maxHeartbeats 4000000
set_option linter.unusedVariables false
set_option linter.unusedSimpArgs false

def or15 (x : Int) : Int := IntKind.u8.wrap (BitVec.ofInt IntKind.u8.bits x ||| BitVec.ofInt IntKind.u8.bits 15).toNat
theorem or15_fold (x : Int) : IntKind.u8.wrap (BitVec.ofInt IntKind.u8.bits x ||| BitVec.ofInt IntKind.u8.bits 15).toNat = or15 x := rfl
/-- What Write lends to its two functions, and to do. -/
def stW (ps : List (List Int)) (w : List Int) (left : Int) (down : Bool) (k : Nat) (x : Int) (j : Nat) (pg : List Int) : List (Nat × Blk) :=
  [(0, .box [.own 4 1 0 ps.length, .sl false 1 (w.map encI), .int .i64 left, .bool down]), (1, .box [.int .u8 x]), (2, .box [.rp 3 1 j 0]), (3, .row 1 (pg.map encB)), (4, .row 1 (ownR ps k 3))]
theorem write1_ok (ps : List (List Int)) (w : List Int) (left : Int) (down : Bool) (k : Nat) (x : Int) (j : Nat) (pg : List Int) (hk : k < ps.length) (hj : j < pg.length) :
    FnS Try.prog 44 [.ptr 1 0, .ptr 2 0] (stW ps w left down k x j pg) (.tup []) (stW ps w left down k x j (pg.set j x)) := by
  have hset := set_encB pg j x
  simp only [stW]
  refine fn_walk tabOk Try.func44 rfl (by decide +kernel) Try.ntmps44 Try.results44 (by simp) fun B hB => ?_
  try refine hK _ ?_
  repeat (first | refine awp_seq ?_ | refine awp_block ?_ | refine awp_skip ?_ | refine awp_scope ?_ | refine awp_label ?_)
  refine awp_region tabOk fun K hK => ?_
  simp -dsimp -implicitDefEqProofs only [hj, getD_map, encB, push_cast, ↓trAdd_f, ↓stOf_f, seval]
  refine hK _ ?_
  simp -dsimp -implicitDefEqProofs only [hset, ok_ownR, bytes_okl, hk, encB, push_cast, List.mem_append, List.mem_cons, List.mem_singleton, forall_eq_or_imp, forall_eq, ↓trAdd_f, ↓stOf_f, seval]
theorem write2_ok (ps : List (List Int)) (w : List Int) (left : Int) (down : Bool) (k : Nat) (x : Int) (j : Nat) (pg : List Int) (hk : k < ps.length) (hj : j < pg.length) :
    FnS Try.prog 45 [.ptr 1 0, .ptr 2 0] (stW ps w left down k x j pg) (.tup []) (stW ps w left down k x j (pg.set j (or15 x))) := by
  have hset := set_encB pg j (or15 x)
  simp only [stW]
  refine fn_walk tabOk Try.func45 rfl (by decide +kernel) Try.ntmps45 Try.results45 (by simp) fun B hB => ?_
  try refine hK _ ?_
  repeat (first | refine awp_seq ?_ | refine awp_block ?_ | refine awp_skip ?_ | refine awp_scope ?_ | refine awp_label ?_)
  refine awp_region tabOk fun K hK => ?_
  simp -dsimp -implicitDefEqProofs only [hj, getD_map, encB, or15_fold, push_cast, ↓trAdd_f, ↓stOf_f, seval]
  refine hK _ ?_
  simp -dsimp -implicitDefEqProofs only [hset, ok_ownR, bytes_okl, hk, encB, push_cast, List.mem_append, List.mem_cons, List.mem_singleton, forall_eq_or_imp, forall_eq, ↓trAdd_f, ↓stOf_f, seval]
theorem do2_torn (ps : List (List Int)) (w : List Int) (down : Bool) (k : Nat) (x : Int) (j : Nat) (pg : List Int) (hk : k < ps.length) (hj : j < pg.length) :
    FnS Try.prog 40 [.ptr 0 0, .agg [.fn (.func 44) [] [.ptr 1 0, .ptr 2 0], .fn (.func 45) [] [.ptr 1 0, .ptr 2 0]]] (stW ps w 0 down k x j pg) (.bool false) (stW ps w 0 true k x j (pg.set j (or15 x))) := by
  have he := write2_ok ps w 0 true k x j pg hk hj
  simp only [stW] at he ⊢
  refine fn_walk tabOk Try.func40 rfl (by decide +kernel) Try.ntmps40 Try.results40 (by simp) fun B hB => ?_
  try refine hK _ ?_
  repeat (first | refine awp_seq ?_ | refine awp_block ?_ | refine awp_skip ?_ | refine awp_scope ?_ | refine awp_label ?_)
  refine awp_region tabOk fun K hK => ?_
  simp -dsimp -implicitDefEqProofs only [push_cast, ↓trAdd_f, ↓stOf_f, seval]
  try refine hK _ ?_
  repeat (first | refine awp_seq ?_ | refine awp_block ?_ | refine awp_skip ?_ | refine awp_scope ?_ | refine awp_label ?_)
  refine awp_region tabOk fun K hK => ?_
  simp -dsimp -implicitDefEqProofs only [push_cast, ↓trAdd_f, ↓stOf_f, seval]
  try refine hK _ ?_
  repeat (first | refine awp_seq ?_ | refine awp_block ?_ | refine awp_skip ?_ | refine awp_scope ?_ | refine awp_label ?_)
  refine awp_cond (b := true) (by simp -dsimp -implicitDefEqProofs only [push_cast, ↓trAdd_f, ↓stOf_f, seval]) (fun h => ?_) (fun h => ?_)
  rotate_left
  · cases h
  try refine hK _ ?_
  repeat (first | refine awp_seq ?_ | refine awp_block ?_ | refine awp_skip ?_ | refine awp_scope ?_ | refine awp_label ?_)
  refine awp_region tabOk fun K hK => ?_
  simp -dsimp -implicitDefEqProofs only [push_cast, ↓trAdd_f, ↓stOf_f, seval]
  refine hK _ ?_
  try refine hK _ ?_
  repeat (first | refine awp_seq ?_ | refine awp_block ?_ | refine awp_skip ?_ | refine awp_scope ?_ | refine awp_label ?_)
  refine awp_region tabOk fun K hK => ?_
  simp -dsimp -implicitDefEqProofs only [push_cast, ↓trAdd_f, ↓stOf_f, seval]
  refine ⟨45, [], [.ptr 1 0, .ptr 2 0], { args := [.ptr 1 0, .ptr 2 0], st0 := stW ps w 0 true k x j pg, res := .tup [], st1 := stW ps w 0 true k x j (pg.set j (or15 x)), r := [0, 1, 2, 3, 4] }, rfl, .inl he, ?_, ?_⟩
  · simp -dsimp -implicitDefEqProofs only [stW, ok_ownR, ren_ownR, bytes_okl, bytes_ren, hk, push_cast, List.mem_append, List.mem_cons, List.mem_singleton, forall_eq_or_imp, forall_eq, ↓trAdd_f, ↓stOf_f, seval]
    rfl
  simp -dsimp -implicitDefEqProofs only [stW, ok_ownR, ren_ownR, bytes_okl, bytes_ren, hk, push_cast, ↓trAdd_f, ↓stOf_f, seval]
  refine hK _ ?_
  try refine hK _ ?_
  repeat (first | refine awp_seq ?_ | refine awp_block ?_ | refine awp_skip ?_ | refine awp_scope ?_ | refine awp_label ?_)
  refine awp_region tabOk fun K hK => ?_
  simp -dsimp -implicitDefEqProofs only [push_cast, ↓trAdd_f, ↓stOf_f, seval]
  refine hK _ (awp_ret ?_)
  simp -dsimp -implicitDefEqProofs only [ok_ownR, bytes_okl, hk, push_cast, List.mem_append, List.mem_cons, List.mem_singleton, forall_eq_or_imp, forall_eq, ↓trAdd_f, ↓stOf_f, seval]
theorem do2_whole (ps : List (List Int)) (w : List Int) (left : Int) (down : Bool) (k : Nat) (x : Int) (j : Nat) (pg : List Int) (hk : k < ps.length) (hj : j < pg.length) (h0 : left ≠ 0) (hI : -1 ≤ left ∧ left ≤ 9223372036854775807) :
    FnS Try.prog 40 [.ptr 0 0, .agg [.fn (.func 44) [] [.ptr 1 0, .ptr 2 0], .fn (.func 45) [] [.ptr 1 0, .ptr 2 0]]] (stW ps w left down k x j pg) (.bool true) (stW ps w (decL left) down k x j (pg.set j x)) := by
  have he := write1_ok ps w (decL left) down k x j pg hk hj
  have hl0 : (left == 0) = false := by simpa using h0
  simp only [stW] at he ⊢
  refine fn_walk tabOk Try.func40 rfl (by decide +kernel) Try.ntmps40 Try.results40 (by simp) fun B hB => ?_
  try refine hK _ ?_
  repeat (first | refine awp_seq ?_ | refine awp_block ?_ | refine awp_skip ?_ | refine awp_scope ?_ | refine awp_label ?_)
  refine awp_region tabOk fun K hK => ?_
  simp -dsimp -implicitDefEqProofs only [push_cast, ↓trAdd_f, ↓stOf_f, seval]
  refine hK _ ?_
  refine awp_seq ?_
  refine awp_join ({ sl := [(3, .ptr 5 0)], st := [(0, .box [.own 4 1 0 ps.length, .sl false 1 (w.map encI), .int .i64 (decL left), .bool down]), (1, .box [.int .u8 x]), (2, .box [.rp 3 1 j 0]), (3, .row 1 (pg.map encB)), (4, .row 1 (ownR ps k 3)), (5, .box [.fn (.func 44) [] [.ptr 1 0, .ptr 2 0], .fn (.func 45) [] [.ptr 1 0, .ptr 2 0]])], nx := 13, n := 33 }) ?_ (fun _ hl h => awp_le hl h) ?_
  · try refine hK _ ?_
    repeat (first | refine awp_seq ?_ | refine awp_block ?_ | refine awp_skip ?_ | refine awp_scope ?_ | refine awp_label ?_)
    refine awp_region tabOk fun K hK => ?_
    simp -dsimp -implicitDefEqProofs only [hl0, push_cast, ↓trAdd_f, ↓stOf_f, seval]
    try refine hK _ ?_
    repeat (first | refine awp_seq ?_ | refine awp_block ?_ | refine awp_skip ?_ | refine awp_scope ?_ | refine awp_label ?_)
    refine awp_cond (b := false) (by simp -dsimp -implicitDefEqProofs only [push_cast, ↓trAdd_f, ↓stOf_f, seval]) (fun h => ?_) (fun h => ?_)
    · cases h
    try refine hK _ ?_
    repeat (first | refine awp_seq ?_ | refine awp_block ?_ | refine awp_skip ?_ | refine awp_scope ?_ | refine awp_label ?_)
    refine awp_region tabOk fun K hK => ?_
    simp -dsimp -implicitDefEqProofs only [push_cast, ↓trAdd_f, ↓stOf_f, seval]
    try refine hK _ ?_
    repeat (first | refine awp_seq ?_ | refine awp_block ?_ | refine awp_skip ?_ | refine awp_scope ?_ | refine awp_label ?_)
    refine awp_cond (b := decide (0 < left)) (by simp -dsimp -implicitDefEqProofs only [push_cast, ↓trAdd_f, ↓stOf_f, seval]) (fun h => ?_) (fun h => ?_)
    · have hp : 0 < left := by simpa using h
      have hd : decL left = left - 1 := if_pos hp
      try refine hK _ ?_
      repeat (first | refine awp_seq ?_ | refine awp_block ?_ | refine awp_skip ?_ | refine awp_scope ?_ | refine awp_label ?_)
      refine awp_region tabOk fun K hK => ?_
      simp -dsimp -implicitDefEqProofs only [push_cast, ↓trAdd_f, ↓stOf_f, seval]
      try simp (disch := omega) only [wrap_i64, wrap_u8, wrap_u16, wrap_u32]
      refine hK _ ?_
      refine le_intro hB [] (by simp) (fun b _ => rfl) rfl ?_ ?_ rfl <;> simp -dsimp -implicitDefEqProofs only [ren_ownR, ok_ownR, bytes_okl, bytes_ren, hk, hd, push_cast, ↓trAdd_f, ↓stOf_f, seval]
    · have hp : ¬ 0 < left := by simpa using h
      have hd : decL left = left := if_neg hp
      refine awp_skip ?_
      refine le_intro hB [] (by simp) (fun b _ => rfl) rfl ?_ ?_ rfl <;> simp -dsimp -implicitDefEqProofs only [ren_ownR, ok_ownR, bytes_okl, bytes_ren, hk, hd, push_cast, ↓trAdd_f, ↓stOf_f, seval]
  try refine hK _ ?_
  repeat (first | refine awp_seq ?_ | refine awp_block ?_ | refine awp_skip ?_ | refine awp_scope ?_ | refine awp_label ?_)
  refine awp_region tabOk fun K hK => ?_
  simp -dsimp -implicitDefEqProofs only [push_cast, ↓trAdd_f, ↓stOf_f, seval]
  refine ⟨44, [], [.ptr 1 0, .ptr 2 0], { args := [.ptr 1 0, .ptr 2 0], st0 := stW ps w (decL left) down k x j pg, res := .tup [], st1 := stW ps w (decL left) down k x j (pg.set j x), r := [0, 1, 2, 3, 4] }, rfl, .inl he, ?_, ?_⟩
  · simp -dsimp -implicitDefEqProofs only [stW, ok_ownR, ren_ownR, bytes_okl, bytes_ren, hk, push_cast, List.mem_append, List.mem_cons, List.mem_singleton, forall_eq_or_imp, forall_eq, ↓trAdd_f, ↓stOf_f, seval]
    rfl
  simp -dsimp -implicitDefEqProofs only [stW, ok_ownR, ren_ownR, bytes_okl, bytes_ren, hk, push_cast, ↓trAdd_f, ↓stOf_f, seval]
  refine hK _ ?_
  try refine hK _ ?_
  repeat (first | refine awp_seq ?_ | refine awp_block ?_ | refine awp_skip ?_ | refine awp_scope ?_ | refine awp_label ?_)
  refine awp_region tabOk fun K hK => ?_
  simp -dsimp -implicitDefEqProofs only [push_cast, ↓trAdd_f, ↓stOf_f, seval]
  refine hK _ (awp_ret ?_)
  simp -dsimp -implicitDefEqProofs only [ok_ownR, bytes_okl, hk, push_cast, List.mem_append, List.mem_cons, List.mem_singleton, forall_eq_or_imp, forall_eq, ↓trAdd_f, ↓stOf_f, seval]
end Go.Proofs.YtihippjbbcpggaaFw

/-
  Walks: Write.
-/
namespace Go.Proofs.YtihippjbbcpggaaFw
open Go Go.Proofs
set_option maxRecDepth 100000
set_option maxHeartbeats 4000000
set_option linter.unusedVariables false
set_option linter.unusedSimpArgs false

/-- Bytes laid into a page one by one, as far as the power goes: the page, the power that is left, whether it was torn. -/
def laidF : List Int → Nat → List Int → Int → List Int × Int × Bool
  | [], _, pg, left => (pg, left, false)
  | x :: b, j, pg, left => if left = 0 then (pg.set j (or15 x), 0, true) else laidF b (j + 1) (pg.set j x) (decL left)
theorem laidF_nil (j : Nat) (pg : List Int) (left : Int) : laidF [] j pg left = (pg, left, false) := rfl
theorem laidF_torn (x : Int) (b : List Int) (j : Nat) (pg : List Int) : laidF (x :: b) j pg 0 = (pg.set j (or15 x), 0, true) := by rw [laidF, if_pos rfl]
theorem laidF_next (x : Int) (b : List Int) (j : Nat) (pg : List Int) {left : Int} (h : left ≠ 0) : laidF (x :: b) j pg left = laidF b (j + 1) (pg.set j x) (decL left) := by rw [laidF, if_neg h]
theorem laidF_len : ∀ (b : List Int) (j : Nat) (pg : List Int) (left : Int), (laidF b j pg left).1.length = pg.length
  | [], _, _, _ => rfl
  | x :: b, j, pg, left => by
    unfold laidF
    split
    · simp
    · rw [laidF_len b]; simp
def freeF (p : List Int) (at_ n : Nat) : Bool := decide ((p.drop at_).take n = clean64.take n)
/-- What Write makes of a flash. -/
def writeF (f : Flash) (page at_ : Int) (b : List Int) : Flash × Int :=
  if f.down then (f, 250) else if inF f page at_ b.length = false then (f, 251) else
  if freeF (f.pages.getD page.toNat []) at_.toNat b.length = false then (f, 252) else
  ({ f with pages := f.pages.set page.toNat (laidF b at_.toNat (f.pages.getD page.toNat []) f.left).1, left := (laidF b at_.toNat (f.pages.getD page.toNat []) f.left).2.1, down := (laidF b at_.toNat (f.pages.getD page.toNat []) f.left).2.2 },
    if (laidF b at_.toNat (f.pages.getD page.toNat []) f.left).2.2 then 250 else 0)
theorem write_ok (f : Flash) (page at_ : Int) (t : Bool) (b : List Int) (hg : f.good) (hb : f.bytes) (hI : f.left ≤ 9223372036854775807) (hbl : b.length ≤ 2 ^ 40) :
    FnS Try.prog 17 [.agg (encFlash f), .int .i64 page, .int .i64 at_, .sl t 1 (b.map encB)] [] (.tup [.agg (encFlash (writeF f page at_ b).1), .int .i64 (writeF f page at_ b).2]) [] := by
  obtain ⟨ps, w, left, down⟩ := f
  obtain ⟨n1, n80, wl, gl, gd, gw, gb⟩ := hg
  unfold Flash.bytes at hb
  simp only at n1 n80 wl gl gd gw gb hI hb
  refine fn_walk tabOk Try.func17 rfl (by decide +kernel) Try.ntmps17 Try.results17 (by simp) fun B hB => ?_
  try refine hK _ ?_
  repeat (first | refine awp_seq ?_ | refine awp_block ?_ | refine awp_skip ?_ | refine awp_scope ?_ | refine awp_label ?_)
  refine awp_region tabOk fun K hK => ?_
  simp -dsimp -implicitDefEqProofs only [encFlash, push_cast, ↓trAdd_f, ↓stOf_f, seval]
  try refine hK _ ?_
  repeat (first | refine awp_seq ?_ | refine awp_block ?_ | refine awp_skip ?_ | refine awp_scope ?_ | refine awp_label ?_)
  refine awp_region tabOk fun K hK => ?_
  simp -dsimp -implicitDefEqProofs only [push_cast, ↓trAdd_f, ↓stOf_f, seval]
  try refine hK _ ?_
  repeat (first | refine awp_seq ?_ | refine awp_block ?_ | refine awp_skip ?_ | refine awp_scope ?_ | refine awp_label ?_)
  refine awp_cond (b := down) (by simp -dsimp -implicitDefEqProofs only [push_cast, ↓trAdd_f, ↓stOf_f, seval]) (fun h => ?_) (fun h => ?_)
  · subst h
    try refine hK _ ?_
    repeat (first | refine awp_seq ?_ | refine awp_block ?_ | refine awp_skip ?_ | refine awp_scope ?_ | refine awp_label ?_)
    refine awp_region tabOk fun K hK => ?_
    simp -dsimp -implicitDefEqProofs only [push_cast, ↓trAdd_f, ↓stOf_f, seval]
    refine hK _ (awp_ret ?_)
    simp -dsimp -implicitDefEqProofs only [writeF, encFlash, push_cast, List.mem_append, List.mem_cons, List.mem_singleton, forall_eq_or_imp, forall_eq, ↓trAdd_f, ↓stOf_f, seval]
  subst h
  try refine hK _ ?_
  repeat (first | refine awp_seq ?_ | refine awp_block ?_ | refine awp_skip ?_ | refine awp_scope ?_ | refine awp_label ?_)
  refine awp_region tabOk fun K hK => ?_
  simp -dsimp -implicitDefEqProofs only [push_cast, ↓trAdd_f, ↓stOf_f, seval]
  refine callK_simple (in_ok ⟨ps, w, left, false⟩ page at_ b.length) ?_ rfl fun _ => ?_
  · simp -dsimp -implicitDefEqProofs only [encFlash, push_cast, List.mem_append, List.mem_cons, List.mem_singleton, forall_eq_or_imp, forall_eq, ↓trAdd_f, ↓stOf_f, seval]
  simp -dsimp -implicitDefEqProofs only [push_cast, ↓trAdd_f, ↓stOf_f, seval]
  refine hK _ ?_
  try refine hK _ ?_
  repeat (first | refine awp_seq ?_ | refine awp_block ?_ | refine awp_skip ?_ | refine awp_scope ?_ | refine awp_label ?_)
  refine awp_cond (b := !inF ⟨ps, w, left, false⟩ page at_ b.length) (by simp -dsimp -implicitDefEqProofs only [push_cast, ↓trAdd_f, ↓stOf_f, seval]) (fun h => ?_) (fun h => ?_)
  · have h' : inF ⟨ps, w, left, false⟩ page at_ b.length = false := by simpa using h
    try refine hK _ ?_
    repeat (first | refine awp_seq ?_ | refine awp_block ?_ | refine awp_skip ?_ | refine awp_scope ?_ | refine awp_label ?_)
    refine awp_region tabOk fun K hK => ?_
    simp -dsimp -implicitDefEqProofs only [push_cast, ↓trAdd_f, ↓stOf_f, seval]
    refine hK _ (awp_ret ?_)
    simp -dsimp -implicitDefEqProofs only [writeF, encFlash, h', push_cast, List.mem_append, List.mem_cons, List.mem_singleton, forall_eq_or_imp, forall_eq, ↓trAdd_f, ↓stOf_f, seval]
  have h' : inF ⟨ps, w, left, false⟩ page at_ b.length = true := by simpa using h
  obtain ⟨⟨p0, p1⟩, a0, _, a1⟩ := (inF_iff _ _ _ _).1 h'
  obtain ⟨k, rfl⟩ := Int.eq_ofNat_of_zero_le p0
  obtain ⟨a, rfl⟩ := Int.eq_ofNat_of_zero_le a0
  have hk : k < ps.length := by simpa using p1
  have h64 := gb ps[k] (List.getElem_mem hk)
  have hal : a + b.length ≤ 64 := by omega
  have hpl : (ps[k].map encB).length = 64 := by simpa using h64
  have hcl : (clean64.map encB).length = 64 := by simp [clean64]
  have hgp : ps.getD k [] = ps[k] := by simp [List.getD, hk]
  have htn : ((a : Int) + (b.length : Int)).toNat - a = b.length := by omega
  have hwr : IntKind.i64.wrap ((a : Int) + (b.length : Int)) = (a : Int) + b.length := wrap_i64 (by omega) (by omega)
  have hs1 : List.take (((a : Int) + (b.length : Int)).toNat - a) (List.drop a (ps[k].map encB)) = ((ps[k].drop a).take b.length).map encB := by rw [htn, List.map_take, List.map_drop]
  try refine hK _ ?_
  repeat (first | refine awp_seq ?_ | refine awp_block ?_ | refine awp_skip ?_ | refine awp_scope ?_ | refine awp_label ?_)
  refine awp_draw tabOk (by kernel_rfl) (by kernel_rfl) fun K hK C hC => ?_
  simp -dsimp -implicitDefEqProofs only [hk, getD_map, encP, Int.toNat_natCast, hwr, hs1, push_cast, ↓trAdd_f, ↓stOf_f, seval]
  have hs2 : List.take b.length (clean64.map encB) = (clean64.take b.length).map encB := by rw [List.map_take]
  have hfree : freeF ps[k] a b.length = decide ((ps[k].drop a).take b.length = clean64.take b.length) := rfl
  refine ⟨⟨by omega, by omega⟩, ⟨by omega, by omega, by omega⟩, ?_⟩
  refine callK_simple clean_ok ?_ rfl fun _ => ?_
  · simp -dsimp -implicitDefEqProofs only [push_cast, List.mem_append, List.mem_cons, List.mem_singleton, forall_eq_or_imp, forall_eq, ↓trAdd_f, ↓stOf_f, seval]
  simp -dsimp -implicitDefEqProofs only [hcl, hs2, Int.toNat_natCast, push_cast, ↓trAdd_f, ↓stOf_f, seval]
  refine ⟨⟨by omega, by omega⟩, ?_⟩
  refine callK_simple (equal_ok false false ((ps[k].drop a).take b.length) (clean64.take b.length) (fun x hx => hb _ (List.getElem_mem hk) x (List.mem_of_mem_drop (List.mem_of_mem_take hx))) (fun x hx => by have := List.mem_of_mem_take hx; simp [clean64] at this; subst this; exact ⟨by decide, by decide⟩)) ?_ rfl fun _ => ?_
  · simp -dsimp -implicitDefEqProofs only [push_cast, List.mem_append, List.mem_cons, List.mem_singleton, forall_eq_or_imp, forall_eq, ↓trAdd_f, ↓stOf_f, seval]
  rw [← hfree]
  simp -dsimp -implicitDefEqProofs only [push_cast, ↓trAdd_f, ↓stOf_f, seval]
  refine ⟨hC _ (by kernel_rfl), hK _ ?_⟩
  try refine hK _ ?_
  repeat (first | refine awp_seq ?_ | refine awp_block ?_ | refine awp_skip ?_ | refine awp_scope ?_ | refine awp_label ?_)
  refine awp_cond (b := !freeF ps[k] a b.length) (by simp -dsimp -implicitDefEqProofs only [push_cast, ↓trAdd_f, ↓stOf_f, seval]) (fun h => ?_) (fun h => ?_)
  · have h2 : freeF ps[k] a b.length = false := by simpa using h
    try refine hK _ ?_
    repeat (first | refine awp_seq ?_ | refine awp_block ?_ | refine awp_skip ?_ | refine awp_scope ?_ | refine awp_label ?_)
    refine awp_region tabOk fun K hK => ?_
    simp -dsimp -implicitDefEqProofs only [push_cast, ↓trAdd_f, ↓stOf_f, seval]
    refine hK _ (awp_ret ?_)
    simp -dsimp -implicitDefEqProofs only [writeF, encFlash, h', Int.toNat_natCast, hgp, h2, push_cast, List.mem_append, List.mem_cons, List.mem_singleton, forall_eq_or_imp, forall_eq, ↓trAdd_f, ↓stOf_f, seval]
  have h2 : freeF ps[k] a b.length = true := by simpa using h
  refine awp_skip ?_
  try refine hK _ ?_
  repeat (first | refine awp_seq ?_ | refine awp_block ?_ | refine awp_skip ?_ | refine awp_scope ?_ | refine awp_label ?_)
  refine awp_region tabOk fun K hK => ?_
  simp -dsimp -implicitDefEqProofs only [push_cast, ↓trAdd_f, ↓stOf_f, seval]
  refine ⟨35, [], [], { args := [.agg (encFlash ⟨ps, w, left, false⟩), .int .i64 k], st0 := [], res := .agg [.own 0 1 0 ps.length, .sl false 1 (w.map encI), .int .i64 left, .bool false], st1 := [(0, .row 1 (ownR ps k 1)), (1, .row 1 (ps[k].map encB))], r := [] }, rfl, .inl (own_ok ⟨ps, w, left, false⟩ k hk h64 (by simp; omega)), ?_, ?_⟩
  · simp -dsimp -implicitDefEqProofs only [encFlash, ok_ownR, bytes_okl, hk, push_cast, List.mem_append, List.mem_cons, List.mem_singleton, forall_eq_or_imp, forall_eq, ↓trAdd_f, ↓stOf_f, seval]
    rfl
  simp -dsimp -implicitDefEqProofs only [encFlash, ren_ownR, bytes_ren, push_cast, ↓trAdd_f, ↓stOf_f, seval]
  refine hK _ ?_
  try refine hK _ ?_
  repeat (first | refine awp_seq ?_ | refine awp_block ?_ | refine awp_skip ?_ | refine awp_scope ?_ | refine awp_label ?_)
  refine awp_region tabOk fun K hK => ?_
  simp -dsimp -implicitDefEqProofs only [push_cast, ↓trAdd_f, ↓stOf_f, seval]
  refine hK _ (awp_block ?_)
  refine awp_for (fun x : Nat × List Int × Int => { sl := [(1, .int .i64 k), (2, .int .i64 a), (4, .ptr 0 0), (8, .ptr 8 0), (48, .sl t 1 (b.map encB)), (49, .int .i64 b.length), (50, .int .i64 x.1)], st := [(0, .box [.own 272 1 0 ps.length, .sl false 1 (w.map encI), .int .i64 x.2.2, .bool false]), (8, .box [.sl true 1 [], .sl true 1 [], .int .i64 0, .bool false]), (273, .row 1 (x.2.1.map encB)), (272, .row 1 (ownR ps k 273))], nx := 312, n := 72 })
    (fun x => x.1 ≤ b.length ∧ x.2.1.length = 64 ∧ (-1 ≤ x.2.2 ∧ x.2.2 ≤ 9223372036854775807) ∧ laidF (b.drop x.1) (a + x.1) x.2.1 x.2.2 = laidF b a ps[k] left) (fun x => b.length - x.1) (0, ps[k], left) ⟨Nat.zero_le _, h64, ⟨gl, hI⟩, rfl⟩ ?_ fun x hx => ?_
  · refine le_intro hB [] (by simp) (fun b _ => rfl) rfl ?_ ?_ rfl <;> simp -dsimp -implicitDefEqProofs only [ren_ownR, ok_ownR, bytes_okl, bytes_ren, hk, push_cast, ↓trAdd_f, ↓stOf_f, seval]
  obtain ⟨i, pg, lf⟩ := x
  obtain ⟨hi, hpg, hlf, hla⟩ := hx
  simp only at hi hpg hlf hla
  have hR := ownR_len ps k 273
  have hR2 := ownR_get ps k 273 hk
  try refine hK _ ?_
  repeat (first | refine awp_seq ?_ | refine awp_block ?_ | refine awp_skip ?_ | refine awp_scope ?_ | refine awp_label ?_)
  refine awp_region tabOk fun K hK => ?_
  simp -dsimp -implicitDefEqProofs only [push_cast, ↓trAdd_f, ↓stOf_f, seval]
  try refine hK _ ?_
  repeat (first | refine awp_seq ?_ | refine awp_block ?_ | refine awp_skip ?_ | refine awp_scope ?_ | refine awp_label ?_)
  refine awp_cond (b := decide ((i : Int) < b.length)) (by simp -dsimp -implicitDefEqProofs only [push_cast, ↓trAdd_f, ↓stOf_f, seval]) (fun h => ?_) (fun h => ?_)
  rotate_left
  · have hib : i = b.length := by simp at h; omega
    subst hib
    rw [List.drop_length, laidF_nil] at hla
    refine awp_exit rfl ?_
    try refine hK _ ?_
    repeat (first | refine awp_seq ?_ | refine awp_block ?_ | refine awp_skip ?_ | refine awp_scope ?_ | refine awp_label ?_)
    refine awp_region tabOk fun K hK => ?_
    simp -dsimp -implicitDefEqProofs only [push_cast, ↓trAdd_f, ↓stOf_f, seval]
    refine hK _ ?_
    refine awp_le (le_frzR _ [273] 272 1 (ownR ps k 273) rfl (by decide) (frzOk_ownR ps k 273 _ _ hpg rfl) (by simp [lk])) ?_
    rw [frz_ownR ps k 273 _ _ hpg rfl]
    have hl3 : ((ps.set k pg).map encP).take ps.length = (ps.set k pg).map encP := List.take_of_length_le (by simp)
    have hE : writeF ⟨ps, w, left, false⟩ k a b = ({ pages := ps.set k pg, wear := w, left := lf, down := false }, 0) := by
      simp only [writeF, h', Int.toNat_natCast, hgp, h2, ← hla, if_false, Bool.false_eq_true, Bool.true_eq_false]
    refine awp_ret ?_
    simp -dsimp -implicitDefEqProofs only [hE, encFlash, pages_fz, ints_fz, hl3, ins, del, delAll, List.length_set, List.length_map, Nat.le_refl, push_cast, List.mem_append, List.mem_cons, List.mem_singleton, forall_eq_or_imp, forall_eq, ↓trAdd_f, ↓stOf_f, seval]
  have hlt : i < b.length := by simpa using h
  have hwi : IntKind.i64.wrap ((a : Int) + (i : Int)) = (a : Int) + i := wrap_i64 (by omega) (by omega)
  have hti : ((a : Int) + (i : Int)).toNat = a + i := by omega
  refine awp_skip ?_
  try refine hK _ ?_
  repeat (first | refine awp_seq ?_ | refine awp_block ?_ | refine awp_skip ?_ | refine awp_scope ?_ | refine awp_label ?_)
  refine awp_region tabOk fun K hK => ?_
  simp -dsimp -implicitDefEqProofs only [hlt, getD_map, encB, push_cast, ↓trAdd_f, ↓stOf_f, seval]
  refine ⟨⟨by omega, by omega⟩, hK _ ?_⟩
  try refine hK _ ?_
  repeat (first | refine awp_seq ?_ | refine awp_block ?_ | refine awp_skip ?_ | refine awp_scope ?_ | refine awp_label ?_)
  refine awp_region tabOk fun K hK => ?_
  simp -dsimp -implicitDefEqProofs only [hR, hR2, hwi, hti, push_cast, ↓trAdd_f, ↓stOf_f, seval]
  refine ⟨⟨by omega, by omega⟩, by omega, ⟨by omega, by omega⟩, hK _ ?_⟩
  try refine hK _ ?_
  repeat (first | refine awp_seq ?_ | refine awp_block ?_ | refine awp_skip ?_ | refine awp_scope ?_ | refine awp_label ?_)
  refine awp_region tabOk fun K hK => ?_
  simp -dsimp -implicitDefEqProofs only [push_cast, ↓trAdd_f, ↓stOf_f, seval]
  have hbd : b.drop i = b[i] :: b.drop (i + 1) := List.drop_eq_getElem_cons hlt
  rw [hbd] at hla
  by_cases h0 : lf = 0
  · subst h0
    rw [laidF_torn] at hla
    have he := do2_torn ps w false k b[i] (a + i) pg hk (by omega)
    refine ⟨40, [], [], { args := [.ptr 0 0, .agg [.fn (.func 44) [] [.ptr 1 0, .ptr 2 0], .fn (.func 45) [] [.ptr 1 0, .ptr 2 0]]], st0 := stW ps w 0 false k b[i] (a + i) pg, res := .bool false, st1 := stW ps w 0 true k b[i] (a + i) (pg.set (a + i) (or15 b[i])), r := [0, 344, 440, 273, 272] }, rfl, .inl he, ?_, ?_⟩
    · simp -dsimp -implicitDefEqProofs only [stW, ok_ownR, ren_ownR, bytes_okl, bytes_ren, hk, push_cast, List.mem_append, List.mem_cons, List.mem_singleton, forall_eq_or_imp, forall_eq, ↓trAdd_f, ↓stOf_f, seval]
      rfl
    simp -dsimp -implicitDefEqProofs only [stW, ok_ownR, ren_ownR, bytes_okl, bytes_ren, hk, push_cast, ↓trAdd_f, ↓stOf_f, seval]
    refine hK _ ?_
    try refine hK _ ?_
    repeat (first | refine awp_seq ?_ | refine awp_block ?_ | refine awp_skip ?_ | refine awp_scope ?_ | refine awp_label ?_)
    refine awp_cond (b := true) (by simp -dsimp -implicitDefEqProofs only [push_cast, ↓trAdd_f, ↓stOf_f, seval]) (fun h => ?_) (fun h => ?_)
    rotate_left
    · cases h
    try refine hK _ ?_
    repeat (first | refine awp_seq ?_ | refine awp_block ?_ | refine awp_skip ?_ | refine awp_scope ?_ | refine awp_label ?_)
    refine awp_region tabOk fun K hK => ?_
    simp -dsimp -implicitDefEqProofs only [push_cast, ↓trAdd_f, ↓stOf_f, seval]
    refine hK _ ?_
    have ht : (pg.set (a + i) (or15 b[i])).length = 64 := by simpa using hpg
    refine awp_le (le_frzR _ [273] 272 1 (ownR ps k 273) rfl (by decide) (frzOk_ownR ps k 273 _ _ ht rfl) (by simp [lk])) ?_
    rw [frz_ownR ps k 273 _ _ ht rfl]
    have hl3 : ((ps.set k (pg.set (a + i) (or15 b[i]))).map encP).take ps.length = (ps.set k (pg.set (a + i) (or15 b[i]))).map encP := List.take_of_length_le (by simp)
    have hE : writeF ⟨ps, w, left, false⟩ k a b = ({ pages := ps.set k (pg.set (a + i) (or15 b[i])), wear := w, left := 0, down := true }, 250) := by
      simp only [writeF, h', Int.toNat_natCast, hgp, h2, ← hla, if_false, if_true, Bool.false_eq_true, Bool.true_eq_false]
    refine awp_ret ?_
    simp -dsimp -implicitDefEqProofs only [hE, encFlash, pages_fz, ints_fz, hl3, ins, del, delAll, List.length_set, List.length_map, Nat.le_refl, push_cast, List.mem_append, List.mem_cons, List.mem_singleton, forall_eq_or_imp, forall_eq, ↓trAdd_f, ↓stOf_f, seval]
  · rw [laidF_next _ _ _ _ h0] at hla
    have he := do2_whole ps w lf false k b[i] (a + i) pg hk (by omega) h0 hlf
    refine ⟨40, [], [], { args := [.ptr 0 0, .agg [.fn (.func 44) [] [.ptr 1 0, .ptr 2 0], .fn (.func 45) [] [.ptr 1 0, .ptr 2 0]]], st0 := stW ps w lf false k b[i] (a + i) pg, res := .bool true, st1 := stW ps w (decL lf) false k b[i] (a + i) (pg.set (a + i) b[i]), r := [0, 344, 440, 273, 272] }, rfl, .inl he, ?_, ?_⟩
    · simp -dsimp -implicitDefEqProofs only [stW, ok_ownR, ren_ownR, bytes_okl, bytes_ren, hk, push_cast, List.mem_append, List.mem_cons, List.mem_singleton, forall_eq_or_imp, forall_eq, ↓trAdd_f, ↓stOf_f, seval]
      rfl
    simp -dsimp -implicitDefEqProofs only [stW, ok_ownR, ren_ownR, bytes_okl, bytes_ren, hk, push_cast, ↓trAdd_f, ↓stOf_f, seval]
    refine hK _ ?_
    try refine hK _ ?_
    repeat (first | refine awp_seq ?_ | refine awp_block ?_ | refine awp_skip ?_ | refine awp_scope ?_ | refine awp_label ?_)
    refine awp_cond (b := false) (by simp -dsimp -implicitDefEqProofs only [push_cast, ↓trAdd_f, ↓stOf_f, seval]) (fun h => ?_) (fun h => ?_)
    · cases h
    refine awp_skip ?_
    try refine hK _ ?_
    repeat (first | refine awp_seq ?_ | refine awp_block ?_ | refine awp_skip ?_ | refine awp_scope ?_ | refine awp_label ?_)
    refine awp_region tabOk fun K hK => ?_
    simp -dsimp -implicitDefEqProofs only [push_cast, ↓trAdd_f, ↓stOf_f, seval]
    try simp (disch := omega) only [wrap_i64, wrap_u8, wrap_u16, wrap_u32]
    have hdl : -1 ≤ decL lf ∧ decL lf ≤ 9223372036854775807 := by unfold decL; split <;> omega
    refine hK _ ⟨(i + 1, pg.set (a + i) b[i], decL lf), ⟨hlt, by simpa using hpg, hdl, by rw [← hla, Nat.add_assoc]⟩, by simp only; omega, ?_⟩
    refine le_intro hB [] (by simp) (fun b _ => rfl) rfl ?_ ?_ rfl <;> simp -dsimp -implicitDefEqProofs only [ren_ownR, ok_ownR, bytes_okl, bytes_ren, hk, push_cast, ↓trAdd_f, ↓stOf_f, seval]
end Go.Proofs.YtihippjbbcpggaaFw

/-
  Walks: Read, New.
-/
namespace Go.Proofs.YtihippjbbcpggaaFw
open Go Go.Proofs
set_option maxRecDepth 100000
set_option maxHeartbeats 4000000
set_option linter.unusedVariables false
set_option linter.unusedSimpArgs false

def readF (f : Flash) (page at_ n : Int) : List Int × Int :=
  if f.down then ([], 250) else if inF f page at_ n = false then ([], 251) else (((f.pages.getD page.toNat []).drop at_.toNat).take n.toNat, 0)
theorem read_ok (f : Flash) (page at_ n : Int) (hg : f.good) : FnS Try.prog 19 [.agg (encFlash f), .int .i64 page, .int .i64 at_, .int .i64 n] [] (.tup [.sl false 1 ((readF f page at_ n).1.map encB), .int .i64 (readF f page at_ n).2]) [] := by
  obtain ⟨ps, w, left, down⟩ := f
  obtain ⟨n1, n80, wl, gl, gd, gw, gb⟩ := hg
  simp only at n1 n80 wl gl gd gw gb
  refine fn_walk tabOk Try.func19 rfl (by decide +kernel) Try.ntmps19 Try.results19 (by simp) fun B hB => ?_
  try refine hK _ ?_
  repeat (first | refine awp_seq ?_ | refine awp_block ?_ | refine awp_skip ?_ | refine awp_scope ?_ | refine awp_label ?_)
  refine awp_region tabOk fun K hK => ?_
  simp -dsimp -implicitDefEqProofs only [encFlash, push_cast, ↓trAdd_f, ↓stOf_f, seval]
  try refine hK _ ?_
  repeat (first | refine awp_seq ?_ | refine awp_block ?_ | refine awp_skip ?_ | refine awp_scope ?_ | refine awp_label ?_)
  refine awp_region tabOk fun K hK => ?_
  simp -dsimp -implicitDefEqProofs only [push_cast, ↓trAdd_f, ↓stOf_f, seval]
  try refine hK _ ?_
  repeat (first | refine awp_seq ?_ | refine awp_block ?_ | refine awp_skip ?_ | refine awp_scope ?_ | refine awp_label ?_)
  refine awp_cond (b := down) (by simp -dsimp -implicitDefEqProofs only [push_cast, ↓trAdd_f, ↓stOf_f, seval]) (fun h => ?_) (fun h => ?_)
  · subst h
    try refine hK _ ?_
    repeat (first | refine awp_seq ?_ | refine awp_block ?_ | refine awp_skip ?_ | refine awp_scope ?_ | refine awp_label ?_)
    refine awp_region tabOk fun K hK => ?_
    simp -dsimp -implicitDefEqProofs only [push_cast, ↓trAdd_f, ↓stOf_f, seval]
    refine hK _ (awp_ret ?_)
    simp -dsimp -implicitDefEqProofs only [readF, encFlash, push_cast, List.mem_append, List.mem_cons, List.mem_singleton, forall_eq_or_imp, forall_eq, ↓trAdd_f, ↓stOf_f, seval]
  subst h
  try refine hK _ ?_
  repeat (first | refine awp_seq ?_ | refine awp_block ?_ | refine awp_skip ?_ | refine awp_scope ?_ | refine awp_label ?_)
  refine awp_region tabOk fun K hK => ?_
  simp -dsimp -implicitDefEqProofs only [push_cast, ↓trAdd_f, ↓stOf_f, seval]
  refine callK_simple (in_ok ⟨ps, w, left, false⟩ page at_ n) ?_ rfl fun _ => ?_
  · simp -dsimp -implicitDefEqProofs only [encFlash, push_cast, List.mem_append, List.mem_cons, List.mem_singleton, forall_eq_or_imp, forall_eq, ↓trAdd_f, ↓stOf_f, seval]
  simp -dsimp -implicitDefEqProofs only [push_cast, ↓trAdd_f, ↓stOf_f, seval]
  refine hK _ ?_
  try refine hK _ ?_
  repeat (first | refine awp_seq ?_ | refine awp_block ?_ | refine awp_skip ?_ | refine awp_scope ?_ | refine awp_label ?_)
  refine awp_cond (b := !inF ⟨ps, w, left, false⟩ page at_ n) (by simp -dsimp -implicitDefEqProofs only [push_cast, ↓trAdd_f, ↓stOf_f, seval]) (fun h => ?_) (fun h => ?_)
  · have h' : inF ⟨ps, w, left, false⟩ page at_ n = false := by simpa using h
    try refine hK _ ?_
    repeat (first | refine awp_seq ?_ | refine awp_block ?_ | refine awp_skip ?_ | refine awp_scope ?_ | refine awp_label ?_)
    refine awp_region tabOk fun K hK => ?_
    simp -dsimp -implicitDefEqProofs only [push_cast, ↓trAdd_f, ↓stOf_f, seval]
    refine hK _ (awp_ret ?_)
    simp -dsimp -implicitDefEqProofs only [readF, encFlash, h', push_cast, List.mem_append, List.mem_cons, List.mem_singleton, forall_eq_or_imp, forall_eq, ↓trAdd_f, ↓stOf_f, seval]
  have h' : inF ⟨ps, w, left, false⟩ page at_ n = true := by simpa using h
  obtain ⟨⟨p0, p1⟩, a0, m0, a1⟩ := (inF_iff _ _ _ _).1 h'
  obtain ⟨k, rfl⟩ := Int.eq_ofNat_of_zero_le p0
  obtain ⟨a, rfl⟩ := Int.eq_ofNat_of_zero_le a0
  obtain ⟨n, rfl⟩ := Int.eq_ofNat_of_zero_le m0
  have hk : k < ps.length := by simpa using p1
  have h64 := gb ps[k] (List.getElem_mem hk)
  have hpl : (ps[k].map encB).length = 64 := by simpa using h64
  have hgp : ps.getD k [] = ps[k] := by simp [List.getD, hk]
  have htn : ((a : Int) + (n : Int)).toNat - a = n := by omega
  have hwr : IntKind.i64.wrap ((a : Int) + (n : Int)) = (a : Int) + n := wrap_i64 (by omega) (by omega)
  have hs1 : List.take (((a : Int) + (n : Int)).toNat - a) (List.drop a (ps[k].map encB)) = ((ps[k].drop a).take n).map encB := by rw [htn, List.map_take, List.map_drop]
  refine awp_skip ?_
  try refine hK _ ?_
  repeat (first | refine awp_seq ?_ | refine awp_block ?_ | refine awp_skip ?_ | refine awp_scope ?_ | refine awp_label ?_)
  refine awp_region tabOk fun K hK => ?_
  simp -dsimp -implicitDefEqProofs only [hk, getD_map, encP, Int.toNat_natCast, hwr, hs1, push_cast, ↓trAdd_f, ↓stOf_f, seval]
  refine ⟨⟨by omega, by omega⟩, ⟨by omega, by omega, by omega⟩, ?_⟩
  refine callK_simple (cloneB_ok ((ps[k].drop a).take n) (by rw [List.length_take, List.length_drop]; omega)) ?_ rfl fun _ => ?_
  · simp -dsimp -implicitDefEqProofs only [push_cast, List.mem_append, List.mem_cons, List.mem_singleton, forall_eq_or_imp, forall_eq, ↓trAdd_f, ↓stOf_f, seval]
  simp -dsimp -implicitDefEqProofs only [push_cast, ↓trAdd_f, ↓stOf_f, seval]
  refine hK _ (awp_ret ?_)
  simp -dsimp -implicitDefEqProofs only [readF, encFlash, h', Int.toNat_natCast, hgp, push_cast, List.mem_append, List.mem_cons, List.mem_singleton, forall_eq_or_imp, forall_eq, ↓trAdd_f, ↓stOf_f, seval]

def newF (n : Nat) : Flash := { pages := List.replicate n clean64, wear := List.replicate n 0, left := -1, down := false }
theorem rep_succ {α : Type} (n : Nat) (x : α) : List.replicate n x ++ [x] = List.replicate (n + 1) x := by rw [List.replicate_succ']
theorem pagesN_ren (n : Nat) (r : Nat → Nat) : (List.replicate n (encP clean64)).map (renL r) = List.replicate n (encP clean64) := map_ren_fz _ (fun e he c hc => by rw [(List.mem_replicate.1 he).2] at hc; exact encP_fz _ c hc) r
theorem pagesN_okl (n : Nat) (S : Nat → Prop) : (∀ e ∈ List.replicate n (encP clean64), okL S e) = True := all_ok_fz _ (fun e he c hc => by rw [(List.mem_replicate.1 he).2] at hc; exact encP_fz _ c hc) S
theorem pagesN_fz (n : Nat) : (∀ e ∈ List.replicate n (encP clean64), ∀ c ∈ e, c.fz = true) = True := eq_true fun e he c hc => by rw [(List.mem_replicate.1 he).2] at hc; exact encP_fz _ c hc
theorem zerosN_ren (n : Nat) (r : Nat → Nat) : (List.replicate n [PV.int .i64 0]).map (renL r) = List.replicate n [PV.int .i64 0] := map_ren_fz _ (fun e he c hc => by rw [(List.mem_replicate.1 he).2] at hc; exact encI_fz 0 c hc) r
theorem zerosN_okl (n : Nat) (S : Nat → Prop) : (∀ e ∈ List.replicate n [PV.int .i64 0], okL S e) = True := all_ok_fz _ (fun e he c hc => by rw [(List.mem_replicate.1 he).2] at hc; exact encI_fz 0 c hc) S
theorem zerosN_fz (n : Nat) : (∀ e ∈ List.replicate n [PV.int .i64 0], ∀ c ∈ e, c.fz = true) = True := eq_true fun e he c hc => by rw [(List.mem_replicate.1 he).2] at hc; exact encI_fz 0 c hc
theorem new_ok (n : Nat) (hn : n ≤ 80) : FnS Try.prog 24 [.int .i64 n] [] (.agg (encFlash (newF n))) [] := by
  refine fn_walk tabOk Try.func24 rfl (by decide +kernel) Try.ntmps24 Try.results24 (by simp) fun B hB => ?_
  try refine hK _ ?_
  repeat (first | refine awp_seq ?_ | refine awp_block ?_ | refine awp_skip ?_ | refine awp_scope ?_ | refine awp_label ?_)
  refine awp_region tabOk fun K hK => ?_
  simp -dsimp -implicitDefEqProofs only [push_cast, ↓trAdd_f, ↓stOf_f, seval]
  try refine hK _ ?_
  repeat (first | refine awp_seq ?_ | refine awp_block ?_ | refine awp_skip ?_ | refine awp_scope ?_ | refine awp_label ?_)
  refine awp_region tabOk fun K hK => ?_
  simp -dsimp -implicitDefEqProofs only [Int.toNat_natCast, push_cast, ↓trAdd_f, ↓stOf_f, seval]
  refine ⟨⟨by omega, by omega⟩, hK _ ?_⟩
  try refine hK _ ?_
  repeat (first | refine awp_seq ?_ | refine awp_block ?_ | refine awp_skip ?_ | refine awp_scope ?_ | refine awp_label ?_)
  refine awp_region tabOk fun K hK => ?_
  simp -dsimp -implicitDefEqProofs only [push_cast, ↓trAdd_f, ↓stOf_f, seval]
  refine hK _ (awp_le (le_nil1 _ 1) (awp_block ?_))
  refine awp_for (fun i : Nat => { sl := [(2, .ptr 0 0), (3, .ptr 32 0), (7, .int .i64 n), (8, .int .i64 i)], st := [(0, .box [.sl true 1 [], .sl true 1 [], .int .i64 0, .bool false]), (16, .row 1 (List.replicate n [.int .i64 0])), (32, .box [.own 64 1 0 i, .own 16 1 0 n, .int .i64 (-1), .bool false]), (64, .row 1 (List.replicate i (encP clean64)))], nx := 65, n := 18 }) (fun i => i ≤ n) (fun i => n - i) 0 (Nat.zero_le _) ?_ fun i hi => ?_
  · simp only [ins]
    refine le_intro hB [] (by simp) (fun b _ => rfl) rfl ?_ ?_ rfl <;> simp -dsimp -implicitDefEqProofs only [zerosN_ren, zerosN_okl, List.replicate_zero, push_cast, ↓trAdd_f, ↓stOf_f, seval]
  try refine hK _ ?_
  repeat (first | refine awp_seq ?_ | refine awp_block ?_ | refine awp_skip ?_ | refine awp_scope ?_ | refine awp_label ?_)
  refine awp_region tabOk fun K hK => ?_
  simp -dsimp -implicitDefEqProofs only [push_cast, ↓trAdd_f, ↓stOf_f, seval]
  try refine hK _ ?_
  repeat (first | refine awp_seq ?_ | refine awp_block ?_ | refine awp_skip ?_ | refine awp_scope ?_ | refine awp_label ?_)
  refine awp_cond (b := decide ((i : Int) < n)) (by simp -dsimp -implicitDefEqProofs only [push_cast, ↓trAdd_f, ↓stOf_f, seval]) (fun h => ?_) (fun h => ?_)
  · have hlt : i < n := by simpa using h
    have hlen : (List.replicate i (encP clean64)).length = i := by simp
    have htk : (List.replicate i (encP clean64)).take i = List.replicate i (encP clean64) := by simp
    have hsc : List.replicate i (encP clean64) ++ [[.sl false 1 (clean64.map encB)]] = List.replicate (i + 1) (encP clean64) := rep_succ i (encP clean64)
    refine awp_skip ?_
    try refine hK _ ?_
    repeat (first | refine awp_seq ?_ | refine awp_block ?_ | refine awp_skip ?_ | refine awp_scope ?_ | refine awp_label ?_)
    refine awp_draw tabOk (by kernel_rfl) (by kernel_rfl) fun K hK C hC => ?_
    simp -dsimp -implicitDefEqProofs only [push_cast, ↓trAdd_f, ↓stOf_f, seval]
    refine callK_simple clean_ok ?_ rfl fun _ => ?_
    · simp -dsimp -implicitDefEqProofs only [push_cast, List.mem_append, List.mem_cons, List.mem_singleton, forall_eq_or_imp, forall_eq, ↓trAdd_f, ↓stOf_f, seval]
    simp -dsimp -implicitDefEqProofs only [hlen, htk, hsc, push_cast, ↓trAdd_f, ↓stOf_f, seval]
    refine ⟨⟨by omega, by omega⟩, hC _ (by kernel_rfl), hK _ ?_⟩
    try refine hK _ ?_
    repeat (first | refine awp_seq ?_ | refine awp_block ?_ | refine awp_skip ?_ | refine awp_scope ?_ | refine awp_label ?_)
    refine awp_region tabOk fun K hK => ?_
    simp -dsimp -implicitDefEqProofs only [push_cast, ↓trAdd_f, ↓stOf_f, seval]
    try simp (disch := omega) only [wrap_i64, wrap_u8, wrap_u16, wrap_u32]
    refine hK _ ⟨i + 1, hlt, by omega, ?_⟩
    refine le_intro hB [(64, 105)] (by simp) (fun b hb => absurd hb (Nat.not_lt_zero b)) rfl ?_ ?_ rfl <;> simp -dsimp -implicitDefEqProofs only [zerosN_ren, zerosN_okl, pagesN_ren, pagesN_okl, push_cast, ↓trAdd_f, ↓stOf_f, seval]
  have he : i = n := by simp at h; omega
  subst he
  refine awp_exit rfl ?_
  try refine hK _ ?_
  repeat (first | refine awp_seq ?_ | refine awp_block ?_ | refine awp_skip ?_ | refine awp_scope ?_ | refine awp_label ?_)
  refine awp_region tabOk fun K hK => ?_
  simp -dsimp -implicitDefEqProofs only [push_cast, ↓trAdd_f, ↓stOf_f, seval]
  refine hK _ (awp_ret ?_)
  have e1 : (List.replicate i (encP clean64)).take i = List.replicate i (encP clean64) := by simp
  have e2 : (List.replicate i [PV.int .i64 0]).take i = List.replicate i [PV.int .i64 0] := by simp
  have e3 : (List.replicate i clean64).map encP = List.replicate i (encP clean64) := by simp
  have e4 : (List.replicate i (0 : Int)).map encI = List.replicate i [PV.int .i64 0] := by simp [encI]
  simp -dsimp -implicitDefEqProofs only [newF, encFlash, pagesN_fz, zerosN_fz, e1, e2, e3, e4, List.length_replicate, Nat.le_refl, push_cast, List.mem_append, List.mem_cons, List.mem_singleton, forall_eq_or_imp, forall_eq, ↓trAdd_f, ↓stOf_f, seval]
end Go.Proofs.YtihippjbbcpggaaFw

/-
  Walks: the document's erased, put, deed.
-/
namespace Go.Proofs.YtihippjbbcpggaaFw
open Go Go.Proofs
set_option maxRecDepth 100000
set_option maxHeartbeats 4000000
set_option linter.unusedVariables false
set_option linter.unusedSimpArgs false

theorem ffs_ren (n : Nat) (r : Nat → Nat) : (ffs n).map (renL r) = ffs n := ren_ffs n r
theorem ffs_succ (n : Nat) : ffs n ++ [[.int .u8 255]] = ffs (n + 1) := by unfold ffs; rw [List.replicate_succ']
theorem erased_ok (t : Bool) : FnS Try.prog 43 [.sl t 1 []] [] (.sl false 1 (clean64.map encB)) [] := by
  rw [clean64_map]
  refine fn_walk tabOk Try.func43 rfl (by decide +kernel) Try.ntmps43 Try.results43 (by simp) fun B hB => ?_
  try refine hK _ ?_
  repeat (first | refine awp_seq ?_ | refine awp_block ?_ | refine awp_skip ?_ | refine awp_scope ?_ | refine awp_label ?_)
  refine awp_region tabOk fun K hK => ?_
  simp -dsimp -implicitDefEqProofs only [push_cast, ↓trAdd_f, ↓stOf_f, seval]
  try refine hK _ ?_
  repeat (first | refine awp_seq ?_ | refine awp_block ?_ | refine awp_skip ?_ | refine awp_scope ?_ | refine awp_label ?_)
  refine awp_region tabOk fun K hK => ?_
  simp -dsimp -implicitDefEqProofs only [push_cast, ↓trAdd_f, ↓stOf_f, seval]
  refine hK _ (awp_seq (awp_block ?_))
  refine awp_for (fun i : Nat => { sl := [(3, .own 24 1 0 i)], st := [(24, .row 1 (ffs i))], nx := 40, n := 14 }) (fun i => i ≤ 64) (fun i => 64 - i) 0 (Nat.zero_le _) ?_ fun i hi => ?_
  · have e0 : ffs 0 = [] := rfl
    refine le_intro hB [] (by simp) (fun b _ => rfl) rfl ?_ ?_ rfl <;> simp -dsimp -implicitDefEqProofs only [e0, push_cast, ↓trAdd_f, ↓stOf_f, seval]
  have hl := ffs_len i
  have htk : (ffs i).take i = ffs i := List.take_of_length_le (by rw [ffs_len]; omega)
  have hsc := ffs_succ i
  try refine hK _ ?_
  repeat (first | refine awp_seq ?_ | refine awp_block ?_ | refine awp_skip ?_ | refine awp_scope ?_ | refine awp_label ?_)
  refine awp_region tabOk fun K hK => ?_
  simp -dsimp -implicitDefEqProofs only [push_cast, ↓trAdd_f, ↓stOf_f, seval]
  try refine hK _ ?_
  repeat (first | refine awp_seq ?_ | refine awp_block ?_ | refine awp_skip ?_ | refine awp_scope ?_ | refine awp_label ?_)
  refine awp_cond (b := decide ((i : Int) < 64)) (by simp -dsimp -implicitDefEqProofs only [push_cast, ↓trAdd_f, ↓stOf_f, seval]) (fun h => ?_) (fun h => ?_)
  · have hlt : i < 64 := by simp at h; omega
    refine awp_skip ?_
    try refine hK _ ?_
    repeat (first | refine awp_seq ?_ | refine awp_block ?_ | refine awp_skip ?_ | refine awp_scope ?_ | refine awp_label ?_)
    refine awp_region tabOk fun K hK => ?_
    simp -dsimp -implicitDefEqProofs only [hl, htk, hsc, push_cast, ↓trAdd_f, ↓stOf_f, seval]
    refine ⟨⟨by omega, by omega⟩, hK _ ⟨i + 1, hlt, by omega, ?_⟩⟩
    refine le_intro hB [(24, 80)] (by simp) (fun b hb => absurd hb (Nat.not_lt_zero b)) rfl ?_ ?_ rfl <;> simp -dsimp -implicitDefEqProofs only [ren_ffs, ok_ffs, push_cast, ↓trAdd_f, ↓stOf_f, seval]
  have he : i = 64 := by simp at h; omega
  subst he
  refine awp_exit rfl ?_
  try refine hK _ ?_
  repeat (first | refine awp_seq ?_ | refine awp_block ?_ | refine awp_skip ?_ | refine awp_scope ?_ | refine awp_label ?_)
  refine awp_region tabOk fun K hK => ?_
  simp -dsimp -implicitDefEqProofs only [push_cast, ↓trAdd_f, ↓stOf_f, seval]
  refine hK _ (awp_ret ?_)
  have f1 : (∀ e ∈ ffs 64, ∀ c ∈ e, c.fz = true) = True := eq_true fun e he c hc => by rw [(List.mem_replicate.1 he).2] at hc; simp at hc; subst hc; rfl
  generalize ffs 64 = q at *
  simp -dsimp -implicitDefEqProofs only [f1, hl, htk, push_cast, List.mem_append, List.mem_cons, List.mem_singleton, forall_eq_or_imp, forall_eq, ↓trAdd_f, ↓stOf_f, seval]
theorem set_encP (ps : List (List Int)) (k : Nat) (b : List Int) : (ps.map encP).set k [.sl false 1 (b.map encB)] = (ps.set k b).map encP := by rw [List.map_set]; rfl
theorem put_ok (f : Flash) (k : Nat) (b : List Int) (hk : k < f.pages.length) (hl : f.pages.length ≤ 80) :
    FnS Try.prog 42 [.agg (encFlash f), .int .i64 k, .sl false 1 (b.map encB)] [] (.agg (encFlash { f with pages := f.pages.set k b })) [] := by
  have hset := set_encP f.pages k b
  have hg : (f.pages.map encP).getD k [] = encP f.pages[k] := getD_map encP f.pages k hk
  refine fn_walk tabOk Try.func42 rfl (by decide +kernel) Try.ntmps42 Try.results42 (by simp) fun B hB => ?_
  try refine hK _ ?_
  repeat (first | refine awp_seq ?_ | refine awp_block ?_ | refine awp_skip ?_ | refine awp_scope ?_ | refine awp_label ?_)
  refine awp_region tabOk fun K hK => ?_
  simp -dsimp -implicitDefEqProofs only [encFlash, push_cast, ↓trAdd_f, ↓stOf_f, seval]
  try refine hK _ ?_
  repeat (first | refine awp_seq ?_ | refine awp_block ?_ | refine awp_skip ?_ | refine awp_scope ?_ | refine awp_label ?_)
  refine awp_region tabOk fun K hK => ?_
  simp -dsimp -implicitDefEqProofs only [push_cast, ↓trAdd_f, ↓stOf_f, seval]
  refine ⟨⟨by omega, by omega⟩, hK _ ?_⟩
  try refine hK _ ?_
  repeat (first | refine awp_seq ?_ | refine awp_block ?_ | refine awp_skip ?_ | refine awp_scope ?_ | refine awp_label ?_)
  refine awp_region tabOk fun K hK => ?_
  simp -dsimp -implicitDefEqProofs only [hg, encP, push_cast, ↓trAdd_f, ↓stOf_f, seval]
  refine ⟨⟨by omega, by omega⟩, by simpa using hk, hK _ ?_⟩
  rw [hset]
  try refine hK _ ?_
  repeat (first | refine awp_seq ?_ | refine awp_block ?_ | refine awp_skip ?_ | refine awp_scope ?_ | refine awp_label ?_)
  refine awp_region tabOk fun K hK => ?_
  simp -dsimp -implicitDefEqProofs only [push_cast, ↓trAdd_f, ↓stOf_f, seval]
  try refine hK _ ?_
  repeat (first | refine awp_seq ?_ | refine awp_block ?_ | refine awp_skip ?_ | refine awp_scope ?_ | refine awp_label ?_)
  refine awp_region tabOk fun K hK => ?_
  simp -dsimp -implicitDefEqProofs only [push_cast, ↓trAdd_f, ↓stOf_f, seval]
  refine hK _ (awp_ret ?_)
  have htk : ((f.pages.set k b).map encP).take f.pages.length = (f.pages.set k b).map encP := List.take_of_length_le (by simp)
  simp -dsimp -implicitDefEqProofs only [encFlash, pages_fz, htk, List.length_set, Nat.le_refl, push_cast, List.mem_append, List.mem_cons, List.mem_singleton, forall_eq_or_imp, forall_eq, ↓trAdd_f, ↓stOf_f, seval]
def deedF (f : Flash) : Flash := if f.left = 0 then { f with down := true } else { f with left := decL f.left }
theorem deed_ok (f : Flash) (hI : -1 ≤ f.left ∧ f.left ≤ 9223372036854775807) :
    FnS Try.prog 41 [.agg (encFlash f)] [] (.tup [.agg (encFlash (deedF f)), .bool (f.left != 0)]) [] := by
  obtain ⟨ps, w, left, down⟩ := f
  simp only at hI
  refine fn_walk tabOk Try.func41 rfl (by decide +kernel) Try.ntmps41 Try.results41 (by simp) fun B hB => ?_
  try refine hK _ ?_
  repeat (first | refine awp_seq ?_ | refine awp_block ?_ | refine awp_skip ?_ | refine awp_scope ?_ | refine awp_label ?_)
  refine awp_region tabOk fun K hK => ?_
  simp -dsimp -implicitDefEqProofs only [encFlash, push_cast, ↓trAdd_f, ↓stOf_f, seval]
  try refine hK _ ?_
  repeat (first | refine awp_seq ?_ | refine awp_block ?_ | refine awp_skip ?_ | refine awp_scope ?_ | refine awp_label ?_)
  refine awp_region tabOk fun K hK => ?_
  simp -dsimp -implicitDefEqProofs only [push_cast, ↓trAdd_f, ↓stOf_f, seval]
  try refine hK _ ?_
  repeat (first | refine awp_seq ?_ | refine awp_block ?_ | refine awp_skip ?_ | refine awp_scope ?_ | refine awp_label ?_)
  refine awp_cond (b := left == 0) (by simp -dsimp -implicitDefEqProofs only [push_cast, ↓trAdd_f, ↓stOf_f, seval]) (fun h => ?_) (fun h => ?_)
  · have h0 : left = 0 := by simpa using h
    subst h0
    try refine hK _ ?_
    repeat (first | refine awp_seq ?_ | refine awp_block ?_ | refine awp_skip ?_ | refine awp_scope ?_ | refine awp_label ?_)
    refine awp_region tabOk fun K hK => ?_
    simp -dsimp -implicitDefEqProofs only [push_cast, ↓trAdd_f, ↓stOf_f, seval]
    try refine hK _ ?_
    repeat (first | refine awp_seq ?_ | refine awp_block ?_ | refine awp_skip ?_ | refine awp_scope ?_ | refine awp_label ?_)
    refine awp_region tabOk fun K hK => ?_
    simp -dsimp -implicitDefEqProofs only [push_cast, ↓trAdd_f, ↓stOf_f, seval]
    refine hK _ (awp_ret ?_)
    simp -dsimp -implicitDefEqProofs only [deedF, encFlash, push_cast, List.mem_append, List.mem_cons, List.mem_singleton, forall_eq_or_imp, forall_eq, ↓trAdd_f, ↓stOf_f, seval]
  have h0 : left ≠ 0 := by simpa using h
  have hne : (left != 0) = true := by simpa using h0
  refine awp_skip ?_
  try refine hK _ ?_
  repeat (first | refine awp_seq ?_ | refine awp_block ?_ | refine awp_skip ?_ | refine awp_scope ?_ | refine awp_label ?_)
  refine awp_region tabOk fun K hK => ?_
  simp -dsimp -implicitDefEqProofs only [push_cast, ↓trAdd_f, ↓stOf_f, seval]
  try refine hK _ ?_
  repeat (first | refine awp_seq ?_ | refine awp_block ?_ | refine awp_skip ?_ | refine awp_scope ?_ | refine awp_label ?_)
  refine awp_cond (b := decide (0 < left)) (by simp -dsimp -implicitDefEqProofs only [push_cast, ↓trAdd_f, ↓stOf_f, seval]) (fun h => ?_) (fun h => ?_)
  · have hp : 0 < left := by simpa using h
    have hd : decL left = left - 1 := if_pos hp
    try refine hK _ ?_
    repeat (first | refine awp_seq ?_ | refine awp_block ?_ | refine awp_skip ?_ | refine awp_scope ?_ | refine awp_label ?_)
    refine awp_region tabOk fun K hK => ?_
    simp -dsimp -implicitDefEqProofs only [push_cast, ↓trAdd_f, ↓stOf_f, seval]
    try simp (disch := omega) only [wrap_i64, wrap_u8, wrap_u16, wrap_u32]
    try refine hK _ ?_
    repeat (first | refine awp_seq ?_ | refine awp_block ?_ | refine awp_skip ?_ | refine awp_scope ?_ | refine awp_label ?_)
    refine awp_region tabOk fun K hK => ?_
    simp -dsimp -implicitDefEqProofs only [push_cast, ↓trAdd_f, ↓stOf_f, seval]
    refine hK _ (awp_ret ?_)
    simp -dsimp -implicitDefEqProofs only [deedF, encFlash, hd, h0, hne, push_cast, List.mem_append, List.mem_cons, List.mem_singleton, forall_eq_or_imp, forall_eq, ↓trAdd_f, ↓stOf_f, seval]
  have hp : ¬ 0 < left := by simpa using h
  have hd : decL left = left := if_neg hp
  refine awp_skip ?_
  try refine hK _ ?_
  repeat (first | refine awp_seq ?_ | refine awp_block ?_ | refine awp_skip ?_ | refine awp_scope ?_ | refine awp_label ?_)
  refine awp_region tabOk fun K hK => ?_
  simp -dsimp -implicitDefEqProofs only [push_cast, ↓trAdd_f, ↓stOf_f, seval]
  refine hK _ (awp_ret ?_)
  simp -dsimp -implicitDefEqProofs only [deedF, encFlash, hd, h0, hne, push_cast, List.mem_append, List.mem_cons, List.mem_singleton, forall_eq_or_imp, forall_eq, ↓trAdd_f, ↓stOf_f, seval]
end Go.Proofs.YtihippjbbcpggaaFw

/-
  Walks: the document's Erase, Read, New.
-/
namespace Go.Proofs.YtihippjbbcpggaaFw
open Go Go.Proofs
set_option maxRecDepth 100000
set_option maxHeartbeats 4000000
set_option linter.unusedVariables false
set_option linter.unusedSimpArgs false

theorem eraseRef_ok (f : Flash) (page : Int) (hg : f.good) (hI : f.left ≤ 9223372036854775807) :
    FnS Try.prog 16 [.agg (encFlash f), .int .i64 page] [] (.tup [.agg (encFlash (eraseF f page).1), .int .i64 (eraseF f page).2]) [] := by
  obtain ⟨ps, w, left, down⟩ := f
  obtain ⟨n1, n80, wl, gl, gd, gw, gb⟩ := hg
  simp only at n1 n80 wl gl gd gw gb hI
  refine fn_walk tabOk Try.func16 rfl (by decide +kernel) Try.ntmps16 Try.results16 (by simp) fun B hB => ?_
  try refine hK _ ?_
  repeat (first | refine awp_seq ?_ | refine awp_block ?_ | refine awp_skip ?_ | refine awp_scope ?_ | refine awp_label ?_)
  refine awp_region tabOk fun K hK => ?_
  simp -dsimp -implicitDefEqProofs only [encFlash, push_cast, ↓trAdd_f, ↓stOf_f, seval]
  try refine hK _ ?_
  repeat (first | refine awp_seq ?_ | refine awp_block ?_ | refine awp_skip ?_ | refine awp_scope ?_ | refine awp_label ?_)
  refine awp_region tabOk fun K hK => ?_
  simp -dsimp -implicitDefEqProofs only [push_cast, ↓trAdd_f, ↓stOf_f, seval]
  try refine hK _ ?_
  repeat (first | refine awp_seq ?_ | refine awp_block ?_ | refine awp_skip ?_ | refine awp_scope ?_ | refine awp_label ?_)
  refine awp_cond (b := down) (by simp -dsimp -implicitDefEqProofs only [push_cast, ↓trAdd_f, ↓stOf_f, seval]) (fun h => ?_) (fun h => ?_)
  · subst h
    try refine hK _ ?_
    repeat (first | refine awp_seq ?_ | refine awp_block ?_ | refine awp_skip ?_ | refine awp_scope ?_ | refine awp_label ?_)
    refine awp_region tabOk fun K hK => ?_
    simp -dsimp -implicitDefEqProofs only [push_cast, ↓trAdd_f, ↓stOf_f, seval]
    refine hK _ (awp_ret ?_)
    simp -dsimp -implicitDefEqProofs only [eraseF, encFlash, push_cast, List.mem_append, List.mem_cons, List.mem_singleton, forall_eq_or_imp, forall_eq, ↓trAdd_f, ↓stOf_f, seval]
  subst h
  refine awp_skip ?_
  have hout : ∀ b, (decide (page < 0) || decide ((ps.length : Int) ≤ page)) = b → inF ⟨ps, w, left, false⟩ page 0 0 = !b := by
    rintro b rfl
    cases hq : inF ⟨ps, w, left, false⟩ page 0 0 with
    | true => have := (inF_iff _ _ _ _).1 hq; simp at this ⊢; omega
    | false =>
      have : ¬ _ := fun h => Bool.false_ne_true (hq.symm.trans ((inF_iff ⟨ps, w, left, false⟩ page 0 0).2 h))
      simp at this ⊢; omega
  try refine hK _ ?_
  repeat (first | refine awp_seq ?_ | refine awp_block ?_ | refine awp_skip ?_ | refine awp_scope ?_ | refine awp_label ?_)
  refine awp_join ({ sl := [(1, .int .i64 page), (2, .ptr 0 0), (4, .ptr 8 0), (20, .bool (decide (page < 0) || decide ((ps.length : Int) ≤ page)))], st := [(0, .box (encFlash ⟨ps, w, left, false⟩)), (8, .box [.sl true 1 [], .sl true 1 [], .int .i64 0, .bool false])], nx := 16, n := 63 }) ?_ (fun _ hl h => awp_le hl h) ?_
  · try refine hK _ ?_
    repeat (first | refine awp_seq ?_ | refine awp_block ?_ | refine awp_skip ?_ | refine awp_scope ?_ | refine awp_label ?_)
    refine awp_region tabOk fun K hK => ?_
    simp -dsimp -implicitDefEqProofs only [push_cast, ↓trAdd_f, ↓stOf_f, seval]
    refine guardK_f (fun h => ?_) (fun h => ?_) <;> simp -dsimp -implicitDefEqProofs only [h, push_cast, ↓trAdd_f, ↓stOf_f, seval]
    all_goals
      refine hK _ ?_
      refine le_intro hB [] (by simp) (fun b _ => rfl) rfl ?_ ?_ rfl <;> simp -dsimp -implicitDefEqProofs only [encFlash, Bool.true_or, Bool.false_or, *, push_cast, ↓trAdd_f, ↓stOf_f, seval]
  simp only [encFlash]
  try refine hK _ ?_
  repeat (first | refine awp_seq ?_ | refine awp_block ?_ | refine awp_skip ?_ | refine awp_scope ?_ | refine awp_label ?_)
  refine awp_cond (b := (decide (page < 0) || decide ((ps.length : Int) ≤ page))) (by simp -dsimp -implicitDefEqProofs only [push_cast, ↓trAdd_f, ↓stOf_f, seval]) (fun h => ?_) (fun h => ?_)
  · have h' := hout _ h
    try refine hK _ ?_
    repeat (first | refine awp_seq ?_ | refine awp_block ?_ | refine awp_skip ?_ | refine awp_scope ?_ | refine awp_label ?_)
    refine awp_region tabOk fun K hK => ?_
    simp -dsimp -implicitDefEqProofs only [push_cast, ↓trAdd_f, ↓stOf_f, seval]
    refine hK _ (awp_ret ?_)
    simp -dsimp -implicitDefEqProofs only [eraseF, encFlash, h', push_cast, List.mem_append, List.mem_cons, List.mem_singleton, forall_eq_or_imp, forall_eq, ↓trAdd_f, ↓stOf_f, seval]
  have h' := hout _ h
  rw [Bool.not_false] at h'
  obtain ⟨⟨p0, p1⟩, _⟩ := (inF_iff _ _ _ _).1 h'
  obtain ⟨k, rfl⟩ := Int.eq_ofNat_of_zero_le p0
  have hk : k < ps.length := by simpa using p1
  have hw : k < w.length := by omega
  have h64 := gb ps[k] (List.getElem_mem hk)
  have hv := gw w[k] (List.getElem_mem hw)
  have hgp : ps.getD k [] = ps[k] := by simp [List.getD, hk]
  have hgw : w.getD k 0 = w[k] := by simp [List.getD, hw]
  refine awp_skip ?_
  try refine hK _ ?_
  repeat (first | refine awp_seq ?_ | refine awp_block ?_ | refine awp_skip ?_ | refine awp_scope ?_ | refine awp_label ?_)
  refine awp_region tabOk fun K hK => ?_
  simp -dsimp -implicitDefEqProofs only [hk, getD_map, encP, push_cast, ↓trAdd_f, ↓stOf_f, seval]
  refine ⟨⟨by omega, by omega⟩, hK _ ?_⟩
  try refine hK _ ?_
  repeat (first | refine awp_seq ?_ | refine awp_block ?_ | refine awp_skip ?_ | refine awp_scope ?_ | refine awp_label ?_)
  refine awp_region tabOk fun K hK => ?_
  simp -dsimp -implicitDefEqProofs only [push_cast, ↓trAdd_f, ↓stOf_f, seval]
  refine callK_simple (deed_ok ⟨ps, w, left, false⟩ ⟨gl, hI⟩) ?_ rfl fun _ => ?_
  · simp -dsimp -implicitDefEqProofs only [encFlash, push_cast, List.mem_append, List.mem_cons, List.mem_singleton, forall_eq_or_imp, forall_eq, ↓trAdd_f, ↓stOf_f, seval]
  by_cases h0 : left = 0
  · subst h0
    have hd : deedF ⟨ps, w, 0, false⟩ = ⟨ps, w, 0, true⟩ := rfl
    have hb : ((0 : Int) != 0) = false := rfl
    rw [hd, hb]
    simp -dsimp -implicitDefEqProofs only [encFlash, push_cast, ↓trAdd_f, ↓stOf_f, seval]
    refine hK _ ?_
    try refine hK _ ?_
    repeat (first | refine awp_seq ?_ | refine awp_block ?_ | refine awp_skip ?_ | refine awp_scope ?_ | refine awp_label ?_)
    refine awp_region tabOk fun K hK => ?_
    simp -dsimp -implicitDefEqProofs only [push_cast, ↓trAdd_f, ↓stOf_f, seval]
    try refine hK _ ?_
    repeat (first | refine awp_seq ?_ | refine awp_block ?_ | refine awp_skip ?_ | refine awp_scope ?_ | refine awp_label ?_)
    refine awp_cond (b := true) (by simp -dsimp -implicitDefEqProofs only [push_cast, ↓trAdd_f, ↓stOf_f, seval]) (fun h => ?_) (fun h => ?_)
    rotate_left
    · cases h
    have htp : (clean64.map encB).take 32 ++ (ps[k].map encB).drop 32 = (tornP ps[k]).map encB := by simp [tornP]
    have hcl : (clean64.map encB).length = 64 := by simp [clean64]
    try refine hK _ ?_
    repeat (first | refine awp_seq ?_ | refine awp_block ?_ | refine awp_skip ?_ | refine awp_scope ?_ | refine awp_label ?_)
    refine awp_draw tabOk (by kernel_rfl) (by kernel_rfl) fun K hK C hC => ?_
    simp -dsimp -implicitDefEqProofs only [push_cast, ↓trAdd_f, ↓stOf_f, seval]
    refine callK_simple (erased_ok true) ?_ rfl fun _ => ?_
    · simp -dsimp -implicitDefEqProofs only [push_cast, List.mem_append, List.mem_cons, List.mem_singleton, forall_eq_or_imp, forall_eq, ↓trAdd_f, ↓stOf_f, seval]
    have hc32 : (List.take 32 (clean64.map encB)).length = 32 := by simp [clean64]
    have hA : List.take 32 (List.take 32 (clean64.map encB)) = List.take 32 (clean64.map encB) := List.take_of_length_le (by omega)
    have hd32 : (List.drop 32 (ps[k].map encB)).length = 32 := by simp [h64]
    have hB : List.take 32 (List.drop 32 (ps[k].map encB)) = List.drop 32 (ps[k].map encB) := List.take_of_length_le (by omega)
    simp -dsimp -implicitDefEqProofs only [hcl, hc32, hA, hB, hd32, h64, htp, push_cast, ↓trAdd_f, ↓stOf_f, seval]
    have ht : (tornP ps[k]).length = 64 := by simp [tornP, clean64, h64]
    have htt : ((tornP ps[k]).map encB).take 64 = (tornP ps[k]).map encB := List.take_of_length_le (by simp [ht])
    refine callK_simple (put_ok ⟨ps, w, 0, true⟩ k (tornP ps[k]) hk n80) ?_ rfl fun _ => ?_
    · simp -dsimp -implicitDefEqProofs only [encFlash, htt, ht, bytes_fz, List.length_map, Nat.le_refl, push_cast, List.mem_append, List.mem_cons, List.mem_singleton, forall_eq_or_imp, forall_eq, ↓trAdd_f, ↓stOf_f, seval]
    simp -dsimp -implicitDefEqProofs only [encFlash, push_cast, ↓trAdd_f, ↓stOf_f, seval]
    refine ⟨hC _ (by kernel_rfl), hK _ (awp_ret ?_)⟩
    have hE : eraseF ⟨ps, w, 0, false⟩ k = ({ pages := ps.set k (tornP ps[k]), wear := w, left := 0, down := true }, 250) := by
      simp only [eraseF, h', Int.toNat_natCast, hgp, if_false, if_true, Bool.false_eq_true, Bool.true_eq_false]
    simp -dsimp -implicitDefEqProofs only [hE, encFlash, push_cast, List.mem_append, List.mem_cons, List.mem_singleton, forall_eq_or_imp, forall_eq, ↓trAdd_f, ↓stOf_f, seval]
  · have hd : deedF ⟨ps, w, left, false⟩ = ⟨ps, w, decL left, false⟩ := by unfold deedF; rw [if_neg h0]
    have hb : (left != 0) = true := by simpa using h0
    rw [hd, hb]
    have hset := set_encI w k (min (w[k] + 1) 1099511627776)
    simp -dsimp -implicitDefEqProofs only [encFlash, push_cast, ↓trAdd_f, ↓stOf_f, seval]
    refine hK _ ?_
    try refine hK _ ?_
    repeat (first | refine awp_seq ?_ | refine awp_block ?_ | refine awp_skip ?_ | refine awp_scope ?_ | refine awp_label ?_)
    refine awp_region tabOk fun K hK => ?_
    simp -dsimp -implicitDefEqProofs only [push_cast, ↓trAdd_f, ↓stOf_f, seval]
    try refine hK _ ?_
    repeat (first | refine awp_seq ?_ | refine awp_block ?_ | refine awp_skip ?_ | refine awp_scope ?_ | refine awp_label ?_)
    refine awp_cond (b := false) (by simp -dsimp -implicitDefEqProofs only [push_cast, ↓trAdd_f, ↓stOf_f, seval]) (fun h => ?_) (fun h => ?_)
    · cases h
    refine awp_skip ?_
    try refine hK _ ?_
    repeat (first | refine awp_seq ?_ | refine awp_block ?_ | refine awp_skip ?_ | refine awp_scope ?_ | refine awp_label ?_)
    refine awp_region tabOk fun K hK => ?_
    simp -dsimp -implicitDefEqProofs only [push_cast, ↓trAdd_f, ↓stOf_f, seval]
    have hwt : (w.map encI).take w.length = w.map encI := List.take_of_length_le (by simp)
    refine ⟨⟨by omega, by omega⟩, hK _ ?_⟩
    try refine hK _ ?_
    repeat (first | refine awp_seq ?_ | refine awp_block ?_ | refine awp_skip ?_ | refine awp_scope ?_ | refine awp_label ?_)
    refine awp_region tabOk fun K hK => ?_
    simp -dsimp -implicitDefEqProofs only [hw, getD_map, encI, hset, push_cast, ↓trAdd_f, ↓stOf_f, seval]
    try simp (disch := omega) only [wrap_i64, wrap_u8, wrap_u16, wrap_u32]
    refine ⟨⟨by omega, by omega⟩, ⟨by omega, by omega⟩, hK _ ?_⟩
    have hwr : IntKind.i64.wrap (w[k] + 1) = w[k] + 1 := wrap_i64 (by omega) (by omega)
    simp only [hwr, encI] at hset ⊢
    try simp only [hset]
    try refine hK _ ?_
    repeat (first | refine awp_seq ?_ | refine awp_block ?_ | refine awp_skip ?_ | refine awp_scope ?_ | refine awp_label ?_)
    refine awp_region tabOk fun K hK => ?_
    simp -dsimp -implicitDefEqProofs only [push_cast, ↓trAdd_f, ↓stOf_f, seval]
    refine hK _ ?_
    try refine hK _ ?_
    repeat (first | refine awp_seq ?_ | refine awp_block ?_ | refine awp_skip ?_ | refine awp_scope ?_ | refine awp_label ?_)
    refine awp_draw tabOk (by kernel_rfl) (by kernel_rfl) fun K hK C hC => ?_
    simp -dsimp -implicitDefEqProofs only [push_cast, ↓trAdd_f, ↓stOf_f, seval]
    refine callK_simple (erased_ok true) ?_ rfl fun _ => ?_
    · simp -dsimp -implicitDefEqProofs only [push_cast, List.mem_append, List.mem_cons, List.mem_singleton, forall_eq_or_imp, forall_eq, ↓trAdd_f, ↓stOf_f, seval]
    simp -dsimp -implicitDefEqProofs only [push_cast, ↓trAdd_f, ↓stOf_f, seval]
    have hl4 : ((w.set k (min (w[k] + 1) 1099511627776)).map encI).take w.length = (w.set k (min (w[k] + 1) 1099511627776)).map encI := List.take_of_length_le (by simp)
    refine callK_simple (put_ok ⟨ps, w.set k (min (w[k] + 1) 1099511627776), decL left, false⟩ k clean64 hk n80) ?_ rfl fun _ => ?_
    · simp -dsimp -implicitDefEqProofs only [encFlash, hl4, ints_fz, List.length_map, List.length_set, Nat.le_refl, push_cast, List.mem_append, List.mem_cons, List.mem_singleton, forall_eq_or_imp, forall_eq, ↓trAdd_f, ↓stOf_f, seval]
    simp -dsimp -implicitDefEqProofs only [encFlash, push_cast, ↓trAdd_f, ↓stOf_f, seval]
    refine ⟨hC _ (by kernel_rfl), hK _ (awp_ret ?_)⟩
    have hE : eraseF ⟨ps, w, left, false⟩ k = ({ pages := ps.set k clean64, wear := w.set k (min (w[k] + 1) 1099511627776), left := decL left, down := false }, 0) := by
      simp only [eraseF, h', Int.toNat_natCast, hgw, if_false, Bool.false_eq_true, Bool.true_eq_false, h0]
    simp -dsimp -implicitDefEqProofs only [hE, encFlash, push_cast, List.mem_append, List.mem_cons, List.mem_singleton, forall_eq_or_imp, forall_eq, ↓trAdd_f, ↓stOf_f, seval]

theorem readRef_ok (f : Flash) (page at_ n : Int) (hg : f.good) : FnS Try.prog 20 [.agg (encFlash f), .int .i64 page, .int .i64 at_, .int .i64 n] [] (.tup [.sl false 1 ((readF f page at_ n).1.map encB), .int .i64 (readF f page at_ n).2]) [] := by
  obtain ⟨ps, w, left, down⟩ := f
  obtain ⟨n1, n80, wl, gl, gd, gw, gb⟩ := hg
  simp only at n1 n80 wl gl gd gw gb
  refine fn_walk tabOk Try.func20 rfl (by decide +kernel) Try.ntmps20 Try.results20 (by simp) fun B hB => ?_
  try refine hK _ ?_
  repeat (first | refine awp_seq ?_ | refine awp_block ?_ | refine awp_skip ?_ | refine awp_scope ?_ | refine awp_label ?_)
  refine awp_region tabOk fun K hK => ?_
  simp -dsimp -implicitDefEqProofs only [encFlash, push_cast, ↓trAdd_f, ↓stOf_f, seval]
  try refine hK _ ?_
  repeat (first | refine awp_seq ?_ | refine awp_block ?_ | refine awp_skip ?_ | refine awp_scope ?_ | refine awp_label ?_)
  refine awp_region tabOk fun K hK => ?_
  simp -dsimp -implicitDefEqProofs only [push_cast, ↓trAdd_f, ↓stOf_f, seval]
  try refine hK _ ?_
  repeat (first | refine awp_seq ?_ | refine awp_block ?_ | refine awp_skip ?_ | refine awp_scope ?_ | refine awp_label ?_)
  refine awp_cond (b := down) (by simp -dsimp -implicitDefEqProofs only [push_cast, ↓trAdd_f, ↓stOf_f, seval]) (fun h => ?_) (fun h => ?_)
  · subst h
    try refine hK _ ?_
    repeat (first | refine awp_seq ?_ | refine awp_block ?_ | refine awp_skip ?_ | refine awp_scope ?_ | refine awp_label ?_)
    refine awp_region tabOk fun K hK => ?_
    simp -dsimp -implicitDefEqProofs only [push_cast, ↓trAdd_f, ↓stOf_f, seval]
    refine hK _ (awp_ret ?_)
    simp -dsimp -implicitDefEqProofs only [readF, encFlash, push_cast, List.mem_append, List.mem_cons, List.mem_singleton, forall_eq_or_imp, forall_eq, ↓trAdd_f, ↓stOf_f, seval]
  subst h
  refine awp_skip ?_
  try refine hK _ ?_
  repeat (first | refine awp_seq ?_ | refine awp_block ?_ | refine awp_skip ?_ | refine awp_scope ?_ | refine awp_label ?_)
  refine awp_join ({ sl := [(1, .int .i64 page), (2, .int .i64 at_), (3, .int .i64 n), (4, .ptr 0 0), (42, .bool (!inF ⟨ps, w, left, false⟩ page at_ n))], st := [(0, .box (encFlash ⟨ps, w, left, false⟩))], nx := 8, n := 55 }) ?_ (fun _ hl h => awp_le hl h) ?_
  · try refine hK _ ?_
    repeat (first | refine awp_seq ?_ | refine awp_block ?_ | refine awp_skip ?_ | refine awp_scope ?_ | refine awp_label ?_)
    refine awp_region tabOk fun K hK => ?_
    simp -dsimp -implicitDefEqProofs only [push_cast, ↓trAdd_f, ↓stOf_f, seval]
    have hin : ∀ p : Prop, (p → ¬ ((0 ≤ page ∧ page < (ps.length : Int)) ∧ 0 ≤ at_ ∧ 0 ≤ n ∧ at_ + n ≤ 64)) → p → inF ⟨ps, w, left, false⟩ page at_ n = false := fun p hp h => by
      cases hq : inF ⟨ps, w, left, false⟩ page at_ n with
      | true => exact (hp h ((inF_iff _ _ _ _).1 hq)).elim
      | false => rfl
    cases c1 : decide (page < 0)
    rotate_left
    · have e := hin _ (fun (c : page < 0) => by omega) (by simpa using c1)
      simp -dsimp -implicitDefEqProofs only [push_cast, ↓trAdd_f, ↓stOf_f, seval]
      refine hK _ ?_
      refine le_intro hB [] (by simp) (fun b _ => rfl) rfl ?_ ?_ rfl <;> simp -dsimp -implicitDefEqProofs only [encFlash, e, push_cast, ↓trAdd_f, ↓stOf_f, seval]
    simp -dsimp -implicitDefEqProofs only [push_cast, ↓trAdd_f, ↓stOf_f, seval]
    cases c2 : decide ((ps.length : Int) ≤ page)
    rotate_left
    · have e := hin _ (fun (c : (ps.length : Int) ≤ page) => by omega) (by simpa using c2)
      simp -dsimp -implicitDefEqProofs only [push_cast, ↓trAdd_f, ↓stOf_f, seval]
      refine hK _ ?_
      refine le_intro hB [] (by simp) (fun b _ => rfl) rfl ?_ ?_ rfl <;> simp -dsimp -implicitDefEqProofs only [encFlash, e, push_cast, ↓trAdd_f, ↓stOf_f, seval]
    simp -dsimp -implicitDefEqProofs only [push_cast, ↓trAdd_f, ↓stOf_f, seval]
    cases c3 : decide (at_ < 0)
    rotate_left
    · have e := hin _ (fun (c : at_ < 0) => by omega) (by simpa using c3)
      simp -dsimp -implicitDefEqProofs only [push_cast, ↓trAdd_f, ↓stOf_f, seval]
      refine hK _ ?_
      refine le_intro hB [] (by simp) (fun b _ => rfl) rfl ?_ ?_ rfl <;> simp -dsimp -implicitDefEqProofs only [encFlash, e, push_cast, ↓trAdd_f, ↓stOf_f, seval]
    simp -dsimp -implicitDefEqProofs only [push_cast, ↓trAdd_f, ↓stOf_f, seval]
    cases c4 : decide (n < 0)
    rotate_left
    · have e := hin _ (fun (c : n < 0) => by omega) (by simpa using c4)
      simp -dsimp -implicitDefEqProofs only [push_cast, ↓trAdd_f, ↓stOf_f, seval]
      refine hK _ ?_
      refine le_intro hB [] (by simp) (fun b _ => rfl) rfl ?_ ?_ rfl <;> simp -dsimp -implicitDefEqProofs only [encFlash, e, push_cast, ↓trAdd_f, ↓stOf_f, seval]
    simp -dsimp -implicitDefEqProofs only [push_cast, ↓trAdd_f, ↓stOf_f, seval]
    simp only [decide_eq_false_iff_not] at c1 c2 c3 c4
    cases c5 : decide (64 < at_)
    rotate_left
    · have e := hin _ (fun (c : 64 < at_) => by omega) (by simpa using c5)
      simp -dsimp -implicitDefEqProofs only [push_cast, ↓trAdd_f, ↓stOf_f, seval]
      refine hK _ ?_
      refine le_intro hB [] (by simp) (fun b _ => rfl) rfl ?_ ?_ rfl <;> simp -dsimp -implicitDefEqProofs only [encFlash, e, push_cast, ↓trAdd_f, ↓stOf_f, seval]
    simp -dsimp -implicitDefEqProofs only [push_cast, ↓trAdd_f, ↓stOf_f, seval]
    cases c6 : decide (64 < n)
    rotate_left
    · have e := hin _ (fun (c : 64 < n) => by omega) (by simpa using c6)
      simp -dsimp -implicitDefEqProofs only [push_cast, ↓trAdd_f, ↓stOf_f, seval]
      refine hK _ ?_
      refine le_intro hB [] (by simp) (fun b _ => rfl) rfl ?_ ?_ rfl <;> simp -dsimp -implicitDefEqProofs only [encFlash, e, push_cast, ↓trAdd_f, ↓stOf_f, seval]
    simp only [decide_eq_false_iff_not] at c5 c6
    have hwr : IntKind.i64.wrap (at_ + n) = at_ + n := wrap_i64 (by omega) (by omega)
    have e : (!inF ⟨ps, w, left, false⟩ page at_ n) = decide (64 < at_ + n) := by
      cases hq : inF ⟨ps, w, left, false⟩ page at_ n with
      | true => have := (inF_iff _ _ _ _).1 hq; simp; omega
      | false =>
        have : ¬ _ := fun h => Bool.false_ne_true (hq.symm.trans ((inF_iff ⟨ps, w, left, false⟩ page at_ n).2 h))
        simp at this ⊢; omega
    have c6' : decide (64 < n) = false := by simpa using c6
    simp -dsimp -implicitDefEqProofs only [hwr, c6', push_cast, ↓trAdd_f, ↓stOf_f, seval]
    refine hK _ ?_
    refine le_intro hB [] (by simp) (fun b _ => rfl) rfl ?_ ?_ rfl <;> simp -dsimp -implicitDefEqProofs only [encFlash, e, push_cast, ↓trAdd_f, ↓stOf_f, seval]
  simp only [encFlash]
  try refine hK _ ?_
  repeat (first | refine awp_seq ?_ | refine awp_block ?_ | refine awp_skip ?_ | refine awp_scope ?_ | refine awp_label ?_)
  refine awp_cond (b := !inF ⟨ps, w, left, false⟩ page at_ n) (by simp -dsimp -implicitDefEqProofs only [push_cast, ↓trAdd_f, ↓stOf_f, seval]) (fun h => ?_) (fun h => ?_)
  · have h' : inF ⟨ps, w, left, false⟩ page at_ n = false := by simpa using h
    try refine hK _ ?_
    repeat (first | refine awp_seq ?_ | refine awp_block ?_ | refine awp_skip ?_ | refine awp_scope ?_ | refine awp_label ?_)
    refine awp_region tabOk fun K hK => ?_
    simp -dsimp -implicitDefEqProofs only [push_cast, ↓trAdd_f, ↓stOf_f, seval]
    refine hK _ (awp_ret ?_)
    simp -dsimp -implicitDefEqProofs only [readF, encFlash, h', push_cast, List.mem_append, List.mem_cons, List.mem_singleton, forall_eq_or_imp, forall_eq, ↓trAdd_f, ↓stOf_f, seval]
  have h' : inF ⟨ps, w, left, false⟩ page at_ n = true := by simpa using h
  obtain ⟨⟨p0, p1⟩, a0, m0, a1⟩ := (inF_iff _ _ _ _).1 h'
  obtain ⟨k, rfl⟩ := Int.eq_ofNat_of_zero_le p0
  obtain ⟨a, rfl⟩ := Int.eq_ofNat_of_zero_le a0
  obtain ⟨n, rfl⟩ := Int.eq_ofNat_of_zero_le m0
  have hk : k < ps.length := by simpa using p1
  have h64 := gb ps[k] (List.getElem_mem hk)
  have hpl : (ps[k].map encB).length = 64 := by simpa using h64
  have hgp : ps.getD k [] = ps[k] := by simp [List.getD, hk]
  have htn : ((a : Int) + (n : Int)).toNat - a = n := by omega
  have hwr : IntKind.i64.wrap ((a : Int) + (n : Int)) = (a : Int) + n := wrap_i64 (by omega) (by omega)
  have hs1 : List.take (((a : Int) + (n : Int)).toNat - a) (List.drop a (ps[k].map encB)) = ((ps[k].drop a).take n).map encB := by rw [htn, List.map_take, List.map_drop]
  have hml : (((ps[k].drop a).take n).map encB).length = n := by rw [List.length_map, List.length_take, List.length_drop]; omega
  have hml2 : ((ps[k].drop a).take n).length = n := by rw [List.length_take, List.length_drop]; omega
  have hmt : (((ps[k].drop a).take n).map encB).take n = ((ps[k].drop a).take n).map encB := List.take_of_length_le (by omega)
  refine awp_skip ?_
  try refine hK _ ?_
  repeat (first | refine awp_seq ?_ | refine awp_block ?_ | refine awp_skip ?_ | refine awp_scope ?_ | refine awp_label ?_)
  refine awp_region tabOk fun K hK => ?_
  simp -dsimp -implicitDefEqProofs only [hk, getD_map, encP, Int.toNat_natCast, hwr, hs1, hml, hml2, push_cast, ↓trAdd_f, ↓stOf_f, seval]
  refine ⟨⟨by omega, by omega⟩, ⟨by omega, by omega, by omega⟩, ⟨by omega, by omega⟩, hK _ (awp_ret ?_)⟩
  simp -dsimp -implicitDefEqProofs only [readF, encFlash, h', Int.toNat_natCast, hgp, bytes_fz, hmt, hml, hml2, Nat.le_refl, push_cast, List.mem_append, List.mem_cons, List.mem_singleton, forall_eq_or_imp, forall_eq, ↓trAdd_f, ↓stOf_f, seval]
end Go.Proofs.YtihippjbbcpggaaFw

/-
  Walks: the document's Write, New.
-/
namespace Go.Proofs.YtihippjbbcpggaaFw
open Go Go.Proofs
set_option maxRecDepth 100000
set_option maxHeartbeats 4000000
set_option linter.unusedVariables false
set_option linter.unusedSimpArgs false

theorem clean_take (n : Nat) (h : n ≤ 64) : clean64.take n = List.replicate n 255 := by unfold clean64; rw [List.take_replicate, Nat.min_eq_left h]
theorem free_of (p : List Int) (a n : Nat) (hp : p.length = 64) (h : a + n ≤ 64) (hall : ∀ i (hi : a + i < p.length), i < n → p[a + i] = 255) : freeF p a n = true := by
  unfold freeF
  rw [decide_eq_true_eq, clean_take n (by omega)]
  apply List.ext_getElem
  · simp; omega
  · intro i h1 h2
    simp at h1 h2
    rw [List.getElem_take, List.getElem_drop, List.getElem_replicate]
    exact hall i (by omega) (by omega)
theorem not_free (p : List Int) (a n i : Nat) (hp : p.length = 64) (h : a + n ≤ 64) (hi : i < n) (hne : p[a + i]'(by omega) ≠ 255) : freeF p a n = false := by
  unfold freeF
  rw [decide_eq_false_iff_not, clean_take n (by omega)]
  intro e
  have := congrArg (fun l => l[i]?) e
  simp [hi] at this
  obtain ⟨_, h2⟩ := List.getElem?_eq_some_iff.1 this
  exact hne h2
theorem writeRef_ok (f : Flash) (page at_ : Int) (t : Bool) (b : List Int) (hg : f.good) (hI : f.left ≤ 9223372036854775807) (hbl : b.length ≤ 2 ^ 40) :
    FnS Try.prog 18 [.agg (encFlash f), .int .i64 page, .int .i64 at_, .sl t 1 (b.map encB)] [] (.tup [.agg (encFlash (writeF f page at_ b).1), .int .i64 (writeF f page at_ b).2]) [] := by
  obtain ⟨ps, w, left, down⟩ := f
  obtain ⟨n1, n80, wl, gl, gd, gw, gb⟩ := hg
  simp only at n1 n80 wl gl gd gw gb hI
  refine fn_walk tabOk Try.func18 rfl (by decide +kernel) Try.ntmps18 Try.results18 (by simp) fun B hB => ?_
  try refine hK _ ?_
  repeat (first | refine awp_seq ?_ | refine awp_block ?_ | refine awp_skip ?_ | refine awp_scope ?_ | refine awp_label ?_)
  refine awp_region tabOk fun K hK => ?_
  simp -dsimp -implicitDefEqProofs only [encFlash, push_cast, ↓trAdd_f, ↓stOf_f, seval]
  try refine hK _ ?_
  repeat (first | refine awp_seq ?_ | refine awp_block ?_ | refine awp_skip ?_ | refine awp_scope ?_ | refine awp_label ?_)
  refine awp_region tabOk fun K hK => ?_
  simp -dsimp -implicitDefEqProofs only [push_cast, ↓trAdd_f, ↓stOf_f, seval]
  try refine hK _ ?_
  repeat (first | refine awp_seq ?_ | refine awp_block ?_ | refine awp_skip ?_ | refine awp_scope ?_ | refine awp_label ?_)
  refine awp_cond (b := down) (by simp -dsimp -implicitDefEqProofs only [push_cast, ↓trAdd_f, ↓stOf_f, seval]) (fun h => ?_) (fun h => ?_)
  · subst h
    try refine hK _ ?_
    repeat (first | refine awp_seq ?_ | refine awp_block ?_ | refine awp_skip ?_ | refine awp_scope ?_ | refine awp_label ?_)
    refine awp_region tabOk fun K hK => ?_
    simp -dsimp -implicitDefEqProofs only [push_cast, ↓trAdd_f, ↓stOf_f, seval]
    refine hK _ (awp_ret ?_)
    simp -dsimp -implicitDefEqProofs only [writeF, encFlash, push_cast, List.mem_append, List.mem_cons, List.mem_singleton, forall_eq_or_imp, forall_eq, ↓trAdd_f, ↓stOf_f, seval]
  subst h
  refine awp_skip ?_
  try refine hK _ ?_
  repeat (first | refine awp_seq ?_ | refine awp_block ?_ | refine awp_skip ?_ | refine awp_scope ?_ | refine awp_label ?_)
  refine awp_join ({ sl := [(1, .int .i64 page), (2, .int .i64 at_), (3, .sl t 1 (b.map encB)), (4, .ptr 0 0), (8, .ptr 8 0), (41, .bool (!inF ⟨ps, w, left, false⟩ page at_ b.length))], st := [(0, .box (encFlash ⟨ps, w, left, false⟩)), (8, .box [.sl true 1 [], .sl true 1 [], .int .i64 0, .bool false])], nx := 16, n := 105 }) ?_ (fun _ hl h => awp_le hl h) ?_
  · try refine hK _ ?_
    repeat (first | refine awp_seq ?_ | refine awp_block ?_ | refine awp_skip ?_ | refine awp_scope ?_ | refine awp_label ?_)
    refine awp_region tabOk fun K hK => ?_
    simp -dsimp -implicitDefEqProofs only [push_cast, ↓trAdd_f, ↓stOf_f, seval]
    have hin : ∀ p : Prop, (p → ¬ ((0 ≤ page ∧ page < (ps.length : Int)) ∧ 0 ≤ at_ ∧ 0 ≤ (b.length : Int) ∧ at_ + (b.length : Int) ≤ 64)) → p → inF ⟨ps, w, left, false⟩ page at_ b.length = false := fun p hp h => by
      cases hq : inF ⟨ps, w, left, false⟩ page at_ b.length with
      | true => exact (hp h ((inF_iff _ _ _ _).1 hq)).elim
      | false => rfl
    cases c1 : decide (page < 0)
    rotate_left
    · have e := hin _ (fun (c : page < 0) => by omega) (by simpa using c1)
      simp -dsimp -implicitDefEqProofs only [push_cast, ↓trAdd_f, ↓stOf_f, seval]
      refine hK _ ?_
      refine le_intro hB [] (by simp) (fun b _ => rfl) rfl ?_ ?_ rfl <;> simp -dsimp -implicitDefEqProofs only [encFlash, e, push_cast, ↓trAdd_f, ↓stOf_f, seval]
    simp -dsimp -implicitDefEqProofs only [push_cast, ↓trAdd_f, ↓stOf_f, seval]
    cases c2 : decide ((ps.length : Int) ≤ page)
    rotate_left
    · have e := hin _ (fun (c : (ps.length : Int) ≤ page) => by omega) (by simpa using c2)
      simp -dsimp -implicitDefEqProofs only [push_cast, ↓trAdd_f, ↓stOf_f, seval]
      refine hK _ ?_
      refine le_intro hB [] (by simp) (fun b _ => rfl) rfl ?_ ?_ rfl <;> simp -dsimp -implicitDefEqProofs only [encFlash, e, push_cast, ↓trAdd_f, ↓stOf_f, seval]
    simp -dsimp -implicitDefEqProofs only [push_cast, ↓trAdd_f, ↓stOf_f, seval]
    cases c3 : decide (at_ < 0)
    rotate_left
    · have e := hin _ (fun (c : at_ < 0) => by omega) (by simpa using c3)
      simp -dsimp -implicitDefEqProofs only [push_cast, ↓trAdd_f, ↓stOf_f, seval]
      refine hK _ ?_
      refine le_intro hB [] (by simp) (fun b _ => rfl) rfl ?_ ?_ rfl <;> simp -dsimp -implicitDefEqProofs only [encFlash, e, push_cast, ↓trAdd_f, ↓stOf_f, seval]
    simp -dsimp -implicitDefEqProofs only [push_cast, ↓trAdd_f, ↓stOf_f, seval]
    cases c5 : decide (64 < at_)
    rotate_left
    · have e := hin _ (fun (c : 64 < at_) => by omega) (by simpa using c5)
      simp -dsimp -implicitDefEqProofs only [push_cast, ↓trAdd_f, ↓stOf_f, seval]
      refine hK _ ?_
      refine le_intro hB [] (by simp) (fun b _ => rfl) rfl ?_ ?_ rfl <;> simp -dsimp -implicitDefEqProofs only [encFlash, e, push_cast, ↓trAdd_f, ↓stOf_f, seval]
    simp only [decide_eq_false_iff_not] at c1 c2 c3 c5
    have hwr : IntKind.i64.wrap (at_ + (b.length : Int)) = at_ + b.length := wrap_i64 (by omega) (by omega)
    have e : (!inF ⟨ps, w, left, false⟩ page at_ b.length) = decide (64 < at_ + (b.length : Int)) := by
      cases hq : inF ⟨ps, w, left, false⟩ page at_ b.length with
      | true => have := (inF_iff _ _ _ _).1 hq; simp; omega
      | false =>
        have : ¬ _ := fun h => Bool.false_ne_true (hq.symm.trans ((inF_iff ⟨ps, w, left, false⟩ page at_ b.length).2 h))
        simp at this ⊢; omega
    have c5' : decide (64 < at_) = false := by simpa using c5
    simp -dsimp -implicitDefEqProofs only [hwr, c5', push_cast, ↓trAdd_f, ↓stOf_f, seval]
    refine hK _ ?_
    refine le_intro hB [] (by simp) (fun b _ => rfl) rfl ?_ ?_ rfl <;> simp -dsimp -implicitDefEqProofs only [encFlash, e, push_cast, ↓trAdd_f, ↓stOf_f, seval]
  simp only [encFlash]
  try refine hK _ ?_
  repeat (first | refine awp_seq ?_ | refine awp_block ?_ | refine awp_skip ?_ | refine awp_scope ?_ | refine awp_label ?_)
  refine awp_cond (b := !inF ⟨ps, w, left, false⟩ page at_ b.length) (by simp -dsimp -implicitDefEqProofs only [push_cast, ↓trAdd_f, ↓stOf_f, seval]) (fun h => ?_) (fun h => ?_)
  · have h' : inF ⟨ps, w, left, false⟩ page at_ b.length = false := by simpa using h
    try refine hK _ ?_
    repeat (first | refine awp_seq ?_ | refine awp_block ?_ | refine awp_skip ?_ | refine awp_scope ?_ | refine awp_label ?_)
    refine awp_region tabOk fun K hK => ?_
    simp -dsimp -implicitDefEqProofs only [push_cast, ↓trAdd_f, ↓stOf_f, seval]
    refine hK _ (awp_ret ?_)
    simp -dsimp -implicitDefEqProofs only [writeF, encFlash, h', push_cast, List.mem_append, List.mem_cons, List.mem_singleton, forall_eq_or_imp, forall_eq, ↓trAdd_f, ↓stOf_f, seval]
  have h' : inF ⟨ps, w, left, false⟩ page at_ b.length = true := by simpa using h
  obtain ⟨⟨p0, p1⟩, a0, _, a1⟩ := (inF_iff _ _ _ _).1 h'
  obtain ⟨k, rfl⟩ := Int.eq_ofNat_of_zero_le p0
  obtain ⟨a, rfl⟩ := Int.eq_ofNat_of_zero_le a0
  have hk : k < ps.length := by simpa using p1
  have h64 := gb ps[k] (List.getElem_mem hk)
  have hal : a + b.length ≤ 64 := by omega
  have hpl : (ps[k].map encB).length = 64 := by simpa using h64
  have hgp : ps.getD k [] = ps[k] := by simp [List.getD, hk]
  have hpt : (ps[k].map encB).take 64 = ps[k].map encB := List.take_of_length_le (by omega)
  refine awp_skip ?_
  try refine hK _ ?_
  repeat (first | refine awp_seq ?_ | refine awp_block ?_ | refine awp_skip ?_ | refine awp_scope ?_ | refine awp_label ?_)
  refine awp_region tabOk fun K hK => ?_
  simp -dsimp -implicitDefEqProofs only [hk, getD_map, encP, h64, push_cast, ↓trAdd_f, ↓stOf_f, seval]
  refine ⟨⟨by omega, by omega⟩, hK _ ?_⟩
  try refine hK _ ?_
  repeat (first | refine awp_seq ?_ | refine awp_block ?_ | refine awp_skip ?_ | refine awp_scope ?_ | refine awp_label ?_)
  refine awp_region tabOk fun K hK => ?_
  simp -dsimp -implicitDefEqProofs only [push_cast, ↓trAdd_f, ↓stOf_f, seval]
  refine hK _ (awp_block ?_)
  refine awp_for (fun i : Nat => { sl := [(1, .int .i64 k), (2, .int .i64 a), (3, .sl t 1 (b.map encB)), (4, .ptr 0 0), (8, .ptr 8 0), (10, .own 64 1 0 64), (11, .int .i64 i)], st := [(0, .box [.sl false 1 (ps.map encP), .sl false 1 (w.map encI), .int .i64 left, .bool false]), (8, .box [.sl true 1 [], .sl true 1 [], .int .i64 0, .bool false]), (64, .row 1 (ps[k].map encB))], nx := 88, n := 105 })
    (fun i => i ≤ b.length ∧ ∀ (j : Nat) (hj : a + j < ps[k].length), j < i → ps[k][a + j] = 255) (fun i => b.length - i) 0 ⟨Nat.zero_le _, fun j _ hj => absurd hj (Nat.not_lt_zero j)⟩ ?_ fun i hi => ?_
  · refine le_intro hB [] (by simp) (fun b _ => rfl) rfl ?_ ?_ rfl <;> simp -dsimp -implicitDefEqProofs only [bytes_ren, bytes_okl, push_cast, ↓trAdd_f, ↓stOf_f, seval]
  obtain ⟨hi, hall⟩ := hi
  try refine hK _ ?_
  repeat (first | refine awp_seq ?_ | refine awp_block ?_ | refine awp_skip ?_ | refine awp_scope ?_ | refine awp_label ?_)
  refine awp_region tabOk fun K hK => ?_
  simp -dsimp -implicitDefEqProofs only [push_cast, ↓trAdd_f, ↓stOf_f, seval]
  try refine hK _ ?_
  repeat (first | refine awp_seq ?_ | refine awp_block ?_ | refine awp_skip ?_ | refine awp_scope ?_ | refine awp_label ?_)
  refine awp_cond (b := decide ((i : Int) < b.length)) (by simp -dsimp -implicitDefEqProofs only [push_cast, ↓trAdd_f, ↓stOf_f, seval]) (fun h => ?_) (fun h => ?_)
  · have hlt : i < b.length := by simpa using h
    have hak : a + i < ps[k].length := by omega
    have hwi : IntKind.i64.wrap ((a : Int) + (i : Int)) = (a : Int) + i := wrap_i64 (by omega) (by omega)
    have hti : ((a : Int) + (i : Int)).toNat = a + i := by omega
    refine awp_skip ?_
    try refine hK _ ?_
    repeat (first | refine awp_seq ?_ | refine awp_block ?_ | refine awp_skip ?_ | refine awp_scope ?_ | refine awp_label ?_)
    refine awp_region tabOk fun K hK => ?_
    simp -dsimp -implicitDefEqProofs only [hwi, hti, hak, getD_map, encB, hpl, push_cast, ↓trAdd_f, ↓stOf_f, seval]
    refine ⟨⟨by omega, by omega⟩, by omega, hK _ ?_⟩
    try refine hK _ ?_
    repeat (first | refine awp_seq ?_ | refine awp_block ?_ | refine awp_skip ?_ | refine awp_scope ?_ | refine awp_label ?_)
    refine awp_cond (b := ps[k][a + i] != 255) (by simp -dsimp -implicitDefEqProofs only [push_cast, ↓trAdd_f, ↓stOf_f, seval]) (fun h => ?_) (fun h => ?_)
    · have hne : ps[k][a + i] ≠ 255 := by simpa using h
      have h2 := not_free ps[k] a b.length i h64 hal hlt hne
      try refine hK _ ?_
      repeat (first | refine awp_seq ?_ | refine awp_block ?_ | refine awp_skip ?_ | refine awp_scope ?_ | refine awp_label ?_)
      refine awp_region tabOk fun K hK => ?_
      simp -dsimp -implicitDefEqProofs only [push_cast, ↓trAdd_f, ↓stOf_f, seval]
      refine hK _ (awp_ret ?_)
      simp -dsimp -implicitDefEqProofs only [writeF, encFlash, h', Int.toNat_natCast, hgp, h2, push_cast, List.mem_append, List.mem_cons, List.mem_singleton, forall_eq_or_imp, forall_eq, ↓trAdd_f, ↓stOf_f, seval]
    have he : ps[k][a + i] = 255 := by simpa using h
    refine awp_skip ?_
    try refine hK _ ?_
    repeat (first | refine awp_seq ?_ | refine awp_block ?_ | refine awp_skip ?_ | refine awp_scope ?_ | refine awp_label ?_)
    refine awp_region tabOk fun K hK => ?_
    simp -dsimp -implicitDefEqProofs only [push_cast, ↓trAdd_f, ↓stOf_f, seval]
    try simp (disch := omega) only [wrap_i64, wrap_u8, wrap_u16, wrap_u32]
    refine hK _ ⟨i + 1, ⟨hlt, fun j hj hji => ?_⟩, by omega, ?_⟩
    · by_cases hjk : j = i
      · subst hjk; exact he
      · exact hall j hj (by omega)
    refine le_intro hB [] (by simp) (fun b _ => rfl) rfl ?_ ?_ rfl <;> simp -dsimp -implicitDefEqProofs only [bytes_ren, bytes_okl, push_cast, ↓trAdd_f, ↓stOf_f, seval]
  have hib : i = b.length := by simp at h; omega
  subst hib
  have h2 : freeF ps[k] a b.length = true := free_of ps[k] a b.length h64 hal fun j hj hjb => hall j hj hjb
  refine awp_exit rfl ?_
  try refine hK _ ?_
  repeat (first | refine awp_seq ?_ | refine awp_block ?_ | refine awp_skip ?_ | refine awp_scope ?_ | refine awp_label ?_)
  refine awp_region tabOk fun K hK => ?_
  simp -dsimp -implicitDefEqProofs only [push_cast, ↓trAdd_f, ↓stOf_f, seval]
  refine hK _ (awp_block ?_)
  refine awp_for (fun x : Nat × List Int × Int => { sl := [(1, .int .i64 k), (2, .int .i64 a), (3, .sl t 1 (b.map encB)), (4, .ptr 0 0), (8, .ptr 8 0), (10, .own 64 1 0 64), (12, .int .i64 x.1)], st := [(0, .box [.sl false 1 (ps.map encP), .sl false 1 (w.map encI), .int .i64 x.2.2, .bool false]), (8, .box [.sl true 1 [], .sl true 1 [], .int .i64 0, .bool false]), (64, .row 1 (x.2.1.map encB))], nx := 88, n := 105 })
    (fun x => x.1 ≤ b.length ∧ x.2.1.length = 64 ∧ (-1 ≤ x.2.2 ∧ x.2.2 ≤ 9223372036854775807) ∧ laidF (b.drop x.1) (a + x.1) x.2.1 x.2.2 = laidF b a ps[k] left) (fun x => b.length - x.1) (0, ps[k], left) ⟨Nat.zero_le _, h64, ⟨gl, hI⟩, rfl⟩ ?_ fun x hx => ?_
  · refine le_intro hB [] (by simp) (fun b _ => rfl) rfl ?_ ?_ rfl <;> simp -dsimp -implicitDefEqProofs only [bytes_ren, bytes_okl, push_cast, ↓trAdd_f, ↓stOf_f, seval]
  obtain ⟨i, pg, lf⟩ := x
  obtain ⟨hi, hpg, hlf, hla⟩ := hx
  simp only at hi hpg hlf hla
  try refine hK _ ?_
  repeat (first | refine awp_seq ?_ | refine awp_block ?_ | refine awp_skip ?_ | refine awp_scope ?_ | refine awp_label ?_)
  refine awp_region tabOk fun K hK => ?_
  simp -dsimp -implicitDefEqProofs only [push_cast, ↓trAdd_f, ↓stOf_f, seval]
  try refine hK _ ?_
  repeat (first | refine awp_seq ?_ | refine awp_block ?_ | refine awp_skip ?_ | refine awp_scope ?_ | refine awp_label ?_)
  refine awp_cond (b := decide ((i : Int) < b.length)) (by simp -dsimp -implicitDefEqProofs only [push_cast, ↓trAdd_f, ↓stOf_f, seval]) (fun h => ?_) (fun h => ?_)
  rotate_left
  · have hib : i = b.length := by simp at h; omega
    subst hib
    rw [List.drop_length, laidF_nil] at hla
    refine awp_exit rfl ?_
    have hpt2 : (pg.map encB).take 64 = pg.map encB := List.take_of_length_le (by simp [hpg])
    try refine hK _ ?_
    repeat (first | refine awp_seq ?_ | refine awp_block ?_ | refine awp_skip ?_ | refine awp_scope ?_ | refine awp_label ?_)
    refine awp_region tabOk fun K hK => ?_
    simp -dsimp -implicitDefEqProofs only [push_cast, ↓trAdd_f, ↓stOf_f, seval]
    refine callK_simple (put_ok ⟨ps, w, lf, false⟩ k pg hk n80) ?_ rfl fun _ => ?_
    · simp -dsimp -implicitDefEqProofs only [encFlash, hpt2, hpg, bytes_fz, List.length_map, Nat.le_refl, push_cast, List.mem_append, List.mem_cons, List.mem_singleton, forall_eq_or_imp, forall_eq, ↓trAdd_f, ↓stOf_f, seval]
    simp -dsimp -implicitDefEqProofs only [encFlash, push_cast, ↓trAdd_f, ↓stOf_f, seval]
    refine hK _ (awp_ret ?_)
    have hE : writeF ⟨ps, w, left, false⟩ k a b = ({ pages := ps.set k pg, wear := w, left := lf, down := false }, 0) := by
      simp only [writeF, h', Int.toNat_natCast, hgp, h2, ← hla, if_false, Bool.false_eq_true, Bool.true_eq_false]
    simp -dsimp -implicitDefEqProofs only [hE, encFlash, push_cast, List.mem_append, List.mem_cons, List.mem_singleton, forall_eq_or_imp, forall_eq, ↓trAdd_f, ↓stOf_f, seval]
  have hlt : i < b.length := by simpa using h
  have hwi : IntKind.i64.wrap ((a : Int) + (i : Int)) = (a : Int) + i := wrap_i64 (by omega) (by omega)
  have hti : ((a : Int) + (i : Int)).toNat = a + i := by omega
  have hbd : b.drop i = b[i] :: b.drop (i + 1) := List.drop_eq_getElem_cons hlt
  have hpgl : (pg.map encB).length = 64 := by simpa using hpg
  have hgd : (pg.map encB).getD (a + i) [] = [.int .u8 (pg[a + i]'(by omega))] := by rw [getD_map encB pg (a + i) (by omega)]; rfl
  rw [hbd] at hla
  refine awp_skip ?_
  try refine hK _ ?_
  repeat (first | refine awp_seq ?_ | refine awp_block ?_ | refine awp_skip ?_ | refine awp_scope ?_ | refine awp_label ?_)
  refine awp_region tabOk fun K hK => ?_
  simp -dsimp -implicitDefEqProofs only [push_cast, ↓trAdd_f, ↓stOf_f, seval]
  refine callK_simple (deed_ok ⟨ps, w, lf, false⟩ hlf) ?_ rfl fun _ => ?_
  · simp -dsimp -implicitDefEqProofs only [encFlash, push_cast, List.mem_append, List.mem_cons, List.mem_singleton, forall_eq_or_imp, forall_eq, ↓trAdd_f, ↓stOf_f, seval]
  by_cases h0 : lf = 0
  · subst h0
    rw [laidF_torn] at hla
    have hd : deedF ⟨ps, w, 0, false⟩ = ⟨ps, w, 0, true⟩ := rfl
    have hb : ((0 : Int) != 0) = false := rfl
    rw [hd, hb]
    simp -dsimp -implicitDefEqProofs only [encFlash, push_cast, ↓trAdd_f, ↓stOf_f, seval]
    refine hK _ ?_
    try refine hK _ ?_
    repeat (first | refine awp_seq ?_ | refine awp_block ?_ | refine awp_skip ?_ | refine awp_scope ?_ | refine awp_label ?_)
    refine awp_region tabOk fun K hK => ?_
    simp -dsimp -implicitDefEqProofs only [push_cast, ↓trAdd_f, ↓stOf_f, seval]
    try refine hK _ ?_
    repeat (first | refine awp_seq ?_ | refine awp_block ?_ | refine awp_skip ?_ | refine awp_scope ?_ | refine awp_label ?_)
    refine awp_region tabOk fun K hK => ?_
    simp -dsimp -implicitDefEqProofs only [push_cast, ↓trAdd_f, ↓stOf_f, seval]
    try refine hK _ ?_
    repeat (first | refine awp_seq ?_ | refine awp_block ?_ | refine awp_skip ?_ | refine awp_scope ?_ | refine awp_label ?_)
    refine awp_cond (b := true) (by simp -dsimp -implicitDefEqProofs only [push_cast, ↓trAdd_f, ↓stOf_f, seval]) (fun h => ?_) (fun h => ?_)
    rotate_left
    · cases h
    have hset := set_encB pg (a + i) (or15 b[i])
    have hsl : (pg.set (a + i) (or15 b[i])).length = 64 := by simpa using hpg
    have hpt2 : ((pg.set (a + i) (or15 b[i])).map encB).take 64 = (pg.set (a + i) (or15 b[i])).map encB := List.take_of_length_le (by simp [hpg])
    try refine hK _ ?_
    repeat (first | refine awp_seq ?_ | refine awp_block ?_ | refine awp_skip ?_ | refine awp_scope ?_ | refine awp_label ?_)
    refine awp_region tabOk fun K hK => ?_
    simp -dsimp -implicitDefEqProofs only [hwi, hti, hlt, getD_map, encB, hpgl, or15_fold, push_cast, ↓trAdd_f, ↓stOf_f, seval]
    refine ⟨⟨by omega, by omega⟩, ⟨by omega, by omega⟩, by omega, hK _ ?_⟩
    rw [hgd, List.drop_succ_cons, List.drop_zero, hset]
    try refine hK _ ?_
    repeat (first | refine awp_seq ?_ | refine awp_block ?_ | refine awp_skip ?_ | refine awp_scope ?_ | refine awp_label ?_)
    refine awp_region tabOk fun K hK => ?_
    simp -dsimp -implicitDefEqProofs only [push_cast, ↓trAdd_f, ↓stOf_f, seval]
    refine callK_simple (put_ok ⟨ps, w, 0, true⟩ k (pg.set (a + i) (or15 b[i])) hk n80) ?_ rfl fun _ => ?_
    · simp -dsimp -implicitDefEqProofs only [encFlash, hpt2, hsl, bytes_fz, List.length_map, Nat.le_refl, push_cast, List.mem_append, List.mem_cons, List.mem_singleton, forall_eq_or_imp, forall_eq, ↓trAdd_f, ↓stOf_f, seval]
    simp -dsimp -implicitDefEqProofs only [encFlash, push_cast, ↓trAdd_f, ↓stOf_f, seval]
    refine hK _ (awp_ret ?_)
    have hE : writeF ⟨ps, w, left, false⟩ k a b = ({ pages := ps.set k (pg.set (a + i) (or15 b[i])), wear := w, left := 0, down := true }, 250) := by
      simp only [writeF, h', Int.toNat_natCast, hgp, h2, ← hla, if_false, if_true, Bool.false_eq_true, Bool.true_eq_false]
    simp -dsimp -implicitDefEqProofs only [hE, encFlash, push_cast, List.mem_append, List.mem_cons, List.mem_singleton, forall_eq_or_imp, forall_eq, ↓trAdd_f, ↓stOf_f, seval]
  · rw [laidF_next _ _ _ _ h0] at hla
    have hd : deedF ⟨ps, w, lf, false⟩ = ⟨ps, w, decL lf, false⟩ := by unfold deedF; rw [if_neg h0]
    have hb : (lf != 0) = true := by simpa using h0
    rw [hd, hb]
    simp -dsimp -implicitDefEqProofs only [encFlash, push_cast, ↓trAdd_f, ↓stOf_f, seval]
    refine hK _ ?_
    try refine hK _ ?_
    repeat (first | refine awp_seq ?_ | refine awp_block ?_ | refine awp_skip ?_ | refine awp_scope ?_ | refine awp_label ?_)
    refine awp_region tabOk fun K hK => ?_
    simp -dsimp -implicitDefEqProofs only [push_cast, ↓trAdd_f, ↓stOf_f, seval]
    try refine hK _ ?_
    repeat (first | refine awp_seq ?_ | refine awp_block ?_ | refine awp_skip ?_ | refine awp_scope ?_ | refine awp_label ?_)
    refine awp_region tabOk fun K hK => ?_
    simp -dsimp -implicitDefEqProofs only [push_cast, ↓trAdd_f, ↓stOf_f, seval]
    try refine hK _ ?_
    repeat (first | refine awp_seq ?_ | refine awp_block ?_ | refine awp_skip ?_ | refine awp_scope ?_ | refine awp_label ?_)
    refine awp_cond (b := false) (by simp -dsimp -implicitDefEqProofs only [push_cast, ↓trAdd_f, ↓stOf_f, seval]) (fun h => ?_) (fun h => ?_)
    · cases h
    refine awp_skip ?_
    have hset := set_encB pg (a + i) b[i]
    try refine hK _ ?_
    repeat (first | refine awp_seq ?_ | refine awp_block ?_ | refine awp_skip ?_ | refine awp_scope ?_ | refine awp_label ?_)
    refine awp_region tabOk fun K hK => ?_
    simp -dsimp -implicitDefEqProofs only [hwi, hti, hlt, getD_map, encB, hpgl, push_cast, ↓trAdd_f, ↓stOf_f, seval]
    refine ⟨⟨by omega, by omega⟩, ⟨by omega, by omega⟩, by omega, hK _ ?_⟩
    rw [hgd, List.drop_succ_cons, List.drop_zero, hset]
    try refine hK _ ?_
    repeat (first | refine awp_seq ?_ | refine awp_block ?_ | refine awp_skip ?_ | refine awp_scope ?_ | refine awp_label ?_)
    refine awp_region tabOk fun K hK => ?_
    simp -dsimp -implicitDefEqProofs only [push_cast, ↓trAdd_f, ↓stOf_f, seval]
    try simp (disch := omega) only [wrap_i64, wrap_u8, wrap_u16, wrap_u32]
    have hdl : -1 ≤ decL lf ∧ decL lf ≤ 9223372036854775807 := by unfold decL; split <;> omega
    refine hK _ ⟨(i + 1, pg.set (a + i) b[i], decL lf), ⟨hlt, by simpa using hpg, hdl, by rw [← hla, Nat.add_assoc]⟩, by simp only; omega, ?_⟩
    refine le_intro hB [] (by simp) (fun b _ => rfl) rfl ?_ ?_ rfl <;> simp -dsimp -implicitDefEqProofs only [bytes_ren, bytes_okl, push_cast, ↓trAdd_f, ↓stOf_f, seval]
end Go.Proofs.YtihippjbbcpggaaFw

/-
  Walks: the document's New.
-/
namespace Go.Proofs.YtihippjbbcpggaaFw
open Go Go.Proofs
set_option maxRecDepth 100000
set_option maxHeartbeats 4000000
set_option linter.unusedVariables false
set_option linter.unusedSimpArgs false

theorem newRef_ok (n : Nat) (hn : n ≤ 80) : FnS Try.prog 25 [.int .i64 n] [] (.agg (encFlash (newF n))) [] := by
  refine fn_walk tabOk Try.func25 rfl (by decide +kernel) Try.ntmps25 Try.results25 (by simp) fun B hB => ?_
  try refine hK _ ?_
  repeat (first | refine awp_seq ?_ | refine awp_block ?_ | refine awp_skip ?_ | refine awp_scope ?_ | refine awp_label ?_)
  refine awp_region tabOk fun K hK => ?_
  simp -dsimp -implicitDefEqProofs only [push_cast, ↓trAdd_f, ↓stOf_f, seval]
  try refine hK _ ?_
  repeat (first | refine awp_seq ?_ | refine awp_block ?_ | refine awp_skip ?_ | refine awp_scope ?_ | refine awp_label ?_)
  refine awp_region tabOk fun K hK => ?_
  simp -dsimp -implicitDefEqProofs only [push_cast, ↓trAdd_f, ↓stOf_f, seval]
  try refine hK _ ?_
  repeat (first | refine awp_seq ?_ | refine awp_block ?_ | refine awp_skip ?_ | refine awp_scope ?_ | refine awp_label ?_)
  refine awp_region tabOk fun K hK => ?_
  simp -dsimp -implicitDefEqProofs only [push_cast, ↓trAdd_f, ↓stOf_f, seval]
  refine hK _ (awp_le (le_nil1 _ 1) (awp_le (le_nil1 _ 1) (awp_block ?_)))
  refine awp_for (fun i : Nat => { sl := [(0, .int .i64 n), (2, .ptr 0 0), (3, .ptr 16 0), (4, .int .i64 i)], st := [(0, .box [.sl true 1 [], .sl true 1 [], .int .i64 0, .bool false]), (16, .box [.own 40 1 0 i, .own 41 1 0 i, .int .i64 (-1), .bool false]), (40, .row 1 (List.replicate i (encP clean64))), (41, .row 1 (List.replicate i [.int .i64 0]))], nx := 42, n := 23 }) (fun i => i ≤ n) (fun i => n - i) 0 (Nat.zero_le _) ?_ fun i hi => ?_
  · simp only [ins]
    refine le_intro hB [] (by simp) (fun b _ => rfl) rfl ?_ ?_ rfl <;> simp -dsimp -implicitDefEqProofs only [List.replicate_zero, push_cast, ↓trAdd_f, ↓stOf_f, seval]
  try refine hK _ ?_
  repeat (first | refine awp_seq ?_ | refine awp_block ?_ | refine awp_skip ?_ | refine awp_scope ?_ | refine awp_label ?_)
  refine awp_region tabOk fun K hK => ?_
  simp -dsimp -implicitDefEqProofs only [push_cast, ↓trAdd_f, ↓stOf_f, seval]
  try refine hK _ ?_
  repeat (first | refine awp_seq ?_ | refine awp_block ?_ | refine awp_skip ?_ | refine awp_scope ?_ | refine awp_label ?_)
  refine awp_cond (b := decide ((i : Int) < n)) (by simp -dsimp -implicitDefEqProofs only [push_cast, ↓trAdd_f, ↓stOf_f, seval]) (fun h => ?_) (fun h => ?_)
  · have hlt : i < n := by simpa using h
    have hlen : (List.replicate i (encP clean64)).length = i := by simp
    have htk : (List.replicate i (encP clean64)).take i = List.replicate i (encP clean64) := by simp
    have hsc : List.replicate i (encP clean64) ++ [[.sl false 1 (clean64.map encB)]] = List.replicate (i + 1) (encP clean64) := rep_succ i (encP clean64)
    have hlen2 : (List.replicate i [PV.int .i64 0]).length = i := by simp
    have htk2 : (List.replicate i [PV.int .i64 0]).take i = List.replicate i [PV.int .i64 0] := by simp
    have hsc2 : List.replicate i [PV.int .i64 0] ++ [[.int .i64 0]] = List.replicate (i + 1) [PV.int .i64 0] := rep_succ i _
    refine awp_skip ?_
    try refine hK _ ?_
    repeat (first | refine awp_seq ?_ | refine awp_block ?_ | refine awp_skip ?_ | refine awp_scope ?_ | refine awp_label ?_)
    refine awp_draw tabOk (by kernel_rfl) (by kernel_rfl) fun K hK C hC => ?_
    simp -dsimp -implicitDefEqProofs only [push_cast, ↓trAdd_f, ↓stOf_f, seval]
    refine callK_simple (erased_ok true) ?_ rfl fun _ => ?_
    · simp -dsimp -implicitDefEqProofs only [push_cast, List.mem_append, List.mem_cons, List.mem_singleton, forall_eq_or_imp, forall_eq, ↓trAdd_f, ↓stOf_f, seval]
    simp -dsimp -implicitDefEqProofs only [hlen, htk, hsc, push_cast, ↓trAdd_f, ↓stOf_f, seval]
    refine ⟨⟨by omega, by omega⟩, hC _ (by kernel_rfl), hK _ ?_⟩
    try refine hK _ ?_
    repeat (first | refine awp_seq ?_ | refine awp_block ?_ | refine awp_skip ?_ | refine awp_scope ?_ | refine awp_label ?_)
    refine awp_region tabOk fun K hK => ?_
    simp -dsimp -implicitDefEqProofs only [hlen2, htk2, hsc2, push_cast, ↓trAdd_f, ↓stOf_f, seval]
    refine ⟨⟨by omega, by omega⟩, hK _ ?_⟩
    try refine hK _ ?_
    repeat (first | refine awp_seq ?_ | refine awp_block ?_ | refine awp_skip ?_ | refine awp_scope ?_ | refine awp_label ?_)
    refine awp_region tabOk fun K hK => ?_
    simp -dsimp -implicitDefEqProofs only [push_cast, ↓trAdd_f, ↓stOf_f, seval]
    try simp (disch := omega) only [wrap_i64, wrap_u8, wrap_u16, wrap_u32]
    refine hK _ ⟨i + 1, hlt, by omega, ?_⟩
    refine le_intro hB [(40, 98), (41, 146)] (by simp) (fun b hb => absurd hb (Nat.not_lt_zero b)) rfl ?_ ?_ rfl <;> simp -dsimp -implicitDefEqProofs only [zerosN_ren, zerosN_okl, pagesN_ren, pagesN_okl, push_cast, ↓trAdd_f, ↓stOf_f, seval]
  have he : i = n := by simp at h; omega
  subst he
  refine awp_exit rfl ?_
  try refine hK _ ?_
  repeat (first | refine awp_seq ?_ | refine awp_block ?_ | refine awp_skip ?_ | refine awp_scope ?_ | refine awp_label ?_)
  refine awp_region tabOk fun K hK => ?_
  simp -dsimp -implicitDefEqProofs only [push_cast, ↓trAdd_f, ↓stOf_f, seval]
  refine hK _ (awp_ret ?_)
  have e1 : (List.replicate i (encP clean64)).take i = List.replicate i (encP clean64) := by simp
  have e2 : (List.replicate i [PV.int .i64 0]).take i = List.replicate i [PV.int .i64 0] := by simp
  have e3 : (List.replicate i clean64).map encP = List.replicate i (encP clean64) := by simp
  have e4 : (List.replicate i (0 : Int)).map encI = List.replicate i [PV.int .i64 0] := by simp [encI]
  simp -dsimp -implicitDefEqProofs only [newF, encFlash, pagesN_fz, zerosN_fz, e1, e2, e3, e4, List.length_replicate, Nat.le_refl, push_cast, List.mem_append, List.mem_cons, List.mem_singleton, forall_eq_or_imp, forall_eq, ↓trAdd_f, ↓stOf_f, seval]
end Go.Proofs.YtihippjbbcpggaaFw

/-
  A flash stays as it may be, whatever is done (no program in sight).
-/
namespace Go.Proofs.YtihippjbbcpggaaFw
open Go Go.Proofs
set_option linter.unusedVariables false

structure Flash.fine (f : Flash) : Prop where
  good : f.good
  bytes : f.bytes
  lim : f.left ≤ 9223372036854775807
theorem byte255 : byte 255 := ⟨by decide, by decide⟩
theorem byte_clean : ∀ x ∈ clean64, byte x := fun x hx => by rw [(List.mem_replicate.1 hx).2]; exact byte255
theorem clean_len : clean64.length = 64 := rfl
theorem byte_or15 (x : Int) : byte (or15 x) := by
  unfold or15 byte
  have : ∀ n : Nat, 0 ≤ IntKind.u8.wrap (n : Int) ∧ IntKind.u8.wrap (n : Int) ≤ 255 := fun n => by
    simp [IntKind.wrap, IntKind.bits, IntKind.signed]; omega
  exact this _
theorem torn_len {p : List Int} (h : p.length = 64) : (tornP p).length = 64 := by simp [tornP, clean64, h]
theorem byte_torn {p : List Int} (h : ∀ x ∈ p, byte x) : ∀ x ∈ tornP p, byte x := by
  intro x hx
  rcases List.mem_append.1 hx with hx | hx
  · exact byte_clean x (List.mem_of_mem_take hx)
  · exact h x (List.mem_of_mem_drop hx)
theorem dec_lim {l : Int} (h1 : -1 ≤ l) (h2 : l ≤ 9223372036854775807) : -1 ≤ decL l ∧ decL l ≤ 9223372036854775807 := by unfold decL; split <;> omega
theorem byte_set {p : List Int} (h : ∀ x ∈ p, byte x) (j : Nat) {y : Int} (hy : byte y) : ∀ x ∈ p.set j y, byte x := by
  intro x hx
  rcases List.mem_or_eq_of_mem_set hx with hx | rfl
  · exact h x hx
  · exact hy
theorem laidF_bytes : ∀ (b : List Int) (j : Nat) (pg : List Int) (left : Int), (∀ x ∈ b, byte x) → (∀ x ∈ pg, byte x) → ∀ x ∈ (laidF b j pg left).1, byte x
  | [], _, _, _, _, hp => hp
  | y :: b, j, pg, left, hb, hp => by
    unfold laidF
    split
    · exact byte_set hp j (byte_or15 y)
    · exact laidF_bytes b _ _ _ (fun x hx => hb x (by simp [hx])) (byte_set hp j (hb y (by simp)))
theorem laidF_left : ∀ (b : List Int) (j : Nat) (pg : List Int) (left : Int), -1 ≤ left → left ≤ 9223372036854775807 → -1 ≤ (laidF b j pg left).2.1 ∧ (laidF b j pg left).2.1 ≤ 9223372036854775807 ∧ ((laidF b j pg left).2.2 = true → (laidF b j pg left).2.1 = 0)
  | [], _, _, _, h1, h2 => ⟨h1, h2, by simp [laidF]⟩
  | y :: b, j, pg, left, h1, h2 => by
    unfold laidF
    split
    · simp
    · obtain ⟨h3, h4⟩ := dec_lim h1 h2
      exact laidF_left b _ _ _ h3 h4
theorem fine_power {f : Flash} (h : f.fine) (l : Int) (h1 : -1 ≤ l) (h2 : l ≤ 9223372036854775807) : (powerF f l).fine :=
  ⟨⟨h.good.n1, h.good.n80, h.good.wl, h1, by simp [powerF], h.good.wear, h.good.block⟩, h.bytes, h2⟩
theorem set_block {ps : List (List Int)} (h : ∀ p ∈ ps, p.length = 64) (k : Nat) {q : List Int} (hq : q.length = 64) : ∀ p ∈ ps.set k q, p.length = 64 := by
  intro x hx
  rcases List.mem_or_eq_of_mem_set hx with hx | rfl
  · exact h x hx
  · exact hq
theorem set_bytes {ps : List (List Int)} (h : ∀ p ∈ ps, ∀ x ∈ p, byte x) (k : Nat) {q : List Int} (hq : ∀ x ∈ q, byte x) : ∀ p ∈ ps.set k q, ∀ x ∈ p, byte x := by
  intro x hx
  rcases List.mem_or_eq_of_mem_set hx with hx | rfl
  · exact h x hx
  · exact hq
theorem page_of {f : Flash} {page at_ n : Int} (h : inF f page at_ n = true) : page.toNat < f.pages.length ∧ f.pages.getD page.toNat [] ∈ f.pages := by
  obtain ⟨⟨h1, h2⟩, _⟩ := (inF_iff _ _ _ _).1 h
  have hk : page.toNat < f.pages.length := by omega
  refine ⟨hk, ?_⟩
  rw [List.getD_eq_getElem?_getD, List.getElem?_eq_getElem hk]
  exact List.getElem_mem hk
theorem fine_erase {f : Flash} (h : f.fine) (page : Int) : (eraseF f page).1.fine := by
  unfold eraseF
  split
  · exact h
  · split
    · exact h
    · rename_i hin
      obtain ⟨hk, hm⟩ := page_of (by simpa using hin)
      have h64 := h.good.block _ hm
      have hby := h.bytes _ hm
      split
      · exact ⟨⟨by simpa using h.good.n1, by simpa using h.good.n80, by simpa using h.good.wl, by show (-1 : Int) ≤ 0; decide, fun _ => rfl, h.good.wear, set_block h.good.block _ (torn_len h64)⟩, set_bytes h.bytes _ (byte_torn hby), by show (0 : Int) ≤ _; decide⟩
      · obtain ⟨h3, h4⟩ := dec_lim h.good.left h.lim
        refine ⟨⟨by simpa using h.good.n1, by simpa using h.good.n80, by simpa using h.good.wl, h3, fun hd => ?_, fun x hx => ?_, set_block h.good.block _ clean_len⟩, set_bytes h.bytes _ byte_clean, h4⟩
        · have := h.good.down hd
          rename_i h0; exact (h0 this).elim
        · rcases List.mem_or_eq_of_mem_set hx with hx | rfl
          · exact h.good.wear x hx
          · have hw : page.toNat < f.wear.length := by rw [h.good.wl]; exact hk
            have := h.good.wear (f.wear.getD page.toNat 0) (by rw [List.getD_eq_getElem?_getD, List.getElem?_eq_getElem hw]; exact List.getElem_mem hw)
            omega
theorem fine_write {f : Flash} (h : f.fine) (page at_ : Int) {b : List Int} (hb : ∀ x ∈ b, byte x) : (writeF f page at_ b).1.fine := by
  unfold writeF
  split
  · exact h
  · split
    · exact h
    · rename_i hin
      obtain ⟨hk, hm⟩ := page_of (by simpa using hin)
      have h64 := h.good.block _ hm
      have hby := h.bytes _ hm
      split
      · exact h
      · obtain ⟨h3, h4, h5⟩ := laidF_left b at_.toNat (f.pages.getD page.toNat []) f.left h.good.left h.lim
        exact ⟨⟨by simpa using h.good.n1, by simpa using h.good.n80, by simpa using h.good.wl, h3, h5, h.good.wear, set_block h.good.block _ (by rw [laidF_len]; exact h64)⟩, set_bytes h.bytes _ (laidF_bytes _ _ _ _ hb hby), h4⟩
theorem fine_new (n : Nat) (h1 : 1 ≤ n) (h2 : n ≤ 80) : (newF n).fine :=
  ⟨⟨by simpa [newF] using h1, by simpa [newF] using h2, by simp [newF], by show (-1 : Int) ≤ -1; decide, by simp [newF], fun x hx => by rw [(List.mem_replicate.1 hx).2]; omega, fun p hp => by rw [(List.mem_replicate.1 hp).2]; rfl⟩,
    fun p hp => by rw [(List.mem_replicate.1 hp).2]; exact byte_clean, by show (-1 : Int) ≤ _; decide⟩
theorem read_bytes {f : Flash} (h : f.fine) (page at_ n : Int) : ∀ x ∈ (readF f page at_ n).1, byte x := by
  unfold readF
  split
  · simp
  · split
    · simp
    · rename_i hin
      obtain ⟨hk, hm⟩ := page_of (by simpa using hin)
      exact fun x hx => h.bytes _ hm x (List.mem_of_mem_drop (List.mem_of_mem_take hx))
end Go.Proofs.YtihippjbbcpggaaFw

/-
  Walks: the head.
-/
namespace Go.Proofs.YtihippjbbcpggaaFw
open Go Go.Proofs
set_option maxRecDepth 100000
set_option maxHeartbeats 4000000
set_option linter.unusedVariables false
set_option linter.unusedSimpArgs false

theorem byte_all {l : List Int} (h : (l.all fun x => decide (0 ≤ x) && decide (x ≤ 255)) = true) : ∀ x ∈ l, byte x := fun x hx => by
  have := List.all_eq_true.1 h x hx
  simpa [byte] using this
theorem head_ok : FnS Try.prog 9 [] [] (.bool true) [] := by
  obtain ⟨f0, e0⟩ : ∃ f, f = newF 2 := ⟨_, rfl⟩
  obtain ⟨f1, e1⟩ : ∃ f, f = powerF f0 1 := ⟨_, rfl⟩
  obtain ⟨x2, e2⟩ : ∃ x, x = writeF f1 1 3 [18, 18, 18] := ⟨_, rfl⟩
  obtain ⟨x3, e3⟩ : ∃ x, x = eraseF x2.1 1 := ⟨_, rfl⟩
  obtain ⟨f4, e4⟩ : ∃ f, f = powerF x2.1 (-1) := ⟨_, rfl⟩
  obtain ⟨x5, e5⟩ : ∃ x, x = readF f4 1 2 4 := ⟨_, rfl⟩
  obtain ⟨x6, e6⟩ : ∃ x, x = writeF f4 1 4 [1] := ⟨_, rfl⟩
  obtain ⟨x7, e7⟩ : ∃ x, x = writeF f4 2 0 [] := ⟨_, rfl⟩
  obtain ⟨x8, e8⟩ : ∃ x, x = eraseF f4 1 := ⟨_, rfl⟩
  obtain ⟨x9, e9⟩ : ∃ x, x = readF x8.1 1 3 1 := ⟨_, rfl⟩
  have g0 : f0.fine := by rw [e0]; exact fine_new 2 (by decide) (by decide)
  have g1 : f1.fine := by rw [e1]; exact fine_power g0 1 (by decide) (by decide)
  have b2 : ∀ x ∈ ([18, 18, 18] : List Int), byte x := byte_all rfl
  have b6 : ∀ x ∈ ([1] : List Int), byte x := byte_all rfl
  have g2 : x2.1.fine := by rw [e2]; exact fine_write g1 _ _ b2
  have g4 : f4.fine := by rw [e4]; exact fine_power g2 (-1) (by decide) (by decide)
  have g8 : x8.1.fine := by rw [e8]; exact fine_erase g4 _
  have all : x2.2 = 250 ∧ x3.2 = 250 ∧ x5 = ([255, 18, 31, 255], 0) ∧ x6.2 = 252 ∧ x7.2 = 251 ∧ x8.2 = 0 ∧ x9 = ([255], 0) ∧ rightF x8.1 = true ∧ sameF x8.1 x8.1 = true ∧ sameF x8.1 f0 = false ∧ rightF ⟨[], [], 0, false⟩ = false := by
    subst e9 e8 e7 e6 e5 e4 e3 e2 e1 e0
    decide +kernel
  obtain ⟨v2, v3, v5, v6, v7, v8, v9, r1, r2, r3, r4⟩ := all
  refine fn_walk tabOk Try.func9 rfl (by decide +kernel) Try.ntmps9 Try.results9 (by simp) fun B hB => ?_
  try refine hK _ ?_
  repeat (first | refine awp_seq ?_ | refine awp_block ?_ | refine awp_skip ?_ | refine awp_scope ?_ | refine awp_label ?_)
  refine awp_region tabOk fun K hK => ?_
  simp -dsimp -implicitDefEqProofs only [push_cast, ↓trAdd_f, ↓stOf_f, seval]
  try refine hK _ ?_
  repeat (first | refine awp_seq ?_ | refine awp_block ?_ | refine awp_skip ?_ | refine awp_scope ?_ | refine awp_label ?_)
  refine awp_region tabOk fun K hK => ?_
  simp -dsimp -implicitDefEqProofs only [push_cast, ↓trAdd_f, ↓stOf_f, seval]
  refine callK_simple (new_ok 2 (by decide)) ?_ rfl fun _ => ?_
  · simp -dsimp -implicitDefEqProofs only [push_cast, List.mem_append, List.mem_cons, List.mem_singleton, forall_eq_or_imp, forall_eq, ↓trAdd_f, ↓stOf_f, seval]
  rw [← e0]
  simp -dsimp -implicitDefEqProofs only [encFlash, push_cast, ↓trAdd_f, ↓stOf_f, seval]
  refine callK_simple (power_ok f0 1) ?_ rfl fun _ => ?_
  · simp -dsimp -implicitDefEqProofs only [encFlash, push_cast, List.mem_append, List.mem_cons, List.mem_singleton, forall_eq_or_imp, forall_eq, ↓trAdd_f, ↓stOf_f, seval]
  rw [← e1]
  simp -dsimp -implicitDefEqProofs only [encFlash, push_cast, ↓trAdd_f, ↓stOf_f, seval]
  refine callK_simple (write_ok f1 1 3 false [18, 18, 18] g1.good g1.bytes g1.lim (by decide)) ?_ rfl fun _ => ?_
  · simp -dsimp -implicitDefEqProofs only [encFlash, encB, push_cast, List.mem_append, List.mem_cons, List.mem_singleton, forall_eq_or_imp, forall_eq, ↓trAdd_f, ↓stOf_f, seval]
  rw [← e2]
  simp -dsimp -implicitDefEqProofs only [v2, encFlash, push_cast, ↓trAdd_f, ↓stOf_f, seval]
  refine hK _ ?_
  try refine hK _ ?_
  repeat (first | refine awp_seq ?_ | refine awp_block ?_ | refine awp_skip ?_ | refine awp_scope ?_ | refine awp_label ?_)
  refine awp_region tabOk fun K hK => ?_
  simp -dsimp -implicitDefEqProofs only [push_cast, ↓trAdd_f, ↓stOf_f, seval]
  refine callK_simple (erase_ok x2.1 1 g2.good g2.lim) ?_ rfl fun _ => ?_
  · simp -dsimp -implicitDefEqProofs only [encFlash, push_cast, List.mem_append, List.mem_cons, List.mem_singleton, forall_eq_or_imp, forall_eq, ↓trAdd_f, ↓stOf_f, seval]
  rw [← e3]
  simp -dsimp -implicitDefEqProofs only [v3, encFlash, push_cast, ↓trAdd_f, ↓stOf_f, seval]
  refine hK _ ?_
  try refine hK _ ?_
  repeat (first | refine awp_seq ?_ | refine awp_block ?_ | refine awp_skip ?_ | refine awp_scope ?_ | refine awp_label ?_)
  refine awp_region tabOk fun K hK => ?_
  simp -dsimp -implicitDefEqProofs only [push_cast, ↓trAdd_f, ↓stOf_f, seval]
  refine callK_simple (power_ok x2.1 (-1)) ?_ rfl fun _ => ?_
  · simp -dsimp -implicitDefEqProofs only [encFlash, push_cast, List.mem_append, List.mem_cons, List.mem_singleton, forall_eq_or_imp, forall_eq, ↓trAdd_f, ↓stOf_f, seval]
  rw [← e4]
  simp -dsimp -implicitDefEqProofs only [encFlash, push_cast, ↓trAdd_f, ↓stOf_f, seval]
  refine hK _ ?_
  try refine hK _ ?_
  repeat (first | refine awp_seq ?_ | refine awp_block ?_ | refine awp_skip ?_ | refine awp_scope ?_ | refine awp_label ?_)
  refine awp_region tabOk fun K hK => ?_
  simp -dsimp -implicitDefEqProofs only [push_cast, ↓trAdd_f, ↓stOf_f, seval]
  refine callK_simple (read_ok f4 1 2 4 g4.good) ?_ rfl fun _ => ?_
  · simp -dsimp -implicitDefEqProofs only [encFlash, push_cast, List.mem_append, List.mem_cons, List.mem_singleton, forall_eq_or_imp, forall_eq, ↓trAdd_f, ↓stOf_f, seval]
  rw [← e5]
  simp -dsimp -implicitDefEqProofs only [v5, push_cast, ↓trAdd_f, ↓stOf_f, seval]
  refine hK _ ?_
  try refine hK _ ?_
  repeat (first | refine awp_seq ?_ | refine awp_block ?_ | refine awp_skip ?_ | refine awp_scope ?_ | refine awp_label ?_)
  refine awp_region tabOk fun K hK => ?_
  simp -dsimp -implicitDefEqProofs only [push_cast, ↓trAdd_f, ↓stOf_f, seval]
  refine callK_simple (write_ok f4 1 4 false [1] g4.good g4.bytes g4.lim (by decide)) ?_ rfl fun _ => ?_
  · simp -dsimp -implicitDefEqProofs only [encFlash, encB, push_cast, List.mem_append, List.mem_cons, List.mem_singleton, forall_eq_or_imp, forall_eq, ↓trAdd_f, ↓stOf_f, seval]
  rw [← e6]
  simp -dsimp -implicitDefEqProofs only [v6, encFlash, push_cast, ↓trAdd_f, ↓stOf_f, seval]
  refine hK _ ?_
  try refine hK _ ?_
  repeat (first | refine awp_seq ?_ | refine awp_block ?_ | refine awp_skip ?_ | refine awp_scope ?_ | refine awp_label ?_)
  refine awp_region tabOk fun K hK => ?_
  simp -dsimp -implicitDefEqProofs only [push_cast, ↓trAdd_f, ↓stOf_f, seval]
  refine callK_simple (write_ok f4 2 0 true [] g4.good g4.bytes g4.lim (by decide)) ?_ rfl fun _ => ?_
  · simp -dsimp -implicitDefEqProofs only [encFlash, push_cast, List.mem_append, List.mem_cons, List.mem_singleton, forall_eq_or_imp, forall_eq, ↓trAdd_f, ↓stOf_f, seval]
  rw [← e7]
  simp -dsimp -implicitDefEqProofs only [v7, encFlash, push_cast, ↓trAdd_f, ↓stOf_f, seval]
  refine hK _ ?_
  try refine hK _ ?_
  repeat (first | refine awp_seq ?_ | refine awp_block ?_ | refine awp_skip ?_ | refine awp_scope ?_ | refine awp_label ?_)
  refine awp_region tabOk fun K hK => ?_
  simp -dsimp -implicitDefEqProofs only [push_cast, ↓trAdd_f, ↓stOf_f, seval]
  refine callK_simple (erase_ok f4 1 g4.good g4.lim) ?_ rfl fun _ => ?_
  · simp -dsimp -implicitDefEqProofs only [encFlash, push_cast, List.mem_append, List.mem_cons, List.mem_singleton, forall_eq_or_imp, forall_eq, ↓trAdd_f, ↓stOf_f, seval]
  rw [← e8]
  simp -dsimp -implicitDefEqProofs only [v8, encFlash, push_cast, ↓trAdd_f, ↓stOf_f, seval]
  refine hK _ ?_
  try refine hK _ ?_
  repeat (first | refine awp_seq ?_ | refine awp_block ?_ | refine awp_skip ?_ | refine awp_scope ?_ | refine awp_label ?_)
  refine awp_region tabOk fun K hK => ?_
  simp -dsimp -implicitDefEqProofs only [push_cast, ↓trAdd_f, ↓stOf_f, seval]
  refine callK_simple (read_ok x8.1 1 3 1 g8.good) ?_ rfl fun _ => ?_
  · simp -dsimp -implicitDefEqProofs only [encFlash, push_cast, List.mem_append, List.mem_cons, List.mem_singleton, forall_eq_or_imp, forall_eq, ↓trAdd_f, ↓stOf_f, seval]
  rw [← e9]
  simp -dsimp -implicitDefEqProofs only [v9, push_cast, ↓trAdd_f, ↓stOf_f, seval]
  refine hK _ ?_
  try refine hK _ ?_
  repeat (first | refine awp_seq ?_ | refine awp_block ?_ | refine awp_skip ?_ | refine awp_scope ?_ | refine awp_label ?_)
  refine awp_draw tabOk (by kernel_rfl) (by kernel_rfl) fun K hK C hC => ?_
  simp -dsimp -implicitDefEqProofs only [push_cast, ↓trAdd_f, ↓stOf_f, seval]
  refine callK_simple (sameBytes_ok false false [255, 18, 31, 255] [255, 18, 31, 255] (byte_all rfl) (byte_all rfl)) ?_ rfl fun _ => ?_
  · simp -dsimp -implicitDefEqProofs only [encB, push_cast, List.mem_append, List.mem_cons, List.mem_singleton, forall_eq_or_imp, forall_eq, ↓trAdd_f, ↓stOf_f, seval]
  have q1 : decide (([255, 18, 31, 255] : List Int) = [255, 18, 31, 255]) = true := by decide
  have q2 : decide (([255] : List Int) = [255]) = true := by decide
  rw [q1]
  simp -dsimp -implicitDefEqProofs only [push_cast, ↓trAdd_f, ↓stOf_f, seval]
  refine callK_simple (sameBytes_ok false false [255] [255] (byte_all rfl) (byte_all rfl)) ?_ rfl fun _ => ?_
  · simp -dsimp -implicitDefEqProofs only [encB, push_cast, List.mem_append, List.mem_cons, List.mem_singleton, forall_eq_or_imp, forall_eq, ↓trAdd_f, ↓stOf_f, seval]
  rw [q2]
  simp -dsimp -implicitDefEqProofs only [push_cast, ↓trAdd_f, ↓stOf_f, seval]
  refine callK_simple (right_ok x8.1 (by have := g8.good.n80; omega) (by have := g8.good.wl; have := g8.good.n80; omega)) ?_ rfl fun _ => ?_
  · simp -dsimp -implicitDefEqProofs only [encFlash, push_cast, List.mem_append, List.mem_cons, List.mem_singleton, forall_eq_or_imp, forall_eq, ↓trAdd_f, ↓stOf_f, seval]
  rw [r1]
  simp -dsimp -implicitDefEqProofs only [push_cast, ↓trAdd_f, ↓stOf_f, seval]
  refine callK_simple (right_ok ⟨[], [], 0, false⟩ (by decide) (by decide)) ?_ rfl fun _ => ?_
  · simp -dsimp -implicitDefEqProofs only [encFlash, push_cast, List.mem_append, List.mem_cons, List.mem_singleton, forall_eq_or_imp, forall_eq, ↓trAdd_f, ↓stOf_f, seval]
  rw [r4]
  simp -dsimp -implicitDefEqProofs only [push_cast, ↓trAdd_f, ↓stOf_f, seval]
  refine callK_simple (same_ok x8.1 x8.1 g8.bytes g8.bytes (by have := g8.good.n80; omega) (by have := g8.good.wl; have := g8.good.n80; omega)) ?_ rfl fun _ => ?_
  · simp -dsimp -implicitDefEqProofs only [encFlash, push_cast, List.mem_append, List.mem_cons, List.mem_singleton, forall_eq_or_imp, forall_eq, ↓trAdd_f, ↓stOf_f, seval]
  rw [r2]
  simp -dsimp -implicitDefEqProofs only [push_cast, ↓trAdd_f, ↓stOf_f, seval]
  refine callK_simple (new_ok 2 (by decide)) ?_ rfl fun _ => ?_
  · simp -dsimp -implicitDefEqProofs only [push_cast, List.mem_append, List.mem_cons, List.mem_singleton, forall_eq_or_imp, forall_eq, ↓trAdd_f, ↓stOf_f, seval]
  rw [← e0]
  simp -dsimp -implicitDefEqProofs only [encFlash, push_cast, ↓trAdd_f, ↓stOf_f, seval]
  refine callK_simple (same_ok x8.1 f0 g8.bytes g0.bytes (by have := g8.good.n80; omega) (by have := g8.good.wl; have := g8.good.n80; omega)) ?_ rfl fun _ => ?_
  · simp -dsimp -implicitDefEqProofs only [encFlash, push_cast, List.mem_append, List.mem_cons, List.mem_singleton, forall_eq_or_imp, forall_eq, ↓trAdd_f, ↓stOf_f, seval]
  rw [r3]
  simp -dsimp -implicitDefEqProofs only [push_cast, ↓trAdd_f, ↓stOf_f, seval]
  refine ⟨hC _ (by kernel_rfl), hK _ (awp_ret ?_)⟩
  simp -dsimp -implicitDefEqProofs only [push_cast, List.mem_append, List.mem_cons, List.mem_singleton, forall_eq_or_imp, forall_eq, ↓trAdd_f, ↓stOf_f, seval]
end Go.Proofs.YtihippjbbcpggaaFw

/-
  How the laws' arguments read.
-/
namespace Go.Proofs.YtihippjbbcpggaaFw
open Go Go.Proofs
set_option linter.unusedVariables false
set_option linter.unusedSimpArgs false

theorem I64_wf {x : Int} (h : (Lit.int .i64 x).wf = true) : I64 x := by
  simpa [Lit.wf, IntKind.min, IntKind.max, IntKind.signed, IntKind.bits, I64] using h
theorem u8_wf {x : Int} (h : (Lit.int .u8 x).wf = true) : 0 ≤ x ∧ x ≤ 255 := by
  simpa [Lit.wf, IntKind.min, IntKind.max, IntKind.signed, IntKind.bits] using h
theorem u16_wf {x : Int} (h : (Lit.int .u16 x).wf = true) : 0 ≤ x ∧ x ≤ 65535 := by
  simpa [Lit.wf, IntKind.min, IntKind.max, IntKind.signed, IntKind.bits] using h
theorem opens3 : Opens Try.prog 3 1 (fun n : Int => [.int .i64 n]) I64 := (opens_int Try.underlying3 (by kernel_rfl)).conv (fun _ => rfl) fun y h => I64_wf h
theorem opens5 : Opens Try.prog 5 1 (fun n : Int => [.int .u8 n]) byte := (opens_int Try.underlying5 (by kernel_rfl)).conv (fun _ => rfl) fun y h => u8_wf h
theorem opens27 : Opens Try.prog 27 1 (fun n : Int => [.int .u16 n]) (fun n => 0 ≤ n ∧ n ≤ 65535) := (opens_int Try.underlying27 (by kernel_rfl)).conv (fun _ => rfl) fun y h => u16_wf h
theorem opens26 : Opens Try.prog 26 1 (fun l : List Int => [.sl false 1 (l.map encB)]) (fun l => l.length ≤ 140737488351232 ∧ ∀ b ∈ l, byte b) :=
  (opens_slice (B := 1) Try.underlying26 (by kernel_rfl) (by kernel_rfl) (by decide) (by decide) opens5).conv (fun _ => rfl) fun y h => ⟨h.2.1, h.2.2⟩
theorem opens22 : Opens Try.prog 22 1 (fun l : List (List Int) => [.sl false 1 (l.map encP)]) (fun l => l.length ≤ 140737488351232 ∧ ∀ p ∈ l, p.length ≤ 140737488351232 ∧ ∀ b ∈ p, byte b) :=
  (opens_slice (B := 24) Try.underlying22 (by kernel_rfl) (by kernel_rfl) (by decide) (by decide) opens26).conv (fun _ => rfl) fun y h => ⟨h.2.1, h.2.2⟩
theorem opens23 : Opens Try.prog 23 1 (fun l : List Int => [.sl false 1 (l.map encI)]) (fun l => l.length ≤ 140737488351232) :=
  (opens_slice (B := 8) Try.underlying23 (by kernel_rfl) (by kernel_rfl) (by decide) (by decide) opens3).conv (fun _ => rfl) fun y h => h.2.1
def Flash.wf (f : Flash) : Prop := f.pages.length ≤ 140737488351232 ∧ f.wear.length ≤ 140737488351232 ∧ f.bytes ∧ I64 f.left
theorem opens25 : Opens Try.prog 25 4 encFlash Flash.wf :=
  (opens_struct Try.underlying25 (by kernel_rfl) (opensF_cons rfl opens22 (opensF_cons rfl opens23 (opensF_cons rfl opens3 (opensF_one rfl (opens_bool Try.underlying4 (by kernel_rfl)))))) (fun x : Flash => (x.pages, x.wear, x.left, x.down)) (fun p => ⟨p.1, p.2.1, p.2.2.1, p.2.2.2⟩) (fun _ => rfl)).conv (fun _ => rfl) fun y h => ⟨h.1.1, h.2.1, fun p hp => (h.1.2 p hp).2, h.2.2.1⟩
theorem fine_of {f : Flash} (h : f.wf) (hr : rightF f = true) : f.fine := ⟨(right_iff f).1 hr, h.2.2.1, h.2.2.2.2⟩
theorem great_no {f : Flash} (h : greatF f = false) : f.pages.length ≤ 100 ∧ f.wear.length ≤ 100 ∧ ∀ p ∈ f.pages, p.length ≤ 100 := by
  unfold greatF at h
  simp only [Bool.or_eq_false_iff, decide_eq_false_iff_not, List.any_eq_false, decide_eq_true_eq] at h
  exact ⟨by omega, by omega, fun p hp => by have := h.2 p hp; omega⟩
theorem sameF_refl (f : Flash) : sameF f f = true := by simp [sameF]
end Go.Proofs.YtihippjbbcpggaaFw

/-
  What is written, with the power on, stands; what is erased is erased (no program in sight).
-/
namespace Go.Proofs.YtihippjbbcpggaaFw
open Go Go.Proofs
set_option linter.unusedVariables false

theorem u8_mod {x : Int} {n : Nat} (h : byte x) (hn : 1 ≤ n) : ∃ k : Nat, Int.tmod x (n : Int) = (k : Int) ∧ k < n := by
  have m1 : Int.tmod x n = x % n := Int.tmod_eq_emod_of_nonneg h.1
  have h1 := Int.emod_nonneg x (show (n : Int) ≠ 0 by omega)
  have h2 := Int.emod_lt_of_pos x (show (0 : Int) < n by omega)
  exact ⟨(x % n).toNat, by rw [m1]; omega, by omega⟩
def laidAt (b : List Int) (j : Nat) (pg : List Int) : List Int := pg.take j ++ b ++ pg.drop (j + b.length)
theorem laidAt_len (b : List Int) (j : Nat) (pg : List Int) (h : j + b.length ≤ pg.length) : (laidAt b j pg).length = pg.length := by
  unfold laidAt; simp; omega
theorem laidAt_get (b : List Int) (j : Nat) (pg : List Int) (h : j + b.length ≤ pg.length) (i : Nat) : (laidAt b j pg)[i]? = if i < j then pg[i]? else if i < j + b.length then b[i - j]? else pg[i]? := by
  unfold laidAt
  have hl : (pg.take j).length = j := by rw [List.length_take]; omega
  rw [List.append_assoc]
  split
  · rw [List.getElem?_append_left (by omega), List.getElem?_take, if_pos (by assumption)]
  · rw [List.getElem?_append_right (by omega), hl]
    split
    · rw [List.getElem?_append_left (by omega)]
    · rw [List.getElem?_append_right (by omega), List.getElem?_drop]
      congr 1; omega
theorem laidAt_cons (x : Int) (b : List Int) (j : Nat) (pg : List Int) (h : j + (b.length + 1) ≤ pg.length) : laidAt (x :: b) j pg = laidAt b (j + 1) (pg.set j x) := by
  apply List.ext_getElem?
  intro i
  rw [laidAt_get _ _ _ (by simpa using h), laidAt_get _ _ _ (by simp; omega)]
  by_cases h1 : i < j
  · rw [if_pos h1, if_pos (by omega), List.getElem?_set, if_neg (by omega)]
  · by_cases h2 : i = j
    · subst h2
      rw [if_neg h1, if_pos (by simp), if_pos (by omega), List.getElem?_set, if_pos rfl]
      simp; omega
    · rw [if_neg h1, if_neg (show ¬ i < j + 1 by omega)]
      have e : i - j = (i - (j + 1)) + 1 := by omega
      rw [e, List.getElem?_cons_succ, List.getElem?_set, if_neg (show ¬ j = i by omega), List.length_cons]
      by_cases h3 : i < j + (b.length + 1)
      · rw [if_pos h3, if_pos (by omega)]
      · rw [if_neg h3, if_neg (by omega)]
theorem laidF_on : ∀ (b : List Int) (j : Nat) (pg : List Int), j + b.length ≤ pg.length → laidF b j pg (-1) = (laidAt b j pg, -1, false)
  | [], j, pg, _ => by
    rw [laidF_nil]; unfold laidAt; simp
  | x :: b, j, pg, h => by
    have h' : j + (b.length + 1) ≤ pg.length := by simpa using h
    rw [laidF_next _ _ _ _ (by decide), show decL (-1) = -1 from rfl, laidF_on b (j + 1) _ (by simp; omega), laidAt_cons x b j pg h']
theorem erase_on {f : Flash} {k : Nat} (h : f.fine) (hk : k < f.pages.length) (hd : f.down = false) (hl : f.left = -1) :
    eraseF f k = ({ f with pages := f.pages.set k clean64, wear := f.wear.set k (min (f.wear.getD k 0 + 1) 1099511627776) }, 0) := by
  have hin : inF f k 0 0 = true := (inF_iff _ _ _ _).2 ⟨⟨by omega, by omega⟩, by omega, by omega, by omega⟩
  unfold eraseF
  rw [hd, hin, hl]
  simp [decL]
theorem write_on {f : Flash} {k a : Nat} {b : List Int} (h : f.fine) (hk : k < f.pages.length) (ha : a + b.length ≤ 64) (hd : f.down = false) (hl : f.left = -1) (hfree : freeF f.pages[k] a b.length = true) :
    writeF f k a b = ({ f with pages := f.pages.set k (laidAt b a f.pages[k]) }, 0) := by
  have hin : inF f k a b.length = true := (inF_iff _ _ _ _).2 ⟨⟨by omega, by omega⟩, by omega, by omega, by omega⟩
  have hgp : f.pages.getD k [] = f.pages[k] := by simp [List.getD, hk]
  have h64 := h.good.block _ (List.getElem_mem hk)
  unfold writeF
  rw [hd, hin, Int.toNat_natCast, Int.toNat_natCast, hgp, hfree, hl, laidF_on b a _ (by omega)]
  obtain ⟨ps, w, left, down⟩ := f
  simp only at hl hd
  subst hl hd
  simp
theorem read_on {f : Flash} {k a n : Nat} (h : f.fine) (hk : k < f.pages.length) (ha : a + n ≤ 64) (hd : f.down = false) : readF f k a n = ((f.pages[k].drop a).take n, 0) := by
  have hin : inF f k a n = true := (inF_iff _ _ _ _).2 ⟨⟨by omega, by omega⟩, by omega, by omega, by omega⟩
  have hgp : f.pages.getD k [] = f.pages[k] := by simp [List.getD, hk]
  unfold readF
  rw [hd, hin, Int.toNat_natCast, Int.toNat_natCast, Int.toNat_natCast, hgp]
  simp
theorem free_clean (a n : Nat) (h : a + n ≤ 64) : freeF clean64 a n = true := free_of clean64 a n rfl h fun i hi hn => by simp only [clean64, List.getElem_replicate]
theorem laidAt_mid (b : List Int) (j : Nat) (pg : List Int) (h : j + b.length ≤ pg.length) : ((laidAt b j pg).drop j).take b.length = b := by
  unfold laidAt
  have hl : (pg.take j).length = j := by rw [List.length_take]; omega
  rw [List.append_assoc, List.drop_append_of_le_length (by omega), List.drop_of_length_le (by omega), List.nil_append, List.take_append_of_le_length (by omega), List.take_length]
end Go.Proofs.YtihippjbbcpggaaFw

/-
  A writing that is cut off (no program in sight).
-/
namespace Go.Proofs.YtihippjbbcpggaaFw
open Go Go.Proofs
set_option linter.unusedVariables false

theorem laidAt_nil (j : Nat) (pg : List Int) : laidAt [] j pg = pg := by unfold laidAt; simp
theorem laidF_cut : ∀ (b : List Int) (j : Nat) (pg : List Int) (n : Nat) (hn : n < b.length), j + b.length ≤ pg.length → laidF b j pg (n : Int) = ((laidAt (b.take n) j pg).set (j + n) (or15 b[n]), 0, true)
  | x :: b, j, pg, 0, hn, h => by
    rw [show ((0 : Nat) : Int) = 0 from rfl, laidF_torn]
    simp [laidAt_nil]
  | x :: b, j, pg, n + 1, hn, h => by
    have hn' : n < b.length := by simpa using hn
    have h' : j + (b.length + 1) ≤ pg.length := by simpa using h
    have hd : decL ((n + 1 : Nat) : Int) = (n : Int) := by unfold decL; rw [if_pos (by omega)]; omega
    rw [laidF_next _ _ _ _ (by omega), hd, laidF_cut b (j + 1) (pg.set j x) n hn' (by simp; omega)]
    rw [List.take_succ_cons, laidAt_cons x (b.take n) j pg (by rw [List.length_take]; omega)]
    have e : j + 1 + n = j + (n + 1) := by omega
    rw [e]
    rfl
def tornAt (b : List Int) (a n : Nat) (x : Int) : List Int := (laidAt (b.take n) a clean64).set (a + n) x
theorem tornAt_len (b : List Int) (a n : Nat) (x : Int) (h : a + n ≤ 64) (hn : n ≤ b.length) : (tornAt b a n x).length = 64 := by
  unfold tornAt
  rw [List.length_set, laidAt_len _ _ _ (by rw [List.length_take, clean_len]; omega)]
  rfl
theorem tornAt_get (b : List Int) (a n : Nat) (x : Int) (h : a + n < 64) (hn : n ≤ b.length) (i : Nat) (hi : i < (tornAt b a n x).length) :
    (tornAt b a n x)[i] = if i = a + n then x else if a ≤ i ∧ i < a + n then b.getD (i - a) 0 else 255 := by
  have hl := tornAt_len b a n x (by omega) hn
  have hi64 : i < 64 := by omega
  have h1 : (tornAt b a n x)[i]? = some (tornAt b a n x)[i] := List.getElem?_eq_getElem hi
  have hb : (b.take n).length = n := by rw [List.length_take]; omega
  unfold tornAt at h1
  rw [List.getElem?_set, laidAt_get _ _ _ (by rw [hb, clean_len]; omega), hb] at h1
  have hc : clean64[i]? = some 255 := by unfold clean64; rw [List.getElem?_replicate, if_pos hi64]
  rw [hc] at h1
  by_cases e : i = a + n
  · subst e
    rw [if_pos rfl, if_pos (by rw [laidAt_len _ _ _ (by rw [hb, clean_len]; omega), clean_len]; omega)] at h1
    rw [if_pos rfl]
    exact (Option.some.inj h1).symm
  · rw [if_neg (fun q => e q.symm)] at h1
    rw [if_neg e]
    by_cases c : a ≤ i ∧ i < a + n
    · rw [if_neg (by omega), if_pos (by omega), List.getElem?_take, if_pos (by omega)] at h1
      rw [if_pos c, List.getD_eq_getElem?_getD, h1]
      rfl
    · rw [if_neg c]
      by_cases c2 : i < a
      · rw [if_pos c2] at h1; exact (Option.some.inj h1).symm
      · rw [if_neg c2, if_neg (by omega)] at h1; exact (Option.some.inj h1).symm
theorem write_cut {f : Flash} {k a n : Nat} {b : List Int} (h : f.fine) (hk : k < f.pages.length) (ha : a + b.length ≤ 64) (hn : n < b.length) (hd : f.down = false) (hl : f.left = n) (hp : f.pages[k] = clean64) :
    writeF f k a b = ({ f with pages := f.pages.set k (tornAt b a n (or15 b[n])), left := 0, down := true }, 250) := by
  have hin : inF f k a b.length = true := (inF_iff _ _ _ _).2 ⟨⟨by omega, by omega⟩, by omega, by omega, by omega⟩
  have hgp : f.pages.getD k [] = clean64 := by rw [← hp]; simp [List.getD, hk]
  unfold writeF
  rw [hd, hin, Int.toNat_natCast, Int.toNat_natCast, hgp, free_clean a b.length ha, hl, laidF_cut b a clean64 n hn (by rw [clean_len]; omega)]
  rfl
theorem read_down {f : Flash} (hd : f.down = true) (k a n : Int) : readF f k a n = ([], 250) := by unfold readF; rw [hd]; rfl
theorem write_down {f : Flash} (hd : f.down = true) (k a : Int) (b : List Int) : writeF f k a b = (f, 250) := by unfold writeF; rw [hd]; rfl
theorem erase_down {f : Flash} (hd : f.down = true) (k : Int) : eraseF f k = (f, 250) := by unfold eraseF; rw [hd]; rfl
end Go.Proofs.YtihippjbbcpggaaFw
