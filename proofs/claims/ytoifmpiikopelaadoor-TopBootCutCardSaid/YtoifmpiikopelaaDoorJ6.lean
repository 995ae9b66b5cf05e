import Derived.Test.YtoifmpiikopelaaDoorJ5
/-
  The law TopBootCut: a new image that is ready: whatever power there is, one of both begins.
-/
namespace Go.Proofs.YtoifmpiikopelaaDoorFw
open Go Go.Proofs
set_option maxRecDepth 100000
set_option maxHeartbeats 4000000
set_option linter.unusedVariables false
set_option linter.unusedSimpArgs false

def bcS (a b : List Int) (key : Int) (cuts : List Int) (x : Nat × Flash × Rec × Bool) : AS := { sl := [(2, .int .u32 key), (3, .sl false 1 (cuts.map encB)), (9, .bool true), (10, .ptr 100 0), (11, .ptr 101 0), (12, .ptr 102 0), (15, .bool x.2.2.2), (16, .int .i64 x.1)], st := [(100, .box (encImg ⟨1, a⟩)), (101, .box (encImg ⟨2, b⟩)), (102, .box (encFlash x.2.1))], nx := 2000, n := 155 }
theorem lawTopBootCut (a b : List Int) (key : Int) (cuts : List Int) (hab : ∀ x ∈ a, byte x) (hbb : ∀ x ∈ b, byte x) (hk : 0 ≤ key ∧ key ≤ 4294967295) (hcb : ∀ x ∈ cuts, byte x) :
    FnS Tryd.prog 10 [.sl false 1 (a.map encB), .sl false 1 (b.map encB), .int .u32 key, .sl false 1 (cuts.map encB)] [] (.bool true) [] := by
  have hkw := u32w hk
  have hmay := may32 hk
  refine fn_walk tabOk Tryd.func10 rfl (by decide +kernel) Tryd.ntmps10 Tryd.results10 (by simp) fun B hB => ?_
  try refine hK _ ?_
  repeat (first | refine awp_seq ?_ | refine awp_block ?_ | refine awp_skip ?_ | refine awp_scope ?_ | refine awp_label ?_)
  refine awp_region tabOk fun K hK => ?_
  simp -dsimp -implicitDefEqProofs only [push_cast, ↓trAdd_f, ↓stOf_f, seval]
  refine hK _ ?_
  try refine hK _ ?_
  repeat (first | refine awp_seq ?_ | refine awp_block ?_ | refine awp_skip ?_ | refine awp_scope ?_ | refine awp_label ?_)
  refine awp_region tabOk fun K hK => ?_
  simp -dsimp -implicitDefEqProofs only [push_cast, ↓trAdd_f, ↓stOf_f, seval]
  refine callK_simple head28_ok ?_ rfl fun _ => ?_
  · simp -dsimp -implicitDefEqProofs only [push_cast, List.mem_append, List.mem_cons, List.mem_singleton, forall_eq_or_imp, forall_eq, ↓trAdd_f, ↓stOf_f, seval]
  simp -dsimp -implicitDefEqProofs only [push_cast, ↓trAdd_f, ↓stOf_f, seval]
  refine hK _ ?_
  cases hA : ((a.length : Int) == 0) with
  | true =>
    try refine hK _ ?_
    repeat (first | refine awp_seq ?_ | refine awp_block ?_ | refine awp_skip ?_ | refine awp_scope ?_ | refine awp_label ?_)
    refine awp_region tabOk fun K hK => ?_
    simp -dsimp -implicitDefEqProofs only [hA, push_cast, ↓trAdd_f, ↓stOf_f, seval]
    refine hK _ ?_
    try refine hK _ ?_
    repeat (first | refine awp_seq ?_ | refine awp_block ?_ | refine awp_skip ?_ | refine awp_scope ?_ | refine awp_label ?_)
    refine awp_cond (b := true) (by simp -dsimp -implicitDefEqProofs only [push_cast, ↓trAdd_f, ↓stOf_f, seval]) (fun h => ?_) (fun h => ?_)
    rotate_left
    · cases h
    try refine hK _ ?_
    repeat (first | refine awp_seq ?_ | refine awp_block ?_ | refine awp_skip ?_ | refine awp_scope ?_ | refine awp_label ?_)
    refine awp_region tabOk fun K hK => ?_
    simp -dsimp -implicitDefEqProofs only [push_cast, ↓trAdd_f, ↓stOf_f, seval]
    refine hK _ (awp_ret ?_)
    simp -dsimp -implicitDefEqProofs only [push_cast, List.mem_append, List.mem_cons, List.mem_singleton, forall_eq_or_imp, forall_eq, ↓trAdd_f, ↓stOf_f, seval]
  | false =>
  cases hQ : ((b.length : Int) == 0) with
  | true =>
    try refine hK _ ?_
    repeat (first | refine awp_seq ?_ | refine awp_block ?_ | refine awp_skip ?_ | refine awp_scope ?_ | refine awp_label ?_)
    refine awp_region tabOk fun K hK => ?_
    simp -dsimp -implicitDefEqProofs only [hA, hQ, push_cast, ↓trAdd_f, ↓stOf_f, seval]
    refine hK _ ?_
    try refine hK _ ?_
    repeat (first | refine awp_seq ?_ | refine awp_block ?_ | refine awp_skip ?_ | refine awp_scope ?_ | refine awp_label ?_)
    refine awp_cond (b := true) (by simp -dsimp -implicitDefEqProofs only [push_cast, ↓trAdd_f, ↓stOf_f, seval]) (fun h => ?_) (fun h => ?_)
    rotate_left
    · cases h
    try refine hK _ ?_
    repeat (first | refine awp_seq ?_ | refine awp_block ?_ | refine awp_skip ?_ | refine awp_scope ?_ | refine awp_label ?_)
    refine awp_region tabOk fun K hK => ?_
    simp -dsimp -implicitDefEqProofs only [push_cast, ↓trAdd_f, ↓stOf_f, seval]
    refine hK _ (awp_ret ?_)
    simp -dsimp -implicitDefEqProofs only [push_cast, List.mem_append, List.mem_cons, List.mem_singleton, forall_eq_or_imp, forall_eq, ↓trAdd_f, ↓stOf_f, seval]
  | false =>
  cases hD : decide (200 < (a.length : Int)) with
  | true =>
    try refine hK _ ?_
    repeat (first | refine awp_seq ?_ | refine awp_block ?_ | refine awp_skip ?_ | refine awp_scope ?_ | refine awp_label ?_)
    refine awp_region tabOk fun K hK => ?_
    simp -dsimp -implicitDefEqProofs only [hA, hQ, hD, push_cast, ↓trAdd_f, ↓stOf_f, seval]
    refine hK _ ?_
    try refine hK _ ?_
    repeat (first | refine awp_seq ?_ | refine awp_block ?_ | refine awp_skip ?_ | refine awp_scope ?_ | refine awp_label ?_)
    refine awp_cond (b := true) (by simp -dsimp -implicitDefEqProofs only [push_cast, ↓trAdd_f, ↓stOf_f, seval]) (fun h => ?_) (fun h => ?_)
    rotate_left
    · cases h
    try refine hK _ ?_
    repeat (first | refine awp_seq ?_ | refine awp_block ?_ | refine awp_skip ?_ | refine awp_scope ?_ | refine awp_label ?_)
    refine awp_region tabOk fun K hK => ?_
    simp -dsimp -implicitDefEqProofs only [push_cast, ↓trAdd_f, ↓stOf_f, seval]
    refine hK _ (awp_ret ?_)
    simp -dsimp -implicitDefEqProofs only [push_cast, List.mem_append, List.mem_cons, List.mem_singleton, forall_eq_or_imp, forall_eq, ↓trAdd_f, ↓stOf_f, seval]
  | false =>
  cases hE : decide (200 < (b.length : Int)) with
  | true =>
    try refine hK _ ?_
    repeat (first | refine awp_seq ?_ | refine awp_block ?_ | refine awp_skip ?_ | refine awp_scope ?_ | refine awp_label ?_)
    refine awp_region tabOk fun K hK => ?_
    simp -dsimp -implicitDefEqProofs only [hA, hQ, hD, hE, push_cast, ↓trAdd_f, ↓stOf_f, seval]
    refine hK _ ?_
    try refine hK _ ?_
    repeat (first | refine awp_seq ?_ | refine awp_block ?_ | refine awp_skip ?_ | refine awp_scope ?_ | refine awp_label ?_)
    refine awp_cond (b := true) (by simp -dsimp -implicitDefEqProofs only [push_cast, ↓trAdd_f, ↓stOf_f, seval]) (fun h => ?_) (fun h => ?_)
    rotate_left
    · cases h
    try refine hK _ ?_
    repeat (first | refine awp_seq ?_ | refine awp_block ?_ | refine awp_skip ?_ | refine awp_scope ?_ | refine awp_label ?_)
    refine awp_region tabOk fun K hK => ?_
    simp -dsimp -implicitDefEqProofs only [push_cast, ↓trAdd_f, ↓stOf_f, seval]
    refine hK _ (awp_ret ?_)
    simp -dsimp -implicitDefEqProofs only [push_cast, List.mem_append, List.mem_cons, List.mem_singleton, forall_eq_or_imp, forall_eq, ↓trAdd_f, ↓stOf_f, seval]
  | false =>
  cases hF : decide (10 < (cuts.length : Int)) with
  | true =>
    try refine hK _ ?_
    repeat (first | refine awp_seq ?_ | refine awp_block ?_ | refine awp_skip ?_ | refine awp_scope ?_ | refine awp_label ?_)
    refine awp_region tabOk fun K hK => ?_
    simp -dsimp -implicitDefEqProofs only [hA, hQ, hD, hE, hF, push_cast, ↓trAdd_f, ↓stOf_f, seval]
    refine hK _ ?_
    try refine hK _ ?_
    repeat (first | refine awp_seq ?_ | refine awp_block ?_ | refine awp_skip ?_ | refine awp_scope ?_ | refine awp_label ?_)
    refine awp_cond (b := true) (by simp -dsimp -implicitDefEqProofs only [push_cast, ↓trAdd_f, ↓stOf_f, seval]) (fun h => ?_) (fun h => ?_)
    rotate_left
    · cases h
    try refine hK _ ?_
    repeat (first | refine awp_seq ?_ | refine awp_block ?_ | refine awp_skip ?_ | refine awp_scope ?_ | refine awp_label ?_)
    refine awp_region tabOk fun K hK => ?_
    simp -dsimp -implicitDefEqProofs only [push_cast, ↓trAdd_f, ↓stOf_f, seval]
    refine hK _ (awp_ret ?_)
    simp -dsimp -implicitDefEqProofs only [push_cast, List.mem_append, List.mem_cons, List.mem_singleton, forall_eq_or_imp, forall_eq, ↓trAdd_f, ↓stOf_f, seval]
  | false =>
  have ha0 : (a.length : Int) ≠ 0 := by simpa using hA
  have hb0 : (b.length : Int) ≠ 0 := by simpa using hQ
  have ha2 := of_decide_eq_false hD
  have hb2 := of_decide_eq_false hE
  have hc6 := of_decide_eq_false hF
  try refine hK _ ?_
  repeat (first | refine awp_seq ?_ | refine awp_block ?_ | refine awp_skip ?_ | refine awp_scope ?_ | refine awp_label ?_)
  refine awp_region tabOk fun K hK => ?_
  simp -dsimp -implicitDefEqProofs only [hA, hQ, hD, hE, hF, push_cast, ↓trAdd_f, ↓stOf_f, seval]
  refine hK _ ?_
  try refine hK _ ?_
  repeat (first | refine awp_seq ?_ | refine awp_block ?_ | refine awp_skip ?_ | refine awp_scope ?_ | refine awp_label ?_)
  refine awp_cond (b := false) (by simp -dsimp -implicitDefEqProofs only [push_cast, ↓trAdd_f, ↓stOf_f, seval]) (fun h => ?_) (fun h => ?_)
  · cases h
  refine awp_skip ?_
  have hgm : (Img.mk 1 a).good := img_good2 1 a (by decide) (by omega) (by omega) hab
  have hgn : (Img.mk 2 b).good := img_good2 2 b (by decide) (by omega) (by omega) hbb
  have hvv : (Img.mk 1 a).ver < (Img.mk 2 b).ver := by show (1 : Int) < 2; decide
  have hld := laid_ok ⟨1, a⟩ key hgm hmay
  have hLz := (laid_is hgm key).2.2.2
  obtain ⟨hl0, r0, hL⟩ := laid_bc hgm hgn hmay hvv hLz
  have hlo : FnS Tryd.prog 36 [.agg (encFlash (laidZ ⟨1, a⟩ key)), .int .i64 0, .agg (encImg ⟨2, b⟩), .int .i64 key] [] _ [] := loaded_ok (laidZ ⟨1, a⟩ key) 0 ⟨2, b⟩ key hLz.big (by decide) hgn hmay
  rw [hl0] at hlo
  generalize (loadedF (laidZ ⟨1, a⟩ key) 0 ⟨2, b⟩ key).1 = Y at *
  clear hLz
  generalize laidZ ⟨1, a⟩ key = Z at *
  try refine hK _ ?_
  repeat (first | refine awp_seq ?_ | refine awp_block ?_ | refine awp_skip ?_ | refine awp_scope ?_ | refine awp_label ?_)
  refine awp_region tabOk fun K hK => ?_
  simp -dsimp -implicitDefEqProofs only [push_cast, ↓trAdd_f, ↓stOf_f, seval]
  refine hK _ ?_
  try refine hK _ ?_
  repeat (first | refine awp_seq ?_ | refine awp_block ?_ | refine awp_skip ?_ | refine awp_scope ?_ | refine awp_label ?_)
  refine awp_region tabOk fun K hK => ?_
  simp -dsimp -implicitDefEqProofs only [push_cast, ↓trAdd_f, ↓stOf_f, seval]
  refine hK _ ?_
  try refine hK _ ?_
  repeat (first | refine awp_seq ?_ | refine awp_block ?_ | refine awp_skip ?_ | refine awp_scope ?_ | refine awp_label ?_)
  refine awp_region tabOk fun K hK => ?_
  simp -dsimp -implicitDefEqProofs only [hkw, push_cast, ↓trAdd_f, ↓stOf_f, seval]
  refine callK_simple hld ?_ rfl fun _ => ?_
  · simp -dsimp -implicitDefEqProofs only [push_cast, List.mem_append, List.mem_cons, List.mem_singleton, forall_eq_or_imp, forall_eq, ↓trAdd_f, ↓stOf_f, seval]
  simp -dsimp -implicitDefEqProofs only [push_cast, ↓trAdd_f, ↓stOf_f, seval]
  refine hK _ ?_
  try refine hK _ ?_
  repeat (first | refine awp_seq ?_ | refine awp_block ?_ | refine awp_skip ?_ | refine awp_scope ?_ | refine awp_label ?_)
  refine awp_region tabOk fun K hK => ?_
  simp -dsimp -implicitDefEqProofs only [hkw, push_cast, ↓trAdd_f, ↓stOf_f, seval]
  refine callK_simple hlo ?_ rfl fun _ => ?_
  · simp -dsimp -implicitDefEqProofs only [push_cast, List.mem_append, List.mem_cons, List.mem_singleton, forall_eq_or_imp, forall_eq, ↓trAdd_f, ↓stOf_f, seval]
  simp -dsimp -implicitDefEqProofs only [push_cast, ↓trAdd_f, ↓stOf_f, seval]
  refine hK _ ?_
  try refine hK _ ?_
  repeat (first | refine awp_seq ?_ | refine awp_block ?_ | refine awp_skip ?_ | refine awp_scope ?_ | refine awp_label ?_)
  refine awp_region tabOk fun K hK => ?_
  simp -dsimp -implicitDefEqProofs only [push_cast, ↓trAdd_f, ↓stOf_f, seval]
  refine hK _ ?_
  try refine hK _ ?_
  repeat (first | refine awp_seq ?_ | refine awp_block ?_ | refine awp_skip ?_ | refine awp_scope ?_ | refine awp_label ?_)
  refine awp_cond (b := false) (by simp -dsimp -implicitDefEqProofs only [push_cast, ↓trAdd_f, ↓stOf_f, seval]) (fun h => ?_) (fun h => ?_)
  · cases h
  refine awp_skip ?_
  try refine hK _ ?_
  repeat (first | refine awp_seq ?_ | refine awp_block ?_ | refine awp_skip ?_ | refine awp_scope ?_ | refine awp_label ?_)
  refine awp_region tabOk fun K hK => ?_
  simp -dsimp -implicitDefEqProofs only [push_cast, ↓trAdd_f, ↓stOf_f, seval]
  refine hK _ ?_
  try refine hK _ ?_
  repeat (first | refine awp_seq ?_ | refine awp_block ?_ | refine awp_skip ?_ | refine awp_scope ?_ | refine awp_label ?_)
  refine awp_region tabOk fun K hK => ?_
  simp -dsimp -implicitDefEqProofs only [push_cast, ↓trAdd_f, ↓stOf_f, seval]
  refine hK _ (awp_block ?_)
  have hcl : cuts.length ≤ 10 := by omega
  refine awp_for (fun x : Nat × Flash × Rec × Bool => bcS a b key cuts x) (fun x => x.1 ≤ cuts.length ∧ BcSt ⟨1, a⟩ ⟨2, b⟩ key (3 + 2 * (x.1 : Int)) x.2.2.2 x.2.1 x.2.2.1) (fun x => cuts.length - x.1) (0, Y, r0, false) ⟨Nat.zero_le _, hL.more (by show (3 : Int) ≤ 3 + 2 * ((0 : Nat) : Int); decide)⟩ ?_ fun x hx => ?_
  · simp only [bcS]
    refine le_intro hB [(100, 224), (101, 256), (102, 328)] (by simp) (fun b hb => absurd hb (Nat.not_lt_zero b)) rfl ?_ ?_ rfl <;> simp -dsimp -implicitDefEqProofs only [push_cast, ↓trAdd_f, ↓stOf_f, seval]
  obtain ⟨i, f, r, wl⟩ := x
  obtain ⟨hi, hJ⟩ := hx
  simp only at hi hJ
  simp only [bcS]
  clear hL hld hlo
  by_cases hlt : i < cuts.length
  rotate_left
  · have hie : i = cuts.length := by omega
    subst hie
    have d : decide ((cuts.length : Int) < (cuts.length : Int)) = false := by simp
    try refine hK _ ?_
    repeat (first | refine awp_seq ?_ | refine awp_block ?_ | refine awp_skip ?_ | refine awp_scope ?_ | refine awp_label ?_)
    refine awp_region tabOk fun K hK => ?_
    simp -dsimp -implicitDefEqProofs only [d, push_cast, ↓trAdd_f, ↓stOf_f, seval]
    try refine hK _ ?_
    repeat (first | refine awp_seq ?_ | refine awp_block ?_ | refine awp_skip ?_ | refine awp_scope ?_ | refine awp_label ?_)
    refine awp_cond (b := false) (by simp -dsimp -implicitDefEqProofs only [push_cast, ↓trAdd_f, ↓stOf_f, seval]) (fun h => ?_) (fun h => ?_)
    · cases h
    refine awp_exit rfl ?_
    try refine hK _ ?_
    repeat (first | refine awp_seq ?_ | refine awp_block ?_ | refine awp_skip ?_ | refine awp_scope ?_ | refine awp_label ?_)
    refine awp_region tabOk fun K hK => ?_
    simp -dsimp -implicitDefEqProofs only [push_cast, ↓trAdd_f, ↓stOf_f, seval]
    refine hK _ (awp_ret ?_)
    simp -dsimp -implicitDefEqProofs only [push_cast, List.mem_append, List.mem_cons, List.mem_singleton, forall_eq_or_imp, forall_eq, ↓trAdd_f, ↓stOf_f, seval]
  have d : decide ((i : Int) < (cuts.length : Int)) = true := by simpa using hlt
  have w : IntKind.i64.wrap ((i : Int) + 1) = (i : Int) + 1 := wrap_i64 (by omega) (by omega)
  try refine hK _ ?_
  repeat (first | refine awp_seq ?_ | refine awp_block ?_ | refine awp_skip ?_ | refine awp_scope ?_ | refine awp_label ?_)
  refine awp_region tabOk fun K hK => ?_
  simp -dsimp -implicitDefEqProofs only [d, push_cast, ↓trAdd_f, ↓stOf_f, seval]
  try refine hK _ ?_
  repeat (first | refine awp_seq ?_ | refine awp_block ?_ | refine awp_skip ?_ | refine awp_scope ?_ | refine awp_label ?_)
  refine awp_cond (b := true) (by simp -dsimp -implicitDefEqProofs only [push_cast, ↓trAdd_f, ↓stOf_f, seval]) (fun h => ?_) (fun h => ?_)
  rotate_left
  · cases h
  refine awp_skip ?_
  have hcb1 := hcb _ (List.getElem_mem hlt)
  have hcw := byte_w hcb1
  obtain ⟨t1, t2, t3⟩ := byte_mod hcb1 40 (by decide) (by decide)
  obtain ⟨u1, u2, u3⟩ := byte_mod hcb1 30 (by decide) (by decide)
  have hgc : (cuts.map encB).getD i [] = [.int .u8 cuts[i]] := getD_map encB _ _ hlt
  generalize cuts[i] = c at *
  generalize hl : c.tmod 40 = c1 at *
  generalize hl2 : c.tmod 30 = c2 at *
  have hP := hJ.power c1 t1 t2
  have hpw := power_ok f c1
  have hbo := bootF_ok (powerF f c1) key hP.big
  obtain ⟨hBb, r', hB', hcase, _, _⟩ := bc_boot hgm hgn hmay hvv hP rfl (by omega)
  have hpw2 := power_ok (bootF (powerF f c1) key).f (-1)
  generalize powerF f c1 = P at *
  generalize bootF P key = BR at *
  obtain ⟨Bf, Ba, Bm, Be⟩ := BR
  simp only at hBb hB' hcase hpw2
  try refine hK _ ?_
  repeat (first | refine awp_seq ?_ | refine awp_block ?_ | refine awp_skip ?_ | refine awp_scope ?_ | refine awp_label ?_)
  refine awp_draw tabOk (by kernel_rfl) (by kernel_rfl) fun K hK C hC => ?_
  simp -dsimp -implicitDefEqProofs only [hgc, hcw, t3, hl, hkw, push_cast, ↓trAdd_f, ↓stOf_f, seval]
  refine ⟨⟨by omega, by omega⟩, ?_⟩
  refine callK_simple hpw ?_ rfl fun _ => ?_
  · simp -dsimp -implicitDefEqProofs only [push_cast, List.mem_append, List.mem_cons, List.mem_singleton, forall_eq_or_imp, forall_eq, ↓trAdd_f, ↓stOf_f, seval]
  simp -dsimp -implicitDefEqProofs only [hkw, push_cast, ↓trAdd_f, ↓stOf_f, seval]
  refine callK_simple hbo ?_ rfl fun _ => ?_
  · simp -dsimp -implicitDefEqProofs only [push_cast, List.mem_append, List.mem_cons, List.mem_singleton, forall_eq_or_imp, forall_eq, ↓trAdd_f, ↓stOf_f, seval]
  simp -dsimp -implicitDefEqProofs only [push_cast, ↓trAdd_f, ↓stOf_f, seval]
  refine ⟨hC _ (by kernel_rfl), hK _ ?_⟩
  try refine hK _ ?_
  repeat (first | refine awp_seq ?_ | refine awp_block ?_ | refine awp_skip ?_ | refine awp_scope ?_ | refine awp_label ?_)
  refine awp_region tabOk fun K hK => ?_
  simp -dsimp -implicitDefEqProofs only [push_cast, ↓trAdd_f, ↓stOf_f, seval]
  refine callK_simple hpw2 ?_ rfl fun _ => ?_
  · simp -dsimp -implicitDefEqProofs only [push_cast, List.mem_append, List.mem_cons, List.mem_singleton, forall_eq_or_imp, forall_eq, ↓trAdd_f, ↓stOf_f, seval]
  simp -dsimp -implicitDefEqProofs only [push_cast, ↓trAdd_f, ↓stOf_f, seval]
  refine hK _ (awp_seq ?_)
  have hF1 := hB'.power (-1) (by decide) (by decide)
  have hF1d : (powerF Bf (-1)).down = false := rfl
  have hF1l : (powerF Bf (-1)).left = -1 := rfl
  have hpw3 := power_ok (powerF Bf (-1)) c2
  have hF2 := hF1.power c2 u1 u2
  have hwo := well1_ok (powerF (powerF Bf (-1)) c2) hF2.big
  have hF2d : (powerF (powerF Bf (-1)) c2).down = false := rfl
  have hpw4 := power_ok (wellF (powerF (powerF Bf (-1)) c2) 1).1 (-1)
  generalize powerF Bf (-1) = F1 at *
  generalize powerF F1 c2 = Q at *
  obtain ⟨od, hod⟩ : ∃ od : Bool, ((Int.tmod (i : Int) 2) == 1) = od := ⟨_, rfl⟩
  obtain ⟨cd, hcd⟩ : ∃ cd : Bool, cd = (((Be == 0) && (Bm.ver == 2)) && od) := ⟨_, rfl⟩
  have hfin : ∃ r2, BcSt ⟨1, a⟩ ⟨2, b⟩ key (3 + 2 * ((i + 1 : Nat) : Int)) (if cd then (wl || ((wellF Q 1).2 == 0)) else wl) (if cd then powerF (wellF Q 1).1 (-1) else F1) r2 ∧ (if cd then powerF (wellF Q 1).1 (-1) else F1).down = false ∧ (if cd then powerF (wellF Q 1).1 (-1) else F1).left = -1 := by
    cases cd with
    | false => exact ⟨r', hF1.more (by omega), hF1d, hF1l⟩
    | true =>
      have h34 : r'.s1 = 3 ∨ r'.s1 = 4 := by
        rcases hcase with ⟨_, _, _, q⟩ | ⟨e1, _, e2⟩ | ⟨e1, _⟩
        · exact q
        · rw [e2] at hcd; simp at hcd
        · rw [e1] at hcd; simp at hcd
      obtain ⟨_, r2, hw⟩ := bc_well hF2 hF2d (by omega) h34
      exact ⟨r2, (hw.power (-1) (by decide) (by decide)).more (by omega), rfl, rfl⟩
  refine awp_join { sl := [(2, .int .u32 key), (3, .sl false 1 (cuts.map encB)), (9, .bool true), (10, .ptr 100 0), (11, .ptr 101 0), (12, .ptr 102 0), (15, .bool (if cd then (wl || ((wellF Q 1).2 == 0)) else wl)), (16, .int .i64 i)], st := [(100, .box (encImg ⟨1, a⟩)), (101, .box (encImg ⟨2, b⟩)), (102, .box (encFlash (if cd then powerF (wellF Q 1).1 (-1) else F1)))], nx := 6000, n := 155 } ?_ (fun _ hl h => awp_le hl h) ?_
  · clear hpw hbo hpw2 hfin
    have skip_ : ∀ (e0 : Int), True := fun _ => trivial
    rcases hcase with ⟨e1, e2, e3, _⟩ | ⟨e1, e2, e3⟩ | ⟨e1, e2, e3, _⟩
    · rw [e1, e2, e3]
      rw [e1, e3] at hcd
      have hcd' : cd = od := by rw [hcd]; show ((0 : Int) == 0 && (2 : Int) == 2 && od) = od; rfl
      subst hcd'
      cases cd with
      | false =>
        try refine hK _ ?_
        repeat (first | refine awp_seq ?_ | refine awp_block ?_ | refine awp_skip ?_ | refine awp_scope ?_ | refine awp_label ?_)
        refine awp_region tabOk fun K hK => ?_
        simp -dsimp -implicitDefEqProofs only [hod, push_cast, ↓trAdd_f, ↓stOf_f, seval]
        refine hK _ ?_
        try refine hK _ ?_
        repeat (first | refine awp_seq ?_ | refine awp_block ?_ | refine awp_skip ?_ | refine awp_scope ?_ | refine awp_label ?_)
        refine awp_cond (b := false) (by simp -dsimp -implicitDefEqProofs only [push_cast, ↓trAdd_f, ↓stOf_f, seval]) (fun h => ?_) (fun h => ?_)
        · cases h
        refine awp_skip ?_
        simp only [if_false, Bool.false_eq_true]
        refine le_intro hB [(100, 100), (101, 101), (102, 102)] (by simp) (fun b hb => absurd hb (Nat.not_lt_zero b)) rfl ?_ ?_ rfl <;> simp -dsimp -implicitDefEqProofs only [push_cast, ↓trAdd_f, ↓stOf_f, seval]
      | true =>
        try refine hK _ ?_
        repeat (first | refine awp_seq ?_ | refine awp_block ?_ | refine awp_skip ?_ | refine awp_scope ?_ | refine awp_label ?_)
        refine awp_region tabOk fun K hK => ?_
        simp -dsimp -implicitDefEqProofs only [hod, push_cast, ↓trAdd_f, ↓stOf_f, seval]
        refine hK _ ?_
        try refine hK _ ?_
        repeat (first | refine awp_seq ?_ | refine awp_block ?_ | refine awp_skip ?_ | refine awp_scope ?_ | refine awp_label ?_)
        refine awp_cond (b := true) (by simp -dsimp -implicitDefEqProofs only [push_cast, ↓trAdd_f, ↓stOf_f, seval]) (fun h => ?_) (fun h => ?_)
        rotate_left
        · cases h
        try refine hK _ ?_
        repeat (first | refine awp_seq ?_ | refine awp_block ?_ | refine awp_skip ?_ | refine awp_scope ?_ | refine awp_label ?_)
        refine awp_draw tabOk (by kernel_rfl) (by kernel_rfl) fun K hK C hC => ?_
        simp -dsimp -implicitDefEqProofs only [hgc, hcw, u3, hl2, push_cast, ↓trAdd_f, ↓stOf_f, seval]
        refine ⟨⟨by omega, by omega⟩, ?_⟩
        refine callK_simple hpw3 ?_ rfl fun _ => ?_
        · simp -dsimp -implicitDefEqProofs only [push_cast, List.mem_append, List.mem_cons, List.mem_singleton, forall_eq_or_imp, forall_eq, ↓trAdd_f, ↓stOf_f, seval]
        simp -dsimp -implicitDefEqProofs only [push_cast, ↓trAdd_f, ↓stOf_f, seval]
        refine callK_simple hwo ?_ rfl fun _ => ?_
        · simp -dsimp -implicitDefEqProofs only [push_cast, List.mem_append, List.mem_cons, List.mem_singleton, forall_eq_or_imp, forall_eq, ↓trAdd_f, ↓stOf_f, seval]
        simp -dsimp -implicitDefEqProofs only [push_cast, ↓trAdd_f, ↓stOf_f, seval]
        refine ⟨hC _ (by kernel_rfl), hK _ ?_⟩
        try refine hK _ ?_
        repeat (first | refine awp_seq ?_ | refine awp_block ?_ | refine awp_skip ?_ | refine awp_scope ?_ | refine awp_label ?_)
        refine awp_region tabOk fun K hK => ?_
        simp -dsimp -implicitDefEqProofs only [push_cast, ↓trAdd_f, ↓stOf_f, seval]
        refine callK_simple hpw4 ?_ rfl fun _ => ?_
        · simp -dsimp -implicitDefEqProofs only [push_cast, List.mem_append, List.mem_cons, List.mem_singleton, forall_eq_or_imp, forall_eq, ↓trAdd_f, ↓stOf_f, seval]
        simp -dsimp -implicitDefEqProofs only [push_cast, ↓trAdd_f, ↓stOf_f, seval]
        refine hK _ ?_
        simp only [if_true]
        cases wl with
        | true =>
          try refine hK _ ?_
          repeat (first | refine awp_seq ?_ | refine awp_block ?_ | refine awp_skip ?_ | refine awp_scope ?_ | refine awp_label ?_)
          refine awp_region tabOk fun K hK => ?_
          simp -dsimp -implicitDefEqProofs only [push_cast, ↓trAdd_f, ↓stOf_f, seval]
          refine hK _ ?_
          refine le_intro hB [(100, 100), (101, 101), (102, 102)] (by simp) (fun b hb => absurd hb (Nat.not_lt_zero b)) rfl ?_ ?_ rfl <;> simp -dsimp -implicitDefEqProofs only [push_cast, ↓trAdd_f, ↓stOf_f, seval]
        | false =>
          try refine hK _ ?_
          repeat (first | refine awp_seq ?_ | refine awp_block ?_ | refine awp_skip ?_ | refine awp_scope ?_ | refine awp_label ?_)
          refine awp_region tabOk fun K hK => ?_
          simp -dsimp -implicitDefEqProofs only [push_cast, ↓trAdd_f, ↓stOf_f, seval]
          refine hK _ ?_
          refine le_intro hB [(100, 100), (101, 101), (102, 102)] (by simp) (fun b hb => absurd hb (Nat.not_lt_zero b)) rfl ?_ ?_ rfl <;> simp -dsimp -implicitDefEqProofs only [push_cast, ↓trAdd_f, ↓stOf_f, seval]
    · rw [e1, e2, e3]
      rw [e1, e3] at hcd
      have hcd' : cd = false := by rw [hcd]; rfl
      subst hcd'
      try refine hK _ ?_
      repeat (first | refine awp_seq ?_ | refine awp_block ?_ | refine awp_skip ?_ | refine awp_scope ?_ | refine awp_label ?_)
      refine awp_region tabOk fun K hK => ?_
      simp -dsimp -implicitDefEqProofs only [push_cast, ↓trAdd_f, ↓stOf_f, seval]
      refine hK _ ?_
      try refine hK _ ?_
      repeat (first | refine awp_seq ?_ | refine awp_block ?_ | refine awp_skip ?_ | refine awp_scope ?_ | refine awp_label ?_)
      refine awp_cond (b := false) (by simp -dsimp -implicitDefEqProofs only [push_cast, ↓trAdd_f, ↓stOf_f, seval]) (fun h => ?_) (fun h => ?_)
      · cases h
      refine awp_skip ?_
      simp only [if_false, Bool.false_eq_true]
      refine le_intro hB [(100, 100), (101, 101), (102, 102)] (by simp) (fun b hb => absurd hb (Nat.not_lt_zero b)) rfl ?_ ?_ rfl <;> simp -dsimp -implicitDefEqProofs only [push_cast, ↓trAdd_f, ↓stOf_f, seval]
    · rw [e1, e2, e3]
      rw [e1, e3] at hcd
      have hcd' : cd = false := by rw [hcd]; rfl
      subst hcd'
      try refine hK _ ?_
      repeat (first | refine awp_seq ?_ | refine awp_block ?_ | refine awp_skip ?_ | refine awp_scope ?_ | refine awp_label ?_)
      refine awp_region tabOk fun K hK => ?_
      simp -dsimp -implicitDefEqProofs only [img0, push_cast, ↓trAdd_f, ↓stOf_f, seval]
      refine hK _ ?_
      try refine hK _ ?_
      repeat (first | refine awp_seq ?_ | refine awp_block ?_ | refine awp_skip ?_ | refine awp_scope ?_ | refine awp_label ?_)
      refine awp_cond (b := false) (by simp -dsimp -implicitDefEqProofs only [push_cast, ↓trAdd_f, ↓stOf_f, seval]) (fun h => ?_) (fun h => ?_)
      · cases h
      refine awp_skip ?_
      simp only [if_false, Bool.false_eq_true]
      refine le_intro hB [(100, 100), (101, 101), (102, 102)] (by simp) (fun b hb => absurd hb (Nat.not_lt_zero b)) rfl ?_ ?_ rfl <;> simp -dsimp -implicitDefEqProofs only [push_cast, ↓trAdd_f, ↓stOf_f, seval]
  obtain ⟨r2, hS, hSd, hSl⟩ := hfin
  clear hpw hpw2 hpw3 hpw4 hwo hbo hF1 hF2 hB' hP hJ hcase hcd
  generalize (if cd then (wl || ((wellF Q 1).2 == 0)) else wl) = wl2 at *
  generalize (if cd then powerF (wellF Q 1).1 (-1) else F1) = F at *
  have hruns := bc_runs hgm hgn hmay hvv hS hSd hSl (by omega)
  refine awp_seq ?_
  refine awp_join { sl := [(2, .int .u32 key), (3, .sl false 1 (cuts.map encB)), (9, .bool true), (10, .ptr 100 0), (11, .ptr 101 0), (12, .ptr 102 0), (15, .bool wl2), (16, .int .i64 i), (153, .bool false)], st := [(100, .box (encImg ⟨1, a⟩)), (101, .box (encImg ⟨2, b⟩)), (102, .box (encFlash F))], nx := 9000, n := 155 } ?_ (fun _ hl h => awp_le hl h) ?_
  · rcases hruns with ⟨g, x, e⟩ | ⟨hw, g, x, e⟩
    · have k1 := runsF_ok (m := ⟨1, a⟩) (n := ⟨2, b⟩) hS.big hab hbb e (by show (2 : Int) ≠ 1; decide)
      have k2 := runsT_ok (m := ⟨2, b⟩) hS.big hbb e
      cases wl2 with
      | true =>
        try refine hK _ ?_
        repeat (first | refine awp_seq ?_ | refine awp_block ?_ | refine awp_skip ?_ | refine awp_scope ?_ | refine awp_label ?_)
        refine awp_region tabOk fun K hK => ?_
        simp -dsimp -implicitDefEqProofs only [hkw, push_cast, ↓trAdd_f, ↓stOf_f, seval]
        refine callK_simple k1 ?_ rfl fun _ => ?_
        · simp -dsimp -implicitDefEqProofs only [push_cast, List.mem_append, List.mem_cons, List.mem_singleton, forall_eq_or_imp, forall_eq, ↓trAdd_f, ↓stOf_f, seval]
        simp -dsimp -implicitDefEqProofs only [hkw, push_cast, ↓trAdd_f, ↓stOf_f, seval]
        refine callK_simple k2 ?_ rfl fun _ => ?_
        · simp -dsimp -implicitDefEqProofs only [push_cast, List.mem_append, List.mem_cons, List.mem_singleton, forall_eq_or_imp, forall_eq, ↓trAdd_f, ↓stOf_f, seval]
        simp -dsimp -implicitDefEqProofs only [hkw, push_cast, ↓trAdd_f, ↓stOf_f, seval]
        refine callK_simple k2 ?_ rfl fun _ => ?_
        · simp -dsimp -implicitDefEqProofs only [push_cast, List.mem_append, List.mem_cons, List.mem_singleton, forall_eq_or_imp, forall_eq, ↓trAdd_f, ↓stOf_f, seval]
        simp -dsimp -implicitDefEqProofs only [push_cast, ↓trAdd_f, ↓stOf_f, seval]
        refine hK _ ?_
        refine le_intro hB [(100, 100), (101, 101), (102, 102)] (by simp) (fun b hb => absurd hb (Nat.not_lt_zero b)) rfl ?_ ?_ rfl <;> simp -dsimp -implicitDefEqProofs only [push_cast, ↓trAdd_f, ↓stOf_f, seval]
      | false =>
        try refine hK _ ?_
        repeat (first | refine awp_seq ?_ | refine awp_block ?_ | refine awp_skip ?_ | refine awp_scope ?_ | refine awp_label ?_)
        refine awp_region tabOk fun K hK => ?_
        simp -dsimp -implicitDefEqProofs only [hkw, push_cast, ↓trAdd_f, ↓stOf_f, seval]
        refine callK_simple k1 ?_ rfl fun _ => ?_
        · simp -dsimp -implicitDefEqProofs only [push_cast, List.mem_append, List.mem_cons, List.mem_singleton, forall_eq_or_imp, forall_eq, ↓trAdd_f, ↓stOf_f, seval]
        simp -dsimp -implicitDefEqProofs only [hkw, push_cast, ↓trAdd_f, ↓stOf_f, seval]
        refine callK_simple k2 ?_ rfl fun _ => ?_
        · simp -dsimp -implicitDefEqProofs only [push_cast, List.mem_append, List.mem_cons, List.mem_singleton, forall_eq_or_imp, forall_eq, ↓trAdd_f, ↓stOf_f, seval]
        simp -dsimp -implicitDefEqProofs only [push_cast, ↓trAdd_f, ↓stOf_f, seval]
        refine hK _ ?_
        refine le_intro hB [(100, 100), (101, 101), (102, 102)] (by simp) (fun b hb => absurd hb (Nat.not_lt_zero b)) rfl ?_ ?_ rfl <;> simp -dsimp -implicitDefEqProofs only [push_cast, ↓trAdd_f, ↓stOf_f, seval]
    · subst hw
      have k1 := runsT_ok (m := ⟨1, a⟩) hS.big hab e
      try refine hK _ ?_
      repeat (first | refine awp_seq ?_ | refine awp_block ?_ | refine awp_skip ?_ | refine awp_scope ?_ | refine awp_label ?_)
      refine awp_region tabOk fun K hK => ?_
      simp -dsimp -implicitDefEqProofs only [hkw, push_cast, ↓trAdd_f, ↓stOf_f, seval]
      refine callK_simple k1 ?_ rfl fun _ => ?_
      · simp -dsimp -implicitDefEqProofs only [push_cast, List.mem_append, List.mem_cons, List.mem_singleton, forall_eq_or_imp, forall_eq, ↓trAdd_f, ↓stOf_f, seval]
      simp -dsimp -implicitDefEqProofs only [push_cast, ↓trAdd_f, ↓stOf_f, seval]
      refine hK _ ?_
      refine le_intro hB [(100, 100), (101, 101), (102, 102)] (by simp) (fun b hb => absurd hb (Nat.not_lt_zero b)) rfl ?_ ?_ rfl <;> simp -dsimp -implicitDefEqProofs only [push_cast, ↓trAdd_f, ↓stOf_f, seval]
  try refine hK _ ?_
  repeat (first | refine awp_seq ?_ | refine awp_block ?_ | refine awp_skip ?_ | refine awp_scope ?_ | refine awp_label ?_)
  refine awp_cond (b := false) (by simp -dsimp -implicitDefEqProofs only [push_cast, ↓trAdd_f, ↓stOf_f, seval]) (fun h => ?_) (fun h => ?_)
  · cases h
  refine awp_skip ?_
  try refine hK _ ?_
  repeat (first | refine awp_seq ?_ | refine awp_block ?_ | refine awp_skip ?_ | refine awp_scope ?_ | refine awp_label ?_)
  refine awp_region tabOk fun K hK => ?_
  simp -dsimp -implicitDefEqProofs only [w, push_cast, ↓trAdd_f, ↓stOf_f, seval]
  refine hK _ ⟨(i + 1, F, r2, wl2), ⟨hlt, hS⟩, by show cuts.length - (i + 1) < cuts.length - i; omega, ?_⟩
  simp only [bcS]
  refine le_intro hB [(100, 100), (101, 101), (102, 102)] (by simp) (fun b hb => absurd hb (Nat.not_lt_zero b)) rfl ?_ ?_ rfl <;> simp -dsimp -implicitDefEqProofs only [push_cast, ↓trAdd_f, ↓stOf_f, seval]
end Go.Proofs.YtoifmpiikopelaaDoorFw

/-
  How the laws' arguments read.
-/
namespace Go.Proofs.YtoifmpiikopelaaDoorFw
open Go Go.Proofs
set_option linter.unusedVariables false
set_option linter.unusedSimpArgs false

theorem I64_wf {x : Int} (h : (Lit.int .i64 x).wf = true) : I64 x := by
  simpa [Lit.wf, IntKind.min, IntKind.max, IntKind.signed, IntKind.bits, I64] using h
theorem u8_wf {x : Int} (h : (Lit.int .u8 x).wf = true) : 0 ≤ x ∧ x ≤ 255 := by
  simpa [Lit.wf, IntKind.min, IntKind.max, IntKind.signed, IntKind.bits] using h
theorem u16_wf {x : Int} (h : (Lit.int .u16 x).wf = true) : 0 ≤ x ∧ x ≤ 65535 := by
  simpa [Lit.wf, IntKind.min, IntKind.max, IntKind.signed, IntKind.bits] using h
theorem u32_wf {x : Int} (h : (Lit.int .u32 x).wf = true) : 0 ≤ x ∧ x ≤ 4294967295 := by
  simpa [Lit.wf, IntKind.min, IntKind.max, IntKind.signed, IntKind.bits] using h
theorem opens3 : Opens Tryd.prog 3 1 (fun n : Int => [.int .i64 n]) I64 := (opens_int Tryd.underlying3 (by kernel_rfl)).conv (fun _ => rfl) fun y h => I64_wf h
theorem opens4 : Opens Tryd.prog 4 1 (fun b : Bool => [.bool b]) (fun _ => True) := opens_bool Tryd.underlying4 (by kernel_rfl)
theorem opens5 : Opens Tryd.prog 5 1 (fun n : Int => [.int .u8 n]) byte := (opens_int Tryd.underlying5 (by kernel_rfl)).conv (fun _ => rfl) fun y h => u8_wf h
theorem opens56 : Opens Tryd.prog 56 1 (fun n : Int => [.int .u16 n]) (fun n => 0 ≤ n ∧ n ≤ 65535) := (opens_int Tryd.underlying56 (by kernel_rfl)).conv (fun _ => rfl) fun y h => u16_wf h
theorem opens25 : Opens Tryd.prog 25 1 (fun n : Int => [.int .u32 n]) (fun n => 0 ≤ n ∧ n ≤ 4294967295) := (opens_int Tryd.underlying25 (by kernel_rfl)).conv (fun _ => rfl) fun y h => u32_wf h
theorem opens22 : Opens Tryd.prog 22 1 (fun l : List Int => [.sl false 1 (l.map encB)]) (fun l => l.length ≤ 140737488351232 ∧ ∀ b ∈ l, byte b) :=
  (opens_slice (B := 1) Tryd.underlying22 (by kernel_rfl) (by kernel_rfl) (by decide) (by decide) opens5).conv (fun _ => rfl) fun y h => ⟨h.2.1, h.2.2⟩
theorem opens28 : Opens Tryd.prog 28 1 (fun l : List (List Int) => [.sl false 1 (l.map encP)]) (fun l => l.length ≤ 140737488351232 ∧ ∀ p ∈ l, p.length ≤ 140737488351232 ∧ ∀ b ∈ p, byte b) :=
  (opens_slice (B := 24) Tryd.underlying28 (by kernel_rfl) (by kernel_rfl) (by decide) (by decide) opens22).conv (fun _ => rfl) fun y h => ⟨h.2.1, h.2.2⟩
def Img.wf (m : Img) : Prop := I64 m.ver ∧ m.body.length ≤ 140737488351232 ∧ ∀ b ∈ m.body, byte b
theorem opens24 : Opens Tryd.prog 24 2 encImg Img.wf :=
  (opens_struct Tryd.underlying24 (by kernel_rfl) (opensF_cons rfl opens3 (opensF_one rfl opens22)) (fun x : Img => (x.ver, x.body)) (fun p => ⟨p.1, p.2⟩) (fun _ => rfl)).conv (fun _ => rfl) fun y h => ⟨h.1, h.2⟩
end Go.Proofs.YtoifmpiikopelaaDoorFw

/-
  The law TopBootCut, of arguments as they read.
-/
namespace Go.Proofs.YtoifmpiikopelaaDoorFw
open Go Go.Proofs
set_option linter.unusedVariables false
set_option linter.unusedSimpArgs false

theorem lawTopBootCutA (a b : List Int) (key : Int) (cuts : List Int) (ha : a.length ≤ 140737488351232 ∧ ∀ x ∈ a, byte x) (hb : b.length ≤ 140737488351232 ∧ ∀ x ∈ b, byte x) (hk : 0 ≤ key ∧ key ≤ 4294967295) (hc : cuts.length ≤ 140737488351232 ∧ ∀ x ∈ cuts, byte x) :
    FnS Tryd.prog 10 [.sl false 1 (a.map encB), .sl false 1 (b.map encB), .int .u32 key, .sl false 1 (cuts.map encB)] [] (.bool true) [] := lawTopBootCut a b key cuts ha.2 hb.2 hk hc.2
end Go.Proofs.YtoifmpiikopelaaDoorFw
