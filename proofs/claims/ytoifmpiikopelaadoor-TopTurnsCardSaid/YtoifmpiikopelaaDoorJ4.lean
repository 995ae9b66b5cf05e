import Derived.Test.YtoifmpiikopelaaDoorJ3
import Derived.Test.YtoifmpiikopelaaDoorJ1
/-
  Walks: load.blocks, put, whole, Begin, Block, End.
-/
namespace Go.Proofs.YtoifmpiikopelaaDoorFw
open Go Go.Proofs
set_option maxRecDepth 100000
set_option maxHeartbeats 4000000
set_option linter.unusedVariables false
set_option linter.unusedSimpArgs false

structure Load where
  on : Bool
  ver : Int
  len : Int
  have_ : Int
  slot : Int
def encLoad (l : Load) : List PV := [.bool l.on, .int .i64 l.ver, .int .i64 l.len, .int .i64 l.have_, .int .i64 l.slot]
def load0 : Load := ⟨false, 0, 0, 0, 0⟩
def blocksN (n : Nat) : Nat := (n + 63) / 64
theorem blocksL_ok (l : Load) (n : Nat) (hl : l.len = n) (hn : n ≤ 2 ^ 20) : FnS Tryd.prog 65 [.agg (encLoad l)] [] (.int .i64 (blocksN n)) [] := by
  have w1 : IntKind.i64.wrap ((n : Int) + 64) = (n : Int) + 64 := wrap_i64 (by omega) (by omega)
  have w2 : IntKind.i64.wrap ((n : Int) + 64 - 1) = (n : Int) + 63 := by rw [wrap_i64 (by omega) (by omega)]; omega
  have w3 : IntKind.i64.wrap (((n : Int) + 63).tdiv 64) = ((blocksN n : Nat) : Int) := by
    rw [Int.tdiv_eq_ediv_of_nonneg (by omega), wrap_i64 (by omega) (by omega)]
    unfold blocksN; omega
  refine fn_walk tabOk Tryd.func65 rfl (by decide +kernel) Tryd.ntmps65 Tryd.results65 (by simp) fun B hB => ?_
  try refine hK _ ?_
  repeat (first | refine awp_seq ?_ | refine awp_block ?_ | refine awp_skip ?_ | refine awp_scope ?_ | refine awp_label ?_)
  refine awp_region tabOk fun K hK => ?_
  simp -dsimp -implicitDefEqProofs only [encLoad, push_cast, ↓trAdd_f, ↓stOf_f, seval]
  refine hK _ ?_
  try refine hK _ ?_
  repeat (first | refine awp_seq ?_ | refine awp_block ?_ | refine awp_skip ?_ | refine awp_scope ?_ | refine awp_label ?_)
  refine awp_region tabOk fun K hK => ?_
  simp -dsimp -implicitDefEqProofs only [hl, w1, w2, w3, push_cast, ↓trAdd_f, ↓stOf_f, seval]
  refine hK _ (awp_ret ?_)
  simp -dsimp -implicitDefEqProofs only [push_cast, List.mem_append, List.mem_cons, List.mem_singleton, forall_eq_or_imp, forall_eq, ↓trAdd_f, ↓stOf_f, seval]
def recU (r : Rec) (a : Nat) (st ver tries : Int) : Rec := if a = 0 then ⟨r.seq + 1, st, r.s1, ver, r.v1, tries⟩ else ⟨r.seq + 1, r.s0, st, r.v0, ver, tries⟩
def putL (f : Flash) (r : Rec) (a : Nat) (st ver tries : Int) : Flash × Int := putF f (recU r a st ver tries)
theorem putL0_ok (f : Flash) (r : Rec) (st ver tries : Int) (hf : f.fine) (hs : 0 ≤ r.seq ∧ r.seq < 2147483648) : FnS Tryd.prog 61 [.agg (encFlash f), .agg (encRec r), .int .i64 0, .int .i64 st, .int .i64 ver, .int .i64 tries] [] (.tup [.agg (encFlash (putL f r 0 st ver tries).1), .int .i64 (putL f r 0 st ver tries).2]) [] := by
  have w : IntKind.i64.wrap (r.seq + 1) = r.seq + 1 := wrap_i64 (by omega) (by omega)
  refine fn_walk tabOk Tryd.func61 rfl (by decide +kernel) Tryd.ntmps61 Tryd.results61 (by simp) fun B hB => ?_
  try refine hK _ ?_
  repeat (first | refine awp_seq ?_ | refine awp_block ?_ | refine awp_skip ?_ | refine awp_scope ?_ | refine awp_label ?_)
  refine awp_region tabOk fun K hK => ?_
  simp -dsimp -implicitDefEqProofs only [encFlash, encRec, push_cast, ↓trAdd_f, ↓stOf_f, seval]
  refine hK _ ?_
  try refine hK _ ?_
  repeat (first | refine awp_seq ?_ | refine awp_block ?_ | refine awp_skip ?_ | refine awp_scope ?_ | refine awp_label ?_)
  refine awp_region tabOk fun K hK => ?_
  simp -dsimp -implicitDefEqProofs only [w, push_cast, ↓trAdd_f, ↓stOf_f, seval]
  refine hK _ ?_
  try refine hK _ ?_
  repeat (first | refine awp_seq ?_ | refine awp_block ?_ | refine awp_skip ?_ | refine awp_scope ?_ | refine awp_label ?_)
  refine awp_region tabOk fun K hK => ?_
  simp -dsimp -implicitDefEqProofs only [push_cast, ↓trAdd_f, ↓stOf_f, seval]
  refine hK _ ?_
  try refine hK _ ?_
  repeat (first | refine awp_seq ?_ | refine awp_block ?_ | refine awp_skip ?_ | refine awp_scope ?_ | refine awp_label ?_)
  refine awp_region tabOk fun K hK => ?_
  simp -dsimp -implicitDefEqProofs only [push_cast, ↓trAdd_f, ↓stOf_f, seval]
  refine callK_simple (put_ok f (recU r 0 st ver tries) hf) ?_ rfl fun _ => ?_
  · simp -dsimp -implicitDefEqProofs only [encFlash, encRec, recU, push_cast, List.mem_append, List.mem_cons, List.mem_singleton, forall_eq_or_imp, forall_eq, ↓trAdd_f, ↓stOf_f, seval]
  have e : putF f (recU r 0 st ver tries) = putL f r 0 st ver tries := rfl
  rw [e]
  generalize putL f r 0 st ver tries = o at *
  obtain ⟨o1, o2⟩ := o
  simp -dsimp -implicitDefEqProofs only [encFlash, push_cast, ↓trAdd_f, ↓stOf_f, seval]
  refine hK _ (awp_ret ?_)
  simp -dsimp -implicitDefEqProofs only [encFlash, push_cast, List.mem_append, List.mem_cons, List.mem_singleton, forall_eq_or_imp, forall_eq, ↓trAdd_f, ↓stOf_f, seval]
theorem putL1_ok (f : Flash) (r : Rec) (st ver tries : Int) (hf : f.fine) (hs : 0 ≤ r.seq ∧ r.seq < 2147483648) : FnS Tryd.prog 61 [.agg (encFlash f), .agg (encRec r), .int .i64 1, .int .i64 st, .int .i64 ver, .int .i64 tries] [] (.tup [.agg (encFlash (putL f r 1 st ver tries).1), .int .i64 (putL f r 1 st ver tries).2]) [] := by
  have w : IntKind.i64.wrap (r.seq + 1) = r.seq + 1 := wrap_i64 (by omega) (by omega)
  refine fn_walk tabOk Tryd.func61 rfl (by decide +kernel) Tryd.ntmps61 Tryd.results61 (by simp) fun B hB => ?_
  try refine hK _ ?_
  repeat (first | refine awp_seq ?_ | refine awp_block ?_ | refine awp_skip ?_ | refine awp_scope ?_ | refine awp_label ?_)
  refine awp_region tabOk fun K hK => ?_
  simp -dsimp -implicitDefEqProofs only [encFlash, encRec, push_cast, ↓trAdd_f, ↓stOf_f, seval]
  refine hK _ ?_
  try refine hK _ ?_
  repeat (first | refine awp_seq ?_ | refine awp_block ?_ | refine awp_skip ?_ | refine awp_scope ?_ | refine awp_label ?_)
  refine awp_region tabOk fun K hK => ?_
  simp -dsimp -implicitDefEqProofs only [w, push_cast, ↓trAdd_f, ↓stOf_f, seval]
  refine hK _ ?_
  try refine hK _ ?_
  repeat (first | refine awp_seq ?_ | refine awp_block ?_ | refine awp_skip ?_ | refine awp_scope ?_ | refine awp_label ?_)
  refine awp_region tabOk fun K hK => ?_
  simp -dsimp -implicitDefEqProofs only [push_cast, ↓trAdd_f, ↓stOf_f, seval]
  refine hK _ ?_
  try refine hK _ ?_
  repeat (first | refine awp_seq ?_ | refine awp_block ?_ | refine awp_skip ?_ | refine awp_scope ?_ | refine awp_label ?_)
  refine awp_region tabOk fun K hK => ?_
  simp -dsimp -implicitDefEqProofs only [push_cast, ↓trAdd_f, ↓stOf_f, seval]
  refine callK_simple (put_ok f (recU r 1 st ver tries) hf) ?_ rfl fun _ => ?_
  · simp -dsimp -implicitDefEqProofs only [encFlash, encRec, recU, push_cast, List.mem_append, List.mem_cons, List.mem_singleton, forall_eq_or_imp, forall_eq, ↓trAdd_f, ↓stOf_f, seval]
  have e : putF f (recU r 1 st ver tries) = putL f r 1 st ver tries := rfl
  rw [e]
  generalize putL f r 1 st ver tries = o at *
  obtain ⟨o1, o2⟩ := o
  simp -dsimp -implicitDefEqProofs only [encFlash, push_cast, ↓trAdd_f, ↓stOf_f, seval]
  refine hK _ (awp_ret ?_)
  simp -dsimp -implicitDefEqProofs only [encFlash, push_cast, List.mem_append, List.mem_cons, List.mem_singleton, forall_eq_or_imp, forall_eq, ↓trAdd_f, ↓stOf_f, seval]
def wholeL (f : Flash) (s n : Nat) (ver key : Int) : Int :=
  if f.down = true then 250 else
  if (readM (bytesS f s n).1 key).2 = 0 ∧ (readM (bytesS f s n).1 key).1.ver ≠ ver then 240 else (readM (bytesS f s n).1 key).2
theorem wholeL_ok (f : Flash) (l : Load) (key : Int) (s n : Nat) (hf : f.big) (hs : s ≤ 1) (hn : n ≤ 2176) (hls : l.slot = s) (hll : l.len = n) :
    FnS Tryd.prog 66 [.agg (encFlash f), .agg (encLoad l), .int .i64 key] [] (.int .i64 (wholeL f s n l.ver key)) [] := by
  have hbs := bytesS_bytes hf.fine.bytes s n
  refine fn_walk tabOk Tryd.func66 rfl (by decide +kernel) Tryd.ntmps66 Tryd.results66 (by simp) fun B hB => ?_
  try refine hK _ ?_
  repeat (first | refine awp_seq ?_ | refine awp_block ?_ | refine awp_skip ?_ | refine awp_scope ?_ | refine awp_label ?_)
  refine awp_region tabOk fun K hK => ?_
  simp -dsimp -implicitDefEqProofs only [encFlash, encLoad, push_cast, ↓trAdd_f, ↓stOf_f, seval]
  refine hK _ ?_
  try refine hK _ ?_
  repeat (first | refine awp_seq ?_ | refine awp_block ?_ | refine awp_skip ?_ | refine awp_scope ?_ | refine awp_label ?_)
  refine awp_region tabOk fun K hK => ?_
  simp -dsimp -implicitDefEqProofs only [hls, hll, push_cast, ↓trAdd_f, ↓stOf_f, seval]
  refine callK_simple (bytesS_ok f s n hs hn hf.n70 hf.fine.good.block) ?_ rfl fun _ => ?_
  · simp -dsimp -implicitDefEqProofs only [encFlash, push_cast, List.mem_append, List.mem_cons, List.mem_singleton, forall_eq_or_imp, forall_eq, ↓trAdd_f, ↓stOf_f, seval]
  by_cases hD : f.down = true
  · have e : wholeL f s n l.ver key = 250 := by unfold wholeL; rw [if_pos hD]
    have e2 : (bytesS f s n).2 = 250 := by unfold bytesS; rw [if_pos hD]
    rw [e2]
    simp -dsimp -implicitDefEqProofs only [push_cast, ↓trAdd_f, ↓stOf_f, seval]
    refine hK _ ?_
    try refine hK _ ?_
    repeat (first | refine awp_seq ?_ | refine awp_block ?_ | refine awp_skip ?_ | refine awp_scope ?_ | refine awp_label ?_)
    refine awp_region tabOk fun K hK => ?_
    simp -dsimp -implicitDefEqProofs only [push_cast, ↓trAdd_f, ↓stOf_f, seval]
    try refine hK _ ?_
    repeat (first | refine awp_seq ?_ | refine awp_block ?_ | refine awp_skip ?_ | refine awp_scope ?_ | refine awp_label ?_)
    refine awp_cond (b := true) (by simp -dsimp -implicitDefEqProofs only [push_cast, ↓trAdd_f, ↓stOf_f, seval]) (fun h => ?_) (fun h => ?_)
    rotate_left
    · cases h
    try refine hK _ ?_
    repeat (first | refine awp_seq ?_ | refine awp_block ?_ | refine awp_skip ?_ | refine awp_scope ?_ | refine awp_label ?_)
    refine awp_region tabOk fun K hK => ?_
    simp -dsimp -implicitDefEqProofs only [push_cast, ↓trAdd_f, ↓stOf_f, seval]
    refine hK _ (awp_ret ?_)
    simp -dsimp -implicitDefEqProofs only [e, push_cast, List.mem_append, List.mem_cons, List.mem_singleton, forall_eq_or_imp, forall_eq, ↓trAdd_f, ↓stOf_f, seval]
  simp only [Bool.not_eq_true] at hD
  have e2 := bytesS_err (f := f) s n hD
  have e3 := bytesS_len hf s n hs hn hD
  have e4 : wholeL f s n l.ver key = if (readM (bytesS f s n).1 key).2 = 0 ∧ (readM (bytesS f s n).1 key).1.ver ≠ l.ver then 240 else (readM (bytesS f s n).1 key).2 := by unfold wholeL; rw [if_neg (by simp [hD])]
  rw [e2]
  generalize (bytesS f s n).1 = b at *
  simp -dsimp -implicitDefEqProofs only [push_cast, ↓trAdd_f, ↓stOf_f, seval]
  refine hK _ ?_
  try refine hK _ ?_
  repeat (first | refine awp_seq ?_ | refine awp_block ?_ | refine awp_skip ?_ | refine awp_scope ?_ | refine awp_label ?_)
  refine awp_region tabOk fun K hK => ?_
  simp -dsimp -implicitDefEqProofs only [push_cast, ↓trAdd_f, ↓stOf_f, seval]
  try refine hK _ ?_
  repeat (first | refine awp_seq ?_ | refine awp_block ?_ | refine awp_skip ?_ | refine awp_scope ?_ | refine awp_label ?_)
  refine awp_cond (b := false) (by simp -dsimp -implicitDefEqProofs only [push_cast, ↓trAdd_f, ↓stOf_f, seval]) (fun h => ?_) (fun h => ?_)
  · cases h
  refine awp_skip ?_
  try refine hK _ ?_
  repeat (first | refine awp_seq ?_ | refine awp_block ?_ | refine awp_skip ?_ | refine awp_scope ?_ | refine awp_label ?_)
  refine awp_region tabOk fun K hK => ?_
  simp -dsimp -implicitDefEqProofs only [push_cast, ↓trAdd_f, ↓stOf_f, seval]
  refine callK_simple (readM_ok false b key hbs (by omega)) ?_ rfl fun _ => ?_
  · simp -dsimp -implicitDefEqProofs only [push_cast, List.mem_append, List.mem_cons, List.mem_singleton, forall_eq_or_imp, forall_eq, ↓trAdd_f, ↓stOf_f, seval]
  generalize readM b key = o at *
  obtain ⟨m, e⟩ := o
  simp only at e4
  simp -dsimp -implicitDefEqProofs only [encImg, push_cast, ↓trAdd_f, ↓stOf_f, seval]
  refine hK _ ?_
  cases hE : (e == 0) with
  | false =>
    have hne : e ≠ 0 := by simpa using hE
    have er : wholeL f s n l.ver key = e := by rw [e4, if_neg (fun h => hne h.1)]
    try refine hK _ ?_
    repeat (first | refine awp_seq ?_ | refine awp_block ?_ | refine awp_skip ?_ | refine awp_scope ?_ | refine awp_label ?_)
    refine awp_region tabOk fun K hK => ?_
    simp -dsimp -implicitDefEqProofs only [hE, push_cast, ↓trAdd_f, ↓stOf_f, seval]
    try refine hK _ ?_
    repeat (first | refine awp_seq ?_ | refine awp_block ?_ | refine awp_skip ?_ | refine awp_scope ?_ | refine awp_label ?_)
    refine awp_cond (b := false) (by simp -dsimp -implicitDefEqProofs only [push_cast, ↓trAdd_f, ↓stOf_f, seval]) (fun h => ?_) (fun h => ?_)
    · cases h
    refine awp_skip ?_
    try refine hK _ ?_
    repeat (first | refine awp_seq ?_ | refine awp_block ?_ | refine awp_skip ?_ | refine awp_scope ?_ | refine awp_label ?_)
    refine awp_region tabOk fun K hK => ?_
    simp -dsimp -implicitDefEqProofs only [push_cast, ↓trAdd_f, ↓stOf_f, seval]
    refine hK _ (awp_ret ?_)
    simp -dsimp -implicitDefEqProofs only [er, push_cast, List.mem_append, List.mem_cons, List.mem_singleton, forall_eq_or_imp, forall_eq, ↓trAdd_f, ↓stOf_f, seval]
  | true =>
  have he0 : e = 0 := by simpa using hE
  subst he0
  cases hV : (m.ver != l.ver) with
  | false =>
    have hv : m.ver = l.ver := by simpa using hV
    have er : wholeL f s n l.ver key = 0 := by rw [e4, if_neg (fun h => h.2 hv)]
    try refine hK _ ?_
    repeat (first | refine awp_seq ?_ | refine awp_block ?_ | refine awp_skip ?_ | refine awp_scope ?_ | refine awp_label ?_)
    refine awp_region tabOk fun K hK => ?_
    simp -dsimp -implicitDefEqProofs only [hV, push_cast, ↓trAdd_f, ↓stOf_f, seval]
    try refine hK _ ?_
    repeat (first | refine awp_seq ?_ | refine awp_block ?_ | refine awp_skip ?_ | refine awp_scope ?_ | refine awp_label ?_)
    refine awp_cond (b := false) (by simp -dsimp -implicitDefEqProofs only [push_cast, ↓trAdd_f, ↓stOf_f, seval]) (fun h => ?_) (fun h => ?_)
    · cases h
    refine awp_skip ?_
    try refine hK _ ?_
    repeat (first | refine awp_seq ?_ | refine awp_block ?_ | refine awp_skip ?_ | refine awp_scope ?_ | refine awp_label ?_)
    refine awp_region tabOk fun K hK => ?_
    simp -dsimp -implicitDefEqProofs only [push_cast, ↓trAdd_f, ↓stOf_f, seval]
    refine hK _ (awp_ret ?_)
    simp -dsimp -implicitDefEqProofs only [er, push_cast, List.mem_append, List.mem_cons, List.mem_singleton, forall_eq_or_imp, forall_eq, ↓trAdd_f, ↓stOf_f, seval]
  | true =>
    have hv : m.ver ≠ l.ver := by simpa using hV
    have er : wholeL f s n l.ver key = 240 := by rw [e4, if_pos ⟨rfl, hv⟩]
    try refine hK _ ?_
    repeat (first | refine awp_seq ?_ | refine awp_block ?_ | refine awp_skip ?_ | refine awp_scope ?_ | refine awp_label ?_)
    refine awp_region tabOk fun K hK => ?_
    simp -dsimp -implicitDefEqProofs only [hV, push_cast, ↓trAdd_f, ↓stOf_f, seval]
    try refine hK _ ?_
    repeat (first | refine awp_seq ?_ | refine awp_block ?_ | refine awp_skip ?_ | refine awp_scope ?_ | refine awp_label ?_)
    refine awp_cond (b := true) (by simp -dsimp -implicitDefEqProofs only [push_cast, ↓trAdd_f, ↓stOf_f, seval]) (fun h => ?_) (fun h => ?_)
    rotate_left
    · cases h
    try refine hK _ ?_
    repeat (first | refine awp_seq ?_ | refine awp_block ?_ | refine awp_skip ?_ | refine awp_scope ?_ | refine awp_label ?_)
    refine awp_region tabOk fun K hK => ?_
    simp -dsimp -implicitDefEqProofs only [push_cast, ↓trAdd_f, ↓stOf_f, seval]
    refine hK _ (awp_ret ?_)
    simp -dsimp -implicitDefEqProofs only [er, push_cast, List.mem_append, List.mem_cons, List.mem_singleton, forall_eq_or_imp, forall_eq, ↓trAdd_f, ↓stOf_f, seval]
theorem fine_put {f : Flash} (hf : f.fine) (r : Rec) : (putF f r).1.fine := by
  unfold putF
  split
  · exact hf
  · have h1 := fine_erase hf (r.seq.tmod 2)
    split
    · exact fine_write h1 _ _ (recF_bytes r)
    · exact h1
theorem erase_n (f : Flash) (p : Int) : (eraseF f p).1.pages.length = f.pages.length := by
  unfold eraseF
  split
  · rfl
  · split
    · rfl
    · split <;> simp
theorem write_n (f : Flash) (p a : Int) (b : List Int) : (writeF f p a b).1.pages.length = f.pages.length := by
  unfold writeF
  split
  · rfl
  · split
    · rfl
    · split
      · rfl
      · simp
theorem put_n (f : Flash) (r : Rec) : (putF f r).1.pages.length = f.pages.length := by
  unfold putF
  split
  · rfl
  · split
    · rw [write_n, erase_n]
    · exact erase_n f _
theorem big_put {f : Flash} (h : f.big) (r : Rec) : (putF f r).1.big := ⟨fine_put h.fine r, by rw [put_n]; exact h.n70⟩
theorem big_erase {f : Flash} (h : f.big) (p : Int) : (eraseF f p).1.big := ⟨fine_erase h.fine p, by rw [erase_n]; exact h.n70⟩
theorem big_write {f : Flash} (h : f.big) (p a : Int) {b : List Int} (hb : ∀ x ∈ b, byte x) : (writeF f p a b).1.big := ⟨fine_write h.fine p a hb, by rw [write_n]; exact h.n70⟩
structure BegR where
  f : Flash
  l : Load
  e : Int
def beginE (f : Flash) (s : Nat) (ver : Int) (n : Nat) : BegR :=
  if (emptyF f s).2 ≠ 0 then ⟨(emptyF f s).1, load0, (emptyF f s).2⟩ else ⟨(emptyF f s).1, ⟨true, ver, n, 0, s⟩, 0⟩
def beginF (f : Flash) (s : Nat) (ver : Int) (n : Nat) : BegR :=
  if (readS f).2 ≠ 0 then ⟨f, load0, (readS f).2⟩ else
  if (readS f).1.st s ≠ 4 then ⟨f, load0, 1⟩ else
  if ver ≤ (readS f).1.ver s then ⟨f, load0, 282⟩ else
  if (putL f (readS f).1 (1 - s) 1 0 0).2 ≠ 0 then ⟨(putL f (readS f).1 (1 - s) 1 0 0).1, load0, (putL f (readS f).1 (1 - s) 1 0 0).2⟩ else
  beginE (putL f (readS f).1 (1 - s) 1 0 0).1 (1 - s) ver n
theorem begin0_ok (f : Flash) (ver : Int) (n : Nat) (hf : f.big) (hv : 0 ≤ ver ∧ ver < 2147483648) (hn : 19 ≤ n ∧ n ≤ 2066) :
    FnS Tryd.prog 27 [.agg (encFlash f), .int .i64 0, .int .i64 ver, .int .i64 n] [] (.tup [.agg (encFlash (beginF f 0 ver n).f), .agg (encLoad (beginF f 0 ver n).l), .int .i64 (beginF f 0 ver n).e]) [] := by
  have h7 := hf.n70
  have hsq := readS_seq f
  have e0 : beginF f 0 ver n = if (readS f).2 ≠ 0 then ⟨f, load0, (readS f).2⟩ else
    if (readS f).1.s0 ≠ 4 then ⟨f, load0, 1⟩ else
    if ver ≤ (readS f).1.v0 then ⟨f, load0, 282⟩ else
    if (putL f (readS f).1 1 1 0 0).2 ≠ 0 then ⟨(putL f (readS f).1 1 1 0 0).1, load0, (putL f (readS f).1 1 1 0 0).2⟩ else
    beginE (putL f (readS f).1 1 1 0 0).1 1 ver n := rfl
  have d1 : decide (ver < 0) = false := by simp; omega
  have d2 : decide (2147483648 ≤ ver) = false := by simp; omega
  have d3 : decide ((n : Int) < 19) = false := by simp; omega
  have d4 : decide (2066 < (n : Int)) = false := by simp; omega
  refine fn_walk tabOk Tryd.func27 rfl (by decide +kernel) Tryd.ntmps27 Tryd.results27 (by simp) fun B hB => ?_
  try refine hK _ ?_
  repeat (first | refine awp_seq ?_ | refine awp_block ?_ | refine awp_skip ?_ | refine awp_scope ?_ | refine awp_label ?_)
  refine awp_region tabOk fun K hK => ?_
  simp -dsimp -implicitDefEqProofs only [encFlash, push_cast, ↓trAdd_f, ↓stOf_f, seval]
  refine hK _ ?_
  try refine hK _ ?_
  repeat (first | refine awp_seq ?_ | refine awp_block ?_ | refine awp_skip ?_ | refine awp_scope ?_ | refine awp_label ?_)
  refine awp_region tabOk fun K hK => ?_
  simp -dsimp -implicitDefEqProofs only [d1, d2, d3, d4, push_cast, ↓trAdd_f, ↓stOf_f, seval]
  refine hK _ ?_
  try refine hK _ ?_
  repeat (first | refine awp_seq ?_ | refine awp_block ?_ | refine awp_skip ?_ | refine awp_scope ?_ | refine awp_label ?_)
  refine awp_cond (b := false) (by simp -dsimp -implicitDefEqProofs only [push_cast, ↓trAdd_f, ↓stOf_f, seval]) (fun h => ?_) (fun h => ?_)
  · cases h
  refine awp_skip ?_
  try refine hK _ ?_
  repeat (first | refine awp_seq ?_ | refine awp_block ?_ | refine awp_skip ?_ | refine awp_scope ?_ | refine awp_label ?_)
  refine awp_region tabOk fun K hK => ?_
  simp -dsimp -implicitDefEqProofs only [push_cast, ↓trAdd_f, ↓stOf_f, seval]
  refine callK_simple (read_ok f (by omega) hf.fine.good.block hf.fine.bytes) ?_ rfl fun _ => ?_
  · simp -dsimp -implicitDefEqProofs only [encFlash, push_cast, List.mem_append, List.mem_cons, List.mem_singleton, forall_eq_or_imp, forall_eq, ↓trAdd_f, ↓stOf_f, seval]
  generalize readS f = o at *
  obtain ⟨r, er⟩ := o
  simp only at hsq e0
  simp -dsimp -implicitDefEqProofs only [encRec, push_cast, ↓trAdd_f, ↓stOf_f, seval]
  refine hK _ (awp_seq (awp_block ?_))
  cases hE : (er != 0) with
  | true =>
    have hne : er ≠ 0 := by simpa using hE
    have e : beginF f 0 ver n = ⟨f, load0, er⟩ := by rw [e0, if_pos hne]
    try refine hK _ ?_
    repeat (first | refine awp_seq ?_ | refine awp_block ?_ | refine awp_skip ?_ | refine awp_scope ?_ | refine awp_label ?_)
    refine awp_region tabOk fun K hK => ?_
    simp -dsimp -implicitDefEqProofs only [hE, push_cast, ↓trAdd_f, ↓stOf_f, seval]
    refine hK _ ?_
    try refine hK _ ?_
    repeat (first | refine awp_seq ?_ | refine awp_block ?_ | refine awp_skip ?_ | refine awp_scope ?_ | refine awp_label ?_)
    refine awp_cond (b := true) (by simp -dsimp -implicitDefEqProofs only [push_cast, ↓trAdd_f, ↓stOf_f, seval]) (fun h => ?_) (fun h => ?_)
    rotate_left
    · cases h
    try refine hK _ ?_
    repeat (first | refine awp_seq ?_ | refine awp_block ?_ | refine awp_skip ?_ | refine awp_scope ?_ | refine awp_label ?_)
    refine awp_region tabOk fun K hK => ?_
    simp -dsimp -implicitDefEqProofs only [push_cast, ↓trAdd_f, ↓stOf_f, seval]
    refine hK _ (awp_ret ?_)
    simp -dsimp -implicitDefEqProofs only [e, encFlash, encLoad, load0, push_cast, List.mem_append, List.mem_cons, List.mem_singleton, forall_eq_or_imp, forall_eq, ↓trAdd_f, ↓stOf_f, seval]
  | false =>
  have her : er = 0 := by simpa using hE
  subst her
  rw [if_neg (by decide)] at e0
  try refine hK _ ?_
  repeat (first | refine awp_seq ?_ | refine awp_block ?_ | refine awp_skip ?_ | refine awp_scope ?_ | refine awp_label ?_)
  refine awp_region tabOk fun K hK => ?_
  simp -dsimp -implicitDefEqProofs only [push_cast, ↓trAdd_f, ↓stOf_f, seval]
  refine hK _ ?_
  try refine hK _ ?_
  repeat (first | refine awp_seq ?_ | refine awp_block ?_ | refine awp_skip ?_ | refine awp_scope ?_ | refine awp_label ?_)
  refine awp_cond (b := false) (by simp -dsimp -implicitDefEqProofs only [push_cast, ↓trAdd_f, ↓stOf_f, seval]) (fun h => ?_) (fun h => ?_)
  · cases h
  cases hA : (r.s0 != 4) with
  | true =>
    have hne : r.s0 ≠ 4 := by simpa using hA
    have e : beginF f 0 ver n = ⟨f, load0, 1⟩ := by rw [e0, if_pos hne]
    try refine hK _ ?_
    repeat (first | refine awp_seq ?_ | refine awp_block ?_ | refine awp_skip ?_ | refine awp_scope ?_ | refine awp_label ?_)
    refine awp_region tabOk fun K hK => ?_
    simp -dsimp -implicitDefEqProofs only [hA, push_cast, ↓trAdd_f, ↓stOf_f, seval]
    refine hK _ ?_
    try refine hK _ ?_
    repeat (first | refine awp_seq ?_ | refine awp_block ?_ | refine awp_skip ?_ | refine awp_scope ?_ | refine awp_label ?_)
    refine awp_cond (b := true) (by simp -dsimp -implicitDefEqProofs only [push_cast, ↓trAdd_f, ↓stOf_f, seval]) (fun h => ?_) (fun h => ?_)
    rotate_left
    · cases h
    try refine hK _ ?_
    repeat (first | refine awp_seq ?_ | refine awp_block ?_ | refine awp_skip ?_ | refine awp_scope ?_ | refine awp_label ?_)
    refine awp_region tabOk fun K hK => ?_
    simp -dsimp -implicitDefEqProofs only [push_cast, ↓trAdd_f, ↓stOf_f, seval]
    refine hK _ (awp_ret ?_)
    simp -dsimp -implicitDefEqProofs only [e, encFlash, encLoad, load0, push_cast, List.mem_append, List.mem_cons, List.mem_singleton, forall_eq_or_imp, forall_eq, ↓trAdd_f, ↓stOf_f, seval]
  | false =>
  have h4 : r.s0 = 4 := by simpa using hA
  rw [if_neg (by simpa using h4)] at e0
  try refine hK _ ?_
  repeat (first | refine awp_seq ?_ | refine awp_block ?_ | refine awp_skip ?_ | refine awp_scope ?_ | refine awp_label ?_)
  refine awp_region tabOk fun K hK => ?_
  simp -dsimp -implicitDefEqProofs only [hA, push_cast, ↓trAdd_f, ↓stOf_f, seval]
  refine hK _ ?_
  try refine hK _ ?_
  repeat (first | refine awp_seq ?_ | refine awp_block ?_ | refine awp_skip ?_ | refine awp_scope ?_ | refine awp_label ?_)
  refine awp_cond (b := false) (by simp -dsimp -implicitDefEqProofs only [push_cast, ↓trAdd_f, ↓stOf_f, seval]) (fun h => ?_) (fun h => ?_)
  · cases h
  cases hQ : decide (ver ≤ r.v0) with
  | true =>
    have hle := of_decide_eq_true hQ
    have e : beginF f 0 ver n = ⟨f, load0, 282⟩ := by rw [e0, if_pos hle]
    try refine hK _ ?_
    repeat (first | refine awp_seq ?_ | refine awp_block ?_ | refine awp_skip ?_ | refine awp_scope ?_ | refine awp_label ?_)
    refine awp_region tabOk fun K hK => ?_
    simp -dsimp -implicitDefEqProofs only [hQ, push_cast, ↓trAdd_f, ↓stOf_f, seval]
    refine hK _ ?_
    try refine hK _ ?_
    repeat (first | refine awp_seq ?_ | refine awp_block ?_ | refine awp_skip ?_ | refine awp_scope ?_ | refine awp_label ?_)
    refine awp_cond (b := true) (by simp -dsimp -implicitDefEqProofs only [push_cast, ↓trAdd_f, ↓stOf_f, seval]) (fun h => ?_) (fun h => ?_)
    rotate_left
    · cases h
    try refine hK _ ?_
    repeat (first | refine awp_seq ?_ | refine awp_block ?_ | refine awp_skip ?_ | refine awp_scope ?_ | refine awp_label ?_)
    refine awp_region tabOk fun K hK => ?_
    simp -dsimp -implicitDefEqProofs only [push_cast, ↓trAdd_f, ↓stOf_f, seval]
    refine hK _ (awp_ret ?_)
    simp -dsimp -implicitDefEqProofs only [e, encFlash, encLoad, load0, push_cast, List.mem_append, List.mem_cons, List.mem_singleton, forall_eq_or_imp, forall_eq, ↓trAdd_f, ↓stOf_f, seval]
  | false =>
  have hnle := of_decide_eq_false hQ
  rw [if_neg hnle] at e0
  try refine hK _ ?_
  repeat (first | refine awp_seq ?_ | refine awp_block ?_ | refine awp_skip ?_ | refine awp_scope ?_ | refine awp_label ?_)
  refine awp_region tabOk fun K hK => ?_
  simp -dsimp -implicitDefEqProofs only [hQ, push_cast, ↓trAdd_f, ↓stOf_f, seval]
  refine hK _ ?_
  try refine hK _ ?_
  repeat (first | refine awp_seq ?_ | refine awp_block ?_ | refine awp_skip ?_ | refine awp_scope ?_ | refine awp_label ?_)
  refine awp_cond (b := false) (by simp -dsimp -implicitDefEqProofs only [push_cast, ↓trAdd_f, ↓stOf_f, seval]) (fun h => ?_) (fun h => ?_)
  · cases h
  refine awp_skip ?_
  have wt : IntKind.i64.wrap 1 = 1 := by decide
  try refine hK _ ?_
  repeat (first | refine awp_seq ?_ | refine awp_block ?_ | refine awp_skip ?_ | refine awp_scope ?_ | refine awp_label ?_)
  refine awp_region tabOk fun K hK => ?_
  simp -dsimp -implicitDefEqProofs only [wt, push_cast, ↓trAdd_f, ↓stOf_f, seval]
  refine hK _ ?_
  try refine hK _ ?_
  repeat (first | refine awp_seq ?_ | refine awp_block ?_ | refine awp_skip ?_ | refine awp_scope ?_ | refine awp_label ?_)
  refine awp_region tabOk fun K hK => ?_
  simp -dsimp -implicitDefEqProofs only [push_cast, ↓trAdd_f, ↓stOf_f, seval]
  refine callK_simple (putL1_ok f r 1 0 0 hf.fine ⟨hsq.1, hsq.2.1⟩) ?_ rfl fun _ => ?_
  · simp -dsimp -implicitDefEqProofs only [encFlash, encRec, push_cast, List.mem_append, List.mem_cons, List.mem_singleton, forall_eq_or_imp, forall_eq, ↓trAdd_f, ↓stOf_f, seval]
  have hgb : (putL f r 1 1 0 0).1.big := big_put hf _
  generalize putL f r 1 1 0 0 = o at *
  obtain ⟨g, eg⟩ := o
  simp only at e0 hgb
  simp -dsimp -implicitDefEqProofs only [encFlash, push_cast, ↓trAdd_f, ↓stOf_f, seval]
  refine hK _ ?_
  cases hG : (eg != 0) with
  | true =>
    have hne : eg ≠ 0 := by simpa using hG
    have e : beginF f 0 ver n = ⟨g, load0, eg⟩ := by rw [e0, if_pos hne]
    try refine hK _ ?_
    repeat (first | refine awp_seq ?_ | refine awp_block ?_ | refine awp_skip ?_ | refine awp_scope ?_ | refine awp_label ?_)
    refine awp_region tabOk fun K hK => ?_
    simp -dsimp -implicitDefEqProofs only [hG, push_cast, ↓trAdd_f, ↓stOf_f, seval]
    refine hK _ ?_
    try refine hK _ ?_
    repeat (first | refine awp_seq ?_ | refine awp_block ?_ | refine awp_skip ?_ | refine awp_scope ?_ | refine awp_label ?_)
    refine awp_cond (b := true) (by simp -dsimp -implicitDefEqProofs only [push_cast, ↓trAdd_f, ↓stOf_f, seval]) (fun h => ?_) (fun h => ?_)
    rotate_left
    · cases h
    try refine hK _ ?_
    repeat (first | refine awp_seq ?_ | refine awp_block ?_ | refine awp_skip ?_ | refine awp_scope ?_ | refine awp_label ?_)
    refine awp_region tabOk fun K hK => ?_
    simp -dsimp -implicitDefEqProofs only [push_cast, ↓trAdd_f, ↓stOf_f, seval]
    refine hK _ (awp_ret ?_)
    simp -dsimp -implicitDefEqProofs only [e, encFlash, encLoad, load0, push_cast, List.mem_append, List.mem_cons, List.mem_singleton, forall_eq_or_imp, forall_eq, ↓trAdd_f, ↓stOf_f, seval]
  | false =>
  have hg0 : eg = 0 := by simpa using hG
  subst hg0
  rw [if_neg (by decide)] at e0
  unfold beginE at e0
  try refine hK _ ?_
  repeat (first | refine awp_seq ?_ | refine awp_block ?_ | refine awp_skip ?_ | refine awp_scope ?_ | refine awp_label ?_)
  refine awp_region tabOk fun K hK => ?_
  simp -dsimp -implicitDefEqProofs only [push_cast, ↓trAdd_f, ↓stOf_f, seval]
  refine hK _ ?_
  try refine hK _ ?_
  repeat (first | refine awp_seq ?_ | refine awp_block ?_ | refine awp_skip ?_ | refine awp_scope ?_ | refine awp_label ?_)
  refine awp_cond (b := false) (by simp -dsimp -implicitDefEqProofs only [push_cast, ↓trAdd_f, ↓stOf_f, seval]) (fun h => ?_) (fun h => ?_)
  · cases h
  refine awp_skip ?_
  try refine hK _ ?_
  repeat (first | refine awp_seq ?_ | refine awp_block ?_ | refine awp_skip ?_ | refine awp_scope ?_ | refine awp_label ?_)
  refine awp_region tabOk fun K hK => ?_
  simp -dsimp -implicitDefEqProofs only [push_cast, ↓trAdd_f, ↓stOf_f, seval]
  refine callK_simple (emptyF_ok g 1 (by decide) hgb.fine) ?_ rfl fun _ => ?_
  · simp -dsimp -implicitDefEqProofs only [encFlash, push_cast, List.mem_append, List.mem_cons, List.mem_singleton, forall_eq_or_imp, forall_eq, ↓trAdd_f, ↓stOf_f, seval]
  generalize emptyF g 1 = o at *
  obtain ⟨k, ek⟩ := o
  simp only at e0
  simp -dsimp -implicitDefEqProofs only [encFlash, push_cast, ↓trAdd_f, ↓stOf_f, seval]
  refine hK _ ?_
  cases hH : (ek != 0) with
  | true =>
    have hne : ek ≠ 0 := by simpa using hH
    have e : beginF f 0 ver n = ⟨k, load0, ek⟩ := by rw [e0, if_pos hne]
    try refine hK _ ?_
    repeat (first | refine awp_seq ?_ | refine awp_block ?_ | refine awp_skip ?_ | refine awp_scope ?_ | refine awp_label ?_)
    refine awp_region tabOk fun K hK => ?_
    simp -dsimp -implicitDefEqProofs only [hH, push_cast, ↓trAdd_f, ↓stOf_f, seval]
    refine hK _ ?_
    try refine hK _ ?_
    repeat (first | refine awp_seq ?_ | refine awp_block ?_ | refine awp_skip ?_ | refine awp_scope ?_ | refine awp_label ?_)
    refine awp_cond (b := true) (by simp -dsimp -implicitDefEqProofs only [push_cast, ↓trAdd_f, ↓stOf_f, seval]) (fun h => ?_) (fun h => ?_)
    rotate_left
    · cases h
    try refine hK _ ?_
    repeat (first | refine awp_seq ?_ | refine awp_block ?_ | refine awp_skip ?_ | refine awp_scope ?_ | refine awp_label ?_)
    refine awp_region tabOk fun K hK => ?_
    simp -dsimp -implicitDefEqProofs only [push_cast, ↓trAdd_f, ↓stOf_f, seval]
    refine hK _ (awp_ret ?_)
    simp -dsimp -implicitDefEqProofs only [e, encFlash, encLoad, load0, push_cast, List.mem_append, List.mem_cons, List.mem_singleton, forall_eq_or_imp, forall_eq, ↓trAdd_f, ↓stOf_f, seval]
  | false =>
  have hk0 : ek = 0 := by simpa using hH
  subst hk0
  rw [if_neg (by decide)] at e0
  try refine hK _ ?_
  repeat (first | refine awp_seq ?_ | refine awp_block ?_ | refine awp_skip ?_ | refine awp_scope ?_ | refine awp_label ?_)
  refine awp_region tabOk fun K hK => ?_
  simp -dsimp -implicitDefEqProofs only [push_cast, ↓trAdd_f, ↓stOf_f, seval]
  refine hK _ ?_
  try refine hK _ ?_
  repeat (first | refine awp_seq ?_ | refine awp_block ?_ | refine awp_skip ?_ | refine awp_scope ?_ | refine awp_label ?_)
  refine awp_cond (b := false) (by simp -dsimp -implicitDefEqProofs only [push_cast, ↓trAdd_f, ↓stOf_f, seval]) (fun h => ?_) (fun h => ?_)
  · cases h
  refine awp_skip ?_
  try refine hK _ ?_
  repeat (first | refine awp_seq ?_ | refine awp_block ?_ | refine awp_skip ?_ | refine awp_scope ?_ | refine awp_label ?_)
  refine awp_region tabOk fun K hK => ?_
  simp -dsimp -implicitDefEqProofs only [push_cast, ↓trAdd_f, ↓stOf_f, seval]
  refine hK _ (awp_ret ?_)
  simp -dsimp -implicitDefEqProofs only [e0, encFlash, encLoad, push_cast, List.mem_append, List.mem_cons, List.mem_singleton, forall_eq_or_imp, forall_eq, ↓trAdd_f, ↓stOf_f, seval]
theorem begin1_ok (f : Flash) (ver : Int) (n : Nat) (hf : f.big) (hv : 0 ≤ ver ∧ ver < 2147483648) (hn : 19 ≤ n ∧ n ≤ 2066) :
    FnS Tryd.prog 27 [.agg (encFlash f), .int .i64 1, .int .i64 ver, .int .i64 n] [] (.tup [.agg (encFlash (beginF f 1 ver n).f), .agg (encLoad (beginF f 1 ver n).l), .int .i64 (beginF f 1 ver n).e]) [] := by
  have h7 := hf.n70
  have hsq := readS_seq f
  have e0 : beginF f 1 ver n = if (readS f).2 ≠ 0 then ⟨f, load0, (readS f).2⟩ else
    if (readS f).1.s1 ≠ 4 then ⟨f, load0, 1⟩ else
    if ver ≤ (readS f).1.v1 then ⟨f, load0, 282⟩ else
    if (putL f (readS f).1 0 1 0 0).2 ≠ 0 then ⟨(putL f (readS f).1 0 1 0 0).1, load0, (putL f (readS f).1 0 1 0 0).2⟩ else
    beginE (putL f (readS f).1 0 1 0 0).1 0 ver n := rfl
  have d1 : decide (ver < 0) = false := by simp; omega
  have d2 : decide (2147483648 ≤ ver) = false := by simp; omega
  have d3 : decide ((n : Int) < 19) = false := by simp; omega
  have d4 : decide (2066 < (n : Int)) = false := by simp; omega
  refine fn_walk tabOk Tryd.func27 rfl (by decide +kernel) Tryd.ntmps27 Tryd.results27 (by simp) fun B hB => ?_
  try refine hK _ ?_
  repeat (first | refine awp_seq ?_ | refine awp_block ?_ | refine awp_skip ?_ | refine awp_scope ?_ | refine awp_label ?_)
  refine awp_region tabOk fun K hK => ?_
  simp -dsimp -implicitDefEqProofs only [encFlash, push_cast, ↓trAdd_f, ↓stOf_f, seval]
  refine hK _ ?_
  try refine hK _ ?_
  repeat (first | refine awp_seq ?_ | refine awp_block ?_ | refine awp_skip ?_ | refine awp_scope ?_ | refine awp_label ?_)
  refine awp_region tabOk fun K hK => ?_
  simp -dsimp -implicitDefEqProofs only [d1, d2, d3, d4, push_cast, ↓trAdd_f, ↓stOf_f, seval]
  refine hK _ ?_
  try refine hK _ ?_
  repeat (first | refine awp_seq ?_ | refine awp_block ?_ | refine awp_skip ?_ | refine awp_scope ?_ | refine awp_label ?_)
  refine awp_cond (b := false) (by simp -dsimp -implicitDefEqProofs only [push_cast, ↓trAdd_f, ↓stOf_f, seval]) (fun h => ?_) (fun h => ?_)
  · cases h
  refine awp_skip ?_
  try refine hK _ ?_
  repeat (first | refine awp_seq ?_ | refine awp_block ?_ | refine awp_skip ?_ | refine awp_scope ?_ | refine awp_label ?_)
  refine awp_region tabOk fun K hK => ?_
  simp -dsimp -implicitDefEqProofs only [push_cast, ↓trAdd_f, ↓stOf_f, seval]
  refine callK_simple (read_ok f (by omega) hf.fine.good.block hf.fine.bytes) ?_ rfl fun _ => ?_
  · simp -dsimp -implicitDefEqProofs only [encFlash, push_cast, List.mem_append, List.mem_cons, List.mem_singleton, forall_eq_or_imp, forall_eq, ↓trAdd_f, ↓stOf_f, seval]
  generalize readS f = o at *
  obtain ⟨r, er⟩ := o
  simp only at hsq e0
  simp -dsimp -implicitDefEqProofs only [encRec, push_cast, ↓trAdd_f, ↓stOf_f, seval]
  refine hK _ (awp_seq (awp_block ?_))
  cases hE : (er != 0) with
  | true =>
    have hne : er ≠ 0 := by simpa using hE
    have e : beginF f 1 ver n = ⟨f, load0, er⟩ := by rw [e0, if_pos hne]
    try refine hK _ ?_
    repeat (first | refine awp_seq ?_ | refine awp_block ?_ | refine awp_skip ?_ | refine awp_scope ?_ | refine awp_label ?_)
    refine awp_region tabOk fun K hK => ?_
    simp -dsimp -implicitDefEqProofs only [hE, push_cast, ↓trAdd_f, ↓stOf_f, seval]
    refine hK _ ?_
    try refine hK _ ?_
    repeat (first | refine awp_seq ?_ | refine awp_block ?_ | refine awp_skip ?_ | refine awp_scope ?_ | refine awp_label ?_)
    refine awp_cond (b := true) (by simp -dsimp -implicitDefEqProofs only [push_cast, ↓trAdd_f, ↓stOf_f, seval]) (fun h => ?_) (fun h => ?_)
    rotate_left
    · cases h
    try refine hK _ ?_
    repeat (first | refine awp_seq ?_ | refine awp_block ?_ | refine awp_skip ?_ | refine awp_scope ?_ | refine awp_label ?_)
    refine awp_region tabOk fun K hK => ?_
    simp -dsimp -implicitDefEqProofs only [push_cast, ↓trAdd_f, ↓stOf_f, seval]
    refine hK _ (awp_ret ?_)
    simp -dsimp -implicitDefEqProofs only [e, encFlash, encLoad, load0, push_cast, List.mem_append, List.mem_cons, List.mem_singleton, forall_eq_or_imp, forall_eq, ↓trAdd_f, ↓stOf_f, seval]
  | false =>
  have her : er = 0 := by simpa using hE
  subst her
  rw [if_neg (by decide)] at e0
  try refine hK _ ?_
  repeat (first | refine awp_seq ?_ | refine awp_block ?_ | refine awp_skip ?_ | refine awp_scope ?_ | refine awp_label ?_)
  refine awp_region tabOk fun K hK => ?_
  simp -dsimp -implicitDefEqProofs only [push_cast, ↓trAdd_f, ↓stOf_f, seval]
  refine hK _ ?_
  try refine hK _ ?_
  repeat (first | refine awp_seq ?_ | refine awp_block ?_ | refine awp_skip ?_ | refine awp_scope ?_ | refine awp_label ?_)
  refine awp_cond (b := false) (by simp -dsimp -implicitDefEqProofs only [push_cast, ↓trAdd_f, ↓stOf_f, seval]) (fun h => ?_) (fun h => ?_)
  · cases h
  cases hA : (r.s1 != 4) with
  | true =>
    have hne : r.s1 ≠ 4 := by simpa using hA
    have e : beginF f 1 ver n = ⟨f, load0, 1⟩ := by rw [e0, if_pos hne]
    try refine hK _ ?_
    repeat (first | refine awp_seq ?_ | refine awp_block ?_ | refine awp_skip ?_ | refine awp_scope ?_ | refine awp_label ?_)
    refine awp_region tabOk fun K hK => ?_
    simp -dsimp -implicitDefEqProofs only [hA, push_cast, ↓trAdd_f, ↓stOf_f, seval]
    refine hK _ ?_
    try refine hK _ ?_
    repeat (first | refine awp_seq ?_ | refine awp_block ?_ | refine awp_skip ?_ | refine awp_scope ?_ | refine awp_label ?_)
    refine awp_cond (b := true) (by simp -dsimp -implicitDefEqProofs only [push_cast, ↓trAdd_f, ↓stOf_f, seval]) (fun h => ?_) (fun h => ?_)
    rotate_left
    · cases h
    try refine hK _ ?_
    repeat (first | refine awp_seq ?_ | refine awp_block ?_ | refine awp_skip ?_ | refine awp_scope ?_ | refine awp_label ?_)
    refine awp_region tabOk fun K hK => ?_
    simp -dsimp -implicitDefEqProofs only [push_cast, ↓trAdd_f, ↓stOf_f, seval]
    refine hK _ (awp_ret ?_)
    simp -dsimp -implicitDefEqProofs only [e, encFlash, encLoad, load0, push_cast, List.mem_append, List.mem_cons, List.mem_singleton, forall_eq_or_imp, forall_eq, ↓trAdd_f, ↓stOf_f, seval]
  | false =>
  have h4 : r.s1 = 4 := by simpa using hA
  rw [if_neg (by simpa using h4)] at e0
  try refine hK _ ?_
  repeat (first | refine awp_seq ?_ | refine awp_block ?_ | refine awp_skip ?_ | refine awp_scope ?_ | refine awp_label ?_)
  refine awp_region tabOk fun K hK => ?_
  simp -dsimp -implicitDefEqProofs only [hA, push_cast, ↓trAdd_f, ↓stOf_f, seval]
  refine hK _ ?_
  try refine hK _ ?_
  repeat (first | refine awp_seq ?_ | refine awp_block ?_ | refine awp_skip ?_ | refine awp_scope ?_ | refine awp_label ?_)
  refine awp_cond (b := false) (by simp -dsimp -implicitDefEqProofs only [push_cast, ↓trAdd_f, ↓stOf_f, seval]) (fun h => ?_) (fun h => ?_)
  · cases h
  cases hQ : decide (ver ≤ r.v1) with
  | true =>
    have hle := of_decide_eq_true hQ
    have e : beginF f 1 ver n = ⟨f, load0, 282⟩ := by rw [e0, if_pos hle]
    try refine hK _ ?_
    repeat (first | refine awp_seq ?_ | refine awp_block ?_ | refine awp_skip ?_ | refine awp_scope ?_ | refine awp_label ?_)
    refine awp_region tabOk fun K hK => ?_
    simp -dsimp -implicitDefEqProofs only [hQ, push_cast, ↓trAdd_f, ↓stOf_f, seval]
    refine hK _ ?_
    try refine hK _ ?_
    repeat (first | refine awp_seq ?_ | refine awp_block ?_ | refine awp_skip ?_ | refine awp_scope ?_ | refine awp_label ?_)
    refine awp_cond (b := true) (by simp -dsimp -implicitDefEqProofs only [push_cast, ↓trAdd_f, ↓stOf_f, seval]) (fun h => ?_) (fun h => ?_)
    rotate_left
    · cases h
    try refine hK _ ?_
    repeat (first | refine awp_seq ?_ | refine awp_block ?_ | refine awp_skip ?_ | refine awp_scope ?_ | refine awp_label ?_)
    refine awp_region tabOk fun K hK => ?_
    simp -dsimp -implicitDefEqProofs only [push_cast, ↓trAdd_f, ↓stOf_f, seval]
    refine hK _ (awp_ret ?_)
    simp -dsimp -implicitDefEqProofs only [e, encFlash, encLoad, load0, push_cast, List.mem_append, List.mem_cons, List.mem_singleton, forall_eq_or_imp, forall_eq, ↓trAdd_f, ↓stOf_f, seval]
  | false =>
  have hnle := of_decide_eq_false hQ
  rw [if_neg hnle] at e0
  try refine hK _ ?_
  repeat (first | refine awp_seq ?_ | refine awp_block ?_ | refine awp_skip ?_ | refine awp_scope ?_ | refine awp_label ?_)
  refine awp_region tabOk fun K hK => ?_
  simp -dsimp -implicitDefEqProofs only [hQ, push_cast, ↓trAdd_f, ↓stOf_f, seval]
  refine hK _ ?_
  try refine hK _ ?_
  repeat (first | refine awp_seq ?_ | refine awp_block ?_ | refine awp_skip ?_ | refine awp_scope ?_ | refine awp_label ?_)
  refine awp_cond (b := false) (by simp -dsimp -implicitDefEqProofs only [push_cast, ↓trAdd_f, ↓stOf_f, seval]) (fun h => ?_) (fun h => ?_)
  · cases h
  refine awp_skip ?_
  have wt : IntKind.i64.wrap 0 = 0 := by decide
  try refine hK _ ?_
  repeat (first | refine awp_seq ?_ | refine awp_block ?_ | refine awp_skip ?_ | refine awp_scope ?_ | refine awp_label ?_)
  refine awp_region tabOk fun K hK => ?_
  simp -dsimp -implicitDefEqProofs only [wt, push_cast, ↓trAdd_f, ↓stOf_f, seval]
  refine hK _ ?_
  try refine hK _ ?_
  repeat (first | refine awp_seq ?_ | refine awp_block ?_ | refine awp_skip ?_ | refine awp_scope ?_ | refine awp_label ?_)
  refine awp_region tabOk fun K hK => ?_
  simp -dsimp -implicitDefEqProofs only [push_cast, ↓trAdd_f, ↓stOf_f, seval]
  refine callK_simple (putL0_ok f r 1 0 0 hf.fine ⟨hsq.1, hsq.2.1⟩) ?_ rfl fun _ => ?_
  · simp -dsimp -implicitDefEqProofs only [encFlash, encRec, push_cast, List.mem_append, List.mem_cons, List.mem_singleton, forall_eq_or_imp, forall_eq, ↓trAdd_f, ↓stOf_f, seval]
  have hgb : (putL f r 0 1 0 0).1.big := big_put hf _
  generalize putL f r 0 1 0 0 = o at *
  obtain ⟨g, eg⟩ := o
  simp only at e0 hgb
  simp -dsimp -implicitDefEqProofs only [encFlash, push_cast, ↓trAdd_f, ↓stOf_f, seval]
  refine hK _ ?_
  cases hG : (eg != 0) with
  | true =>
    have hne : eg ≠ 0 := by simpa using hG
    have e : beginF f 1 ver n = ⟨g, load0, eg⟩ := by rw [e0, if_pos hne]
    try refine hK _ ?_
    repeat (first | refine awp_seq ?_ | refine awp_block ?_ | refine awp_skip ?_ | refine awp_scope ?_ | refine awp_label ?_)
    refine awp_region tabOk fun K hK => ?_
    simp -dsimp -implicitDefEqProofs only [hG, push_cast, ↓trAdd_f, ↓stOf_f, seval]
    refine hK _ ?_
    try refine hK _ ?_
    repeat (first | refine awp_seq ?_ | refine awp_block ?_ | refine awp_skip ?_ | refine awp_scope ?_ | refine awp_label ?_)
    refine awp_cond (b := true) (by simp -dsimp -implicitDefEqProofs only [push_cast, ↓trAdd_f, ↓stOf_f, seval]) (fun h => ?_) (fun h => ?_)
    rotate_left
    · cases h
    try refine hK _ ?_
    repeat (first | refine awp_seq ?_ | refine awp_block ?_ | refine awp_skip ?_ | refine awp_scope ?_ | refine awp_label ?_)
    refine awp_region tabOk fun K hK => ?_
    simp -dsimp -implicitDefEqProofs only [push_cast, ↓trAdd_f, ↓stOf_f, seval]
    refine hK _ (awp_ret ?_)
    simp -dsimp -implicitDefEqProofs only [e, encFlash, encLoad, load0, push_cast, List.mem_append, List.mem_cons, List.mem_singleton, forall_eq_or_imp, forall_eq, ↓trAdd_f, ↓stOf_f, seval]
  | false =>
  have hg0 : eg = 0 := by simpa using hG
  subst hg0
  rw [if_neg (by decide)] at e0
  unfold beginE at e0
  try refine hK _ ?_
  repeat (first | refine awp_seq ?_ | refine awp_block ?_ | refine awp_skip ?_ | refine awp_scope ?_ | refine awp_label ?_)
  refine awp_region tabOk fun K hK => ?_
  simp -dsimp -implicitDefEqProofs only [push_cast, ↓trAdd_f, ↓stOf_f, seval]
  refine hK _ ?_
  try refine hK _ ?_
  repeat (first | refine awp_seq ?_ | refine awp_block ?_ | refine awp_skip ?_ | refine awp_scope ?_ | refine awp_label ?_)
  refine awp_cond (b := false) (by simp -dsimp -implicitDefEqProofs only [push_cast, ↓trAdd_f, ↓stOf_f, seval]) (fun h => ?_) (fun h => ?_)
  · cases h
  refine awp_skip ?_
  try refine hK _ ?_
  repeat (first | refine awp_seq ?_ | refine awp_block ?_ | refine awp_skip ?_ | refine awp_scope ?_ | refine awp_label ?_)
  refine awp_region tabOk fun K hK => ?_
  simp -dsimp -implicitDefEqProofs only [push_cast, ↓trAdd_f, ↓stOf_f, seval]
  refine callK_simple (emptyF_ok g 0 (by decide) hgb.fine) ?_ rfl fun _ => ?_
  · simp -dsimp -implicitDefEqProofs only [encFlash, push_cast, List.mem_append, List.mem_cons, List.mem_singleton, forall_eq_or_imp, forall_eq, ↓trAdd_f, ↓stOf_f, seval]
  generalize emptyF g 0 = o at *
  obtain ⟨k, ek⟩ := o
  simp only at e0
  simp -dsimp -implicitDefEqProofs only [encFlash, push_cast, ↓trAdd_f, ↓stOf_f, seval]
  refine hK _ ?_
  cases hH : (ek != 0) with
  | true =>
    have hne : ek ≠ 0 := by simpa using hH
    have e : beginF f 1 ver n = ⟨k, load0, ek⟩ := by rw [e0, if_pos hne]
    try refine hK _ ?_
    repeat (first | refine awp_seq ?_ | refine awp_block ?_ | refine awp_skip ?_ | refine awp_scope ?_ | refine awp_label ?_)
    refine awp_region tabOk fun K hK => ?_
    simp -dsimp -implicitDefEqProofs only [hH, push_cast, ↓trAdd_f, ↓stOf_f, seval]
    refine hK _ ?_
    try refine hK _ ?_
    repeat (first | refine awp_seq ?_ | refine awp_block ?_ | refine awp_skip ?_ | refine awp_scope ?_ | refine awp_label ?_)
    refine awp_cond (b := true) (by simp -dsimp -implicitDefEqProofs only [push_cast, ↓trAdd_f, ↓stOf_f, seval]) (fun h => ?_) (fun h => ?_)
    rotate_left
    · cases h
    try refine hK _ ?_
    repeat (first | refine awp_seq ?_ | refine awp_block ?_ | refine awp_skip ?_ | refine awp_scope ?_ | refine awp_label ?_)
    refine awp_region tabOk fun K hK => ?_
    simp -dsimp -implicitDefEqProofs only [push_cast, ↓trAdd_f, ↓stOf_f, seval]
    refine hK _ (awp_ret ?_)
    simp -dsimp -implicitDefEqProofs only [e, encFlash, encLoad, load0, push_cast, List.mem_append, List.mem_cons, List.mem_singleton, forall_eq_or_imp, forall_eq, ↓trAdd_f, ↓stOf_f, seval]
  | false =>
  have hk0 : ek = 0 := by simpa using hH
  subst hk0
  rw [if_neg (by decide)] at e0
  try refine hK _ ?_
  repeat (first | refine awp_seq ?_ | refine awp_block ?_ | refine awp_skip ?_ | refine awp_scope ?_ | refine awp_label ?_)
  refine awp_region tabOk fun K hK => ?_
  simp -dsimp -implicitDefEqProofs only [push_cast, ↓trAdd_f, ↓stOf_f, seval]
  refine hK _ ?_
  try refine hK _ ?_
  repeat (first | refine awp_seq ?_ | refine awp_block ?_ | refine awp_skip ?_ | refine awp_scope ?_ | refine awp_label ?_)
  refine awp_cond (b := false) (by simp -dsimp -implicitDefEqProofs only [push_cast, ↓trAdd_f, ↓stOf_f, seval]) (fun h => ?_) (fun h => ?_)
  · cases h
  refine awp_skip ?_
  try refine hK _ ?_
  repeat (first | refine awp_seq ?_ | refine awp_block ?_ | refine awp_skip ?_ | refine awp_scope ?_ | refine awp_label ?_)
  refine awp_region tabOk fun K hK => ?_
  simp -dsimp -implicitDefEqProofs only [push_cast, ↓trAdd_f, ↓stOf_f, seval]
  refine hK _ (awp_ret ?_)
  simp -dsimp -implicitDefEqProofs only [e0, encFlash, encLoad, push_cast, List.mem_append, List.mem_cons, List.mem_singleton, forall_eq_or_imp, forall_eq, ↓trAdd_f, ↓stOf_f, seval]
end Go.Proofs.YtoifmpiikopelaaDoorFw

/-
  Walks: load.Block, End.
-/
namespace Go.Proofs.YtoifmpiikopelaaDoorFw
open Go Go.Proofs
set_option maxRecDepth 100000
set_option maxHeartbeats 4000000
set_option linter.unusedVariables false
set_option linter.unusedSimpArgs false

theorem fits_ok (t : Bool) (b : List Int) (l : Load) (n m : Nat) (hl : l.len = m) (hm : m ≤ 2 ^ 20) (hn : 64 * n ≤ m) (hb : b.length = min 64 (m - 64 * n)) :
    FnS Tryd.prog 64 [.pf [.sl t 1 (b.map encB)], .pf (encLoad l), .pf [.int .i64 n]] [] (.bool true) [] := by
  have w1 : IntKind.i64.wrap ((n : Int) * 64) = (n : Int) * 64 := wrap_i64 (by omega) (by omega)
  have w2 : IntKind.i64.wrap ((m : Int) - (n : Int) * 64) = (m : Int) - (n : Int) * 64 := wrap_i64 (by omega) (by omega)
  have d : ((b.length : Int) == min 64 ((m : Int) - (n : Int) * 64)) = true := by
    simp only [beq_iff_eq]; omega
  have d' : ((b.length : Int) == min ((m : Int) - (n : Int) * 64) 64) = true := by
    simp only [beq_iff_eq]; omega
  refine fn_walk tabOk Tryd.func64 rfl (by decide +kernel) Tryd.ntmps64 Tryd.results64 (by simp) fun B hB => ?_
  try refine hK _ ?_
  repeat (first | refine awp_seq ?_ | refine awp_block ?_ | refine awp_skip ?_ | refine awp_scope ?_ | refine awp_label ?_)
  refine awp_region tabOk fun K hK => ?_
  simp -dsimp -implicitDefEqProofs only [push_cast, ↓trAdd_f, ↓stOf_f, seval]
  refine hK _ ?_
  try refine hK _ ?_
  repeat (first | refine awp_seq ?_ | refine awp_block ?_ | refine awp_skip ?_ | refine awp_scope ?_ | refine awp_label ?_)
  refine awp_region tabOk fun K hK => ?_
  simp -dsimp -implicitDefEqProofs only [encLoad, hl, w1, w2, d, d', push_cast, ↓trAdd_f, ↓stOf_f, seval]
  refine hK _ (awp_ret ?_)
  simp -dsimp -implicitDefEqProofs only [push_cast, List.mem_append, List.mem_cons, List.mem_singleton, forall_eq_or_imp, forall_eq, ↓trAdd_f, ↓stOf_f, seval]
structure BlkR where
  f : Flash
  l : Load
  e : Int
def blockF (f : Flash) (l : Load) (n : Nat) (b : List Int) : BlkR :=
  ⟨(saveF f l.slot n b).1, if (saveF f l.slot n b).2 = 0 then { l with have_ := l.have_ + 1 } else l, (saveF f l.slot n b).2⟩
theorem big_save {f : Flash} (h : f.big) (s n : Int) {b : List Int} (hb : ∀ x ∈ b, byte x) : (saveF f s n b).1.big := by
  unfold saveF
  split
  · exact h
  · exact big_write h _ _ hb
theorem blockF_ok (f : Flash) (l : Load) (n m : Nat) (t : Bool) (b : List Int) (hf : f.big) (ho : l.on = true) (hs : l.slot = 0 ∨ l.slot = 1) (hh : l.have_ = n) (hl : l.len = m) (hm : m ≤ 2 ^ 20) (hn : 64 * n < m) (hb : b.length = min 64 (m - 64 * n)) :
    FnS Tryd.prog 29 [.agg (encFlash f), .agg (encLoad l), .int .i64 n, .sl t 1 (b.map encB)] [] (.tup [.agg (encFlash (blockF f l n b).f), .agg (encLoad (blockF f l n b).l), .int .i64 (blockF f l n b).e]) [] := by
  have e0 : blockF f l n b = ⟨(saveF f l.slot n b).1, if (saveF f l.slot n b).2 = 0 then { l with have_ := l.have_ + 1 } else l, (saveF f l.slot n b).2⟩ := rfl
  have hdb : decide (((blocksN m : Nat) : Int) ≤ (n : Int)) = false := by
    simp only [decide_eq_false_iff_not]; unfold blocksN; omega
  have hne : ((n : Int) != n) = false := by simp
  have hnn : (!true) = false := rfl
  refine fn_walk tabOk Tryd.func29 rfl (by decide +kernel) Tryd.ntmps29 Tryd.results29 (by simp) fun B hB => ?_
  try refine hK _ ?_
  repeat (first | refine awp_seq ?_ | refine awp_block ?_ | refine awp_skip ?_ | refine awp_scope ?_ | refine awp_label ?_)
  refine awp_region tabOk fun K hK => ?_
  simp -dsimp -implicitDefEqProofs only [encFlash, encLoad, push_cast, ↓trAdd_f, ↓stOf_f, seval]
  refine hK _ ?_
  try refine hK _ ?_
  repeat (first | refine awp_seq ?_ | refine awp_block ?_ | refine awp_skip ?_ | refine awp_scope ?_ | refine awp_label ?_)
  refine awp_region tabOk fun K hK => ?_
  simp -dsimp -implicitDefEqProofs only [push_cast, ↓trAdd_f, ↓stOf_f, seval]
  refine hK _ (awp_seq (awp_block ?_))
  try refine hK _ ?_
  repeat (first | refine awp_seq ?_ | refine awp_block ?_ | refine awp_skip ?_ | refine awp_scope ?_ | refine awp_label ?_)
  refine awp_region tabOk fun K hK => ?_
  simp -dsimp -implicitDefEqProofs only [ho, push_cast, ↓trAdd_f, ↓stOf_f, seval]
  refine hK _ ?_
  try refine hK _ ?_
  repeat (first | refine awp_seq ?_ | refine awp_block ?_ | refine awp_skip ?_ | refine awp_scope ?_ | refine awp_label ?_)
  refine awp_cond (b := false) (by simp -dsimp -implicitDefEqProofs only [push_cast, ↓trAdd_f, ↓stOf_f, seval]) (fun h => ?_) (fun h => ?_)
  · cases h
  try refine hK _ ?_
  repeat (first | refine awp_seq ?_ | refine awp_block ?_ | refine awp_skip ?_ | refine awp_scope ?_ | refine awp_label ?_)
  refine awp_draw tabOk (by kernel_rfl) (by kernel_rfl) fun K hK C hC => ?_
  simp -dsimp -implicitDefEqProofs only [hh, hne, push_cast, ↓trAdd_f, ↓stOf_f, seval]
  refine callK_simple (blocksL_ok l m hl hm) ?_ rfl fun _ => ?_
  · simp -dsimp -implicitDefEqProofs only [encLoad, ho, hh, hl, push_cast, List.mem_append, List.mem_cons, List.mem_singleton, forall_eq_or_imp, forall_eq, ↓trAdd_f, ↓stOf_f, seval]
  simp -dsimp -implicitDefEqProofs only [hdb, push_cast, ↓trAdd_f, ↓stOf_f, seval]
  refine ⟨hC _ (by kernel_rfl), hK _ ?_⟩
  try refine hK _ ?_
  repeat (first | refine awp_seq ?_ | refine awp_block ?_ | refine awp_skip ?_ | refine awp_scope ?_ | refine awp_label ?_)
  refine awp_cond (b := false) (by simp -dsimp -implicitDefEqProofs only [push_cast, ↓trAdd_f, ↓stOf_f, seval]) (fun h => ?_) (fun h => ?_)
  · cases h
  try refine hK _ ?_
  repeat (first | refine awp_seq ?_ | refine awp_block ?_ | refine awp_skip ?_ | refine awp_scope ?_ | refine awp_label ?_)
  refine awp_region tabOk fun K hK => ?_
  simp -dsimp -implicitDefEqProofs only [push_cast, ↓trAdd_f, ↓stOf_f, seval]
  refine callK_simple (fits_ok t b l n m hl hm (by omega) hb) ?_ rfl fun _ => ?_
  · simp -dsimp -implicitDefEqProofs only [encLoad, ho, hh, hl, push_cast, List.mem_append, List.mem_cons, List.mem_singleton, forall_eq_or_imp, forall_eq, ↓trAdd_f, ↓stOf_f, seval]
  simp -dsimp -implicitDefEqProofs only [push_cast, ↓trAdd_f, ↓stOf_f, seval]
  refine hK _ ?_
  try refine hK _ ?_
  repeat (first | refine awp_seq ?_ | refine awp_block ?_ | refine awp_skip ?_ | refine awp_scope ?_ | refine awp_label ?_)
  refine awp_cond (b := false) (by simp -dsimp -implicitDefEqProofs only [push_cast, ↓trAdd_f, ↓stOf_f, seval]) (fun h => ?_) (fun h => ?_)
  · cases h
  refine awp_skip ?_
  try refine hK _ ?_
  repeat (first | refine awp_seq ?_ | refine awp_block ?_ | refine awp_skip ?_ | refine awp_scope ?_ | refine awp_label ?_)
  refine awp_region tabOk fun K hK => ?_
  simp -dsimp -implicitDefEqProofs only [push_cast, ↓trAdd_f, ↓stOf_f, seval]
  refine callK_simple (save_ok f l.slot n t b hf.fine hs (by omega)) ?_ rfl fun _ => ?_
  · simp -dsimp -implicitDefEqProofs only [encFlash, push_cast, List.mem_append, List.mem_cons, List.mem_singleton, forall_eq_or_imp, forall_eq, ↓trAdd_f, ↓stOf_f, seval]
  generalize saveF f l.slot n b = o at *
  obtain ⟨g, eg⟩ := o
  simp only at e0
  simp -dsimp -implicitDefEqProofs only [encFlash, push_cast, ↓trAdd_f, ↓stOf_f, seval]
  refine hK _ ?_
  cases hE : (eg == 0) with
  | true =>
    have h0 : eg = 0 := by simpa using hE
    subst h0
    have hw : IntKind.i64.wrap ((n : Int) + 1) = (n : Int) + 1 := wrap_i64 (by omega) (by omega)
    have e : blockF f l n b = ⟨g, { l with have_ := (n : Int) + 1 }, 0⟩ := by rw [e0, if_pos rfl, hh]
    try refine hK _ ?_
    repeat (first | refine awp_seq ?_ | refine awp_block ?_ | refine awp_skip ?_ | refine awp_scope ?_ | refine awp_label ?_)
    refine awp_region tabOk fun K hK => ?_
    simp -dsimp -implicitDefEqProofs only [push_cast, ↓trAdd_f, ↓stOf_f, seval]
    try refine hK _ ?_
    repeat (first | refine awp_seq ?_ | refine awp_block ?_ | refine awp_skip ?_ | refine awp_scope ?_ | refine awp_label ?_)
    refine awp_cond (b := true) (by simp -dsimp -implicitDefEqProofs only [push_cast, ↓trAdd_f, ↓stOf_f, seval]) (fun h => ?_) (fun h => ?_)
    rotate_left
    · cases h
    try refine hK _ ?_
    repeat (first | refine awp_seq ?_ | refine awp_block ?_ | refine awp_skip ?_ | refine awp_scope ?_ | refine awp_label ?_)
    refine awp_region tabOk fun K hK => ?_
    simp -dsimp -implicitDefEqProofs only [hh, hw, push_cast, ↓trAdd_f, ↓stOf_f, seval]
    refine hK _ ?_
    try refine hK _ ?_
    repeat (first | refine awp_seq ?_ | refine awp_block ?_ | refine awp_skip ?_ | refine awp_scope ?_ | refine awp_label ?_)
    refine awp_draw tabOk (by kernel_rfl) (by kernel_rfl) fun K hK C hC => ?_
    simp -dsimp -implicitDefEqProofs only [encFlash, encLoad, push_cast, ↓trAdd_f, ↓stOf_f, seval]
    refine ⟨hC _ (by kernel_rfl), hK _ (awp_ret ?_)⟩
    simp -dsimp -implicitDefEqProofs only [e, encFlash, encLoad, ho, hl, push_cast, List.mem_append, List.mem_cons, List.mem_singleton, forall_eq_or_imp, forall_eq, ↓trAdd_f, ↓stOf_f, seval]
  | false =>
    have h0 : eg ≠ 0 := by simpa using hE
    have e : blockF f l n b = ⟨g, l, eg⟩ := by rw [e0, if_neg h0]
    try refine hK _ ?_
    repeat (first | refine awp_seq ?_ | refine awp_block ?_ | refine awp_skip ?_ | refine awp_scope ?_ | refine awp_label ?_)
    refine awp_region tabOk fun K hK => ?_
    simp -dsimp -implicitDefEqProofs only [hE, push_cast, ↓trAdd_f, ↓stOf_f, seval]
    try refine hK _ ?_
    repeat (first | refine awp_seq ?_ | refine awp_block ?_ | refine awp_skip ?_ | refine awp_scope ?_ | refine awp_label ?_)
    refine awp_cond (b := false) (by simp -dsimp -implicitDefEqProofs only [push_cast, ↓trAdd_f, ↓stOf_f, seval]) (fun h => ?_) (fun h => ?_)
    · cases h
    refine awp_skip ?_
    try refine hK _ ?_
    repeat (first | refine awp_seq ?_ | refine awp_block ?_ | refine awp_skip ?_ | refine awp_scope ?_ | refine awp_label ?_)
    refine awp_draw tabOk (by kernel_rfl) (by kernel_rfl) fun K hK C hC => ?_
    simp -dsimp -implicitDefEqProofs only [encFlash, encLoad, push_cast, ↓trAdd_f, ↓stOf_f, seval]
    refine ⟨hC _ (by kernel_rfl), hK _ (awp_ret ?_)⟩
    simp -dsimp -implicitDefEqProofs only [e, encFlash, encLoad, ho, hh, hl, push_cast, List.mem_append, List.mem_cons, List.mem_singleton, forall_eq_or_imp, forall_eq, ↓trAdd_f, ↓stOf_f, seval]
def endF (f : Flash) (s n : Nat) (ver key : Int) : Flash × Int :=
  if wholeL f s n ver key ≠ 0 then (f, wholeL f s n ver key) else
  if (readS f).2 ≠ 0 then (f, (readS f).2) else putL f (readS f).1 s 2 ver 3
theorem end0_ok (f : Flash) (l : Load) (key : Int) (n : Nat) (hf : f.big) (ho : l.on = true) (hs : l.slot = 0) (hl : l.len = n) (hn : n ≤ 2176) (hh : l.have_ = blocksN n) :
    FnS Tryd.prog 30 [.agg (encFlash f), .agg (encLoad l), .int .i64 key] [] (.tup [.agg (encFlash (endF f 0 n l.ver key).1), .agg (encLoad load0), .int .i64 (endF f 0 n l.ver key).2]) [] := by
  have h7 := hf.n70
  have hsq := readS_seq f
  have e0 : endF f 0 n l.ver key = if wholeL f 0 n l.ver key ≠ 0 then (f, wholeL f 0 n l.ver key) else
    if (readS f).2 ≠ 0 then (f, (readS f).2) else putL f (readS f).1 0 2 l.ver 3 := rfl
  have hne : (((blocksN n : Nat) : Int) != blocksN n) = false := by simp
  refine fn_walk tabOk Tryd.func30 rfl (by decide +kernel) Tryd.ntmps30 Tryd.results30 (by simp) fun B hB => ?_
  try refine hK _ ?_
  repeat (first | refine awp_seq ?_ | refine awp_block ?_ | refine awp_skip ?_ | refine awp_scope ?_ | refine awp_label ?_)
  refine awp_region tabOk fun K hK => ?_
  simp -dsimp -implicitDefEqProofs only [encFlash, encLoad, push_cast, ↓trAdd_f, ↓stOf_f, seval]
  refine hK _ (awp_seq (awp_block ?_))
  try refine hK _ ?_
  repeat (first | refine awp_seq ?_ | refine awp_block ?_ | refine awp_skip ?_ | refine awp_scope ?_ | refine awp_label ?_)
  refine awp_region tabOk fun K hK => ?_
  simp -dsimp -implicitDefEqProofs only [ho, push_cast, ↓trAdd_f, ↓stOf_f, seval]
  refine hK _ ?_
  try refine hK _ ?_
  repeat (first | refine awp_seq ?_ | refine awp_block ?_ | refine awp_skip ?_ | refine awp_scope ?_ | refine awp_label ?_)
  refine awp_cond (b := false) (by simp -dsimp -implicitDefEqProofs only [push_cast, ↓trAdd_f, ↓stOf_f, seval]) (fun h => ?_) (fun h => ?_)
  · cases h
  try refine hK _ ?_
  repeat (first | refine awp_seq ?_ | refine awp_block ?_ | refine awp_skip ?_ | refine awp_scope ?_ | refine awp_label ?_)
  refine awp_draw tabOk (by kernel_rfl) (by kernel_rfl) fun K hK C hC => ?_
  simp -dsimp -implicitDefEqProofs only [hh, hne, push_cast, ↓trAdd_f, ↓stOf_f, seval]
  refine callK_simple (blocksL_ok l n hl (by omega)) ?_ rfl fun _ => ?_
  · simp -dsimp -implicitDefEqProofs only [encLoad, ho, hh, hl, push_cast, List.mem_append, List.mem_cons, List.mem_singleton, forall_eq_or_imp, forall_eq, ↓trAdd_f, ↓stOf_f, seval]
  simp -dsimp -implicitDefEqProofs only [hne, push_cast, ↓trAdd_f, ↓stOf_f, seval]
  refine ⟨hC _ (by kernel_rfl), hK _ ?_⟩
  try refine hK _ ?_
  repeat (first | refine awp_seq ?_ | refine awp_block ?_ | refine awp_skip ?_ | refine awp_scope ?_ | refine awp_label ?_)
  refine awp_cond (b := false) (by simp -dsimp -implicitDefEqProofs only [push_cast, ↓trAdd_f, ↓stOf_f, seval]) (fun h => ?_) (fun h => ?_)
  · cases h
  refine awp_skip ?_
  try refine hK _ ?_
  repeat (first | refine awp_seq ?_ | refine awp_block ?_ | refine awp_skip ?_ | refine awp_scope ?_ | refine awp_label ?_)
  refine awp_region tabOk fun K hK => ?_
  simp -dsimp -implicitDefEqProofs only [push_cast, ↓trAdd_f, ↓stOf_f, seval]
  refine callK_simple (wholeL_ok f l key 0 n hf (by decide) hn hs hl) ?_ rfl fun _ => ?_
  · simp -dsimp -implicitDefEqProofs only [encFlash, encLoad, ho, hh, hl, push_cast, List.mem_append, List.mem_cons, List.mem_singleton, forall_eq_or_imp, forall_eq, ↓trAdd_f, ↓stOf_f, seval]
  generalize wholeL f 0 n l.ver key = ew at *
  simp -dsimp -implicitDefEqProofs only [push_cast, ↓trAdd_f, ↓stOf_f, seval]
  refine hK _ ?_
  cases hE : (ew != 0) with
  | true =>
    have hne : ew ≠ 0 := by simpa using hE
    have e : endF f 0 n l.ver key = (f, ew) := by rw [e0, if_pos hne]
    try refine hK _ ?_
    repeat (first | refine awp_seq ?_ | refine awp_block ?_ | refine awp_skip ?_ | refine awp_scope ?_ | refine awp_label ?_)
    refine awp_region tabOk fun K hK => ?_
    simp -dsimp -implicitDefEqProofs only [hE, push_cast, ↓trAdd_f, ↓stOf_f, seval]
    refine hK _ ?_
    try refine hK _ ?_
    repeat (first | refine awp_seq ?_ | refine awp_block ?_ | refine awp_skip ?_ | refine awp_scope ?_ | refine awp_label ?_)
    refine awp_cond (b := true) (by simp -dsimp -implicitDefEqProofs only [push_cast, ↓trAdd_f, ↓stOf_f, seval]) (fun h => ?_) (fun h => ?_)
    rotate_left
    · cases h
    try refine hK _ ?_
    repeat (first | refine awp_seq ?_ | refine awp_block ?_ | refine awp_skip ?_ | refine awp_scope ?_ | refine awp_label ?_)
    refine awp_region tabOk fun K hK => ?_
    simp -dsimp -implicitDefEqProofs only [push_cast, ↓trAdd_f, ↓stOf_f, seval]
    refine hK _ (awp_ret ?_)
    simp -dsimp -implicitDefEqProofs only [e, encFlash, encLoad, load0, push_cast, List.mem_append, List.mem_cons, List.mem_singleton, forall_eq_or_imp, forall_eq, ↓trAdd_f, ↓stOf_f, seval]
  | false =>
  have hw0 : ew = 0 := by simpa using hE
  subst hw0
  rw [if_neg (by decide)] at e0
  try refine hK _ ?_
  repeat (first | refine awp_seq ?_ | refine awp_block ?_ | refine awp_skip ?_ | refine awp_scope ?_ | refine awp_label ?_)
  refine awp_region tabOk fun K hK => ?_
  simp -dsimp -implicitDefEqProofs only [push_cast, ↓trAdd_f, ↓stOf_f, seval]
  refine hK _ ?_
  try refine hK _ ?_
  repeat (first | refine awp_seq ?_ | refine awp_block ?_ | refine awp_skip ?_ | refine awp_scope ?_ | refine awp_label ?_)
  refine awp_cond (b := false) (by simp -dsimp -implicitDefEqProofs only [push_cast, ↓trAdd_f, ↓stOf_f, seval]) (fun h => ?_) (fun h => ?_)
  · cases h
  refine awp_skip ?_
  try refine hK _ ?_
  repeat (first | refine awp_seq ?_ | refine awp_block ?_ | refine awp_skip ?_ | refine awp_scope ?_ | refine awp_label ?_)
  refine awp_region tabOk fun K hK => ?_
  simp -dsimp -implicitDefEqProofs only [push_cast, ↓trAdd_f, ↓stOf_f, seval]
  refine callK_simple (read_ok f (by omega) hf.fine.good.block hf.fine.bytes) ?_ rfl fun _ => ?_
  · simp -dsimp -implicitDefEqProofs only [encFlash, push_cast, List.mem_append, List.mem_cons, List.mem_singleton, forall_eq_or_imp, forall_eq, ↓trAdd_f, ↓stOf_f, seval]
  generalize readS f = o at *
  obtain ⟨r, er⟩ := o
  simp only at hsq e0
  simp -dsimp -implicitDefEqProofs only [encRec, push_cast, ↓trAdd_f, ↓stOf_f, seval]
  refine hK _ ?_
  cases hR : (er != 0) with
  | true =>
    have hne : er ≠ 0 := by simpa using hR
    have e : endF f 0 n l.ver key = (f, er) := by rw [e0, if_pos hne]
    try refine hK _ ?_
    repeat (first | refine awp_seq ?_ | refine awp_block ?_ | refine awp_skip ?_ | refine awp_scope ?_ | refine awp_label ?_)
    refine awp_region tabOk fun K hK => ?_
    simp -dsimp -implicitDefEqProofs only [hR, push_cast, ↓trAdd_f, ↓stOf_f, seval]
    try refine hK _ ?_
    repeat (first | refine awp_seq ?_ | refine awp_block ?_ | refine awp_skip ?_ | refine awp_scope ?_ | refine awp_label ?_)
    refine awp_cond (b := true) (by simp -dsimp -implicitDefEqProofs only [push_cast, ↓trAdd_f, ↓stOf_f, seval]) (fun h => ?_) (fun h => ?_)
    rotate_left
    · cases h
    try refine hK _ ?_
    repeat (first | refine awp_seq ?_ | refine awp_block ?_ | refine awp_skip ?_ | refine awp_scope ?_ | refine awp_label ?_)
    refine awp_region tabOk fun K hK => ?_
    simp -dsimp -implicitDefEqProofs only [push_cast, ↓trAdd_f, ↓stOf_f, seval]
    refine hK _ (awp_ret ?_)
    simp -dsimp -implicitDefEqProofs only [e, encFlash, encLoad, load0, push_cast, List.mem_append, List.mem_cons, List.mem_singleton, forall_eq_or_imp, forall_eq, ↓trAdd_f, ↓stOf_f, seval]
  | false =>
  have her : er = 0 := by simpa using hR
  subst her
  rw [if_neg (by decide)] at e0
  try refine hK _ ?_
  repeat (first | refine awp_seq ?_ | refine awp_block ?_ | refine awp_skip ?_ | refine awp_scope ?_ | refine awp_label ?_)
  refine awp_region tabOk fun K hK => ?_
  simp -dsimp -implicitDefEqProofs only [push_cast, ↓trAdd_f, ↓stOf_f, seval]
  try refine hK _ ?_
  repeat (first | refine awp_seq ?_ | refine awp_block ?_ | refine awp_skip ?_ | refine awp_scope ?_ | refine awp_label ?_)
  refine awp_cond (b := false) (by simp -dsimp -implicitDefEqProofs only [push_cast, ↓trAdd_f, ↓stOf_f, seval]) (fun h => ?_) (fun h => ?_)
  · cases h
  refine awp_skip ?_
  try refine hK _ ?_
  repeat (first | refine awp_seq ?_ | refine awp_block ?_ | refine awp_skip ?_ | refine awp_scope ?_ | refine awp_label ?_)
  refine awp_region tabOk fun K hK => ?_
  simp -dsimp -implicitDefEqProofs only [hs, push_cast, ↓trAdd_f, ↓stOf_f, seval]
  refine callK_simple (putL0_ok f r 2 l.ver 3 hf.fine ⟨hsq.1, hsq.2.1⟩) ?_ rfl fun _ => ?_
  · simp -dsimp -implicitDefEqProofs only [encFlash, encRec, push_cast, List.mem_append, List.mem_cons, List.mem_singleton, forall_eq_or_imp, forall_eq, ↓trAdd_f, ↓stOf_f, seval]
  rw [← e0]
  generalize endF f 0 n l.ver key = o at *
  obtain ⟨g, eg⟩ := o
  simp -dsimp -implicitDefEqProofs only [encFlash, push_cast, ↓trAdd_f, ↓stOf_f, seval]
  refine hK _ ?_
  try refine hK _ ?_
  repeat (first | refine awp_seq ?_ | refine awp_block ?_ | refine awp_skip ?_ | refine awp_scope ?_ | refine awp_label ?_)
  refine awp_region tabOk fun K hK => ?_
  simp -dsimp -implicitDefEqProofs only [push_cast, ↓trAdd_f, ↓stOf_f, seval]
  refine hK _ (awp_ret ?_)
  simp -dsimp -implicitDefEqProofs only [encFlash, encLoad, load0, push_cast, List.mem_append, List.mem_cons, List.mem_singleton, forall_eq_or_imp, forall_eq, ↓trAdd_f, ↓stOf_f, seval]
theorem end1_ok (f : Flash) (l : Load) (key : Int) (n : Nat) (hf : f.big) (ho : l.on = true) (hs : l.slot = 1) (hl : l.len = n) (hn : n ≤ 2176) (hh : l.have_ = blocksN n) :
    FnS Tryd.prog 30 [.agg (encFlash f), .agg (encLoad l), .int .i64 key] [] (.tup [.agg (encFlash (endF f 1 n l.ver key).1), .agg (encLoad load0), .int .i64 (endF f 1 n l.ver key).2]) [] := by
  have h7 := hf.n70
  have hsq := readS_seq f
  have e0 : endF f 1 n l.ver key = if wholeL f 1 n l.ver key ≠ 0 then (f, wholeL f 1 n l.ver key) else
    if (readS f).2 ≠ 0 then (f, (readS f).2) else putL f (readS f).1 1 2 l.ver 3 := rfl
  have hne : (((blocksN n : Nat) : Int) != blocksN n) = false := by simp
  refine fn_walk tabOk Tryd.func30 rfl (by decide +kernel) Tryd.ntmps30 Tryd.results30 (by simp) fun B hB => ?_
  try refine hK _ ?_
  repeat (first | refine awp_seq ?_ | refine awp_block ?_ | refine awp_skip ?_ | refine awp_scope ?_ | refine awp_label ?_)
  refine awp_region tabOk fun K hK => ?_
  simp -dsimp -implicitDefEqProofs only [encFlash, encLoad, push_cast, ↓trAdd_f, ↓stOf_f, seval]
  refine hK _ (awp_seq (awp_block ?_))
  try refine hK _ ?_
  repeat (first | refine awp_seq ?_ | refine awp_block ?_ | refine awp_skip ?_ | refine awp_scope ?_ | refine awp_label ?_)
  refine awp_region tabOk fun K hK => ?_
  simp -dsimp -implicitDefEqProofs only [ho, push_cast, ↓trAdd_f, ↓stOf_f, seval]
  refine hK _ ?_
  try refine hK _ ?_
  repeat (first | refine awp_seq ?_ | refine awp_block ?_ | refine awp_skip ?_ | refine awp_scope ?_ | refine awp_label ?_)
  refine awp_cond (b := false) (by simp -dsimp -implicitDefEqProofs only [push_cast, ↓trAdd_f, ↓stOf_f, seval]) (fun h => ?_) (fun h => ?_)
  · cases h
  try refine hK _ ?_
  repeat (first | refine awp_seq ?_ | refine awp_block ?_ | refine awp_skip ?_ | refine awp_scope ?_ | refine awp_label ?_)
  refine awp_draw tabOk (by kernel_rfl) (by kernel_rfl) fun K hK C hC => ?_
  simp -dsimp -implicitDefEqProofs only [hh, hne, push_cast, ↓trAdd_f, ↓stOf_f, seval]
  refine callK_simple (blocksL_ok l n hl (by omega)) ?_ rfl fun _ => ?_
  · simp -dsimp -implicitDefEqProofs only [encLoad, ho, hh, hl, push_cast, List.mem_append, List.mem_cons, List.mem_singleton, forall_eq_or_imp, forall_eq, ↓trAdd_f, ↓stOf_f, seval]
  simp -dsimp -implicitDefEqProofs only [hne, push_cast, ↓trAdd_f, ↓stOf_f, seval]
  refine ⟨hC _ (by kernel_rfl), hK _ ?_⟩
  try refine hK _ ?_
  repeat (first | refine awp_seq ?_ | refine awp_block ?_ | refine awp_skip ?_ | refine awp_scope ?_ | refine awp_label ?_)
  refine awp_cond (b := false) (by simp -dsimp -implicitDefEqProofs only [push_cast, ↓trAdd_f, ↓stOf_f, seval]) (fun h => ?_) (fun h => ?_)
  · cases h
  refine awp_skip ?_
  try refine hK _ ?_
  repeat (first | refine awp_seq ?_ | refine awp_block ?_ | refine awp_skip ?_ | refine awp_scope ?_ | refine awp_label ?_)
  refine awp_region tabOk fun K hK => ?_
  simp -dsimp -implicitDefEqProofs only [push_cast, ↓trAdd_f, ↓stOf_f, seval]
  refine callK_simple (wholeL_ok f l key 1 n hf (by decide) hn hs hl) ?_ rfl fun _ => ?_
  · simp -dsimp -implicitDefEqProofs only [encFlash, encLoad, ho, hh, hl, push_cast, List.mem_append, List.mem_cons, List.mem_singleton, forall_eq_or_imp, forall_eq, ↓trAdd_f, ↓stOf_f, seval]
  generalize wholeL f 1 n l.ver key = ew at *
  simp -dsimp -implicitDefEqProofs only [push_cast, ↓trAdd_f, ↓stOf_f, seval]
  refine hK _ ?_
  cases hE : (ew != 0) with
  | true =>
    have hne : ew ≠ 0 := by simpa using hE
    have e : endF f 1 n l.ver key = (f, ew) := by rw [e0, if_pos hne]
    try refine hK _ ?_
    repeat (first | refine awp_seq ?_ | refine awp_block ?_ | refine awp_skip ?_ | refine awp_scope ?_ | refine awp_label ?_)
    refine awp_region tabOk fun K hK => ?_
    simp -dsimp -implicitDefEqProofs only [hE, push_cast, ↓trAdd_f, ↓stOf_f, seval]
    refine hK _ ?_
    try refine hK _ ?_
    repeat (first | refine awp_seq ?_ | refine awp_block ?_ | refine awp_skip ?_ | refine awp_scope ?_ | refine awp_label ?_)
    refine awp_cond (b := true) (by simp -dsimp -implicitDefEqProofs only [push_cast, ↓trAdd_f, ↓stOf_f, seval]) (fun h => ?_) (fun h => ?_)
    rotate_left
    · cases h
    try refine hK _ ?_
    repeat (first | refine awp_seq ?_ | refine awp_block ?_ | refine awp_skip ?_ | refine awp_scope ?_ | refine awp_label ?_)
    refine awp_region tabOk fun K hK => ?_
    simp -dsimp -implicitDefEqProofs only [push_cast, ↓trAdd_f, ↓stOf_f, seval]
    refine hK _ (awp_ret ?_)
    simp -dsimp -implicitDefEqProofs only [e, encFlash, encLoad, load0, push_cast, List.mem_append, List.mem_cons, List.mem_singleton, forall_eq_or_imp, forall_eq, ↓trAdd_f, ↓stOf_f, seval]
  | false =>
  have hw0 : ew = 0 := by simpa using hE
  subst hw0
  rw [if_neg (by decide)] at e0
  try refine hK _ ?_
  repeat (first | refine awp_seq ?_ | refine awp_block ?_ | refine awp_skip ?_ | refine awp_scope ?_ | refine awp_label ?_)
  refine awp_region tabOk fun K hK => ?_
  simp -dsimp -implicitDefEqProofs only [push_cast, ↓trAdd_f, ↓stOf_f, seval]
  refine hK _ ?_
  try refine hK _ ?_
  repeat (first | refine awp_seq ?_ | refine awp_block ?_ | refine awp_skip ?_ | refine awp_scope ?_ | refine awp_label ?_)
  refine awp_cond (b := false) (by simp -dsimp -implicitDefEqProofs only [push_cast, ↓trAdd_f, ↓stOf_f, seval]) (fun h => ?_) (fun h => ?_)
  · cases h
  refine awp_skip ?_
  try refine hK _ ?_
  repeat (first | refine awp_seq ?_ | refine awp_block ?_ | refine awp_skip ?_ | refine awp_scope ?_ | refine awp_label ?_)
  refine awp_region tabOk fun K hK => ?_
  simp -dsimp -implicitDefEqProofs only [push_cast, ↓trAdd_f, ↓stOf_f, seval]
  refine callK_simple (read_ok f (by omega) hf.fine.good.block hf.fine.bytes) ?_ rfl fun _ => ?_
  · simp -dsimp -implicitDefEqProofs only [encFlash, push_cast, List.mem_append, List.mem_cons, List.mem_singleton, forall_eq_or_imp, forall_eq, ↓trAdd_f, ↓stOf_f, seval]
  generalize readS f = o at *
  obtain ⟨r, er⟩ := o
  simp only at hsq e0
  simp -dsimp -implicitDefEqProofs only [encRec, push_cast, ↓trAdd_f, ↓stOf_f, seval]
  refine hK _ ?_
  cases hR : (er != 0) with
  | true =>
    have hne : er ≠ 0 := by simpa using hR
    have e : endF f 1 n l.ver key = (f, er) := by rw [e0, if_pos hne]
    try refine hK _ ?_
    repeat (first | refine awp_seq ?_ | refine awp_block ?_ | refine awp_skip ?_ | refine awp_scope ?_ | refine awp_label ?_)
    refine awp_region tabOk fun K hK => ?_
    simp -dsimp -implicitDefEqProofs only [hR, push_cast, ↓trAdd_f, ↓stOf_f, seval]
    try refine hK _ ?_
    repeat (first | refine awp_seq ?_ | refine awp_block ?_ | refine awp_skip ?_ | refine awp_scope ?_ | refine awp_label ?_)
    refine awp_cond (b := true) (by simp -dsimp -implicitDefEqProofs only [push_cast, ↓trAdd_f, ↓stOf_f, seval]) (fun h => ?_) (fun h => ?_)
    rotate_left
    · cases h
    try refine hK _ ?_
    repeat (first | refine awp_seq ?_ | refine awp_block ?_ | refine awp_skip ?_ | refine awp_scope ?_ | refine awp_label ?_)
    refine awp_region tabOk fun K hK => ?_
    simp -dsimp -implicitDefEqProofs only [push_cast, ↓trAdd_f, ↓stOf_f, seval]
    refine hK _ (awp_ret ?_)
    simp -dsimp -implicitDefEqProofs only [e, encFlash, encLoad, load0, push_cast, List.mem_append, List.mem_cons, List.mem_singleton, forall_eq_or_imp, forall_eq, ↓trAdd_f, ↓stOf_f, seval]
  | false =>
  have her : er = 0 := by simpa using hR
  subst her
  rw [if_neg (by decide)] at e0
  try refine hK _ ?_
  repeat (first | refine awp_seq ?_ | refine awp_block ?_ | refine awp_skip ?_ | refine awp_scope ?_ | refine awp_label ?_)
  refine awp_region tabOk fun K hK => ?_
  simp -dsimp -implicitDefEqProofs only [push_cast, ↓trAdd_f, ↓stOf_f, seval]
  try refine hK _ ?_
  repeat (first | refine awp_seq ?_ | refine awp_block ?_ | refine awp_skip ?_ | refine awp_scope ?_ | refine awp_label ?_)
  refine awp_cond (b := false) (by simp -dsimp -implicitDefEqProofs only [push_cast, ↓trAdd_f, ↓stOf_f, seval]) (fun h => ?_) (fun h => ?_)
  · cases h
  refine awp_skip ?_
  try refine hK _ ?_
  repeat (first | refine awp_seq ?_ | refine awp_block ?_ | refine awp_skip ?_ | refine awp_scope ?_ | refine awp_label ?_)
  refine awp_region tabOk fun K hK => ?_
  simp -dsimp -implicitDefEqProofs only [hs, push_cast, ↓trAdd_f, ↓stOf_f, seval]
  refine callK_simple (putL1_ok f r 2 l.ver 3 hf.fine ⟨hsq.1, hsq.2.1⟩) ?_ rfl fun _ => ?_
  · simp -dsimp -implicitDefEqProofs only [encFlash, encRec, push_cast, List.mem_append, List.mem_cons, List.mem_singleton, forall_eq_or_imp, forall_eq, ↓trAdd_f, ↓stOf_f, seval]
  rw [← e0]
  generalize endF f 1 n l.ver key = o at *
  obtain ⟨g, eg⟩ := o
  simp -dsimp -implicitDefEqProofs only [encFlash, push_cast, ↓trAdd_f, ↓stOf_f, seval]
  refine hK _ ?_
  try refine hK _ ?_
  repeat (first | refine awp_seq ?_ | refine awp_block ?_ | refine awp_skip ?_ | refine awp_scope ?_ | refine awp_label ?_)
  refine awp_region tabOk fun K hK => ?_
  simp -dsimp -implicitDefEqProofs only [push_cast, ↓trAdd_f, ↓stOf_f, seval]
  refine hK _ (awp_ret ?_)
  simp -dsimp -implicitDefEqProofs only [encFlash, encLoad, load0, push_cast, List.mem_append, List.mem_cons, List.mem_singleton, forall_eq_or_imp, forall_eq, ↓trAdd_f, ↓stOf_f, seval]
end Go.Proofs.YtoifmpiikopelaaDoorFw

/-
  What is written, with the power on, stands; what is erased is erased (no program in sight).
-/
namespace Go.Proofs.YtoifmpiikopelaaDoorFw
open Go Go.Proofs
set_option linter.unusedVariables false

theorem clean_take (n : Nat) (h : n ≤ 64) : clean64.take n = List.replicate n 255 := by unfold clean64; rw [List.take_replicate, Nat.min_eq_left h]
theorem free_of (p : List Int) (a n : Nat) (hp : p.length = 64) (h : a + n ≤ 64) (hall : ∀ i (hi : a + i < p.length), i < n → p[a + i] = 255) : freeF p a n = true := by
  unfold freeF
  rw [decide_eq_true_eq, clean_take n (by omega)]
  apply List.ext_getElem
  · simp; omega
  · intro i h1 h2
    simp at h1 h2
    rw [List.getElem_take, List.getElem_drop, List.getElem_replicate]
    exact hall i (by omega) (by omega)
theorem u8_mod {x : Int} {n : Nat} (h : byte x) (hn : 1 ≤ n) : ∃ k : Nat, Int.tmod x (n : Int) = (k : Int) ∧ k < n := by
  have m1 : Int.tmod x n = x % n := Int.tmod_eq_emod_of_nonneg h.1
  have h1 := Int.emod_nonneg x (show (n : Int) ≠ 0 by omega)
  have h2 := Int.emod_lt_of_pos x (show (0 : Int) < n by omega)
  exact ⟨(x % n).toNat, by rw [m1]; omega, by omega⟩
def laidAt (b : List Int) (j : Nat) (pg : List Int) : List Int := pg.take j ++ b ++ pg.drop (j + b.length)
theorem laidAt_len (b : List Int) (j : Nat) (pg : List Int) (h : j + b.length ≤ pg.length) : (laidAt b j pg).length = pg.length := by
  unfold laidAt; simp; omega
theorem laidAt_get (b : List Int) (j : Nat) (pg : List Int) (h : j + b.length ≤ pg.length) (i : Nat) : (laidAt b j pg)[i]? = if i < j then pg[i]? else if i < j + b.length then b[i - j]? else pg[i]? := by
  unfold laidAt
  have hl : (pg.take j).length = j := by rw [List.length_take]; omega
  rw [List.append_assoc]
  split
  · rw [List.getElem?_append_left (by omega), List.getElem?_take, if_pos (by assumption)]
  · rw [List.getElem?_append_right (by omega), hl]
    split
    · rw [List.getElem?_append_left (by omega)]
    · rw [List.getElem?_append_right (by omega), List.getElem?_drop]
      congr 1; omega
theorem laidAt_cons (x : Int) (b : List Int) (j : Nat) (pg : List Int) (h : j + (b.length + 1) ≤ pg.length) : laidAt (x :: b) j pg = laidAt b (j + 1) (pg.set j x) := by
  apply List.ext_getElem?
  intro i
  rw [laidAt_get _ _ _ (by simpa using h), laidAt_get _ _ _ (by simp; omega)]
  by_cases h1 : i < j
  · rw [if_pos h1, if_pos (by omega), List.getElem?_set, if_neg (by omega)]
  · by_cases h2 : i = j
    · subst h2
      rw [if_neg h1, if_pos (by simp), if_pos (by omega), List.getElem?_set, if_pos rfl]
      simp; omega
    · rw [if_neg h1, if_neg (show ¬ i < j + 1 by omega)]
      have e : i - j = (i - (j + 1)) + 1 := by omega
      rw [e, List.getElem?_cons_succ, List.getElem?_set, if_neg (show ¬ j = i by omega), List.length_cons]
      by_cases h3 : i < j + (b.length + 1)
      · rw [if_pos h3, if_pos (by omega)]
      · rw [if_neg h3, if_neg (by omega)]
theorem laidF_on : ∀ (b : List Int) (j : Nat) (pg : List Int), j + b.length ≤ pg.length → laidF b j pg (-1) = (laidAt b j pg, -1, false)
  | [], j, pg, _ => by
    rw [laidF_nil]; unfold laidAt; simp
  | x :: b, j, pg, h => by
    have h' : j + (b.length + 1) ≤ pg.length := by simpa using h
    rw [laidF_next _ _ _ _ (by decide), show decL (-1) = -1 from rfl, laidF_on b (j + 1) _ (by simp; omega), laidAt_cons x b j pg h']
theorem erase_on {f : Flash} {k : Nat} (h : f.fine) (hk : k < f.pages.length) (hd : f.down = false) (hl : f.left = -1) :
    eraseF f k = ({ f with pages := f.pages.set k clean64, wear := f.wear.set k (min (f.wear.getD k 0 + 1) 1099511627776) }, 0) := by
  have hin : inF f k 0 0 = true := (inF_iff _ _ _ _).2 ⟨⟨by omega, by omega⟩, by omega, by omega, by omega⟩
  unfold eraseF
  rw [hd, hin, hl]
  simp [decL]
theorem write_on {f : Flash} {k a : Nat} {b : List Int} (h : f.fine) (hk : k < f.pages.length) (ha : a + b.length ≤ 64) (hd : f.down = false) (hl : f.left = -1) (hfree : freeF f.pages[k] a b.length = true) :
    writeF f k a b = ({ f with pages := f.pages.set k (laidAt b a f.pages[k]) }, 0) := by
  have hin : inF f k a b.length = true := (inF_iff _ _ _ _).2 ⟨⟨by omega, by omega⟩, by omega, by omega, by omega⟩
  have hgp : f.pages.getD k [] = f.pages[k] := by simp [List.getD, hk]
  have h64 := h.good.block _ (List.getElem_mem hk)
  unfold writeF
  rw [hd, hin, Int.toNat_natCast, Int.toNat_natCast, hgp, hfree, hl, laidF_on b a _ (by omega)]
  obtain ⟨ps, w, left, down⟩ := f
  simp only at hl hd
  subst hl hd
  simp
theorem read_on {f : Flash} {k a n : Nat} (h : f.fine) (hk : k < f.pages.length) (ha : a + n ≤ 64) (hd : f.down = false) : readF f k a n = ((f.pages[k].drop a).take n, 0) := by
  have hin : inF f k a n = true := (inF_iff _ _ _ _).2 ⟨⟨by omega, by omega⟩, by omega, by omega, by omega⟩
  have hgp : f.pages.getD k [] = f.pages[k] := by simp [List.getD, hk]
  unfold readF
  rw [hd, hin, Int.toNat_natCast, Int.toNat_natCast, Int.toNat_natCast, hgp]
  simp
theorem free_clean (a n : Nat) (h : a + n ≤ 64) : freeF clean64 a n = true := free_of clean64 a n rfl h fun i hi hn => by simp only [clean64, List.getElem_replicate]
theorem laidAt_mid (b : List Int) (j : Nat) (pg : List Int) (h : j + b.length ≤ pg.length) : ((laidAt b j pg).drop j).take b.length = b := by
  unfold laidAt
  have hl : (pg.take j).length = j := by rw [List.length_take]; omega
  rw [List.append_assoc, List.drop_append_of_le_length (by omega), List.drop_of_length_le (by omega), List.nil_append, List.take_append_of_le_length (by omega), List.take_length]
end Go.Proofs.YtoifmpiikopelaaDoorFw

/-
  A writing that is cut off (no program in sight).
-/
namespace Go.Proofs.YtoifmpiikopelaaDoorFw
open Go Go.Proofs
set_option linter.unusedVariables false

theorem laidAt_nil (j : Nat) (pg : List Int) : laidAt [] j pg = pg := by unfold laidAt; simp
theorem laidF_cut : ∀ (b : List Int) (j : Nat) (pg : List Int) (n : Nat) (hn : n < b.length), j + b.length ≤ pg.length → laidF b j pg (n : Int) = ((laidAt (b.take n) j pg).set (j + n) (or15 b[n]), 0, true)
  | x :: b, j, pg, 0, hn, h => by
    rw [show ((0 : Nat) : Int) = 0 from rfl, laidF_torn]
    simp [laidAt_nil]
  | x :: b, j, pg, n + 1, hn, h => by
    have hn' : n < b.length := by simpa using hn
    have h' : j + (b.length + 1) ≤ pg.length := by simpa using h
    have hd : decL ((n + 1 : Nat) : Int) = (n : Int) := by unfold decL; rw [if_pos (by omega)]; omega
    rw [laidF_next _ _ _ _ (by omega), hd, laidF_cut b (j + 1) (pg.set j x) n hn' (by simp; omega)]
    rw [List.take_succ_cons, laidAt_cons x (b.take n) j pg (by rw [List.length_take]; omega)]
    have e : j + 1 + n = j + (n + 1) := by omega
    rw [e]
    rfl
def tornAt (b : List Int) (a n : Nat) (x : Int) : List Int := (laidAt (b.take n) a clean64).set (a + n) x
theorem tornAt_len (b : List Int) (a n : Nat) (x : Int) (h : a + n ≤ 64) (hn : n ≤ b.length) : (tornAt b a n x).length = 64 := by
  unfold tornAt
  rw [List.length_set, laidAt_len _ _ _ (by rw [List.length_take, clean_len]; omega)]
  rfl
theorem tornAt_get (b : List Int) (a n : Nat) (x : Int) (h : a + n < 64) (hn : n ≤ b.length) (i : Nat) (hi : i < (tornAt b a n x).length) :
    (tornAt b a n x)[i] = if i = a + n then x else if a ≤ i ∧ i < a + n then b.getD (i - a) 0 else 255 := by
  have hl := tornAt_len b a n x (by omega) hn
  have hi64 : i < 64 := by omega
  have h1 : (tornAt b a n x)[i]? = some (tornAt b a n x)[i] := List.getElem?_eq_getElem hi
  have hb : (b.take n).length = n := by rw [List.length_take]; omega
  unfold tornAt at h1
  rw [List.getElem?_set, laidAt_get _ _ _ (by rw [hb, clean_len]; omega), hb] at h1
  have hc : clean64[i]? = some 255 := by unfold clean64; rw [List.getElem?_replicate, if_pos hi64]
  rw [hc] at h1
  by_cases e : i = a + n
  · subst e
    rw [if_pos rfl, if_pos (by rw [laidAt_len _ _ _ (by rw [hb, clean_len]; omega), clean_len]; omega)] at h1
    rw [if_pos rfl]
    exact (Option.some.inj h1).symm
  · rw [if_neg (fun q => e q.symm)] at h1
    rw [if_neg e]
    by_cases c : a ≤ i ∧ i < a + n
    · rw [if_neg (by omega), if_pos (by omega), List.getElem?_take, if_pos (by omega)] at h1
      rw [if_pos c, List.getD_eq_getElem?_getD, h1]
      rfl
    · rw [if_neg c]
      by_cases c2 : i < a
      · rw [if_pos c2] at h1; exact (Option.some.inj h1).symm
      · rw [if_neg c2, if_neg (by omega)] at h1; exact (Option.some.inj h1).symm
theorem write_cut {f : Flash} {k a n : Nat} {b : List Int} (h : f.fine) (hk : k < f.pages.length) (ha : a + b.length ≤ 64) (hn : n < b.length) (hd : f.down = false) (hl : f.left = n) (hp : f.pages[k] = clean64) :
    writeF f k a b = ({ f with pages := f.pages.set k (tornAt b a n (or15 b[n])), left := 0, down := true }, 250) := by
  have hin : inF f k a b.length = true := (inF_iff _ _ _ _).2 ⟨⟨by omega, by omega⟩, by omega, by omega, by omega⟩
  have hgp : f.pages.getD k [] = clean64 := by rw [← hp]; simp [List.getD, hk]
  unfold writeF
  rw [hd, hin, Int.toNat_natCast, Int.toNat_natCast, hgp, free_clean a b.length ha, hl, laidF_cut b a clean64 n hn (by rw [clean_len]; omega)]
  rfl
theorem read_down {f : Flash} (hd : f.down = true) (k a n : Int) : readF f k a n = ([], 250) := by unfold readF; rw [hd]; rfl
theorem write_down {f : Flash} (hd : f.down = true) (k a : Int) (b : List Int) : writeF f k a b = (f, 250) := by unfold writeF; rw [hd]; rfl
theorem erase_down {f : Flash} (hd : f.down = true) (k : Int) : eraseF f k = (f, 250) := by unfold eraseF; rw [hd]; rfl
end Go.Proofs.YtoifmpiikopelaaDoorFw

/-
  Numbers of four bytes; a record's bytes are read back (no program in sight).
-/
namespace Go.Proofs.YtoifmpiikopelaaDoorFw
open Go Go.Proofs
set_option linter.unusedVariables false
set_option linter.unusedSimpArgs false

theorem u8_mod' (n : Int) : u8 n = n % 256 := by
  unfold u8
  simp [IntKind.wrap, IntKind.bits, IntKind.signed]
theorem be4_eq {n : Int} (h0 : 0 ≤ n) : be4 n = [n / 16777216 % 256, n / 65536 % 256, n / 256 % 256, n % 256] := by
  unfold be4
  simp only [u8_mod']
  rw [Int.fdiv_eq_ediv_of_nonneg _ (by decide : (0 : Int) ≤ 16777216), Int.fdiv_eq_ediv_of_nonneg _ (by decide : (0 : Int) ≤ 65536), Int.fdiv_eq_ediv_of_nonneg _ (by decide : (0 : Int) ≤ 256)]
theorem be4_len (n : Int) : (be4 n).length = 4 := rfl
theorem stepAdd {n b : Int} (h0 : 0 ≤ n) (h1 : n < 1099511627776) (hb : byte b) : IntKind.i64.wrap (IntKind.i64.wrap (n * 256) + IntKind.i64.wrap b) = n * 256 + b := by
  unfold byte at hb
  rw [wrap_i64 (n := n * 256) (by omega) (by omega), wrap_i64 (n := b) (by omega) (by omega), wrap_i64 (by omega) (by omega)]
theorem stepOr {n b : Int} (h0 : 0 ≤ n) (h1 : n < 1099511627776) (hb : byte b) : IntKind.i64.wrap (BitVec.ofInt IntKind.i64.bits (IntKind.i64.wrap (n * 2 ^ (min 8 IntKind.i64.bits))) ||| BitVec.ofInt IntKind.i64.bits (IntKind.i64.wrap b)).toNat = n * 256 + b := by
  unfold byte at hb
  have e : (2 : Int) ^ (min 8 IntKind.i64.bits) = 256 := by decide
  rw [e, wrap_i64 (n := n * 256) (by omega) (by omega), wrap_i64 (n := b) (by omega) (by omega)]
  obtain ⟨k, rfl⟩ : ∃ k : Nat, n = (k : Int) := ⟨n.toNat, by omega⟩
  obtain ⟨c, rfl⟩ : ∃ c : Nat, b = (c : Int) := ⟨b.toNat, by omega⟩
  have hc : c < 2 ^ 8 := by omega
  have hk : k < 1099511627776 := by omega
  have e1 : ((k : Int) * 256) = ((k * 256 : Nat) : Int) := by omega
  rw [e1, BitVec.ofInt_natCast, BitVec.ofInt_natCast, BitVec.toNat_or]
  have b64 : IntKind.i64.bits = 64 := rfl
  rw [b64, BitVec.toNat_ofNat, BitVec.toNat_ofNat, Nat.mod_eq_of_lt (by omega : k * 256 < 2 ^ 64), Nat.mod_eq_of_lt (by omega : c < 2 ^ 64)]
  have e2 : k * 256 = k <<< 8 := by rw [Nat.shiftLeft_eq]
  rw [e2, ← Nat.shiftLeft_add_eq_or_of_lt hc, Nat.shiftLeft_eq, wrap_i64 (by omega) (by omega)]
  omega
theorem numAdd4 {a b c d : Int} (ha : byte a) (hb : byte b) (hc : byte c) (hd : byte d) : numAdd [a, b, c, d] = ((a * 256 + b) * 256 + c) * 256 + d := by
  have q : ∀ x, byte x → 0 ≤ x ∧ x ≤ 255 := fun _ h => h
  have := q a ha; have := q b hb; have := q c hc; have := q d hd
  unfold numAdd
  simp only [List.foldl_cons, List.foldl_nil]
  rw [stepAdd (n := 0) (by omega) (by omega) ha, stepAdd (by omega) (by omega) hb, stepAdd (by omega) (by omega) hc, stepAdd (by omega) (by omega) hd]
  omega
theorem numOr4 {a b c d : Int} (ha : byte a) (hb : byte b) (hc : byte c) (hd : byte d) : numOr [a, b, c, d] = ((a * 256 + b) * 256 + c) * 256 + d := by
  have q : ∀ x, byte x → 0 ≤ x ∧ x ≤ 255 := fun _ h => h
  have := q a ha; have := q b hb; have := q c hc; have := q d hd
  unfold numOr
  simp only [List.foldl_cons, List.foldl_nil]
  rw [stepOr (n := 0) (by omega) (by omega) ha, stepOr (by omega) (by omega) hb, stepOr (by omega) (by omega) hc, stepOr (by omega) (by omega) hd]
  omega
theorem be4_byte {n : Int} (h0 : 0 ≤ n) : byte (n / 16777216 % 256) ∧ byte (n / 65536 % 256) ∧ byte (n / 256 % 256) ∧ byte (n % 256) := by
  unfold byte; omega
theorem numAdd_be4 {n : Int} (h0 : 0 ≤ n) (h1 : n < 4294967296) : numAdd (be4 n) = n := by
  obtain ⟨a, b, c, d⟩ := be4_byte h0
  rw [be4_eq h0, numAdd4 a b c d]; omega
theorem numOr_be4 {n : Int} (h0 : 0 ≤ n) (h1 : n < 4294967296) : numOr (be4 n) = n := by
  obtain ⟨a, b, c, d⟩ := be4_byte h0
  rw [be4_eq h0, numOr4 a b c d]; omega
theorem mid4 (x y z : List Int) (k : Nat) (hx : x.length = k) (hy : y.length = 4) : (((x ++ y) ++ z).drop k).take 4 = y := by
  rw [List.append_assoc, List.drop_append_of_le_length (by omega), List.drop_of_length_le (by omega), List.nil_append, List.take_append_of_le_length (by omega), List.take_of_length_le (by omega)]
theorem fourP_mid (x z : List Int) (k : Nat) (hx : x.length = k) {n : Int} (h0 : 0 ≤ n) (h1 : n < 4294967296) : fourP ((x ++ be4 n) ++ z) k = n := by
  unfold fourP
  rw [mid4 _ _ _ k hx (be4_len n), numOr_be4 h0 h1]
theorem numberS_mid (x z : List Int) (k : Nat) (hx : x.length = k) {n : Int} (h0 : 0 ≤ n) (h1 : n < 4294967296) : numberS ((x ++ be4 n) ++ z) k = n := by
  unfold numberS
  rw [mid4 _ _ _ k hx (be4_len n), numAdd_be4 h0 h1]

/-! ### Records -/
structure Rec.good (r : Rec) : Prop where
  s0 : 1 ≤ r.s0 ∧ r.s0 ≤ 4
  s1 : 1 ≤ r.s1 ∧ r.s1 ≤ 4
  v0 : 0 ≤ r.v0 ∧ r.v0 < 2147483648
  v1 : 0 ≤ r.v1 ∧ r.v1 < 2147483648
  seq : 0 < r.seq ∧ r.seq < 2147483648
  tries : 0 ≤ r.tries ∧ r.tries < 256
theorem rightR_iff (r : Rec) : rightR r = true ↔ r.good := by
  unfold rightR shr31
  simp only [Int.fdiv_eq_ediv_of_nonneg _ (by decide : (0 : Int) ≤ 2147483648), Int.fdiv_eq_ediv_of_nonneg _ (by decide : (0 : Int) ≤ 256)]
  simp only [Bool.and_eq_true, Bool.not_eq_true', Bool.or_eq_false_iff, decide_eq_false_iff_not, decide_eq_true_eq, beq_iff_eq, bne_eq_false_iff_eq]
  constructor
  · rintro ⟨⟨⟨⟨h1, h2⟩, h3⟩, ⟨h4, h5⟩, h6⟩, ⟨h7, h8⟩, h9⟩
    exact ⟨by omega, by omega, by omega, by omega, by omega, by omega⟩
  · rintro ⟨a, b, c, d, e, f⟩
    omega
theorem rec4_len (r : Rec) : (rec4 r).length = 20 := by simp [rec4, rec3, rec2, rec1, be4]
theorem crc_lt (b : BitVec 32) : 0 ≤ (b.toNat : Int) ∧ (b.toNat : Int) < 4294967296 := by have := b.isLt; omega
theorem u8_id {n : Int} (h : byte n) : u8 n = n := by unfold byte at h; rw [u8_mod']; omega
theorem recF_eq (r : Rec) : recF r = [82] ++ be4 r.seq ++ [u8 r.s0, u8 r.s1] ++ be4 r.v0 ++ be4 r.v1 ++ [u8 r.tries] ++ be4 0 ++ be4 ((crcMore 0#32 (rec4 r)).toNat : Int) := rfl
/-- Whatever begins with the first sixteen bytes of a right record tells it. -/
theorem heldR_of {r : Rec} (h : r.good) (p z : List Int) (hp : p = ([82] ++ be4 r.seq ++ [u8 r.s0, u8 r.s1] ++ be4 r.v0 ++ be4 r.v1 ++ [u8 r.tries]) ++ z) : heldR p = r := by
  have a1 : fourP p 1 = r.seq := by
    rw [hp]
    have := fourP_mid [82] ([u8 r.s0, u8 r.s1] ++ be4 r.v0 ++ be4 r.v1 ++ [u8 r.tries] ++ z) 1 rfl (n := r.seq) (by have := h.seq; omega) (by have := h.seq; omega)
    simpa [List.append_assoc] using this
  have a2 : fourP p 7 = r.v0 := by
    rw [hp]
    have := fourP_mid ([82] ++ be4 r.seq ++ [u8 r.s0, u8 r.s1]) (be4 r.v1 ++ [u8 r.tries] ++ z) 7 (by simp [be4]) (n := r.v0) (by have := h.v0; omega) (by have := h.v0; omega)
    simpa [List.append_assoc] using this
  have a3 : fourP p 11 = r.v1 := by
    rw [hp]
    have := fourP_mid ([82] ++ be4 r.seq ++ [u8 r.s0, u8 r.s1] ++ be4 r.v0) ([u8 r.tries] ++ z) 11 (by simp [be4]) (n := r.v1) (by have := h.v1; omega) (by have := h.v1; omega)
    simpa [List.append_assoc] using this
  have hb : ∀ n : Int, 0 ≤ n → n < 256 → IntKind.i64.wrap (u8 n) = n := fun n h0 h1 => by
    rw [u8_id ⟨h0, by omega⟩, wrap_i64 (by omega) (by omega)]
  have b5 : p.getD 5 0 = u8 r.s0 := by rw [hp]; simp [be4]
  have b6 : p.getD 6 0 = u8 r.s1 := by rw [hp]; simp [be4]
  have b15 : p.getD 15 0 = u8 r.tries := by rw [hp]; simp [be4]
  unfold heldR
  rw [a1, a2, a3, b5, b6, b15, hb _ (by have := h.s0; omega) (by have := h.s0; omega), hb _ (by have := h.s1; omega) (by have := h.s1; omega), hb _ (by have := h.tries; omega) (by have := h.tries; omega)]
theorem band1 {n : Int} (h0 : 0 ≤ n) (h1 : n < 2147483648) : band n 1 = n % 2 := by
  obtain ⟨k, rfl⟩ : ∃ k : Nat, n = (k : Int) := ⟨n.toNat, by omega⟩
  have e : (BitVec.ofInt IntKind.i64.bits (k : Int) &&& BitVec.ofInt IntKind.i64.bits 1).toNat = k % 2 := by
    rw [BitVec.toNat_and]
    have e1 : (BitVec.ofInt IntKind.i64.bits 1).toNat = 1 := by decide
    have e2 : (BitVec.ofInt IntKind.i64.bits (k : Int)).toNat = k := by
      rw [BitVec.ofInt_natCast, BitVec.toNat_ofNat]
      have b64 : IntKind.i64.bits = 64 := rfl
      rw [b64]; omega
    rw [e1, e2, Nat.and_one_is_mod]
  unfold band
  rw [e, wrap_i64 (by omega) (by omega)]
  omega
theorem tmod2 {n : Int} (h0 : 0 ≤ n) : n.tmod 2 = n % 2 := Int.tmod_eq_emod_of_nonneg h0
theorem held_rec {r : Rec} (h : r.good) {p : List Int} (hp : p.take 24 = recF r) : heldR p = r ∧ heldB p (r.seq % 2) = true := by
  have e : p = recF r ++ p.drop 24 := by rw [← hp, List.take_append_drop]
  have h1 : heldR p = r := heldR_of h p (be4 0 ++ be4 ((crcMore 0#32 (rec4 r)).toNat : Int) ++ p.drop 24) (e.trans (by rw [recF_eq]; simp only [List.append_assoc]))
  refine ⟨h1, ?_⟩
  unfold heldB
  rw [h1, (rightR_iff r).2 h, band1 (by have := h.seq; omega) h.seq.2, hp]
  simp
theorem held_at {p : List Int} {pg : Int} (h : heldB p pg = true) : (heldR p).good ∧ (heldR p).seq % 2 = pg ∧ p.take 24 = recF (heldR p) := by
  unfold heldB at h
  rw [Bool.and_eq_true, Bool.and_eq_true] at h
  have hg := (rightR_iff _).1 h.1.1
  refine ⟨hg, ?_, (of_decide_eq_true h.2).symm⟩
  have := h.1.2
  rw [band1 (by have := hg.seq; omega) hg.seq.2] at this
  simpa using this
theorem held_get {p : List Int} {pg : Int} (h : heldB p pg = true) (i : Nat) (hi : i < 24) : p[i]? = (recF (heldR p))[i]? := by
  have := (held_at h).2.2
  rw [← this, List.getElem?_take, if_pos hi]
theorem held_no0 {p : List Int} {pg : Int} (h : p[0]? ≠ some 82) : heldB p pg = false := by
  cases hb : heldB p pg with
  | false => rfl
  | true => exact absurd (held_get hb 0 (by decide)) h
theorem rec_19 (r : Rec) : (recF r)[19]? = some 0 := by
  rw [recF_eq]
  simp [be4]
  decide
theorem held_no19 {p : List Int} {pg : Int} (h : p[19]? ≠ some 0) : heldB p pg = false := by
  cases hb : heldB p pg with
  | false => rfl
  | true => exact absurd ((held_get hb 19 (by decide)).trans (rec_19 _)) h
theorem or15_0 : or15 0 = 15 := by decide
theorem or15_82 : or15 82 = 95 := by decide
theorem tornAt_get? (b : List Int) (a n : Nat) (x : Int) (h : a + n < 64) (hn : n ≤ b.length) (i : Nat) (hi : i < 64) :
    (tornAt b a n x)[i]? = some (if i = a + n then x else if a ≤ i ∧ i < a + n then b.getD (i - a) 0 else 255) := by
  have hl := tornAt_len b a n x (by omega) hn
  rw [List.getElem?_eq_getElem (by omega), tornAt_get b a n x h hn i (by omega)]
/-- A record whose writing was cut off tells nothing, or just what was to be written. -/
theorem held_torn {r : Rec} (h : r.good) (n : Nat) (hn : n < 24) {pg : Int} (hb : heldB (tornAt (recF r) 0 n (or15 ((recF r).getD n 0))) pg = true) : heldR (tornAt (recF r) 0 n (or15 ((recF r).getD n 0))) = r := by
  have hl := recF_len r
  have get := fun i (hi : i < 64) => tornAt_get? (recF r) 0 n (or15 ((recF r).getD n 0)) (by omega) (by omega) i hi
  have r19 : (recF r).getD 19 0 = 0 := by rw [List.getD_eq_getElem?_getD, rec_19]; rfl
  by_cases h20 : n < 20
  · have := held_no19 (pg := pg) (p := tornAt (recF r) 0 n (or15 ((recF r).getD n 0))) (by
      rw [get 19 (by decide)]
      by_cases e : n = 19
      · subst e
        rw [if_pos rfl, r19, or15_0]
        decide
      · rw [if_neg (by omega), if_neg (by omega)]
        decide)
    rw [this] at hb; cases hb
  · have e : (tornAt (recF r) 0 n (or15 ((recF r).getD n 0))).take 20 = (recF r).take 20 := by
      apply List.ext_getElem?
      intro i
      rw [List.getElem?_take, List.getElem?_take]
      by_cases hi : i < 20
      · rw [if_pos hi, if_pos hi, get i (by omega), if_neg (by omega), if_pos (by omega)]
        rw [Nat.sub_zero, List.getD_eq_getElem?_getD, List.getElem?_eq_getElem (by omega)]
        rfl
      · rw [if_neg hi, if_neg hi]
    have e2 : (recF r).take 20 = ([82] ++ be4 r.seq ++ [u8 r.s0, u8 r.s1] ++ be4 r.v0 ++ be4 r.v1 ++ [u8 r.tries]) ++ be4 0 := by
      rw [recF_eq]
      exact List.take_left' (by simp [be4])
    generalize tornAt (recF r) 0 n (or15 ((recF r).getD n 0)) = p at *
    refine heldR_of h p (be4 0 ++ p.drop 20) ?_
    rw [← List.append_assoc, ← e2, ← e, List.take_append_drop]
end Go.Proofs.YtoifmpiikopelaaDoorFw

/-
  A flash's deeds with any power; the record that is read; what putting one makes (no program in sight).
-/
namespace Go.Proofs.YtoifmpiikopelaaDoorFw
open Go Go.Proofs
set_option linter.unusedVariables false
set_option linter.unusedSimpArgs false

theorem laidF_full : ∀ (b : List Int) (j : Nat) (pg : List Int) (n : Nat), b.length ≤ n → j + b.length ≤ pg.length → laidF b j pg (n : Int) = (laidAt b j pg, ((n - b.length : Nat) : Int), false)
  | [], j, pg, n, _, _ => by rw [laidF_nil, laidAt_nil]; simp
  | x :: b, j, pg, n, hn, h => by
    have hn' : b.length + 1 ≤ n := by simpa using hn
    have h' : j + (b.length + 1) ≤ pg.length := by simpa using h
    have hd : decL (n : Int) = ((n - 1 : Nat) : Int) := by unfold decL; rw [if_pos (by omega)]; omega
    rw [laidF_next _ _ _ _ (by omega), hd, laidF_full b (j + 1) _ (n - 1) (by omega) (by simp; omega), laidAt_cons x b j pg h']
    have : n - 1 - b.length = n - (x :: b).length := by simp only [List.length_cons]; omega
    rw [this]
theorem laidF_cases (b : List Int) (j : Nat) (pg : List Int) (left : Int) (hl : -1 ≤ left) (h : j + b.length ≤ pg.length) :
    (∃ l', laidF b j pg left = (laidAt b j pg, l', false) ∧ (left = -1 → l' = -1)) ∨ ∃ n, n < b.length ∧ left = (n : Int) ∧ laidF b j pg left = ((laidAt (b.take n) j pg).set (j + n) (or15 (b.getD n 0)), 0, true) := by
  by_cases h1 : left = -1
  · subst h1
    exact .inl ⟨-1, laidF_on b j pg h, fun _ => rfl⟩
  · obtain ⟨n, rfl⟩ : ∃ n : Nat, left = (n : Int) := ⟨left.toNat, by omega⟩
    by_cases h2 : n < b.length
    · refine .inr ⟨n, h2, rfl, ?_⟩
      have e : b.getD n 0 = b[n] := by simp [List.getD, h2]
      rw [laidF_cut b j pg n h2 h, e]
    · exact .inl ⟨_, laidF_full b j pg n (by omega) h, fun h => by omega⟩
theorem in_page {f : Flash} {k : Nat} (hk : k < f.pages.length) (a n : Nat) (h : a + n ≤ 64) : inF f k a n = true := (inF_iff _ _ _ _).2 ⟨⟨by omega, by omega⟩, by omega, by omega, by omega⟩
theorem getD_pg {f : Flash} {k : Nat} (hk : k < f.pages.length) : f.pages.getD k [] = f.pages[k] := by simp [List.getD, hk]
/-- A page is erased, or half of it. -/
theorem erase_cases {f : Flash} {k : Nat} (hk : k < f.pages.length) (hd : f.down = false) :
    ((eraseF f k).2 = 0 ∧ (eraseF f k).1.down = false ∧ (eraseF f k).1.pages = f.pages.set k clean64 ∧ (f.left = -1 → (eraseF f k).1.left = -1) ∧ (eraseF f k).1.wear = f.wear.set k (min (f.wear.getD k 0 + 1) 1099511627776)) ∨
    ((eraseF f k).2 = 250 ∧ f.left ≠ -1 ∧ (eraseF f k).1.pages = f.pages.set k (tornP (f.pages.getD k [])) ∧ (eraseF f k).1.down = true) := by
  have e : eraseF f k = if f.left = 0 then ({ f with pages := f.pages.set k (tornP (f.pages.getD k [])), left := 0, down := true }, 250) else
      ({ f with pages := f.pages.set k clean64, wear := f.wear.set k (min (f.wear.getD k 0 + 1) 1099511627776), left := decL f.left }, 0) := by
    have h0 : inF f (k : Int) 0 0 = true := in_page hk 0 0 (by omega)
    unfold eraseF
    rw [if_neg (by simp [hd]), if_neg (by simp [h0])]
    rfl
  rw [e]
  by_cases h0 : f.left = 0
  · rw [if_pos h0]
    exact .inr ⟨rfl, by omega, rfl, rfl⟩
  · rw [if_neg h0]
    exact .inl ⟨rfl, hd, rfl, fun h => by show decL f.left = -1; rw [h]; rfl, rfl⟩
/-- Bytes are written onto an erased page, or a part of them. -/
theorem write_cases {f : Flash} {k : Nat} {b : List Int} (hf : f.fine) (hk : k < f.pages.length) (hd : f.down = false) (hb : b.length ≤ 64) (hc : f.pages[k] = clean64) :
    ((writeF f k 0 b).2 = 0 ∧ (writeF f k 0 b).1.down = false ∧ (writeF f k 0 b).1.pages = f.pages.set k (laidAt b 0 clean64) ∧ (f.left = -1 → (writeF f k 0 b).1.left = -1) ∧ (writeF f k 0 b).1.wear = f.wear) ∨
    ((writeF f k 0 b).2 = 250 ∧ f.left ≠ -1 ∧ (∃ n, n < b.length ∧ (writeF f k 0 b).1.pages = f.pages.set k (tornAt b 0 n (or15 (b.getD n 0)))) ∧ (writeF f k 0 b).1.down = true) := by
  have hg : f.pages.getD k [] = clean64 := by rw [getD_pg hk, hc]
  have e : writeF f k 0 b = ({ f with pages := f.pages.set k (laidF b 0 clean64 f.left).1, left := (laidF b 0 clean64 f.left).2.1, down := (laidF b 0 clean64 f.left).2.2 }, if (laidF b 0 clean64 f.left).2.2 then 250 else 0) := by
    unfold writeF
    have h1 : inF f k 0 b.length = true := in_page hk 0 b.length (by omega)
    have h2 : freeF clean64 0 b.length = true := free_clean 0 _ (by omega)
    have h1' : inF f (k : Int) 0 b.length = true := h1
    have h2' : freeF (f.pages.getD (k : Int).toNat []) (0 : Int).toNat b.length = true := by
      rw [Int.toNat_natCast, hg]; exact h2
    rw [if_neg (by simp [hd]), if_neg (by rw [h1']; decide), if_neg (by rw [h2']; decide)]
    rw [Int.toNat_natCast, hg]
    rfl
  rw [e]
  rcases laidF_cases b 0 clean64 f.left hf.good.left (by rw [clean_len]; omega) with ⟨l', h1, h2⟩ | ⟨n, h1, h2, h3⟩
  · rw [h1]
    exact .inl ⟨rfl, rfl, rfl, h2, rfl⟩
  · rw [h3]
    refine .inr ⟨rfl, by omega, ⟨n, h1, ?_⟩, rfl⟩
    show f.pages.set k ((laidAt (b.take n) 0 clean64).set (0 + n) (or15 (b.getD n 0))) = _
    rfl
theorem torn_first {p : List Int} : (tornP p)[0]? = some 255 := by
  unfold tornP
  have : (clean64.take 32) = 255 :: List.replicate 31 255 := rfl
  rw [this]; rfl
theorem clean_first : clean64[0]? = some 255 := rfl
/-- The page of a record. -/
def Rec.pg (r : Rec) : Nat := (r.seq % 2).toNat
theorem Rec.good.pg {r : Rec} (h : r.good) : r.seq.tmod 2 = (r.pg : Int) ∧ r.pg < 2 ∧ r.seq % 2 = (r.pg : Int) := by
  have := h.seq
  rw [tmod2 (by omega)]
  unfold Rec.pg
  omega
/-- The newest record. -/
structure RecOk (ps : List (List Int)) (r : Rec) : Prop where
  good : r.good
  here : (ps.getD r.pg []).take 24 = recF r
  other : ∀ i : Int, heldB (ps.getD (1 - r.pg) []) i = true → (heldR (ps.getD (1 - r.pg) [])).seq < r.seq
theorem read_is {f : Flash} {r : Rec} (h : RecOk f.pages r) (hd : f.down = false) : readS f = (r, 0) := by
  obtain ⟨h1, h2⟩ := held_rec h.good h.here
  obtain ⟨_, q2, q3⟩ := h.good.pg
  have hs := h.good.seq
  have e : readS f = takeR (f.pages.getD 1 []) 1 (takeR (f.pages.getD 0 []) 0 (rec0, 260)) := by
    unfold readS
    rw [if_neg (by simp [hd])]; rfl
  rw [e]
  have ho := h.other
  rw [q3] at h2
  have hp : r.pg = 0 ∨ r.pg = 1 := by omega
  rcases hp with hp | hp
  · rw [hp] at h1 h2 ho
    have t0 : takeR (f.pages.getD 0 []) 0 (rec0, 260) = (r, 0) := by
      unfold takeR
      have h2' : heldB (f.pages.getD 0 []) ((0 : Nat) : Int) = true := h2
      rw [h1, h2']
      rw [if_pos (by show (true && decide ((0 : Int) < r.seq)) = true; simp; omega)]
    rw [t0]
    unfold takeR
    cases hb : heldB (f.pages.getD 1 []) ((1 : Nat) : Int) with
    | false => rfl
    | true =>
      have := ho 1 hb
      have hlt : (heldR (f.pages.getD 1 [])).seq < r.seq := this
      rw [if_neg (by
        rw [Bool.and_eq_true, decide_eq_true_eq]
        rintro ⟨_, q⟩
        have : r.seq < (heldR (f.pages.getD 1 [])).seq := q
        omega)]
  · rw [hp] at h1 h2 ho
    have t0 : (takeR (f.pages.getD 0 []) 0 (rec0, 260)).1.seq < r.seq := by
      unfold takeR
      cases hb : heldB (f.pages.getD 0 []) ((0 : Nat) : Int) with
      | false => show (0 : Int) < r.seq; omega
      | true =>
        have := ho 0 hb
        split
        · exact this
        · show (0 : Int) < r.seq; omega
    generalize takeR (f.pages.getD 0 []) 0 (rec0, 260) = o at *
    unfold takeR
    have h2' : heldB (f.pages.getD 1 []) ((1 : Nat) : Int) = true := h2
    rw [h1, h2', if_pos (by simp; exact t0)]
/-- What putting a record makes. -/
theorem put_cases {f : Flash} {r : Rec} (hf : f.big) (hd : f.down = false) (hr : r.good) :
    ((putF f r).2 = 0 ∧ (putF f r).1.down = false ∧ (putF f r).1.pages = f.pages.set r.pg (laidAt (recF r) 0 clean64) ∧ (f.left = -1 → (putF f r).1.left = -1) ∧ (putF f r).1.wear = f.wear.set r.pg (min (f.wear.getD r.pg 0 + 1) 1099511627776)) ∨
    ((putF f r).2 = 250 ∧ f.left ≠ -1 ∧ (∃ X, (putF f r).1.pages = f.pages.set r.pg X ∧ ∀ i, heldB X i = true → heldR X = r) ∧ (putF f r).1.down = true) := by
  obtain ⟨q1, q2, q3⟩ := hr.pg
  have hk : r.pg < f.pages.length := by rw [hf.n70]; omega
  have e : putF f r = if (eraseF f r.pg).2 = 0 then writeF (eraseF f r.pg).1 r.pg 0 (recF r) else ((eraseF f r.pg).1, (eraseF f r.pg).2) := by
    unfold putF
    rw [q1, if_neg (by rw [(rightR_iff r).2 hr]; simp)]
  rw [e]
  rcases erase_cases hk hd with ⟨a1, a2, a3, a4, a5⟩ | ⟨a1, a2, a3, a4⟩
  · rw [if_pos a1]
    have hfe := fine_erase hf.fine r.pg
    generalize (eraseF f r.pg).1 = g at *
    have hk' : r.pg < g.pages.length := by rw [a3]; simpa using hk
    have hc : g.pages[r.pg] = clean64 := by simp [a3]
    rcases write_cases (b := recF r) hfe hk' a2 (by rw [recF_len]; decide) hc with ⟨b1, b2, b3, b4, b5⟩ | ⟨b1, b2, ⟨n, b3, b4⟩, b5⟩
    · refine .inl ⟨b1, b2, ?_, fun h => b4 (a4 h), by rw [b5, a5]⟩
      rw [b3, a3, List.set_set]
    · refine .inr ⟨b1, fun h => b2 (a4 h), ⟨_, by rw [b4, a3, List.set_set], fun i hi => ?_⟩, b5⟩
      exact held_torn hr n (by rw [recF_len] at b3; exact b3) hi
  · rw [if_neg (by rw [a1]; decide)]
    refine .inr ⟨a1, a2, ⟨_, a3, fun i hi => ?_⟩, a4⟩
    rw [held_no0 (by rw [torn_first]; decide)] at hi
    cases hi
theorem laid_take {b : List Int} (h : b.length ≤ 64) : (laidAt b 0 clean64).take b.length = b := by
  have := laidAt_mid b 0 clean64 (by rw [clean_len]; omega)
  simpa using this
theorem getD_set_ne {α : Type} {l : List α} {i j : Nat} {x d : α} (h : i ≠ j) : (l.set i x).getD j d = l.getD j d := by
  rw [List.getD_eq_getElem?_getD, List.getD_eq_getElem?_getD, List.getElem?_set, if_neg h]
theorem getD_set_eq {α : Type} {l : List α} {i : Nat} {x d : α} (h : i < l.length) : (l.set i x).getD i d = x := by
  rw [List.getD_eq_getElem?_getD, List.getElem?_set, if_pos rfl, if_pos h]; rfl
/-- The next record is put: it is the newest one, or the old one is, or (behind a cut) one of both. -/
theorem put_next {f : Flash} {r r' : Rec} (hf : f.big) (hd : f.down = false) (h : RecOk f.pages r) (hr : r'.good) (hs : r'.seq = r.seq + 1) :
    ((putF f r').2 = 0 ∧ (putF f r').1.down = false ∧ RecOk (putF f r').1.pages r' ∧ (f.left = -1 → (putF f r').1.left = -1)) ∨
    ((putF f r').2 = 250 ∧ f.left ≠ -1 ∧ (RecOk (putF f r').1.pages r ∨ RecOk (putF f r').1.pages r')) := by
  obtain ⟨_, q2, q3⟩ := hr.pg
  obtain ⟨_, p2, p3⟩ := h.good.pg
  have hx : r.pg = 1 - r'.pg := by omega
  have hx' : r'.pg = 1 - r.pg := by omega
  have hne : r'.pg ≠ r.pg := by omega
  have hk : r'.pg < f.pages.length := by rw [hf.n70]; omega
  have ok : ∀ ps X, ps = f.pages.set r'.pg X → X.take 24 = recF r' → RecOk ps r' := fun ps X hp hX => by
    subst hp
    refine ⟨hr, by rw [getD_set_eq hk]; exact hX, fun i hi => ?_⟩
    rw [← hx, getD_set_ne hne] at hi ⊢
    rw [(held_rec h.good h.here).1]; omega
  rcases put_cases hf hd hr with ⟨a1, a2, a3, a4, a5⟩ | ⟨a1, a2, ⟨X, a3, a4⟩, _⟩
  · refine .inl ⟨a1, a2, ok _ _ a3 ?_, a4⟩
    have := laid_take (b := recF r') (by rw [recF_len]; decide)
    rwa [recF_len] at this
  · refine .inr ⟨a1, a2, ?_⟩
    by_cases hX : ∃ i, heldB X i = true
    · obtain ⟨i, hi⟩ := hX
      have e := a4 i hi
      have := (held_at hi).2.2
      rw [e] at this
      exact .inr (ok _ _ a3 this)
    · refine .inl ⟨h.good, ?_, fun i hi => ?_⟩
      · rw [a3, getD_set_ne hne]; exact h.here
      · rw [a3, ← hx', getD_set_eq hk] at hi
        exact (hX ⟨i, hi⟩).elim
end Go.Proofs.YtoifmpiikopelaaDoorFw

/-
  Images: what is packed is read; what is stored in a slot is told by Bytes and Whole (no program in sight).
-/
namespace Go.Proofs.YtoifmpiikopelaaDoorFw
open Go Go.Proofs
set_option linter.unusedVariables false
set_option linter.unusedSimpArgs false

structure Img.good (m : Img) : Prop where
  ver : 0 ≤ m.ver ∧ m.ver < 2147483648
  n1 : 1 ≤ m.body.length
  n2 : m.body.length ≤ 2048
  bytes : ∀ x ∈ m.body, byte x
theorem Img.good.right {m : Img} (h : m.good) : rightM m = true := by
  unfold rightM
  have := h.ver; have := h.n1; have := h.n2
  simp only [Bool.and_eq_true, decide_eq_true_eq]
  omega
theorem layS_one (n : Int) : layS [n] = be4 n := by simp [layS]
theorem packH_eq (m : Img) : packH m = [80, 72] ++ be4 m.ver ++ be4 (m.body.length : Int) ++ be4 ((crcMore 0#32 m.body).toNat : Int) := by
  unfold packH layS
  simp [List.flatMap_cons, List.append_assoc]
theorem packH_len (m : Img) : (packH m).length = 14 := by rw [packH_eq]; simp [be4]
theorem packS_eq (m : Img) (key : Int) : packS m key = packH m ++ be4 ((sealS (packH m) m.body key).toNat : Int) ++ m.body := by
  unfold packS
  rw [layS_one]
  rfl
theorem packS_len (m : Img) (key : Int) : (packS m key).length = 18 + m.body.length := by
  rw [packS_eq]; simp [packH_len, be4]; omega
theorem pack_drop (m : Img) (key : Int) : (packS m key).drop 18 = m.body := by
  rw [packS_eq]
  exact List.drop_left' (by simp [packH_len, be4])
theorem pack_take14 (m : Img) (key : Int) : (packS m key).take 14 = packH m := by
  rw [packS_eq, List.append_assoc]
  exact List.take_left' (packH_len m)
theorem pack_take2 (m : Img) (key : Int) : (packS m key).take 2 = [80, 72] := by
  rw [packS_eq, packH_eq]; rfl
theorem pack_ver (m : Img) (key : Int) (h : 0 ≤ m.ver ∧ m.ver < 4294967296) : numberS (packS m key) 2 = m.ver := by
  have := numberS_mid [80, 72] (be4 (m.body.length : Int) ++ be4 ((crcMore 0#32 m.body).toNat : Int) ++ be4 ((sealS (packH m) m.body key).toNat : Int) ++ m.body) 2 rfl h.1 h.2
  rw [packS_eq, packH_eq] at *
  simpa [List.append_assoc] using this
theorem pack_n (m : Img) (key : Int) (h : m.body.length < 4294967296) : numberS (packS m key) 6 = (m.body.length : Int) := by
  have := numberS_mid ([80, 72] ++ be4 m.ver) (be4 ((crcMore 0#32 m.body).toNat : Int) ++ be4 ((sealS (packH m) m.body key).toNat : Int) ++ m.body) 6 (by simp [be4]) (n := (m.body.length : Int)) (by omega) (by omega)
  rw [packS_eq]
  generalize (sealS (packH m) m.body key).toNat = q at *
  rw [packH_eq]
  simpa [List.append_assoc] using this
theorem pack_crc (m : Img) (key : Int) : numberS (packS m key) 10 = ((crcMore 0#32 m.body).toNat : Int) := by
  have := numberS_mid ([80, 72] ++ be4 m.ver ++ be4 (m.body.length : Int)) (be4 ((sealS (packH m) m.body key).toNat : Int) ++ m.body) 10 (by simp [be4]) (crc_lt (crcMore 0#32 m.body)).1 (crc_lt _).2
  rw [packS_eq]
  generalize (sealS (packH m) m.body key).toNat = q at *
  rw [packH_eq]
  simpa [List.append_assoc] using this
theorem pack_seal (m : Img) (key : Int) : numberS (packS m key) 14 = ((sealS (packH m) m.body key).toNat : Int) := by
  have := numberS_mid (packH m) m.body 14 (packH_len m) (crc_lt (sealS (packH m) m.body key)).1 (crc_lt _).2
  rw [packS_eq]
  exact this
theorem imgOf_pack {m : Img} (h : m.good) (key : Int) : imgOf (packS m key) = m := by
  unfold imgOf
  rw [pack_ver m key ⟨h.ver.1, by have := h.ver; omega⟩, pack_drop]
/-- With another key what is packed is read just if the seals are alike. -/
theorem readM_pack {m : Img} (h : m.good) {key other : Int} (hk : mayS other = true) : readM (packS m key) other = if (sealS (packH m) m.body key).toNat = (sealS (packH m) m.body other).toNat then (m, 0) else (img0, 242) := by
  have hn := h.n2
  unfold readM
  rw [if_neg (by
    rw [packS_len, pack_take2]
    rintro (h | h)
    · omega
    · exact h rfl), imgOf_pack h, pack_drop, pack_n m key (by omega), if_neg (by rw [h.right]; simp),
    pack_crc, if_neg (by simp), pack_seal, pack_take14]
  by_cases e : (sealS (packH m) m.body key).toNat = (sealS (packH m) m.body other).toNat
  · rw [if_neg (by rw [hk]; simp [e]), if_pos e]
  · rw [if_pos (.inr (by omega)), if_neg e]
theorem readM_same {m : Img} (h : m.good) {key : Int} (hk : mayS key = true) : readM (packS m key) key = (m, 0) := by
  rw [readM_pack h hk, if_pos rfl]
theorem packS_bytes {m : Img} (h : m.good) (key : Int) : ∀ x ∈ packS m key, byte x := by
  intro x hx
  rw [packS_eq, packH_eq] at hx
  simp only [List.mem_append, List.mem_cons, List.not_mem_nil, or_false] at hx
  rcases hx with (((((rfl | rfl) | hx) | hx) | hx) | hx) | hx
  · exact ⟨by decide, by decide⟩
  · exact ⟨by decide, by decide⟩
  · exact be4_bytes _ x hx
  · exact be4_bytes _ x hx
  · exact be4_bytes _ x hx
  · exact be4_bytes _ x hx
  · exact h.bytes x hx

/-! ### What a slot stores -/
def pad (p : List Int) : List Int := p ++ List.replicate (64 - p.length) 255
theorem laid_pad {p : List Int} (h : p.length ≤ 64) : laidAt p 0 clean64 = pad p := by
  unfold laidAt pad clean64
  rw [List.take_zero, List.nil_append, Nat.zero_add, List.drop_replicate]
theorem pad_len {p : List Int} (h : p.length ≤ 64) : (pad p).length = 64 := by unfold pad; simp; omega
structure Stored (ps : List (List Int)) (s : Nat) (b : List Int) : Prop where
  len : b.length ≤ 2176
  page : ∀ i, i < nBlocks b → ps.getD (2 + 34 * s + i) [] = pad (pieceOf b i)
theorem piece_len (b : List Int) (i : Nat) : (pieceOf b i).length = min 64 (b.length - 64 * i) := by unfold pieceOf; simp
theorem joinP_stored {f : Flash} {s : Nat} {b : List Int} (h : Stored f.pages s b) (hl : f.pages.length = 70) (hs : s ≤ 1) : ∀ k, k ≤ nBlocks b → joinP f s k = b.take (64 * k) ++ List.replicate (64 * k - b.length) 255
  | 0, _ => by simp [joinP]
  | k + 1, hk => by
    have hlen := h.len
    have hkn : k < nBlocks b := hk
    have hb : nBlocks b ≤ 34 := by unfold nBlocks; omega
    have hkl : 64 * k < b.length := by unfold nBlocks at hkn; omega
    have hp := h.page k hkn
    have hj : 2 + 34 * s + k < f.pages.length := by omega
    rw [getD_pg hj] at hp
    rw [joinP_succ f s k hj, joinP_stored h hl hs k (by omega), hp]
    have z : 64 * k - b.length = 0 := by omega
    rw [z, List.replicate_zero, List.append_nil]
    unfold pad
    rw [piece_len]
    have e : b.take (64 * k) ++ pieceOf b k = b.take (64 * (k + 1)) := by
      unfold pieceOf
      rw [show 64 * (k + 1) = 64 * k + 64 by omega, List.take_add]
    rw [← List.append_assoc, e]
    congr 2
    omega
theorem bytesS_stored {f : Flash} {s n : Nat} {b : List Int} (h : Stored f.pages s b) (hl : f.pages.length = 70) (hs : s ≤ 1) (hd : f.down = false) (hn : n ≤ b.length) : bytesS f s n = (b.take n, 0) := by
  have hlen := h.len
  unfold bytesS
  rw [if_neg (by simp [hd]), joinP_stored h hl hs (nRounds n) (by unfold nRounds nBlocks; omega)]
  have : n ≤ 64 * nRounds n := by unfold nRounds; omega
  rw [List.take_append_of_le_length (by rw [List.length_take]; omega), List.take_take, Nat.min_eq_left this]
theorem whole_stored {f : Flash} {s n : Nat} {b : List Int} {key : Int} (h : Stored f.pages s b) (hl : f.pages.length = 70) (hs : s ≤ 1) (hd : f.down = false) (h18 : 18 ≤ b.length) (hn : fourP (b.take 18) 6 = (n : Int)) (h1 : 1 ≤ n) (h2 : n ≤ 2048) (hle : 18 + n ≤ b.length) :
    wholeF f s key = ((readM (b.take (18 + n)) key).1, (readM (b.take (18 + n)) key).2 == 0) := by
  unfold wholeF
  rw [if_neg (by simp [hd]), bytesS_stored h hl hs hd h18]
  simp only []
  rw [hn, if_neg (by omega), Int.toNat_natCast, bytesS_stored h hl hs hd hle]
theorem whole_bad {f : Flash} {s : Nat} {b : List Int} {key : Int} (h : Stored f.pages s b) (hl : f.pages.length = 70) (hs : s ≤ 1) (hd : f.down = false) (h18 : 18 ≤ b.length) (hn : fourP (b.take 18) 6 < 1 ∨ 2048 < fourP (b.take 18) 6) : wholeF f s key = (img0, false) := by
  unfold wholeF
  rw [if_neg (by simp [hd]), bytesS_stored h hl hs hd h18]
  simp only []
  rw [if_pos hn]
theorem fourP_take {b : List Int} (k : Nat) (h : k + 4 ≤ 18) : fourP (b.take 18) k = fourP b k := by
  unfold fourP
  rw [List.drop_take, List.take_take, Nat.min_eq_left (by omega)]
theorem pack_four (m : Img) (key : Int) (h : m.body.length < 4294967296) : fourP (packS m key) 6 = (m.body.length : Int) := by
  have := fourP_mid ([80, 72] ++ be4 m.ver) (be4 ((crcMore 0#32 m.body).toNat : Int) ++ be4 ((sealS (packH m) m.body key).toNat : Int) ++ m.body) 6 (by simp [be4]) (n := (m.body.length : Int)) (by omega) (by omega)
  rw [packS_eq]
  generalize (sealS (packH m) m.body key).toNat = q at *
  rw [packH_eq]
  simpa [List.append_assoc] using this
/-- An image that is stored is whole. -/
theorem whole_pack {f : Flash} {s : Nat} {m : Img} {key other : Int} (hm : m.good) (hk : mayS other = true) (h : Stored f.pages s (packS m key)) (hl : f.pages.length = 70) (hs : s ≤ 1) (hd : f.down = false) :
    wholeF f s other = if (sealS (packH m) m.body key).toNat = (sealS (packH m) m.body other).toNat then (m, true) else (img0, false) := by
  have hn := hm.n2
  have h1 := hm.n1
  have hp := packS_len m key
  rw [whole_stored h hl hs hd (by omega) (n := m.body.length) (by rw [fourP_take 6 (by decide), pack_four m key (by omega)]) h1 hn (by omega), List.take_of_length_le (by omega), readM_pack hm hk]
  split <;> rfl
theorem whole_same {f : Flash} {s : Nat} {m : Img} {key : Int} (hm : m.good) (hk : mayS key = true) (h : Stored f.pages s (packS m key)) (hl : f.pages.length = 70) (hs : s ≤ 1) (hd : f.down = false) : wholeF f s key = (m, true) := by
  rw [whole_pack hm hk h hl hs hd, if_pos rfl]
theorem stored_clean {ps : List (List Int)} {s : Nat} (h : ps.getD (2 + 34 * s) [] = clean64) : Stored ps s (List.replicate 18 255) :=
  ⟨by decide, fun i hi => by
    have : i = 0 := by have : nBlocks (List.replicate 18 255) = 1 := rfl
                       omega
    subst this
    exact h⟩
/-- Where the first page is erased, no image is. -/
theorem whole_clean {f : Flash} {s : Nat} {key : Int} (h : f.pages.getD (2 + 34 * s) [] = clean64) (hl : f.pages.length = 70) (hs : s ≤ 1) (hd : f.down = false) : wholeF f s key = (img0, false) :=
  whole_bad (stored_clean h) hl hs hd (by decide) (.inr (by decide +kernel))
end Go.Proofs.YtoifmpiikopelaaDoorFw

/-
  Loads, with any power (no program in sight).
-/
namespace Go.Proofs.YtoifmpiikopelaaDoorFw
open Go Go.Proofs
set_option linter.unusedVariables false
set_option linter.unusedSimpArgs false

def Agree (a b : Nat) (ps qs : List (List Int)) : Prop := ∀ j, a ≤ j → j < b → qs.getD j [] = ps.getD j []
theorem Agree.refl (a b : Nat) (ps : List (List Int)) : Agree a b ps ps := fun _ _ _ => rfl
theorem Agree.trans {a b : Nat} {ps qs rs : List (List Int)} (h : Agree a b ps qs) (k : Agree a b qs rs) : Agree a b ps rs := fun j h1 h2 => (k j h1 h2).trans (h j h1 h2)
theorem Agree.sub {a b c d : Nat} {ps qs : List (List Int)} (h : Agree a b ps qs) (h1 : a ≤ c) (h2 : d ≤ b) : Agree c d ps qs := fun j q1 q2 => h j (by omega) (by omega)
theorem agree_set {a b k : Nat} {ps : List (List Int)} {X : List Int} (h : k < a ∨ b ≤ k) : Agree a b ps (ps.set k X) := fun j h1 h2 => getD_set_ne (by omega)
theorem RecOk.congr {ps qs : List (List Int)} {r : Rec} (h : RecOk ps r) (ha : Agree 0 2 ps qs) : RecOk qs r := by
  obtain ⟨_, p2, _⟩ := h.good.pg
  have e1 := ha r.pg (by omega) p2
  have e2 := ha (1 - r.pg) (by omega) (by omega)
  exact ⟨h.good, by rw [e1]; exact h.here, fun i hi => by rw [e2] at hi ⊢; exact h.other i hi⟩
theorem Stored.congr {ps qs : List (List Int)} {s : Nat} {b : List Int} (h : Stored ps s b) (ha : Agree (2 + 34 * s) (36 + 34 * s) ps qs) : Stored qs s b :=
  ⟨h.len, fun i hi => by
    have := h.len
    have : nBlocks b ≤ 34 := by unfold nBlocks; omega
    rw [ha _ (by omega) (by omega)]; exact h.page i hi⟩
def bump (w : Int) : Int := min (w + 1) 1099511627776
def WearSet (v w : List Int) (k : Nat) : Prop := ∀ j, w.getD j 0 = if j = k then bump (v.getD j 0) else v.getD j 0
theorem wearSet {v : List Int} {k : Nat} (h : k < v.length) : WearSet v (v.set k (min (v.getD k 0 + 1) 1099511627776)) k := fun j => by
  by_cases e : j = k
  · subst e; rw [if_pos rfl, getD_set_eq h]; rfl
  · rw [if_neg e, getD_set_ne (fun h => e h.symm)]
theorem Flash.big.wl {f : Flash} (h : f.big) : f.wear.length = 70 := by rw [h.fine.good.wl]; exact h.n70
/-- A record is put behind the newest one. -/
theorem put_step {f : Flash} {r r' : Rec} (hf : f.big) (hd : f.down = false) (h : RecOk f.pages r) (hr : r'.good) (hs : r'.seq = r.seq + 1) :
    (putF f r').1.big ∧ Agree 2 70 f.pages (putF f r').1.pages ∧
    (((putF f r').2 = 0 ∧ (putF f r').1.down = false ∧ RecOk (putF f r').1.pages r' ∧ (f.left = -1 → (putF f r').1.left = -1) ∧ WearSet f.wear (putF f r').1.wear r'.pg) ∨
    ((putF f r').2 = 250 ∧ f.left ≠ -1 ∧ (RecOk (putF f r').1.pages r ∨ RecOk (putF f r').1.pages r'))) := by
  obtain ⟨_, p2, _⟩ := hr.pg
  refine ⟨big_put hf r', ?_, ?_⟩
  · rcases put_cases hf hd hr with ⟨_, _, a3, _⟩ | ⟨_, _, ⟨X, a3, _⟩, _⟩
    · rw [a3]; exact agree_set (.inl p2)
    · rw [a3]; exact agree_set (.inl p2)
  · rcases put_next hf hd h hr hs with ⟨a1, a2, a3, a4⟩ | a
    · rcases put_cases hf hd hr with ⟨_, _, _, _, b5⟩ | ⟨b1, _⟩
      · exact .inl ⟨a1, a2, a3, a4, by rw [b5]; exact wearSet (by rw [hf.wl]; omega)⟩
      · rw [a1] at b1; exact absurd b1 (by decide)
    · exact .inr a
/-- Pages are erased one behind the other. -/
theorem empty_step : ∀ (k : Nat) (f : Flash) (p : Nat), f.big → f.down = false → p + k ≤ 70 →
    (emptyG f p k).1.big ∧ Agree 0 p f.pages (emptyG f p k).1.pages ∧ Agree (p + k) 70 f.pages (emptyG f p k).1.pages ∧
    (((emptyG f p k).2 = 0 ∧ (emptyG f p k).1.down = false ∧ (∀ j, p ≤ j → j < p + k → (emptyG f p k).1.pages.getD j [] = clean64) ∧ (f.left = -1 → (emptyG f p k).1.left = -1) ∧
      (∀ j, (emptyG f p k).1.wear.getD j 0 = if p ≤ j ∧ j < p + k then bump (f.wear.getD j 0) else f.wear.getD j 0)) ∨
    ((emptyG f p k).2 = 250 ∧ f.left ≠ -1))
  | 0, f, p, hf, hd, _ => ⟨hf, Agree.refl _ _ _, Agree.refl _ _ _, .inl ⟨rfl, hd, fun j h1 h2 => by omega, fun h => h, fun j => by rw [if_neg (by omega)]; rfl⟩⟩
  | k + 1, f, p, hf, hd, hp => by
    have hk : p < f.pages.length := by rw [hf.n70]; omega
    have e : emptyG f p (k + 1) = if (eraseF f (p : Int)).2 ≠ 0 then eraseF f (p : Int) else emptyG (eraseF f (p : Int)).1 (p + 1) k := rfl
    rw [e]
    have hb := big_erase hf (p : Int)
    rcases erase_cases hk hd with ⟨a1, a2, a3, a4, a5⟩ | ⟨a1, a2, a3, a4⟩
    · rw [if_neg (by simp [a1])]
      obtain ⟨c1, c2, c3, c4⟩ := empty_step k (eraseF f (p : Int)).1 (p + 1) hb a2 (by omega)
      have g1 : Agree 0 p f.pages (eraseF f (p : Int)).1.pages := by rw [a3]; exact agree_set (.inr (Nat.le_refl _))
      have g2 : Agree (p + (k + 1)) 70 f.pages (eraseF f (p : Int)).1.pages := by rw [a3]; exact agree_set (.inl (by omega))
      refine ⟨c1, g1.trans (c2.sub (by omega) (by omega)), g2.trans (c3.sub (by omega) (by omega)), ?_⟩
      have hwl := hf.wl
      generalize (eraseF f (p : Int)).1 = g at *
      rcases c4 with ⟨d1, d2, d3, d4, d5⟩ | ⟨d1, d2⟩
      · refine .inl ⟨d1, d2, fun j h1 h2 => ?_, fun h => d4 (a4 h), fun j => ?_⟩
        · by_cases ej : j = p
          · subst ej
            rw [c2 j (by omega) (by omega), a3, getD_set_eq hk]
          · exact d3 j (by omega) (by omega)
        · rw [d5 j, a5, wearSet (by omega) j]
          by_cases ej : j = p
          · subst ej; rw [if_pos rfl, if_neg (by omega), if_pos (by omega)]
          · rw [if_neg ej]
            by_cases h2 : p + 1 ≤ j ∧ j < p + 1 + k
            · rw [if_pos h2, if_pos (by omega)]
            · rw [if_neg h2, if_neg (by omega)]
      · exact .inr ⟨d1, fun h => d2 (a4 h)⟩
    · rw [if_pos (by rw [a1]; decide)]
      refine ⟨hb, ?_, ?_, .inr ⟨a1, a2⟩⟩
      · rw [a3]; exact agree_set (.inr (Nat.le_refl _))
      · rw [a3]; exact agree_set (.inl (by omega))

/-! ### Blocks -/
def savG (f : Flash) (s : Nat) (b : List Int) (i : Nat) : Nat → Flash × Int
  | 0 => (f, 0)
  | k + 1 => if (saveF f s i (pieceOf b i)).2 ≠ 0 then saveF f s i (pieceOf b i) else savG (saveF f s i (pieceOf b i)).1 s b (i + 1) k
theorem piece_bytes {b : List Int} (h : ∀ x ∈ b, byte x) (i : Nat) : ∀ x ∈ pieceOf b i, byte x := fun x hx => h x (List.mem_of_mem_drop (List.mem_of_mem_take hx))
theorem save_eq (f : Flash) (s i : Nat) (b : List Int) (hi : i < 34) : saveF f s i (pieceOf b i) = writeF f ((2 + 34 * s + i : Nat) : Int) 0 (pieceOf b i) := by
  have := piece_len b i
  unfold saveF
  rw [if_neg (by omega)]
  congr 1
theorem sav_step : ∀ (k : Nat) (f : Flash) (s : Nat) (b : List Int) (i : Nat), f.big → f.down = false → s ≤ 1 → (∀ x ∈ b, byte x) → i + k = nBlocks b → nBlocks b ≤ 34 →
    (∀ j, j < i → f.pages.getD (2 + 34 * s + j) [] = pad (pieceOf b j)) → (∀ j, i ≤ j → j < nBlocks b → f.pages.getD (2 + 34 * s + j) [] = clean64) →
    (savG f s b i k).1.big ∧ Agree 0 (2 + 34 * s) f.pages (savG f s b i k).1.pages ∧ Agree (36 + 34 * s) 70 f.pages (savG f s b i k).1.pages ∧
    (((savG f s b i k).2 = 0 ∧ (savG f s b i k).1.down = false ∧ (∀ j, j < nBlocks b → (savG f s b i k).1.pages.getD (2 + 34 * s + j) [] = pad (pieceOf b j)) ∧ (f.left = -1 → (savG f s b i k).1.left = -1) ∧ (savG f s b i k).1.wear = f.wear) ∨
    ((savG f s b i k).2 = 250 ∧ f.left ≠ -1))
  | 0, f, s, b, i, hf, hd, hs, hb, hi, hn, h1, h2 => ⟨hf, Agree.refl _ _ _, Agree.refl _ _ _, .inl ⟨rfl, hd, fun j hj => h1 j (by omega), fun h => h, rfl⟩⟩
  | k + 1, f, s, b, i, hf, hd, hs, hb, hi, hn, h1, h2 => by
    have hk : 2 + 34 * s + i < f.pages.length := by rw [hf.n70]; omega
    have e : savG f s b i (k + 1) = if (saveF f s i (pieceOf b i)).2 ≠ 0 then saveF f s i (pieceOf b i) else savG (saveF f s i (pieceOf b i)).1 s b (i + 1) k := rfl
    have hpl := piece_len b i
    have hbg : (saveF f s i (pieceOf b i)).1.big := big_save hf s i (piece_bytes hb i)
    have hse := save_eq f s i b (by omega)
    rw [hse] at e hbg
    rw [e]
    have hcl := h2 i (Nat.le_refl _) (by omega)
    rw [getD_pg hk] at hcl
    rcases write_cases (b := pieceOf b i) hf.fine hk hd (by omega) hcl with ⟨a1, a2, a3, a4, a5⟩ | ⟨a1, a2, ⟨n, _, a3⟩, _⟩
    · rw [if_neg (fun h => h a1)]
      generalize (writeF f ((2 + 34 * s + i : Nat) : Int) 0 (pieceOf b i)).1 = g at *
      rw [laid_pad (by omega)] at a3
      obtain ⟨c1, c2, c3, c4⟩ := sav_step k g s b (i + 1) hbg a2 hs hb (by omega) hn (fun j hj => by
          rw [a3]
          by_cases ej : j = i
          · subst ej; exact getD_set_eq hk
          · rw [getD_set_ne (by omega)]; exact h1 j (by omega))
        (fun j hj hj2 => by rw [a3, getD_set_ne (by omega)]; exact h2 j (by omega) hj2)
      have g1 : Agree 0 (2 + 34 * s) f.pages g.pages := by rw [a3]; exact agree_set (.inr (by omega))
      have g2 : Agree (36 + 34 * s) 70 f.pages g.pages := by rw [a3]; exact agree_set (.inl (by omega))
      refine ⟨c1, g1.trans c2, g2.trans c3, ?_⟩
      rcases c4 with ⟨d1, d2, d3, d4, d5⟩ | ⟨d1, d2⟩
      · exact .inl ⟨d1, d2, d3, fun h => d4 (a4 h), by rw [d5, a5]⟩
      · exact .inr ⟨d1, fun h => d2 (a4 h)⟩
    · rw [if_pos (by rw [a1]; decide)]
      refine ⟨hbg, ?_, ?_, .inr ⟨a1, a2⟩⟩
      · rw [a3]; exact agree_set (.inr (by omega))
      · rw [a3]; exact agree_set (.inl (by omega))

/-! ### An update -/
theorem recU_good {r : Rec} (h : r.good) (a : Nat) {st ver tries : Int} (h1 : 1 ≤ st ∧ st ≤ 4) (h2 : 0 ≤ ver ∧ ver < 2147483648) (h3 : 0 ≤ tries ∧ tries < 256) (h4 : r.seq + 1 < 2147483648) : (recU r a st ver tries).good := by
  have := h.seq
  unfold recU
  split
  · exact ⟨h1, h.s1, h2, h.v1, by show 0 < r.seq + 1 ∧ r.seq + 1 < 2147483648; omega, h3⟩
  · exact ⟨h.s0, h1, h.v0, h2, by show 0 < r.seq + 1 ∧ r.seq + 1 < 2147483648; omega, h3⟩
theorem recU_seq (r : Rec) (a : Nat) (st ver tries : Int) : (recU r a st ver tries).seq = r.seq + 1 := by unfold recU; split <;> rfl
/-- The record of a slot that is being loaded. -/
def recE (r : Rec) (s : Nat) : Rec := recU r (1 - s) 1 0 0
def recR (r : Rec) (s : Nat) (ver : Int) : Rec := recU (recE r s) (1 - s) 2 ver 3
theorem recE_good {r : Rec} (h : r.good) (s : Nat) (h4 : r.seq + 1 < 2147483648) : (recE r s).good := recU_good h _ (by decide) (by decide) (by decide) h4
theorem recE_seq (r : Rec) (s : Nat) : (recE r s).seq = r.seq + 1 := recU_seq _ _ _ _ _
theorem recR_good {r : Rec} (h : r.good) (s : Nat) {ver : Int} (hv : 0 ≤ ver ∧ ver < 2147483648) (h4 : r.seq + 2 < 2147483648) : (recR r s ver).good :=
  recU_good (recE_good h s (by omega)) _ (by decide) hv (by decide) (by rw [recE_seq]; omega)
theorem recR_seq (r : Rec) (s : Nat) (ver : Int) : (recR r s ver).seq = r.seq + 2 := by unfold recR; rw [recU_seq, recE_seq]; omega
def slotA (s : Nat) (ps qs : List (List Int)) : Prop := Agree (2 + 34 * s) (36 + 34 * s) ps qs
theorem begin_step {f : Flash} {r : Rec} {s n : Nat} {ver : Int} (hf : f.big) (hd : f.down = false) (h : RecOk f.pages r) (hs : s ≤ 1) (h4 : r.st s = 4) (hv : r.ver s < ver) (hq : r.seq + 1 < 2147483648) :
    (beginF f s ver n).f.big ∧ slotA s f.pages (beginF f s ver n).f.pages ∧
    (((beginF f s ver n).e = 0 ∧ (beginF f s ver n).f.down = false ∧ RecOk (beginF f s ver n).f.pages (recE r s) ∧ (∀ j, j < 34 → (beginF f s ver n).f.pages.getD (2 + 34 * (1 - s) + j) [] = clean64) ∧ (f.left = -1 → (beginF f s ver n).f.left = -1) ∧
      (beginF f s ver n).l = ⟨true, ver, n, 0, ((1 - s : Nat) : Int)⟩ ∧ (∀ j, (beginF f s ver n).f.wear.getD j 0 = if j = (recE r s).pg ∨ (2 + 34 * (1 - s) ≤ j ∧ j < 36 + 34 * (1 - s)) then bump (f.wear.getD j 0) else f.wear.getD j 0)) ∨
    ((beginF f s ver n).e = 250 ∧ f.left ≠ -1 ∧ (RecOk (beginF f s ver n).f.pages r ∨ RecOk (beginF f s ver n).f.pages (recE r s)))) := by
  have hrd := read_is h hd
  obtain ⟨p1, p2, p3⟩ := put_step hf hd h (recE_good h.good s hq) (recE_seq r s)
  obtain ⟨_, q2, _⟩ := (recE_good h.good s hq).pg
  have e : beginF f s ver n = if (putF f (recE r s)).2 ≠ 0 then ⟨(putF f (recE r s)).1, load0, (putF f (recE r s)).2⟩ else beginE (putF f (recE r s)).1 (1 - s) ver n := by
    unfold beginF
    rw [hrd]
    simp only []
    rw [if_neg (by decide), if_neg (by simp [h4]), if_neg (by omega)]
    rfl
  rw [e]
  rcases p3 with ⟨a1, a2, a3, a4, a5⟩ | ⟨a1, a2, a3⟩
  · rw [if_neg (by simp [a1])]
    generalize (putF f (recE r s)).1 = g at *
    obtain ⟨c1, c2, c3, c4⟩ := empty_step 34 g (2 + 34 * (1 - s)) p1 a2 (by omega)
    have ee : beginE g (1 - s) ver n = if (emptyG g (2 + 34 * (1 - s)) 34).2 ≠ 0 then ⟨(emptyG g (2 + 34 * (1 - s)) 34).1, load0, (emptyG g (2 + 34 * (1 - s)) 34).2⟩ else ⟨(emptyG g (2 + 34 * (1 - s)) 34).1, ⟨true, ver, n, 0, ((1 - s : Nat) : Int)⟩, 0⟩ := rfl
    rw [ee]
    generalize hG : emptyG g (2 + 34 * (1 - s)) 34 = G at *
    have sa : slotA s g.pages G.1.pages := by
      have hs' : s = 0 ∨ s = 1 := by omega
      rcases hs' with rfl | rfl
      · exact c2.sub (by omega) (by omega)
      · exact c3.sub (by omega) (by omega)
    have sb : slotA s f.pages G.1.pages := Agree.trans (p2.sub (by omega) (by omega)) sa
    have rc : RecOk G.1.pages (recE r s) := a3.congr (c2.sub (by omega) (by omega))
    rcases c4 with ⟨d1, d2, d3, d4, d5⟩ | ⟨d1, d2⟩
    · rw [if_neg (by simp [d1])]
      refine ⟨c1, sb, .inl ⟨rfl, d2, rc, fun j hj => d3 _ (by omega) (by omega), fun h => d4 (a4 h), rfl, fun j => ?_⟩⟩
      show G.1.wear.getD j 0 = _
      rw [d5 j, a5 j]
      by_cases e1 : 2 + 34 * (1 - s) ≤ j ∧ j < 2 + 34 * (1 - s) + 34
      · rw [if_pos e1, if_neg (by omega), if_pos (.inr (by omega))]
      · rw [if_neg e1]
        by_cases e2 : j = (recE r s).pg
        · rw [if_pos e2, if_pos (.inl e2)]
        · rw [if_neg e2, if_neg (by omega)]
    · rw [if_pos (by rw [d1]; decide)]
      exact ⟨c1, sb, .inr ⟨d1, fun h => d2 (a4 h), .inr rc⟩⟩
  · rw [if_pos (by rw [a1]; decide)]
    exact ⟨p1, p2.sub (by omega) (by omega), .inr ⟨a1, a2, a3⟩⟩
def loadedF (f : Flash) (s : Nat) (m : Img) (key : Int) : Flash × Int :=
  if (beginF f s m.ver (packS m key).length).e ≠ 0 then ((beginF f s m.ver (packS m key).length).f, (beginF f s m.ver (packS m key).length).e) else
  if (savG (beginF f s m.ver (packS m key).length).f (1 - s) (packS m key) 0 (nBlocks (packS m key))).2 ≠ 0 then savG (beginF f s m.ver (packS m key).length).f (1 - s) (packS m key) 0 (nBlocks (packS m key)) else
  endF (savG (beginF f s m.ver (packS m key).length).f (1 - s) (packS m key) 0 (nBlocks (packS m key))).1 (1 - s) (packS m key).length m.ver key
theorem wholeL_same {f : Flash} {s : Nat} {m : Img} {key : Int} (hm : m.good) (hk : mayS key = true) (h : Stored f.pages s (packS m key)) (hl : f.pages.length = 70) (hs : s ≤ 1) (hd : f.down = false) : wholeL f s (packS m key).length m.ver key = 0 := by
  unfold wholeL
  rw [if_neg (by simp [hd]), bytesS_stored h hl hs hd (Nat.le_refl _), List.take_length]
  simp only []
  rw [readM_same hm hk]
  simp
/-- What an update makes, with any power. -/
theorem load_step {f : Flash} {r : Rec} {s : Nat} {m : Img} {key : Int} (hf : f.big) (hd : f.down = false) (h : RecOk f.pages r) (hs : s ≤ 1) (h4 : r.st s = 4) (hm : m.good) (hk : mayS key = true) (hv : r.ver s < m.ver) (hq : r.seq + 2 < 2147483648) :
    (loadedF f s m key).1.big ∧ slotA s f.pages (loadedF f s m key).1.pages ∧
    (((loadedF f s m key).2 = 0 ∧ (loadedF f s m key).1.down = false ∧ RecOk (loadedF f s m key).1.pages (recR r s m.ver) ∧ Stored (loadedF f s m key).1.pages (1 - s) (packS m key) ∧ (f.left = -1 → (loadedF f s m key).1.left = -1) ∧
      (∀ j, (loadedF f s m key).1.wear.getD j 0 = if j < 2 ∨ (2 + 34 * (1 - s) ≤ j ∧ j < 36 + 34 * (1 - s)) then bump (f.wear.getD j 0) else f.wear.getD j 0)) ∨
    ((loadedF f s m key).2 = 250 ∧ f.left ≠ -1 ∧ (RecOk (loadedF f s m key).1.pages r ∨ RecOk (loadedF f s m key).1.pages (recE r s) ∨ (RecOk (loadedF f s m key).1.pages (recR r s m.ver) ∧ Stored (loadedF f s m key).1.pages (1 - s) (packS m key))))) := by
  have hpl := packS_len m key
  have hn1 := hm.n1
  have hn2 := hm.n2
  have hnb : nBlocks (packS m key) ≤ 34 := by unfold nBlocks; omega
  obtain ⟨b1, b2, b3⟩ := begin_step (n := (packS m key).length) hf hd h hs h4 hv (by omega)
  unfold loadedF
  generalize beginF f s m.ver (packS m key).length = G at *
  rcases b3 with ⟨a1, a2, a3, a4, a5, a6, a7⟩ | ⟨a1, a2, a3⟩
  · rw [if_neg (by simp [a1])]
    obtain ⟨c1, c2, c3, c4⟩ := sav_step (nBlocks (packS m key)) G.f (1 - s) (packS m key) 0 b1 a2 (by omega) (packS_bytes hm key) (by omega) hnb (fun j hj => by omega) (fun j _ hj => a4 j (by omega))
    have hs' : s = 0 ∨ s = 1 := by omega
    generalize savG G.f (1 - s) (packS m key) 0 (nBlocks (packS m key)) = V at *
    have sa : slotA s G.f.pages V.1.pages := by
      rcases hs' with rfl | rfl
      · exact c2.sub (by omega) (by omega)
      · exact c3.sub (by omega) (by omega)
    have rc : RecOk V.1.pages (recE r s) := a3.congr (c2.sub (by omega) (by omega))
    rcases c4 with ⟨d1, d2, d3, d4, d5⟩ | ⟨d1, d2⟩
    · rw [if_neg (by simp [d1])]
      have hst : Stored V.1.pages (1 - s) (packS m key) := ⟨by omega, d3⟩
      have hRg := recR_good h.good s hm.ver hq
      obtain ⟨p1, p2, p3⟩ := put_step c1 d2 rc hRg (by rw [recR_seq, recE_seq]; omega)
      have ee : endF V.1 (1 - s) (packS m key).length m.ver key = putF V.1 (recR r s m.ver) := by
        unfold endF
        rw [wholeL_same hm hk hst c1.n70 (by omega) d2, if_neg (by decide), read_is rc d2]
        simp only []
        rw [if_neg (by decide)]
        rfl
      rw [ee]
      have sb : slotA s V.1.pages (putF V.1 (recR r s m.ver)).1.pages := p2.sub (by omega) (by omega)
      have sc : Stored (putF V.1 (recR r s m.ver)).1.pages (1 - s) (packS m key) := hst.congr (p2.sub (by omega) (by omega))
      refine ⟨p1, Agree.trans b2 (Agree.trans sa sb), ?_⟩
      rcases p3 with ⟨t1, t2, t3, t4, t5⟩ | ⟨t1, t2, t3⟩
      · refine .inl ⟨t1, t2, t3, sc, fun h => t4 (d4 (a5 h)), fun j => ?_⟩
        rw [t5 j, d5, a7 j]
        have hp1 := hRg.pg
        have hp2 := (recE_good h.good s (by omega)).pg
        rw [recR_seq] at hp1
        rw [recE_seq] at hp2
        have hqs := h.good.seq
        have hne : (recE r s).pg = 1 - (recR r s m.ver).pg := by omega
        by_cases e1 : j = (recR r s m.ver).pg
        · rw [if_pos e1, if_neg (by omega), if_pos (.inl (by omega))]
        · rw [if_neg e1]
          by_cases e2 : j = (recE r s).pg ∨ (2 + 34 * (1 - s) ≤ j ∧ j < 36 + 34 * (1 - s))
          · rw [if_pos e2, if_pos (by omega)]
          · rw [if_neg e2, if_neg (by omega)]
      · refine .inr ⟨t1, fun h => t2 (d4 (a5 h)), ?_⟩
        rcases t3 with t3 | t3
        · exact .inr (.inl t3)
        · exact .inr (.inr ⟨t3, sc⟩)
    · rw [if_pos (by rw [d1]; decide)]
      exact ⟨c1, Agree.trans b2 sa, .inr ⟨d1, fun h => d2 (a5 h), .inr (.inl rc)⟩⟩
  · rw [if_pos (by rw [a1]; decide)]
    refine ⟨b1, b2, .inr ⟨a1, a2, ?_⟩⟩
    rcases a3 with a3 | a3
    · exact .inl a3
    · exact .inr (.inl a3)
end Go.Proofs.YtoifmpiikopelaaDoorFw

/-
  What begins (no program in sight).
-/
namespace Go.Proofs.YtoifmpiikopelaaDoorFw
open Go Go.Proofs
set_option linter.unusedVariables false
set_option linter.unusedSimpArgs false

theorem bestS_one {p : Nat → Bool} {r : Rec} {s : Nat} (hs : s ≤ 1) (h1 : p s = true) (h2 : p (1 - s) = false) : bestS (p 0) (p 1) r = (s : Int) := by
  have hs' : s = 0 ∨ s = 1 := by omega
  unfold bestS
  rcases hs' with rfl | rfl
  · have h2' : p 1 = false := h2
    rw [h1, h2']; rfl
  · have h2' : p 0 = false := h2
    rw [h1, h2']; rfl
theorem bestS_none {r : Rec} : bestS false false r = -1 := rfl
theorem boot_is {f : Flash} {r : Rec} {key : Int} (h : RecOk f.pages r) (hd : f.down = false) : bootF f key = if bestS (trialB f r key 0) (trialB f r key 1) r = -1 then bootP f key r else bootT f key r (bestS (trialB f r key 0) (trialB f r key 1) r).toNat := by
  unfold bootF
  rw [read_is h hd]
  simp only []
  rw [if_neg (by decide)]
theorem trial_no {f : Flash} {r : Rec} {key : Int} {s : Nat} (h : (r.st s ≠ 2 ∧ r.st s ≠ 3) ∨ r.tries ≤ 0 ∨ (wholeF f s key).2 = false) : trialB f r key s = false := by
  unfold trialB
  rcases h with ⟨h1, h2⟩ | h | h
  · have e1 : (r.st s == 2) = false := by simpa using h1
    have e2 : (r.st s == 3) = false := by simpa using h2
    rw [e1, e2]; rfl
  · have e : decide (0 < r.tries) = false := by simp; omega
    rw [e]; simp
  · rw [h]; simp
theorem proved_no {f : Flash} {r : Rec} {key : Int} {s : Nat} (h : r.st s ≠ 4 ∨ (wholeF f s key).2 = false) : provedB f r key s = false := by
  unfold provedB
  rcases h with h | h
  · have e : (r.st s == 4) = false := by simpa using h
    rw [e]; rfl
  · rw [h]; simp
theorem proved_yes {f : Flash} {r : Rec} {key : Int} {s : Nat} (h : r.st s = 4) (hw : (wholeF f s key).2 = true) : provedB f r key s = true := by
  unfold provedB
  rw [h, hw]; rfl
theorem trial_yes {f : Flash} {r : Rec} {key : Int} {s : Nat} (h : r.st s = 2 ∨ r.st s = 3) (ht : 0 < r.tries) (hw : (wholeF f s key).2 = true) : trialB f r key s = true := by
  unfold trialB
  have e : decide (0 < r.tries) = true := by simpa using ht
  rw [e, hw]
  rcases h with h | h <;> rw [h] <;> rfl
/-- Nothing is to be tried. -/
theorem boot_p {f : Flash} {r : Rec} {key : Int} (h : RecOk f.pages r) (hd : f.down = false) (h0 : trialB f r key 0 = false) (h1 : trialB f r key 1 = false) : bootF f key = bootP f key r := by
  rw [boot_is h hd, h0, h1, bestS_none, if_pos rfl]
theorem boot_none {f : Flash} {r : Rec} {key : Int} (h : RecOk f.pages r) (hd : f.down = false) (h0 : trialB f r key 0 = false) (h1 : trialB f r key 1 = false) (p0 : provedB f r key 0 = false) (p1 : provedB f r key 1 = false) : bootF f key = ⟨f, -1, img0, 260⟩ := by
  rw [boot_p h hd h0 h1]
  unfold bootP
  rw [p0, p1, bestS_none, if_pos rfl]
theorem boot_proved {f : Flash} {r : Rec} {key : Int} {s : Nat} {m : Img} (h : RecOk f.pages r) (hd : f.down = false) (hs : s ≤ 1) (h0 : trialB f r key 0 = false) (h1 : trialB f r key 1 = false)
    (h4 : r.st s = 4) (hw : wholeF f s key = (m, true)) (ho : provedB f r key (1 - s) = false) : bootF f key = ⟨f, s, m, 0⟩ := by
  rw [boot_p h hd h0 h1]
  unfold bootP
  rw [bestS_one (p := provedB f r key) hs (proved_yes h4 (by rw [hw])) ho, if_neg (by omega), Int.toNat_natCast, hw]
/-- Both are proved: the greater one. -/
theorem boot_both {f : Flash} {r : Rec} {key : Int} {m0 m1 : Img} (h : RecOk f.pages r) (hd : f.down = false) (h4 : r.s0 = 4) (h5 : r.s1 = 4) (hw0 : wholeF f 0 key = (m0, true)) (hw1 : wholeF f 1 key = (m1, true)) :
    bootF f key = if r.v0 < r.v1 then ⟨f, 1, m1, 0⟩ else ⟨f, 0, m0, 0⟩ := by
  have t0 : trialB f r key 0 = false := trial_no (.inl ⟨by show r.s0 ≠ 2; omega, by show r.s0 ≠ 3; omega⟩)
  have t1 : trialB f r key 1 = false := trial_no (.inl ⟨by show r.s1 ≠ 2; omega, by show r.s1 ≠ 3; omega⟩)
  rw [boot_p h hd t0 t1]
  unfold bootP
  rw [proved_yes (s := 0) h4 (by rw [hw0]), proved_yes (s := 1) h5 (by rw [hw1])]
  unfold bestS
  by_cases hv : r.v0 < r.v1
  · have e : decide (r.v0 < r.v1) = true := by simpa using hv
    rw [e, if_pos hv]
    simp only [if_true, Bool.and_self]
    rw [if_neg (by decide), show (1 : Int).toNat = 1 from rfl, hw1]
  · have e : decide (r.v0 < r.v1) = false := by simpa using hv
    rw [e, if_neg hv]
    simp only [if_true, Bool.and_false, if_false, Bool.false_eq_true]
    rw [if_neg (by decide), show (0 : Int).toNat = 0 from rfl, hw0]
/-- The record of a beginning on trial, and of a program that is well. -/
def recB (r : Rec) (a : Nat) : Rec := { recT r a with seq := r.seq + 1 }
def recW (r : Rec) (a : Nat) : Rec := { r.setSt a 4 with tries := 0, seq := r.seq + 1 }
theorem recB_good {r : Rec} (h : r.good) (a : Nat) (ht : 0 < r.tries) (hq : r.seq + 1 < 2147483648) : (recB r a).good := by
  have := h.seq; have := h.tries
  unfold recB recT Rec.setSt
  split
  · exact ⟨by show (1 : Int) ≤ 3 ∧ (3 : Int) ≤ 4; decide, h.s1, h.v0, h.v1, by show 0 < r.seq + 1 ∧ r.seq + 1 < 2147483648; omega, by show 0 ≤ r.tries - 1 ∧ r.tries - 1 < 256; omega⟩
  · exact ⟨h.s0, by show (1 : Int) ≤ 3 ∧ (3 : Int) ≤ 4; decide, h.v0, h.v1, by show 0 < r.seq + 1 ∧ r.seq + 1 < 2147483648; omega, by show 0 ≤ r.tries - 1 ∧ r.tries - 1 < 256; omega⟩
theorem recW_good {r : Rec} (h : r.good) (a : Nat) (hq : r.seq + 1 < 2147483648) : (recW r a).good := by
  have := h.seq
  unfold recW Rec.setSt
  split
  · exact ⟨by show (1 : Int) ≤ 4 ∧ (4 : Int) ≤ 4; decide, h.s1, h.v0, h.v1, by show 0 < r.seq + 1 ∧ r.seq + 1 < 2147483648; omega, by show (0 : Int) ≤ 0 ∧ (0 : Int) < 256; decide⟩
  · exact ⟨h.s0, by show (1 : Int) ≤ 4 ∧ (4 : Int) ≤ 4; decide, h.v0, h.v1, by show 0 < r.seq + 1 ∧ r.seq + 1 < 2147483648; omega, by show (0 : Int) ≤ 0 ∧ (0 : Int) < 256; decide⟩
theorem recB_seq (r : Rec) (a : Nat) : (recB r a).seq = r.seq + 1 := rfl
theorem recW_seq (r : Rec) (a : Nat) : (recW r a).seq = r.seq + 1 := rfl
/-- A slot that is ready, or was tried, begins. -/
theorem boot_trial {f : Flash} {r : Rec} {key : Int} {s : Nat} {m : Img} (h : RecOk f.pages r) (hd : f.down = false) (hs : s ≤ 1) (h2 : r.st s = 2 ∨ r.st s = 3) (ht : 0 < r.tries) (hw : wholeF f s key = (m, true)) (ho : r.st (1 - s) ≠ 2 ∧ r.st (1 - s) ≠ 3) :
    bootF f key = if (putF f (recB r s)).2 ≠ 0 then ⟨(putF f (recB r s)).1, -1, img0, (putF f (recB r s)).2⟩ else ⟨(putF f (recB r s)).1, s, m, 0⟩ := by
  rw [boot_is h hd, bestS_one (p := trialB f r key) hs (trial_yes h2 ht (by rw [hw])) (trial_no (.inl ho)), if_neg (by omega), Int.toNat_natCast]
  have e : putB f (recT r s) = putF f (recB r s) := by
    unfold putB recB
    congr 1
    unfold recT Rec.setSt
    split <;> rfl
  unfold bootT
  rw [hw, e]
theorem well_4 {f : Flash} {r : Rec} {s : Nat} (h : RecOk f.pages r) (hd : f.down = false) (h4 : r.st s = 4) : wellF f s = (f, 0) := by
  unfold wellF
  rw [read_is h hd]
  simp only []
  rw [if_neg (by decide), if_pos h4]
theorem well_no {f : Flash} {r : Rec} {s : Nat} (h : RecOk f.pages r) (hd : f.down = false) (h4 : r.st s ≠ 4) (h3 : r.st s ≠ 3) : wellF f s = (f, 1) := by
  unfold wellF
  rw [read_is h hd]
  simp only []
  rw [if_neg (by decide), if_neg h4, if_pos h3]
theorem well_3 {f : Flash} {r : Rec} {s : Nat} (h : RecOk f.pages r) (hd : f.down = false) (h3 : r.st s = 3) : wellF f s = putF f (recW r s) := by
  unfold wellF
  rw [read_is h hd]
  simp only []
  rw [if_neg (by decide), if_neg (by omega), if_neg (by simp [h3])]
  unfold putB recW
  congr 1
  unfold Rec.setSt
  split <;> rfl
/-- Does a flash begin with an image? -/
def runsB (f : Flash) (m : Img) (key : Int) : Bool := ((bootF f key).e == 0) && ((bootF f key).m.ver == m.ver) && decide ((bootF f key).m.body = m.body)
theorem runs_of {f : Flash} {m : Img} {key : Int} {g : Flash} {a : Int} (h : bootF f key = ⟨g, a, m, 0⟩) : runsB f m key = true := by
  unfold runsB
  rw [h]; simp
end Go.Proofs.YtoifmpiikopelaaDoorFw
