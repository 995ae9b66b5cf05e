import Derived.Test.YtoifmpiikopelaaDoorJ4
import Derived.Test.YtoifmpiikopelaaDoorJ2
import Derived.Test.YtoifmpiikopelaaDoorJ1
/-
  Images that are saved onto a fresh flash, with the power on (no program in sight).
-/
namespace Go.Proofs.YtoifmpiikopelaaDoorFw
open Go Go.Proofs
set_option linter.unusedVariables false
set_option linter.unusedSimpArgs false

/-- The flash behind so many blocks saved, but the one of a number. -/
def stF (f : Flash) (s : Nat) (b : List Int) (skip : Nat) : Nat → Flash
  | 0 => f
  | k + 1 => if k = skip then stF f s b skip k else (saveF (stF f s b skip k) s k (pieceOf b k)).1
def stR (f : Flash) (s : Nat) (b : List Int) (skip k : Nat) : Int := (saveF (stF f s b skip k) s k (pieceOf b k)).2
structure OnOk (f g : Flash) (s : Nat) : Prop where
  big : g.big
  down : g.down = false
  left : g.left = -1
  wear : g.wear = f.wear
  low : Agree 0 (2 + 34 * s) f.pages g.pages
  high : Agree (36 + 34 * s) 70 f.pages g.pages
theorem st_step {f : Flash} {s : Nat} {b : List Int} (skip : Nat) (hf : f.big) (hd : f.down = false) (hl : f.left = -1) (hs : s ≤ 1) (hb : ∀ x ∈ b, byte x) (hn : nBlocks b ≤ 34) (hc : ∀ j, j < nBlocks b → f.pages.getD (2 + 34 * s + j) [] = clean64) :
    ∀ k, k ≤ nBlocks b → OnOk f (stF f s b skip k) s ∧ (∀ j, j < nBlocks b → (stF f s b skip k).pages.getD (2 + 34 * s + j) [] = if j < k ∧ j ≠ skip then pad (pieceOf b j) else clean64) ∧ (k < nBlocks b → stR f s b skip k = 0)
  | 0, hk => by
    refine ⟨⟨hf, hd, hl, rfl, Agree.refl _ _ _, Agree.refl _ _ _⟩, fun j hj => by rw [if_neg (by omega)]; exact hc j hj, fun hk => ?_⟩
    have hpk : 2 + 34 * s + 0 < f.pages.length := by rw [hf.n70]; omega
    have hpl := piece_len b 0
    have hcl := hc 0 hk
    rw [getD_pg hpk] at hcl
    show (saveF f s ((0 : Nat) : Int) (pieceOf b 0)).2 = 0
    rw [save_eq f s 0 b (by omega)]
    rcases write_cases (b := pieceOf b 0) hf.fine hpk hd (by omega) hcl with ⟨a1, _⟩ | ⟨_, a2, _⟩
    · exact a1
    · exact (a2 hl).elim
  | k + 1, hk => by
    obtain ⟨h1, h2, h3⟩ := st_step skip hf hd hl hs hb hn hc k (by omega)
    have key : OnOk f (stF f s b skip (k + 1)) s ∧ (∀ j, j < nBlocks b → (stF f s b skip (k + 1)).pages.getD (2 + 34 * s + j) [] = if j < k + 1 ∧ j ≠ skip then pad (pieceOf b j) else clean64) := by
      by_cases e : k = skip
      · have e1 : stF f s b skip (k + 1) = stF f s b skip k := by show (if k = skip then _ else _) = _; rw [if_pos e]
        rw [e1]
        refine ⟨h1, fun j hj => ?_⟩
        rw [h2 j hj]
        by_cases q : j < k ∧ j ≠ skip
        · rw [if_pos q, if_pos (by omega)]
        · rw [if_neg q, if_neg (by omega)]
      · have e1 : stF f s b skip (k + 1) = (saveF (stF f s b skip k) s k (pieceOf b k)).1 := by show (if k = skip then _ else _) = _; rw [if_neg e]
        rw [e1]
        have hpk : 2 + 34 * s + k < (stF f s b skip k).pages.length := by rw [h1.big.n70]; omega
        have hpl := piece_len b k
        have hcl := h2 k (by omega)
        rw [if_neg (by omega), getD_pg hpk] at hcl
        have hbg : (saveF (stF f s b skip k) s k (pieceOf b k)).1.big := big_save h1.big s k (piece_bytes hb k)
        rw [save_eq _ s k b (by omega)] at hbg ⊢
        rcases write_cases (b := pieceOf b k) h1.big.fine hpk h1.down (by omega) hcl with ⟨a1, a2, a3, a4, a5⟩ | ⟨_, a2, _⟩
        · generalize (writeF (stF f s b skip k) ((2 + 34 * s + k : Nat) : Int) 0 (pieceOf b k)).1 = g at *
          rw [laid_pad (by omega)] at a3
          refine ⟨⟨hbg, a2, a4 h1.left, a5.trans h1.wear, h1.low.trans (by rw [a3]; exact agree_set (.inr (by omega))), h1.high.trans (by rw [a3]; exact agree_set (.inl (by omega)))⟩, fun j hj => ?_⟩
          rw [a3]
          by_cases ej : j = k
          · subst ej
            rw [getD_set_eq hpk, if_pos ⟨by omega, e⟩]
          · rw [getD_set_ne (by omega), h2 j hj]
            by_cases q : j < k ∧ j ≠ skip
            · rw [if_pos q, if_pos (by omega)]
            · rw [if_neg q, if_neg (by omega)]
        · exact (a2 h1.left).elim
    refine ⟨key.1, key.2, fun hk2 => ?_⟩
    obtain ⟨h1, h2⟩ := key
    have hpk : 2 + 34 * s + (k + 1) < (stF f s b skip (k + 1)).pages.length := by rw [h1.big.n70]; omega
    have hpl := piece_len b (k + 1)
    have hcl := h2 (k + 1) hk2
    rw [if_neg (by omega), getD_pg hpk] at hcl
    unfold stR
    rw [save_eq _ s (k + 1) b (by omega)]
    rcases write_cases (b := pieceOf b (k + 1)) h1.big.fine hpk h1.down (by omega) hcl with ⟨a1, _⟩ | ⟨_, a2, _⟩
    · exact a1
    · exact (a2 h1.left).elim
theorem new_big : (newF 70).big := ⟨fine_new 70 (by decide) (by decide), by simp [newF]⟩
theorem new_page {j : Nat} (h : j < 70) : (newF 70).pages.getD j [] = clean64 := by
  unfold newF
  rw [List.getD_eq_getElem?_getD, List.getElem?_replicate, if_pos h]; rfl
theorem nb_pack {m : Img} (h : m.good) (key : Int) : nBlocks (packS m key) ≤ 34 ∧ 1 ≤ nBlocks (packS m key) := by
  have := packS_len m key
  have := h.n1; have := h.n2
  unfold nBlocks; omega
theorem stored_of {f : Flash} {s : Nat} {b : List Int} (h : ∀ j, j < nBlocks b → f.pages.getD (2 + 34 * s + j) [] = if j < nBlocks b ∧ j ≠ 99 then pad (pieceOf b j) else clean64) (hn : nBlocks b ≤ 34) : Stored f.pages s b :=
  ⟨by unfold nBlocks at hn; omega, fun j hj => by rw [h j hj, if_pos ⟨hj, by omega⟩]⟩
/-- A first record is put onto a flash without any. -/
theorem put_first {f : Flash} {r : Rec} (hf : f.big) (hd : f.down = false) (hl : f.left = -1) (hr : r.good) (ho : f.pages.getD (1 - r.pg) [] = clean64) :
    (putF f r).1.big ∧ (putF f r).2 = 0 ∧ (putF f r).1.down = false ∧ (putF f r).1.left = -1 ∧ RecOk (putF f r).1.pages r ∧ Agree 2 70 f.pages (putF f r).1.pages ∧ WearSet f.wear (putF f r).1.wear r.pg := by
  obtain ⟨_, p2, _⟩ := hr.pg
  have hk : r.pg < f.pages.length := by rw [hf.n70]; omega
  rcases put_cases hf hd hr with ⟨a1, a2, a3, a4, a5⟩ | ⟨_, a2, _⟩
  · refine ⟨big_put hf r, a1, a2, a4 hl, ⟨hr, ?_, fun i hi => ?_⟩, by rw [a3]; exact agree_set (.inl p2), by rw [a5]; exact wearSet (by rw [hf.wl]; omega)⟩
    · rw [a3, getD_set_eq hk]
      have := laid_take (b := recF r) (by rw [recF_len]; decide)
      rwa [recF_len] at this
    · rw [a3, getD_set_ne (by omega), ho] at hi
      rw [held_no0 (by rw [clean_first]; decide)] at hi
      cases hi
  · exact (a2 hl).elim
/-- The flash on which one image is proved, in slot 0. -/
def recL (v : Int) : Rec := ⟨1, 4, 1, v, 0, 0⟩
theorem recL_good {v : Int} (h : 0 ≤ v ∧ v < 2147483648) : (recL v).good := ⟨⟨by show (1 : Int) ≤ 4; decide, by show (4 : Int) ≤ 4; decide⟩, ⟨by show (1 : Int) ≤ 1; decide, by show (1 : Int) ≤ 4; decide⟩, h, ⟨by show (0 : Int) ≤ 0; decide, by show (0 : Int) < 2147483648; decide⟩, ⟨by show (0 : Int) < 1; decide, by show (1 : Int) < 2147483648; decide⟩, ⟨by show (0 : Int) ≤ 0; decide, by show (0 : Int) < 256; decide⟩⟩
def laidS (m : Img) (key : Int) : Flash := stF (newF 70) 0 (packS m key) 99 (nBlocks (packS m key))
def laidZ (m : Img) (key : Int) : Flash := (putF (laidS m key) (recL m.ver)).1
structure LaidOk (m : Img) (key : Int) (f : Flash) : Prop where
  big : f.big
  down : f.down = false
  left : f.left = -1
  rec_ : RecOk f.pages (recL m.ver)
  stored : Stored f.pages 0 (packS m key)
  clean : ∀ j, j < 34 → f.pages.getD (36 + j) [] = clean64
  wear : ∀ j, f.wear.getD j 0 = if j = 1 then 1 else 0
theorem laid_is {m : Img} (h : m.good) (key : Int) : (∀ k, k ≤ nBlocks (packS m key) → (stF (newF 70) 0 (packS m key) 99 k).big) ∧ (∀ k, k < nBlocks (packS m key) → stR (newF 70) 0 (packS m key) 99 k = 0) ∧ (putF (laidS m key) (recL m.ver)).2 = 0 ∧ LaidOk m key (laidZ m key) := by
  obtain ⟨hn, hn1⟩ := nb_pack h key
  have hst := fun k hk => st_step (s := 0) (b := packS m key) 99 new_big rfl rfl (by decide) (packS_bytes h key) hn (fun j hj => new_page (by omega)) k hk
  obtain ⟨h1, h2, _⟩ := hst (nBlocks (packS m key)) (Nat.le_refl _)
  have hg := recL_good h.ver
  have hpg : (recL m.ver).pg = 1 := rfl
  have h0 : (laidS m key).pages.getD 0 [] = clean64 := by
    have := h1.low 0 (by omega) (by omega)
    exact this.trans (new_page (by decide))
  obtain ⟨p1, p2, p3, p4, p5, p6, p7⟩ := put_first (f := laidS m key) h1.big h1.down h1.left hg (by rw [hpg]; exact h0)
  refine ⟨fun k hk => (hst k hk).1.big, fun k hk => (hst k (by omega)).2.2 hk, p2, ⟨p1, p3, p4, p5, (stored_of h2 hn).congr (p6.sub (by omega) (by omega)), fun j hj => ?_, fun j => ?_⟩⟩
  · have := p6 (36 + j) (by omega) (by omega)
    rw [show (laidZ m key).pages = (putF (laidS m key) (recL m.ver)).1.pages from rfl, this]
    exact (h1.high (36 + j) (by omega) (by omega)).trans (new_page (by omega))
  · have e := p7 j
    rw [show (laidZ m key).wear = (putF (laidS m key) (recL m.ver)).1.wear from rfl, e, hpg]
    have hw : (laidS m key).wear = (newF 70).wear := h1.wear
    have hz : (newF 70).wear.getD j 0 = 0 := by
      unfold newF
      rw [List.getD_eq_getElem?_getD, List.getElem?_replicate]
      split <;> rfl
    rw [hw, hz]
    rfl

/-! ### Blocks one behind the other, until one is refused -/
def sIt (f : Flash) (s : Nat) (b : List Int) (i : Nat) : Nat → Flash
  | 0 => f
  | k + 1 => (saveF (sIt f s b i k) s ((i + k : Nat) : Int) (pieceOf b (i + k))).1
def sErr (f : Flash) (s : Nat) (b : List Int) (i k : Nat) : Int := (saveF (sIt f s b i k) s ((i + k : Nat) : Int) (pieceOf b (i + k))).2
theorem sIt_succ (f : Flash) (s : Nat) (b : List Int) (i : Nat) : ∀ k, sIt f s b i (k + 1) = sIt (saveF f s (i : Int) (pieceOf b i)).1 s b (i + 1) k
  | 0 => rfl
  | k + 1 => by
    show (saveF (sIt f s b i (k + 1)) s _ _).1 = (saveF (sIt (saveF f s (i : Int) (pieceOf b i)).1 s b (i + 1) k) s _ _).1
    rw [sIt_succ f s b i k]
    have : i + (k + 1) = i + 1 + k := by omega
    rw [this]
theorem sErr_succ (f : Flash) (s : Nat) (b : List Int) (i k : Nat) : sErr f s b i (k + 1) = sErr (saveF f s (i : Int) (pieceOf b i)).1 s b (i + 1) k := by
  unfold sErr
  rw [sIt_succ]
  have : i + (k + 1) = i + 1 + k := by omega
  rw [this]
theorem savG_ex : ∀ (k : Nat) (f : Flash) (s : Nat) (b : List Int) (i : Nat), ∃ n, n ≤ k ∧ (∀ j, j < n → sErr f s b i j = 0) ∧ ((n = k ∧ savG f s b i k = (sIt f s b i k, 0)) ∨ (n < k ∧ sErr f s b i n ≠ 0 ∧ savG f s b i k = saveF (sIt f s b i n) s ((i + n : Nat) : Int) (pieceOf b (i + n))))
  | 0, f, s, b, i => ⟨0, Nat.le_refl _, by omega, .inl ⟨rfl, rfl⟩⟩
  | k + 1, f, s, b, i => by
    have e : savG f s b i (k + 1) = if (saveF f s i (pieceOf b i)).2 ≠ 0 then saveF f s i (pieceOf b i) else savG (saveF f s i (pieceOf b i)).1 s b (i + 1) k := rfl
    by_cases h : (saveF f s (i : Int) (pieceOf b i)).2 = 0
    · obtain ⟨n, h1, h2, h3⟩ := savG_ex k (saveF f s (i : Int) (pieceOf b i)).1 s b (i + 1)
      rw [if_neg (fun q => q h)] at e
      refine ⟨n + 1, by omega, fun j hj => ?_, ?_⟩
      · cases j with
        | zero => exact h
        | succ j => rw [sErr_succ]; exact h2 j (by omega)
      · rcases h3 with ⟨q1, q2⟩ | ⟨q1, q2, q3⟩
        · refine .inl ⟨by omega, ?_⟩
          rw [e, q2, sIt_succ]
        · refine .inr ⟨by omega, by rw [sErr_succ]; exact q2, ?_⟩
          rw [e, q3, sIt_succ]
          have : i + 1 + n = i + (n + 1) := by omega
          rw [this]
    · rw [if_pos h] at e
      exact ⟨0, by omega, by omega, .inr ⟨by omega, h, e⟩⟩
theorem sIt_big {f : Flash} (h : f.big) (s : Nat) {b : List Int} (hb : ∀ x ∈ b, byte x) (i : Nat) : ∀ k, (sIt f s b i k).big
  | 0 => h
  | k + 1 => big_save (sIt_big h s hb i k) _ _ (piece_bytes hb _)
end Go.Proofs.YtoifmpiikopelaaDoorFw

/-
  Walks: the laws' own helpers: small27, saved27, great24.
-/
namespace Go.Proofs.YtoifmpiikopelaaDoorFw
open Go Go.Proofs
set_option maxRecDepth 100000
set_option maxHeartbeats 4000000
set_option linter.unusedVariables false
set_option linter.unusedSimpArgs false

def smallB (m : Img) : Bool := decide (0 ≤ m.ver) && decide (m.ver < 2147483648) && decide (1 ≤ (m.body.length : Int)) && decide ((m.body.length : Int) ≤ 300)
theorem small27_ok (m : Img) : FnS Tryd.prog 13 [.agg (encImg m)] [] (.bool (smallB m)) [] := by
  refine fn_walk tabOk Tryd.func13 rfl (by decide +kernel) Tryd.ntmps13 Tryd.results13 (by simp) fun B hB => ?_
  try refine hK _ ?_
  repeat (first | refine awp_seq ?_ | refine awp_block ?_ | refine awp_skip ?_ | refine awp_scope ?_ | refine awp_label ?_)
  refine awp_region tabOk fun K hK => ?_
  simp -dsimp -implicitDefEqProofs only [encImg, push_cast, ↓trAdd_f, ↓stOf_f, seval]
  refine hK _ ?_
  cases hA : decide (0 ≤ m.ver) with
  | false =>
    have e : smallB m = false := by unfold smallB; rw [hA]; rfl
    try refine hK _ ?_
    repeat (first | refine awp_seq ?_ | refine awp_block ?_ | refine awp_skip ?_ | refine awp_scope ?_ | refine awp_label ?_)
    refine awp_region tabOk fun K hK => ?_
    simp -dsimp -implicitDefEqProofs only [hA, push_cast, ↓trAdd_f, ↓stOf_f, seval]
    refine hK _ (awp_ret ?_)
    simp -dsimp -implicitDefEqProofs only [e, push_cast, List.mem_append, List.mem_cons, List.mem_singleton, forall_eq_or_imp, forall_eq, ↓trAdd_f, ↓stOf_f, seval]
  | true =>
  cases hQ : decide (m.ver < 2147483648) with
  | false =>
    have e : smallB m = false := by unfold smallB; rw [hA, hQ]; rfl
    try refine hK _ ?_
    repeat (first | refine awp_seq ?_ | refine awp_block ?_ | refine awp_skip ?_ | refine awp_scope ?_ | refine awp_label ?_)
    refine awp_region tabOk fun K hK => ?_
    simp -dsimp -implicitDefEqProofs only [hA, hQ, push_cast, ↓trAdd_f, ↓stOf_f, seval]
    refine hK _ (awp_ret ?_)
    simp -dsimp -implicitDefEqProofs only [e, push_cast, List.mem_append, List.mem_cons, List.mem_singleton, forall_eq_or_imp, forall_eq, ↓trAdd_f, ↓stOf_f, seval]
  | true =>
  cases hD : decide (1 ≤ (m.body.length : Int)) with
  | false =>
    have e : smallB m = false := by unfold smallB; rw [hA, hQ, hD]; rfl
    try refine hK _ ?_
    repeat (first | refine awp_seq ?_ | refine awp_block ?_ | refine awp_skip ?_ | refine awp_scope ?_ | refine awp_label ?_)
    refine awp_region tabOk fun K hK => ?_
    simp -dsimp -implicitDefEqProofs only [hA, hQ, hD, push_cast, ↓trAdd_f, ↓stOf_f, seval]
    refine hK _ (awp_ret ?_)
    simp -dsimp -implicitDefEqProofs only [e, push_cast, List.mem_append, List.mem_cons, List.mem_singleton, forall_eq_or_imp, forall_eq, ↓trAdd_f, ↓stOf_f, seval]
  | true =>
    have e : smallB m = decide ((m.body.length : Int) ≤ 300) := by unfold smallB; rw [hA, hQ, hD]; rfl
    try refine hK _ ?_
    repeat (first | refine awp_seq ?_ | refine awp_block ?_ | refine awp_skip ?_ | refine awp_scope ?_ | refine awp_label ?_)
    refine awp_region tabOk fun K hK => ?_
    simp -dsimp -implicitDefEqProofs only [hA, hQ, hD, push_cast, ↓trAdd_f, ↓stOf_f, seval]
    refine hK _ (awp_ret ?_)
    simp -dsimp -implicitDefEqProofs only [e, push_cast, List.mem_append, List.mem_cons, List.mem_singleton, forall_eq_or_imp, forall_eq, ↓trAdd_f, ↓stOf_f, seval]
def greatB (m : Img) (key : Int) : Bool := decide ((m.body.length : Int) < 1) || decide (2048 < (m.body.length : Int)) || decide (m.ver < 0) || decide (2147483648 ≤ m.ver) || decide (key < 0) || decide (4294967296 ≤ key)
theorem great24_ok (m : Img) (key : Int) : FnS Tryd.prog 33 [.agg (encImg m), .int .i64 key] [] (.bool (greatB m key)) [] := by
  refine fn_walk tabOk Tryd.func33 rfl (by decide +kernel) Tryd.ntmps33 Tryd.results33 (by simp) fun B hB => ?_
  try refine hK _ ?_
  repeat (first | refine awp_seq ?_ | refine awp_block ?_ | refine awp_skip ?_ | refine awp_scope ?_ | refine awp_label ?_)
  refine awp_region tabOk fun K hK => ?_
  simp -dsimp -implicitDefEqProofs only [encImg, push_cast, ↓trAdd_f, ↓stOf_f, seval]
  refine hK _ ?_
  cases hA : decide ((m.body.length : Int) < 1) with
  | true =>
    have e : greatB m key = true := by unfold greatB; rw [hA]; rfl
    try refine hK _ ?_
    repeat (first | refine awp_seq ?_ | refine awp_block ?_ | refine awp_skip ?_ | refine awp_scope ?_ | refine awp_label ?_)
    refine awp_region tabOk fun K hK => ?_
    simp -dsimp -implicitDefEqProofs only [hA, push_cast, ↓trAdd_f, ↓stOf_f, seval]
    refine hK _ (awp_ret ?_)
    simp -dsimp -implicitDefEqProofs only [e, push_cast, List.mem_append, List.mem_cons, List.mem_singleton, forall_eq_or_imp, forall_eq, ↓trAdd_f, ↓stOf_f, seval]
  | false =>
  cases hQ : decide (2048 < (m.body.length : Int)) with
  | true =>
    have e : greatB m key = true := by unfold greatB; rw [hA, hQ]; rfl
    try refine hK _ ?_
    repeat (first | refine awp_seq ?_ | refine awp_block ?_ | refine awp_skip ?_ | refine awp_scope ?_ | refine awp_label ?_)
    refine awp_region tabOk fun K hK => ?_
    simp -dsimp -implicitDefEqProofs only [hA, hQ, push_cast, ↓trAdd_f, ↓stOf_f, seval]
    refine hK _ (awp_ret ?_)
    simp -dsimp -implicitDefEqProofs only [e, push_cast, List.mem_append, List.mem_cons, List.mem_singleton, forall_eq_or_imp, forall_eq, ↓trAdd_f, ↓stOf_f, seval]
  | false =>
  cases hD : decide (m.ver < 0) with
  | true =>
    have e : greatB m key = true := by unfold greatB; rw [hA, hQ, hD]; rfl
    try refine hK _ ?_
    repeat (first | refine awp_seq ?_ | refine awp_block ?_ | refine awp_skip ?_ | refine awp_scope ?_ | refine awp_label ?_)
    refine awp_region tabOk fun K hK => ?_
    simp -dsimp -implicitDefEqProofs only [hA, hQ, hD, push_cast, ↓trAdd_f, ↓stOf_f, seval]
    refine hK _ (awp_ret ?_)
    simp -dsimp -implicitDefEqProofs only [e, push_cast, List.mem_append, List.mem_cons, List.mem_singleton, forall_eq_or_imp, forall_eq, ↓trAdd_f, ↓stOf_f, seval]
  | false =>
  cases hE : decide (2147483648 ≤ m.ver) with
  | true =>
    have e : greatB m key = true := by unfold greatB; rw [hA, hQ, hD, hE]; rfl
    try refine hK _ ?_
    repeat (first | refine awp_seq ?_ | refine awp_block ?_ | refine awp_skip ?_ | refine awp_scope ?_ | refine awp_label ?_)
    refine awp_region tabOk fun K hK => ?_
    simp -dsimp -implicitDefEqProofs only [hA, hQ, hD, hE, push_cast, ↓trAdd_f, ↓stOf_f, seval]
    refine hK _ (awp_ret ?_)
    simp -dsimp -implicitDefEqProofs only [e, push_cast, List.mem_append, List.mem_cons, List.mem_singleton, forall_eq_or_imp, forall_eq, ↓trAdd_f, ↓stOf_f, seval]
  | false =>
  cases hH : decide (key < 0) with
  | true =>
    have e : greatB m key = true := by unfold greatB; rw [hA, hQ, hD, hE, hH]; rfl
    try refine hK _ ?_
    repeat (first | refine awp_seq ?_ | refine awp_block ?_ | refine awp_skip ?_ | refine awp_scope ?_ | refine awp_label ?_)
    refine awp_region tabOk fun K hK => ?_
    simp -dsimp -implicitDefEqProofs only [hA, hQ, hD, hE, hH, push_cast, ↓trAdd_f, ↓stOf_f, seval]
    refine hK _ (awp_ret ?_)
    simp -dsimp -implicitDefEqProofs only [e, push_cast, List.mem_append, List.mem_cons, List.mem_singleton, forall_eq_or_imp, forall_eq, ↓trAdd_f, ↓stOf_f, seval]
  | false =>
    have e : greatB m key = decide (4294967296 ≤ key) := by unfold greatB; rw [hA, hQ, hD, hE, hH]; rfl
    try refine hK _ ?_
    repeat (first | refine awp_seq ?_ | refine awp_block ?_ | refine awp_skip ?_ | refine awp_scope ?_ | refine awp_label ?_)
    refine awp_region tabOk fun K hK => ?_
    simp -dsimp -implicitDefEqProofs only [hA, hQ, hD, hE, hH, push_cast, ↓trAdd_f, ↓stOf_f, seval]
    refine hK _ (awp_ret ?_)
    simp -dsimp -implicitDefEqProofs only [e, push_cast, List.mem_append, List.mem_cons, List.mem_singleton, forall_eq_or_imp, forall_eq, ↓trAdd_f, ↓stOf_f, seval]
theorem blocks_get (b : List Int) (k : Nat) (hk : k < nBlocks b) : ((blocksOf b).map encT).getD k [] = [.sl true 1 ((pieceOf b k).map encB)] := by
  have hl : (blocksOf b).length = nBlocks b := by simp [blocksOf]
  rw [getD_map encT _ _ (by omega)]
  simp [blocksOf, encT]
theorem blocks_len (b : List Int) : ((blocksOf b).map encT).length = nBlocks b := by simp [blocksOf]
def sv27S (f : Flash) (s : Nat) (b : List Int) (lack : Bool) (skip k : Nat) : AS := { sl := [(1, .int .i64 s), (4, .bool lack), (5, .ptr 100 0), (10, .ptr 101 0), (13, .bool true), (14, .sl false 1 ((blocksOf b).map encT)), (15, .int .i64 k)], st := [(100, .box (encFlash (stF f s b skip k))), (101, .box (encFlash flash0))], nx := 200, n := 57 }
theorem saved27_ok (f : Flash) (s : Nat) (m : Img) (key : Int) (lack : Bool) (skip : Nat) (hskip : skip = if lack then 0 else 99) (hm : m.good) (hk : mayS key = true) (hs : s ≤ 1)
    (hbig : ∀ k, k ≤ nBlocks (packS m key) → (stF f s (packS m key) skip k).big) (herr : ∀ k, k < nBlocks (packS m key) → k ≠ skip → stR f s (packS m key) skip k = 0) :
    FnS Tryd.prog 14 [.agg (encFlash f), .int .i64 s, .agg (encImg m), .int .i64 key, .bool lack] [] (.tup [.agg (encFlash (stF f s (packS m key) skip (nBlocks (packS m key)))), .bool true]) [] := by
  have hpl := packS_len m key
  have hn2 := hm.n2
  obtain ⟨hnb, hnb1⟩ := nb_pack hm key
  refine fn_walk tabOk Tryd.func14 rfl (by decide +kernel) Tryd.ntmps14 Tryd.results14 (by simp) fun B hB => ?_
  try refine hK _ ?_
  repeat (first | refine awp_seq ?_ | refine awp_block ?_ | refine awp_skip ?_ | refine awp_scope ?_ | refine awp_label ?_)
  refine awp_region tabOk fun K hK => ?_
  simp -dsimp -implicitDefEqProofs only [encFlash, encImg, push_cast, ↓trAdd_f, ↓stOf_f, seval]
  refine hK _ ?_
  try refine hK _ ?_
  repeat (first | refine awp_seq ?_ | refine awp_block ?_ | refine awp_skip ?_ | refine awp_scope ?_ | refine awp_label ?_)
  refine awp_region tabOk fun K hK => ?_
  simp -dsimp -implicitDefEqProofs only [push_cast, ↓trAdd_f, ↓stOf_f, seval]
  refine callK_simple (pack_ok m key hm.right hk) ?_ rfl fun _ => ?_
  · simp -dsimp -implicitDefEqProofs only [encImg, push_cast, List.mem_append, List.mem_cons, List.mem_singleton, forall_eq_or_imp, forall_eq, ↓trAdd_f, ↓stOf_f, seval]
  generalize packS m key = b at *
  simp -dsimp -implicitDefEqProofs only [push_cast, ↓trAdd_f, ↓stOf_f, seval]
  refine hK _ ?_
  try refine hK _ ?_
  repeat (first | refine awp_seq ?_ | refine awp_block ?_ | refine awp_skip ?_ | refine awp_scope ?_ | refine awp_label ?_)
  refine awp_region tabOk fun K hK => ?_
  simp -dsimp -implicitDefEqProofs only [push_cast, ↓trAdd_f, ↓stOf_f, seval]
  refine callK_simple (blocks_ok b (by omega)) ?_ rfl fun _ => ?_
  · simp -dsimp -implicitDefEqProofs only [push_cast, List.mem_append, List.mem_cons, List.mem_singleton, forall_eq_or_imp, forall_eq, ↓trAdd_f, ↓stOf_f, seval]
  simp -dsimp -implicitDefEqProofs only [push_cast, ↓trAdd_f, ↓stOf_f, seval]
  refine hK _ ?_
  try refine hK _ ?_
  repeat (first | refine awp_seq ?_ | refine awp_block ?_ | refine awp_skip ?_ | refine awp_scope ?_ | refine awp_label ?_)
  refine awp_region tabOk fun K hK => ?_
  simp -dsimp -implicitDefEqProofs only [push_cast, ↓trAdd_f, ↓stOf_f, seval]
  refine hK _ (awp_block ?_)
  refine awp_for (fun k : Nat => sv27S f s b lack skip k) (fun k => k ≤ nBlocks b) (fun k => nBlocks b - k) 0 (Nat.zero_le _) ?_ fun k hk => ?_
  · simp only [sv27S, stF]
    refine le_intro hB [(100, 0), (101, 16)] (by simp) (fun b hb => absurd hb (Nat.not_lt_zero b)) rfl ?_ ?_ rfl <;> simp -dsimp -implicitDefEqProofs only [encFlash, flash0, push_cast, ↓trAdd_f, ↓stOf_f, seval]
  have hbl := blocks_len b
  simp only [sv27S]
  by_cases hlt : k < nBlocks b
  · have d : decide ((k : Int) < (nBlocks b : Int)) = true := by simpa using hlt
    have w : IntKind.i64.wrap ((k : Int) + 1) = (k : Int) + 1 := wrap_i64 (by omega) (by omega)
    have w1 : IntKind.i64.wrap 1 = 1 := by decide
    try refine hK _ ?_
    repeat (first | refine awp_seq ?_ | refine awp_block ?_ | refine awp_skip ?_ | refine awp_scope ?_ | refine awp_label ?_)
    refine awp_region tabOk fun K hK => ?_
    simp -dsimp -implicitDefEqProofs only [hbl, d, push_cast, ↓trAdd_f, ↓stOf_f, seval]
    try refine hK _ ?_
    repeat (first | refine awp_seq ?_ | refine awp_block ?_ | refine awp_skip ?_ | refine awp_scope ?_ | refine awp_label ?_)
    refine awp_cond (b := true) (by simp -dsimp -implicitDefEqProofs only [push_cast, ↓trAdd_f, ↓stOf_f, seval]) (fun h => ?_) (fun h => ?_)
    rotate_left
    · cases h
    refine awp_skip ?_
    by_cases hsk : k = skip
    · have e1 : stF f s b skip (k + 1) = stF f s b skip k := by show (if k = skip then _ else _) = _; rw [if_pos hsk]
      have hlk : lack = true ∧ k = 0 := by
        cases lack with
        | true => exact ⟨rfl, by rw [hsk, hskip]; rfl⟩
        | false => exfalso; rw [if_neg (by decide)] at hskip; omega
      obtain ⟨rfl, rfl⟩ := hlk
      try refine hK _ ?_
      repeat (first | refine awp_seq ?_ | refine awp_block ?_ | refine awp_skip ?_ | refine awp_scope ?_ | refine awp_label ?_)
      refine awp_region tabOk fun K hK => ?_
      simp -dsimp -implicitDefEqProofs only [push_cast, ↓trAdd_f, ↓stOf_f, seval]
      refine hK _ ?_
      try refine hK _ ?_
      repeat (first | refine awp_seq ?_ | refine awp_block ?_ | refine awp_skip ?_ | refine awp_scope ?_ | refine awp_label ?_)
      refine awp_cond (b := false) (by simp -dsimp -implicitDefEqProofs only [push_cast, ↓trAdd_f, ↓stOf_f, seval]) (fun h => ?_) (fun h => ?_)
      · cases h
      refine awp_skip ?_
      try refine hK _ ?_
      repeat (first | refine awp_seq ?_ | refine awp_block ?_ | refine awp_skip ?_ | refine awp_scope ?_ | refine awp_label ?_)
      refine awp_region tabOk fun K hK => ?_
      simp -dsimp -implicitDefEqProofs only [w1, push_cast, ↓trAdd_f, ↓stOf_f, seval]
      refine hK _ ⟨1, hlt, by omega, ?_⟩
      rw [← hsk] at e1
      rw [← hsk, e1]
      refine le_intro hB [] (by simp) (fun b _ => rfl) rfl ?_ ?_ rfl <;> simp -dsimp -implicitDefEqProofs only [encFlash, push_cast, ↓trAdd_f, ↓stOf_f, seval]
    · have e1 : stF f s b skip (k + 1) = (saveF (stF f s b skip k) s k (pieceOf b k)).1 := by show (if k = skip then _ else _) = _; rw [if_neg hsk]
      have e2 := herr k hlt hsk
      unfold stR at e2
      have hbk := hbig k (by omega)
      have hpl2 := piece_len b k
      have hg := blocks_get b k hlt
      have hsv := save_ok (stF f s b skip k) s k true (pieceOf b k) hbk.fine (by omega) (by omega)
      rw [← e1, e2] at hsv
      by_cases h0 : 0 < k
      · have d0 : decide (0 < (k : Int)) = true := by simpa using h0
        try refine hK _ ?_
        repeat (first | refine awp_seq ?_ | refine awp_block ?_ | refine awp_skip ?_ | refine awp_scope ?_ | refine awp_label ?_)
        refine awp_region tabOk fun K hK => ?_
        simp -dsimp -implicitDefEqProofs only [d0, push_cast, ↓trAdd_f, ↓stOf_f, seval]
        refine hK _ ?_
        try refine hK _ ?_
        repeat (first | refine awp_seq ?_ | refine awp_block ?_ | refine awp_skip ?_ | refine awp_scope ?_ | refine awp_label ?_)
        refine awp_cond (b := true) (by simp -dsimp -implicitDefEqProofs only [push_cast, ↓trAdd_f, ↓stOf_f, seval]) (fun h => ?_) (fun h => ?_)
        rotate_left
        · cases h
        try refine hK _ ?_
        repeat (first | refine awp_seq ?_ | refine awp_block ?_ | refine awp_skip ?_ | refine awp_scope ?_ | refine awp_label ?_)
        refine awp_draw tabOk (by kernel_rfl) (by kernel_rfl) fun K hK C hC => ?_
        simp -dsimp -implicitDefEqProofs only [encFlash, hg, hbl, push_cast, ↓trAdd_f, ↓stOf_f, seval]
        refine ⟨⟨by omega, by omega⟩, ?_⟩
        refine callK_simple hsv ?_ rfl fun _ => ?_
        · simp -dsimp -implicitDefEqProofs only [encFlash, push_cast, List.mem_append, List.mem_cons, List.mem_singleton, forall_eq_or_imp, forall_eq, ↓trAdd_f, ↓stOf_f, seval]
        simp -dsimp -implicitDefEqProofs only [encFlash, push_cast, ↓trAdd_f, ↓stOf_f, seval]
        refine ⟨hC _ (by kernel_rfl), hK _ ?_⟩
        try refine hK _ ?_
        repeat (first | refine awp_seq ?_ | refine awp_block ?_ | refine awp_skip ?_ | refine awp_scope ?_ | refine awp_label ?_)
        refine awp_region tabOk fun K hK => ?_
        simp -dsimp -implicitDefEqProofs only [push_cast, ↓trAdd_f, ↓stOf_f, seval]
        refine hK _ ?_
        try refine hK _ ?_
        repeat (first | refine awp_seq ?_ | refine awp_block ?_ | refine awp_skip ?_ | refine awp_scope ?_ | refine awp_label ?_)
        refine awp_region tabOk fun K hK => ?_
        simp -dsimp -implicitDefEqProofs only [encFlash, push_cast, ↓trAdd_f, ↓stOf_f, seval]
        refine hK _ ?_
        try refine hK _ ?_
        repeat (first | refine awp_seq ?_ | refine awp_block ?_ | refine awp_skip ?_ | refine awp_scope ?_ | refine awp_label ?_)
        refine awp_region tabOk fun K hK => ?_
        simp -dsimp -implicitDefEqProofs only [w, push_cast, ↓trAdd_f, ↓stOf_f, seval]
        refine hK _ ⟨k + 1, hlt, by omega, ?_⟩
        refine le_intro hB [] (by simp) (fun b _ => rfl) rfl ?_ ?_ rfl <;> simp -dsimp -implicitDefEqProofs only [encFlash, push_cast, ↓trAdd_f, ↓stOf_f, seval]
      · have d0 : decide (0 < (k : Int)) = false := by simpa using h0
        have hl : lack = false := by
          cases lack with
          | false => rfl
          | true => exfalso; rw [if_pos rfl] at hskip; omega
        subst hl
        try refine hK _ ?_
        repeat (first | refine awp_seq ?_ | refine awp_block ?_ | refine awp_skip ?_ | refine awp_scope ?_ | refine awp_label ?_)
        refine awp_region tabOk fun K hK => ?_
        simp -dsimp -implicitDefEqProofs only [d0, push_cast, ↓trAdd_f, ↓stOf_f, seval]
        refine hK _ ?_
        try refine hK _ ?_
        repeat (first | refine awp_seq ?_ | refine awp_block ?_ | refine awp_skip ?_ | refine awp_scope ?_ | refine awp_label ?_)
        refine awp_cond (b := true) (by simp -dsimp -implicitDefEqProofs only [push_cast, ↓trAdd_f, ↓stOf_f, seval]) (fun h => ?_) (fun h => ?_)
        rotate_left
        · cases h
        try refine hK _ ?_
        repeat (first | refine awp_seq ?_ | refine awp_block ?_ | refine awp_skip ?_ | refine awp_scope ?_ | refine awp_label ?_)
        refine awp_draw tabOk (by kernel_rfl) (by kernel_rfl) fun K hK C hC => ?_
        simp -dsimp -implicitDefEqProofs only [encFlash, hg, hbl, push_cast, ↓trAdd_f, ↓stOf_f, seval]
        refine ⟨⟨by omega, by omega⟩, ?_⟩
        refine callK_simple hsv ?_ rfl fun _ => ?_
        · simp -dsimp -implicitDefEqProofs only [encFlash, push_cast, List.mem_append, List.mem_cons, List.mem_singleton, forall_eq_or_imp, forall_eq, ↓trAdd_f, ↓stOf_f, seval]
        simp -dsimp -implicitDefEqProofs only [encFlash, push_cast, ↓trAdd_f, ↓stOf_f, seval]
        refine ⟨hC _ (by kernel_rfl), hK _ ?_⟩
        try refine hK _ ?_
        repeat (first | refine awp_seq ?_ | refine awp_block ?_ | refine awp_skip ?_ | refine awp_scope ?_ | refine awp_label ?_)
        refine awp_region tabOk fun K hK => ?_
        simp -dsimp -implicitDefEqProofs only [push_cast, ↓trAdd_f, ↓stOf_f, seval]
        refine hK _ ?_
        try refine hK _ ?_
        repeat (first | refine awp_seq ?_ | refine awp_block ?_ | refine awp_skip ?_ | refine awp_scope ?_ | refine awp_label ?_)
        refine awp_region tabOk fun K hK => ?_
        simp -dsimp -implicitDefEqProofs only [encFlash, push_cast, ↓trAdd_f, ↓stOf_f, seval]
        refine hK _ ?_
        try refine hK _ ?_
        repeat (first | refine awp_seq ?_ | refine awp_block ?_ | refine awp_skip ?_ | refine awp_scope ?_ | refine awp_label ?_)
        refine awp_region tabOk fun K hK => ?_
        simp -dsimp -implicitDefEqProofs only [w, push_cast, ↓trAdd_f, ↓stOf_f, seval]
        refine hK _ ⟨k + 1, hlt, by omega, ?_⟩
        refine le_intro hB [] (by simp) (fun b _ => rfl) rfl ?_ ?_ rfl <;> simp -dsimp -implicitDefEqProofs only [encFlash, push_cast, ↓trAdd_f, ↓stOf_f, seval]
  · have hke : k = nBlocks b := by omega
    subst hke
    have d : decide ((nBlocks b : Int) < (nBlocks b : Int)) = false := by simp
    try refine hK _ ?_
    repeat (first | refine awp_seq ?_ | refine awp_block ?_ | refine awp_skip ?_ | refine awp_scope ?_ | refine awp_label ?_)
    refine awp_region tabOk fun K hK => ?_
    simp -dsimp -implicitDefEqProofs only [hbl, d, push_cast, ↓trAdd_f, ↓stOf_f, seval]
    try refine hK _ ?_
    repeat (first | refine awp_seq ?_ | refine awp_block ?_ | refine awp_skip ?_ | refine awp_scope ?_ | refine awp_label ?_)
    refine awp_cond (b := false) (by simp -dsimp -implicitDefEqProofs only [push_cast, ↓trAdd_f, ↓stOf_f, seval]) (fun h => ?_) (fun h => ?_)
    · cases h
    refine awp_exit rfl ?_
    try refine hK _ ?_
    repeat (first | refine awp_seq ?_ | refine awp_block ?_ | refine awp_skip ?_ | refine awp_scope ?_ | refine awp_label ?_)
    refine awp_region tabOk fun K hK => ?_
    simp -dsimp -implicitDefEqProofs only [encFlash, push_cast, ↓trAdd_f, ↓stOf_f, seval]
    refine hK _ (awp_ret ?_)
    simp -dsimp -implicitDefEqProofs only [encFlash, push_cast, List.mem_append, List.mem_cons, List.mem_singleton, forall_eq_or_imp, forall_eq, ↓trAdd_f, ↓stOf_f, seval]
end Go.Proofs.YtoifmpiikopelaaDoorFw

/-
  One image proved, alone; two of them (no program in sight).
-/
namespace Go.Proofs.YtoifmpiikopelaaDoorFw
open Go Go.Proofs
set_option linter.unusedVariables false
set_option linter.unusedSimpArgs false

def recP (s : Nat) (v : Int) : Rec := if s = 0 then ⟨1, 4, 1, v, 0, 0⟩ else ⟨1, 1, 4, 0, v, 0⟩
theorem recQ_good {a b v w : Int} (ha : 1 ≤ a ∧ a ≤ 4) (hb : 1 ≤ b ∧ b ≤ 4) (hv : 0 ≤ v ∧ v < 2147483648) (hw : 0 ≤ w ∧ w < 2147483648) : (Rec.mk 1 a b v w 0).good :=
  ⟨ha, hb, hv, hw, ⟨by show (0 : Int) < 1; decide, by show (1 : Int) < 2147483648; decide⟩, ⟨by show (0 : Int) ≤ 0; decide, by show (0 : Int) < 256; decide⟩⟩
theorem recP_good (s : Nat) {v : Int} (h : 0 ≤ v ∧ v < 2147483648) : (recP s v).good := by
  unfold recP
  split
  · exact recQ_good (by decide) (by decide) h (by decide)
  · exact recQ_good (by decide) (by decide) (by decide) h
def oneS (m : Img) (key : Int) (s : Nat) : Flash := stF (newF 70) s (packS m key) 99 (nBlocks (packS m key))
def oneZ (m : Img) (key : Int) (s : Nat) : Flash := (putF (oneS m key s) (recP s m.ver)).1
structure OneOk (m : Img) (key : Int) (s : Nat) (f : Flash) : Prop where
  big : f.big
  down : f.down = false
  left : f.left = -1
  rec_ : RecOk f.pages (recP s m.ver)
  stored : Stored f.pages s (packS m key)
theorem recP_seq (s : Nat) (v : Int) : (recP s v).seq = 1 := by unfold recP; split <;> rfl
theorem recP_pg (s : Nat) (v : Int) : (recP s v).pg = 1 := by unfold Rec.pg; rw [recP_seq]; rfl
theorem one_is {m : Img} (h : m.good) (key : Int) {s : Nat} (hs : s ≤ 1) : (∀ k, k ≤ nBlocks (packS m key) → (stF (newF 70) s (packS m key) 99 k).big) ∧ (∀ k, k < nBlocks (packS m key) → stR (newF 70) s (packS m key) 99 k = 0) ∧ (oneS m key s).big ∧ (putF (oneS m key s) (recP s m.ver)).2 = 0 ∧ OneOk m key s (oneZ m key s) := by
  obtain ⟨hn, hn1⟩ := nb_pack h key
  have hst := fun k hk => st_step (s := s) (b := packS m key) 99 new_big rfl rfl hs (packS_bytes h key) hn (fun j hj => new_page (by omega)) k hk
  obtain ⟨h1, h2, _⟩ := hst (nBlocks (packS m key)) (Nat.le_refl _)
  have hg := recP_good s h.ver
  have hpg := recP_pg s m.ver
  have h0 : (oneS m key s).pages.getD 0 [] = clean64 := by
    have := h1.low 0 (by omega) (by omega)
    exact this.trans (new_page (by decide))
  obtain ⟨p1, p2, p3, p4, p5, p6, p7⟩ := put_first (f := oneS m key s) h1.big h1.down h1.left hg (by rw [hpg]; exact h0)
  exact ⟨fun k hk => (hst k hk).1.big, fun k hk => (hst k (by omega)).2.2 hk, h1.big, p2, ⟨p1, p3, p4, p5, (stored_of h2 hn).congr (p6.sub (by omega) (by omega))⟩⟩
theorem power_big {f : Flash} (h : f.big) (l : Int) (h1 : -1 ≤ l) (h2 : l ≤ 9223372036854775807) : (powerF f l).big := ⟨fine_power h.fine l h1 h2, h.n70⟩
theorem power_power (f : Flash) (a b : Int) : powerF (powerF f a) b = powerF f b := rfl
theorem recP_st (s : Nat) (v : Int) (hs : s ≤ 1) : (recP s v).st s = 4 ∧ (recP s v).st (1 - s) = 1 := by
  have hs' : s = 0 ∨ s = 1 := by omega
  rcases hs' with rfl | rfl
  · exact ⟨rfl, rfl⟩
  · exact ⟨rfl, rfl⟩
theorem st_both {r : Rec} {s a b : Int} {t : Nat} (ht : t ≤ 1) (h1 : r.st t = a) (h2 : r.st (1 - t) = b) : ∀ i, i ≤ 1 → r.st i = a ∨ r.st i = b := fun i hi => by
  by_cases e : i = t
  · subst e; exact .inl h1
  · have : i = 1 - t := by omega
    subst this; exact .inr h2
theorem one_boot {m : Img} (h : m.good) {key : Int} (hk : mayS key = true) {s : Nat} (hs : s ≤ 1) {f : Flash} (hf : OneOk m key s f) : bootF f key = ⟨f, s, m, 0⟩ := by
  obtain ⟨h4, h1⟩ := recP_st s m.ver hs
  have tno : ∀ i, i ≤ 1 → trialB f (recP s m.ver) key i = false := fun i hi => by
    rcases st_both (s := 0) hs h4 h1 i hi with e | e
    · exact trial_no (.inl ⟨by rw [e]; decide, by rw [e]; decide⟩)
    · exact trial_no (.inl ⟨by rw [e]; decide, by rw [e]; decide⟩)
  exact boot_proved hf.rec_ hf.down hs (tno 0 (by decide)) (tno 1 (by decide)) h4 (whole_same h hk hf.stored hf.big.n70 hs hf.down) (proved_no (.inl (by rw [h1]; decide)))
theorem one_well {m : Img} {key : Int} {s : Nat} (hs : s ≤ 1) {f : Flash} (hf : OneOk m key s f) (t : Nat) (ht : t ≤ 1) : wellF f t = (f, if t = s then 0 else 1) := by
  obtain ⟨h4, h1⟩ := recP_st s m.ver hs
  by_cases e : t = s
  · subst e
    rw [well_4 hf.rec_ hf.down h4, if_pos rfl]
  · have : t = 1 - s := by omega
    subst this
    rw [well_no hf.rec_ hf.down (by rw [h1]; decide) (by rw [h1]; decide), if_neg e]
theorem one_power {m : Img} {key : Int} {s : Nat} {f : Flash} (hf : OneOk m key s f) (l : Int) (h1 : -1 ≤ l) (h2 : l ≤ 9223372036854775807) : (powerF f l).big ∧ RecOk (powerF f l).pages (recP s m.ver) ∧ Stored (powerF f l).pages s (packS m key) := ⟨power_big hf.big l h1 h2, hf.rec_, hf.stored⟩
/-- Whatever power there is: an image that is proved alone begins. -/
theorem one_boot_power {m : Img} (h : m.good) {key : Int} (hk : mayS key = true) {s : Nat} (hs : s ≤ 1) {f : Flash} (hf : OneOk m key s f) (l : Int) (hl1 : -1 ≤ l) (hl2 : l ≤ 9223372036854775807) : bootF (powerF f l) key = ⟨powerF f l, s, m, 0⟩ := by
  obtain ⟨h4, h1⟩ := recP_st s m.ver hs
  have tno : ∀ i, i ≤ 1 → trialB (powerF f l) (recP s m.ver) key i = false := fun i hi => by
    rcases st_both (s := 0) hs h4 h1 i hi with e | e
    · exact trial_no (.inl ⟨by rw [e]; decide, by rw [e]; decide⟩)
    · exact trial_no (.inl ⟨by rw [e]; decide, by rw [e]; decide⟩)
  exact boot_proved hf.rec_ rfl hs (tno 0 (by decide)) (tno 1 (by decide)) h4 (whole_same h hk hf.stored hf.big.n70 hs rfl) (proved_no (.inl (by rw [h1]; decide)))
theorem one_well_power {m : Img} {key : Int} {s : Nat} (hs : s ≤ 1) {f : Flash} (hf : OneOk m key s f) (l : Int) (t : Nat) (ht : t ≤ 1) : wellF (powerF f l) t = (powerF f l, if t = s then 0 else 1) := by
  obtain ⟨h4, h1⟩ := recP_st s m.ver hs
  by_cases e : t = s
  · subst e
    rw [well_4 (f := powerF f l) hf.rec_ rfl h4, if_pos rfl]
  · have : t = 1 - s := by omega
    subst this
    rw [well_no (f := powerF f l) hf.rec_ rfl (by rw [h1]; decide) (by rw [h1]; decide), if_neg e]
theorem small_good {m : Img} (hs : (decide (0 ≤ m.ver) && decide (m.ver < 2147483648) && decide (1 ≤ (m.body.length : Int)) && decide ((m.body.length : Int) ≤ 300)) = true) (hb : ∀ x ∈ m.body, byte x) : m.good ∧ m.body.length ≤ 300 := by
  simp only [Bool.and_eq_true, decide_eq_true_eq] at hs
  exact ⟨⟨by omega, by omega, by omega, hb⟩, by omega⟩
theorem may_u32 {k : Int} (h : 0 ≤ k ∧ k ≤ 4294967295) : mayS k = true := by
  unfold mayS
  simp only [Bool.and_eq_true, decide_eq_true_eq]
  exact h
end Go.Proofs.YtoifmpiikopelaaDoorFw

/-
  Walks: head27.
-/
namespace Go.Proofs.YtoifmpiikopelaaDoorFw
open Go Go.Proofs
set_option maxRecDepth 100000
set_option maxHeartbeats 4000000
set_option linter.unusedVariables false
set_option linter.unusedSimpArgs false

theorem sameF_refl (f : Flash) : sameF f f = true := by simp [sameF]
theorem img_good (v : Int) (b : List Int) (hv : 0 ≤ v ∧ v < 2147483648) (h1 : 1 ≤ b.length) (h2 : b.length ≤ 2048) (hb : ∀ x ∈ b, byte x) : (Img.mk v b).good := ⟨hv, h1, h2, hb⟩
theorem same_self {f : Flash} (h : f.big) : FnS Tryd.prog 18 [.agg (encFlash f), .agg (encFlash f)] [] (.bool true) [] := by
  have := same_ok f f h.fine.bytes h.fine.bytes (by rw [h.n70]; decide) (by rw [h.wl]; decide)
  rwa [sameF_refl] at this
def m27 : Img := ⟨4, [7]⟩
theorem m27_good : m27.good := img_good 4 [7] (by decide) (by decide) (by decide) (by intro x hx; simp at hx; subst hx; exact ⟨by decide, by decide⟩)
theorem head27_ok : FnS Tryd.prog 12 [] [] (.bool true) [] := by
  obtain ⟨a1, a2, a3, a4, a5⟩ := one_is m27_good 9 (s := 1) (by decide)
  have hk : mayS 9 = true := rfl
  have e1 : putF (oneS m27 9 1) ⟨1, 1, 4, 0, 4, 0⟩ = (oneZ m27 9 1, 0) := Prod.ext rfl a4
  have e2 := one_boot m27_good hk (by decide) a5
  have hsv : FnS Tryd.prog 14 [.agg (encFlash (newF 70)), .int .i64 1, .agg (encImg ⟨4, [7]⟩), .int .i64 9, .bool false] [] (.tup [.agg (encFlash (oneS m27 9 1)), .bool true]) [] :=
    saved27_ok (newF 70) 1 m27 9 false 99 rfl m27_good hk (by decide) a1 fun k hk _ => a2 k hk
  have hpt := put_ok (oneS m27 9 1) ⟨1, 1, 4, 0, 4, 0⟩ a3.fine
  rw [e1] at hpt
  have hbt := bootF_ok (oneZ m27 9 1) 9 a5.big
  rw [e2] at hbt
  have hsm := same_self a5.big
  clear a1 a2 a4 e1 e2
  generalize oneZ m27 9 1 = g at *
  generalize oneS m27 9 1 = f1 at *
  have hm : encImg m27 = [.int .i64 4, .sl false 1 [[.int .u8 7]]] := rfl
  rw [hm] at hbt
  refine fn_walk tabOk Tryd.func12 rfl (by decide +kernel) Tryd.ntmps12 Tryd.results12 (by simp) fun B hB => ?_
  try refine hK _ ?_
  repeat (first | refine awp_seq ?_ | refine awp_block ?_ | refine awp_skip ?_ | refine awp_scope ?_ | refine awp_label ?_)
  refine awp_region tabOk fun K hK => ?_
  simp -dsimp -implicitDefEqProofs only [push_cast, ↓trAdd_f, ↓stOf_f, seval]
  refine hK _ ?_
  try refine hK _ ?_
  repeat (first | refine awp_seq ?_ | refine awp_block ?_ | refine awp_skip ?_ | refine awp_scope ?_ | refine awp_label ?_)
  refine awp_region tabOk fun K hK => ?_
  simp -dsimp -implicitDefEqProofs only [push_cast, ↓trAdd_f, ↓stOf_f, seval]
  refine callK_simple fresh_ok ?_ rfl fun _ => ?_
  · simp -dsimp -implicitDefEqProofs only [push_cast, List.mem_append, List.mem_cons, List.mem_singleton, forall_eq_or_imp, forall_eq, ↓trAdd_f, ↓stOf_f, seval]
  simp -dsimp -implicitDefEqProofs only [push_cast, ↓trAdd_f, ↓stOf_f, seval]
  refine callK_simple hsv ?_ rfl fun _ => ?_
  · simp -dsimp -implicitDefEqProofs only [encFlash, encImg, encB, push_cast, List.mem_append, List.mem_cons, List.mem_singleton, forall_eq_or_imp, forall_eq, ↓trAdd_f, ↓stOf_f, seval]
    done
  simp -dsimp -implicitDefEqProofs only [encFlash, push_cast, ↓trAdd_f, ↓stOf_f, seval]
  refine hK _ ?_
  try refine hK _ ?_
  repeat (first | refine awp_seq ?_ | refine awp_block ?_ | refine awp_skip ?_ | refine awp_scope ?_ | refine awp_label ?_)
  refine awp_region tabOk fun K hK => ?_
  simp -dsimp -implicitDefEqProofs only [push_cast, ↓trAdd_f, ↓stOf_f, seval]
  refine callK_simple hpt ?_ rfl fun _ => ?_
  · simp -dsimp -implicitDefEqProofs only [encFlash, encRec, push_cast, List.mem_append, List.mem_cons, List.mem_singleton, forall_eq_or_imp, forall_eq, ↓trAdd_f, ↓stOf_f, seval]
  simp -dsimp -implicitDefEqProofs only [encFlash, push_cast, ↓trAdd_f, ↓stOf_f, seval]
  refine hK _ ?_
  try refine hK _ ?_
  repeat (first | refine awp_seq ?_ | refine awp_block ?_ | refine awp_skip ?_ | refine awp_scope ?_ | refine awp_label ?_)
  refine awp_region tabOk fun K hK => ?_
  simp -dsimp -implicitDefEqProofs only [push_cast, ↓trAdd_f, ↓stOf_f, seval]
  refine callK_simple hbt ?_ rfl fun _ => ?_
  · simp -dsimp -implicitDefEqProofs only [encFlash, push_cast, List.mem_append, List.mem_cons, List.mem_singleton, forall_eq_or_imp, forall_eq, ↓trAdd_f, ↓stOf_f, seval]
  simp -dsimp -implicitDefEqProofs only [encFlash, push_cast, ↓trAdd_f, ↓stOf_f, seval]
  refine hK _ ?_
  try refine hK _ ?_
  repeat (first | refine awp_seq ?_ | refine awp_block ?_ | refine awp_skip ?_ | refine awp_scope ?_ | refine awp_label ?_)
  refine awp_region tabOk fun K hK => ?_
  simp -dsimp -implicitDefEqProofs only [push_cast, ↓trAdd_f, ↓stOf_f, seval]
  refine callK_simple hsm ?_ rfl fun _ => ?_
  · simp -dsimp -implicitDefEqProofs only [encFlash, push_cast, List.mem_append, List.mem_cons, List.mem_singleton, forall_eq_or_imp, forall_eq, ↓trAdd_f, ↓stOf_f, seval]
  simp -dsimp -implicitDefEqProofs only [push_cast, ↓trAdd_f, ↓stOf_f, seval]
  refine hK _ (awp_ret ?_)
  simp -dsimp -implicitDefEqProofs only [push_cast, List.mem_append, List.mem_cons, List.mem_singleton, forall_eq_or_imp, forall_eq, ↓trAdd_f, ↓stOf_f, seval]
end Go.Proofs.YtoifmpiikopelaaDoorFw

/-
  The law TopForever: an image that is proved alone begins for ever.
-/
namespace Go.Proofs.YtoifmpiikopelaaDoorFw
open Go Go.Proofs
set_option maxRecDepth 100000
set_option maxHeartbeats 4000000
set_option linter.unusedVariables false
set_option linter.unusedSimpArgs false

attribute [push_cast] encFlash encImg encRec
theorem wellS_ok (f : Flash) (s : Nat) (hf : f.big) (hs : s ≤ 1) : FnS Tryd.prog 23 [.agg (encFlash f), .int .i64 s] [] (.tup [.agg (encFlash (wellF f s).1), .int .i64 (wellF f s).2]) [] := by
  have hs' : s = 0 ∨ s = 1 := by omega
  rcases hs' with rfl | rfl
  · exact well0_ok f hf
  · exact well1_ok f hf
theorem u32_i64 {k : Int} (h : 0 ≤ k ∧ k ≤ 4294967295) : IntKind.i64.wrap k = k := wrap_i64 (by omega) (by omega)
theorem byte_i64 {k : Int} (h : byte k) : IntKind.i64.wrap k = k := by unfold byte at h; exact wrap_i64 (by omega) (by omega)
theorem tmod_nat {c : Int} (h : byte c) (n : Nat) (hn : 1 ≤ n) (hn2 : n ≤ 1000) : -1 ≤ c.tmod n ∧ c.tmod n ≤ 9223372036854775807 ∧ IntKind.i64.wrap (c.tmod n) = c.tmod n := by
  obtain ⟨k, h1, h2⟩ := u8_mod h hn
  rw [h1]
  exact ⟨by omega, by omega, wrap_i64 (by omega) (by omega)⟩
theorem power_self {f : Flash} (hd : f.down = false) (hl : f.left = -1) : powerF f (-1) = f := by
  obtain ⟨p, w, l, d⟩ := f
  simp only at hd hl
  subst hd hl
  rfl
def fvS (m : Img) (key : Int) (cuts : List Int) (s : Nat) (Z : Flash) (i : Nat) : AS := { sl := [(1, .int .u32 key), (3, .sl false 1 (cuts.map encB)), (4, .ptr 100 0), (9, .bool true), (10, .int .i64 s), (12, .ptr 101 0), (15, .ptr 102 0), (16, .int .i64 i)], st := [(100, .box (encImg m)), (101, .box (encFlash Z)), (102, .box (encFlash Z))], nx := 2000, n := 143 }
theorem lawTopForever (m : Img) (key : Int) (at_ : Bool) (cuts : List Int) (hmb : ∀ x ∈ m.body, byte x) (hk : 0 ≤ key ∧ key ≤ 4294967295) (hcl : cuts.length ≤ 140737488351232) (hcb : ∀ x ∈ cuts, byte x) :
    FnS Tryd.prog 5 [.agg (encImg m), .int .u32 key, .bool at_, .sl false 1 (cuts.map encB)] [] (.bool true) [] := by
  have hkw := u32_i64 hk
  have hmay := may_u32 hk
  refine fn_walk tabOk Tryd.func5 rfl (by decide +kernel) Tryd.ntmps5 Tryd.results5 (by simp) fun B hB => ?_
  try refine hK _ ?_
  repeat (first | refine awp_seq ?_ | refine awp_block ?_ | refine awp_skip ?_ | refine awp_scope ?_ | refine awp_label ?_)
  refine awp_region tabOk fun K hK => ?_
  simp -dsimp -implicitDefEqProofs only [encImg, push_cast, ↓trAdd_f, ↓stOf_f, seval]
  refine hK _ ?_
  try refine hK _ ?_
  repeat (first | refine awp_seq ?_ | refine awp_block ?_ | refine awp_skip ?_ | refine awp_scope ?_ | refine awp_label ?_)
  refine awp_region tabOk fun K hK => ?_
  simp -dsimp -implicitDefEqProofs only [push_cast, ↓trAdd_f, ↓stOf_f, seval]
  refine callK_simple head27_ok ?_ rfl fun _ => ?_
  · simp -dsimp -implicitDefEqProofs only [push_cast, List.mem_append, List.mem_cons, List.mem_singleton, forall_eq_or_imp, forall_eq, ↓trAdd_f, ↓stOf_f, seval]
  simp -dsimp -implicitDefEqProofs only [push_cast, ↓trAdd_f, ↓stOf_f, seval]
  refine hK _ ?_
  try refine hK _ ?_
  repeat (first | refine awp_seq ?_ | refine awp_block ?_ | refine awp_skip ?_ | refine awp_scope ?_ | refine awp_label ?_)
  refine awp_region tabOk fun K hK => ?_
  simp -dsimp -implicitDefEqProofs only [push_cast, ↓trAdd_f, ↓stOf_f, seval]
  refine callK_simple (small27_ok m) ?_ rfl fun _ => ?_
  · simp -dsimp -implicitDefEqProofs only [encImg, push_cast, List.mem_append, List.mem_cons, List.mem_singleton, forall_eq_or_imp, forall_eq, ↓trAdd_f, ↓stOf_f, seval]
  cases hA : smallB m with
  | false =>
    simp -dsimp -implicitDefEqProofs only [push_cast, ↓trAdd_f, ↓stOf_f, seval]
    refine hK _ ?_
    try refine hK _ ?_
    repeat (first | refine awp_seq ?_ | refine awp_block ?_ | refine awp_skip ?_ | refine awp_scope ?_ | refine awp_label ?_)
    refine awp_cond (b := true) (by simp -dsimp -implicitDefEqProofs only [push_cast, ↓trAdd_f, ↓stOf_f, seval]) (fun h => ?_) (fun h => ?_)
    rotate_left
    · cases h
    try refine hK _ ?_
    repeat (first | refine awp_seq ?_ | refine awp_block ?_ | refine awp_skip ?_ | refine awp_scope ?_ | refine awp_label ?_)
    refine awp_region tabOk fun K hK => ?_
    simp -dsimp -implicitDefEqProofs only [push_cast, ↓trAdd_f, ↓stOf_f, seval]
    refine hK _ (awp_ret ?_)
    simp -dsimp -implicitDefEqProofs only [push_cast, List.mem_append, List.mem_cons, List.mem_singleton, forall_eq_or_imp, forall_eq, ↓trAdd_f, ↓stOf_f, seval]
  | true =>
  obtain ⟨hg, h300⟩ := small_good hA hmb
  cases hQ : decide (20 < (cuts.length : Int)) with
  | true =>
    simp -dsimp -implicitDefEqProofs only [hQ, push_cast, ↓trAdd_f, ↓stOf_f, seval]
    refine hK _ ?_
    try refine hK _ ?_
    repeat (first | refine awp_seq ?_ | refine awp_block ?_ | refine awp_skip ?_ | refine awp_scope ?_ | refine awp_label ?_)
    refine awp_cond (b := true) (by simp -dsimp -implicitDefEqProofs only [push_cast, ↓trAdd_f, ↓stOf_f, seval]) (fun h => ?_) (fun h => ?_)
    rotate_left
    · cases h
    try refine hK _ ?_
    repeat (first | refine awp_seq ?_ | refine awp_block ?_ | refine awp_skip ?_ | refine awp_scope ?_ | refine awp_label ?_)
    refine awp_region tabOk fun K hK => ?_
    simp -dsimp -implicitDefEqProofs only [push_cast, ↓trAdd_f, ↓stOf_f, seval]
    refine hK _ (awp_ret ?_)
    simp -dsimp -implicitDefEqProofs only [push_cast, List.mem_append, List.mem_cons, List.mem_singleton, forall_eq_or_imp, forall_eq, ↓trAdd_f, ↓stOf_f, seval]
  | false =>
  have hc20 := of_decide_eq_false hQ
  simp -dsimp -implicitDefEqProofs only [hQ, push_cast, ↓trAdd_f, ↓stOf_f, seval]
  refine hK _ ?_
  try refine hK _ ?_
  repeat (first | refine awp_seq ?_ | refine awp_block ?_ | refine awp_skip ?_ | refine awp_scope ?_ | refine awp_label ?_)
  refine awp_cond (b := false) (by simp -dsimp -implicitDefEqProofs only [push_cast, ↓trAdd_f, ↓stOf_f, seval]) (fun h => ?_) (fun h => ?_)
  · cases h
  refine awp_skip ?_
  try refine hK _ ?_
  repeat (first | refine awp_seq ?_ | refine awp_block ?_ | refine awp_skip ?_ | refine awp_scope ?_ | refine awp_label ?_)
  refine awp_region tabOk fun K hK => ?_
  simp -dsimp -implicitDefEqProofs only [push_cast, ↓trAdd_f, ↓stOf_f, seval]
  refine hK _ (awp_seq ?_)
  obtain ⟨s, hs1, hsb⟩ : ∃ s : Nat, s ≤ 1 ∧ s = if at_ = true then 1 else 0 := ⟨_, by split <;> decide, rfl⟩
  refine awp_join { sl := [(1, .int .u32 key), (3, .sl false 1 (cuts.map encB)), (4, .ptr 100 0), (9, .bool true), (10, .int .i64 s)], st := [(100, .box (encImg m))], nx := 600, n := 143 } ?_ (fun _ hl h => awp_le hl h) ?_
  · try refine hK _ ?_
    repeat (first | refine awp_seq ?_ | refine awp_block ?_ | refine awp_skip ?_ | refine awp_scope ?_ | refine awp_label ?_)
    refine awp_region tabOk fun K hK => ?_
    simp -dsimp -implicitDefEqProofs only [push_cast, ↓trAdd_f, ↓stOf_f, seval]
    try refine hK _ ?_
    repeat (first | refine awp_seq ?_ | refine awp_block ?_ | refine awp_skip ?_ | refine awp_scope ?_ | refine awp_label ?_)
    refine awp_cond (b := at_) (by simp -dsimp -implicitDefEqProofs only [push_cast, ↓trAdd_f, ↓stOf_f, seval]) (fun h => ?_) (fun h => ?_)
    · try refine hK _ ?_
      repeat (first | refine awp_seq ?_ | refine awp_block ?_ | refine awp_skip ?_ | refine awp_scope ?_ | refine awp_label ?_)
      refine awp_region tabOk fun K hK => ?_
      simp -dsimp -implicitDefEqProofs only [push_cast, ↓trAdd_f, ↓stOf_f, seval]
      refine hK _ ?_
      have e : s = 1 := by rw [hsb, h]; rfl
      subst e
      refine le_intro hB [(100, 0)] (by simp) (fun b hb => absurd hb (Nat.not_lt_zero b)) rfl ?_ ?_ rfl <;> simp -dsimp -implicitDefEqProofs only [encImg, push_cast, ↓trAdd_f, ↓stOf_f, seval]
    · have e : s = 0 := by rw [hsb, h]; rfl
      subst e
      refine awp_skip ?_
      refine le_intro hB [(100, 0)] (by simp) (fun b hb => absurd hb (Nat.not_lt_zero b)) rfl ?_ ?_ rfl <;> simp -dsimp -implicitDefEqProofs only [encImg, push_cast, ↓trAdd_f, ↓stOf_f, seval]
  try refine hK _ ?_
  repeat (first | refine awp_seq ?_ | refine awp_block ?_ | refine awp_skip ?_ | refine awp_scope ?_ | refine awp_label ?_)
  refine awp_region tabOk fun K hK => ?_
  simp -dsimp -implicitDefEqProofs only [push_cast, ↓trAdd_f, ↓stOf_f, seval]
  have hver := hg.ver
  refine hK _ (awp_seq ?_)
  refine awp_join { sl := [(1, .int .u32 key), (3, .sl false 1 (cuts.map encB)), (4, .ptr 100 0), (9, .bool true), (10, .int .i64 s), (11, .ptr 101 0)], st := [(100, .box (encImg m)), (101, .box (encRec (recP s 0)))], nx := 700, n := 143 } ?_ (fun _ hl h => awp_le hl h) ?_
  · have hs' : s = 0 ∨ s = 1 := by omega
    rcases hs' with rfl | rfl
    · try refine hK _ ?_
      repeat (first | refine awp_seq ?_ | refine awp_block ?_ | refine awp_skip ?_ | refine awp_scope ?_ | refine awp_label ?_)
      refine awp_region tabOk fun K hK => ?_
      simp -dsimp -implicitDefEqProofs only [encRec, push_cast, ↓trAdd_f, ↓stOf_f, seval]
      refine hK _ ?_
      refine le_intro hB [(100, 100), (101, 616)] (by simp) (fun b hb => absurd hb (Nat.not_lt_zero b)) rfl ?_ ?_ rfl <;> simp -dsimp -implicitDefEqProofs only [encImg, encRec, recP, push_cast, ↓trAdd_f, ↓stOf_f, seval]
    · try refine hK _ ?_
      repeat (first | refine awp_seq ?_ | refine awp_block ?_ | refine awp_skip ?_ | refine awp_scope ?_ | refine awp_label ?_)
      refine awp_region tabOk fun K hK => ?_
      simp -dsimp -implicitDefEqProofs only [encRec, push_cast, ↓trAdd_f, ↓stOf_f, seval]
      refine hK _ ?_
      refine le_intro hB [(100, 100), (101, 616)] (by simp) (fun b hb => absurd hb (Nat.not_lt_zero b)) rfl ?_ ?_ rfl <;> simp -dsimp -implicitDefEqProofs only [encImg, encRec, recP, push_cast, ↓trAdd_f, ↓stOf_f, seval]
  refine awp_seq ?_
  refine awp_join { sl := [(1, .int .u32 key), (3, .sl false 1 (cuts.map encB)), (4, .ptr 100 0), (9, .bool true), (10, .int .i64 s), (11, .ptr 101 0)], st := [(100, .box (encImg m)), (101, .box (encRec (recP s m.ver)))], nx := 800, n := 143 } ?_ (fun _ hl h => awp_le hl h) ?_
  · have hs' : s = 0 ∨ s = 1 := by omega
    rcases hs' with rfl | rfl
    · try refine hK _ ?_
      repeat (first | refine awp_seq ?_ | refine awp_block ?_ | refine awp_skip ?_ | refine awp_scope ?_ | refine awp_label ?_)
      refine awp_region tabOk fun K hK => ?_
      simp -dsimp -implicitDefEqProofs only [encRec, encImg, recP, push_cast, ↓trAdd_f, ↓stOf_f, seval]
      refine hK _ ?_
      refine le_intro hB [(100, 100), (101, 101)] (by simp) (fun b hb => absurd hb (Nat.not_lt_zero b)) rfl ?_ ?_ rfl <;> simp -dsimp -implicitDefEqProofs only [encImg, encRec, recP, push_cast, ↓trAdd_f, ↓stOf_f, seval]
    · try refine hK _ ?_
      repeat (first | refine awp_seq ?_ | refine awp_block ?_ | refine awp_skip ?_ | refine awp_scope ?_ | refine awp_label ?_)
      refine awp_region tabOk fun K hK => ?_
      simp -dsimp -implicitDefEqProofs only [encRec, encImg, recP, push_cast, ↓trAdd_f, ↓stOf_f, seval]
      refine hK _ ?_
      refine le_intro hB [(100, 100), (101, 101)] (by simp) (fun b hb => absurd hb (Nat.not_lt_zero b)) rfl ?_ ?_ rfl <;> simp -dsimp -implicitDefEqProofs only [encImg, encRec, recP, push_cast, ↓trAdd_f, ↓stOf_f, seval]
  obtain ⟨a1, a2, a3, a4, a5⟩ := one_is hg key hs1
  have e1 : putF (oneS m key s) (recP s m.ver) = (oneZ m key s, 0) := Prod.ext rfl a4
  have hsv : FnS Tryd.prog 14 [.agg (encFlash (newF 70)), .int .i64 s, .agg (encImg m), .int .i64 key, .bool false] [] (.tup [.agg (encFlash (oneS m key s)), .bool true]) [] :=
    saved27_ok (newF 70) s m key false 99 rfl hg hmay hs1 a1 fun k hk _ => a2 k hk
  have hpt := put_ok (oneS m key s) (recP s m.ver) a3.fine
  rw [e1] at hpt
  have hZ := power_self a5.down a5.left
  have hbP := fun l => one_boot_power hg hmay hs1 a5 l
  have hwP := fun l t => one_well_power hs1 a5 l t
  have hzb := a5.big
  clear a1 a2 a4 e1 a3 a5
  generalize oneZ m key s = Z at *
  generalize oneS m key s = Y at *
  try refine hK _ ?_
  repeat (first | refine awp_seq ?_ | refine awp_block ?_ | refine awp_skip ?_ | refine awp_scope ?_ | refine awp_label ?_)
  refine awp_draw tabOk (by kernel_rfl) (by kernel_rfl) fun K hK C hC => ?_
  simp -dsimp -implicitDefEqProofs only [encImg, hkw, push_cast, ↓trAdd_f, ↓stOf_f, seval]
  refine callK_simple fresh_ok ?_ rfl fun _ => ?_
  · simp -dsimp -implicitDefEqProofs only [push_cast, List.mem_append, List.mem_cons, List.mem_singleton, forall_eq_or_imp, forall_eq, ↓trAdd_f, ↓stOf_f, seval]
  simp -dsimp -implicitDefEqProofs only [encFlash, hkw, push_cast, ↓trAdd_f, ↓stOf_f, seval]
  refine callK_simple hsv ?_ rfl fun _ => ?_
  · simp -dsimp -implicitDefEqProofs only [encFlash, encImg, push_cast, List.mem_append, List.mem_cons, List.mem_singleton, forall_eq_or_imp, forall_eq, ↓trAdd_f, ↓stOf_f, seval]
  simp -dsimp -implicitDefEqProofs only [encFlash, push_cast, ↓trAdd_f, ↓stOf_f, seval]
  refine ⟨hC _ (by kernel_rfl), hK _ ?_⟩
  try refine hK _ ?_
  repeat (first | refine awp_seq ?_ | refine awp_block ?_ | refine awp_skip ?_ | refine awp_scope ?_ | refine awp_label ?_)
  refine awp_region tabOk fun K hK => ?_
  simp -dsimp -implicitDefEqProofs only [encFlash, encRec, push_cast, ↓trAdd_f, ↓stOf_f, seval]
  refine callK_simple hpt ?_ rfl fun _ => ?_
  · simp -dsimp -implicitDefEqProofs only [encFlash, encRec, push_cast, List.mem_append, List.mem_cons, List.mem_singleton, forall_eq_or_imp, forall_eq, ↓trAdd_f, ↓stOf_f, seval]
  simp -dsimp -implicitDefEqProofs only [encFlash, push_cast, ↓trAdd_f, ↓stOf_f, seval]
  refine hK _ ?_
  try refine hK _ ?_
  repeat (first | refine awp_seq ?_ | refine awp_block ?_ | refine awp_skip ?_ | refine awp_scope ?_ | refine awp_label ?_)
  refine awp_region tabOk fun K hK => ?_
  simp -dsimp -implicitDefEqProofs only [push_cast, ↓trAdd_f, ↓stOf_f, seval]
  refine hK _ ?_
  try refine hK _ ?_
  repeat (first | refine awp_seq ?_ | refine awp_block ?_ | refine awp_skip ?_ | refine awp_scope ?_ | refine awp_label ?_)
  refine awp_cond (b := false) (by simp -dsimp -implicitDefEqProofs only [push_cast, ↓trAdd_f, ↓stOf_f, seval]) (fun h => ?_) (fun h => ?_)
  · cases h
  refine awp_skip ?_
  try refine hK _ ?_
  repeat (first | refine awp_seq ?_ | refine awp_block ?_ | refine awp_skip ?_ | refine awp_scope ?_ | refine awp_label ?_)
  refine awp_region tabOk fun K hK => ?_
  simp -dsimp -implicitDefEqProofs only [push_cast, ↓trAdd_f, ↓stOf_f, seval]
  refine callK_simple (power_ok Z (-1)) ?_ rfl fun _ => ?_
  · simp -dsimp -implicitDefEqProofs only [encFlash, push_cast, List.mem_append, List.mem_cons, List.mem_singleton, forall_eq_or_imp, forall_eq, ↓trAdd_f, ↓stOf_f, seval]
  rw [hZ]
  simp -dsimp -implicitDefEqProofs only [encFlash, push_cast, ↓trAdd_f, ↓stOf_f, seval]
  refine hK _ ?_
  try refine hK _ ?_
  repeat (first | refine awp_seq ?_ | refine awp_block ?_ | refine awp_skip ?_ | refine awp_scope ?_ | refine awp_label ?_)
  refine awp_region tabOk fun K hK => ?_
  simp -dsimp -implicitDefEqProofs only [push_cast, ↓trAdd_f, ↓stOf_f, seval]
  refine hK _ (awp_block ?_)
  have hsm := same_self hzb
  have hc20' : cuts.length ≤ 20 := by omega
  refine awp_for (fun i : Nat => fvS m key cuts s Z i) (fun i => i ≤ cuts.length) (fun i => cuts.length - i) 0 (Nat.zero_le _) ?_ fun i hi => ?_
  · simp only [fvS]
    refine le_intro hB [(100, 100), (101, 872), (102, 1024)] (by simp) (fun b hb => absurd hb (Nat.not_lt_zero b)) rfl ?_ ?_ rfl <;> simp -dsimp -implicitDefEqProofs only [encFlash, encImg, push_cast, ↓trAdd_f, ↓stOf_f, seval]
  simp only [fvS]
  by_cases hlt : i < cuts.length
  · have d : decide ((i : Int) < (cuts.length : Int)) = true := by simpa using hlt
    have w : IntKind.i64.wrap ((i : Int) + 1) = (i : Int) + 1 := wrap_i64 (by omega) (by omega)
    try refine hK _ ?_
    repeat (first | refine awp_seq ?_ | refine awp_block ?_ | refine awp_skip ?_ | refine awp_scope ?_ | refine awp_label ?_)
    refine awp_region tabOk fun K hK => ?_
    simp -dsimp -implicitDefEqProofs only [d, push_cast, ↓trAdd_f, ↓stOf_f, seval]
    try refine hK _ ?_
    repeat (first | refine awp_seq ?_ | refine awp_block ?_ | refine awp_skip ?_ | refine awp_scope ?_ | refine awp_label ?_)
    refine awp_cond (b := true) (by simp -dsimp -implicitDefEqProofs only [push_cast, ↓trAdd_f, ↓stOf_f, seval]) (fun h => ?_) (fun h => ?_)
    rotate_left
    · cases h
    refine awp_skip ?_
    have hcb1 := hcb _ (List.getElem_mem hlt)
    have hcw := byte_i64 hcb1
    try refine hK _ ?_
    repeat (first | refine awp_seq ?_ | refine awp_block ?_ | refine awp_skip ?_ | refine awp_scope ?_ | refine awp_label ?_)
    refine awp_region tabOk fun K hK => ?_
    simp -dsimp -implicitDefEqProofs only [hlt, getD_map, encB, hcw, push_cast, ↓trAdd_f, ↓stOf_f, seval]
    refine ⟨⟨by omega, by omega⟩, hK _ ?_⟩
    obtain ⟨t1, t2, t3⟩ := tmod_nat hcb1 40 (by decide) (by decide)
    have h40 : ((40 : Nat) : Int) = 40 := rfl
    rw [h40] at t1 t2 t3
    have hc0 := hcb1.1
    generalize cuts[i] = c at *
    generalize hl : c.tmod 40 = l at *
    try refine hK _ ?_
    repeat (first | refine awp_seq ?_ | refine awp_block ?_ | refine awp_skip ?_ | refine awp_scope ?_ | refine awp_label ?_)
    refine awp_region tabOk fun K hK => ?_
    simp -dsimp -implicitDefEqProofs only [hl, t3, push_cast, ↓trAdd_f, ↓stOf_f, seval]
    refine callK_simple (power_ok Z l) ?_ rfl fun _ => ?_
    · simp -dsimp -implicitDefEqProofs only [encFlash, push_cast, List.mem_append, List.mem_cons, List.mem_singleton, forall_eq_or_imp, forall_eq, ↓trAdd_f, ↓stOf_f, seval]
    simp -dsimp -implicitDefEqProofs only [encFlash, push_cast, ↓trAdd_f, ↓stOf_f, seval]
    have hPb : (powerF Z l).big := power_big hzb l t1 t2
    have hPP : powerF (powerF Z l) (-1) = Z := hZ
    have hbl := hbP l t1 t2
    have hwl := hwP l
    have hbo := bootF_ok (powerF Z l) key hPb
    rw [hbl] at hbo
    have hpw := power_ok (powerF Z l) (-1)
    rw [hPP] at hpw
    have hwo := fun t (ht : t ≤ 1) => wellS_ok (powerF Z l) t hPb ht
    generalize powerF Z l = P at *
    refine hK _ (awp_seq ?_)
    refine awp_join { sl := [(1, .int .u32 key), (3, .sl false 1 (cuts.map encB)), (4, .ptr 100 0), (9, .bool true), (10, .int .i64 s), (12, .ptr 101 0), (15, .ptr 102 0), (16, .int .i64 i), (18, .ptr 103 0)], st := [(100, .box (encImg m)), (101, .box (encFlash Z)), (102, .box (encFlash Z)), (103, .box (encFlash P))], nx := 4000, n := 143 } ?_ (fun _ hl h => awp_le hl h) ?_
    · cases hE : (band c 1 == 0) with
      | true =>
        try refine hK _ ?_
        repeat (first | refine awp_seq ?_ | refine awp_block ?_ | refine awp_skip ?_ | refine awp_scope ?_ | refine awp_label ?_)
        refine awp_region tabOk fun K hK => ?_
        simp -dsimp -implicitDefEqProofs only [hE, push_cast, ↓trAdd_f, ↓stOf_f, seval]
        refine hK _ ?_
        try refine hK _ ?_
        repeat (first | refine awp_seq ?_ | refine awp_block ?_ | refine awp_skip ?_ | refine awp_scope ?_ | refine awp_label ?_)
        refine awp_cond (b := true) (by simp -dsimp -implicitDefEqProofs only [push_cast, ↓trAdd_f, ↓stOf_f, seval]) (fun h => ?_) (fun h => ?_)
        rotate_left
        · cases h
        try refine hK _ ?_
        repeat (first | refine awp_seq ?_ | refine awp_block ?_ | refine awp_skip ?_ | refine awp_scope ?_ | refine awp_label ?_)
        refine awp_region tabOk fun K hK => ?_
        simp -dsimp -implicitDefEqProofs only [hkw, push_cast, ↓trAdd_f, ↓stOf_f, seval]
        refine callK_simple hbo ?_ rfl fun _ => ?_
        · simp -dsimp -implicitDefEqProofs only [push_cast, List.mem_append, List.mem_cons, List.mem_singleton, forall_eq_or_imp, forall_eq, ↓trAdd_f, ↓stOf_f, seval]
        simp -dsimp -implicitDefEqProofs only [push_cast, ↓trAdd_f, ↓stOf_f, seval]
        refine hK _ ?_
        have hss : ((s : Int) != s) = false := by simp
        have hvv : (m.ver != m.ver) = false := by simp
        try refine hK _ ?_
        repeat (first | refine awp_seq ?_ | refine awp_block ?_ | refine awp_skip ?_ | refine awp_scope ?_ | refine awp_label ?_)
        refine awp_region tabOk fun K hK => ?_
        simp -dsimp -implicitDefEqProofs only [hss, hvv, push_cast, ↓trAdd_f, ↓stOf_f, seval]
        refine callK_simple (sameBytes_ok false false m.body m.body hmb hmb) ?_ rfl fun _ => ?_
        · simp -dsimp -implicitDefEqProofs only [push_cast, List.mem_append, List.mem_cons, List.mem_singleton, forall_eq_or_imp, forall_eq, ↓trAdd_f, ↓stOf_f, seval]
        have hbb : decide (m.body = m.body) = true := by simp
        rw [hbb]
        simp -dsimp -implicitDefEqProofs only [push_cast, ↓trAdd_f, ↓stOf_f, seval]
        refine hK _ ?_
        try refine hK _ ?_
        repeat (first | refine awp_seq ?_ | refine awp_block ?_ | refine awp_skip ?_ | refine awp_scope ?_ | refine awp_label ?_)
        refine awp_cond (b := false) (by simp -dsimp -implicitDefEqProofs only [push_cast, ↓trAdd_f, ↓stOf_f, seval]) (fun h => ?_) (fun h => ?_)
        · cases h
        refine awp_skip ?_
        try refine hK _ ?_
        repeat (first | refine awp_seq ?_ | refine awp_block ?_ | refine awp_skip ?_ | refine awp_scope ?_ | refine awp_label ?_)
        refine awp_region tabOk fun K hK => ?_
        simp -dsimp -implicitDefEqProofs only [push_cast, ↓trAdd_f, ↓stOf_f, seval]
        refine hK _ ?_
        refine le_intro hB [(100, 100), (101, 101), (102, 102), (103, 2112)] (by simp) (fun b hb => absurd hb (Nat.not_lt_zero b)) rfl ?_ ?_ rfl <;> simp -dsimp -implicitDefEqProofs only [encFlash, encImg, push_cast, ↓trAdd_f, ↓stOf_f, seval]
      | false =>
        try refine hK _ ?_
        repeat (first | refine awp_seq ?_ | refine awp_block ?_ | refine awp_skip ?_ | refine awp_scope ?_ | refine awp_label ?_)
        refine awp_region tabOk fun K hK => ?_
        simp -dsimp -implicitDefEqProofs only [hE, push_cast, ↓trAdd_f, ↓stOf_f, seval]
        refine hK _ ?_
        try refine hK _ ?_
        repeat (first | refine awp_seq ?_ | refine awp_block ?_ | refine awp_skip ?_ | refine awp_scope ?_ | refine awp_label ?_)
        refine awp_cond (b := false) (by simp -dsimp -implicitDefEqProofs only [push_cast, ↓trAdd_f, ↓stOf_f, seval]) (fun h => ?_) (fun h => ?_)
        · cases h
        have hE1 : c % 2 = 1 := by
          have := hcb1.2
          rw [band1 hc0 (by omega)] at hE
          simp at hE
          omega
        obtain ⟨t, ht1, ht⟩ : ∃ t : Nat, t ≤ 1 ∧ band (c.fdiv 2) 1 = (t : Int) := by
          have := hcb1.2
          refine ⟨(c / 2 % 2).toNat, by omega, ?_⟩
          rw [Int.fdiv_eq_ediv_of_nonneg _ (by decide : (0 : Int) ≤ 2), band1 (by omega) (by omega)]
          omega
        have p1 : (2 : Int) ^ min 1 IntKind.i64.bits = 2 := by decide
        have hwt := hwo t ht1
        rw [hwl t ht1] at hwt
        try refine hK _ ?_
        repeat (first | refine awp_seq ?_ | refine awp_block ?_ | refine awp_skip ?_ | refine awp_scope ?_ | refine awp_label ?_)
        refine awp_region tabOk fun K hK => ?_
        simp -dsimp -implicitDefEqProofs only [p1, ht, push_cast, ↓trAdd_f, ↓stOf_f, seval]
        refine callK_simple hwt ?_ rfl fun _ => ?_
        · simp -dsimp -implicitDefEqProofs only [push_cast, List.mem_append, List.mem_cons, List.mem_singleton, forall_eq_or_imp, forall_eq, ↓trAdd_f, ↓stOf_f, seval]
        simp -dsimp -implicitDefEqProofs only [push_cast, ↓trAdd_f, ↓stOf_f, seval]
        refine hK _ ?_
        cases hts : decide (t = s) with
        | true =>
          have e1 : (if t = s then (0 : Int) else 1) = 0 := if_pos (of_decide_eq_true hts)
          have e2 : ((t : Int) == (s : Int)) = true := by have := of_decide_eq_true hts; subst this; simp
          rw [e1]
          try refine hK _ ?_
          repeat (first | refine awp_seq ?_ | refine awp_block ?_ | refine awp_skip ?_ | refine awp_scope ?_ | refine awp_label ?_)
          refine awp_region tabOk fun K hK => ?_
          simp -dsimp -implicitDefEqProofs only [p1, ht, e2, push_cast, ↓trAdd_f, ↓stOf_f, seval]
          refine hK _ ?_
          try refine hK _ ?_
          repeat (first | refine awp_seq ?_ | refine awp_block ?_ | refine awp_skip ?_ | refine awp_scope ?_ | refine awp_label ?_)
          refine awp_cond (b := false) (by simp -dsimp -implicitDefEqProofs only [push_cast, ↓trAdd_f, ↓stOf_f, seval]) (fun h => ?_) (fun h => ?_)
          · cases h
          refine awp_skip ?_
          try refine hK _ ?_
          repeat (first | refine awp_seq ?_ | refine awp_block ?_ | refine awp_skip ?_ | refine awp_scope ?_ | refine awp_label ?_)
          refine awp_region tabOk fun K hK => ?_
          simp -dsimp -implicitDefEqProofs only [push_cast, ↓trAdd_f, ↓stOf_f, seval]
          refine hK _ ?_
          refine le_intro hB [(100, 100), (101, 101), (102, 102), (103, 2112)] (by simp) (fun b hb => absurd hb (Nat.not_lt_zero b)) rfl ?_ ?_ rfl <;> simp -dsimp -implicitDefEqProofs only [encFlash, encImg, push_cast, ↓trAdd_f, ↓stOf_f, seval]
        | false =>
          have e1 : (if t = s then (0 : Int) else 1) = 1 := if_neg (of_decide_eq_false hts)
          have e2 : ((t : Int) == (s : Int)) = false := by have := of_decide_eq_false hts; simp; omega
          rw [e1]
          try refine hK _ ?_
          repeat (first | refine awp_seq ?_ | refine awp_block ?_ | refine awp_skip ?_ | refine awp_scope ?_ | refine awp_label ?_)
          refine awp_region tabOk fun K hK => ?_
          simp -dsimp -implicitDefEqProofs only [p1, ht, e2, push_cast, ↓trAdd_f, ↓stOf_f, seval]
          refine hK _ ?_
          try refine hK _ ?_
          repeat (first | refine awp_seq ?_ | refine awp_block ?_ | refine awp_skip ?_ | refine awp_scope ?_ | refine awp_label ?_)
          refine awp_cond (b := false) (by simp -dsimp -implicitDefEqProofs only [push_cast, ↓trAdd_f, ↓stOf_f, seval]) (fun h => ?_) (fun h => ?_)
          · cases h
          refine awp_skip ?_
          try refine hK _ ?_
          repeat (first | refine awp_seq ?_ | refine awp_block ?_ | refine awp_skip ?_ | refine awp_scope ?_ | refine awp_label ?_)
          refine awp_region tabOk fun K hK => ?_
          simp -dsimp -implicitDefEqProofs only [push_cast, ↓trAdd_f, ↓stOf_f, seval]
          refine hK _ ?_
          refine le_intro hB [(100, 100), (101, 101), (102, 102), (103, 2112)] (by simp) (fun b hb => absurd hb (Nat.not_lt_zero b)) rfl ?_ ?_ rfl <;> simp -dsimp -implicitDefEqProofs only [encFlash, encImg, push_cast, ↓trAdd_f, ↓stOf_f, seval]
    try refine hK _ ?_
    repeat (first | refine awp_seq ?_ | refine awp_block ?_ | refine awp_skip ?_ | refine awp_scope ?_ | refine awp_label ?_)
    refine awp_region tabOk fun K hK => ?_
    simp -dsimp -implicitDefEqProofs only [push_cast, ↓trAdd_f, ↓stOf_f, seval]
    refine callK_simple hpw ?_ rfl fun _ => ?_
    · simp -dsimp -implicitDefEqProofs only [push_cast, List.mem_append, List.mem_cons, List.mem_singleton, forall_eq_or_imp, forall_eq, ↓trAdd_f, ↓stOf_f, seval]
    simp -dsimp -implicitDefEqProofs only [push_cast, ↓trAdd_f, ↓stOf_f, seval]
    refine hK _ ?_
    try refine hK _ ?_
    repeat (first | refine awp_seq ?_ | refine awp_block ?_ | refine awp_skip ?_ | refine awp_scope ?_ | refine awp_label ?_)
    refine awp_region tabOk fun K hK => ?_
    simp -dsimp -implicitDefEqProofs only [push_cast, ↓trAdd_f, ↓stOf_f, seval]
    refine callK_simple hsm ?_ rfl fun _ => ?_
    · simp -dsimp -implicitDefEqProofs only [push_cast, List.mem_append, List.mem_cons, List.mem_singleton, forall_eq_or_imp, forall_eq, ↓trAdd_f, ↓stOf_f, seval]
    simp -dsimp -implicitDefEqProofs only [push_cast, ↓trAdd_f, ↓stOf_f, seval]
    refine hK _ ?_
    try refine hK _ ?_
    repeat (first | refine awp_seq ?_ | refine awp_block ?_ | refine awp_skip ?_ | refine awp_scope ?_ | refine awp_label ?_)
    refine awp_cond (b := false) (by simp -dsimp -implicitDefEqProofs only [push_cast, ↓trAdd_f, ↓stOf_f, seval]) (fun h => ?_) (fun h => ?_)
    · cases h
    refine awp_skip ?_
    try refine hK _ ?_
    repeat (first | refine awp_seq ?_ | refine awp_block ?_ | refine awp_skip ?_ | refine awp_scope ?_ | refine awp_label ?_)
    refine awp_region tabOk fun K hK => ?_
    simp -dsimp -implicitDefEqProofs only [w, push_cast, ↓trAdd_f, ↓stOf_f, seval]
    refine hK _ ⟨i + 1, hlt, by omega, ?_⟩
    refine le_intro hB [(100, 100), (101, 101), (102, 102)] (by simp) (fun b hb => absurd hb (Nat.not_lt_zero b)) rfl ?_ ?_ rfl <;> simp -dsimp -implicitDefEqProofs only [encFlash, encImg, push_cast, ↓trAdd_f, ↓stOf_f, seval]
  · have hie : i = cuts.length := by omega
    subst hie
    have d : decide ((cuts.length : Int) < (cuts.length : Int)) = false := by simp
    try refine hK _ ?_
    repeat (first | refine awp_seq ?_ | refine awp_block ?_ | refine awp_skip ?_ | refine awp_scope ?_ | refine awp_label ?_)
    refine awp_region tabOk fun K hK => ?_
    simp -dsimp -implicitDefEqProofs only [d, push_cast, ↓trAdd_f, ↓stOf_f, seval]
    try refine hK _ ?_
    repeat (first | refine awp_seq ?_ | refine awp_block ?_ | refine awp_skip ?_ | refine awp_scope ?_ | refine awp_label ?_)
    refine awp_cond (b := false) (by simp -dsimp -implicitDefEqProofs only [push_cast, ↓trAdd_f, ↓stOf_f, seval]) (fun h => ?_) (fun h => ?_)
    · cases h
    refine awp_exit rfl ?_
    try refine hK _ ?_
    repeat (first | refine awp_seq ?_ | refine awp_block ?_ | refine awp_skip ?_ | refine awp_scope ?_ | refine awp_label ?_)
    refine awp_region tabOk fun K hK => ?_
    simp -dsimp -implicitDefEqProofs only [push_cast, ↓trAdd_f, ↓stOf_f, seval]
    refine hK _ (awp_ret ?_)
    simp -dsimp -implicitDefEqProofs only [push_cast, List.mem_append, List.mem_cons, List.mem_singleton, forall_eq_or_imp, forall_eq, ↓trAdd_f, ↓stOf_f, seval]
end Go.Proofs.YtoifmpiikopelaaDoorFw

/-
  The law TopRecords: a record that is put, with any power, stands or the old one does.
-/
namespace Go.Proofs.YtoifmpiikopelaaDoorFw
open Go Go.Proofs
set_option maxRecDepth 100000
set_option maxHeartbeats 4000000
set_option linter.unusedVariables false
set_option linter.unusedSimpArgs false

def recI (q : Int) (l : Rec) : Rec := ⟨q, 1 + band l.s0 3, 1 + band l.s1 3, band l.v0 2147483647, band l.v1 2147483647, band l.tries 255⟩
theorem recI_good (q : Int) (l : Rec) (h : 0 < q ∧ q < 2147483648) : (recI q l).good := by
  have a := band_range l.s0 3 (w := 2) (by decide) (by decide)
  have b := band_range l.s1 3 (w := 2) (by decide) (by decide)
  have c := band_range l.v0 2147483647 (w := 31) (by decide) (by decide)
  have d := band_range l.v1 2147483647 (w := 31) (by decide) (by decide)
  have e := band_range l.tries 255 (w := 8) (by decide) (by decide)
  have e2 : (2 : Int) ^ 2 = 4 := by decide
  have e31 : (2 : Int) ^ 31 = 2147483648 := by decide
  have e8 : (2 : Int) ^ 8 = 256 := by decide
  rw [e2] at a b
  rw [e31] at c d
  rw [e8] at e
  exact ⟨by show 1 ≤ 1 + _ ∧ 1 + _ ≤ 4; omega, by show 1 ≤ 1 + _ ∧ 1 + _ ≤ 4; omega, c, d, h, e⟩
theorem recI_wraps (l : Rec) : IntKind.i64.wrap (1 + band l.s0 3) = 1 + band l.s0 3 ∧ IntKind.i64.wrap (1 + band l.s1 3) = 1 + band l.s1 3 := by
  have a := band_range l.s0 3 (w := 2) (by decide) (by decide)
  have b := band_range l.s1 3 (w := 2) (by decide) (by decide)
  have e2 : (2 : Int) ^ 2 = 4 := by decide
  rw [e2] at a b
  exact ⟨wrap_i64 (by omega) (by omega), wrap_i64 (by omega) (by omega)⟩
structure RecsOk (m : Img) (key : Int) (i : Nat) (f : Flash) (r : Rec) : Prop where
  big : f.big
  down : f.down = false
  rec_ : RecOk f.pages r
  stored : Stored f.pages 1 (packS m key)
  seq : r.seq ≤ i + 1
theorem recs_step {m : Img} {key : Int} {i : Nat} {f : Flash} {r r' : Rec} (h : RecsOk m key i f r) (hr : r'.good) (hs : r'.seq = r.seq + 1) (c : Int) (h1 : -1 ≤ c) (h2 : c ≤ 9223372036854775807) :
    (powerF (putF (powerF f c) r').1 (-1)).big ∧ ∃ rn, RecsOk m key (i + 1) (powerF (putF (powerF f c) r').1 (-1)) rn ∧ (((putF (powerF f c) r').2 = 0 ∧ rn = r') ∨ ((putF (powerF f c) r').2 = 250 ∧ (rn = r ∨ rn = r'))) := by
  obtain ⟨p1, p2, p3⟩ := put_step (power_big h.big c h1 h2) rfl (show RecOk (powerF f c).pages r from h.rec_) hr hs
  have hb : (powerF (putF (powerF f c) r').1 (-1)).big := power_big p1 (-1) (by decide) (by decide)
  have hst : Stored (powerF (putF (powerF f c) r').1 (-1)).pages 1 (packS m key) := h.stored.congr (p2.sub (by omega) (by omega))
  have hsq := h.seq
  refine ⟨hb, ?_⟩
  rcases p3 with ⟨a1, _, a3, _⟩ | ⟨a1, _, a3 | a3⟩
  · exact ⟨r', ⟨hb, rfl, a3, hst, by omega⟩, .inl ⟨a1, rfl⟩⟩
  · exact ⟨r, ⟨hb, rfl, a3, hst, by omega⟩, .inr ⟨a1, .inl rfl⟩⟩
  · exact ⟨r', ⟨hb, rfl, a3, hst, by omega⟩, .inr ⟨a1, .inr rfl⟩⟩
def rcsS (m : Img) (key : Int) (l : List Rec) (cuts : List Int) (x : Nat × Flash × Rec) : AS := { sl := [(1, .int .u32 key), (2, .sl false 6 (l.map encRec)), (3, .sl false 1 (cuts.map encB)), (4, .ptr 100 0), (9, .bool true), (10, .ptr 101 0), (11, .ptr 102 0), (14, .int .i64 x.1)], st := [(100, .box (encImg m)), (101, .box (encRec x.2.2)), (102, .box (encFlash x.2.1))], nx := 2000, n := 183 }
def recK (q : Int) (l : Rec) : Nat → Rec
  | 0 => ⟨q, 0, 0, 0, 0, band l.tries 255⟩
  | 1 => ⟨q, 1 + band l.s0 3, 0, band l.v0 2147483647, 0, band l.tries 255⟩
  | _ => recI q l
def rciS (m : Img) (key : Int) (l : List Rec) (cuts : List Int) (i : Nat) (f : Flash) (r : Rec) (li : Rec) (k : Nat) : AS := { sl := [(1, .int .u32 key), (2, .sl false 6 (l.map encRec)), (3, .sl false 1 (cuts.map encB)), (4, .ptr 100 0), (9, .bool true), (10, .ptr 101 0), (11, .ptr 102 0), (14, .int .i64 i), (15, .ptr 103 0), (16, .int .i64 k)], st := [(100, .box (encImg m)), (101, .box (encRec r)), (102, .box (encFlash f)), (103, .box (encRec (recK (r.seq + 1) li k)))], nx := 4000, n := 183 }
theorem lawTopRecords (m : Img) (key : Int) (l : List Rec) (cuts : List Int) (hmb : ∀ x ∈ m.body, byte x) (hk : 0 ≤ key ∧ key ≤ 4294967295) (hll : l.length ≤ 140737488351232) (hcl : cuts.length ≤ 140737488351232) (hcb : ∀ x ∈ cuts, byte x) :
    FnS Tryd.prog 4 [.agg (encImg m), .int .u32 key, .sl false 6 (l.map encRec), .sl false 1 (cuts.map encB)] [] (.bool true) [] := by
  have hkw := u32_i64 hk
  have hmay := may_u32 hk
  refine fn_walk tabOk Tryd.func4 rfl (by decide +kernel) Tryd.ntmps4 Tryd.results4 (by simp) fun B hB => ?_
  try refine hK _ ?_
  repeat (first | refine awp_seq ?_ | refine awp_block ?_ | refine awp_skip ?_ | refine awp_scope ?_ | refine awp_label ?_)
  refine awp_region tabOk fun K hK => ?_
  simp -dsimp -implicitDefEqProofs only [push_cast, ↓trAdd_f, ↓stOf_f, seval]
  refine hK _ ?_
  try refine hK _ ?_
  repeat (first | refine awp_seq ?_ | refine awp_block ?_ | refine awp_skip ?_ | refine awp_scope ?_ | refine awp_label ?_)
  refine awp_region tabOk fun K hK => ?_
  simp -dsimp -implicitDefEqProofs only [push_cast, ↓trAdd_f, ↓stOf_f, seval]
  refine callK_simple head27_ok ?_ rfl fun _ => ?_
  · simp -dsimp -implicitDefEqProofs only [push_cast, List.mem_append, List.mem_cons, List.mem_singleton, forall_eq_or_imp, forall_eq, ↓trAdd_f, ↓stOf_f, seval]
  simp -dsimp -implicitDefEqProofs only [push_cast, ↓trAdd_f, ↓stOf_f, seval]
  refine hK _ ?_
  try refine hK _ ?_
  repeat (first | refine awp_seq ?_ | refine awp_block ?_ | refine awp_skip ?_ | refine awp_scope ?_ | refine awp_label ?_)
  refine awp_region tabOk fun K hK => ?_
  simp -dsimp -implicitDefEqProofs only [push_cast, ↓trAdd_f, ↓stOf_f, seval]
  refine callK_simple (small27_ok m) ?_ rfl fun _ => ?_
  · simp -dsimp -implicitDefEqProofs only [push_cast, List.mem_append, List.mem_cons, List.mem_singleton, forall_eq_or_imp, forall_eq, ↓trAdd_f, ↓stOf_f, seval]
  cases hA : smallB m with
  | false =>
    simp -dsimp -implicitDefEqProofs only [push_cast, ↓trAdd_f, ↓stOf_f, seval]
    refine hK _ ?_
    try refine hK _ ?_
    repeat (first | refine awp_seq ?_ | refine awp_block ?_ | refine awp_skip ?_ | refine awp_scope ?_ | refine awp_label ?_)
    refine awp_cond (b := true) (by simp -dsimp -implicitDefEqProofs only [push_cast, ↓trAdd_f, ↓stOf_f, seval]) (fun h => ?_) (fun h => ?_)
    rotate_left
    · cases h
    try refine hK _ ?_
    repeat (first | refine awp_seq ?_ | refine awp_block ?_ | refine awp_skip ?_ | refine awp_scope ?_ | refine awp_label ?_)
    refine awp_region tabOk fun K hK => ?_
    simp -dsimp -implicitDefEqProofs only [push_cast, ↓trAdd_f, ↓stOf_f, seval]
    refine hK _ (awp_ret ?_)
    simp -dsimp -implicitDefEqProofs only [push_cast, List.mem_append, List.mem_cons, List.mem_singleton, forall_eq_or_imp, forall_eq, ↓trAdd_f, ↓stOf_f, seval]
  | true =>
  obtain ⟨hg, h300⟩ := small_good hA hmb
  cases hQ : decide (8 < (l.length : Int)) with
  | true =>
    simp -dsimp -implicitDefEqProofs only [hQ, push_cast, ↓trAdd_f, ↓stOf_f, seval]
    refine hK _ ?_
    try refine hK _ ?_
    repeat (first | refine awp_seq ?_ | refine awp_block ?_ | refine awp_skip ?_ | refine awp_scope ?_ | refine awp_label ?_)
    refine awp_cond (b := true) (by simp -dsimp -implicitDefEqProofs only [push_cast, ↓trAdd_f, ↓stOf_f, seval]) (fun h => ?_) (fun h => ?_)
    rotate_left
    · cases h
    try refine hK _ ?_
    repeat (first | refine awp_seq ?_ | refine awp_block ?_ | refine awp_skip ?_ | refine awp_scope ?_ | refine awp_label ?_)
    refine awp_region tabOk fun K hK => ?_
    simp -dsimp -implicitDefEqProofs only [push_cast, ↓trAdd_f, ↓stOf_f, seval]
    refine hK _ (awp_ret ?_)
    simp -dsimp -implicitDefEqProofs only [push_cast, List.mem_append, List.mem_cons, List.mem_singleton, forall_eq_or_imp, forall_eq, ↓trAdd_f, ↓stOf_f, seval]
  | false =>
  cases hD : decide ((cuts.length : Int) < (l.length : Int)) with
  | true =>
    simp -dsimp -implicitDefEqProofs only [hQ, hD, push_cast, ↓trAdd_f, ↓stOf_f, seval]
    refine hK _ ?_
    try refine hK _ ?_
    repeat (first | refine awp_seq ?_ | refine awp_block ?_ | refine awp_skip ?_ | refine awp_scope ?_ | refine awp_label ?_)
    refine awp_cond (b := true) (by simp -dsimp -implicitDefEqProofs only [push_cast, ↓trAdd_f, ↓stOf_f, seval]) (fun h => ?_) (fun h => ?_)
    rotate_left
    · cases h
    try refine hK _ ?_
    repeat (first | refine awp_seq ?_ | refine awp_block ?_ | refine awp_skip ?_ | refine awp_scope ?_ | refine awp_label ?_)
    refine awp_region tabOk fun K hK => ?_
    simp -dsimp -implicitDefEqProofs only [push_cast, ↓trAdd_f, ↓stOf_f, seval]
    refine hK _ (awp_ret ?_)
    simp -dsimp -implicitDefEqProofs only [push_cast, List.mem_append, List.mem_cons, List.mem_singleton, forall_eq_or_imp, forall_eq, ↓trAdd_f, ↓stOf_f, seval]
  | false =>
  have hl8 := of_decide_eq_false hQ
  have hcl2 := of_decide_eq_false hD
  simp -dsimp -implicitDefEqProofs only [hQ, hD, push_cast, ↓trAdd_f, ↓stOf_f, seval]
  refine hK _ ?_
  try refine hK _ ?_
  repeat (first | refine awp_seq ?_ | refine awp_block ?_ | refine awp_skip ?_ | refine awp_scope ?_ | refine awp_label ?_)
  refine awp_cond (b := false) (by simp -dsimp -implicitDefEqProofs only [push_cast, ↓trAdd_f, ↓stOf_f, seval]) (fun h => ?_) (fun h => ?_)
  · cases h
  refine awp_skip ?_
  obtain ⟨a1, a2, a3, a4, a5⟩ := one_is hg key (s := 1) (by decide)
  have e1 : putF (oneS m key 1) ⟨1, 1, 4, 0, m.ver, 0⟩ = (oneZ m key 1, 0) := Prod.ext rfl a4
  have hsv : FnS Tryd.prog 14 [.agg (encFlash (newF 70)), .int .i64 1, .agg (encImg m), .int .i64 key, .bool false] [] (.tup [.agg (encFlash (oneS m key 1)), .bool true]) [] :=
    saved27_ok (newF 70) 1 m key false 99 rfl hg hmay (by decide) a1 fun k hk _ => a2 k hk
  have hpt := put_ok (oneS m key 1) ⟨1, 1, 4, 0, m.ver, 0⟩ a3.fine
  rw [e1] at hpt
  have hZ : RecsOk m key 0 (oneZ m key 1) ⟨1, 1, 4, 0, m.ver, 0⟩ := ⟨a5.big, a5.down, a5.rec_, a5.stored, by show (1 : Int) ≤ ((0 : Nat) : Int) + 1; decide⟩
  clear a1 a2 a4 e1 a3 a5
  generalize oneZ m key 1 = Z at *
  generalize oneS m key 1 = Y at *
  try refine hK _ ?_
  repeat (first | refine awp_seq ?_ | refine awp_block ?_ | refine awp_skip ?_ | refine awp_scope ?_ | refine awp_label ?_)
  refine awp_region tabOk fun K hK => ?_
  simp -dsimp -implicitDefEqProofs only [push_cast, ↓trAdd_f, ↓stOf_f, seval]
  refine hK _ ?_
  try refine hK _ ?_
  repeat (first | refine awp_seq ?_ | refine awp_block ?_ | refine awp_skip ?_ | refine awp_scope ?_ | refine awp_label ?_)
  refine awp_draw tabOk (by kernel_rfl) (by kernel_rfl) fun K hK C hC => ?_
  simp -dsimp -implicitDefEqProofs only [hkw, push_cast, ↓trAdd_f, ↓stOf_f, seval]
  refine callK_simple fresh_ok ?_ rfl fun _ => ?_
  · simp -dsimp -implicitDefEqProofs only [push_cast, List.mem_append, List.mem_cons, List.mem_singleton, forall_eq_or_imp, forall_eq, ↓trAdd_f, ↓stOf_f, seval]
  simp -dsimp -implicitDefEqProofs only [hkw, push_cast, ↓trAdd_f, ↓stOf_f, seval]
  refine callK_simple hsv ?_ rfl fun _ => ?_
  · simp -dsimp -implicitDefEqProofs only [push_cast, List.mem_append, List.mem_cons, List.mem_singleton, forall_eq_or_imp, forall_eq, ↓trAdd_f, ↓stOf_f, seval]
  simp -dsimp -implicitDefEqProofs only [push_cast, ↓trAdd_f, ↓stOf_f, seval]
  refine ⟨hC _ (by kernel_rfl), hK _ ?_⟩
  try refine hK _ ?_
  repeat (first | refine awp_seq ?_ | refine awp_block ?_ | refine awp_skip ?_ | refine awp_scope ?_ | refine awp_label ?_)
  refine awp_region tabOk fun K hK => ?_
  simp -dsimp -implicitDefEqProofs only [push_cast, ↓trAdd_f, ↓stOf_f, seval]
  refine callK_simple hpt ?_ rfl fun _ => ?_
  · simp -dsimp -implicitDefEqProofs only [push_cast, List.mem_append, List.mem_cons, List.mem_singleton, forall_eq_or_imp, forall_eq, ↓trAdd_f, ↓stOf_f, seval]
  simp -dsimp -implicitDefEqProofs only [push_cast, ↓trAdd_f, ↓stOf_f, seval]
  refine hK _ ?_
  try refine hK _ ?_
  repeat (first | refine awp_seq ?_ | refine awp_block ?_ | refine awp_skip ?_ | refine awp_scope ?_ | refine awp_label ?_)
  refine awp_region tabOk fun K hK => ?_
  simp -dsimp -implicitDefEqProofs only [push_cast, ↓trAdd_f, ↓stOf_f, seval]
  refine hK _ ?_
  try refine hK _ ?_
  repeat (first | refine awp_seq ?_ | refine awp_block ?_ | refine awp_skip ?_ | refine awp_scope ?_ | refine awp_label ?_)
  refine awp_cond (b := false) (by simp -dsimp -implicitDefEqProofs only [push_cast, ↓trAdd_f, ↓stOf_f, seval]) (fun h => ?_) (fun h => ?_)
  · cases h
  refine awp_skip ?_
  try refine hK _ ?_
  repeat (first | refine awp_seq ?_ | refine awp_block ?_ | refine awp_skip ?_ | refine awp_scope ?_ | refine awp_label ?_)
  refine awp_region tabOk fun K hK => ?_
  simp -dsimp -implicitDefEqProofs only [push_cast, ↓trAdd_f, ↓stOf_f, seval]
  refine hK _ (awp_block ?_)
  refine awp_for (fun x : Nat × Flash × Rec => rcsS m key l cuts x) (fun x => x.1 ≤ l.length ∧ RecsOk m key x.1 x.2.1 x.2.2) (fun x => l.length - x.1) (0, Z, ⟨1, 1, 4, 0, m.ver, 0⟩) ⟨Nat.zero_le _, hZ⟩ ?_ fun x hx => ?_
  · simp only [rcsS]
    refine le_intro hB [(100, 0), (101, 192), (102, 272)] (by simp) (fun b hb => absurd hb (Nat.not_lt_zero b)) rfl ?_ ?_ rfl <;> simp -dsimp -implicitDefEqProofs only [push_cast, ↓trAdd_f, ↓stOf_f, seval]
  obtain ⟨i, f, r⟩ := x
  obtain ⟨hi, hR⟩ := hx
  simp only at hi hR
  simp only [rcsS]
  clear hZ hpt hsv
  by_cases hlt : i < l.length
  · have d : decide ((i : Int) < (l.length : Int)) = true := by simpa using hlt
    have hlt2 : i < cuts.length := by omega
    have w : IntKind.i64.wrap ((i : Int) + 1) = (i : Int) + 1 := wrap_i64 (by omega) (by omega)
    try refine hK _ ?_
    repeat (first | refine awp_seq ?_ | refine awp_block ?_ | refine awp_skip ?_ | refine awp_scope ?_ | refine awp_label ?_)
    refine awp_region tabOk fun K hK => ?_
    simp -dsimp -implicitDefEqProofs only [d, push_cast, ↓trAdd_f, ↓stOf_f, seval]
    try refine hK _ ?_
    repeat (first | refine awp_seq ?_ | refine awp_block ?_ | refine awp_skip ?_ | refine awp_scope ?_ | refine awp_label ?_)
    refine awp_cond (b := true) (by simp -dsimp -implicitDefEqProofs only [push_cast, ↓trAdd_f, ↓stOf_f, seval]) (fun h => ?_) (fun h => ?_)
    rotate_left
    · cases h
    refine awp_skip ?_
    have hsq := hR.rec_.good.seq
    have hsq2 := hR.seq
    have hRg := recI_good (r.seq + 1) l[i] (by omega)
    have hst := recs_step hR hRg rfl
    obtain ⟨wi0, wi1⟩ := recI_wraps l[i]
    have wq : IntKind.i64.wrap (r.seq + 1) = r.seq + 1 := wrap_i64 (by omega) (by omega)
    have hgl : (l.map encRec).getD i [] = encRec l[i] := getD_map encRec _ _ hlt
    try refine hK _ ?_
    repeat (first | refine awp_seq ?_ | refine awp_block ?_ | refine awp_skip ?_ | refine awp_scope ?_ | refine awp_label ?_)
    refine awp_draw tabOk (by kernel_rfl) (by kernel_rfl) fun K hK C hC => ?_
    simp -dsimp -implicitDefEqProofs only [hgl, wq, push_cast, ↓trAdd_f, ↓stOf_f, seval]
    refine ⟨⟨by omega, by omega⟩, hC _ (by kernel_rfl), hK _ ?_⟩
    generalize hli : l[i] = li at *
    refine awp_seq ?_
    refine awp_join (rciS m key l cuts i f r li 2) ?_ (fun _ hl h => awp_le hl h) ?_
    · try refine hK _ ?_
      repeat (first | refine awp_seq ?_ | refine awp_block ?_ | refine awp_skip ?_ | refine awp_scope ?_ | refine awp_label ?_)
      refine awp_region tabOk fun K hK => ?_
      simp -dsimp -implicitDefEqProofs only [push_cast, ↓trAdd_f, ↓stOf_f, seval]
      refine hK _ (awp_block ?_)
      refine awp_for (fun k : Nat => rciS m key l cuts i f r li k) (fun k => k ≤ 2) (fun k => 2 - k) 0 (Nat.zero_le _) ?_ fun k hk => ?_
      · simp only [rciS, recK]
        refine le_intro hB [(100, 100), (101, 101), (102, 102), (103, 2112)] (by simp) (fun b hb => absurd hb (Nat.not_lt_zero b)) rfl ?_ ?_ rfl <;> simp -dsimp -implicitDefEqProofs only [push_cast, ↓trAdd_f, ↓stOf_f, seval]
      have hk3 : k = 0 ∨ k = 1 ∨ k = 2 := by omega
      simp only [rciS]
      rcases hk3 with rfl | rfl | rfl <;> simp only [recK]
      · have d : decide ((0 : Int) < 2) = true := rfl
        have w : IntKind.i64.wrap 1 = 1 := by decide
        try refine hK _ ?_
        repeat (first | refine awp_seq ?_ | refine awp_block ?_ | refine awp_skip ?_ | refine awp_scope ?_ | refine awp_label ?_)
        refine awp_region tabOk fun K hK => ?_
        simp -dsimp -implicitDefEqProofs only [d, push_cast, ↓trAdd_f, ↓stOf_f, seval]
        try refine hK _ ?_
        repeat (first | refine awp_seq ?_ | refine awp_block ?_ | refine awp_skip ?_ | refine awp_scope ?_ | refine awp_label ?_)
        refine awp_cond (b := true) (by simp -dsimp -implicitDefEqProofs only [push_cast, ↓trAdd_f, ↓stOf_f, seval]) (fun h => ?_) (fun h => ?_)
        rotate_left
        · cases h
        refine awp_skip ?_
        try refine hK _ ?_
        repeat (first | refine awp_seq ?_ | refine awp_block ?_ | refine awp_skip ?_ | refine awp_scope ?_ | refine awp_label ?_)
        refine awp_region tabOk fun K hK => ?_
        simp -dsimp -implicitDefEqProofs only [hgl, wi0, push_cast, ↓trAdd_f, ↓stOf_f, seval]
        refine ⟨⟨by omega, by omega⟩, hK _ ?_⟩
        try refine hK _ ?_
        repeat (first | refine awp_seq ?_ | refine awp_block ?_ | refine awp_skip ?_ | refine awp_scope ?_ | refine awp_label ?_)
        refine awp_region tabOk fun K hK => ?_
        simp -dsimp -implicitDefEqProofs only [hgl, push_cast, ↓trAdd_f, ↓stOf_f, seval]
        refine ⟨⟨by omega, by omega⟩, hK _ ?_⟩
        try refine hK _ ?_
        repeat (first | refine awp_seq ?_ | refine awp_block ?_ | refine awp_skip ?_ | refine awp_scope ?_ | refine awp_label ?_)
        refine awp_region tabOk fun K hK => ?_
        simp -dsimp -implicitDefEqProofs only [w, push_cast, ↓trAdd_f, ↓stOf_f, seval]
        refine hK _ ⟨1, (by decide : 1 ≤ 2), (by decide : 2 - 1 < 2 - 0), ?_⟩
        simp only [rciS, recK, recI]
        refine le_intro hB [(100, 100), (101, 101), (102, 102), (103, 103)] (by simp) (fun b hb => absurd hb (Nat.not_lt_zero b)) rfl ?_ ?_ rfl <;> simp -dsimp -implicitDefEqProofs only [push_cast, ↓trAdd_f, ↓stOf_f, seval]
      · have d : decide ((1 : Int) < 2) = true := rfl
        have w : IntKind.i64.wrap 2 = 2 := by decide
        try refine hK _ ?_
        repeat (first | refine awp_seq ?_ | refine awp_block ?_ | refine awp_skip ?_ | refine awp_scope ?_ | refine awp_label ?_)
        refine awp_region tabOk fun K hK => ?_
        simp -dsimp -implicitDefEqProofs only [d, push_cast, ↓trAdd_f, ↓stOf_f, seval]
        try refine hK _ ?_
        repeat (first | refine awp_seq ?_ | refine awp_block ?_ | refine awp_skip ?_ | refine awp_scope ?_ | refine awp_label ?_)
        refine awp_cond (b := true) (by simp -dsimp -implicitDefEqProofs only [push_cast, ↓trAdd_f, ↓stOf_f, seval]) (fun h => ?_) (fun h => ?_)
        rotate_left
        · cases h
        refine awp_skip ?_
        try refine hK _ ?_
        repeat (first | refine awp_seq ?_ | refine awp_block ?_ | refine awp_skip ?_ | refine awp_scope ?_ | refine awp_label ?_)
        refine awp_region tabOk fun K hK => ?_
        simp -dsimp -implicitDefEqProofs only [hgl, wi1, push_cast, ↓trAdd_f, ↓stOf_f, seval]
        refine ⟨⟨by omega, by omega⟩, hK _ ?_⟩
        try refine hK _ ?_
        repeat (first | refine awp_seq ?_ | refine awp_block ?_ | refine awp_skip ?_ | refine awp_scope ?_ | refine awp_label ?_)
        refine awp_region tabOk fun K hK => ?_
        simp -dsimp -implicitDefEqProofs only [hgl, push_cast, ↓trAdd_f, ↓stOf_f, seval]
        refine ⟨⟨by omega, by omega⟩, hK _ ?_⟩
        try refine hK _ ?_
        repeat (first | refine awp_seq ?_ | refine awp_block ?_ | refine awp_skip ?_ | refine awp_scope ?_ | refine awp_label ?_)
        refine awp_region tabOk fun K hK => ?_
        simp -dsimp -implicitDefEqProofs only [w, push_cast, ↓trAdd_f, ↓stOf_f, seval]
        refine hK _ ⟨2, (by decide : 2 ≤ 2), (by decide : 2 - 2 < 2 - 1), ?_⟩
        simp only [rciS, recK, recI]
        refine le_intro hB [(100, 100), (101, 101), (102, 102), (103, 103)] (by simp) (fun b hb => absurd hb (Nat.not_lt_zero b)) rfl ?_ ?_ rfl <;> simp -dsimp -implicitDefEqProofs only [push_cast, ↓trAdd_f, ↓stOf_f, seval]
      · have d : decide ((2 : Int) < 2) = false := rfl
        try refine hK _ ?_
        repeat (first | refine awp_seq ?_ | refine awp_block ?_ | refine awp_skip ?_ | refine awp_scope ?_ | refine awp_label ?_)
        refine awp_region tabOk fun K hK => ?_
        simp -dsimp -implicitDefEqProofs only [d, push_cast, ↓trAdd_f, ↓stOf_f, seval]
        try refine hK _ ?_
        repeat (first | refine awp_seq ?_ | refine awp_block ?_ | refine awp_skip ?_ | refine awp_scope ?_ | refine awp_label ?_)
        refine awp_cond (b := false) (by simp -dsimp -implicitDefEqProofs only [push_cast, ↓trAdd_f, ↓stOf_f, seval]) (fun h => ?_) (fun h => ?_)
        · cases h
        refine awp_exit rfl ?_
        show AS.le _ _ (rciS m key l cuts i f r li 2)
        simp only [rciS, recK]
        refine le_intro hB [(100, 100), (101, 101), (102, 102), (103, 103)] (by simp) (fun b hb => absurd hb (Nat.not_lt_zero b)) rfl ?_ ?_ rfl <;> simp -dsimp -implicitDefEqProofs only [push_cast, ↓trAdd_f, ↓stOf_f, seval]
    have hcb1 := hcb _ (List.getElem_mem hlt2)
    have hcw := byte_i64 hcb1
    obtain ⟨t1, t2, t3⟩ := tmod_nat hcb1 30 (by decide) (by decide)
    have h30 : ((30 : Nat) : Int) = 30 := rfl
    rw [h30] at t1 t2 t3
    have hgc : (cuts.map encB).getD i [] = [.int .u8 cuts[i]] := getD_map encB _ _ hlt2
    generalize cuts[i] = c at *
    generalize hl : c.tmod 30 = cc at *
    obtain ⟨hGb, rn, hRn, hcase⟩ := hst cc t1 t2
    have hpw1 := power_ok f cc
    have hPb : (powerF f cc).big := power_big hR.big cc t1 t2
    have hput := put_ok (powerF f cc) (recI (r.seq + 1) li) hPb.fine
    have hrd := read_is hRn.rec_ hRn.down
    have hrdo := read_ok (powerF (putF (powerF f cc) (recI (r.seq + 1) li)).1 (-1)) (by rw [hGb.n70]; decide) hGb.fine.good.block hGb.fine.bytes
    rw [hrd] at hrdo
    have hwh := wholeF_ok (powerF (putF (powerF f cc) (recI (r.seq + 1) li)).1 (-1)) 1 key hGb (by decide)
    rw [whole_same hg hmay hRn.stored hGb.n70 (by decide) hRn.down] at hwh
    have hpw2 := power_ok (putF (powerF f cc) (recI (r.seq + 1) li)).1 (-1)
    have hk2 : recK (r.seq + 1) li 2 = recI (r.seq + 1) li := rfl
    have hrs : (recI (r.seq + 1) li).seq = r.seq + 1 := rfl
    simp only [rciS, hk2]
    generalize recI (r.seq + 1) li = r' at *
    generalize powerF f cc = P at *
    generalize powerF (putF P r').1 (-1) = G at *
    generalize (putF P r').1 = G0 at *
    generalize (putF P r').2 = e0 at *
    try refine hK _ ?_
    repeat (first | refine awp_seq ?_ | refine awp_block ?_ | refine awp_skip ?_ | refine awp_scope ?_ | refine awp_label ?_)
    refine awp_draw tabOk (by kernel_rfl) (by kernel_rfl) fun K hK C hC => ?_
    simp -dsimp -implicitDefEqProofs only [hgc, hcw, hl, t3, push_cast, ↓trAdd_f, ↓stOf_f, seval]
    refine ⟨⟨by omega, by omega⟩, ?_⟩
    refine callK_simple hpw1 ?_ rfl fun _ => ?_
    · simp -dsimp -implicitDefEqProofs only [push_cast, List.mem_append, List.mem_cons, List.mem_singleton, forall_eq_or_imp, forall_eq, ↓trAdd_f, ↓stOf_f, seval]
    simp -dsimp -implicitDefEqProofs only [push_cast, ↓trAdd_f, ↓stOf_f, seval]
    refine callK_simple hput ?_ rfl fun _ => ?_
    · simp -dsimp -implicitDefEqProofs only [push_cast, List.mem_append, List.mem_cons, List.mem_singleton, forall_eq_or_imp, forall_eq, ↓trAdd_f, ↓stOf_f, seval]
    simp -dsimp -implicitDefEqProofs only [push_cast, ↓trAdd_f, ↓stOf_f, seval]
    refine ⟨hC _ (by kernel_rfl), hK _ ?_⟩
    try refine hK _ ?_
    repeat (first | refine awp_seq ?_ | refine awp_block ?_ | refine awp_skip ?_ | refine awp_scope ?_ | refine awp_label ?_)
    refine awp_region tabOk fun K hK => ?_
    simp -dsimp -implicitDefEqProofs only [push_cast, ↓trAdd_f, ↓stOf_f, seval]
    refine callK_simple hpw2 ?_ rfl fun _ => ?_
    · simp -dsimp -implicitDefEqProofs only [push_cast, List.mem_append, List.mem_cons, List.mem_singleton, forall_eq_or_imp, forall_eq, ↓trAdd_f, ↓stOf_f, seval]
    simp -dsimp -implicitDefEqProofs only [push_cast, ↓trAdd_f, ↓stOf_f, seval]
    refine hK _ ?_
    try refine hK _ ?_
    repeat (first | refine awp_seq ?_ | refine awp_block ?_ | refine awp_skip ?_ | refine awp_scope ?_ | refine awp_label ?_)
    refine awp_region tabOk fun K hK => ?_
    simp -dsimp -implicitDefEqProofs only [push_cast, ↓trAdd_f, ↓stOf_f, seval]
    refine callK_simple hrdo ?_ rfl fun _ => ?_
    · simp -dsimp -implicitDefEqProofs only [push_cast, List.mem_append, List.mem_cons, List.mem_singleton, forall_eq_or_imp, forall_eq, ↓trAdd_f, ↓stOf_f, seval]
    simp -dsimp -implicitDefEqProofs only [push_cast, ↓trAdd_f, ↓stOf_f, seval]
    refine hK _ ?_
    try refine hK _ ?_
    repeat (first | refine awp_seq ?_ | refine awp_block ?_ | refine awp_skip ?_ | refine awp_scope ?_ | refine awp_label ?_)
    refine awp_region tabOk fun K hK => ?_
    simp -dsimp -implicitDefEqProofs only [hkw, push_cast, ↓trAdd_f, ↓stOf_f, seval]
    refine callK_simple hwh ?_ rfl fun _ => ?_
    · simp -dsimp -implicitDefEqProofs only [push_cast, List.mem_append, List.mem_cons, List.mem_singleton, forall_eq_or_imp, forall_eq, ↓trAdd_f, ↓stOf_f, seval]
    simp -dsimp -implicitDefEqProofs only [push_cast, ↓trAdd_f, ↓stOf_f, seval]
    refine hK _ (awp_seq ?_)
    have hne : (r'.seq == r.seq) = false := by simp; omega
    refine awp_join { sl := [(1, .int .u32 key), (2, .sl false 6 (l.map encRec)), (3, .sl false 1 (cuts.map encB)), (4, .ptr 100 0), (9, .bool true), (10, .ptr 101 0), (11, .ptr 102 0), (14, .int .i64 i), (19, .ptr 103 0), (21, .ptr 104 0), (22, .bool true)], st := [(100, .box (encImg m)), (101, .box (encRec r)), (102, .box (encFlash G)), (103, .box (encRec rn)), (104, .box (encImg m))], nx := 6000, n := 183 } ?_ (fun _ hl h => awp_le hl h) ?_
    · clear hput hpw1 hpw2 hrdo hwh hRg hst
      rcases hcase with ⟨e1, e2⟩ | ⟨e1, e2 | e2⟩
      · rw [e1, e2]
        try refine hK _ ?_
        repeat (first | refine awp_seq ?_ | refine awp_block ?_ | refine awp_skip ?_ | refine awp_scope ?_ | refine awp_label ?_)
        refine awp_region tabOk fun K hK => ?_
        simp -dsimp -implicitDefEqProofs only [hne, push_cast, ↓trAdd_f, ↓stOf_f, seval]
        refine hK _ ?_
        try refine hK _ ?_
        repeat (first | refine awp_seq ?_ | refine awp_block ?_ | refine awp_skip ?_ | refine awp_scope ?_ | refine awp_label ?_)
        refine awp_cond (b := false) (by simp -dsimp -implicitDefEqProofs only [push_cast, ↓trAdd_f, ↓stOf_f, seval]) (fun h => ?_) (fun h => ?_)
        · cases h
        refine awp_skip ?_
        refine le_intro hB [(100, 100), (101, 101), (102, 102), (103, 4192), (104, 4272)] (by simp) (fun b hb => absurd hb (Nat.not_lt_zero b)) rfl ?_ ?_ rfl <;> simp -dsimp -implicitDefEqProofs only [push_cast, ↓trAdd_f, ↓stOf_f, seval]
      · rw [e1, e2]
        try refine hK _ ?_
        repeat (first | refine awp_seq ?_ | refine awp_block ?_ | refine awp_skip ?_ | refine awp_scope ?_ | refine awp_label ?_)
        refine awp_region tabOk fun K hK => ?_
        simp -dsimp -implicitDefEqProofs only [hne, push_cast, ↓trAdd_f, ↓stOf_f, seval]
        refine hK _ ?_
        try refine hK _ ?_
        repeat (first | refine awp_seq ?_ | refine awp_block ?_ | refine awp_skip ?_ | refine awp_scope ?_ | refine awp_label ?_)
        refine awp_cond (b := false) (by simp -dsimp -implicitDefEqProofs only [push_cast, ↓trAdd_f, ↓stOf_f, seval]) (fun h => ?_) (fun h => ?_)
        · cases h
        refine awp_skip ?_
        refine le_intro hB [(100, 100), (101, 101), (102, 102), (103, 4192), (104, 4272)] (by simp) (fun b hb => absurd hb (Nat.not_lt_zero b)) rfl ?_ ?_ rfl <;> simp -dsimp -implicitDefEqProofs only [push_cast, ↓trAdd_f, ↓stOf_f, seval]
      · rw [e1, e2]
        try refine hK _ ?_
        repeat (first | refine awp_seq ?_ | refine awp_block ?_ | refine awp_skip ?_ | refine awp_scope ?_ | refine awp_label ?_)
        refine awp_region tabOk fun K hK => ?_
        simp -dsimp -implicitDefEqProofs only [hne, push_cast, ↓trAdd_f, ↓stOf_f, seval]
        refine hK _ ?_
        try refine hK _ ?_
        repeat (first | refine awp_seq ?_ | refine awp_block ?_ | refine awp_skip ?_ | refine awp_scope ?_ | refine awp_label ?_)
        refine awp_cond (b := false) (by simp -dsimp -implicitDefEqProofs only [push_cast, ↓trAdd_f, ↓stOf_f, seval]) (fun h => ?_) (fun h => ?_)
        · cases h
        refine awp_skip ?_
        refine le_intro hB [(100, 100), (101, 101), (102, 102), (103, 4192), (104, 4272)] (by simp) (fun b hb => absurd hb (Nat.not_lt_zero b)) rfl ?_ ?_ rfl <;> simp -dsimp -implicitDefEqProofs only [push_cast, ↓trAdd_f, ↓stOf_f, seval]
    have hvv : (m.ver != m.ver) = false := by simp
    have hbb : decide (m.body = m.body) = true := by simp
    try refine hK _ ?_
    repeat (first | refine awp_seq ?_ | refine awp_block ?_ | refine awp_skip ?_ | refine awp_scope ?_ | refine awp_label ?_)
    refine awp_region tabOk fun K hK => ?_
    simp -dsimp -implicitDefEqProofs only [hvv, push_cast, ↓trAdd_f, ↓stOf_f, seval]
    refine callK_simple (sameBytes_ok false false m.body m.body hmb hmb) ?_ rfl fun _ => ?_
    · simp -dsimp -implicitDefEqProofs only [push_cast, List.mem_append, List.mem_cons, List.mem_singleton, forall_eq_or_imp, forall_eq, ↓trAdd_f, ↓stOf_f, seval]
    rw [hbb]
    simp -dsimp -implicitDefEqProofs only [push_cast, ↓trAdd_f, ↓stOf_f, seval]
    refine hK _ ?_
    try refine hK _ ?_
    repeat (first | refine awp_seq ?_ | refine awp_block ?_ | refine awp_skip ?_ | refine awp_scope ?_ | refine awp_label ?_)
    refine awp_cond (b := false) (by simp -dsimp -implicitDefEqProofs only [push_cast, ↓trAdd_f, ↓stOf_f, seval]) (fun h => ?_) (fun h => ?_)
    · cases h
    refine awp_skip ?_
    try refine hK _ ?_
    repeat (first | refine awp_seq ?_ | refine awp_block ?_ | refine awp_skip ?_ | refine awp_scope ?_ | refine awp_label ?_)
    refine awp_region tabOk fun K hK => ?_
    simp -dsimp -implicitDefEqProofs only [push_cast, ↓trAdd_f, ↓stOf_f, seval]
    refine hK _ ?_
    try refine hK _ ?_
    repeat (first | refine awp_seq ?_ | refine awp_block ?_ | refine awp_skip ?_ | refine awp_scope ?_ | refine awp_label ?_)
    refine awp_region tabOk fun K hK => ?_
    simp -dsimp -implicitDefEqProofs only [w, push_cast, ↓trAdd_f, ↓stOf_f, seval]
    refine hK _ ⟨(i + 1, G, rn), ⟨hlt, hRn⟩, by show l.length - (i + 1) < l.length - i; omega, ?_⟩
    simp only [rcsS]
    refine le_intro hB [(100, 100), (101, 101), (102, 102)] (by simp) (fun b hb => absurd hb (Nat.not_lt_zero b)) rfl ?_ ?_ rfl <;> simp -dsimp -implicitDefEqProofs only [push_cast, ↓trAdd_f, ↓stOf_f, seval]
  · have hie : i = l.length := by omega
    subst hie
    have d : decide ((l.length : Int) < (l.length : Int)) = false := by simp
    try refine hK _ ?_
    repeat (first | refine awp_seq ?_ | refine awp_block ?_ | refine awp_skip ?_ | refine awp_scope ?_ | refine awp_label ?_)
    refine awp_region tabOk fun K hK => ?_
    simp -dsimp -implicitDefEqProofs only [d, push_cast, ↓trAdd_f, ↓stOf_f, seval]
    try refine hK _ ?_
    repeat (first | refine awp_seq ?_ | refine awp_block ?_ | refine awp_skip ?_ | refine awp_scope ?_ | refine awp_label ?_)
    refine awp_cond (b := false) (by simp -dsimp -implicitDefEqProofs only [push_cast, ↓trAdd_f, ↓stOf_f, seval]) (fun h => ?_) (fun h => ?_)
    · cases h
    refine awp_exit rfl ?_
    try refine hK _ ?_
    repeat (first | refine awp_seq ?_ | refine awp_block ?_ | refine awp_skip ?_ | refine awp_scope ?_ | refine awp_label ?_)
    refine awp_region tabOk fun K hK => ?_
    simp -dsimp -implicitDefEqProofs only [push_cast, ↓trAdd_f, ↓stOf_f, seval]
    refine hK _ (awp_ret ?_)
    simp -dsimp -implicitDefEqProofs only [push_cast, List.mem_append, List.mem_cons, List.mem_singleton, forall_eq_or_imp, forall_eq, ↓trAdd_f, ↓stOf_f, seval]
end Go.Proofs.YtoifmpiikopelaaDoorFw

/-
  How the laws' arguments read.
-/
namespace Go.Proofs.YtoifmpiikopelaaDoorFw
open Go Go.Proofs
set_option linter.unusedVariables false
set_option linter.unusedSimpArgs false

theorem I64_wf {x : Int} (h : (Lit.int .i64 x).wf = true) : I64 x := by
  simpa [Lit.wf, IntKind.min, IntKind.max, IntKind.signed, IntKind.bits, I64] using h
theorem u8_wf {x : Int} (h : (Lit.int .u8 x).wf = true) : 0 ≤ x ∧ x ≤ 255 := by
  simpa [Lit.wf, IntKind.min, IntKind.max, IntKind.signed, IntKind.bits] using h
theorem u16_wf {x : Int} (h : (Lit.int .u16 x).wf = true) : 0 ≤ x ∧ x ≤ 65535 := by
  simpa [Lit.wf, IntKind.min, IntKind.max, IntKind.signed, IntKind.bits] using h
theorem u32_wf {x : Int} (h : (Lit.int .u32 x).wf = true) : 0 ≤ x ∧ x ≤ 4294967295 := by
  simpa [Lit.wf, IntKind.min, IntKind.max, IntKind.signed, IntKind.bits] using h
theorem opens3 : Opens Tryd.prog 3 1 (fun n : Int => [.int .i64 n]) I64 := (opens_int Tryd.underlying3 (by kernel_rfl)).conv (fun _ => rfl) fun y h => I64_wf h
theorem opens4 : Opens Tryd.prog 4 1 (fun b : Bool => [.bool b]) (fun _ => True) := opens_bool Tryd.underlying4 (by kernel_rfl)
theorem opens5 : Opens Tryd.prog 5 1 (fun n : Int => [.int .u8 n]) byte := (opens_int Tryd.underlying5 (by kernel_rfl)).conv (fun _ => rfl) fun y h => u8_wf h
theorem opens56 : Opens Tryd.prog 56 1 (fun n : Int => [.int .u16 n]) (fun n => 0 ≤ n ∧ n ≤ 65535) := (opens_int Tryd.underlying56 (by kernel_rfl)).conv (fun _ => rfl) fun y h => u16_wf h
theorem opens25 : Opens Tryd.prog 25 1 (fun n : Int => [.int .u32 n]) (fun n => 0 ≤ n ∧ n ≤ 4294967295) := (opens_int Tryd.underlying25 (by kernel_rfl)).conv (fun _ => rfl) fun y h => u32_wf h
theorem opens22 : Opens Tryd.prog 22 1 (fun l : List Int => [.sl false 1 (l.map encB)]) (fun l => l.length ≤ 140737488351232 ∧ ∀ b ∈ l, byte b) :=
  (opens_slice (B := 1) Tryd.underlying22 (by kernel_rfl) (by kernel_rfl) (by decide) (by decide) opens5).conv (fun _ => rfl) fun y h => ⟨h.2.1, h.2.2⟩
theorem opens28 : Opens Tryd.prog 28 1 (fun l : List (List Int) => [.sl false 1 (l.map encP)]) (fun l => l.length ≤ 140737488351232 ∧ ∀ p ∈ l, p.length ≤ 140737488351232 ∧ ∀ b ∈ p, byte b) :=
  (opens_slice (B := 24) Tryd.underlying28 (by kernel_rfl) (by kernel_rfl) (by decide) (by decide) opens22).conv (fun _ => rfl) fun y h => ⟨h.2.1, h.2.2⟩
def Img.wf (m : Img) : Prop := I64 m.ver ∧ m.body.length ≤ 140737488351232 ∧ ∀ b ∈ m.body, byte b
theorem opens24 : Opens Tryd.prog 24 2 encImg Img.wf :=
  (opens_struct Tryd.underlying24 (by kernel_rfl) (opensF_cons rfl opens3 (opensF_one rfl opens22)) (fun x : Img => (x.ver, x.body)) (fun p => ⟨p.1, p.2⟩) (fun _ => rfl)).conv (fun _ => rfl) fun y h => ⟨h.1, h.2⟩
end Go.Proofs.YtoifmpiikopelaaDoorFw

/-
  The law TopRecords, of arguments as they read: structs with arrays of two.
-/
namespace Go.Proofs.YtoifmpiikopelaaDoorFw
open Go Go.Proofs Go.ChangeShapes Go.WideShapes Go.RowKit
set_option linter.unusedVariables false
set_option linter.unusedSimpArgs false

/-- An array of two integers. -/
theorem opens_ints2 {P : Program} {t e : TypeId} {k : IntKind} (ht : P.underlying t = some (.array 2 e)) (hc : P.cellsOf t = 2) (hce : P.cellsOf e = 1) (he : P.underlying e = some (.int k)) : Opens P t 2 (fun p : Int × Int => [.int k p.1, .int k p.2]) (fun _ => True) := by
  refine ⟨hc, fun _ => rfl, fun H en W fuel cs x h _ => ?_⟩
  obtain ⟨xs, m, _, _, hl, hxs, hx⟩ := DataW.trod_array ht h
  rw [hc] at hl
  match cs, hl with
  | [u, v], _ =>
    match xs, hxs with
    | [x0, x1], _ =>
      have h0 := hx 0 (by decide)
      have h1 := hx 1 (by decide)
      rw [hce] at h0 h1
      obtain ⟨a, ea, _⟩ := DataW.trod_int he (show DataW.trod _ _ _ _ _ _ _ _ _ = some x0 from h0)
      obtain ⟨b, eb, _⟩ := DataW.trod_int he (show DataW.trod _ _ _ _ _ _ _ _ _ = some x1 from h1)
      simp at ea eb
      subst ea eb
      exact ⟨(a, b), RFL.append (ps := [.int k a]) (cs := [.int k a]) (.one rfl (.int _ _)) (.one rfl (.int _ _)), trivial⟩
theorem opens38 : Opens Tryd.prog 38 2 (fun p : Int × Int => [.int .i64 p.1, .int .i64 p.2]) (fun _ => True) := opens_ints2 Tryd.underlying38 (by kernel_rfl) (by kernel_rfl) Tryd.underlying3
theorem opens40 : Opens Tryd.prog 40 6 encRec (fun _ => True) :=
  (opens_struct Tryd.underlying40 (by kernel_rfl) (opensF_cons rfl opens3 (opensF_cons rfl opens38 (opensF_cons rfl opens38 (opensF_one rfl opens3)))) (fun r : Rec => (r.seq, (r.s0, r.s1), (r.v0, r.v1), r.tries)) (fun p => ⟨p.1, p.2.1.1, p.2.1.2, p.2.2.1.1, p.2.2.1.2, p.2.2.2⟩) (fun _ => rfl)).conv (fun _ => rfl) fun y h => trivial
theorem opens46 : Opens Tryd.prog 46 1 (fun l : List Rec => [.sl false 6 (l.map encRec)]) (fun l => l.length ≤ 140737488351232) :=
  (opens_slice (B := 48) Tryd.underlying46 (by kernel_rfl) (by kernel_rfl) (by decide) (by decide) opens40).conv (fun _ => rfl) fun y h => h.2.1
theorem lawTopRecordsA (m : Img) (key : Int) (l : List Rec) (cuts : List Int) (hm : m.wf) (hk : 0 ≤ key ∧ key ≤ 4294967295) (hl : l.length ≤ 140737488351232) (hc : cuts.length ≤ 140737488351232 ∧ ∀ x ∈ cuts, byte x) :
    FnS Tryd.prog 4 [.agg (encImg m), .int .u32 key, .sl false 6 (l.map encRec), .sl false 1 (cuts.map encB)] [] (.bool true) [] := lawTopRecords m key l cuts hm.2.2 hk hl hc.1 hc.2
end Go.Proofs.YtoifmpiikopelaaDoorFw
