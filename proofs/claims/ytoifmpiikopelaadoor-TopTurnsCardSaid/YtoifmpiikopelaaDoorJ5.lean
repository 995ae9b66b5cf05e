import Derived.Test.YtoifmpiikopelaaDoorJ4
import Derived.Test.YtoifmpiikopelaaDoorJ2
import Derived.Test.YtoifmpiikopelaaDoorJ1
/-
  Images that are saved onto a fresh flash, with the power on (no program in sight).
-/
namespace Go.Proofs.YtoifmpiikopelaaDoorFw
open Go Go.Proofs
set_option linter.unusedVariables false
set_option linter.unusedSimpArgs false

/-- The flash behind so many blocks saved, but the one of a number. -/
def stF (f : Flash) (s : Nat) (b : List Int) (skip : Nat) : Nat → Flash
  | 0 => f
  | k + 1 => if k = skip then stF f s b skip k else (saveF (stF f s b skip k) s k (pieceOf b k)).1
def stR (f : Flash) (s : Nat) (b : List Int) (skip k : Nat) : Int := (saveF (stF f s b skip k) s k (pieceOf b k)).2
structure OnOk (f g : Flash) (s : Nat) : Prop where
  big : g.big
  down : g.down = false
  left : g.left = -1
  wear : g.wear = f.wear
  low : Agree 0 (2 + 34 * s) f.pages g.pages
  high : Agree (36 + 34 * s) 70 f.pages g.pages
theorem st_step {f : Flash} {s : Nat} {b : List Int} (skip : Nat) (hf : f.big) (hd : f.down = false) (hl : f.left = -1) (hs : s ≤ 1) (hb : ∀ x ∈ b, byte x) (hn : nBlocks b ≤ 34) (hc : ∀ j, j < nBlocks b → f.pages.getD (2 + 34 * s + j) [] = clean64) :
    ∀ k, k ≤ nBlocks b → OnOk f (stF f s b skip k) s ∧ (∀ j, j < nBlocks b → (stF f s b skip k).pages.getD (2 + 34 * s + j) [] = if j < k ∧ j ≠ skip then pad (pieceOf b j) else clean64) ∧ (k < nBlocks b → stR f s b skip k = 0)
  | 0, hk => by
    refine ⟨⟨hf, hd, hl, rfl, Agree.refl _ _ _, Agree.refl _ _ _⟩, fun j hj => by rw [if_neg (by omega)]; exact hc j hj, fun hk => ?_⟩
    have hpk : 2 + 34 * s + 0 < f.pages.length := by rw [hf.n70]; omega
    have hpl := piece_len b 0
    have hcl := hc 0 hk
    rw [getD_pg hpk] at hcl
    show (saveF f s ((0 : Nat) : Int) (pieceOf b 0)).2 = 0
    rw [save_eq f s 0 b (by omega)]
    rcases write_cases (b := pieceOf b 0) hf.fine hpk hd (by omega) hcl with ⟨a1, _⟩ | ⟨_, a2, _⟩
    · exact a1
    · exact (a2 hl).elim
  | k + 1, hk => by
    obtain ⟨h1, h2, h3⟩ := st_step skip hf hd hl hs hb hn hc k (by omega)
    have key : OnOk f (stF f s b skip (k + 1)) s ∧ (∀ j, j < nBlocks b → (stF f s b skip (k + 1)).pages.getD (2 + 34 * s + j) [] = if j < k + 1 ∧ j ≠ skip then pad (pieceOf b j) else clean64) := by
      by_cases e : k = skip
      · have e1 : stF f s b skip (k + 1) = stF f s b skip k := by show (if k = skip then _ else _) = _; rw [if_pos e]
        rw [e1]
        refine ⟨h1, fun j hj => ?_⟩
        rw [h2 j hj]
        by_cases q : j < k ∧ j ≠ skip
        · rw [if_pos q, if_pos (by omega)]
        · rw [if_neg q, if_neg (by omega)]
      · have e1 : stF f s b skip (k + 1) = (saveF (stF f s b skip k) s k (pieceOf b k)).1 := by show (if k = skip then _ else _) = _; rw [if_neg e]
        rw [e1]
        have hpk : 2 + 34 * s + k < (stF f s b skip k).pages.length := by rw [h1.big.n70]; omega
        have hpl := piece_len b k
        have hcl := h2 k (by omega)
        rw [if_neg (by omega), getD_pg hpk] at hcl
        have hbg : (saveF (stF f s b skip k) s k (pieceOf b k)).1.big := big_save h1.big s k (piece_bytes hb k)
        rw [save_eq _ s k b (by omega)] at hbg ⊢
        rcases write_cases (b := pieceOf b k) h1.big.fine hpk h1.down (by omega) hcl with ⟨a1, a2, a3, a4, a5⟩ | ⟨_, a2, _⟩
        · generalize (writeF (stF f s b skip k) ((2 + 34 * s + k : Nat) : Int) 0 (pieceOf b k)).1 = g at *
          rw [laid_pad (by omega)] at a3
          refine ⟨⟨hbg, a2, a4 h1.left, a5.trans h1.wear, h1.low.trans (by rw [a3]; exact agree_set (.inr (by omega))), h1.high.trans (by rw [a3]; exact agree_set (.inl (by omega)))⟩, fun j hj => ?_⟩
          rw [a3]
          by_cases ej : j = k
          · subst ej
            rw [getD_set_eq hpk, if_pos ⟨by omega, e⟩]
          · rw [getD_set_ne (by omega), h2 j hj]
            by_cases q : j < k ∧ j ≠ skip
            · rw [if_pos q, if_pos (by omega)]
            · rw [if_neg q, if_neg (by omega)]
        · exact (a2 h1.left).elim
    refine ⟨key.1, key.2, fun hk2 => ?_⟩
    obtain ⟨h1, h2⟩ := key
    have hpk : 2 + 34 * s + (k + 1) < (stF f s b skip (k + 1)).pages.length := by rw [h1.big.n70]; omega
    have hpl := piece_len b (k + 1)
    have hcl := h2 (k + 1) hk2
    rw [if_neg (by omega), getD_pg hpk] at hcl
    unfold stR
    rw [save_eq _ s (k + 1) b (by omega)]
    rcases write_cases (b := pieceOf b (k + 1)) h1.big.fine hpk h1.down (by omega) hcl with ⟨a1, _⟩ | ⟨_, a2, _⟩
    · exact a1
    · exact (a2 h1.left).elim
theorem new_big : (newF 70).big := ⟨fine_new 70 (by decide) (by decide), by simp [newF]⟩
theorem new_page {j : Nat} (h : j < 70) : (newF 70).pages.getD j [] = clean64 := by
  unfold newF
  rw [List.getD_eq_getElem?_getD, List.getElem?_replicate, if_pos h]; rfl
theorem nb_pack {m : Img} (h : m.good) (key : Int) : nBlocks (packS m key) ≤ 34 ∧ 1 ≤ nBlocks (packS m key) := by
  have := packS_len m key
  have := h.n1; have := h.n2
  unfold nBlocks; omega
theorem stored_of {f : Flash} {s : Nat} {b : List Int} (h : ∀ j, j < nBlocks b → f.pages.getD (2 + 34 * s + j) [] = if j < nBlocks b ∧ j ≠ 99 then pad (pieceOf b j) else clean64) (hn : nBlocks b ≤ 34) : Stored f.pages s b :=
  ⟨by unfold nBlocks at hn; omega, fun j hj => by rw [h j hj, if_pos ⟨hj, by omega⟩]⟩
/-- A first record is put onto a flash without any. -/
theorem put_first {f : Flash} {r : Rec} (hf : f.big) (hd : f.down = false) (hl : f.left = -1) (hr : r.good) (ho : f.pages.getD (1 - r.pg) [] = clean64) :
    (putF f r).1.big ∧ (putF f r).2 = 0 ∧ (putF f r).1.down = false ∧ (putF f r).1.left = -1 ∧ RecOk (putF f r).1.pages r ∧ Agree 2 70 f.pages (putF f r).1.pages ∧ WearSet f.wear (putF f r).1.wear r.pg := by
  obtain ⟨_, p2, _⟩ := hr.pg
  have hk : r.pg < f.pages.length := by rw [hf.n70]; omega
  rcases put_cases hf hd hr with ⟨a1, a2, a3, a4, a5⟩ | ⟨_, a2, _⟩
  · refine ⟨big_put hf r, a1, a2, a4 hl, ⟨hr, ?_, fun i hi => ?_⟩, by rw [a3]; exact agree_set (.inl p2), by rw [a5]; exact wearSet (by rw [hf.wl]; omega)⟩
    · rw [a3, getD_set_eq hk]
      have := laid_take (b := recF r) (by rw [recF_len]; decide)
      rwa [recF_len] at this
    · rw [a3, getD_set_ne (by omega), ho] at hi
      rw [held_no0 (by rw [clean_first]; decide)] at hi
      cases hi
  · exact (a2 hl).elim
/-- The flash on which one image is proved, in slot 0. -/
def recL (v : Int) : Rec := ⟨1, 4, 1, v, 0, 0⟩
theorem recL_good {v : Int} (h : 0 ≤ v ∧ v < 2147483648) : (recL v).good := ⟨⟨by show (1 : Int) ≤ 4; decide, by show (4 : Int) ≤ 4; decide⟩, ⟨by show (1 : Int) ≤ 1; decide, by show (1 : Int) ≤ 4; decide⟩, h, ⟨by show (0 : Int) ≤ 0; decide, by show (0 : Int) < 2147483648; decide⟩, ⟨by show (0 : Int) < 1; decide, by show (1 : Int) < 2147483648; decide⟩, ⟨by show (0 : Int) ≤ 0; decide, by show (0 : Int) < 256; decide⟩⟩
def laidS (m : Img) (key : Int) : Flash := stF (newF 70) 0 (packS m key) 99 (nBlocks (packS m key))
def laidZ (m : Img) (key : Int) : Flash := (putF (laidS m key) (recL m.ver)).1
structure LaidOk (m : Img) (key : Int) (f : Flash) : Prop where
  big : f.big
  down : f.down = false
  left : f.left = -1
  rec_ : RecOk f.pages (recL m.ver)
  stored : Stored f.pages 0 (packS m key)
  clean : ∀ j, j < 34 → f.pages.getD (36 + j) [] = clean64
  wear : ∀ j, f.wear.getD j 0 = if j = 1 then 1 else 0
theorem laid_is {m : Img} (h : m.good) (key : Int) : (∀ k, k ≤ nBlocks (packS m key) → (stF (newF 70) 0 (packS m key) 99 k).big) ∧ (∀ k, k < nBlocks (packS m key) → stR (newF 70) 0 (packS m key) 99 k = 0) ∧ (putF (laidS m key) (recL m.ver)).2 = 0 ∧ LaidOk m key (laidZ m key) := by
  obtain ⟨hn, hn1⟩ := nb_pack h key
  have hst := fun k hk => st_step (s := 0) (b := packS m key) 99 new_big rfl rfl (by decide) (packS_bytes h key) hn (fun j hj => new_page (by omega)) k hk
  obtain ⟨h1, h2, _⟩ := hst (nBlocks (packS m key)) (Nat.le_refl _)
  have hg := recL_good h.ver
  have hpg : (recL m.ver).pg = 1 := rfl
  have h0 : (laidS m key).pages.getD 0 [] = clean64 := by
    have := h1.low 0 (by omega) (by omega)
    exact this.trans (new_page (by decide))
  obtain ⟨p1, p2, p3, p4, p5, p6, p7⟩ := put_first (f := laidS m key) h1.big h1.down h1.left hg (by rw [hpg]; exact h0)
  refine ⟨fun k hk => (hst k hk).1.big, fun k hk => (hst k (by omega)).2.2 hk, p2, ⟨p1, p3, p4, p5, (stored_of h2 hn).congr (p6.sub (by omega) (by omega)), fun j hj => ?_, fun j => ?_⟩⟩
  · have := p6 (36 + j) (by omega) (by omega)
    rw [show (laidZ m key).pages = (putF (laidS m key) (recL m.ver)).1.pages from rfl, this]
    exact (h1.high (36 + j) (by omega) (by omega)).trans (new_page (by omega))
  · have e := p7 j
    rw [show (laidZ m key).wear = (putF (laidS m key) (recL m.ver)).1.wear from rfl, e, hpg]
    have hw : (laidS m key).wear = (newF 70).wear := h1.wear
    have hz : (newF 70).wear.getD j 0 = 0 := by
      unfold newF
      rw [List.getD_eq_getElem?_getD, List.getElem?_replicate]
      split <;> rfl
    rw [hw, hz]
    rfl

/-! ### Blocks one behind the other, until one is refused -/
def sIt (f : Flash) (s : Nat) (b : List Int) (i : Nat) : Nat → Flash
  | 0 => f
  | k + 1 => (saveF (sIt f s b i k) s ((i + k : Nat) : Int) (pieceOf b (i + k))).1
def sErr (f : Flash) (s : Nat) (b : List Int) (i k : Nat) : Int := (saveF (sIt f s b i k) s ((i + k : Nat) : Int) (pieceOf b (i + k))).2
theorem sIt_succ (f : Flash) (s : Nat) (b : List Int) (i : Nat) : ∀ k, sIt f s b i (k + 1) = sIt (saveF f s (i : Int) (pieceOf b i)).1 s b (i + 1) k
  | 0 => rfl
  | k + 1 => by
    show (saveF (sIt f s b i (k + 1)) s _ _).1 = (saveF (sIt (saveF f s (i : Int) (pieceOf b i)).1 s b (i + 1) k) s _ _).1
    rw [sIt_succ f s b i k]
    have : i + (k + 1) = i + 1 + k := by omega
    rw [this]
theorem sErr_succ (f : Flash) (s : Nat) (b : List Int) (i k : Nat) : sErr f s b i (k + 1) = sErr (saveF f s (i : Int) (pieceOf b i)).1 s b (i + 1) k := by
  unfold sErr
  rw [sIt_succ]
  have : i + (k + 1) = i + 1 + k := by omega
  rw [this]
theorem savG_ex : ∀ (k : Nat) (f : Flash) (s : Nat) (b : List Int) (i : Nat), ∃ n, n ≤ k ∧ (∀ j, j < n → sErr f s b i j = 0) ∧ ((n = k ∧ savG f s b i k = (sIt f s b i k, 0)) ∨ (n < k ∧ sErr f s b i n ≠ 0 ∧ savG f s b i k = saveF (sIt f s b i n) s ((i + n : Nat) : Int) (pieceOf b (i + n))))
  | 0, f, s, b, i => ⟨0, Nat.le_refl _, by omega, .inl ⟨rfl, rfl⟩⟩
  | k + 1, f, s, b, i => by
    have e : savG f s b i (k + 1) = if (saveF f s i (pieceOf b i)).2 ≠ 0 then saveF f s i (pieceOf b i) else savG (saveF f s i (pieceOf b i)).1 s b (i + 1) k := rfl
    by_cases h : (saveF f s (i : Int) (pieceOf b i)).2 = 0
    · obtain ⟨n, h1, h2, h3⟩ := savG_ex k (saveF f s (i : Int) (pieceOf b i)).1 s b (i + 1)
      rw [if_neg (fun q => q h)] at e
      refine ⟨n + 1, by omega, fun j hj => ?_, ?_⟩
      · cases j with
        | zero => exact h
        | succ j => rw [sErr_succ]; exact h2 j (by omega)
      · rcases h3 with ⟨q1, q2⟩ | ⟨q1, q2, q3⟩
        · refine .inl ⟨by omega, ?_⟩
          rw [e, q2, sIt_succ]
        · refine .inr ⟨by omega, by rw [sErr_succ]; exact q2, ?_⟩
          rw [e, q3, sIt_succ]
          have : i + 1 + n = i + (n + 1) := by omega
          rw [this]
    · rw [if_pos h] at e
      exact ⟨0, by omega, by omega, .inr ⟨by omega, h, e⟩⟩
theorem sIt_big {f : Flash} (h : f.big) (s : Nat) {b : List Int} (hb : ∀ x ∈ b, byte x) (i : Nat) : ∀ k, (sIt f s b i k).big
  | 0 => h
  | k + 1 => big_save (sIt_big h s hb i k) _ _ (piece_bytes hb _)
end Go.Proofs.YtoifmpiikopelaaDoorFw

/-
  Walks: the laws' own helpers: small27, saved27, great24.
-/
namespace Go.Proofs.YtoifmpiikopelaaDoorFw
open Go Go.Proofs
set_option maxRecDepth 100000
set_option maxHeartbeats 4000000
set_option linter.unusedVariables false
set_option linter.unusedSimpArgs false

def smallB (m : Img) : Bool := decide (0 ≤ m.ver) && decide (m.ver < 2147483648) && decide (1 ≤ (m.body.length : Int)) && decide ((m.body.length : Int) ≤ 300)
theorem small27_ok (m : Img) : FnS Tryd.prog 13 [.agg (encImg m)] [] (.bool (smallB m)) [] := by
  refine fn_walk tabOk Tryd.func13 rfl (by decide +kernel) Tryd.ntmps13 Tryd.results13 (by simp) fun B hB => ?_
  try refine hK _ ?_
  repeat (first | refine awp_seq ?_ | refine awp_block ?_ | refine awp_skip ?_ | refine awp_scope ?_ | refine awp_label ?_)
  refine awp_region tabOk fun K hK => ?_
  simp -dsimp -implicitDefEqProofs only [encImg, push_cast, ↓trAdd_f, ↓stOf_f, seval]
  refine hK _ ?_
  cases hA : decide (0 ≤ m.ver) with
  | false =>
    have e : smallB m = false := by unfold smallB; rw [hA]; rfl
    try refine hK _ ?_
    repeat (first | refine awp_seq ?_ | refine awp_block ?_ | refine awp_skip ?_ | refine awp_scope ?_ | refine awp_label ?_)
    refine awp_region tabOk fun K hK => ?_
    simp -dsimp -implicitDefEqProofs only [hA, push_cast, ↓trAdd_f, ↓stOf_f, seval]
    refine hK _ (awp_ret ?_)
    simp -dsimp -implicitDefEqProofs only [e, push_cast, List.mem_append, List.mem_cons, List.mem_singleton, forall_eq_or_imp, forall_eq, ↓trAdd_f, ↓stOf_f, seval]
  | true =>
  cases hQ : decide (m.ver < 2147483648) with
  | false =>
    have e : smallB m = false := by unfold smallB; rw [hA, hQ]; rfl
    try refine hK _ ?_
    repeat (first | refine awp_seq ?_ | refine awp_block ?_ | refine awp_skip ?_ | refine awp_scope ?_ | refine awp_label ?_)
    refine awp_region tabOk fun K hK => ?_
    simp -dsimp -implicitDefEqProofs only [hA, hQ, push_cast, ↓trAdd_f, ↓stOf_f, seval]
    refine hK _ (awp_ret ?_)
    simp -dsimp -implicitDefEqProofs only [e, push_cast, List.mem_append, List.mem_cons, List.mem_singleton, forall_eq_or_imp, forall_eq, ↓trAdd_f, ↓stOf_f, seval]
  | true =>
  cases hD : decide (1 ≤ (m.body.length : Int)) with
  | false =>
    have e : smallB m = false := by unfold smallB; rw [hA, hQ, hD]; rfl
    try refine hK _ ?_
    repeat (first | refine awp_seq ?_ | refine awp_block ?_ | refine awp_skip ?_ | refine awp_scope ?_ | refine awp_label ?_)
    refine awp_region tabOk fun K hK => ?_
    simp -dsimp -implicitDefEqProofs only [hA, hQ, hD, push_cast, ↓trAdd_f, ↓stOf_f, seval]
    refine hK _ (awp_ret ?_)
    simp -dsimp -implicitDefEqProofs only [e, push_cast, List.mem_append, List.mem_cons, List.mem_singleton, forall_eq_or_imp, forall_eq, ↓trAdd_f, ↓stOf_f, seval]
  | true =>
    have e : smallB m = decide ((m.body.length : Int) ≤ 300) := by unfold smallB; rw [hA, hQ, hD]; rfl
    try refine hK _ ?_
    repeat (first | refine awp_seq ?_ | refine awp_block ?_ | refine awp_skip ?_ | refine awp_scope ?_ | refine awp_label ?_)
    refine awp_region tabOk fun K hK => ?_
    simp -dsimp -implicitDefEqProofs only [hA, hQ, hD, push_cast, ↓trAdd_f, ↓stOf_f, seval]
    refine hK _ (awp_ret ?_)
    simp -dsimp -implicitDefEqProofs only [e, push_cast, List.mem_append, List.mem_cons, List.mem_singleton, forall_eq_or_imp, forall_eq, ↓trAdd_f, ↓stOf_f, seval]
def greatB (m : Img) (key : Int) : Bool := decide ((m.body.length : Int) < 1) || decide (2048 < (m.body.length : Int)) || decide (m.ver < 0) || decide (2147483648 ≤ m.ver) || decide (key < 0) || decide (4294967296 ≤ key)
theorem great24_ok (m : Img) (key : Int) : FnS Tryd.prog 33 [.agg (encImg m), .int .i64 key] [] (.bool (greatB m key)) [] := by
  refine fn_walk tabOk Tryd.func33 rfl (by decide +kernel) Tryd.ntmps33 Tryd.results33 (by simp) fun B hB => ?_
  try refine hK _ ?_
  repeat (first | refine awp_seq ?_ | refine awp_block ?_ | refine awp_skip ?_ | refine awp_scope ?_ | refine awp_label ?_)
  refine awp_region tabOk fun K hK => ?_
  simp -dsimp -implicitDefEqProofs only [encImg, push_cast, ↓trAdd_f, ↓stOf_f, seval]
  refine hK _ ?_
  cases hA : decide ((m.body.length : Int) < 1) with
  | true =>
    have e : greatB m key = true := by unfold greatB; rw [hA]; rfl
    try refine hK _ ?_
    repeat (first | refine awp_seq ?_ | refine awp_block ?_ | refine awp_skip ?_ | refine awp_scope ?_ | refine awp_label ?_)
    refine awp_region tabOk fun K hK => ?_
    simp -dsimp -implicitDefEqProofs only [hA, push_cast, ↓trAdd_f, ↓stOf_f, seval]
    refine hK _ (awp_ret ?_)
    simp -dsimp -implicitDefEqProofs only [e, push_cast, List.mem_append, List.mem_cons, List.mem_singleton, forall_eq_or_imp, forall_eq, ↓trAdd_f, ↓stOf_f, seval]
  | false =>
  cases hQ : decide (2048 < (m.body.length : Int)) with
  | true =>
    have e : greatB m key = true := by unfold greatB; rw [hA, hQ]; rfl
    try refine hK _ ?_
    repeat (first | refine awp_seq ?_ | refine awp_block ?_ | refine awp_skip ?_ | refine awp_scope ?_ | refine awp_label ?_)
    refine awp_region tabOk fun K hK => ?_
    simp -dsimp -implicitDefEqProofs only [hA, hQ, push_cast, ↓trAdd_f, ↓stOf_f, seval]
    refine hK _ (awp_ret ?_)
    simp -dsimp -implicitDefEqProofs only [e, push_cast, List.mem_append, List.mem_cons, List.mem_singleton, forall_eq_or_imp, forall_eq, ↓trAdd_f, ↓stOf_f, seval]
  | false =>
  cases hD : decide (m.ver < 0) with
  | true =>
    have e : greatB m key = true := by unfold greatB; rw [hA, hQ, hD]; rfl
    try refine hK _ ?_
    repeat (first | refine awp_seq ?_ | refine awp_block ?_ | refine awp_skip ?_ | refine awp_scope ?_ | refine awp_label ?_)
    refine awp_region tabOk fun K hK => ?_
    simp -dsimp -implicitDefEqProofs only [hA, hQ, hD, push_cast, ↓trAdd_f, ↓stOf_f, seval]
    refine hK _ (awp_ret ?_)
    simp -dsimp -implicitDefEqProofs only [e, push_cast, List.mem_append, List.mem_cons, List.mem_singleton, forall_eq_or_imp, forall_eq, ↓trAdd_f, ↓stOf_f, seval]
  | false =>
  cases hE : decide (2147483648 ≤ m.ver) with
  | true =>
    have e : greatB m key = true := by unfold greatB; rw [hA, hQ, hD, hE]; rfl
    try refine hK _ ?_
    repeat (first | refine awp_seq ?_ | refine awp_block ?_ | refine awp_skip ?_ | refine awp_scope ?_ | refine awp_label ?_)
    refine awp_region tabOk fun K hK => ?_
    simp -dsimp -implicitDefEqProofs only [hA, hQ, hD, hE, push_cast, ↓trAdd_f, ↓stOf_f, seval]
    refine hK _ (awp_ret ?_)
    simp -dsimp -implicitDefEqProofs only [e, push_cast, List.mem_append, List.mem_cons, List.mem_singleton, forall_eq_or_imp, forall_eq, ↓trAdd_f, ↓stOf_f, seval]
  | false =>
  cases hH : decide (key < 0) with
  | true =>
    have e : greatB m key = true := by unfold greatB; rw [hA, hQ, hD, hE, hH]; rfl
    try refine hK _ ?_
    repeat (first | refine awp_seq ?_ | refine awp_block ?_ | refine awp_skip ?_ | refine awp_scope ?_ | refine awp_label ?_)
    refine awp_region tabOk fun K hK => ?_
    simp -dsimp -implicitDefEqProofs only [hA, hQ, hD, hE, hH, push_cast, ↓trAdd_f, ↓stOf_f, seval]
    refine hK _ (awp_ret ?_)
    simp -dsimp -implicitDefEqProofs only [e, push_cast, List.mem_append, List.mem_cons, List.mem_singleton, forall_eq_or_imp, forall_eq, ↓trAdd_f, ↓stOf_f, seval]
  | false =>
    have e : greatB m key = decide (4294967296 ≤ key) := by unfold greatB; rw [hA, hQ, hD, hE, hH]; rfl
    try refine hK _ ?_
    repeat (first | refine awp_seq ?_ | refine awp_block ?_ | refine awp_skip ?_ | refine awp_scope ?_ | refine awp_label ?_)
    refine awp_region tabOk fun K hK => ?_
    simp -dsimp -implicitDefEqProofs only [hA, hQ, hD, hE, hH, push_cast, ↓trAdd_f, ↓stOf_f, seval]
    refine hK _ (awp_ret ?_)
    simp -dsimp -implicitDefEqProofs only [e, push_cast, List.mem_append, List.mem_cons, List.mem_singleton, forall_eq_or_imp, forall_eq, ↓trAdd_f, ↓stOf_f, seval]
theorem blocks_get (b : List Int) (k : Nat) (hk : k < nBlocks b) : ((blocksOf b).map encT).getD k [] = [.sl true 1 ((pieceOf b k).map encB)] := by
  have hl : (blocksOf b).length = nBlocks b := by simp [blocksOf]
  rw [getD_map encT _ _ (by omega)]
  simp [blocksOf, encT]
theorem blocks_len (b : List Int) : ((blocksOf b).map encT).length = nBlocks b := by simp [blocksOf]
def sv27S (f : Flash) (s : Nat) (b : List Int) (lack : Bool) (skip k : Nat) : AS := { sl := [(1, .int .i64 s), (4, .bool lack), (5, .ptr 100 0), (10, .ptr 101 0), (13, .bool true), (14, .sl false 1 ((blocksOf b).map encT)), (15, .int .i64 k)], st := [(100, .box (encFlash (stF f s b skip k))), (101, .box (encFlash flash0))], nx := 200, n := 57 }
theorem saved27_ok (f : Flash) (s : Nat) (m : Img) (key : Int) (lack : Bool) (skip : Nat) (hskip : skip = if lack then 0 else 99) (hm : m.good) (hk : mayS key = true) (hs : s ≤ 1)
    (hbig : ∀ k, k ≤ nBlocks (packS m key) → (stF f s (packS m key) skip k).big) (herr : ∀ k, k < nBlocks (packS m key) → k ≠ skip → stR f s (packS m key) skip k = 0) :
    FnS Tryd.prog 14 [.agg (encFlash f), .int .i64 s, .agg (encImg m), .int .i64 key, .bool lack] [] (.tup [.agg (encFlash (stF f s (packS m key) skip (nBlocks (packS m key)))), .bool true]) [] := by
  have hpl := packS_len m key
  have hn2 := hm.n2
  obtain ⟨hnb, hnb1⟩ := nb_pack hm key
  refine fn_walk tabOk Tryd.func14 rfl (by decide +kernel) Tryd.ntmps14 Tryd.results14 (by simp) fun B hB => ?_
  try refine hK _ ?_
  repeat (first | refine awp_seq ?_ | refine awp_block ?_ | refine awp_skip ?_ | refine awp_scope ?_ | refine awp_label ?_)
  refine awp_region tabOk fun K hK => ?_
  simp -dsimp -implicitDefEqProofs only [encFlash, encImg, push_cast, ↓trAdd_f, ↓stOf_f, seval]
  refine hK _ ?_
  try refine hK _ ?_
  repeat (first | refine awp_seq ?_ | refine awp_block ?_ | refine awp_skip ?_ | refine awp_scope ?_ | refine awp_label ?_)
  refine awp_region tabOk fun K hK => ?_
  simp -dsimp -implicitDefEqProofs only [push_cast, ↓trAdd_f, ↓stOf_f, seval]
  refine callK_simple (pack_ok m key hm.right hk) ?_ rfl fun _ => ?_
  · simp -dsimp -implicitDefEqProofs only [encImg, push_cast, List.mem_append, List.mem_cons, List.mem_singleton, forall_eq_or_imp, forall_eq, ↓trAdd_f, ↓stOf_f, seval]
  generalize packS m key = b at *
  simp -dsimp -implicitDefEqProofs only [push_cast, ↓trAdd_f, ↓stOf_f, seval]
  refine hK _ ?_
  try refine hK _ ?_
  repeat (first | refine awp_seq ?_ | refine awp_block ?_ | refine awp_skip ?_ | refine awp_scope ?_ | refine awp_label ?_)
  refine awp_region tabOk fun K hK => ?_
  simp -dsimp -implicitDefEqProofs only [push_cast, ↓trAdd_f, ↓stOf_f, seval]
  refine callK_simple (blocks_ok b (by omega)) ?_ rfl fun _ => ?_
  · simp -dsimp -implicitDefEqProofs only [push_cast, List.mem_append, List.mem_cons, List.mem_singleton, forall_eq_or_imp, forall_eq, ↓trAdd_f, ↓stOf_f, seval]
  simp -dsimp -implicitDefEqProofs only [push_cast, ↓trAdd_f, ↓stOf_f, seval]
  refine hK _ ?_
  try refine hK _ ?_
  repeat (first | refine awp_seq ?_ | refine awp_block ?_ | refine awp_skip ?_ | refine awp_scope ?_ | refine awp_label ?_)
  refine awp_region tabOk fun K hK => ?_
  simp -dsimp -implicitDefEqProofs only [push_cast, ↓trAdd_f, ↓stOf_f, seval]
  refine hK _ (awp_block ?_)
  refine awp_for (fun k : Nat => sv27S f s b lack skip k) (fun k => k ≤ nBlocks b) (fun k => nBlocks b - k) 0 (Nat.zero_le _) ?_ fun k hk => ?_
  · simp only [sv27S, stF]
    refine le_intro hB [(100, 0), (101, 16)] (by simp) (fun b hb => absurd hb (Nat.not_lt_zero b)) rfl ?_ ?_ rfl <;> simp -dsimp -implicitDefEqProofs only [encFlash, flash0, push_cast, ↓trAdd_f, ↓stOf_f, seval]
  have hbl := blocks_len b
  simp only [sv27S]
  by_cases hlt : k < nBlocks b
  · have d : decide ((k : Int) < (nBlocks b : Int)) = true := by simpa using hlt
    have w : IntKind.i64.wrap ((k : Int) + 1) = (k : Int) + 1 := wrap_i64 (by omega) (by omega)
    have w1 : IntKind.i64.wrap 1 = 1 := by decide
    try refine hK _ ?_
    repeat (first | refine awp_seq ?_ | refine awp_block ?_ | refine awp_skip ?_ | refine awp_scope ?_ | refine awp_label ?_)
    refine awp_region tabOk fun K hK => ?_
    simp -dsimp -implicitDefEqProofs only [hbl, d, push_cast, ↓trAdd_f, ↓stOf_f, seval]
    try refine hK _ ?_
    repeat (first | refine awp_seq ?_ | refine awp_block ?_ | refine awp_skip ?_ | refine awp_scope ?_ | refine awp_label ?_)
    refine awp_cond (b := true) (by simp -dsimp -implicitDefEqProofs only [push_cast, ↓trAdd_f, ↓stOf_f, seval]) (fun h => ?_) (fun h => ?_)
    rotate_left
    · cases h
    refine awp_skip ?_
    by_cases hsk : k = skip
    · have e1 : stF f s b skip (k + 1) = stF f s b skip k := by show (if k = skip then _ else _) = _; rw [if_pos hsk]
      have hlk : lack = true ∧ k = 0 := by
        cases lack with
        | true => exact ⟨rfl, by rw [hsk, hskip]; rfl⟩
        | false => exfalso; rw [if_neg (by decide)] at hskip; omega
      obtain ⟨rfl, rfl⟩ := hlk
      try refine hK _ ?_
      repeat (first | refine awp_seq ?_ | refine awp_block ?_ | refine awp_skip ?_ | refine awp_scope ?_ | refine awp_label ?_)
      refine awp_region tabOk fun K hK => ?_
      simp -dsimp -implicitDefEqProofs only [push_cast, ↓trAdd_f, ↓stOf_f, seval]
      refine hK _ ?_
      try refine hK _ ?_
      repeat (first | refine awp_seq ?_ | refine awp_block ?_ | refine awp_skip ?_ | refine awp_scope ?_ | refine awp_label ?_)
      refine awp_cond (b := false) (by simp -dsimp -implicitDefEqProofs only [push_cast, ↓trAdd_f, ↓stOf_f, seval]) (fun h => ?_) (fun h => ?_)
      · cases h
      refine awp_skip ?_
      try refine hK _ ?_
      repeat (first | refine awp_seq ?_ | refine awp_block ?_ | refine awp_skip ?_ | refine awp_scope ?_ | refine awp_label ?_)
      refine awp_region tabOk fun K hK => ?_
      simp -dsimp -implicitDefEqProofs only [w1, push_cast, ↓trAdd_f, ↓stOf_f, seval]
      refine hK _ ⟨1, hlt, by omega, ?_⟩
      rw [← hsk] at e1
      rw [← hsk, e1]
      refine le_intro hB [] (by simp) (fun b _ => rfl) rfl ?_ ?_ rfl <;> simp -dsimp -implicitDefEqProofs only [encFlash, push_cast, ↓trAdd_f, ↓stOf_f, seval]
    · have e1 : stF f s b skip (k + 1) = (saveF (stF f s b skip k) s k (pieceOf b k)).1 := by show (if k = skip then _ else _) = _; rw [if_neg hsk]
      have e2 := herr k hlt hsk
      unfold stR at e2
      have hbk := hbig k (by omega)
      have hpl2 := piece_len b k
      have hg := blocks_get b k hlt
      have hsv := save_ok (stF f s b skip k) s k true (pieceOf b k) hbk.fine (by omega) (by omega)
      rw [← e1, e2] at hsv
      by_cases h0 : 0 < k
      · have d0 : decide (0 < (k : Int)) = true := by simpa using h0
        try refine hK _ ?_
        repeat (first | refine awp_seq ?_ | refine awp_block ?_ | refine awp_skip ?_ | refine awp_scope ?_ | refine awp_label ?_)
        refine awp_region tabOk fun K hK => ?_
        simp -dsimp -implicitDefEqProofs only [d0, push_cast, ↓trAdd_f, ↓stOf_f, seval]
        refine hK _ ?_
        try refine hK _ ?_
        repeat (first | refine awp_seq ?_ | refine awp_block ?_ | refine awp_skip ?_ | refine awp_scope ?_ | refine awp_label ?_)
        refine awp_cond (b := true) (by simp -dsimp -implicitDefEqProofs only [push_cast, ↓trAdd_f, ↓stOf_f, seval]) (fun h => ?_) (fun h => ?_)
        rotate_left
        · cases h
        try refine hK _ ?_
        repeat (first | refine awp_seq ?_ | refine awp_block ?_ | refine awp_skip ?_ | refine awp_scope ?_ | refine awp_label ?_)
        refine awp_draw tabOk (by kernel_rfl) (by kernel_rfl) fun K hK C hC => ?_
        simp -dsimp -implicitDefEqProofs only [encFlash, hg, hbl, push_cast, ↓trAdd_f, ↓stOf_f, seval]
        refine ⟨⟨by omega, by omega⟩, ?_⟩
        refine callK_simple hsv ?_ rfl fun _ => ?_
        · simp -dsimp -implicitDefEqProofs only [encFlash, push_cast, List.mem_append, List.mem_cons, List.mem_singleton, forall_eq_or_imp, forall_eq, ↓trAdd_f, ↓stOf_f, seval]
        simp -dsimp -implicitDefEqProofs only [encFlash, push_cast, ↓trAdd_f, ↓stOf_f, seval]
        refine ⟨hC _ (by kernel_rfl), hK _ ?_⟩
        try refine hK _ ?_
        repeat (first | refine awp_seq ?_ | refine awp_block ?_ | refine awp_skip ?_ | refine awp_scope ?_ | refine awp_label ?_)
        refine awp_region tabOk fun K hK => ?_
        simp -dsimp -implicitDefEqProofs only [push_cast, ↓trAdd_f, ↓stOf_f, seval]
        refine hK _ ?_
        try refine hK _ ?_
        repeat (first | refine awp_seq ?_ | refine awp_block ?_ | refine awp_skip ?_ | refine awp_scope ?_ | refine awp_label ?_)
        refine awp_region tabOk fun K hK => ?_
        simp -dsimp -implicitDefEqProofs only [encFlash, push_cast, ↓trAdd_f, ↓stOf_f, seval]
        refine hK _ ?_
        try refine hK _ ?_
        repeat (first | refine awp_seq ?_ | refine awp_block ?_ | refine awp_skip ?_ | refine awp_scope ?_ | refine awp_label ?_)
        refine awp_region tabOk fun K hK => ?_
        simp -dsimp -implicitDefEqProofs only [w, push_cast, ↓trAdd_f, ↓stOf_f, seval]
        refine hK _ ⟨k + 1, hlt, by omega, ?_⟩
        refine le_intro hB [] (by simp) (fun b _ => rfl) rfl ?_ ?_ rfl <;> simp -dsimp -implicitDefEqProofs only [encFlash, push_cast, ↓trAdd_f, ↓stOf_f, seval]
      · have d0 : decide (0 < (k : Int)) = false := by simpa using h0
        have hl : lack = false := by
          cases lack with
          | false => rfl
          | true => exfalso; rw [if_pos rfl] at hskip; omega
        subst hl
        try refine hK _ ?_
        repeat (first | refine awp_seq ?_ | refine awp_block ?_ | refine awp_skip ?_ | refine awp_scope ?_ | refine awp_label ?_)
        refine awp_region tabOk fun K hK => ?_
        simp -dsimp -implicitDefEqProofs only [d0, push_cast, ↓trAdd_f, ↓stOf_f, seval]
        refine hK _ ?_
        try refine hK _ ?_
        repeat (first | refine awp_seq ?_ | refine awp_block ?_ | refine awp_skip ?_ | refine awp_scope ?_ | refine awp_label ?_)
        refine awp_cond (b := true) (by simp -dsimp -implicitDefEqProofs only [push_cast, ↓trAdd_f, ↓stOf_f, seval]) (fun h => ?_) (fun h => ?_)
        rotate_left
        · cases h
        try refine hK _ ?_
        repeat (first | refine awp_seq ?_ | refine awp_block ?_ | refine awp_skip ?_ | refine awp_scope ?_ | refine awp_label ?_)
        refine awp_draw tabOk (by kernel_rfl) (by kernel_rfl) fun K hK C hC => ?_
        simp -dsimp -implicitDefEqProofs only [encFlash, hg, hbl, push_cast, ↓trAdd_f, ↓stOf_f, seval]
        refine ⟨⟨by omega, by omega⟩, ?_⟩
        refine callK_simple hsv ?_ rfl fun _ => ?_
        · simp -dsimp -implicitDefEqProofs only [encFlash, push_cast, List.mem_append, List.mem_cons, List.mem_singleton, forall_eq_or_imp, forall_eq, ↓trAdd_f, ↓stOf_f, seval]
        simp -dsimp -implicitDefEqProofs only [encFlash, push_cast, ↓trAdd_f, ↓stOf_f, seval]
        refine ⟨hC _ (by kernel_rfl), hK _ ?_⟩
        try refine hK _ ?_
        repeat (first | refine awp_seq ?_ | refine awp_block ?_ | refine awp_skip ?_ | refine awp_scope ?_ | refine awp_label ?_)
        refine awp_region tabOk fun K hK => ?_
        simp -dsimp -implicitDefEqProofs only [push_cast, ↓trAdd_f, ↓stOf_f, seval]
        refine hK _ ?_
        try refine hK _ ?_
        repeat (first | refine awp_seq ?_ | refine awp_block ?_ | refine awp_skip ?_ | refine awp_scope ?_ | refine awp_label ?_)
        refine awp_region tabOk fun K hK => ?_
        simp -dsimp -implicitDefEqProofs only [encFlash, push_cast, ↓trAdd_f, ↓stOf_f, seval]
        refine hK _ ?_
        try refine hK _ ?_
        repeat (first | refine awp_seq ?_ | refine awp_block ?_ | refine awp_skip ?_ | refine awp_scope ?_ | refine awp_label ?_)
        refine awp_region tabOk fun K hK => ?_
        simp -dsimp -implicitDefEqProofs only [w, push_cast, ↓trAdd_f, ↓stOf_f, seval]
        refine hK _ ⟨k + 1, hlt, by omega, ?_⟩
        refine le_intro hB [] (by simp) (fun b _ => rfl) rfl ?_ ?_ rfl <;> simp -dsimp -implicitDefEqProofs only [encFlash, push_cast, ↓trAdd_f, ↓stOf_f, seval]
  · have hke : k = nBlocks b := by omega
    subst hke
    have d : decide ((nBlocks b : Int) < (nBlocks b : Int)) = false := by simp
    try refine hK _ ?_
    repeat (first | refine awp_seq ?_ | refine awp_block ?_ | refine awp_skip ?_ | refine awp_scope ?_ | refine awp_label ?_)
    refine awp_region tabOk fun K hK => ?_
    simp -dsimp -implicitDefEqProofs only [hbl, d, push_cast, ↓trAdd_f, ↓stOf_f, seval]
    try refine hK _ ?_
    repeat (first | refine awp_seq ?_ | refine awp_block ?_ | refine awp_skip ?_ | refine awp_scope ?_ | refine awp_label ?_)
    refine awp_cond (b := false) (by simp -dsimp -implicitDefEqProofs only [push_cast, ↓trAdd_f, ↓stOf_f, seval]) (fun h => ?_) (fun h => ?_)
    · cases h
    refine awp_exit rfl ?_
    try refine hK _ ?_
    repeat (first | refine awp_seq ?_ | refine awp_block ?_ | refine awp_skip ?_ | refine awp_scope ?_ | refine awp_label ?_)
    refine awp_region tabOk fun K hK => ?_
    simp -dsimp -implicitDefEqProofs only [encFlash, push_cast, ↓trAdd_f, ↓stOf_f, seval]
    refine hK _ (awp_ret ?_)
    simp -dsimp -implicitDefEqProofs only [encFlash, push_cast, List.mem_append, List.mem_cons, List.mem_singleton, forall_eq_or_imp, forall_eq, ↓trAdd_f, ↓stOf_f, seval]
end Go.Proofs.YtoifmpiikopelaaDoorFw

/-
  One image proved, alone; two of them (no program in sight).
-/
namespace Go.Proofs.YtoifmpiikopelaaDoorFw
open Go Go.Proofs
set_option linter.unusedVariables false
set_option linter.unusedSimpArgs false

def recP (s : Nat) (v : Int) : Rec := if s = 0 then ⟨1, 4, 1, v, 0, 0⟩ else ⟨1, 1, 4, 0, v, 0⟩
theorem recQ_good {a b v w : Int} (ha : 1 ≤ a ∧ a ≤ 4) (hb : 1 ≤ b ∧ b ≤ 4) (hv : 0 ≤ v ∧ v < 2147483648) (hw : 0 ≤ w ∧ w < 2147483648) : (Rec.mk 1 a b v w 0).good :=
  ⟨ha, hb, hv, hw, ⟨by show (0 : Int) < 1; decide, by show (1 : Int) < 2147483648; decide⟩, ⟨by show (0 : Int) ≤ 0; decide, by show (0 : Int) < 256; decide⟩⟩
theorem recP_good (s : Nat) {v : Int} (h : 0 ≤ v ∧ v < 2147483648) : (recP s v).good := by
  unfold recP
  split
  · exact recQ_good (by decide) (by decide) h (by decide)
  · exact recQ_good (by decide) (by decide) (by decide) h
def oneS (m : Img) (key : Int) (s : Nat) : Flash := stF (newF 70) s (packS m key) 99 (nBlocks (packS m key))
def oneZ (m : Img) (key : Int) (s : Nat) : Flash := (putF (oneS m key s) (recP s m.ver)).1
structure OneOk (m : Img) (key : Int) (s : Nat) (f : Flash) : Prop where
  big : f.big
  down : f.down = false
  left : f.left = -1
  rec_ : RecOk f.pages (recP s m.ver)
  stored : Stored f.pages s (packS m key)
theorem recP_seq (s : Nat) (v : Int) : (recP s v).seq = 1 := by unfold recP; split <;> rfl
theorem recP_pg (s : Nat) (v : Int) : (recP s v).pg = 1 := by unfold Rec.pg; rw [recP_seq]; rfl
theorem one_is {m : Img} (h : m.good) (key : Int) {s : Nat} (hs : s ≤ 1) : (∀ k, k ≤ nBlocks (packS m key) → (stF (newF 70) s (packS m key) 99 k).big) ∧ (∀ k, k < nBlocks (packS m key) → stR (newF 70) s (packS m key) 99 k = 0) ∧ (oneS m key s).big ∧ (putF (oneS m key s) (recP s m.ver)).2 = 0 ∧ OneOk m key s (oneZ m key s) := by
  obtain ⟨hn, hn1⟩ := nb_pack h key
  have hst := fun k hk => st_step (s := s) (b := packS m key) 99 new_big rfl rfl hs (packS_bytes h key) hn (fun j hj => new_page (by omega)) k hk
  obtain ⟨h1, h2, _⟩ := hst (nBlocks (packS m key)) (Nat.le_refl _)
  have hg := recP_good s h.ver
  have hpg := recP_pg s m.ver
  have h0 : (oneS m key s).pages.getD 0 [] = clean64 := by
    have := h1.low 0 (by omega) (by omega)
    exact this.trans (new_page (by decide))
  obtain ⟨p1, p2, p3, p4, p5, p6, p7⟩ := put_first (f := oneS m key s) h1.big h1.down h1.left hg (by rw [hpg]; exact h0)
  exact ⟨fun k hk => (hst k hk).1.big, fun k hk => (hst k (by omega)).2.2 hk, h1.big, p2, ⟨p1, p3, p4, p5, (stored_of h2 hn).congr (p6.sub (by omega) (by omega))⟩⟩
theorem power_big {f : Flash} (h : f.big) (l : Int) (h1 : -1 ≤ l) (h2 : l ≤ 9223372036854775807) : (powerF f l).big := ⟨fine_power h.fine l h1 h2, h.n70⟩
theorem power_power (f : Flash) (a b : Int) : powerF (powerF f a) b = powerF f b := rfl
theorem recP_st (s : Nat) (v : Int) (hs : s ≤ 1) : (recP s v).st s = 4 ∧ (recP s v).st (1 - s) = 1 := by
  have hs' : s = 0 ∨ s = 1 := by omega
  rcases hs' with rfl | rfl
  · exact ⟨rfl, rfl⟩
  · exact ⟨rfl, rfl⟩
theorem st_both {r : Rec} {s a b : Int} {t : Nat} (ht : t ≤ 1) (h1 : r.st t = a) (h2 : r.st (1 - t) = b) : ∀ i, i ≤ 1 → r.st i = a ∨ r.st i = b := fun i hi => by
  by_cases e : i = t
  · subst e; exact .inl h1
  · have : i = 1 - t := by omega
    subst this; exact .inr h2
theorem one_boot {m : Img} (h : m.good) {key : Int} (hk : mayS key = true) {s : Nat} (hs : s ≤ 1) {f : Flash} (hf : OneOk m key s f) : bootF f key = ⟨f, s, m, 0⟩ := by
  obtain ⟨h4, h1⟩ := recP_st s m.ver hs
  have tno : ∀ i, i ≤ 1 → trialB f (recP s m.ver) key i = false := fun i hi => by
    rcases st_both (s := 0) hs h4 h1 i hi with e | e
    · exact trial_no (.inl ⟨by rw [e]; decide, by rw [e]; decide⟩)
    · exact trial_no (.inl ⟨by rw [e]; decide, by rw [e]; decide⟩)
  exact boot_proved hf.rec_ hf.down hs (tno 0 (by decide)) (tno 1 (by decide)) h4 (whole_same h hk hf.stored hf.big.n70 hs hf.down) (proved_no (.inl (by rw [h1]; decide)))
theorem one_well {m : Img} {key : Int} {s : Nat} (hs : s ≤ 1) {f : Flash} (hf : OneOk m key s f) (t : Nat) (ht : t ≤ 1) : wellF f t = (f, if t = s then 0 else 1) := by
  obtain ⟨h4, h1⟩ := recP_st s m.ver hs
  by_cases e : t = s
  · subst e
    rw [well_4 hf.rec_ hf.down h4, if_pos rfl]
  · have : t = 1 - s := by omega
    subst this
    rw [well_no hf.rec_ hf.down (by rw [h1]; decide) (by rw [h1]; decide), if_neg e]
theorem one_power {m : Img} {key : Int} {s : Nat} {f : Flash} (hf : OneOk m key s f) (l : Int) (h1 : -1 ≤ l) (h2 : l ≤ 9223372036854775807) : (powerF f l).big ∧ RecOk (powerF f l).pages (recP s m.ver) ∧ Stored (powerF f l).pages s (packS m key) := ⟨power_big hf.big l h1 h2, hf.rec_, hf.stored⟩
/-- Whatever power there is: an image that is proved alone begins. -/
theorem one_boot_power {m : Img} (h : m.good) {key : Int} (hk : mayS key = true) {s : Nat} (hs : s ≤ 1) {f : Flash} (hf : OneOk m key s f) (l : Int) (hl1 : -1 ≤ l) (hl2 : l ≤ 9223372036854775807) : bootF (powerF f l) key = ⟨powerF f l, s, m, 0⟩ := by
  obtain ⟨h4, h1⟩ := recP_st s m.ver hs
  have tno : ∀ i, i ≤ 1 → trialB (powerF f l) (recP s m.ver) key i = false := fun i hi => by
    rcases st_both (s := 0) hs h4 h1 i hi with e | e
    · exact trial_no (.inl ⟨by rw [e]; decide, by rw [e]; decide⟩)
    · exact trial_no (.inl ⟨by rw [e]; decide, by rw [e]; decide⟩)
  exact boot_proved hf.rec_ rfl hs (tno 0 (by decide)) (tno 1 (by decide)) h4 (whole_same h hk hf.stored hf.big.n70 hs rfl) (proved_no (.inl (by rw [h1]; decide)))
theorem one_well_power {m : Img} {key : Int} {s : Nat} (hs : s ≤ 1) {f : Flash} (hf : OneOk m key s f) (l : Int) (t : Nat) (ht : t ≤ 1) : wellF (powerF f l) t = (powerF f l, if t = s then 0 else 1) := by
  obtain ⟨h4, h1⟩ := recP_st s m.ver hs
  by_cases e : t = s
  · subst e
    rw [well_4 (f := powerF f l) hf.rec_ rfl h4, if_pos rfl]
  · have : t = 1 - s := by omega
    subst this
    rw [well_no (f := powerF f l) hf.rec_ rfl (by rw [h1]; decide) (by rw [h1]; decide), if_neg e]
theorem small_good {m : Img} (hs : (decide (0 ≤ m.ver) && decide (m.ver < 2147483648) && decide (1 ≤ (m.body.length : Int)) && decide ((m.body.length : Int) ≤ 300)) = true) (hb : ∀ x ∈ m.body, byte x) : m.good ∧ m.body.length ≤ 300 := by
  simp only [Bool.and_eq_true, decide_eq_true_eq] at hs
  exact ⟨⟨by omega, by omega, by omega, hb⟩, by omega⟩
theorem may_u32 {k : Int} (h : 0 ≤ k ∧ k ≤ 4294967295) : mayS k = true := by
  unfold mayS
  simp only [Bool.and_eq_true, decide_eq_true_eq]
  exact h
end Go.Proofs.YtoifmpiikopelaaDoorFw

/-
  Walks: laid, proved24, and small things for the laws over loads.
-/
namespace Go.Proofs.YtoifmpiikopelaaDoorFw
open Go Go.Proofs
set_option maxRecDepth 100000
set_option maxHeartbeats 4000000
set_option linter.unusedVariables false
set_option linter.unusedSimpArgs false

attribute [push_cast] encFlash encImg encRec encLoad
def ldS (m : Img) (key : Int) (k : Nat) : AS := { sl := [(2, .ptr 100 0), (4, .ptr 101 0), (7, .bool true), (8, .ptr 102 0), (9, .sl false 1 ((blocksOf (packS m key)).map encT)), (10, .int .i64 k)], st := [(100, .box (encImg m)), (101, .box (encFlash flash0)), (102, .box (encFlash (stF (newF 70) 0 (packS m key) 99 k)))], nx := 2000, n := 59 }
theorem laid_ok (m : Img) (key : Int) (hm : m.good) (hk : mayS key = true) : FnS Tryd.prog 26 [.agg (encImg m), .int .i64 key] [] (.tup [.agg (encFlash (laidZ m key)), .bool true]) [] := by
  have hpl := packS_len m key
  have hn2 := hm.n2
  obtain ⟨hnb, hnb1⟩ := nb_pack hm key
  obtain ⟨hbig, herr, hpe, hL⟩ := laid_is hm key
  have hZ : putF (laidS m key) ⟨1, 4, 1, m.ver, 0, 0⟩ = (laidZ m key, 0) := Prod.ext rfl hpe
  have hpt := put_ok (laidS m key) ⟨1, 4, 1, m.ver, 0, 0⟩ (hbig _ (Nat.le_refl _)).fine
  rw [hZ] at hpt
  have hSe : stF (newF 70) 0 (packS m key) 99 (nBlocks (packS m key)) = laidS m key := rfl
  refine fn_walk tabOk Tryd.func26 rfl (by decide +kernel) Tryd.ntmps26 Tryd.results26 (by simp) fun B hB => ?_
  try refine hK _ ?_
  repeat (first | refine awp_seq ?_ | refine awp_block ?_ | refine awp_skip ?_ | refine awp_scope ?_ | refine awp_label ?_)
  refine awp_region tabOk fun K hK => ?_
  simp -dsimp -implicitDefEqProofs only [push_cast, ↓trAdd_f, ↓stOf_f, seval]
  refine hK _ ?_
  try refine hK _ ?_
  repeat (first | refine awp_seq ?_ | refine awp_block ?_ | refine awp_skip ?_ | refine awp_scope ?_ | refine awp_label ?_)
  refine awp_region tabOk fun K hK => ?_
  simp -dsimp -implicitDefEqProofs only [push_cast, ↓trAdd_f, ↓stOf_f, seval]
  refine callK_simple (pack_ok m key hm.right hk) ?_ rfl fun _ => ?_
  · simp -dsimp -implicitDefEqProofs only [push_cast, List.mem_append, List.mem_cons, List.mem_singleton, forall_eq_or_imp, forall_eq, ↓trAdd_f, ↓stOf_f, seval]
  simp -dsimp -implicitDefEqProofs only [push_cast, ↓trAdd_f, ↓stOf_f, seval]
  refine hK _ ?_
  try refine hK _ ?_
  repeat (first | refine awp_seq ?_ | refine awp_block ?_ | refine awp_skip ?_ | refine awp_scope ?_ | refine awp_label ?_)
  refine awp_region tabOk fun K hK => ?_
  simp -dsimp -implicitDefEqProofs only [push_cast, ↓trAdd_f, ↓stOf_f, seval]
  refine callK_simple fresh_ok ?_ rfl fun _ => ?_
  · simp -dsimp -implicitDefEqProofs only [push_cast, List.mem_append, List.mem_cons, List.mem_singleton, forall_eq_or_imp, forall_eq, ↓trAdd_f, ↓stOf_f, seval]
  simp -dsimp -implicitDefEqProofs only [push_cast, ↓trAdd_f, ↓stOf_f, seval]
  refine hK _ ?_
  try refine hK _ ?_
  repeat (first | refine awp_seq ?_ | refine awp_block ?_ | refine awp_skip ?_ | refine awp_scope ?_ | refine awp_label ?_)
  refine awp_region tabOk fun K hK => ?_
  simp -dsimp -implicitDefEqProofs only [push_cast, ↓trAdd_f, ↓stOf_f, seval]
  refine callK_simple (blocks_ok (packS m key) (by omega)) ?_ rfl fun _ => ?_
  · simp -dsimp -implicitDefEqProofs only [push_cast, List.mem_append, List.mem_cons, List.mem_singleton, forall_eq_or_imp, forall_eq, ↓trAdd_f, ↓stOf_f, seval]
  simp -dsimp -implicitDefEqProofs only [push_cast, ↓trAdd_f, ↓stOf_f, seval]
  refine hK _ ?_
  try refine hK _ ?_
  repeat (first | refine awp_seq ?_ | refine awp_block ?_ | refine awp_skip ?_ | refine awp_scope ?_ | refine awp_label ?_)
  refine awp_region tabOk fun K hK => ?_
  simp -dsimp -implicitDefEqProofs only [push_cast, ↓trAdd_f, ↓stOf_f, seval]
  refine hK _ (awp_block ?_)
  refine awp_for (fun k : Nat => ldS m key k) (fun k => k ≤ nBlocks (packS m key)) (fun k => nBlocks (packS m key) - k) 0 (Nat.zero_le _) ?_ fun k hk => ?_
  · simp only [ldS, stF]
    refine le_intro hB [(100, 0), (101, 8), (102, 96)] (by simp) (fun b hb => absurd hb (Nat.not_lt_zero b)) rfl ?_ ?_ rfl <;> simp -dsimp -implicitDefEqProofs only [flash0, push_cast, ↓trAdd_f, ↓stOf_f, seval]
  have hbl := blocks_len (packS m key)
  simp only [ldS]
  by_cases hlt : k < nBlocks (packS m key)
  · have d : decide ((k : Int) < (nBlocks (packS m key) : Int)) = true := by simpa using hlt
    have w : IntKind.i64.wrap ((k : Int) + 1) = (k : Int) + 1 := wrap_i64 (by omega) (by omega)
    have e1 : stF (newF 70) 0 (packS m key) 99 (k + 1) = (saveF (stF (newF 70) 0 (packS m key) 99 k) (0 : Nat) k (pieceOf (packS m key) k)).1 := by show (if k = 99 then _ else _) = _; rw [if_neg (by omega)]
    have e2 := herr k hlt
    unfold stR at e2
    have hpl2 := piece_len (packS m key) k
    have hg := blocks_get (packS m key) k hlt
    have hsv := save_ok (stF (newF 70) 0 (packS m key) 99 k) ((0 : Nat) : Int) k true (pieceOf (packS m key) k) (hbig k (by omega)).fine (.inl rfl) (by omega)
    rw [← e1, e2] at hsv
    have hsv' : FnS Tryd.prog 34 [.agg (encFlash (stF (newF 70) 0 (packS m key) 99 k)), .int .i64 0, .int .i64 k, .sl true 1 ((pieceOf (packS m key) k).map encB)] [] (.tup [.agg (encFlash (stF (newF 70) 0 (packS m key) 99 (k + 1))), .int .i64 0]) [] := hsv
    try refine hK _ ?_
    repeat (first | refine awp_seq ?_ | refine awp_block ?_ | refine awp_skip ?_ | refine awp_scope ?_ | refine awp_label ?_)
    refine awp_region tabOk fun K hK => ?_
    simp -dsimp -implicitDefEqProofs only [hbl, d, push_cast, ↓trAdd_f, ↓stOf_f, seval]
    try refine hK _ ?_
    repeat (first | refine awp_seq ?_ | refine awp_block ?_ | refine awp_skip ?_ | refine awp_scope ?_ | refine awp_label ?_)
    refine awp_cond (b := true) (by simp -dsimp -implicitDefEqProofs only [push_cast, ↓trAdd_f, ↓stOf_f, seval]) (fun h => ?_) (fun h => ?_)
    rotate_left
    · cases h
    refine awp_skip ?_
    try refine hK _ ?_
    repeat (first | refine awp_seq ?_ | refine awp_block ?_ | refine awp_skip ?_ | refine awp_scope ?_ | refine awp_label ?_)
    refine awp_draw tabOk (by kernel_rfl) (by kernel_rfl) fun K hK C hC => ?_
    simp -dsimp -implicitDefEqProofs only [hg, hbl, push_cast, ↓trAdd_f, ↓stOf_f, seval]
    refine ⟨⟨by omega, by omega⟩, ?_⟩
    refine callK_simple hsv' ?_ rfl fun _ => ?_
    · simp -dsimp -implicitDefEqProofs only [push_cast, List.mem_append, List.mem_cons, List.mem_singleton, forall_eq_or_imp, forall_eq, ↓trAdd_f, ↓stOf_f, seval]
    simp -dsimp -implicitDefEqProofs only [push_cast, ↓trAdd_f, ↓stOf_f, seval]
    refine ⟨hC _ (by kernel_rfl), hK _ ?_⟩
    try refine hK _ ?_
    repeat (first | refine awp_seq ?_ | refine awp_block ?_ | refine awp_skip ?_ | refine awp_scope ?_ | refine awp_label ?_)
    refine awp_region tabOk fun K hK => ?_
    simp -dsimp -implicitDefEqProofs only [push_cast, ↓trAdd_f, ↓stOf_f, seval]
    refine hK _ ?_
    try refine hK _ ?_
    repeat (first | refine awp_seq ?_ | refine awp_block ?_ | refine awp_skip ?_ | refine awp_scope ?_ | refine awp_label ?_)
    refine awp_cond (b := false) (by simp -dsimp -implicitDefEqProofs only [push_cast, ↓trAdd_f, ↓stOf_f, seval]) (fun h => ?_) (fun h => ?_)
    · cases h
    refine awp_skip ?_
    try refine hK _ ?_
    repeat (first | refine awp_seq ?_ | refine awp_block ?_ | refine awp_skip ?_ | refine awp_scope ?_ | refine awp_label ?_)
    refine awp_region tabOk fun K hK => ?_
    simp -dsimp -implicitDefEqProofs only [push_cast, ↓trAdd_f, ↓stOf_f, seval]
    refine hK _ ?_
    try refine hK _ ?_
    repeat (first | refine awp_seq ?_ | refine awp_block ?_ | refine awp_skip ?_ | refine awp_scope ?_ | refine awp_label ?_)
    refine awp_region tabOk fun K hK => ?_
    simp -dsimp -implicitDefEqProofs only [w, push_cast, ↓trAdd_f, ↓stOf_f, seval]
    refine hK _ ⟨k + 1, hlt, by omega, ?_⟩
    refine le_intro hB [(100, 100), (101, 101), (102, 102)] (by simp) (fun b hb => absurd hb (Nat.not_lt_zero b)) rfl ?_ ?_ rfl <;> simp -dsimp -implicitDefEqProofs only [push_cast, ↓trAdd_f, ↓stOf_f, seval]
  · have hke : k = nBlocks (packS m key) := by omega
    subst hke
    have d : decide ((nBlocks (packS m key) : Int) < (nBlocks (packS m key) : Int)) = false := by simp
    try refine hK _ ?_
    repeat (first | refine awp_seq ?_ | refine awp_block ?_ | refine awp_skip ?_ | refine awp_scope ?_ | refine awp_label ?_)
    refine awp_region tabOk fun K hK => ?_
    simp -dsimp -implicitDefEqProofs only [hbl, d, push_cast, ↓trAdd_f, ↓stOf_f, seval]
    try refine hK _ ?_
    repeat (first | refine awp_seq ?_ | refine awp_block ?_ | refine awp_skip ?_ | refine awp_scope ?_ | refine awp_label ?_)
    refine awp_cond (b := false) (by simp -dsimp -implicitDefEqProofs only [push_cast, ↓trAdd_f, ↓stOf_f, seval]) (fun h => ?_) (fun h => ?_)
    · cases h
    refine awp_exit rfl ?_
    rw [hSe]
    try refine hK _ ?_
    repeat (first | refine awp_seq ?_ | refine awp_block ?_ | refine awp_skip ?_ | refine awp_scope ?_ | refine awp_label ?_)
    refine awp_region tabOk fun K hK => ?_
    simp -dsimp -implicitDefEqProofs only [push_cast, ↓trAdd_f, ↓stOf_f, seval]
    refine callK_simple hpt ?_ rfl fun _ => ?_
    · simp -dsimp -implicitDefEqProofs only [push_cast, List.mem_append, List.mem_cons, List.mem_singleton, forall_eq_or_imp, forall_eq, ↓trAdd_f, ↓stOf_f, seval]
    simp -dsimp -implicitDefEqProofs only [push_cast, ↓trAdd_f, ↓stOf_f, seval]
    refine hK _ ?_
    try refine hK _ ?_
    repeat (first | refine awp_seq ?_ | refine awp_block ?_ | refine awp_skip ?_ | refine awp_scope ?_ | refine awp_label ?_)
    refine awp_region tabOk fun K hK => ?_
    simp -dsimp -implicitDefEqProofs only [push_cast, ↓trAdd_f, ↓stOf_f, seval]
    refine hK _ (awp_ret ?_)
    simp -dsimp -implicitDefEqProofs only [push_cast, List.mem_append, List.mem_cons, List.mem_singleton, forall_eq_or_imp, forall_eq, ↓trAdd_f, ↓stOf_f, seval]
def p24S (m : Img) (key : Int) (k : Nat) : AS := { sl := [(2, .ptr 100 0), (4, .ptr 101 0), (7, .bool true), (8, .ptr 102 0), (9, .sl false 1 ((blocksOf (packS m key)).map encT)), (10, .int .i64 k)], st := [(100, .box (encImg m)), (101, .box (encFlash flash0)), (102, .box (encFlash (stF (newF 70) 0 (packS m key) 99 k)))], nx := 2000, n := 53 }
theorem proved24_ok (m : Img) (key : Int) (hm : m.good) (hk : mayS key = true) : FnS Tryd.prog 37 [.agg (encImg m), .int .i64 key] [] (.tup [.agg (encFlash (laidZ m key)), .bool true]) [] := by
  have hpl := packS_len m key
  have hn2 := hm.n2
  obtain ⟨hnb, hnb1⟩ := nb_pack hm key
  obtain ⟨hbig, herr, hpe, hL⟩ := laid_is hm key
  have hZ : putF (laidS m key) ⟨1, 4, 1, m.ver, 0, 0⟩ = (laidZ m key, 0) := Prod.ext rfl hpe
  have hpt := put_ok (laidS m key) ⟨1, 4, 1, m.ver, 0, 0⟩ (hbig _ (Nat.le_refl _)).fine
  rw [hZ] at hpt
  have hSe : stF (newF 70) 0 (packS m key) 99 (nBlocks (packS m key)) = laidS m key := rfl
  refine fn_walk tabOk Tryd.func37 rfl (by decide +kernel) Tryd.ntmps37 Tryd.results37 (by simp) fun B hB => ?_
  try refine hK _ ?_
  repeat (first | refine awp_seq ?_ | refine awp_block ?_ | refine awp_skip ?_ | refine awp_scope ?_ | refine awp_label ?_)
  refine awp_region tabOk fun K hK => ?_
  simp -dsimp -implicitDefEqProofs only [push_cast, ↓trAdd_f, ↓stOf_f, seval]
  refine hK _ ?_
  try refine hK _ ?_
  repeat (first | refine awp_seq ?_ | refine awp_block ?_ | refine awp_skip ?_ | refine awp_scope ?_ | refine awp_label ?_)
  refine awp_region tabOk fun K hK => ?_
  simp -dsimp -implicitDefEqProofs only [push_cast, ↓trAdd_f, ↓stOf_f, seval]
  refine callK_simple (pack_ok m key hm.right hk) ?_ rfl fun _ => ?_
  · simp -dsimp -implicitDefEqProofs only [push_cast, List.mem_append, List.mem_cons, List.mem_singleton, forall_eq_or_imp, forall_eq, ↓trAdd_f, ↓stOf_f, seval]
  simp -dsimp -implicitDefEqProofs only [push_cast, ↓trAdd_f, ↓stOf_f, seval]
  refine hK _ ?_
  try refine hK _ ?_
  repeat (first | refine awp_seq ?_ | refine awp_block ?_ | refine awp_skip ?_ | refine awp_scope ?_ | refine awp_label ?_)
  refine awp_region tabOk fun K hK => ?_
  simp -dsimp -implicitDefEqProofs only [push_cast, ↓trAdd_f, ↓stOf_f, seval]
  refine callK_simple fresh_ok ?_ rfl fun _ => ?_
  · simp -dsimp -implicitDefEqProofs only [push_cast, List.mem_append, List.mem_cons, List.mem_singleton, forall_eq_or_imp, forall_eq, ↓trAdd_f, ↓stOf_f, seval]
  simp -dsimp -implicitDefEqProofs only [push_cast, ↓trAdd_f, ↓stOf_f, seval]
  refine hK _ ?_
  try refine hK _ ?_
  repeat (first | refine awp_seq ?_ | refine awp_block ?_ | refine awp_skip ?_ | refine awp_scope ?_ | refine awp_label ?_)
  refine awp_region tabOk fun K hK => ?_
  simp -dsimp -implicitDefEqProofs only [push_cast, ↓trAdd_f, ↓stOf_f, seval]
  refine callK_simple (blocks_ok (packS m key) (by omega)) ?_ rfl fun _ => ?_
  · simp -dsimp -implicitDefEqProofs only [push_cast, List.mem_append, List.mem_cons, List.mem_singleton, forall_eq_or_imp, forall_eq, ↓trAdd_f, ↓stOf_f, seval]
  simp -dsimp -implicitDefEqProofs only [push_cast, ↓trAdd_f, ↓stOf_f, seval]
  refine hK _ ?_
  try refine hK _ ?_
  repeat (first | refine awp_seq ?_ | refine awp_block ?_ | refine awp_skip ?_ | refine awp_scope ?_ | refine awp_label ?_)
  refine awp_region tabOk fun K hK => ?_
  simp -dsimp -implicitDefEqProofs only [push_cast, ↓trAdd_f, ↓stOf_f, seval]
  refine hK _ (awp_block ?_)
  refine awp_for (fun k : Nat => p24S m key k) (fun k => k ≤ nBlocks (packS m key)) (fun k => nBlocks (packS m key) - k) 0 (Nat.zero_le _) ?_ fun k hk => ?_
  · simp only [p24S, stF]
    refine le_intro hB [(100, 0), (101, 8), (102, 96)] (by simp) (fun b hb => absurd hb (Nat.not_lt_zero b)) rfl ?_ ?_ rfl <;> simp -dsimp -implicitDefEqProofs only [flash0, push_cast, ↓trAdd_f, ↓stOf_f, seval]
  have hbl := blocks_len (packS m key)
  simp only [p24S]
  by_cases hlt : k < nBlocks (packS m key)
  · have d : decide ((k : Int) < (nBlocks (packS m key) : Int)) = true := by simpa using hlt
    have w : IntKind.i64.wrap ((k : Int) + 1) = (k : Int) + 1 := wrap_i64 (by omega) (by omega)
    have e1 : stF (newF 70) 0 (packS m key) 99 (k + 1) = (saveF (stF (newF 70) 0 (packS m key) 99 k) (0 : Nat) k (pieceOf (packS m key) k)).1 := by show (if k = 99 then _ else _) = _; rw [if_neg (by omega)]
    have e2 := herr k hlt
    unfold stR at e2
    have hpl2 := piece_len (packS m key) k
    have hg := blocks_get (packS m key) k hlt
    have hsv := save_ok (stF (newF 70) 0 (packS m key) 99 k) ((0 : Nat) : Int) k true (pieceOf (packS m key) k) (hbig k (by omega)).fine (.inl rfl) (by omega)
    rw [← e1, e2] at hsv
    have hsv' : FnS Tryd.prog 34 [.agg (encFlash (stF (newF 70) 0 (packS m key) 99 k)), .int .i64 0, .int .i64 k, .sl true 1 ((pieceOf (packS m key) k).map encB)] [] (.tup [.agg (encFlash (stF (newF 70) 0 (packS m key) 99 (k + 1))), .int .i64 0]) [] := hsv
    try refine hK _ ?_
    repeat (first | refine awp_seq ?_ | refine awp_block ?_ | refine awp_skip ?_ | refine awp_scope ?_ | refine awp_label ?_)
    refine awp_region tabOk fun K hK => ?_
    simp -dsimp -implicitDefEqProofs only [hbl, d, push_cast, ↓trAdd_f, ↓stOf_f, seval]
    try refine hK _ ?_
    repeat (first | refine awp_seq ?_ | refine awp_block ?_ | refine awp_skip ?_ | refine awp_scope ?_ | refine awp_label ?_)
    refine awp_cond (b := true) (by simp -dsimp -implicitDefEqProofs only [push_cast, ↓trAdd_f, ↓stOf_f, seval]) (fun h => ?_) (fun h => ?_)
    rotate_left
    · cases h
    refine awp_skip ?_
    try refine hK _ ?_
    repeat (first | refine awp_seq ?_ | refine awp_block ?_ | refine awp_skip ?_ | refine awp_scope ?_ | refine awp_label ?_)
    refine awp_draw tabOk (by kernel_rfl) (by kernel_rfl) fun K hK C hC => ?_
    simp -dsimp -implicitDefEqProofs only [hg, hbl, push_cast, ↓trAdd_f, ↓stOf_f, seval]
    refine ⟨⟨by omega, by omega⟩, ?_⟩
    refine callK_simple hsv' ?_ rfl fun _ => ?_
    · simp -dsimp -implicitDefEqProofs only [push_cast, List.mem_append, List.mem_cons, List.mem_singleton, forall_eq_or_imp, forall_eq, ↓trAdd_f, ↓stOf_f, seval]
    simp -dsimp -implicitDefEqProofs only [push_cast, ↓trAdd_f, ↓stOf_f, seval]
    refine ⟨hC _ (by kernel_rfl), hK _ ?_⟩
    try refine hK _ ?_
    repeat (first | refine awp_seq ?_ | refine awp_block ?_ | refine awp_skip ?_ | refine awp_scope ?_ | refine awp_label ?_)
    refine awp_region tabOk fun K hK => ?_
    simp -dsimp -implicitDefEqProofs only [w, push_cast, ↓trAdd_f, ↓stOf_f, seval]
    refine hK _ ⟨k + 1, hlt, by omega, ?_⟩
    refine le_intro hB [(100, 100), (101, 101), (102, 102)] (by simp) (fun b hb => absurd hb (Nat.not_lt_zero b)) rfl ?_ ?_ rfl <;> simp -dsimp -implicitDefEqProofs only [push_cast, ↓trAdd_f, ↓stOf_f, seval]
  · have hke : k = nBlocks (packS m key) := by omega
    subst hke
    have d : decide ((nBlocks (packS m key) : Int) < (nBlocks (packS m key) : Int)) = false := by simp
    try refine hK _ ?_
    repeat (first | refine awp_seq ?_ | refine awp_block ?_ | refine awp_skip ?_ | refine awp_scope ?_ | refine awp_label ?_)
    refine awp_region tabOk fun K hK => ?_
    simp -dsimp -implicitDefEqProofs only [hbl, d, push_cast, ↓trAdd_f, ↓stOf_f, seval]
    try refine hK _ ?_
    repeat (first | refine awp_seq ?_ | refine awp_block ?_ | refine awp_skip ?_ | refine awp_scope ?_ | refine awp_label ?_)
    refine awp_cond (b := false) (by simp -dsimp -implicitDefEqProofs only [push_cast, ↓trAdd_f, ↓stOf_f, seval]) (fun h => ?_) (fun h => ?_)
    · cases h
    refine awp_exit rfl ?_
    rw [hSe]
    try refine hK _ ?_
    repeat (first | refine awp_seq ?_ | refine awp_block ?_ | refine awp_skip ?_ | refine awp_scope ?_ | refine awp_label ?_)
    refine awp_region tabOk fun K hK => ?_
    simp -dsimp -implicitDefEqProofs only [push_cast, ↓trAdd_f, ↓stOf_f, seval]
    refine callK_simple hpt ?_ rfl fun _ => ?_
    · simp -dsimp -implicitDefEqProofs only [push_cast, List.mem_append, List.mem_cons, List.mem_singleton, forall_eq_or_imp, forall_eq, ↓trAdd_f, ↓stOf_f, seval]
    simp -dsimp -implicitDefEqProofs only [push_cast, ↓trAdd_f, ↓stOf_f, seval]
    refine hK _ ?_
    try refine hK _ ?_
    repeat (first | refine awp_seq ?_ | refine awp_block ?_ | refine awp_skip ?_ | refine awp_scope ?_ | refine awp_label ?_)
    refine awp_region tabOk fun K hK => ?_
    simp -dsimp -implicitDefEqProofs only [push_cast, ↓trAdd_f, ↓stOf_f, seval]
    refine hK _ (awp_ret ?_)
    simp -dsimp -implicitDefEqProofs only [push_cast, List.mem_append, List.mem_cons, List.mem_singleton, forall_eq_or_imp, forall_eq, ↓trAdd_f, ↓stOf_f, seval]
end Go.Proofs.YtoifmpiikopelaaDoorFw

/-
  Walks: loaded, loaded24.
-/
namespace Go.Proofs.YtoifmpiikopelaaDoorFw
open Go Go.Proofs
set_option maxRecDepth 100000
set_option maxHeartbeats 4000000
set_option linter.unusedVariables false
set_option linter.unusedSimpArgs false

theorem beginS_ok (f : Flash) (s : Nat) (ver : Int) (n : Nat) (hf : f.big) (hs : s ≤ 1) (hv : 0 ≤ ver ∧ ver < 2147483648) (hn : 19 ≤ n ∧ n ≤ 2066) :
    FnS Tryd.prog 27 [.agg (encFlash f), .int .i64 s, .int .i64 ver, .int .i64 n] [] (.tup [.agg (encFlash (beginF f s ver n).f), .agg (encLoad (beginF f s ver n).l), .int .i64 (beginF f s ver n).e]) [] := by
  have hs' : s = 0 ∨ s = 1 := by omega
  rcases hs' with rfl | rfl
  · exact begin0_ok f ver n hf hv hn
  · exact begin1_ok f ver n hf hv hn
theorem endS_ok (f : Flash) (l : Load) (key : Int) (s n : Nat) (hf : f.big) (hs1 : s ≤ 1) (ho : l.on = true) (hs : l.slot = s) (hl : l.len = n) (hn : n ≤ 2176) (hh : l.have_ = blocksN n) :
    FnS Tryd.prog 30 [.agg (encFlash f), .agg (encLoad l), .int .i64 key] [] (.tup [.agg (encFlash (endF f s n l.ver key).1), .agg (encLoad load0), .int .i64 (endF f s n l.ver key).2]) [] := by
  have hs' : s = 0 ∨ s = 1 := by omega
  rcases hs' with rfl | rfl
  · exact end0_ok f l key n hf ho hs hl hn hh
  · exact end1_ok f l key n hf ho hs hl hn hh
theorem big_empty : ∀ (k : Nat) (f : Flash) (p : Nat), f.big → (emptyG f p k).1.big
  | 0, f, p, h => h
  | k + 1, f, p, h => by
    have e : emptyG f p (k + 1) = if (eraseF f (p : Int)).2 ≠ 0 then eraseF f (p : Int) else emptyG (eraseF f (p : Int)).1 (p + 1) k := rfl
    rw [e]
    split
    · exact big_erase h _
    · exact big_empty k _ _ (big_erase h _)
theorem big_begin {f : Flash} (h : f.big) (s : Nat) (ver : Int) (n : Nat) : (beginF f s ver n).f.big := by
  unfold beginF
  split
  · exact h
  · split
    · exact h
    · split
      · exact h
      · split
        · exact big_put h _
        · unfold beginE
          split
          · exact big_empty _ _ _ (big_put h _)
          · exact big_empty _ _ _ (big_put h _)
theorem begin_l {f : Flash} {s : Nat} {ver : Int} {n : Nat} (h : (beginF f s ver n).e = 0) : (beginF f s ver n).l = ⟨true, ver, n, 0, ((1 - s : Nat) : Int)⟩ := by
  unfold beginF at h ⊢
  split
  · rename_i q; rw [if_pos q] at h; exact (q h).elim
  · rename_i q; rw [if_neg q] at h
    split
    · rename_i q2; rw [if_pos q2] at h; exact absurd h (by show (1 : Int) ≠ 0; decide)
    · rename_i q2; rw [if_neg q2] at h
      split
      · rename_i q3; rw [if_pos q3] at h; exact absurd h (by show (282 : Int) ≠ 0; decide)
      · rename_i q3; rw [if_neg q3] at h
        split
        · rename_i q4; rw [if_pos q4] at h; exact (q4 h).elim
        · rename_i q4; rw [if_neg q4] at h
          unfold beginE at h ⊢
          split
          · rename_i q5; rw [if_pos q5] at h; exact (q5 h).elim
          · rfl
def ldL (ver : Int) (n k s : Nat) : Load := ⟨true, ver, n, k, s⟩
theorem blockS_ok (f : Flash) (b : List Int) (ver : Int) (k s : Nat) (hf : f.big) (hs : s ≤ 1) (hn : b.length ≤ 2 ^ 20) (hk : k < nBlocks b) :
    FnS Tryd.prog 29 [.agg (encFlash f), .agg (encLoad (ldL ver b.length k s)), .int .i64 k, .sl true 1 ((pieceOf b k).map encB)] []
      (.tup [.agg (encFlash (saveF f s k (pieceOf b k)).1), .agg (encLoad (if (saveF f s k (pieceOf b k)).2 = 0 then ldL ver b.length (k + 1) s else ldL ver b.length k s)), .int .i64 (saveF f s k (pieceOf b k)).2]) [] := by
  have hp := piece_len b k
  have h64 : 64 * k < b.length := by unfold nBlocks at hk; omega
  have := blockF_ok f (ldL ver b.length k s) k b.length true (pieceOf b k) hf rfl (by show (s : Int) = 0 ∨ (s : Int) = 1; omega) rfl rfl hn h64 hp
  have e : blockF f (ldL ver b.length k s) k (pieceOf b k) = ⟨(saveF f s k (pieceOf b k)).1, if (saveF f s k (pieceOf b k)).2 = 0 then ldL ver b.length (k + 1) s else ldL ver b.length k s, (saveF f s k (pieceOf b k)).2⟩ := by
    unfold blockF
    congr 1
  rw [e] at this
  exact this
def loadedS (f : Flash) (s : Nat) (m : Img) (key : Int) (G : Flash) (k : Nat) : AS := { sl := [(3, .int .i64 key), (4, .ptr 100 0), (8, .ptr 101 0), (12, .ptr 102 0), (14, .sl false 1 ((blocksOf (packS m key)).map encT)), (15, .int .i64 k)], st := [(100, .box (encFlash (sIt G (1 - s) (packS m key) 0 k))), (101, .box (encFlash flash0)), (102, .box (encLoad (ldL m.ver (packS m key).length k (1 - s))))], nx := 2000, n := 76 }
theorem loaded_ok (f : Flash) (s : Nat) (m : Img) (key : Int) (hf : f.big) (hs : s ≤ 1) (hm : m.good) (hk : mayS key = true) :
    FnS Tryd.prog 36 [.agg (encFlash f), .int .i64 s, .agg (encImg m), .int .i64 key] [] (.tup [.agg (encFlash (loadedF f s m key).1), .int .i64 (loadedF f s m key).2]) [] := by
  have hpl := packS_len m key
  have hn1 := hm.n1
  have hn2 := hm.n2
  obtain ⟨hnb, hnb1⟩ := nb_pack hm key
  have hbeg := beginS_ok f s m.ver (packS m key).length hf hs hm.ver (by omega)
  have hGb := big_begin hf s m.ver (packS m key).length
  have hGl := begin_l (f := f) (s := s) (ver := m.ver) (n := (packS m key).length)
  have e0 : loadedF f s m key = if (beginF f s m.ver (packS m key).length).e ≠ 0 then ((beginF f s m.ver (packS m key).length).f, (beginF f s m.ver (packS m key).length).e) else
    if (savG (beginF f s m.ver (packS m key).length).f (1 - s) (packS m key) 0 (nBlocks (packS m key))).2 ≠ 0 then savG (beginF f s m.ver (packS m key).length).f (1 - s) (packS m key) 0 (nBlocks (packS m key)) else
    endF (savG (beginF f s m.ver (packS m key).length).f (1 - s) (packS m key) 0 (nBlocks (packS m key))).1 (1 - s) (packS m key).length m.ver key := rfl
  refine fn_walk tabOk Tryd.func36 rfl (by decide +kernel) Tryd.ntmps36 Tryd.results36 (by simp) fun B hB => ?_
  try refine hK _ ?_
  repeat (first | refine awp_seq ?_ | refine awp_block ?_ | refine awp_skip ?_ | refine awp_scope ?_ | refine awp_label ?_)
  refine awp_region tabOk fun K hK => ?_
  simp -dsimp -implicitDefEqProofs only [push_cast, ↓trAdd_f, ↓stOf_f, seval]
  refine hK _ ?_
  try refine hK _ ?_
  repeat (first | refine awp_seq ?_ | refine awp_block ?_ | refine awp_skip ?_ | refine awp_scope ?_ | refine awp_label ?_)
  refine awp_region tabOk fun K hK => ?_
  simp -dsimp -implicitDefEqProofs only [push_cast, ↓trAdd_f, ↓stOf_f, seval]
  refine callK_simple (pack_ok m key hm.right hk) ?_ rfl fun _ => ?_
  · simp -dsimp -implicitDefEqProofs only [push_cast, List.mem_append, List.mem_cons, List.mem_singleton, forall_eq_or_imp, forall_eq, ↓trAdd_f, ↓stOf_f, seval]
  simp -dsimp -implicitDefEqProofs only [push_cast, ↓trAdd_f, ↓stOf_f, seval]
  refine hK _ ?_
  have hml : ((packS m key).map encB).length = (packS m key).length := by simp
  try refine hK _ ?_
  repeat (first | refine awp_seq ?_ | refine awp_block ?_ | refine awp_skip ?_ | refine awp_scope ?_ | refine awp_label ?_)
  refine awp_region tabOk fun K hK => ?_
  simp -dsimp -implicitDefEqProofs only [push_cast, ↓trAdd_f, ↓stOf_f, seval]
  refine callK_simple hbeg ?_ rfl fun _ => ?_
  · simp -dsimp -implicitDefEqProofs only [push_cast, List.mem_append, List.mem_cons, List.mem_singleton, forall_eq_or_imp, forall_eq, ↓trAdd_f, ↓stOf_f, seval]
  generalize beginF f s m.ver (packS m key).length = G at *
  simp -dsimp -implicitDefEqProofs only [push_cast, ↓trAdd_f, ↓stOf_f, seval]
  refine hK _ ?_
  cases hE : (G.e != 0) with
  | true =>
    have hne : G.e ≠ 0 := by simpa using hE
    rw [if_pos hne] at e0
    try refine hK _ ?_
    repeat (first | refine awp_seq ?_ | refine awp_block ?_ | refine awp_skip ?_ | refine awp_scope ?_ | refine awp_label ?_)
    refine awp_region tabOk fun K hK => ?_
    simp -dsimp -implicitDefEqProofs only [hE, push_cast, ↓trAdd_f, ↓stOf_f, seval]
    try refine hK _ ?_
    repeat (first | refine awp_seq ?_ | refine awp_block ?_ | refine awp_skip ?_ | refine awp_scope ?_ | refine awp_label ?_)
    refine awp_cond (b := true) (by simp -dsimp -implicitDefEqProofs only [push_cast, ↓trAdd_f, ↓stOf_f, seval]) (fun h => ?_) (fun h => ?_)
    rotate_left
    · cases h
    try refine hK _ ?_
    repeat (first | refine awp_seq ?_ | refine awp_block ?_ | refine awp_skip ?_ | refine awp_scope ?_ | refine awp_label ?_)
    refine awp_region tabOk fun K hK => ?_
    simp -dsimp -implicitDefEqProofs only [push_cast, ↓trAdd_f, ↓stOf_f, seval]
    refine hK _ (awp_ret ?_)
    simp -dsimp -implicitDefEqProofs only [e0, push_cast, List.mem_append, List.mem_cons, List.mem_singleton, forall_eq_or_imp, forall_eq, ↓trAdd_f, ↓stOf_f, seval]
  | false =>
  have hG0 : G.e = 0 := by simpa using hE
  rw [if_neg (fun h => h hG0)] at e0
  have hl := hGl hG0
  have h1 : G.l.on = true := by rw [hl]
  have h2 : G.l.ver = m.ver := by rw [hl]
  have h3 : G.l.len = ((packS m key).length : Int) := by rw [hl]
  have h4 : G.l.have_ = 0 := by rw [hl]
  have h5 : G.l.slot = ((1 - s : Nat) : Int) := by rw [hl]
  try refine hK _ ?_
  repeat (first | refine awp_seq ?_ | refine awp_block ?_ | refine awp_skip ?_ | refine awp_scope ?_ | refine awp_label ?_)
  refine awp_region tabOk fun K hK => ?_
  simp -dsimp -implicitDefEqProofs only [hE, push_cast, ↓trAdd_f, ↓stOf_f, seval]
  try refine hK _ ?_
  repeat (first | refine awp_seq ?_ | refine awp_block ?_ | refine awp_skip ?_ | refine awp_scope ?_ | refine awp_label ?_)
  refine awp_cond (b := false) (by simp -dsimp -implicitDefEqProofs only [push_cast, ↓trAdd_f, ↓stOf_f, seval]) (fun h => ?_) (fun h => ?_)
  · cases h
  refine awp_skip ?_
  try refine hK _ ?_
  repeat (first | refine awp_seq ?_ | refine awp_block ?_ | refine awp_skip ?_ | refine awp_scope ?_ | refine awp_label ?_)
  refine awp_region tabOk fun K hK => ?_
  simp -dsimp -implicitDefEqProofs only [push_cast, ↓trAdd_f, ↓stOf_f, seval]
  refine callK_simple (blocks_ok (packS m key) (by omega)) ?_ rfl fun _ => ?_
  · simp -dsimp -implicitDefEqProofs only [push_cast, List.mem_append, List.mem_cons, List.mem_singleton, forall_eq_or_imp, forall_eq, ↓trAdd_f, ↓stOf_f, seval]
  simp -dsimp -implicitDefEqProofs only [push_cast, ↓trAdd_f, ↓stOf_f, seval]
  refine hK _ ?_
  obtain ⟨n, hnN, herr, hend⟩ := savG_ex (nBlocks (packS m key)) G.f (1 - s) (packS m key) 0
  have hbigI := sIt_big hGb (1 - s) (packS_bytes hm key) 0
  try refine hK _ ?_
  repeat (first | refine awp_seq ?_ | refine awp_block ?_ | refine awp_skip ?_ | refine awp_scope ?_ | refine awp_label ?_)
  refine awp_region tabOk fun K hK => ?_
  simp -dsimp -implicitDefEqProofs only [push_cast, ↓trAdd_f, ↓stOf_f, seval]
  refine hK _ (awp_block ?_)
  refine awp_for (fun k : Nat => loadedS f s m key G.f k) (fun k => k ≤ n) (fun k => nBlocks (packS m key) - k) 0 (Nat.zero_le _) ?_ fun k hk => ?_
  · simp only [loadedS, sIt, ldL]
    refine le_intro hB [(100, 0), (101, 16), (102, 184)] (by simp) (fun b hb => absurd hb (Nat.not_lt_zero b)) rfl ?_ ?_ rfl <;> simp -dsimp -implicitDefEqProofs only [flash0, h1, h2, h3, h4, h5, push_cast, ↓trAdd_f, ↓stOf_f, seval]
  have hbl := blocks_len (packS m key)
  simp only [loadedS]
  by_cases hlt : k < nBlocks (packS m key)
  · have d : decide ((k : Int) < (nBlocks (packS m key) : Int)) = true := by simpa using hlt
    have w : IntKind.i64.wrap ((k : Int) + 1) = (k : Int) + 1 := wrap_i64 (by omega) (by omega)
    have hg := blocks_get (packS m key) k hlt
    have hblk := blockS_ok (sIt G.f (1 - s) (packS m key) 0 k) (packS m key) m.ver k (1 - s) (hbigI k) (by omega) (by omega) hlt
    have eI : sIt G.f (1 - s) (packS m key) 0 (k + 1) = (saveF (sIt G.f (1 - s) (packS m key) 0 k) ((1 - s : Nat) : Int) (k : Int) (pieceOf (packS m key) k)).1 := by
      show (saveF (sIt G.f (1 - s) (packS m key) 0 k) ((1 - s : Nat) : Int) ((0 + k : Nat) : Int) (pieceOf (packS m key) (0 + k))).1 = _
      rw [Nat.zero_add]
    have eE : sErr G.f (1 - s) (packS m key) 0 k = (saveF (sIt G.f (1 - s) (packS m key) 0 k) ((1 - s : Nat) : Int) (k : Int) (pieceOf (packS m key) k)).2 := by
      unfold sErr
      rw [Nat.zero_add]
    rw [← eI, ← eE] at hblk
    try refine hK _ ?_
    repeat (first | refine awp_seq ?_ | refine awp_block ?_ | refine awp_skip ?_ | refine awp_scope ?_ | refine awp_label ?_)
    refine awp_region tabOk fun K hK => ?_
    simp -dsimp -implicitDefEqProofs only [hbl, d, push_cast, ↓trAdd_f, ↓stOf_f, seval]
    try refine hK _ ?_
    repeat (first | refine awp_seq ?_ | refine awp_block ?_ | refine awp_skip ?_ | refine awp_scope ?_ | refine awp_label ?_)
    refine awp_cond (b := true) (by simp -dsimp -implicitDefEqProofs only [push_cast, ↓trAdd_f, ↓stOf_f, seval]) (fun h => ?_) (fun h => ?_)
    rotate_left
    · cases h
    refine awp_skip ?_
    by_cases hkn : k < n
    · have hz := herr k hkn
      rw [hz, if_pos rfl] at hblk
      try refine hK _ ?_
      repeat (first | refine awp_seq ?_ | refine awp_block ?_ | refine awp_skip ?_ | refine awp_scope ?_ | refine awp_label ?_)
      refine awp_draw tabOk (by kernel_rfl) (by kernel_rfl) fun K hK C hC => ?_
      simp -dsimp -implicitDefEqProofs only [hg, hbl, push_cast, ↓trAdd_f, ↓stOf_f, seval]
      refine ⟨⟨by omega, by omega⟩, ?_⟩
      refine callK_simple hblk ?_ rfl fun _ => ?_
      · simp -dsimp -implicitDefEqProofs only [push_cast, List.mem_append, List.mem_cons, List.mem_singleton, forall_eq_or_imp, forall_eq, ↓trAdd_f, ↓stOf_f, seval]
      simp -dsimp -implicitDefEqProofs only [push_cast, ↓trAdd_f, ↓stOf_f, seval]
      refine ⟨hC _ (by kernel_rfl), hK _ ?_⟩
      try refine hK _ ?_
      repeat (first | refine awp_seq ?_ | refine awp_block ?_ | refine awp_skip ?_ | refine awp_scope ?_ | refine awp_label ?_)
      refine awp_region tabOk fun K hK => ?_
      simp -dsimp -implicitDefEqProofs only [push_cast, ↓trAdd_f, ↓stOf_f, seval]
      refine hK _ ?_
      try refine hK _ ?_
      repeat (first | refine awp_seq ?_ | refine awp_block ?_ | refine awp_skip ?_ | refine awp_scope ?_ | refine awp_label ?_)
      refine awp_region tabOk fun K hK => ?_
      simp -dsimp -implicitDefEqProofs only [push_cast, ↓trAdd_f, ↓stOf_f, seval]
      refine hK _ ?_
      try refine hK _ ?_
      repeat (first | refine awp_seq ?_ | refine awp_block ?_ | refine awp_skip ?_ | refine awp_scope ?_ | refine awp_label ?_)
      refine awp_region tabOk fun K hK => ?_
      simp -dsimp -implicitDefEqProofs only [push_cast, ↓trAdd_f, ↓stOf_f, seval]
      refine hK _ ?_
      try refine hK _ ?_
      repeat (first | refine awp_seq ?_ | refine awp_block ?_ | refine awp_skip ?_ | refine awp_scope ?_ | refine awp_label ?_)
      refine awp_cond (b := false) (by simp -dsimp -implicitDefEqProofs only [push_cast, ↓trAdd_f, ↓stOf_f, seval]) (fun h => ?_) (fun h => ?_)
      · cases h
      refine awp_skip ?_
      try refine hK _ ?_
      repeat (first | refine awp_seq ?_ | refine awp_block ?_ | refine awp_skip ?_ | refine awp_scope ?_ | refine awp_label ?_)
      refine awp_region tabOk fun K hK => ?_
      simp -dsimp -implicitDefEqProofs only [w, push_cast, ↓trAdd_f, ↓stOf_f, seval]
      refine hK _ ⟨k + 1, hkn, by omega, ?_⟩
      refine le_intro hB [(100, 100), (101, 101), (102, 102)] (by simp) (fun b hb => absurd hb (Nat.not_lt_zero b)) rfl ?_ ?_ rfl <;> simp -dsimp -implicitDefEqProofs only [push_cast, ↓trAdd_f, ↓stOf_f, seval]
    · have hkn' : k = n := by omega
      subst hkn'
      have hne0 : sErr G.f (1 - s) (packS m key) 0 k ≠ 0 := by
        rcases hend with ⟨q, _⟩ | ⟨_, q, _⟩
        · omega
        · exact q
      have hsv : savG G.f (1 - s) (packS m key) 0 (nBlocks (packS m key)) = (sIt G.f (1 - s) (packS m key) 0 (k + 1), sErr G.f (1 - s) (packS m key) 0 k) := by
        rcases hend with ⟨q, _⟩ | ⟨_, _, q⟩
        · omega
        · exact q
      rw [hsv, if_pos hne0] at e0
      rw [if_neg hne0] at hblk
      have hneb : (sErr G.f (1 - s) (packS m key) 0 k != 0) = true := by simpa using hne0
      try refine hK _ ?_
      repeat (first | refine awp_seq ?_ | refine awp_block ?_ | refine awp_skip ?_ | refine awp_scope ?_ | refine awp_label ?_)
      refine awp_draw tabOk (by kernel_rfl) (by kernel_rfl) fun K hK C hC => ?_
      simp -dsimp -implicitDefEqProofs only [hg, hbl, push_cast, ↓trAdd_f, ↓stOf_f, seval]
      refine ⟨⟨by omega, by omega⟩, ?_⟩
      refine callK_simple hblk ?_ rfl fun _ => ?_
      · simp -dsimp -implicitDefEqProofs only [push_cast, List.mem_append, List.mem_cons, List.mem_singleton, forall_eq_or_imp, forall_eq, ↓trAdd_f, ↓stOf_f, seval]
      simp -dsimp -implicitDefEqProofs only [push_cast, ↓trAdd_f, ↓stOf_f, seval]
      refine ⟨hC _ (by kernel_rfl), hK _ ?_⟩
      try refine hK _ ?_
      repeat (first | refine awp_seq ?_ | refine awp_block ?_ | refine awp_skip ?_ | refine awp_scope ?_ | refine awp_label ?_)
      refine awp_region tabOk fun K hK => ?_
      simp -dsimp -implicitDefEqProofs only [push_cast, ↓trAdd_f, ↓stOf_f, seval]
      refine hK _ ?_
      try refine hK _ ?_
      repeat (first | refine awp_seq ?_ | refine awp_block ?_ | refine awp_skip ?_ | refine awp_scope ?_ | refine awp_label ?_)
      refine awp_region tabOk fun K hK => ?_
      simp -dsimp -implicitDefEqProofs only [push_cast, ↓trAdd_f, ↓stOf_f, seval]
      refine hK _ ?_
      try refine hK _ ?_
      repeat (first | refine awp_seq ?_ | refine awp_block ?_ | refine awp_skip ?_ | refine awp_scope ?_ | refine awp_label ?_)
      refine awp_region tabOk fun K hK => ?_
      simp -dsimp -implicitDefEqProofs only [hneb, push_cast, ↓trAdd_f, ↓stOf_f, seval]
      refine hK _ ?_
      try refine hK _ ?_
      repeat (first | refine awp_seq ?_ | refine awp_block ?_ | refine awp_skip ?_ | refine awp_scope ?_ | refine awp_label ?_)
      refine awp_cond (b := true) (by simp -dsimp -implicitDefEqProofs only [push_cast, ↓trAdd_f, ↓stOf_f, seval]) (fun h => ?_) (fun h => ?_)
      rotate_left
      · cases h
      try refine hK _ ?_
      repeat (first | refine awp_seq ?_ | refine awp_block ?_ | refine awp_skip ?_ | refine awp_scope ?_ | refine awp_label ?_)
      refine awp_region tabOk fun K hK => ?_
      simp -dsimp -implicitDefEqProofs only [push_cast, ↓trAdd_f, ↓stOf_f, seval]
      refine hK _ (awp_ret ?_)
      simp -dsimp -implicitDefEqProofs only [e0, push_cast, List.mem_append, List.mem_cons, List.mem_singleton, forall_eq_or_imp, forall_eq, ↓trAdd_f, ↓stOf_f, seval]
  · have hke : k = nBlocks (packS m key) := by omega
    have hkn : n = nBlocks (packS m key) := by omega
    subst hke
    have hsv : savG G.f (1 - s) (packS m key) 0 (nBlocks (packS m key)) = (sIt G.f (1 - s) (packS m key) 0 (nBlocks (packS m key)), 0) := by
      rcases hend with ⟨_, q⟩ | ⟨q, _, _⟩
      · exact q
      · omega
    rw [hsv, if_neg (by simp)] at e0
    have hen := endS_ok (sIt G.f (1 - s) (packS m key) 0 (nBlocks (packS m key))) (ldL m.ver (packS m key).length (nBlocks (packS m key)) (1 - s)) key (1 - s) (packS m key).length (hbigI _) (by omega) rfl rfl rfl (by omega) rfl
    have d : decide ((nBlocks (packS m key) : Int) < (nBlocks (packS m key) : Int)) = false := by simp
    try refine hK _ ?_
    repeat (first | refine awp_seq ?_ | refine awp_block ?_ | refine awp_skip ?_ | refine awp_scope ?_ | refine awp_label ?_)
    refine awp_region tabOk fun K hK => ?_
    simp -dsimp -implicitDefEqProofs only [hbl, d, push_cast, ↓trAdd_f, ↓stOf_f, seval]
    try refine hK _ ?_
    repeat (first | refine awp_seq ?_ | refine awp_block ?_ | refine awp_skip ?_ | refine awp_scope ?_ | refine awp_label ?_)
    refine awp_cond (b := false) (by simp -dsimp -implicitDefEqProofs only [push_cast, ↓trAdd_f, ↓stOf_f, seval]) (fun h => ?_) (fun h => ?_)
    · cases h
    refine awp_exit rfl ?_
    try refine hK _ ?_
    repeat (first | refine awp_seq ?_ | refine awp_block ?_ | refine awp_skip ?_ | refine awp_scope ?_ | refine awp_label ?_)
    refine awp_region tabOk fun K hK => ?_
    simp -dsimp -implicitDefEqProofs only [push_cast, ↓trAdd_f, ↓stOf_f, seval]
    refine callK_simple hen ?_ rfl fun _ => ?_
    · simp -dsimp -implicitDefEqProofs only [push_cast, List.mem_append, List.mem_cons, List.mem_singleton, forall_eq_or_imp, forall_eq, ↓trAdd_f, ↓stOf_f, seval]
    have e1 : loadedF f s m key = endF (sIt G.f (1 - s) (packS m key) 0 (nBlocks (packS m key))) (1 - s) (packS m key).length (ldL m.ver (packS m key).length (nBlocks (packS m key)) (1 - s)).ver key := e0
    rw [← e1]
    generalize loadedF f s m key = o at *
    obtain ⟨o1, o2⟩ := o
    simp -dsimp -implicitDefEqProofs only [load0, push_cast, ↓trAdd_f, ↓stOf_f, seval]
    refine hK _ ?_
    try refine hK _ ?_
    repeat (first | refine awp_seq ?_ | refine awp_block ?_ | refine awp_skip ?_ | refine awp_scope ?_ | refine awp_label ?_)
    refine awp_region tabOk fun K hK => ?_
    simp -dsimp -implicitDefEqProofs only [push_cast, ↓trAdd_f, ↓stOf_f, seval]
    refine hK _ (awp_ret ?_)
    simp -dsimp -implicitDefEqProofs only [push_cast, List.mem_append, List.mem_cons, List.mem_singleton, forall_eq_or_imp, forall_eq, ↓trAdd_f, ↓stOf_f, seval]
def l24S (m : Img) (key : Int) (x : Flash × Load × Int × Nat) : AS := { sl := [(3, .int .i64 key), (4, .ptr 100 0), (8, .ptr 101 0), (12, .ptr 102 0), (13, .int .i64 x.2.2.1), (14, .sl false 1 ((blocksOf (packS m key)).map encT)), (15, .int .i64 x.2.2.2)], st := [(100, .box (encFlash x.1)), (101, .box (encFlash flash0)), (102, .box (encLoad x.2.1))], nx := 2000, n := 69 }
theorem loaded24_ok (f : Flash) (s : Nat) (m : Img) (key : Int) (hf : f.big) (hs : s ≤ 1) (hm : m.good) (hk : mayS key = true) :
    FnS Tryd.prog 38 [.agg (encFlash f), .int .i64 s, .agg (encImg m), .int .i64 key] [] (.tup [.agg (encFlash (loadedF f s m key).1), .int .i64 (loadedF f s m key).2]) [] := by
  have hpl := packS_len m key
  have hn1 := hm.n1
  have hn2 := hm.n2
  obtain ⟨hnb, hnb1⟩ := nb_pack hm key
  have hbeg := beginS_ok f s m.ver (packS m key).length hf hs hm.ver (by omega)
  have hGb := big_begin hf s m.ver (packS m key).length
  have hGl := begin_l (f := f) (s := s) (ver := m.ver) (n := (packS m key).length)
  have e0 : loadedF f s m key = if (beginF f s m.ver (packS m key).length).e ≠ 0 then ((beginF f s m.ver (packS m key).length).f, (beginF f s m.ver (packS m key).length).e) else
    if (savG (beginF f s m.ver (packS m key).length).f (1 - s) (packS m key) 0 (nBlocks (packS m key))).2 ≠ 0 then savG (beginF f s m.ver (packS m key).length).f (1 - s) (packS m key) 0 (nBlocks (packS m key)) else
    endF (savG (beginF f s m.ver (packS m key).length).f (1 - s) (packS m key) 0 (nBlocks (packS m key))).1 (1 - s) (packS m key).length m.ver key := rfl
  refine fn_walk tabOk Tryd.func38 rfl (by decide +kernel) Tryd.ntmps38 Tryd.results38 (by simp) fun B hB => ?_
  try refine hK _ ?_
  repeat (first | refine awp_seq ?_ | refine awp_block ?_ | refine awp_skip ?_ | refine awp_scope ?_ | refine awp_label ?_)
  refine awp_region tabOk fun K hK => ?_
  simp -dsimp -implicitDefEqProofs only [push_cast, ↓trAdd_f, ↓stOf_f, seval]
  refine hK _ ?_
  try refine hK _ ?_
  repeat (first | refine awp_seq ?_ | refine awp_block ?_ | refine awp_skip ?_ | refine awp_scope ?_ | refine awp_label ?_)
  refine awp_region tabOk fun K hK => ?_
  simp -dsimp -implicitDefEqProofs only [push_cast, ↓trAdd_f, ↓stOf_f, seval]
  refine callK_simple (pack_ok m key hm.right hk) ?_ rfl fun _ => ?_
  · simp -dsimp -implicitDefEqProofs only [push_cast, List.mem_append, List.mem_cons, List.mem_singleton, forall_eq_or_imp, forall_eq, ↓trAdd_f, ↓stOf_f, seval]
  simp -dsimp -implicitDefEqProofs only [push_cast, ↓trAdd_f, ↓stOf_f, seval]
  refine hK _ ?_
  have hml : ((packS m key).map encB).length = (packS m key).length := by simp
  try refine hK _ ?_
  repeat (first | refine awp_seq ?_ | refine awp_block ?_ | refine awp_skip ?_ | refine awp_scope ?_ | refine awp_label ?_)
  refine awp_region tabOk fun K hK => ?_
  simp -dsimp -implicitDefEqProofs only [push_cast, ↓trAdd_f, ↓stOf_f, seval]
  refine callK_simple hbeg ?_ rfl fun _ => ?_
  · simp -dsimp -implicitDefEqProofs only [push_cast, List.mem_append, List.mem_cons, List.mem_singleton, forall_eq_or_imp, forall_eq, ↓trAdd_f, ↓stOf_f, seval]
  generalize beginF f s m.ver (packS m key).length = G at *
  simp -dsimp -implicitDefEqProofs only [push_cast, ↓trAdd_f, ↓stOf_f, seval]
  refine hK _ ?_
  try refine hK _ ?_
  repeat (first | refine awp_seq ?_ | refine awp_block ?_ | refine awp_skip ?_ | refine awp_scope ?_ | refine awp_label ?_)
  refine awp_region tabOk fun K hK => ?_
  simp -dsimp -implicitDefEqProofs only [push_cast, ↓trAdd_f, ↓stOf_f, seval]
  refine callK_simple (blocks_ok (packS m key) (by omega)) ?_ rfl fun _ => ?_
  · simp -dsimp -implicitDefEqProofs only [push_cast, List.mem_append, List.mem_cons, List.mem_singleton, forall_eq_or_imp, forall_eq, ↓trAdd_f, ↓stOf_f, seval]
  simp -dsimp -implicitDefEqProofs only [push_cast, ↓trAdd_f, ↓stOf_f, seval]
  refine hK _ ?_
  have hbl := blocks_len (packS m key)
  by_cases hG0 : G.e = 0
  rotate_left
  · have hE : (G.e == 0) = false := by simpa using hG0
    rw [if_pos hG0] at e0
    have d : decide ((0 : Int) < (nBlocks (packS m key) : Int)) = true := by simp; omega
    try refine hK _ ?_
    repeat (first | refine awp_seq ?_ | refine awp_block ?_ | refine awp_skip ?_ | refine awp_scope ?_ | refine awp_label ?_)
    refine awp_region tabOk fun K hK => ?_
    simp -dsimp -implicitDefEqProofs only [push_cast, ↓trAdd_f, ↓stOf_f, seval]
    refine hK _ (awp_block ?_)
    refine awp_for (fun _ : Unit => l24S m key (G.f, G.l, G.e, 0)) (fun _ => True) (fun _ => 0) () trivial ?_ fun _ _ => ?_
    · simp only [l24S]
      refine le_intro hB [(100, 0), (101, 16), (102, 184)] (by simp) (fun b hb => absurd hb (Nat.not_lt_zero b)) rfl ?_ ?_ rfl <;> simp -dsimp -implicitDefEqProofs only [flash0, push_cast, ↓trAdd_f, ↓stOf_f, seval]
    simp only [l24S]
    try refine hK _ ?_
    repeat (first | refine awp_seq ?_ | refine awp_block ?_ | refine awp_skip ?_ | refine awp_scope ?_ | refine awp_label ?_)
    refine awp_region tabOk fun K hK => ?_
    simp -dsimp -implicitDefEqProofs only [hbl, d, hE, push_cast, ↓trAdd_f, ↓stOf_f, seval]
    refine hK _ ?_
    try refine hK _ ?_
    repeat (first | refine awp_seq ?_ | refine awp_block ?_ | refine awp_skip ?_ | refine awp_scope ?_ | refine awp_label ?_)
    refine awp_cond (b := false) (by simp -dsimp -implicitDefEqProofs only [push_cast, ↓trAdd_f, ↓stOf_f, seval]) (fun h => ?_) (fun h => ?_)
    · cases h
    refine awp_exit rfl ?_
    try refine hK _ ?_
    repeat (first | refine awp_seq ?_ | refine awp_block ?_ | refine awp_skip ?_ | refine awp_scope ?_ | refine awp_label ?_)
    refine awp_region tabOk fun K hK => ?_
    simp -dsimp -implicitDefEqProofs only [hE, push_cast, ↓trAdd_f, ↓stOf_f, seval]
    try refine hK _ ?_
    repeat (first | refine awp_seq ?_ | refine awp_block ?_ | refine awp_skip ?_ | refine awp_scope ?_ | refine awp_label ?_)
    refine awp_cond (b := false) (by simp -dsimp -implicitDefEqProofs only [push_cast, ↓trAdd_f, ↓stOf_f, seval]) (fun h => ?_) (fun h => ?_)
    · cases h
    refine awp_skip ?_
    try refine hK _ ?_
    repeat (first | refine awp_seq ?_ | refine awp_block ?_ | refine awp_skip ?_ | refine awp_scope ?_ | refine awp_label ?_)
    refine awp_region tabOk fun K hK => ?_
    simp -dsimp -implicitDefEqProofs only [push_cast, ↓trAdd_f, ↓stOf_f, seval]
    refine hK _ (awp_ret ?_)
    simp -dsimp -implicitDefEqProofs only [e0, push_cast, List.mem_append, List.mem_cons, List.mem_singleton, forall_eq_or_imp, forall_eq, ↓trAdd_f, ↓stOf_f, seval]
  rw [if_neg (fun h => h hG0)] at e0
  have hl := hGl hG0
  have h1 : G.l.on = true := by rw [hl]
  have h2 : G.l.ver = m.ver := by rw [hl]
  have h3 : G.l.len = ((packS m key).length : Int) := by rw [hl]
  have h4 : G.l.have_ = 0 := by rw [hl]
  have h5 : G.l.slot = ((1 - s : Nat) : Int) := by rw [hl]
  obtain ⟨n, hnN, herr, hend⟩ := savG_ex (nBlocks (packS m key)) G.f (1 - s) (packS m key) 0
  have hbigI := sIt_big hGb (1 - s) (packS_bytes hm key) 0
  try refine hK _ ?_
  repeat (first | refine awp_seq ?_ | refine awp_block ?_ | refine awp_skip ?_ | refine awp_scope ?_ | refine awp_label ?_)
  refine awp_region tabOk fun K hK => ?_
  simp -dsimp -implicitDefEqProofs only [hG0, push_cast, ↓trAdd_f, ↓stOf_f, seval]
  refine hK _ (awp_block ?_)
  refine awp_for (fun x : Flash × Load × Int × Nat => l24S m key x) (fun x => (x.2.2.2 ≤ n ∧ x = (sIt G.f (1 - s) (packS m key) 0 x.2.2.2, ldL m.ver (packS m key).length x.2.2.2 (1 - s), 0, x.2.2.2)) ∨ (n < nBlocks (packS m key) ∧ x = (sIt G.f (1 - s) (packS m key) 0 (n + 1), ldL m.ver (packS m key).length n (1 - s), sErr G.f (1 - s) (packS m key) 0 n, n + 1))) (fun x => nBlocks (packS m key) + 1 - x.2.2.2) (G.f, ldL m.ver (packS m key).length 0 (1 - s), 0, 0) (.inl ⟨Nat.zero_le _, rfl⟩) ?_ fun x hx => ?_
  · simp only [l24S, ldL]
    refine le_intro hB [(100, 0), (101, 16), (102, 184)] (by simp) (fun b hb => absurd hb (Nat.not_lt_zero b)) rfl ?_ ?_ rfl <;> simp -dsimp -implicitDefEqProofs only [flash0, h1, h2, h3, h4, h5, push_cast, ↓trAdd_f, ↓stOf_f, seval]
  rcases hx with ⟨hk, hx⟩ | ⟨hnl, hx⟩
  · obtain ⟨_, _, _, k⟩ := x
    simp only at hk hx
    rw [hx]
    simp only [l24S]
    by_cases hlt : k < nBlocks (packS m key)
    · have d : decide ((k : Int) < (nBlocks (packS m key) : Int)) = true := by simpa using hlt
      have w : IntKind.i64.wrap ((k : Int) + 1) = (k : Int) + 1 := wrap_i64 (by omega) (by omega)
      have hg := blocks_get (packS m key) k hlt
      have hblk := blockS_ok (sIt G.f (1 - s) (packS m key) 0 k) (packS m key) m.ver k (1 - s) (hbigI k) (by omega) (by omega) hlt
      have eI : sIt G.f (1 - s) (packS m key) 0 (k + 1) = (saveF (sIt G.f (1 - s) (packS m key) 0 k) ((1 - s : Nat) : Int) (k : Int) (pieceOf (packS m key) k)).1 := by
        show (saveF (sIt G.f (1 - s) (packS m key) 0 k) ((1 - s : Nat) : Int) ((0 + k : Nat) : Int) (pieceOf (packS m key) (0 + k))).1 = _
        rw [Nat.zero_add]
      have eE : sErr G.f (1 - s) (packS m key) 0 k = (saveF (sIt G.f (1 - s) (packS m key) 0 k) ((1 - s : Nat) : Int) (k : Int) (pieceOf (packS m key) k)).2 := by
        unfold sErr
        rw [Nat.zero_add]
      rw [← eI, ← eE] at hblk
      try refine hK _ ?_
      repeat (first | refine awp_seq ?_ | refine awp_block ?_ | refine awp_skip ?_ | refine awp_scope ?_ | refine awp_label ?_)
      refine awp_region tabOk fun K hK => ?_
      simp -dsimp -implicitDefEqProofs only [hbl, d, push_cast, ↓trAdd_f, ↓stOf_f, seval]
      refine hK _ ?_
      try refine hK _ ?_
      repeat (first | refine awp_seq ?_ | refine awp_block ?_ | refine awp_skip ?_ | refine awp_scope ?_ | refine awp_label ?_)
      refine awp_cond (b := true) (by simp -dsimp -implicitDefEqProofs only [push_cast, ↓trAdd_f, ↓stOf_f, seval]) (fun h => ?_) (fun h => ?_)
      rotate_left
      · cases h
      refine awp_skip ?_
      by_cases hkn : k < n
      · have hz := herr k hkn
        rw [hz, if_pos rfl] at hblk
        try refine hK _ ?_
        repeat (first | refine awp_seq ?_ | refine awp_block ?_ | refine awp_skip ?_ | refine awp_scope ?_ | refine awp_label ?_)
        refine awp_draw tabOk (by kernel_rfl) (by kernel_rfl) fun K hK C hC => ?_
        simp -dsimp -implicitDefEqProofs only [hg, hbl, push_cast, ↓trAdd_f, ↓stOf_f, seval]
        refine ⟨⟨by omega, by omega⟩, ?_⟩
        refine callK_simple hblk ?_ rfl fun _ => ?_
        · simp -dsimp -implicitDefEqProofs only [push_cast, List.mem_append, List.mem_cons, List.mem_singleton, forall_eq_or_imp, forall_eq, ↓trAdd_f, ↓stOf_f, seval]
        simp -dsimp -implicitDefEqProofs only [push_cast, ↓trAdd_f, ↓stOf_f, seval]
        refine ⟨hC _ (by kernel_rfl), hK _ ?_⟩
        try refine hK _ ?_
        repeat (first | refine awp_seq ?_ | refine awp_block ?_ | refine awp_skip ?_ | refine awp_scope ?_ | refine awp_label ?_)
        refine awp_region tabOk fun K hK => ?_
        simp -dsimp -implicitDefEqProofs only [w, push_cast, ↓trAdd_f, ↓stOf_f, seval]
        refine hK _ ⟨(sIt G.f (1 - s) (packS m key) 0 (k + 1), ldL m.ver (packS m key).length (k + 1) (1 - s), 0, k + 1), .inl ⟨hkn, rfl⟩, by show nBlocks (packS m key) + 1 - (k + 1) < nBlocks (packS m key) + 1 - k; omega, ?_⟩
        simp only [l24S]
        refine le_intro hB [(100, 100), (101, 101), (102, 102)] (by simp) (fun b hb => absurd hb (Nat.not_lt_zero b)) rfl ?_ ?_ rfl <;> simp -dsimp -implicitDefEqProofs only [push_cast, ↓trAdd_f, ↓stOf_f, seval]
      · have hkn' : k = n := by omega
        subst hkn'
        have hne0 : sErr G.f (1 - s) (packS m key) 0 k ≠ 0 := by
          rcases hend with ⟨q, _⟩ | ⟨_, q, _⟩
          · omega
          · exact q
        rw [if_neg hne0] at hblk
        try refine hK _ ?_
        repeat (first | refine awp_seq ?_ | refine awp_block ?_ | refine awp_skip ?_ | refine awp_scope ?_ | refine awp_label ?_)
        refine awp_draw tabOk (by kernel_rfl) (by kernel_rfl) fun K hK C hC => ?_
        simp -dsimp -implicitDefEqProofs only [hg, hbl, push_cast, ↓trAdd_f, ↓stOf_f, seval]
        refine ⟨⟨by omega, by omega⟩, ?_⟩
        refine callK_simple hblk ?_ rfl fun _ => ?_
        · simp -dsimp -implicitDefEqProofs only [push_cast, List.mem_append, List.mem_cons, List.mem_singleton, forall_eq_or_imp, forall_eq, ↓trAdd_f, ↓stOf_f, seval]
        simp -dsimp -implicitDefEqProofs only [push_cast, ↓trAdd_f, ↓stOf_f, seval]
        refine ⟨hC _ (by kernel_rfl), hK _ ?_⟩
        try refine hK _ ?_
        repeat (first | refine awp_seq ?_ | refine awp_block ?_ | refine awp_skip ?_ | refine awp_scope ?_ | refine awp_label ?_)
        refine awp_region tabOk fun K hK => ?_
        simp -dsimp -implicitDefEqProofs only [w, push_cast, ↓trAdd_f, ↓stOf_f, seval]
        refine hK _ ⟨(sIt G.f (1 - s) (packS m key) 0 (k + 1), ldL m.ver (packS m key).length k (1 - s), sErr G.f (1 - s) (packS m key) 0 k, k + 1), .inr ⟨hlt, rfl⟩, by show nBlocks (packS m key) + 1 - (k + 1) < nBlocks (packS m key) + 1 - k; omega, ?_⟩
        simp only [l24S]
        refine le_intro hB [(100, 100), (101, 101), (102, 102)] (by simp) (fun b hb => absurd hb (Nat.not_lt_zero b)) rfl ?_ ?_ rfl <;> simp -dsimp -implicitDefEqProofs only [push_cast, ↓trAdd_f, ↓stOf_f, seval]
    · have hke : k = nBlocks (packS m key) := by omega
      have hkn : n = nBlocks (packS m key) := by omega
      subst hke
      have hsv : savG G.f (1 - s) (packS m key) 0 (nBlocks (packS m key)) = (sIt G.f (1 - s) (packS m key) 0 (nBlocks (packS m key)), 0) := by
        rcases hend with ⟨_, q⟩ | ⟨q, _, _⟩
        · exact q
        · omega
      rw [hsv, if_neg (by simp)] at e0
      have hen := endS_ok (sIt G.f (1 - s) (packS m key) 0 (nBlocks (packS m key))) (ldL m.ver (packS m key).length (nBlocks (packS m key)) (1 - s)) key (1 - s) (packS m key).length (hbigI _) (by omega) rfl rfl rfl (by omega) rfl
      have d : decide ((nBlocks (packS m key) : Int) < (nBlocks (packS m key) : Int)) = false := by simp
      try refine hK _ ?_
      repeat (first | refine awp_seq ?_ | refine awp_block ?_ | refine awp_skip ?_ | refine awp_scope ?_ | refine awp_label ?_)
      refine awp_region tabOk fun K hK => ?_
      simp -dsimp -implicitDefEqProofs only [hbl, d, push_cast, ↓trAdd_f, ↓stOf_f, seval]
      refine hK _ ?_
      try refine hK _ ?_
      repeat (first | refine awp_seq ?_ | refine awp_block ?_ | refine awp_skip ?_ | refine awp_scope ?_ | refine awp_label ?_)
      refine awp_cond (b := false) (by simp -dsimp -implicitDefEqProofs only [push_cast, ↓trAdd_f, ↓stOf_f, seval]) (fun h => ?_) (fun h => ?_)
      · cases h
      refine awp_exit rfl ?_
      try refine hK _ ?_
      repeat (first | refine awp_seq ?_ | refine awp_block ?_ | refine awp_skip ?_ | refine awp_scope ?_ | refine awp_label ?_)
      refine awp_region tabOk fun K hK => ?_
      simp -dsimp -implicitDefEqProofs only [push_cast, ↓trAdd_f, ↓stOf_f, seval]
      try refine hK _ ?_
      repeat (first | refine awp_seq ?_ | refine awp_block ?_ | refine awp_skip ?_ | refine awp_scope ?_ | refine awp_label ?_)
      refine awp_cond (b := true) (by simp -dsimp -implicitDefEqProofs only [push_cast, ↓trAdd_f, ↓stOf_f, seval]) (fun h => ?_) (fun h => ?_)
      rotate_left
      · cases h
      try refine hK _ ?_
      repeat (first | refine awp_seq ?_ | refine awp_block ?_ | refine awp_skip ?_ | refine awp_scope ?_ | refine awp_label ?_)
      refine awp_region tabOk fun K hK => ?_
      simp -dsimp -implicitDefEqProofs only [push_cast, ↓trAdd_f, ↓stOf_f, seval]
      refine callK_simple hen ?_ rfl fun _ => ?_
      · simp -dsimp -implicitDefEqProofs only [push_cast, List.mem_append, List.mem_cons, List.mem_singleton, forall_eq_or_imp, forall_eq, ↓trAdd_f, ↓stOf_f, seval]
      have e1 : loadedF f s m key = endF (sIt G.f (1 - s) (packS m key) 0 (nBlocks (packS m key))) (1 - s) (packS m key).length (ldL m.ver (packS m key).length (nBlocks (packS m key)) (1 - s)).ver key := e0
      rw [← e1]
      generalize loadedF f s m key = o at *
      obtain ⟨o1, o2⟩ := o
      simp -dsimp -implicitDefEqProofs only [load0, push_cast, ↓trAdd_f, ↓stOf_f, seval]
      refine hK _ ?_
      try refine hK _ ?_
      repeat (first | refine awp_seq ?_ | refine awp_block ?_ | refine awp_skip ?_ | refine awp_scope ?_ | refine awp_label ?_)
      refine awp_region tabOk fun K hK => ?_
      simp -dsimp -implicitDefEqProofs only [push_cast, ↓trAdd_f, ↓stOf_f, seval]
      refine hK _ (awp_ret ?_)
      simp -dsimp -implicitDefEqProofs only [push_cast, List.mem_append, List.mem_cons, List.mem_singleton, forall_eq_or_imp, forall_eq, ↓trAdd_f, ↓stOf_f, seval]
  · obtain ⟨_, _, _, k⟩ := x
    have hxk := congrArg (fun x => x.2.2.2) hx
    simp only at hxk
    rw [hx]
    simp only [l24S]
    have hne0 : sErr G.f (1 - s) (packS m key) 0 n ≠ 0 := by
      rcases hend with ⟨q, _⟩ | ⟨_, q, _⟩
      · omega
      · exact q
    have hsv : savG G.f (1 - s) (packS m key) 0 (nBlocks (packS m key)) = (sIt G.f (1 - s) (packS m key) 0 (n + 1), sErr G.f (1 - s) (packS m key) 0 n) := by
      rcases hend with ⟨q, _⟩ | ⟨_, _, q⟩
      · omega
      · exact q
    rw [hsv, if_pos hne0] at e0
    have hE : (sErr G.f (1 - s) (packS m key) 0 n == 0) = false := by simpa using hne0
    have out : ∀ d : Bool, decide (((n + 1 : Nat) : Int) < (nBlocks (packS m key) : Int)) = d → True := fun _ _ => trivial
    cases hd : decide (((n : Int) + 1) < (nBlocks (packS m key) : Int)) with
    | true =>
      try refine hK _ ?_
      repeat (first | refine awp_seq ?_ | refine awp_block ?_ | refine awp_skip ?_ | refine awp_scope ?_ | refine awp_label ?_)
      refine awp_region tabOk fun K hK => ?_
      simp -dsimp -implicitDefEqProofs only [hbl, hd, hE, push_cast, ↓trAdd_f, ↓stOf_f, seval]
      refine hK _ ?_
      try refine hK _ ?_
      repeat (first | refine awp_seq ?_ | refine awp_block ?_ | refine awp_skip ?_ | refine awp_scope ?_ | refine awp_label ?_)
      refine awp_cond (b := false) (by simp -dsimp -implicitDefEqProofs only [push_cast, ↓trAdd_f, ↓stOf_f, seval]) (fun h => ?_) (fun h => ?_)
      · cases h
      refine awp_exit rfl ?_
      try refine hK _ ?_
      repeat (first | refine awp_seq ?_ | refine awp_block ?_ | refine awp_skip ?_ | refine awp_scope ?_ | refine awp_label ?_)
      refine awp_region tabOk fun K hK => ?_
      simp -dsimp -implicitDefEqProofs only [hE, push_cast, ↓trAdd_f, ↓stOf_f, seval]
      try refine hK _ ?_
      repeat (first | refine awp_seq ?_ | refine awp_block ?_ | refine awp_skip ?_ | refine awp_scope ?_ | refine awp_label ?_)
      refine awp_cond (b := false) (by simp -dsimp -implicitDefEqProofs only [push_cast, ↓trAdd_f, ↓stOf_f, seval]) (fun h => ?_) (fun h => ?_)
      · cases h
      refine awp_skip ?_
      try refine hK _ ?_
      repeat (first | refine awp_seq ?_ | refine awp_block ?_ | refine awp_skip ?_ | refine awp_scope ?_ | refine awp_label ?_)
      refine awp_region tabOk fun K hK => ?_
      simp -dsimp -implicitDefEqProofs only [push_cast, ↓trAdd_f, ↓stOf_f, seval]
      refine hK _ (awp_ret ?_)
      simp -dsimp -implicitDefEqProofs only [e0, push_cast, List.mem_append, List.mem_cons, List.mem_singleton, forall_eq_or_imp, forall_eq, ↓trAdd_f, ↓stOf_f, seval]
    | false =>
      try refine hK _ ?_
      repeat (first | refine awp_seq ?_ | refine awp_block ?_ | refine awp_skip ?_ | refine awp_scope ?_ | refine awp_label ?_)
      refine awp_region tabOk fun K hK => ?_
      simp -dsimp -implicitDefEqProofs only [hbl, hd, hE, push_cast, ↓trAdd_f, ↓stOf_f, seval]
      refine hK _ ?_
      try refine hK _ ?_
      repeat (first | refine awp_seq ?_ | refine awp_block ?_ | refine awp_skip ?_ | refine awp_scope ?_ | refine awp_label ?_)
      refine awp_cond (b := false) (by simp -dsimp -implicitDefEqProofs only [push_cast, ↓trAdd_f, ↓stOf_f, seval]) (fun h => ?_) (fun h => ?_)
      · cases h
      refine awp_exit rfl ?_
      try refine hK _ ?_
      repeat (first | refine awp_seq ?_ | refine awp_block ?_ | refine awp_skip ?_ | refine awp_scope ?_ | refine awp_label ?_)
      refine awp_region tabOk fun K hK => ?_
      simp -dsimp -implicitDefEqProofs only [hE, push_cast, ↓trAdd_f, ↓stOf_f, seval]
      try refine hK _ ?_
      repeat (first | refine awp_seq ?_ | refine awp_block ?_ | refine awp_skip ?_ | refine awp_scope ?_ | refine awp_label ?_)
      refine awp_cond (b := false) (by simp -dsimp -implicitDefEqProofs only [push_cast, ↓trAdd_f, ↓stOf_f, seval]) (fun h => ?_) (fun h => ?_)
      · cases h
      refine awp_skip ?_
      try refine hK _ ?_
      repeat (first | refine awp_seq ?_ | refine awp_block ?_ | refine awp_skip ?_ | refine awp_scope ?_ | refine awp_label ?_)
      refine awp_region tabOk fun K hK => ?_
      simp -dsimp -implicitDefEqProofs only [push_cast, ↓trAdd_f, ↓stOf_f, seval]
      refine hK _ (awp_ret ?_)
      simp -dsimp -implicitDefEqProofs only [e0, push_cast, List.mem_append, List.mem_cons, List.mem_singleton, forall_eq_or_imp, forall_eq, ↓trAdd_f, ↓stOf_f, seval]
end Go.Proofs.YtoifmpiikopelaaDoorFw

/-
  Loads, beginnings and tellings with the power on; a flash with one image (no program in sight).
-/
namespace Go.Proofs.YtoifmpiikopelaaDoorFw
open Go Go.Proofs
set_option linter.unusedVariables false
set_option linter.unusedSimpArgs false

/-- A flash with its power on, and its newest record. -/
structure OnR (f : Flash) (r : Rec) : Prop where
  big : f.big
  down : f.down = false
  left : f.left = -1
  rec_ : RecOk f.pages r
theorem LaidOk.on {m : Img} {key : Int} {f : Flash} (h : LaidOk m key f) : OnR f (recL m.ver) := ⟨h.big, h.down, h.left, h.rec_⟩
theorem load_on {f : Flash} {r : Rec} {s : Nat} {m : Img} {key : Int} (hf : OnR f r) (hs : s ≤ 1) (h4 : r.st s = 4) (hm : m.good) (hk : mayS key = true) (hv : r.ver s < m.ver) (hq : r.seq + 2 < 2147483648) :
    (loadedF f s m key).2 = 0 ∧ OnR (loadedF f s m key).1 (recR r s m.ver) ∧ slotA s f.pages (loadedF f s m key).1.pages ∧ Stored (loadedF f s m key).1.pages (1 - s) (packS m key) ∧
      (∀ j, (loadedF f s m key).1.wear.getD j 0 = if j < 2 ∨ (2 + 34 * (1 - s) ≤ j ∧ j < 36 + 34 * (1 - s)) then bump (f.wear.getD j 0) else f.wear.getD j 0) := by
  obtain ⟨h1, h2, ⟨a1, a2, a3, a4, a5, a6⟩ | ⟨_, a2, _⟩⟩ := load_step hf.big hf.down hf.rec_ hs h4 hm hk hv hq
  · exact ⟨a1, ⟨h1, a2, a5 hf.left, a3⟩, h2, a4, a6⟩
  · exact (a2 hf.left).elim
theorem put_on {f : Flash} {r r' : Rec} (hf : OnR f r) (hr : r'.good) (hs : r'.seq = r.seq + 1) : (putF f r').2 = 0 ∧ OnR (putF f r').1 r' ∧ Agree 2 70 f.pages (putF f r').1.pages ∧ WearSet f.wear (putF f r').1.wear r'.pg := by
  obtain ⟨p1, p2, ⟨a1, a2, a3, a4, a5⟩ | ⟨_, a2, _⟩⟩ := put_step hf.big hf.down hf.rec_ hr hs
  · exact ⟨a1, ⟨p1, a2, a4 hf.left, a3⟩, p2, a5⟩
  · exact (a2 hf.left).elim
theorem boot_on {f : Flash} {r : Rec} {key : Int} {s : Nat} {m : Img} (hf : OnR f r) (hs : s ≤ 1) (h2 : r.st s = 2 ∨ r.st s = 3) (ht : 0 < r.tries) (hw : wholeF f s key = (m, true)) (ho : r.st (1 - s) ≠ 2 ∧ r.st (1 - s) ≠ 3) (hq : r.seq + 1 < 2147483648) :
    bootF f key = ⟨(putF f (recB r s)).1, s, m, 0⟩ ∧ OnR (putF f (recB r s)).1 (recB r s) ∧ Agree 2 70 f.pages (putF f (recB r s)).1.pages ∧ WearSet f.wear (putF f (recB r s)).1.wear (recB r s).pg := by
  obtain ⟨a1, a2, a3, a4⟩ := put_on hf (recB_good hf.rec_.good s ht hq) (recB_seq r s)
  refine ⟨?_, a2, a3, a4⟩
  rw [boot_trial hf.rec_ hf.down hs h2 ht hw ho, if_neg (fun h => h a1)]
theorem well_on {f : Flash} {r : Rec} {s : Nat} (hf : OnR f r) (h3 : r.st s = 3) (hq : r.seq + 1 < 2147483648) :
    wellF f s = ((putF f (recW r s)).1, 0) ∧ OnR (putF f (recW r s)).1 (recW r s) ∧ Agree 2 70 f.pages (putF f (recW r s)).1.pages ∧ WearSet f.wear (putF f (recW r s)).1.wear (recW r s).pg := by
  obtain ⟨a1, a2, a3, a4⟩ := put_on hf (recW_good hf.rec_.good s hq) (recW_seq r s)
  refine ⟨?_, a2, a3, a4⟩
  rw [well_3 hf.rec_ hf.down h3]
  exact Prod.ext rfl a1
theorem laid_boot {m : Img} (h : m.good) {key : Int} (hk : mayS key = true) {f : Flash} (hf : LaidOk m key f) : bootF f key = ⟨f, 0, m, 0⟩ := by
  have t0 : trialB f (recL m.ver) key 0 = false := trial_no (.inl ⟨by show (4 : Int) ≠ 2; decide, by show (4 : Int) ≠ 3; decide⟩)
  have t1 : trialB f (recL m.ver) key 1 = false := trial_no (.inl ⟨by show (1 : Int) ≠ 2; decide, by show (1 : Int) ≠ 3; decide⟩)
  exact boot_proved (s := 0) hf.rec_ hf.down (by decide) t0 t1 rfl (whole_same h hk hf.stored hf.big.n70 (by decide) hf.down) (proved_no (.inl (by show (1 : Int) ≠ 4; decide)))
theorem laid_boot_no {m : Img} (h : m.good) {key other : Int} (hk : mayS other = true) (hne : (sealS (packH m) m.body key).toNat ≠ (sealS (packH m) m.body other).toNat) {f : Flash} (hf : LaidOk m key f) : bootF f other = ⟨f, -1, img0, 260⟩ := by
  have t0 : trialB f (recL m.ver) other 0 = false := trial_no (.inl ⟨by show (4 : Int) ≠ 2; decide, by show (4 : Int) ≠ 3; decide⟩)
  have t1 : trialB f (recL m.ver) other 1 = false := trial_no (.inl ⟨by show (1 : Int) ≠ 2; decide, by show (1 : Int) ≠ 3; decide⟩)
  refine boot_none hf.rec_ hf.down t0 t1 (proved_no (.inr ?_)) (proved_no (.inl (by show (1 : Int) ≠ 4; decide)))
  rw [whole_pack h hk hf.stored hf.big.n70 (by decide) hf.down, if_neg hne]
end Go.Proofs.YtoifmpiikopelaaDoorFw

/-
  Walks: runsNow, head28.
-/
namespace Go.Proofs.YtoifmpiikopelaaDoorFw
open Go Go.Proofs
set_option maxRecDepth 100000
set_option maxHeartbeats 4000000
set_option linter.unusedVariables false
set_option linter.unusedSimpArgs false

theorem runsNow_ok (f : Flash) (m : Img) (key : Int) (hf : f.big) (hm : ∀ x ∈ m.body, byte x) (hx : ∀ x ∈ (bootF f key).m.body, byte x) : FnS Tryd.prog 31 [.agg (encFlash f), .agg (encImg m), .int .i64 key] [] (.bool (runsB f m key)) [] := by
  have hbo := bootF_ok f key hf
  have e0 : runsB f m key = (((bootF f key).e == 0) && ((bootF f key).m.ver == m.ver) && decide ((bootF f key).m.body = m.body)) := rfl
  have hsb := sameBytes_ok false false (bootF f key).m.body m.body hx hm
  generalize bootF f key = o at *
  obtain ⟨g, a, x, e⟩ := o
  simp only at e0
  refine fn_walk tabOk Tryd.func31 rfl (by decide +kernel) Tryd.ntmps31 Tryd.results31 (by simp) fun B hB => ?_
  try refine hK _ ?_
  repeat (first | refine awp_seq ?_ | refine awp_block ?_ | refine awp_skip ?_ | refine awp_scope ?_ | refine awp_label ?_)
  refine awp_region tabOk fun K hK => ?_
  simp -dsimp -implicitDefEqProofs only [push_cast, ↓trAdd_f, ↓stOf_f, seval]
  refine hK _ ?_
  try refine hK _ ?_
  repeat (first | refine awp_seq ?_ | refine awp_block ?_ | refine awp_skip ?_ | refine awp_scope ?_ | refine awp_label ?_)
  refine awp_region tabOk fun K hK => ?_
  simp -dsimp -implicitDefEqProofs only [push_cast, ↓trAdd_f, ↓stOf_f, seval]
  refine callK_simple hbo ?_ rfl fun _ => ?_
  · simp -dsimp -implicitDefEqProofs only [push_cast, List.mem_append, List.mem_cons, List.mem_singleton, forall_eq_or_imp, forall_eq, ↓trAdd_f, ↓stOf_f, seval]
  simp -dsimp -implicitDefEqProofs only [push_cast, ↓trAdd_f, ↓stOf_f, seval]
  refine hK _ ?_
  cases hE : (e == 0) with
  | false =>
    have er : runsB f m key = false := by rw [e0, hE]; rfl
    try refine hK _ ?_
    repeat (first | refine awp_seq ?_ | refine awp_block ?_ | refine awp_skip ?_ | refine awp_scope ?_ | refine awp_label ?_)
    refine awp_region tabOk fun K hK => ?_
    simp -dsimp -implicitDefEqProofs only [hE, push_cast, ↓trAdd_f, ↓stOf_f, seval]
    refine hK _ (awp_ret ?_)
    simp -dsimp -implicitDefEqProofs only [er, push_cast, List.mem_append, List.mem_cons, List.mem_singleton, forall_eq_or_imp, forall_eq, ↓trAdd_f, ↓stOf_f, seval]
  | true =>
  cases hV : (x.ver == m.ver) with
  | false =>
    have er : runsB f m key = false := by rw [e0, hV]; simp
    try refine hK _ ?_
    repeat (first | refine awp_seq ?_ | refine awp_block ?_ | refine awp_skip ?_ | refine awp_scope ?_ | refine awp_label ?_)
    refine awp_region tabOk fun K hK => ?_
    simp -dsimp -implicitDefEqProofs only [hE, hV, push_cast, ↓trAdd_f, ↓stOf_f, seval]
    refine hK _ (awp_ret ?_)
    simp -dsimp -implicitDefEqProofs only [er, push_cast, List.mem_append, List.mem_cons, List.mem_singleton, forall_eq_or_imp, forall_eq, ↓trAdd_f, ↓stOf_f, seval]
  | true =>
    have er : runsB f m key = decide (x.body = m.body) := by rw [e0, hE, hV]; rfl
    try refine hK _ ?_
    repeat (first | refine awp_seq ?_ | refine awp_block ?_ | refine awp_skip ?_ | refine awp_scope ?_ | refine awp_label ?_)
    refine awp_region tabOk fun K hK => ?_
    simp -dsimp -implicitDefEqProofs only [hE, hV, push_cast, ↓trAdd_f, ↓stOf_f, seval]
    refine callK_simple hsb ?_ rfl fun _ => ?_
    · simp -dsimp -implicitDefEqProofs only [push_cast, List.mem_append, List.mem_cons, List.mem_singleton, forall_eq_or_imp, forall_eq, ↓trAdd_f, ↓stOf_f, seval]
    simp -dsimp -implicitDefEqProofs only [push_cast, ↓trAdd_f, ↓stOf_f, seval]
    refine hK _ (awp_ret ?_)
    simp -dsimp -implicitDefEqProofs only [er, push_cast, List.mem_append, List.mem_cons, List.mem_singleton, forall_eq_or_imp, forall_eq, ↓trAdd_f, ↓stOf_f, seval]
theorem img_good2 (v : Int) (b : List Int) (hv : 0 ≤ v ∧ v < 2147483648) (h1 : 1 ≤ b.length) (h2 : b.length ≤ 2048) (hb : ∀ x ∈ b, byte x) : (Img.mk v b).good := ⟨hv, h1, h2, hb⟩
theorem runs_no {f : Flash} {m n : Img} {key : Int} {g : Flash} {a : Int} (h : bootF f key = ⟨g, a, n, 0⟩) (hv : n.ver ≠ m.ver) : runsB f m key = false := by
  unfold runsB
  rw [h]
  have : (n.ver == m.ver) = false := by simpa using hv
  simp [this]
theorem may32 {k : Int} (h : 0 ≤ k ∧ k ≤ 4294967295) : mayS k = true := by
  unfold mayS
  simp only [Bool.and_eq_true, decide_eq_true_eq]
  exact h
theorem u32w {k : Int} (h : 0 ≤ k ∧ k ≤ 4294967295) : IntKind.i64.wrap k = k := wrap_i64 (by omega) (by omega)
theorem u16mod {c : Int} (h : 0 ≤ c ∧ c ≤ 65535) : -1 ≤ c.tmod 700 ∧ c.tmod 700 ≤ 9223372036854775807 ∧ IntKind.i64.wrap (c.tmod 700) = c.tmod 700 ∧ IntKind.i64.wrap c = c := by
  rw [Int.tmod_eq_emod_of_nonneg h.1]
  exact ⟨by omega, by omega, wrap_i64 (by omega) (by omega), wrap_i64 (by omega) (by omega)⟩
theorem runsT_ok {f g : Flash} {a : Int} {m : Img} {key : Int} (hf : f.big) (hm : ∀ x ∈ m.body, byte x) (h : bootF f key = ⟨g, a, m, 0⟩) : FnS Tryd.prog 31 [.agg (encFlash f), .agg (encImg m), .int .i64 key] [] (.bool true) [] := by
  have := runsNow_ok f m key hf hm (by rw [h]; exact hm)
  rwa [runs_of h] at this
theorem runsF_ok {f g : Flash} {a : Int} {m n : Img} {key : Int} (hf : f.big) (hm : ∀ x ∈ m.body, byte x) (hn : ∀ x ∈ n.body, byte x) (h : bootF f key = ⟨g, a, n, 0⟩) (hv : n.ver ≠ m.ver) : FnS Tryd.prog 31 [.agg (encFlash f), .agg (encImg m), .int .i64 key] [] (.bool false) [] := by
  have := runsNow_ok f m key hf hm (by rw [h]; exact hn)
  rwa [runs_no h hv] at this
theorem byte_w {k : Int} (h : byte k) : IntKind.i64.wrap k = k := by unfold byte at h; exact wrap_i64 (by omega) (by omega)
theorem byte_mod {c : Int} (h : byte c) (n : Int) (h1 : 1 ≤ n) (h2 : n ≤ 1000) : -1 ≤ c.tmod n ∧ c.tmod n ≤ 9223372036854775807 ∧ IntKind.i64.wrap (c.tmod n) = c.tmod n := by
  have e : c.tmod n = c % n := Int.tmod_eq_emod_of_nonneg h.1
  have a := Int.emod_nonneg c (show n ≠ 0 by omega)
  have b := Int.emod_lt_of_pos c (show 0 < n by omega)
  rw [e]
  exact ⟨by omega, by omega, wrap_i64 (by omega) (by omega)⟩
def m28 : Img := ⟨3, [7]⟩
theorem m28_good : m28.good := img_good2 3 [7] (by decide) (by decide) (by decide) (by intro x hx; simp at hx; subst hx; exact ⟨by decide, by decide⟩)
theorem seal28 : (sealS (packH m28) m28.body 9).toNat ≠ (sealS (packH m28) m28.body 8).toNat := by decide +kernel
theorem head28_ok : FnS Tryd.prog 24 [] [] (.bool true) [] := by
  obtain ⟨_, _, _, hL⟩ := laid_is m28_good 9
  have hk : mayS 9 = true := rfl
  have hk8 : mayS 8 = true := rfl
  have hld : FnS Tryd.prog 26 [.agg (encImg ⟨3, [7]⟩), .int .i64 9] [] (.tup [.agg (encFlash (laidZ m28 9)), .bool true]) [] := laid_ok m28 9 m28_good hk
  have hb9 := bootF_ok (laidZ m28 9) 9 hL.big
  rw [laid_boot m28_good hk hL] at hb9
  have hb8 := bootF_ok (laidZ m28 9) 8 hL.big
  rw [laid_boot_no m28_good hk8 seal28 hL] at hb8
  have hm : encImg m28 = [.int .i64 3, .sl false 1 [[.int .u8 7]]] := rfl
  simp only [] at hb9
  rw [hm] at hb9
  clear hL
  generalize laidZ m28 9 = Z at *
  refine fn_walk tabOk Tryd.func24 rfl (by decide +kernel) Tryd.ntmps24 Tryd.results24 (by simp) fun B hB => ?_
  try refine hK _ ?_
  repeat (first | refine awp_seq ?_ | refine awp_block ?_ | refine awp_skip ?_ | refine awp_scope ?_ | refine awp_label ?_)
  refine awp_region tabOk fun K hK => ?_
  simp -dsimp -implicitDefEqProofs only [push_cast, ↓trAdd_f, ↓stOf_f, seval]
  refine hK _ ?_
  try refine hK _ ?_
  repeat (first | refine awp_seq ?_ | refine awp_block ?_ | refine awp_skip ?_ | refine awp_scope ?_ | refine awp_label ?_)
  refine awp_region tabOk fun K hK => ?_
  simp -dsimp -implicitDefEqProofs only [encB, push_cast, ↓trAdd_f, ↓stOf_f, seval]
  refine callK_simple hld ?_ rfl fun _ => ?_
  · simp -dsimp -implicitDefEqProofs only [encB, push_cast, List.mem_append, List.mem_cons, List.mem_singleton, forall_eq_or_imp, forall_eq, ↓trAdd_f, ↓stOf_f, seval]
  simp -dsimp -implicitDefEqProofs only [push_cast, ↓trAdd_f, ↓stOf_f, seval]
  refine hK _ ?_
  try refine hK _ ?_
  repeat (first | refine awp_seq ?_ | refine awp_block ?_ | refine awp_skip ?_ | refine awp_scope ?_ | refine awp_label ?_)
  refine awp_region tabOk fun K hK => ?_
  simp -dsimp -implicitDefEqProofs only [push_cast, ↓trAdd_f, ↓stOf_f, seval]
  refine callK_simple hb9 ?_ rfl fun _ => ?_
  · simp -dsimp -implicitDefEqProofs only [push_cast, List.mem_append, List.mem_cons, List.mem_singleton, forall_eq_or_imp, forall_eq, ↓trAdd_f, ↓stOf_f, seval]
  simp -dsimp -implicitDefEqProofs only [push_cast, ↓trAdd_f, ↓stOf_f, seval]
  refine hK _ ?_
  try refine hK _ ?_
  repeat (first | refine awp_seq ?_ | refine awp_block ?_ | refine awp_skip ?_ | refine awp_scope ?_ | refine awp_label ?_)
  refine awp_region tabOk fun K hK => ?_
  simp -dsimp -implicitDefEqProofs only [push_cast, ↓trAdd_f, ↓stOf_f, seval]
  refine callK_simple hb8 ?_ rfl fun _ => ?_
  · simp -dsimp -implicitDefEqProofs only [push_cast, List.mem_append, List.mem_cons, List.mem_singleton, forall_eq_or_imp, forall_eq, ↓trAdd_f, ↓stOf_f, seval]
  simp -dsimp -implicitDefEqProofs only [img0, push_cast, ↓trAdd_f, ↓stOf_f, seval]
  refine hK _ ?_
  try refine hK _ ?_
  repeat (first | refine awp_seq ?_ | refine awp_block ?_ | refine awp_skip ?_ | refine awp_scope ?_ | refine awp_label ?_)
  refine awp_region tabOk fun K hK => ?_
  simp -dsimp -implicitDefEqProofs only [push_cast, ↓trAdd_f, ↓stOf_f, seval]
  refine hK _ (awp_ret ?_)
  simp -dsimp -implicitDefEqProofs only [push_cast, List.mem_append, List.mem_cons, List.mem_singleton, forall_eq_or_imp, forall_eq, ↓trAdd_f, ↓stOf_f, seval]
end Go.Proofs.YtoifmpiikopelaaDoorFw

/-
  Walks: head24.
-/
namespace Go.Proofs.YtoifmpiikopelaaDoorFw
open Go Go.Proofs
set_option maxRecDepth 100000
set_option maxHeartbeats 4000000
set_option linter.unusedVariables false
set_option linter.unusedSimpArgs false

def m24a : Img := ⟨1, [111, 110, 101]⟩
def m24b : Img := ⟨2, [116, 119, 111]⟩
theorem m24a_good : m24a.good := img_good2 1 _ (by decide) (by decide) (by decide) (by intro x hx; simp at hx; rcases hx with rfl | rfl | rfl <;> exact ⟨by decide, by decide⟩)
theorem m24b_good : m24b.good := img_good2 2 _ (by decide) (by decide) (by decide) (by intro x hx; simp at hx; rcases hx with rfl | rfl | rfl <;> exact ⟨by decide, by decide⟩)
theorem head24_ok : FnS Tryd.prog 32 [] [] (.bool true) [] := by
  obtain ⟨_, _, _, hL⟩ := laid_is m24a_good 3
  have hk : mayS 3 = true := rfl
  have hld : FnS Tryd.prog 37 [.agg (encImg ⟨1, [111, 110, 101]⟩), .int .i64 3] [] (.tup [.agg (encFlash (laidZ m24a 3)), .bool true]) [] := proved24_ok m24a 3 m24a_good hk
  obtain ⟨l1, l2, l3, l4, _⟩ := load_on (s := 0) (m := m24b) (key := 3) hL.on (by decide) rfl m24b_good hk (by show (1 : Int) < 2; decide) (by show (1 : Int) + 2 < 2147483648; decide)
  have hlo : FnS Tryd.prog 38 [.agg (encFlash (laidZ m24a 3)), .int .i64 0, .agg (encImg ⟨2, [116, 119, 111]⟩), .int .i64 3] [] _ [] := loaded24_ok (laidZ m24a 3) 0 m24b 3 hL.big (by decide) m24b_good hk
  rw [l1] at hlo
  have hno : (recR (recL m24a.ver) 0 m24b.ver).st (1 - 1) ≠ 2 ∧ (recR (recL m24a.ver) 0 m24b.ver).st (1 - 1) ≠ 3 := ⟨by decide, by decide⟩
  obtain ⟨b1, _⟩ := boot_on (key := 3) (s := 1) (m := m24b) l2 (by decide) (.inl rfl) (by decide) (whole_same m24b_good hk l4 l2.big.n70 (by decide) l2.down) hno (by decide)
  have hbo := bootF_ok (loadedF (laidZ m24a 3) 0 m24b 3).1 3 l2.big
  rw [b1] at hbo
  have hwh := wholeF_ok (laidZ m24a 3) 0 3 hL.big (by decide)
  rw [whole_same m24a_good hk hL.stored hL.big.n70 (by decide) hL.down] at hwh
  have ea : encImg m24a = [.int .i64 1, .sl false 1 [[.int .u8 111], [.int .u8 110], [.int .u8 101]]] := rfl
  have eb : encImg m24b = [.int .i64 2, .sl false 1 [[.int .u8 116], [.int .u8 119], [.int .u8 111]]] := rfl
  simp only [] at hbo hwh
  rw [eb] at hbo
  rw [ea] at hwh
  clear hno b1 l2 l3 l4
  generalize (putF (loadedF (laidZ m24a 3) 0 m24b 3).1 (recB (recR (recL m24a.ver) 0 m24b.ver) 1)).1 = W at *
  generalize (loadedF (laidZ m24a 3) 0 m24b 3).1 = G at *
  clear hL l1
  generalize laidZ m24a 3 = Z at *
  have s1 : ((bytesOf [[PV.int .u8 111], [.int .u8 110], [.int .u8 101]]).toList == (⟨#[111, 110, 101]⟩ : ByteArray).toList) = true := by decide +kernel
  have s2 : ((bytesOf [[PV.int .u8 116], [.int .u8 119], [.int .u8 111]]).toList == (⟨#[116, 119, 111]⟩ : ByteArray).toList) = true := by decide +kernel
  refine fn_walk tabOk Tryd.func32 rfl (by decide +kernel) Tryd.ntmps32 Tryd.results32 (by simp) fun B hB => ?_
  try refine hK _ ?_
  repeat (first | refine awp_seq ?_ | refine awp_block ?_ | refine awp_skip ?_ | refine awp_scope ?_ | refine awp_label ?_)
  refine awp_region tabOk fun K hK => ?_
  simp -dsimp -implicitDefEqProofs only [push_cast, ↓trAdd_f, ↓stOf_f, seval]
  refine hK _ ?_
  try refine hK _ ?_
  repeat (first | refine awp_seq ?_ | refine awp_block ?_ | refine awp_skip ?_ | refine awp_scope ?_ | refine awp_label ?_)
  refine awp_region tabOk fun K hK => ?_
  simp -dsimp -implicitDefEqProofs only [push_cast, ↓trAdd_f, ↓stOf_f, seval]
  refine hK _ ?_
  try refine hK _ ?_
  repeat (first | refine awp_seq ?_ | refine awp_block ?_ | refine awp_skip ?_ | refine awp_scope ?_ | refine awp_label ?_)
  refine awp_region tabOk fun K hK => ?_
  simp -dsimp -implicitDefEqProofs only [push_cast, ↓trAdd_f, ↓stOf_f, seval]
  refine callK_simple hld ?_ rfl fun _ => ?_
  · simp -dsimp -implicitDefEqProofs only [encB, push_cast, List.mem_append, List.mem_cons, List.mem_singleton, forall_eq_or_imp, forall_eq, ↓trAdd_f, ↓stOf_f, seval]
  simp -dsimp -implicitDefEqProofs only [push_cast, ↓trAdd_f, ↓stOf_f, seval]
  refine hK _ ?_
  try refine hK _ ?_
  repeat (first | refine awp_seq ?_ | refine awp_block ?_ | refine awp_skip ?_ | refine awp_scope ?_ | refine awp_label ?_)
  refine awp_region tabOk fun K hK => ?_
  simp -dsimp -implicitDefEqProofs only [push_cast, ↓trAdd_f, ↓stOf_f, seval]
  refine callK_simple hlo ?_ rfl fun _ => ?_
  · simp -dsimp -implicitDefEqProofs only [encB, push_cast, List.mem_append, List.mem_cons, List.mem_singleton, forall_eq_or_imp, forall_eq, ↓trAdd_f, ↓stOf_f, seval]
  simp -dsimp -implicitDefEqProofs only [push_cast, ↓trAdd_f, ↓stOf_f, seval]
  refine hK _ ?_
  try refine hK _ ?_
  repeat (first | refine awp_seq ?_ | refine awp_block ?_ | refine awp_skip ?_ | refine awp_scope ?_ | refine awp_label ?_)
  refine awp_region tabOk fun K hK => ?_
  simp -dsimp -implicitDefEqProofs only [push_cast, ↓trAdd_f, ↓stOf_f, seval]
  refine callK_simple hbo ?_ rfl fun _ => ?_
  · simp -dsimp -implicitDefEqProofs only [push_cast, List.mem_append, List.mem_cons, List.mem_singleton, forall_eq_or_imp, forall_eq, ↓trAdd_f, ↓stOf_f, seval]
  simp -dsimp -implicitDefEqProofs only [push_cast, ↓trAdd_f, ↓stOf_f, seval]
  refine hK _ ?_
  try refine hK _ ?_
  repeat (first | refine awp_seq ?_ | refine awp_block ?_ | refine awp_skip ?_ | refine awp_scope ?_ | refine awp_label ?_)
  refine awp_region tabOk fun K hK => ?_
  simp -dsimp -implicitDefEqProofs only [push_cast, ↓trAdd_f, ↓stOf_f, seval]
  refine callK_simple hwh ?_ rfl fun _ => ?_
  · simp -dsimp -implicitDefEqProofs only [push_cast, List.mem_append, List.mem_cons, List.mem_singleton, forall_eq_or_imp, forall_eq, ↓trAdd_f, ↓stOf_f, seval]
  simp -dsimp -implicitDefEqProofs only [push_cast, ↓trAdd_f, ↓stOf_f, seval]
  refine hK _ ?_
  try refine hK _ ?_
  repeat (first | refine awp_seq ?_ | refine awp_block ?_ | refine awp_skip ?_ | refine awp_scope ?_ | refine awp_label ?_)
  refine awp_region tabOk fun K hK => ?_
  simp -dsimp -implicitDefEqProofs only [s1, s2, push_cast, ↓trAdd_f, ↓stOf_f, seval]
  refine ⟨⟨trivial, trivial, trivial⟩, ⟨trivial, trivial, trivial⟩, hK _ (awp_ret ?_)⟩
  simp -dsimp -implicitDefEqProofs only [push_cast, List.mem_append, List.mem_cons, List.mem_singleton, forall_eq_or_imp, forall_eq, ↓trAdd_f, ↓stOf_f, seval]
end Go.Proofs.YtoifmpiikopelaaDoorFw

/-
  An image in a slot, with its key or another one, and without one block (no program in sight).
-/
namespace Go.Proofs.YtoifmpiikopelaaDoorFw
open Go Go.Proofs
set_option linter.unusedVariables false
set_option linter.unusedSimpArgs false

/-- Bytes of which some, from a place on, are 255. -/
def leftF (b : List Int) (k i : Nat) : List Int := laidAt (List.replicate i 255) (64 * k) b
theorem left_get (b : List Int) (k i : Nat) (h : 64 * k + i ≤ b.length) (j : Nat) : (leftF b k i)[j]? = if 64 * k ≤ j ∧ j < 64 * k + i then some 255 else b[j]? := by
  unfold leftF
  rw [laidAt_get _ _ _ (by simpa using h)]
  simp only [List.length_replicate]
  by_cases h1 : j < 64 * k
  · rw [if_pos h1, if_neg (by omega)]
  · rw [if_neg h1]
    by_cases h2 : j < 64 * k + i
    · rw [if_pos h2, if_pos (by omega), List.getElem?_replicate, if_pos (by omega)]
    · rw [if_neg h2, if_neg (by omega)]
theorem left_len (b : List Int) (k i : Nat) (h : 64 * k + i ≤ b.length) : (leftF b k i).length = b.length := by
  unfold leftF
  exact laidAt_len _ _ _ (by simpa using h)
theorem left_zero (b : List Int) (k : Nat) : leftF b k 0 = b := by unfold leftF; rw [List.replicate_zero, laidAt_nil]
theorem left_succ (b : List Int) (k i : Nat) (h : 64 * k + i < b.length) : (leftF b k i).set (64 * k + i) 255 = leftF b k (i + 1) := by
  apply List.ext_getElem?
  intro j
  rw [List.getElem?_set, left_get b k i (by omega), left_get b k (i + 1) (by omega), left_len b k i (by omega)]
  by_cases e : 64 * k + i = j
  · rw [if_pos e, if_pos h, if_pos (by omega)]
  · rw [if_neg e]
    by_cases q : 64 * k ≤ j ∧ j < 64 * k + i
    · rw [if_pos q, if_pos (by omega)]
    · rw [if_neg q, if_neg (by omega)]
def blkL (b : List Int) (k : Nat) : Nat := min 64 (b.length - 64 * k)
theorem left_bytes {b : List Int} (hb : ∀ x ∈ b, byte x) (k i : Nat) : ∀ x ∈ leftF b k i, byte x := by
  intro x hx
  unfold leftF laidAt at hx
  simp only [List.mem_append] at hx
  rcases hx with (hx | hx) | hx
  · exact hb x (List.mem_of_mem_take hx)
  · rw [(List.mem_replicate.1 hx).2]; exact byte255
  · exact hb x (List.mem_of_mem_drop hx)
theorem left_piece {b : List Int} {k : Nat} (hk : k < nBlocks b) (j : Nat) : pieceOf (leftF b k (blkL b k)) j = if j = k then List.replicate (blkL b k) 255 else pieceOf b j := by
  have hb : 64 * k + blkL b k ≤ b.length := by unfold blkL; unfold nBlocks at hk; omega
  apply List.ext_getElem?
  intro i
  unfold pieceOf
  rw [List.getElem?_take, List.getElem?_drop, left_get b k _ hb]
  by_cases e : j = k
  · subst e
    rw [if_pos rfl, List.getElem?_replicate]
    by_cases h64 : i < 64
    · rw [if_pos h64]
      by_cases hi : i < blkL b j
      · rw [if_pos (by omega), if_pos hi]
      · rw [if_neg (by omega), if_neg hi, List.getElem?_eq_none]
        unfold blkL at hi; omega
    · rw [if_neg h64, if_neg (by unfold blkL; omega)]
  · rw [if_neg e]
    by_cases h64 : i < 64
    · rw [if_pos h64, if_neg (by unfold blkL; omega), List.getElem?_take, if_pos h64, List.getElem?_drop]
    · rw [if_neg h64, List.getElem?_take, if_neg h64]
theorem pad_ff (n : Nat) (h : n ≤ 64) : pad (List.replicate n 255) = clean64 := by
  unfold pad clean64
  rw [List.length_replicate, List.replicate_append_replicate]
  congr 1
  omega
/-- What is told of the flash without one block: what its bytes are. -/
theorem less_is {m : Img} (hm : m.good) {key : Int} {f : Flash} {s k : Nat} (hk : k < nBlocks (packS m key)) (hl : f.pages.length = 70) (hs : s ≤ 1) (hd : f.down = false)
    (h : ∀ j, j < nBlocks (packS m key) → f.pages.getD (2 + 34 * s + j) [] = if j < nBlocks (packS m key) ∧ j ≠ k then pad (pieceOf (packS m key) j) else clean64) :
    (wholeF f s key).2 = ((readM (leftF (packS m key) k (blkL (packS m key) k)) key).2 == 0) := by
  have hpl := packS_len m key
  have hn1 := hm.n1
  have hn2 := hm.n2
  have hfour := pack_four m key (by omega)
  generalize packS m key = b at *
  have hb : 64 * k + blkL b k ≤ b.length := by unfold blkL; unfold nBlocks at hk; omega
  have hlen := left_len b k _ hb
  have hst : Stored f.pages s (leftF b k (blkL b k)) := by
    refine ⟨by omega, fun j hj => ?_⟩
    have hj' : j < nBlocks b := by unfold nBlocks at hj ⊢; omega
    rw [h j hj', left_piece hk]
    by_cases e : j = k
    · rw [if_neg (by omega), if_pos e, pad_ff _ (by unfold blkL; omega)]
    · rw [if_pos ⟨hj', e⟩, if_neg e]
  by_cases k0 : k = 0
  · subst k0
    have hL : 18 ≤ blkL b 0 := by unfold blkL; omega
    have g := left_get b 0 _ hb
    have hff : (leftF b 0 (blkL b 0)).take 18 = List.replicate 18 255 := by
      apply List.ext_getElem?
      intro i
      rw [List.getElem?_take, List.getElem?_replicate, g]
      by_cases hi : i < 18
      · rw [if_pos hi, if_pos hi, if_pos (by omega)]
      · rw [if_neg hi, if_neg hi]
    have hbad : wholeF f s key = (img0, false) := whole_bad hst hl hs hd (by omega) (by rw [hff]; exact .inr (by decide +kernel))
    have hr : readM (leftF b 0 (blkL b 0)) key = (img0, 240) := by
      unfold readM
      rw [if_pos]
      right
      intro e
      have := congrArg (fun l => l[0]?) e
      simp only [List.getElem?_take, g] at this
      rw [if_pos (by omega), if_pos (by omega)] at this
      exact absurd this (by decide)
    rw [hbad, hr]
    rfl
  · have hff : (leftF b k (blkL b k)).take 18 = b.take 18 := by
      apply List.ext_getElem?
      intro i
      rw [List.getElem?_take, List.getElem?_take, left_get b k _ hb]
      by_cases hi : i < 18
      · rw [if_pos hi, if_pos hi, if_neg (by omega)]
      · rw [if_neg hi, if_neg hi]
    rw [whole_stored (n := m.body.length) hst hl hs hd (by omega) (by rw [hff, fourP_take 6 (by decide), hfour]) hn1 hn2 (by omega), List.take_of_length_le (by omega)]
/-- The bytes under two keys are the same just if the seals are. -/
theorem pack_same (m : Img) (key other : Int) : packS m key = packS m other ↔ (sealS (packH m) m.body key).toNat = (sealS (packH m) m.body other).toNat := by
  constructor
  · intro h
    have h1 := pack_seal m key
    rw [h, pack_seal m other] at h1
    omega
  · intro h
    rw [packS_eq, packS_eq, h]
theorem great_good {m : Img} {key : Int} (h : (decide ((m.body.length : Int) < 1) || decide (2048 < (m.body.length : Int)) || decide (m.ver < 0) || decide (2147483648 ≤ m.ver) || decide (key < 0) || decide (4294967296 ≤ key)) = false) (hb : ∀ x ∈ m.body, byte x) : m.good ∧ mayS key = true ∧ (0 ≤ key ∧ key ≤ 4294967295) := by
  simp only [Bool.or_eq_false_iff, decide_eq_false_iff_not] at h
  refine ⟨⟨by omega, by omega, by omega, hb⟩, ?_, by omega⟩
  unfold mayS
  simp only [Bool.and_eq_true, decide_eq_true_eq]
  omega
end Go.Proofs.YtoifmpiikopelaaDoorFw

/-
  Updates one behind the other (no program in sight).
-/
namespace Go.Proofs.YtoifmpiikopelaaDoorFw
open Go Go.Proofs
set_option linter.unusedVariables false
set_option linter.unusedSimpArgs false

/-- Slot s runs an image p that is proved; the record behind which others come has number q. -/
structure TurnOk (f : Flash) (r : Rec) (p : Img) (key : Int) (s : Nat) (q : Int) : Prop where
  on : OnR f r
  s1 : s ≤ 1
  st : r.st s = 4
  ver : r.ver s = p.ver
  seq : r.seq = q
  good : p.good
  stored : Stored f.pages s (packS p key)
theorem laid_turn {m : Img} {key : Int} (h : m.good) {f : Flash} (hf : LaidOk m key f) : TurnOk f (recL m.ver) m key 0 1 := ⟨hf.on, by decide, rfl, rfl, rfl, h, hf.stored⟩
/-- A flash behind a round. -/
structure TurnIs (f : Flash) (s : Nat) (m : Img) (key : Int) (g h k : Flash) (r : Rec) : Prop where
  load : loadedF f s m key = (g, 0)
  big : g.big
  boot : bootF g key = ⟨h, (1 - s : Nat), m, 0⟩
  hbig : h.big
  well : wellF h (1 - s) = (k, 0)
  read : readS k = (r, 0)
  kbig : k.big
  down : k.down = false
  left : k.left = -1
  st0 : r.s0 = 4
  st1 : r.s1 = 4
  again : bootF k key = ⟨k, (1 - s : Nat), m, 0⟩
theorem turn_step {f : Flash} {r : Rec} {p m : Img} {key q : Int} {s : Nat} (hf : TurnOk f r p key s q) (hm : m.good) (hk : mayS key = true) (hv : p.ver < m.ver) (hq : q + 4 < 2147483648) (hq0 : 0 < q) :
    ∃ g h k r', TurnIs f s m key g h k r' ∧ TurnOk k r' m key (1 - s) (q + 4) := by
  have hs := hf.s1
  have hsq := hf.seq
  obtain ⟨l1, l2, l3, l4, _⟩ := load_on hf.on hs hf.st hm hk (by rw [hf.ver]; exact hv) (by omega)
  have l3' : Stored (loadedF f s m key).1.pages s (packS p key) := hf.stored.congr l3
  have hR : (recR r s m.ver).st (1 - s) = 2 ∧ (recR r s m.ver).st s = 4 ∧ (recR r s m.ver).tries = 3 ∧ (recR r s m.ver).ver s = p.ver ∧ (recR r s m.ver).ver (1 - s) = m.ver := by
    have h1 := hf.st
    have h2 := hf.ver
    have hs' : s = 0 ∨ s = 1 := by omega
    rcases hs' with rfl | rfl
    · exact ⟨rfl, h1, rfl, h2, rfl⟩
    · exact ⟨rfl, h1, rfl, h2, rfl⟩
  obtain ⟨R1, R2, R3, R4, R5⟩ := hR
  have hseq := recR_seq r s m.ver
  have e2 : 1 - (1 - s) = s := by omega
  obtain ⟨b1, b2, b3, _⟩ := boot_on (key := key) (s := 1 - s) (m := m) l2 (by omega) (.inl R1) (by omega) (whole_same hm hk l4 l2.big.n70 (by omega) l2.down) (by rw [e2, R2]; exact ⟨by decide, by decide⟩) (by omega)
  have hB : (recB (recR r s m.ver) (1 - s)).st (1 - s) = 3 ∧ (recB (recR r s m.ver) (1 - s)).st s = 4 ∧ (recB (recR r s m.ver) (1 - s)).ver s = p.ver ∧ (recB (recR r s m.ver) (1 - s)).ver (1 - s) = m.ver := by
    have hs' : s = 0 ∨ s = 1 := by omega
    rcases hs' with rfl | rfl
    · exact ⟨rfl, R2, R4, R5⟩
    · exact ⟨rfl, R2, R4, R5⟩
  obtain ⟨B1, B2, B3, B4⟩ := hB
  have hseqB := recB_seq (recR r s m.ver) (1 - s)
  obtain ⟨w1, w2, w3, _⟩ := well_on (s := 1 - s) b2 B1 (by omega)
  have hseqW := recW_seq (recB (recR r s m.ver) (1 - s)) (1 - s)
  have hW : (recW (recB (recR r s m.ver) (1 - s)) (1 - s)).st (1 - s) = 4 ∧ (recW (recB (recR r s m.ver) (1 - s)) (1 - s)).st s = 4 ∧ (recW (recB (recR r s m.ver) (1 - s)) (1 - s)).ver s = p.ver ∧ (recW (recB (recR r s m.ver) (1 - s)) (1 - s)).ver (1 - s) = m.ver := by
    have hs' : s = 0 ∨ s = 1 := by omega
    rcases hs' with rfl | rfl
    · exact ⟨rfl, B2, B3, B4⟩
    · exact ⟨rfl, B2, B3, B4⟩
  generalize hGd : (loadedF f s m key).1 = G at *
  generalize recB (recR r s m.ver) (1 - s) = rb at *
  generalize hHd : (putF G rb).1 = H at *
  generalize recW rb (1 - s) = rw' at *
  generalize hKd : (putF H rw').1 = Kf at *
  obtain ⟨W1, W2, W3, W4⟩ := hW
  have stP : Stored Kf.pages s (packS p key) := (l3'.congr (b3.sub (by omega) (by omega))).congr (w3.sub (by omega) (by omega))
  have stM : Stored Kf.pages (1 - s) (packS m key) := (l4.congr (b3.sub (by omega) (by omega))).congr (w3.sub (by omega) (by omega))
  have wP := whole_same hf.good hk stP w2.big.n70 hs w2.down
  have wM := whole_same hm hk stM w2.big.n70 (by omega) w2.down
  have hst : rw'.s0 = 4 ∧ rw'.s1 = 4 ∧ bootF Kf key = ⟨Kf, (1 - s : Nat), m, 0⟩ := by
    have hs' : s = 0 ∨ s = 1 := by omega
    rcases hs' with rfl | rfl
    · refine ⟨W2, W1, ?_⟩
      rw [boot_both w2.rec_ w2.down W2 W1 wP wM, if_pos (by
        have a1 : rw'.v0 = p.ver := W3
        have a2 : rw'.v1 = m.ver := W4
        omega)]
      rfl
    · refine ⟨W1, W2, ?_⟩
      rw [boot_both w2.rec_ w2.down W1 W2 wM wP, if_neg (by
        have a1 : rw'.v1 = p.ver := W3
        have a2 : rw'.v0 = m.ver := W4
        omega)]
      rfl
  refine ⟨G, H, Kf, rw', ⟨Prod.ext hGd l1, l2.big, b1, b2.big, w1, read_is w2.rec_ w2.down, w2.big, w2.down, w2.left, hst.1, hst.2.1, hst.2.2⟩, ⟨w2, by omega, W1, W4, by omega, hm, stM⟩⟩
theorem powSelf {f : Flash} (hd : f.down = false) (hl : f.left = -1) : powerF f (-1) = f := by
  obtain ⟨p, w, l, d⟩ := f
  simp only at hd hl
  subst hd hl
  rfl
theorem sameF_self (f : Flash) : sameF f f = true := by simp [sameF]
end Go.Proofs.YtoifmpiikopelaaDoorFw
