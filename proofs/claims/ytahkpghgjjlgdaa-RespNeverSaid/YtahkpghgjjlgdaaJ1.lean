import Derived.Test.YtahkpghgjjlgdaaJ0
/-
  Plain: where a busy time is told, each frame's wait is told, and is the least one whatever it is looked for from.
-/
namespace Go.Proofs.YtahkpghgjjlgdaaFw
open Go Go.Proofs
set_option linter.unusedVariables false
set_option linter.unusedSimpArgs false

theorem load_shift (l : List Stream) (t : Int) : load l (t - 1) 1 = load l t 0 := by
  induction l with
  | nil => rfl
  | cons s l ih =>
    rw [load_cons, load_cons, ih]
    unfold load1
    rw [show t - 1 + s.jitter + 1 + s.period - 1 = t + s.jitter + 0 + s.period - 1 by omega]
/-- What a busy time that is told tells. -/
structure Busy (l : List Stream) (i : Nat) (b : Int) (s : Stream) (t : Int) (Q : Nat) : Prop where
  hs : ∀ s ∈ l, s.ok
  st : s.ok
  b0 : 0 ≤ b
  b1 : b ≤ 1000
  t0 : 0 ≤ t
  t7 : t ≤ 10000000
  room : b + (Q : Int) * s.bits + load (l.take i) t 0 = t
theorem Busy.ld {l : List Stream} {i : Nat} {b : Int} {s : Stream} {t : Int} {Q : Nat} (h : Busy l i b s t Q) : 0 ≤ load (l.take i) t 0 :=
  load_nonneg _ (fun s hm => h.hs s (List.mem_of_mem_take hm)) t 0 h.t0 (by decide)
theorem Busy.pre {l : List Stream} {i : Nat} {b : Int} {s : Stream} {t : Int} {Q : Nat} (h : Busy l i b s t Q) {q : Nat} (hq : q < Q) : fWait l i b s.bits q (t - 1) ≤ t - 1 ∧ b + q * s.bits ≤ t - 1 := by
  have h1 : ((q : Int) + 1) * s.bits ≤ Q * s.bits := Int.mul_le_mul_of_nonneg_right (by omega) (by have := h.st.1; omega)
  rw [Int.add_mul] at h1
  have h2 := h.room
  have h3 := h.st.1
  have h5 := load_shift (l.take i) t
  have h6 := h.ld
  unfold fWait
  rw [h5]
  omega
theorem Busy.qc {l : List Stream} {i : Nat} {b : Int} {s : Stream} {t : Int} {Q : Nat} (h : Busy l i b s t Q) {q : Nat} (hq : q ≤ Q) : b + q * s.bits ≤ 10000000 ∧ 0 ≤ (q : Int) * s.bits := by
  have h1 : (q : Int) * s.bits ≤ Q * s.bits := Int.mul_le_mul_of_nonneg_right (by omega) (by have := h.st.1; omega)
  have h2 := h.room
  have h6 := h.ld
  have h7 := h.t7
  exact ⟨by omega, Int.mul_nonneg (by omega) (by have := h.st.1; omega)⟩
/-- From any place below: the least one. -/
theorem Busy.least {l : List Stream} {i : Nat} {b : Int} {s : Stream} {t : Int} {Q : Nat} (h : Busy l i b s t Q) {q : Nat} (hq : q < Q) {x0 : Int} (h0 : 0 ≤ x0) (hup : x0 ≤ fWait l i b s.bits q x0) (ht : x0 ≤ t - 1) :
    (leastF (fWait l i b s.bits q) x0).2 = true ∧ fWait l i b s.bits q (leastF (fWait l i b s.bits q) x0).1 = (leastF (fWait l i b s.bits q) x0).1 ∧ x0 ≤ (leastF (fWait l i b s.bits q) x0).1 ∧ (leastF (fWait l i b s.bits q) x0).1 ≤ t - 1 ∧
      ∀ x, x0 ≤ x → fWait l i b s.bits q x ≤ x → (leastF (fWait l i b s.bits q) x0).1 ≤ x := by
  have hsp := leastF_spec (fWait_mono l i b s.bits q h.hs) x0 h0 hup
  have hp := h.pre hq
  cases hz : (leastF (fWait l i b s.bits q) x0).2 with
  | true =>
    obtain ⟨q1, q2, q3, q4⟩ := hsp.1 hz
    exact ⟨rfl, q1, q2, q4 _ ht hp.1, q4⟩
  | false =>
    exfalso
    have := (hsp.2 hz).2 _ ht hp.1
    have := h.t7
    omega
def waitOf (l : List Stream) (i : Nat) (b : Int) (s : Stream) (q : Nat) : Int := (leastF (fWait l i b s.bits q) (b + q * s.bits)).1
theorem Busy.wait {l : List Stream} {i : Nat} {b : Int} {s : Stream} {t : Int} {Q : Nat} (h : Busy l i b s t Q) {q : Nat} (hq : q < Q) :
    (leastF (fWait l i b s.bits q) (b + q * s.bits)).2 = true ∧ fWait l i b s.bits q (waitOf l i b s q) = waitOf l i b s q ∧ b + q * s.bits ≤ waitOf l i b s q ∧ waitOf l i b s q ≤ t - 1 ∧ ∀ x, b + q * s.bits ≤ x → fWait l i b s.bits q x ≤ x → waitOf l i b s q ≤ x := by
  have h1 := h.qc (Nat.le_of_lt hq)
  have h2 := h.b0
  exact h.least hq (by omega) (fWait_ge l i b s.bits q _ h.hs (by omega)) (h.pre hq).2
theorem Busy.mono {l : List Stream} {i : Nat} {b : Int} {s : Stream} {t : Int} {Q : Nat} (h : Busy l i b s t Q) {q : Nat} (hq : q + 1 < Q) : waitOf l i b s q ≤ waitOf l i b s (q + 1) := by
  obtain ⟨_, h1, h2, h3, _⟩ := h.wait hq
  obtain ⟨_, _, _, _, h4⟩ := h.wait (q := q) (by omega)
  have h5 := fWait_q l i b s.bits q (waitOf l i b s (q + 1)) (by have := h.st.1; omega)
  have e : (((q + 1 : Nat) : Int)) = (q : Int) + 1 := by push_cast; rfl
  rw [e] at h1 h2
  rw [Int.add_mul] at h2
  exact h4 _ (by have := h.st.1; omega) (by omega)
/-- What the program finds from one frame's wait on is the least wait of the next one. -/
theorem Busy.most {l : List Stream} {i : Nat} {b : Int} {s : Stream} {t : Int} {Q : Nat} (h : Busy l i b s t Q) : ∀ (q : Nat), q < Q →
    (leastF (fWait l i b s.bits q) (max (mostQ l i b s q).2 (b + q * s.bits))).1 = waitOf l i b s q
  | 0, hq => by
    have : max (mostQ l i b s 0).2 (b + ((0 : Nat) : Int) * s.bits) = b + ((0 : Nat) : Int) * s.bits := by
      show max b (b + ((0 : Nat) : Int) * s.bits) = _
      simp
    rw [this]; rfl
  | q + 1, hq => by
    have ih := h.most q (by omega)
    have e : (mostQ l i b s (q + 1)).2 = waitOf l i b s q := ih
    rw [e]
    obtain ⟨_, w1, w2, w3, w4⟩ := h.wait hq
    obtain ⟨_, v1, v2, v3, v4⟩ := h.wait (q := q) (by omega)
    have hm := h.mono hq
    have hc := h.qc (q := q) (by omega)
    have hb := h.b0
    have hup : waitOf l i b s q ≤ fWait l i b s.bits ((q + 1 : Nat) : Int) (waitOf l i b s q) := by
      have := fWait_q l i b s.bits q (waitOf l i b s q) (by have := h.st.1; omega)
      push_cast; omega
    obtain ⟨_, r1, r2, r3, r4⟩ := h.least hq (x0 := max (waitOf l i b s q) (b + ((q + 1 : Nat) : Int) * s.bits)) (by omega) (start_up h.hs (by omega) hup) (by omega)
    have a1 := r4 (waitOf l i b s (q + 1)) (by omega) (by omega)
    have a2 := w4 (leastF (fWait l i b s.bits ((q + 1 : Nat) : Int)) (max (waitOf l i b s q) (b + ((q + 1 : Nat) : Int) * s.bits))).1 (by omega) (by omega)
    omega
/-- The most of so many frames. -/
def mostW (l : List Stream) (i : Nat) (b : Int) (s : Stream) : Nat → Int
  | 0 => 0
  | q + 1 => max (mostW l i b s q) (s.jitter + waitOf l i b s q - q * s.period + s.bits)
theorem Busy.mostW {l : List Stream} {i : Nat} {b : Int} {s : Stream} {t : Int} {Q : Nat} (h : Busy l i b s t Q) : ∀ (q : Nat), q ≤ Q → (mostQ l i b s q).1 = mostW l i b s q
  | 0, _ => rfl
  | q + 1, hq => by
    have h1 := h.mostW q (by omega)
    have h2 := h.most q (by omega)
    show max (mostQ l i b s q).1 (s.jitter + (leastF (fWait l i b s.bits q) (max (mostQ l i b s q).2 (b + q * s.bits))).1 - q * s.period + s.bits) = max (Go.Proofs.YtahkpghgjjlgdaaFw.mostW l i b s q) (s.jitter + waitOf l i b s q - q * s.period + s.bits)
    rw [h1, h2]
end Go.Proofs.YtahkpghgjjlgdaaFw

/-
  Plain: how frames are played.
-/
namespace Go.Proofs.YtahkpghgjjlgdaaFw
open Go Go.Proofs
set_option linter.unusedVariables false
set_option linter.unusedSimpArgs false

/-- A stream's queue: its begin, its next frame, how late its frames were at most. -/
structure QS where
  s : Stream
  b : Int
  q : Nat
  late : Int
def dueZ (s : Stream) (b : Int) (q : Nat) : Int := b + q * s.period
def arrZ (s : Stream) (b : Int) (q : Nat) : Int := dueZ s b q + if q % 2 = 1 then s.jitter else 0
def fromZ (s : Stream) (b : Int) : Nat → Int
  | 0 => arrZ s b 0
  | q + 1 => max (arrZ s b (q + 1)) (arrZ s b q)
theorem due_succ (s : Stream) (b : Int) (q : Nat) : dueZ s b (q + 1) = dueZ s b q + s.period := by
  unfold dueZ; push_cast; rw [Int.add_mul]; omega
theorem from_next (s : Stream) (b : Int) (hj : 0 ≤ s.jitter) (hp : 0 ≤ s.period) (q : Nat) : max (fromZ s b q) (arrZ s b (q + 1)) = fromZ s b (q + 1) := by
  cases q with
  | zero => show max (arrZ s b 0) (arrZ s b 1) = max (arrZ s b 1) (arrZ s b 0); omega
  | succ q =>
    show max (max (arrZ s b (q + 1)) (arrZ s b q)) (arrZ s b (q + 1 + 1)) = max (arrZ s b (q + 1 + 1)) (arrZ s b (q + 1))
    have h1 := due_succ s b (q + 1)
    have h2 := due_succ s b q
    have h3 : arrZ s b q ≤ arrZ s b (q + 1 + 1) := by
      unfold arrZ
      have : (q + 1 + 1) % 2 = q % 2 := by omega
      rw [this]; omega
    omega
theorem arr_bd (s : Stream) (b : Int) (hj : 0 ≤ s.jitter) (q : Nat) : dueZ s b q ≤ arrZ s b q ∧ arrZ s b q ≤ dueZ s b q + s.jitter := by
  unfold arrZ; split <;> omega
theorem from_bd (s : Stream) (b : Int) (hj : 0 ≤ s.jitter) (hp : 0 ≤ s.period) (q : Nat) : dueZ s b q ≤ fromZ s b q ∧ fromZ s b q ≤ dueZ s b q + s.jitter := by
  cases q with
  | zero => exact arr_bd s b hj 0
  | succ q =>
    show dueZ s b (q + 1) ≤ max (arrZ s b (q + 1)) (arrZ s b q) ∧ max (arrZ s b (q + 1)) (arrZ s b q) ≤ dueZ s b (q + 1) + s.jitter
    have h1 := due_succ s b q
    have h2 := arr_bd s b hj (q + 1)
    have h3 := arr_bd s b hj q
    omega
def QS.due (x : QS) : Int := dueZ x.s x.b x.q
def QS.wts (x : QS) : Int := fromZ x.s x.b x.q
def QS.on (x : QS) (until_ : Int) : Prop := x.due < until_
def zeroQ : QS := { s := zeroSt, b := 0, q := 0, late := 0 }
def scanStep (now until_ : Int) (k : Nat) (x : QS) (r : Bool × Option Nat × Int) : Bool × Option Nat × Int :=
  if until_ ≤ x.due then r else (true, if r.2.1 = none ∧ x.wts ≤ now then some k else r.2.1, if r.1 = false ∨ x.wts < r.2.2 then x.wts else r.2.2)
def scanN (now until_ : Int) (X : List QS) : Nat → Bool × Option Nat × Int
  | 0 => (false, none, 0)
  | k + 1 => scanStep now until_ k (X.getD k zeroQ) (scanN now until_ X k)
def scan (now until_ : Int) (X : List QS) : Bool × Option Nat × Int := scanN now until_ X X.length
structure Scan (now until_ : Int) (X : List QS) (k : Nat) (r : Bool × Option Nat × Int) : Prop where
  left : r.1 = true ↔ ∃ i < k, (X.getD i zeroQ).on until_
  one : ∀ j, r.2.1 = some j → j < k ∧ (X.getD j zeroQ).on until_ ∧ (X.getD j zeroQ).wts ≤ now ∧ ∀ i < j, (X.getD i zeroQ).on until_ → now < (X.getD i zeroQ).wts
  none : r.2.1 = none → ∀ i < k, (X.getD i zeroQ).on until_ → now < (X.getD i zeroQ).wts
  soon : r.1 = true → (∃ i < k, (X.getD i zeroQ).on until_ ∧ (X.getD i zeroQ).wts = r.2.2) ∧ ∀ i < k, (X.getD i zeroQ).on until_ → r.2.2 ≤ (X.getD i zeroQ).wts
theorem scanN_spec (now until_ : Int) (X : List QS) : ∀ k, Scan now until_ X k (scanN now until_ X k)
  | 0 => ⟨by simp [scanN], by simp [scanN], fun _ i hi => absurd hi (by omega), by simp [scanN]⟩
  | k + 1 => by
    have ih := scanN_spec now until_ X k
    unfold scanN scanStep
    generalize hr : scanN now until_ X k = r at *
    generalize hx : X.getD k zeroQ = x at *
    by_cases hd : until_ ≤ x.due
    · rw [if_pos hd]
      have hno : ¬ x.on until_ := by unfold QS.on; omega
      have hk : ∀ i, i < k + 1 → (X.getD i zeroQ).on until_ → i < k := fun i hi ho => by
        by_cases e : i = k
        · subst e; rw [hx] at ho; exact (hno ho).elim
        · omega
      refine ⟨ih.left.trans ⟨fun ⟨i, h1, h2⟩ => ⟨i, by omega, h2⟩, fun ⟨i, h1, h2⟩ => ⟨i, hk i h1 h2, h2⟩⟩, fun j hj => ?_, fun hn i hi ho => ih.none hn i (hk i hi ho) ho, fun hl => ?_⟩
      · obtain ⟨q1, q2⟩ := ih.one j hj
        exact ⟨by omega, q2⟩
      · obtain ⟨⟨i, q1, q2⟩, q3⟩ := ih.soon hl
        exact ⟨⟨i, by omega, q2⟩, fun i hi ho => q3 i (hk i hi ho) ho⟩
    · rw [if_neg hd]
      have hon : x.on until_ := by unfold QS.on; omega
      refine ⟨⟨fun _ => ⟨k, by omega, by rw [hx]; exact hon⟩, fun _ => rfl⟩, fun j hj => ?_, fun hn i hi ho => ?_, fun _ => ?_⟩
      · simp only at hj
        by_cases hc : r.2.1 = Option.none ∧ x.wts ≤ now
        · rw [if_pos hc] at hj
          cases hj
          refine ⟨by omega, by rw [hx]; exact hon, by rw [hx]; exact hc.2, fun i hi ho => ih.none hc.1 i hi ho⟩
        · rw [if_neg hc] at hj
          obtain ⟨q1, q2⟩ := ih.one j hj
          exact ⟨by omega, q2⟩
      · simp only at hn
        by_cases hc : r.2.1 = Option.none ∧ x.wts ≤ now
        · rw [if_pos hc] at hn; cases hn
        · rw [if_neg hc] at hn
          by_cases e : i = k
          · subst e
            rw [hx]
            have : ¬ x.wts ≤ now := fun h => hc ⟨hn, h⟩
            omega
          · exact ih.none hn i (by omega) ho
      · simp only
        by_cases hc : r.1 = false ∨ x.wts < r.2.2
        · rw [if_pos hc]
          refine ⟨⟨k, by omega, by rw [hx]; exact hon, by rw [hx]⟩, fun i hi ho => ?_⟩
          by_cases e : i = k
          · subst e; rw [hx]; exact Int.le_refl _
          · have hl : r.1 = true := ih.left.2 ⟨i, by omega, ho⟩
            have h1 := (ih.soon hl).2 i (by omega) ho
            rcases hc with hc | hc
            · rw [hl] at hc; cases hc
            · omega
        · rw [if_neg hc]
          have hl : r.1 = true := by
            cases h : r.1 with
            | true => rfl
            | false => exact (hc (.inl h)).elim
          obtain ⟨⟨i, q1, q2⟩, q3⟩ := ih.soon hl
          refine ⟨⟨i, by omega, q2⟩, fun i hi ho => ?_⟩
          by_cases e : i = k
          · subst e
            rw [hx]
            have : ¬ x.wts < r.2.2 := fun h => hc (.inr h)
            omega
          · exact q3 i (by omega) ho
theorem scan_spec (now until_ : Int) (X : List QS) : Scan now until_ X X.length (scan now until_ X) := scanN_spec now until_ X X.length
/-- One frame is sent: it ends at a time. -/
def QS.sent (x : QS) (e : Int) : QS := { x with q := x.q + 1, late := max x.late (e - x.due) }
def sendAt (j : Nat) (e : Int) (X : List QS) : List QS := X.set j ((X.getD j zeroQ).sent e)
def playN (until_ : Int) : Nat → Int → List QS → List QS
  | 0, _, X => X
  | n + 1, now, X => if (scan now until_ X).1 = false then X else
    match (scan now until_ X).2.1 with
    | none => playN until_ n (scan now until_ X).2.2 X
    | some j => playN until_ n (now + (X.getD j zeroQ).s.bits) (sendAt j (now + (X.getD j zeroQ).s.bits) X)
def todo (until_ : Int) (X : List QS) : Nat := X.foldl (fun n x => n + (until_ - x.due).toNat) 0
def mu (now until_ : Int) (X : List QS) : Nat := 2 * todo until_ X + if (scan now until_ X).2.1 = none then 1 else 0
theorem foldl_todo (until_ : Int) : ∀ (X : List QS) (n : Nat), X.foldl (fun n x => n + (until_ - x.due).toNat) n = n + todo until_ X
  | [], n => by simp [todo]
  | x :: X, n => by
    unfold todo
    rw [List.foldl_cons, List.foldl_cons, foldl_todo until_ X, foldl_todo until_ X]; omega
theorem todo_cons (until_ : Int) (x : QS) (X : List QS) : todo until_ (x :: X) = (until_ - x.due).toNat + todo until_ X := by
  unfold todo
  rw [List.foldl_cons, foldl_todo]; unfold todo; omega
theorem todo_set (until_ : Int) (y : QS) : ∀ (X : List QS) (j : Nat), j < X.length → (until_ - y.due).toNat + 1 ≤ (until_ - (X.getD j zeroQ).due).toNat → todo until_ (X.set j y) + 1 ≤ todo until_ X
  | [], j, h, _ => by simp at h
  | x :: X, 0, _, h => by
    rw [List.set_cons_zero, todo_cons, todo_cons]
    have : (until_ - y.due).toNat + 1 ≤ (until_ - x.due).toNat := h
    omega
  | x :: X, j + 1, h, h2 => by
    rw [List.set_cons_succ, todo_cons, todo_cons]
    have := todo_set until_ y X j (by simpa using h) h2
    omega
theorem sent_due (x : QS) (e : Int) : (x.sent e).due = x.due + x.s.period := due_succ _ _ _
theorem mu_send {now until_ : Int} {X : List QS} {j : Nat} (hX : ∀ x ∈ X, x.s.ok) (h : (scan now until_ X).2.1 = some j) (e now' : Int) : mu now' until_ (sendAt j e X) < mu now until_ X := by
  obtain ⟨q1, q2, _⟩ := (scan_spec now until_ X).one j h
  have hm : X.getD j zeroQ ∈ X := by rw [show X.getD j zeroQ = X[j] by simp [List.getD, q1]]; exact List.getElem_mem q1
  have hp := (hX _ hm).2.2.1
  have h1 : todo until_ (sendAt j e X) + 1 ≤ todo until_ X := todo_set until_ _ X j q1 (by
    rw [sent_due]; unfold QS.on at q2; omega)
  unfold mu
  rw [h]
  split <;> simp <;> omega
theorem mu_jump {now until_ : Int} {X : List QS} (hl : (scan now until_ X).1 = true) (h : (scan now until_ X).2.1 = none) : mu (scan now until_ X).2.2 until_ X < mu now until_ X := by
  obtain ⟨⟨i, q1, q2, q3⟩, _⟩ := (scan_spec now until_ X).soon hl
  have : (scan (scan now until_ X).2.2 until_ X).2.1 ≠ none := fun hn => by
    have := (scan_spec (scan now until_ X).2.2 until_ X).none hn i q1 q2
    omega
  unfold mu
  rw [if_pos h, if_neg this]; omega
theorem playN_done {now until_ : Int} {X : List QS} {n : Nat} (h : (scan now until_ X).1 = false) : playN until_ (n + 1) now X = X := by unfold playN; rw [if_pos h]
theorem playN_jump {now until_ : Int} {X : List QS} {n : Nat} (h : (scan now until_ X).1 = true) (h2 : (scan now until_ X).2.1 = none) : playN until_ (n + 1) now X = playN until_ n (scan now until_ X).2.2 X := by
  conv => lhs; unfold playN
  rw [if_neg (by rw [h]; simp), h2]
theorem playN_send {now until_ : Int} {X : List QS} {n j : Nat} (h : (scan now until_ X).1 = true) (h2 : (scan now until_ X).2.1 = some j) : playN until_ (n + 1) now X = playN until_ n (now + (X.getD j zeroQ).s.bits) (sendAt j (now + (X.getD j zeroQ).s.bits) X) := by
  conv => lhs; unfold playN
  rw [if_neg (by rw [h]; simp), h2]
theorem scan_left {now until_ : Int} {X : List QS} {j : Nat} (h2 : (scan now until_ X).2.1 = some j) : (scan now until_ X).1 = true := by
  obtain ⟨q1, q2, _⟩ := (scan_spec now until_ X).one j h2
  exact (scan_spec now until_ X).left.2 ⟨j, q1, q2⟩
def fuel0 : Nat := 40000000
def play0 (l : List Stream) (bs : List Int) : List QS := (l.zip bs).map fun p => { s := p.1, b := p.2, q := 0, late := 0 }
def playZ (l : List Stream) (bs : List Int) (until_ : Int) : List Int :=
  if rightS l = true ∧ bs.length = l.length ∧ 0 ≤ until_ ∧ until_ ≤ 1000000 ∧ (∀ b ∈ bs, 0 ≤ b ∧ b ≤ 1000000) then (playN until_ fuel0 0 (play0 l bs)).map (·.late) else []
theorem todo_le (until_ : Int) (hu : until_ ≤ 1000000) : ∀ (X : List QS), (∀ x ∈ X, 0 ≤ x.due) → todo until_ X ≤ 1000000 * X.length
  | [], _ => by simp [todo]
  | x :: X, h => by
    rw [todo_cons, List.length_cons]
    have h1 := todo_le until_ hu X fun y hy => h y (by simp [hy])
    have h2 := h x (by simp)
    omega
end Go.Proofs.YtahkpghgjjlgdaaFw

/-
  The walk of the document's Bound.
-/
namespace Go.Proofs.YtahkpghgjjlgdaaFw
open Go Go.Proofs
set_option maxRecDepth 100000
set_option maxHeartbeats 8000000
set_option linter.unusedVariables false
set_option linter.unusedSimpArgs false

theorem longest_take (l : List Stream) (k : Nat) (h : k < l.length) : longest (l.take (k + 1)) = max (longest (l.take k)) l[k].bits := longest_succ l k h
theorem rbound_ok (l : List Stream) (i : Int) (hl : l.length ≤ 2 ^ 40) (hi64 : I64 i) :
    FnS Try.prog 15 [.sl false 3 (l.map encStream), .int .i64 i] [] (.tup [.int .i64 (boundP l i).1, .bool (boundP l i).2]) [] := by
  refine fn_walk tabOk Try.func15 rfl (by decide +kernel) Try.ntmps15 Try.results15 (by simp) fun B hB => ?_
  try refine hK _ ?_
  repeat (first | refine awp_seq ?_ | refine awp_block ?_ | refine awp_skip ?_ | refine awp_scope ?_ | refine awp_label ?_)
  refine awp_region tabOk fun K hK => ?_
  simp -dsimp -implicitDefEqProofs only [push_cast, ↓trAdd_f, ↓stOf_f, Nat.reduceBEq, Int.reduceBEq, Int.reduceBNe, Int.reduceNeg, Int.reduceAdd, Int.reduceSub, Int.reduceLT, Int.reduceLE, Int.reduceMul, Nat.reducePow, Int.reducePow, Nat.reduceAdd, Nat.reduceEqDiff, Nat.reduceLT, Nat.reduceLeDiff, Nat.reduceMul, Nat.reduceSub, reduceCtorEq, ↓reduceIte]
  try refine hK _ ?_
  repeat (first | refine awp_seq ?_ | refine awp_block ?_ | refine awp_skip ?_ | refine awp_scope ?_ | refine awp_label ?_)
  refine awp_join ({ sl := [(0, .sl false 3 (l.map encStream)), (1, .int .i64 i), (24, .bool (!decide (rightS l = true ∧ 0 ≤ i ∧ i < l.length)))], st := [], nx := 0, n := 123 }) ?_ (fun _ hl h => awp_le hl h) ?_
  · try refine hK _ ?_
    repeat (first | refine awp_seq ?_ | refine awp_block ?_ | refine awp_skip ?_ | refine awp_scope ?_ | refine awp_label ?_)
    refine awp_region tabOk fun K hK => ?_
    simp -dsimp -implicitDefEqProofs only [push_cast, ↓trAdd_f, ↓stOf_f, Nat.reduceBEq, Int.reduceBEq, Int.reduceBNe, Int.reduceNeg, Int.reduceAdd, Int.reduceSub, Int.reduceLT, Int.reduceLE, Int.reduceMul, Nat.reducePow, Int.reducePow, Nat.reduceAdd, Nat.reduceEqDiff, Nat.reduceLT, Nat.reduceLeDiff, Nat.reduceMul, Nat.reduceSub, reduceCtorEq, ↓reduceIte]
    refine callK_simple (right11_ok false l (by omega)) ?_ rfl fun _ => ?_
    · simp -dsimp -implicitDefEqProofs only [push_cast, List.mem_append, List.mem_cons, List.mem_singleton, forall_eq_or_imp, forall_eq, ↓trAdd_f, ↓stOf_f, Nat.reduceBEq, Int.reduceBEq, Int.reduceBNe, Int.reduceNeg, Int.reduceAdd, Int.reduceSub, Int.reduceLT, Int.reduceLE, Int.reduceMul, Nat.reducePow, Int.reducePow, Nat.reduceAdd, Nat.reduceEqDiff, Nat.reduceLT, Nat.reduceLeDiff, Nat.reduceMul, Nat.reduceSub, reduceCtorEq, ↓reduceIte]
    cases hr : rightS l with
    | false =>
      simp -dsimp -implicitDefEqProofs only [push_cast, ↓trAdd_f, ↓stOf_f, Nat.reduceBEq, Int.reduceBEq, Int.reduceBNe, Int.reduceNeg, Int.reduceAdd, Int.reduceSub, Int.reduceLT, Int.reduceLE, Int.reduceMul, Nat.reducePow, Int.reducePow, Nat.reduceAdd, Nat.reduceEqDiff, Nat.reduceLT, Nat.reduceLeDiff, Nat.reduceMul, Nat.reduceSub, reduceCtorEq, ↓reduceIte]
      refine hK _ ?_
      have e : decide (rightS l = true ∧ 0 ≤ i ∧ i < (l.length : Int)) = false := by simp [hr]
      refine le_intro hB [] (by simp) (fun b _ => rfl) rfl ?_ ?_ rfl <;> simp -dsimp -implicitDefEqProofs only [e, push_cast, ↓trAdd_f, ↓stOf_f, Nat.reduceBEq, Int.reduceBEq, Int.reduceBNe, Int.reduceNeg, Int.reduceAdd, Int.reduceSub, Int.reduceLT, Int.reduceLE, Int.reduceMul, Nat.reducePow, Int.reducePow, Nat.reduceAdd, Nat.reduceEqDiff, Nat.reduceLT, Nat.reduceLeDiff, Nat.reduceMul, Nat.reduceSub, reduceCtorEq, ↓reduceIte]
    | true =>
      simp -dsimp -implicitDefEqProofs only [push_cast, ↓trAdd_f, ↓stOf_f, Nat.reduceBEq, Int.reduceBEq, Int.reduceBNe, Int.reduceNeg, Int.reduceAdd, Int.reduceSub, Int.reduceLT, Int.reduceLE, Int.reduceMul, Nat.reducePow, Int.reducePow, Nat.reduceAdd, Nat.reduceEqDiff, Nat.reduceLT, Nat.reduceLeDiff, Nat.reduceMul, Nat.reduceSub, reduceCtorEq, ↓reduceIte]
      refine guardK_f (fun h1 => ?_) (fun h1 => ?_) <;> simp -dsimp -implicitDefEqProofs only [h1, push_cast, ↓trAdd_f, ↓stOf_f, Nat.reduceBEq, Int.reduceBEq, Int.reduceBNe, Int.reduceNeg, Int.reduceAdd, Int.reduceSub, Int.reduceLT, Int.reduceLE, Int.reduceMul, Nat.reducePow, Int.reducePow, Nat.reduceAdd, Nat.reduceEqDiff, Nat.reduceLT, Nat.reduceLeDiff, Nat.reduceMul, Nat.reduceSub, reduceCtorEq, ↓reduceIte]
      · refine hK _ ?_
        have e : (!decide (rightS l = true ∧ 0 ≤ i ∧ i < (l.length : Int))) = decide ((l.length : Int) ≤ i) := by
          have h2 : 0 ≤ i := by simp at h1; exact h1
          rw [Bool.eq_iff_iff]; simp [hr, h2]
        refine le_intro hB [] (by simp) (fun b _ => rfl) rfl ?_ ?_ rfl <;> simp -dsimp -implicitDefEqProofs only [e, push_cast, ↓trAdd_f, ↓stOf_f, Nat.reduceBEq, Int.reduceBEq, Int.reduceBNe, Int.reduceNeg, Int.reduceAdd, Int.reduceSub, Int.reduceLT, Int.reduceLE, Int.reduceMul, Nat.reducePow, Int.reducePow, Nat.reduceAdd, Nat.reduceEqDiff, Nat.reduceLT, Nat.reduceLeDiff, Nat.reduceMul, Nat.reduceSub, reduceCtorEq, ↓reduceIte]
      · refine hK _ ?_
        have e : decide (rightS l = true ∧ 0 ≤ i ∧ i < (l.length : Int)) = false := by simp at h1; simp; omega
        refine le_intro hB [] (by simp) (fun b _ => rfl) rfl ?_ ?_ rfl <;> simp -dsimp -implicitDefEqProofs only [e, push_cast, ↓trAdd_f, ↓stOf_f, Nat.reduceBEq, Int.reduceBEq, Int.reduceBNe, Int.reduceNeg, Int.reduceAdd, Int.reduceSub, Int.reduceLT, Int.reduceLE, Int.reduceMul, Nat.reducePow, Int.reducePow, Nat.reduceAdd, Nat.reduceEqDiff, Nat.reduceLT, Nat.reduceLeDiff, Nat.reduceMul, Nat.reduceSub, reduceCtorEq, ↓reduceIte]
  try refine hK _ ?_
  repeat (first | refine awp_seq ?_ | refine awp_block ?_ | refine awp_skip ?_ | refine awp_scope ?_ | refine awp_label ?_)
  refine awp_cond (b := !decide (rightS l = true ∧ 0 ≤ i ∧ i < (l.length : Int))) (by simp -dsimp -implicitDefEqProofs only [push_cast, ↓trAdd_f, ↓stOf_f, Nat.reduceBEq, Int.reduceBEq, Int.reduceBNe, Int.reduceNeg, Int.reduceAdd, Int.reduceSub, Int.reduceLT, Int.reduceLE, Int.reduceMul, Nat.reducePow, Int.reducePow, Nat.reduceAdd, Nat.reduceEqDiff, Nat.reduceLT, Nat.reduceLeDiff, Nat.reduceMul, Nat.reduceSub, reduceCtorEq, ↓reduceIte]) (fun h => ?_) (fun h => ?_)
  · have hn : ¬ (rightS l = true ∧ 0 ≤ i ∧ i < (l.length : Int)) := fun e => by rw [decide_eq_true e] at h; simp at h
    have e : boundP l i = (0, false) := by unfold boundP; rw [if_neg hn]
    try refine hK _ ?_
    repeat (first | refine awp_seq ?_ | refine awp_block ?_ | refine awp_skip ?_ | refine awp_scope ?_ | refine awp_label ?_)
    refine awp_region tabOk fun K hK => ?_
    simp -dsimp -implicitDefEqProofs only [push_cast, ↓trAdd_f, ↓stOf_f, Nat.reduceBEq, Int.reduceBEq, Int.reduceBNe, Int.reduceNeg, Int.reduceAdd, Int.reduceSub, Int.reduceLT, Int.reduceLE, Int.reduceMul, Nat.reducePow, Int.reducePow, Nat.reduceAdd, Nat.reduceEqDiff, Nat.reduceLT, Nat.reduceLeDiff, Nat.reduceMul, Nat.reduceSub, reduceCtorEq, ↓reduceIte]
    refine hK _ (awp_ret ?_)
    simp -dsimp -implicitDefEqProofs only [e, push_cast, List.mem_append, List.mem_cons, List.mem_singleton, forall_eq_or_imp, forall_eq, ↓trAdd_f, ↓stOf_f, Nat.reduceBEq, Int.reduceBEq, Int.reduceBNe, Int.reduceNeg, Int.reduceAdd, Int.reduceSub, Int.reduceLT, Int.reduceLE, Int.reduceMul, Nat.reducePow, Int.reducePow, Nat.reduceAdd, Nat.reduceEqDiff, Nat.reduceLT, Nat.reduceLeDiff, Nat.reduceMul, Nat.reduceSub, reduceCtorEq, ↓reduceIte]
  have hy : rightS l = true ∧ 0 ≤ i ∧ i < (l.length : Int) := by simpa using h
  obtain ⟨hr, h0, h1⟩ := hy
  obtain ⟨n, rfl⟩ := Int.eq_ofNat_of_zero_le h0
  have hn : n < l.length := by omega
  obtain ⟨hs, hl1, hl16⟩ := right_ok_s hr
  have hbp : boundP l (n : Int) = boundL l n l[n] (longest (l.drop (n + 1))) := by
    unfold boundP
    rw [if_pos ⟨hr, h0, h1⟩, Int.toNat_natCast, show l.getD n zeroSt = l[n] by simp [List.getD, hn]]
  have hst := hs _ (List.getElem_mem hn)
  obtain ⟨hb0, hb1⟩ := longest_bd (l.drop (n + 1)) fun s hm => hs s (List.mem_of_mem_drop hm)
  clear h h0 h1
  try refine hK _ ?_
  repeat (first | refine awp_seq ?_ | refine awp_block ?_ | refine awp_skip ?_ | refine awp_scope ?_ | refine awp_label ?_)
  refine awp_region tabOk fun K hK => ?_
  simp -dsimp -implicitDefEqProofs only [push_cast, ↓trAdd_f, ↓stOf_f, Nat.reduceBEq, Int.reduceBEq, Int.reduceBNe, Int.reduceNeg, Int.reduceAdd, Int.reduceSub, Int.reduceLT, Int.reduceLE, Int.reduceMul, Nat.reducePow, Int.reducePow, Nat.reduceAdd, Nat.reduceEqDiff, Nat.reduceLT, Nat.reduceLeDiff, Nat.reduceMul, Nat.reduceSub, reduceCtorEq, ↓reduceIte]
  try refine hK _ ?_
  repeat (first | refine awp_seq ?_ | refine awp_block ?_ | refine awp_skip ?_ | refine awp_scope ?_ | refine awp_label ?_)
  refine awp_region tabOk fun K hK => ?_
  simp -dsimp -implicitDefEqProofs only [push_cast, ↓trAdd_f, ↓stOf_f, Nat.reduceBEq, Int.reduceBEq, Int.reduceBNe, Int.reduceNeg, Int.reduceAdd, Int.reduceSub, Int.reduceLT, Int.reduceLE, Int.reduceMul, Nat.reducePow, Int.reducePow, Nat.reduceAdd, Nat.reduceEqDiff, Nat.reduceLT, Nat.reduceLeDiff, Nat.reduceMul, Nat.reduceSub, reduceCtorEq, ↓reduceIte]
  try simp (disch := omega) only [wrap_i64, wrap_u8, wrap_u16, wrap_u32]
  refine hK _ ?_
  refine awp_join ({ sl := [(0, .sl false 3 (l.map encStream)), (1, .int .i64 n), (6, .int .i64 (longest (l.drop (n + 1))))], st := [], nx := 0, n := 123 }) ?_ (fun _ hl h => awp_le hl h) ?_
  · refine awp_block ?_
    refine awp_for (fun k : Nat => { sl := [(0, .sl false 3 (l.map encStream)), (1, .int .i64 n), (6, .int .i64 (longest ((l.drop (n + 1)).take k))), (7, .int .i64 ((n + 1 + k : Nat) : Int))], st := [], nx := 0, n := 123 }) (fun k => n + 1 + k ≤ l.length) (fun k => l.length - k) 0 (by omega) ?_ fun k hk => ?_
    · have : longest [] = 0 := rfl
      refine le_intro hB [] (by simp) (fun b _ => rfl) rfl ?_ ?_ rfl <;> simp -dsimp -implicitDefEqProofs only [this, push_cast, ↓trAdd_f, ↓stOf_f, Nat.reduceBEq, Int.reduceBEq, Int.reduceBNe, Int.reduceNeg, Int.reduceAdd, Int.reduceSub, Int.reduceLT, Int.reduceLE, Int.reduceMul, Nat.reducePow, Int.reducePow, Nat.reduceAdd, Nat.reduceEqDiff, Nat.reduceLT, Nat.reduceLeDiff, Nat.reduceMul, Nat.reduceSub, reduceCtorEq, ↓reduceIte]
    try refine hK _ ?_
    repeat (first | refine awp_seq ?_ | refine awp_block ?_ | refine awp_skip ?_ | refine awp_scope ?_ | refine awp_label ?_)
    refine awp_region tabOk fun K hK => ?_
    simp -dsimp -implicitDefEqProofs only [push_cast, ↓trAdd_f, ↓stOf_f, Nat.reduceBEq, Int.reduceBEq, Int.reduceBNe, Int.reduceNeg, Int.reduceAdd, Int.reduceSub, Int.reduceLT, Int.reduceLE, Int.reduceMul, Nat.reducePow, Int.reducePow, Nat.reduceAdd, Nat.reduceEqDiff, Nat.reduceLT, Nat.reduceLeDiff, Nat.reduceMul, Nat.reduceSub, reduceCtorEq, ↓reduceIte]
    try refine hK _ ?_
    repeat (first | refine awp_seq ?_ | refine awp_block ?_ | refine awp_skip ?_ | refine awp_scope ?_ | refine awp_label ?_)
    refine awp_cond (b := decide (((n + 1 + k : Nat) : Int) < l.length)) (by simp -dsimp -implicitDefEqProofs only [push_cast, ↓trAdd_f, ↓stOf_f, Nat.reduceBEq, Int.reduceBEq, Int.reduceBNe, Int.reduceNeg, Int.reduceAdd, Int.reduceSub, Int.reduceLT, Int.reduceLE, Int.reduceMul, Nat.reducePow, Int.reducePow, Nat.reduceAdd, Nat.reduceEqDiff, Nat.reduceLT, Nat.reduceLeDiff, Nat.reduceMul, Nat.reduceSub, reduceCtorEq, ↓reduceIte]) (fun h => ?_) (fun h => ?_)
    · have hlt : n + 1 + k < l.length := by simp at h; omega
      have hk2 : k < (l.drop (n + 1)).length := by simp; omega
      have hsucc := longest_take (l.drop (n + 1)) k hk2
      have hge : (l.drop (n + 1))[k] = l[n + 1 + k] := by simp
      rw [hge] at hsucc
      have hcast : ((n : Int) + 1 + (k : Int)).toNat = n + 1 + k := by omega
      try refine hK _ ?_
      repeat (first | refine awp_seq ?_ | refine awp_block ?_ | refine awp_skip ?_ | refine awp_scope ?_ | refine awp_label ?_)
      refine awp_region tabOk fun K hK => ?_
      simp -dsimp -implicitDefEqProofs only [hlt, getD_map, encStream, hcast, push_cast, ↓trAdd_f, ↓stOf_f, Nat.reduceBEq, Int.reduceBEq, Int.reduceBNe, Int.reduceNeg, Int.reduceAdd, Int.reduceSub, Int.reduceLT, Int.reduceLE, Int.reduceMul, Nat.reducePow, Int.reducePow, Nat.reduceAdd, Nat.reduceEqDiff, Nat.reduceLT, Nat.reduceLeDiff, Nat.reduceMul, Nat.reduceSub, reduceCtorEq, ↓reduceIte]
      refine ⟨⟨by omega, by omega⟩, ?_⟩
      try refine hK _ ?_
      repeat (first | refine awp_seq ?_ | refine awp_block ?_ | refine awp_skip ?_ | refine awp_scope ?_ | refine awp_label ?_)
      refine awp_region tabOk fun K hK => ?_
      simp -dsimp -implicitDefEqProofs only [push_cast, ↓trAdd_f, ↓stOf_f, Nat.reduceBEq, Int.reduceBEq, Int.reduceBNe, Int.reduceNeg, Int.reduceAdd, Int.reduceSub, Int.reduceLT, Int.reduceLE, Int.reduceMul, Nat.reducePow, Int.reducePow, Nat.reduceAdd, Nat.reduceEqDiff, Nat.reduceLT, Nat.reduceLeDiff, Nat.reduceMul, Nat.reduceSub, reduceCtorEq, ↓reduceIte]
      try simp (disch := omega) only [wrap_i64, wrap_u8, wrap_u16, wrap_u32]
      refine hK _ ⟨k + 1, by omega, by omega, ?_⟩
      refine le_intro hB [] (by simp) (fun b _ => rfl) rfl ?_ ?_ rfl <;> simp -dsimp -implicitDefEqProofs only [hsucc, Int.add_assoc, push_cast, ↓trAdd_f, ↓stOf_f, Nat.reduceBEq, Int.reduceBEq, Int.reduceBNe, Int.reduceNeg, Int.reduceAdd, Int.reduceSub, Int.reduceLT, Int.reduceLE, Int.reduceMul, Nat.reducePow, Int.reducePow, Nat.reduceAdd, Nat.reduceEqDiff, Nat.reduceLT, Nat.reduceLeDiff, Nat.reduceMul, Nat.reduceSub, reduceCtorEq, ↓reduceIte]
    · refine awp_exit rfl ?_
      have he : (l.drop (n + 1)).take k = l.drop (n + 1) := List.take_of_length_le (by simp at h ⊢; omega)
      refine le_intro hB [] (by simp) (fun b _ => rfl) rfl ?_ ?_ rfl <;> simp -dsimp -implicitDefEqProofs only [he, push_cast, ↓trAdd_f, ↓stOf_f, Nat.reduceBEq, Int.reduceBEq, Int.reduceBNe, Int.reduceNeg, Int.reduceAdd, Int.reduceSub, Int.reduceLT, Int.reduceLE, Int.reduceMul, Nat.reducePow, Int.reducePow, Nat.reduceAdd, Nat.reduceEqDiff, Nat.reduceLT, Nat.reduceLeDiff, Nat.reduceMul, Nat.reduceSub, reduceCtorEq, ↓reduceIte]
  generalize longest (l.drop (n + 1)) = b at *
  try refine hK _ ?_
  repeat (first | refine awp_seq ?_ | refine awp_block ?_ | refine awp_skip ?_ | refine awp_scope ?_ | refine awp_label ?_)
  refine awp_region tabOk fun K hK => ?_
  simp -dsimp -implicitDefEqProofs only [hn, getD_map, encStream, push_cast, ↓trAdd_f, ↓stOf_f, Nat.reduceBEq, Int.reduceBEq, Int.reduceBNe, Int.reduceNeg, Int.reduceAdd, Int.reduceSub, Int.reduceLT, Int.reduceLE, Int.reduceMul, Nat.reducePow, Int.reducePow, Nat.reduceAdd, Nat.reduceEqDiff, Nat.reduceLT, Nat.reduceLeDiff, Nat.reduceMul, Nat.reduceSub, reduceCtorEq, ↓reduceIte]
  refine ⟨⟨by omega, by omega⟩, ?_⟩
  have hup : l[n].bits ≤ fBusy l n b l[n].bits := by
    unfold fBusy
    rw [load_take_succ l n hn]
    have q1 := load_bd l[n].bits 0 (by have := hst.1; omega) (by have := hst.2.1; omega) (by decide) (by decide) (l.take n) fun s hm => hs s (List.mem_of_mem_take hm)
    have q2 : 1 ≤ (l[n].bits + l[n].jitter + 0 + l[n].period - 1) / l[n].period := by
      obtain ⟨p1, p2, p3, p4, p5, p6⟩ := hst
      exact Int.le_ediv_of_mul_le (by omega) (by omega)
    have q3 : 1 * l[n].bits ≤ load1 l[n].bits 0 l[n] := Int.mul_le_mul_of_nonneg_right q2 (by have := hst.1; omega)
    omega
  have hmono := fBusy_mono l n b hs
  have p1 := hst.1
  have p2 := hst.2.1
  have p3 := hst.2.2.1
  have p4 := hst.2.2.2.1
  have p5 := hst.2.2.2.2.1
  have p6 := hst.2.2.2.2.2
  have hsp := leastF_spec hmono l[n].bits (by omega) hup
  have hbl : boundL l n l[n] b = if (leastF (fBusy l n b) l[n].bits).2 = true then ((mostQ l n b l[n] (((leastF (fBusy l n b) l[n].bits).1 + l[n].jitter + l[n].period - 1) / l[n].period).toNat).1, true) else (0, false) := rfl
  rw [hbl] at hbp
  clear hbl
  refine hK _ (awp_seq (awp_block ?_))
  refine awp_for (fun x : Nat × Int => { sl := [(0, .sl false 3 (l.map encStream)), (1, .int .i64 n), (6, .int .i64 b), (8, .int .i64 x.2)], st := [], nx := 0, n := 123 })
    (fun x => 1 ≤ x.1 ∧ 0 ≤ x.2 ∧ (x.2 ≤ 10000000 ∨ x.2 = l[n].bits) ∧ x.2 ≤ fBusy l n b x.2 ∧ 10000001 - x.2 < x.1 ∧ leastN (fBusy l n b) x.1 x.2 = leastF (fBusy l n b) l[n].bits) (fun x => x.1) (10000002, l[n].bits) ⟨by show 1 ≤ 10000002; omega, by show 0 ≤ l[n].bits; omega, .inr rfl, hup, by show 10000001 - l[n].bits < ((10000002 : Nat) : Int); omega, rfl⟩ ?_ fun x hx => ?_
  · refine le_intro hB [] (by simp) (fun b _ => rfl) rfl ?_ ?_ rfl <;> simp -dsimp -implicitDefEqProofs only [push_cast, ↓trAdd_f, ↓stOf_f, Nat.reduceBEq, Int.reduceBEq, Int.reduceBNe, Int.reduceNeg, Int.reduceAdd, Int.reduceSub, Int.reduceLT, Int.reduceLE, Int.reduceMul, Nat.reducePow, Int.reducePow, Nat.reduceAdd, Nat.reduceEqDiff, Nat.reduceLT, Nat.reduceLeDiff, Nat.reduceMul, Nat.reduceSub, reduceCtorEq, ↓reduceIte]
  obtain ⟨m, t⟩ := x
  obtain ⟨hm, h0, h1, h2, h3, h4⟩ := hx
  simp only at hm h0 h1 h2 h3 h4
  obtain ⟨m, rfl⟩ : ∃ k, m = k + 1 := ⟨m - 1, by omega⟩
  have hfb : b + load (l.take (n + 1)) t 0 = fBusy l n b t := rfl
  have hft := hmono t (fBusy l n b t) h0 h2
  try refine hK _ ?_
  repeat (first | refine awp_seq ?_ | refine awp_block ?_ | refine awp_skip ?_ | refine awp_scope ?_ | refine awp_label ?_)
  refine awp_region tabOk fun K hK => ?_
  simp -dsimp -implicitDefEqProofs only [push_cast, ↓trAdd_f, ↓stOf_f, Nat.reduceBEq, Int.reduceBEq, Int.reduceBNe, Int.reduceNeg, Int.reduceAdd, Int.reduceSub, Int.reduceLT, Int.reduceLE, Int.reduceMul, Nat.reducePow, Int.reducePow, Nat.reduceAdd, Nat.reduceEqDiff, Nat.reduceLT, Nat.reduceLeDiff, Nat.reduceMul, Nat.reduceSub, reduceCtorEq, ↓reduceIte]
  refine callK_simple (busy_ok false l n b t hl16 hn hs h0 (by omega) hb0 (by omega)) ?_ rfl fun _ => ?_
  · simp -dsimp -implicitDefEqProofs only [push_cast, List.mem_append, List.mem_cons, List.mem_singleton, forall_eq_or_imp, forall_eq, ↓trAdd_f, ↓stOf_f, Nat.reduceBEq, Int.reduceBEq, Int.reduceBNe, Int.reduceNeg, Int.reduceAdd, Int.reduceSub, Int.reduceLT, Int.reduceLE, Int.reduceMul, Nat.reducePow, Int.reducePow, Nat.reduceAdd, Nat.reduceEqDiff, Nat.reduceLT, Nat.reduceLeDiff, Nat.reduceMul, Nat.reduceSub, reduceCtorEq, ↓reduceIte]
  rw [hfb]
  simp -dsimp -implicitDefEqProofs only [push_cast, ↓trAdd_f, ↓stOf_f, Nat.reduceBEq, Int.reduceBEq, Int.reduceBNe, Int.reduceNeg, Int.reduceAdd, Int.reduceSub, Int.reduceLT, Int.reduceLE, Int.reduceMul, Nat.reducePow, Int.reducePow, Nat.reduceAdd, Nat.reduceEqDiff, Nat.reduceLT, Nat.reduceLeDiff, Nat.reduceMul, Nat.reduceSub, reduceCtorEq, ↓reduceIte]
  try refine hK _ ?_
  repeat (first | refine awp_seq ?_ | refine awp_block ?_ | refine awp_skip ?_ | refine awp_scope ?_ | refine awp_label ?_)
  refine awp_cond (b := fBusy l n b t != t) (by simp -dsimp -implicitDefEqProofs only [push_cast, ↓trAdd_f, ↓stOf_f, Nat.reduceBEq, Int.reduceBEq, Int.reduceBNe, Int.reduceNeg, Int.reduceAdd, Int.reduceSub, Int.reduceLT, Int.reduceLE, Int.reduceMul, Nat.reducePow, Int.reducePow, Nat.reduceAdd, Nat.reduceEqDiff, Nat.reduceLT, Nat.reduceLeDiff, Nat.reduceMul, Nat.reduceSub, reduceCtorEq, ↓reduceIte]) (fun h => ?_) (fun h => ?_)
  · have he : ¬ fBusy l n b t = t := by simpa using h
    clear h
    try refine hK _ ?_
    repeat (first | refine awp_seq ?_ | refine awp_block ?_ | refine awp_skip ?_ | refine awp_scope ?_ | refine awp_label ?_)
    refine awp_region tabOk fun K hK => ?_
    simp -dsimp -implicitDefEqProofs only [push_cast, ↓trAdd_f, ↓stOf_f, Nat.reduceBEq, Int.reduceBEq, Int.reduceBNe, Int.reduceNeg, Int.reduceAdd, Int.reduceSub, Int.reduceLT, Int.reduceLE, Int.reduceMul, Nat.reducePow, Int.reducePow, Nat.reduceAdd, Nat.reduceEqDiff, Nat.reduceLT, Nat.reduceLeDiff, Nat.reduceMul, Nat.reduceSub, reduceCtorEq, ↓reduceIte]
    refine callK_simple (busy_ok false l n b t hl16 hn hs h0 (by omega) hb0 (by omega)) ?_ rfl fun _ => ?_
    · simp -dsimp -implicitDefEqProofs only [push_cast, List.mem_append, List.mem_cons, List.mem_singleton, forall_eq_or_imp, forall_eq, ↓trAdd_f, ↓stOf_f, Nat.reduceBEq, Int.reduceBEq, Int.reduceBNe, Int.reduceNeg, Int.reduceAdd, Int.reduceSub, Int.reduceLT, Int.reduceLE, Int.reduceMul, Nat.reducePow, Int.reducePow, Nat.reduceAdd, Nat.reduceEqDiff, Nat.reduceLT, Nat.reduceLeDiff, Nat.reduceMul, Nat.reduceSub, reduceCtorEq, ↓reduceIte]
    rw [hfb]
    simp -dsimp -implicitDefEqProofs only [push_cast, ↓trAdd_f, ↓stOf_f, Nat.reduceBEq, Int.reduceBEq, Int.reduceBNe, Int.reduceNeg, Int.reduceAdd, Int.reduceSub, Int.reduceLT, Int.reduceLE, Int.reduceMul, Nat.reducePow, Int.reducePow, Nat.reduceAdd, Nat.reduceEqDiff, Nat.reduceLT, Nat.reduceLeDiff, Nat.reduceMul, Nat.reduceSub, reduceCtorEq, ↓reduceIte]
    try refine hK _ ?_
    repeat (first | refine awp_seq ?_ | refine awp_block ?_ | refine awp_skip ?_ | refine awp_scope ?_ | refine awp_label ?_)
    refine awp_region tabOk fun K hK => ?_
    simp -dsimp -implicitDefEqProofs only [push_cast, ↓trAdd_f, ↓stOf_f, Nat.reduceBEq, Int.reduceBEq, Int.reduceBNe, Int.reduceNeg, Int.reduceAdd, Int.reduceSub, Int.reduceLT, Int.reduceLE, Int.reduceMul, Nat.reducePow, Int.reducePow, Nat.reduceAdd, Nat.reduceEqDiff, Nat.reduceLT, Nat.reduceLeDiff, Nat.reduceMul, Nat.reduceSub, reduceCtorEq, ↓reduceIte]
    try refine hK _ ?_
    repeat (first | refine awp_seq ?_ | refine awp_block ?_ | refine awp_skip ?_ | refine awp_scope ?_ | refine awp_label ?_)
    refine awp_cond (b := decide (10000000 < fBusy l n b t)) (by simp -dsimp -implicitDefEqProofs only [push_cast, ↓trAdd_f, ↓stOf_f, Nat.reduceBEq, Int.reduceBEq, Int.reduceBNe, Int.reduceNeg, Int.reduceAdd, Int.reduceSub, Int.reduceLT, Int.reduceLE, Int.reduceMul, Nat.reducePow, Int.reducePow, Nat.reduceAdd, Nat.reduceEqDiff, Nat.reduceLT, Nat.reduceLeDiff, Nat.reduceMul, Nat.reduceSub, reduceCtorEq, ↓reduceIte]) (fun h => ?_) (fun h => ?_)
    · have hgt : fBusy l n b t > 10000000 := by simpa using h
      have hll := leastN_far (n := m) he hgt
      rw [h4] at hll
      rw [hll, if_neg (by simp)] at hbp
      try refine hK _ ?_
      repeat (first | refine awp_seq ?_ | refine awp_block ?_ | refine awp_skip ?_ | refine awp_scope ?_ | refine awp_label ?_)
      refine awp_region tabOk fun K hK => ?_
      simp -dsimp -implicitDefEqProofs only [push_cast, ↓trAdd_f, ↓stOf_f, Nat.reduceBEq, Int.reduceBEq, Int.reduceBNe, Int.reduceNeg, Int.reduceAdd, Int.reduceSub, Int.reduceLT, Int.reduceLE, Int.reduceMul, Nat.reducePow, Int.reducePow, Nat.reduceAdd, Nat.reduceEqDiff, Nat.reduceLT, Nat.reduceLeDiff, Nat.reduceMul, Nat.reduceSub, reduceCtorEq, ↓reduceIte]
      refine hK _ (awp_ret ?_)
      simp -dsimp -implicitDefEqProofs only [hbp, push_cast, List.mem_append, List.mem_cons, List.mem_singleton, forall_eq_or_imp, forall_eq, ↓trAdd_f, ↓stOf_f, Nat.reduceBEq, Int.reduceBEq, Int.reduceBNe, Int.reduceNeg, Int.reduceAdd, Int.reduceSub, Int.reduceLT, Int.reduceLE, Int.reduceMul, Nat.reducePow, Int.reducePow, Nat.reduceAdd, Nat.reduceEqDiff, Nat.reduceLT, Nat.reduceLeDiff, Nat.reduceMul, Nat.reduceSub, reduceCtorEq, ↓reduceIte]
    · have hgt : ¬ fBusy l n b t > 10000000 := by simpa using h
      have hll := leastN_on (n := m) he hgt
      clear h
      refine awp_skip ?_
      refine ⟨(m, fBusy l n b t), ⟨by push_cast at h3; omega, by show 0 ≤ fBusy l n b t; omega, .inl (by show fBusy l n b t ≤ 10000000; omega), hft, by show 10000001 - fBusy l n b t < (m : Int); push_cast at h3; omega, by rw [← h4, hll]⟩, ?_, ?_⟩
      · show m < m + 1; omega
      refine le_intro hB [] (by simp) (fun b _ => rfl) rfl ?_ ?_ rfl <;> simp -dsimp -implicitDefEqProofs only [push_cast, ↓trAdd_f, ↓stOf_f, Nat.reduceBEq, Int.reduceBEq, Int.reduceBNe, Int.reduceNeg, Int.reduceAdd, Int.reduceSub, Int.reduceLT, Int.reduceLE, Int.reduceMul, Nat.reducePow, Int.reducePow, Nat.reduceAdd, Nat.reduceEqDiff, Nat.reduceLT, Nat.reduceLeDiff, Nat.reduceMul, Nat.reduceSub, reduceCtorEq, ↓reduceIte]
  have ht1 : fBusy l n b t = t := by simpa using h
  have hll := leastN_eq (n := m) ht1
  rw [h4] at hll
  rw [hll, if_pos rfl] at hbp
  simp only at hbp
  refine awp_exit rfl ?_
  clear h hll h4 h3 hft hm hsp hup
  have hroom := busy_room hn hs hb0 h0 (by omega) ht1
  have hQ0 : 0 ≤ (t + l[n].jitter + l[n].period - 1) / l[n].period := Int.ediv_nonneg (by omega) (by omega)
  have hup := upZ_eq (t + l[n].jitter) l[n].period (by omega) p3
  generalize hQ : (t + l[n].jitter + l[n].period - 1) / l[n].period = Q at *
  obtain ⟨Q, rfl⟩ := Int.eq_ofNat_of_zero_le hQ0
  rw [Int.toNat_natCast] at hbp
  have hBz : Busy l n b l[n] t Q := ⟨hs, hst, hb0, hb1, h0, by omega, hroom⟩
  have hld := hBz.ld
  have hQC : (Q : Int) * 1 ≤ Q * l[n].bits := Int.mul_le_mul_of_nonneg_left p1 (by omega)
  have hQ7 : (Q : Int) ≤ 10000000 := by have := hBz.t7; omega
  have hw2 : IntKind.i64.wrap (t + l[n].jitter) = t + l[n].jitter := wrap_i64 (by omega) (by omega)
  try refine hK _ ?_
  repeat (first | refine awp_seq ?_ | refine awp_block ?_ | refine awp_skip ?_ | refine awp_scope ?_ | refine awp_label ?_)
  refine awp_region tabOk fun K hK => ?_
  simp -dsimp -implicitDefEqProofs only [push_cast, ↓trAdd_f, ↓stOf_f, Nat.reduceBEq, Int.reduceBEq, Int.reduceBNe, Int.reduceNeg, Int.reduceAdd, Int.reduceSub, Int.reduceLT, Int.reduceLE, Int.reduceMul, Nat.reducePow, Int.reducePow, Nat.reduceAdd, Nat.reduceEqDiff, Nat.reduceLT, Nat.reduceLeDiff, Nat.reduceMul, Nat.reduceSub, reduceCtorEq, ↓reduceIte]
  try refine hK _ ?_
  repeat (first | refine awp_seq ?_ | refine awp_block ?_ | refine awp_skip ?_ | refine awp_scope ?_ | refine awp_label ?_)
  refine awp_region tabOk fun K hK => ?_
  simp -dsimp -implicitDefEqProofs only [push_cast, ↓trAdd_f, ↓stOf_f, Nat.reduceBEq, Int.reduceBEq, Int.reduceBNe, Int.reduceNeg, Int.reduceAdd, Int.reduceSub, Int.reduceLT, Int.reduceLE, Int.reduceMul, Nat.reducePow, Int.reducePow, Nat.reduceAdd, Nat.reduceEqDiff, Nat.reduceLT, Nat.reduceLeDiff, Nat.reduceMul, Nat.reduceSub, reduceCtorEq, ↓reduceIte]
  refine hK _ (awp_block ?_)
  refine awp_for (fun q : Nat => { sl := [(0, .sl false 3 (l.map encStream)), (1, .int .i64 n), (6, .int .i64 b), (8, .int .i64 t), (9, .int .i64 (mostQ l n b l[n] q).1), (10, .int .i64 q)], st := [], nx := 0, n := 123 }) (fun q => q ≤ Q) (fun q => Q - q) 0 (Nat.zero_le _) ?_ fun q hq => ?_
  · have : mostQ l n b l[n] 0 = (0, b) := rfl
    refine le_intro hB [] (by simp) (fun b _ => rfl) rfl ?_ ?_ rfl <;> simp -dsimp -implicitDefEqProofs only [this, push_cast, ↓trAdd_f, ↓stOf_f, Nat.reduceBEq, Int.reduceBEq, Int.reduceBNe, Int.reduceNeg, Int.reduceAdd, Int.reduceSub, Int.reduceLT, Int.reduceLE, Int.reduceMul, Nat.reducePow, Int.reducePow, Nat.reduceAdd, Nat.reduceEqDiff, Nat.reduceLT, Nat.reduceLeDiff, Nat.reduceMul, Nat.reduceSub, reduceCtorEq, ↓reduceIte]
  try refine hK _ ?_
  repeat (first | refine awp_seq ?_ | refine awp_block ?_ | refine awp_skip ?_ | refine awp_scope ?_ | refine awp_label ?_)
  refine awp_draw tabOk (by kernel_rfl) (by kernel_rfl) fun K hK C hC => ?_
  simp -dsimp -implicitDefEqProofs only [hn, getD_map, encStream, hw2, push_cast, ↓trAdd_f, ↓stOf_f, Nat.reduceBEq, Int.reduceBEq, Int.reduceBNe, Int.reduceNeg, Int.reduceAdd, Int.reduceSub, Int.reduceLT, Int.reduceLE, Int.reduceMul, Nat.reducePow, Int.reducePow, Nat.reduceAdd, Nat.reduceEqDiff, Nat.reduceLT, Nat.reduceLeDiff, Nat.reduceMul, Nat.reduceSub, reduceCtorEq, ↓reduceIte]
  refine ⟨⟨by omega, by omega⟩, ⟨by omega, by omega⟩, ?_⟩
  refine callK_simple (up_ok (t + l[n].jitter) l[n].period (by omega) (by omega) p3) ?_ rfl fun _ => ?_
  · simp -dsimp -implicitDefEqProofs only [push_cast, List.mem_append, List.mem_cons, List.mem_singleton, forall_eq_or_imp, forall_eq, ↓trAdd_f, ↓stOf_f, Nat.reduceBEq, Int.reduceBEq, Int.reduceBNe, Int.reduceNeg, Int.reduceAdd, Int.reduceSub, Int.reduceLT, Int.reduceLE, Int.reduceMul, Nat.reducePow, Int.reducePow, Nat.reduceAdd, Nat.reduceEqDiff, Nat.reduceLT, Nat.reduceLeDiff, Nat.reduceMul, Nat.reduceSub, reduceCtorEq, ↓reduceIte]
  rw [hup]
  simp -dsimp -implicitDefEqProofs only [push_cast, ↓trAdd_f, ↓stOf_f, Nat.reduceBEq, Int.reduceBEq, Int.reduceBNe, Int.reduceNeg, Int.reduceAdd, Int.reduceSub, Int.reduceLT, Int.reduceLE, Int.reduceMul, Nat.reducePow, Int.reducePow, Nat.reduceAdd, Nat.reduceEqDiff, Nat.reduceLT, Nat.reduceLeDiff, Nat.reduceMul, Nat.reduceSub, reduceCtorEq, ↓reduceIte]
  refine ⟨hC _ (by kernel_rfl), ?_⟩
  clear hC C
  try refine hK _ ?_
  repeat (first | refine awp_seq ?_ | refine awp_block ?_ | refine awp_skip ?_ | refine awp_scope ?_ | refine awp_label ?_)
  refine awp_cond (b := decide ((q : Int) < Q)) (by simp -dsimp -implicitDefEqProofs only [push_cast, ↓trAdd_f, ↓stOf_f, Nat.reduceBEq, Int.reduceBEq, Int.reduceBNe, Int.reduceNeg, Int.reduceAdd, Int.reduceSub, Int.reduceLT, Int.reduceLE, Int.reduceMul, Nat.reducePow, Int.reducePow, Nat.reduceAdd, Nat.reduceEqDiff, Nat.reduceLT, Nat.reduceLeDiff, Nat.reduceMul, Nat.reduceSub, reduceCtorEq, ↓reduceIte]) (fun h => ?_) (fun h => ?_)
  · have hqQ : q < Q := by simpa using h
    clear h
    have hqc := hBz.qc (q := q) (by omega)
    have hqT : (q : Int) * l[n].period ≤ 10000000 * 1000000 := Int.mul_le_mul (by omega) (by omega) (by omega) (by omega)
    have hqT0 : 0 ≤ (q : Int) * l[n].period := Int.mul_nonneg (by omega) (by omega)
    have hinv := mostQ_inv (i := n) hs hst hb0 hb1 q hqc.1
    obtain ⟨_, w1, w2, w3, w4⟩ := hBz.wait hqQ
    have hmq := hBz.most q hqQ
    have hnext : (mostQ l n b l[n] (q + 1)).1 = max (mostQ l n b l[n] q).1 (l[n].jitter + waitOf l n b l[n] q - q * l[n].period + l[n].bits) := by rw [← hmq]; rfl
    have hfge := fWait_ge l n b l[n].bits q
    have hfmono := fWait_mono l n b l[n].bits q hs
    have hu1 : IntKind.i64.wrap ((q : Int) * l[n].bits) = q * l[n].bits := wrap_i64 (by omega) (by omega)
    have hu2 : IntKind.i64.wrap (b + (q : Int) * l[n].bits) = b + q * l[n].bits := wrap_i64 (by omega) (by omega)
    generalize hwo : waitOf l n b l[n] q = wo at *
    have hbt7 := hBz.t7
    try refine hK _ ?_
    repeat (first | refine awp_seq ?_ | refine awp_block ?_ | refine awp_skip ?_ | refine awp_scope ?_ | refine awp_label ?_)
    refine awp_region tabOk fun K hK => ?_
    simp -dsimp -implicitDefEqProofs only [hn, getD_map, encStream, hu1, hu2, push_cast, ↓trAdd_f, ↓stOf_f, Nat.reduceBEq, Int.reduceBEq, Int.reduceBNe, Int.reduceNeg, Int.reduceAdd, Int.reduceSub, Int.reduceLT, Int.reduceLE, Int.reduceMul, Nat.reducePow, Int.reducePow, Nat.reduceAdd, Nat.reduceEqDiff, Nat.reduceLT, Nat.reduceLeDiff, Nat.reduceMul, Nat.reduceSub, reduceCtorEq, ↓reduceIte]
    refine ⟨⟨by omega, by omega⟩, hK _ ?_⟩
    refine awp_seq ?_
    refine awp_join { sl := [(0, .sl false 3 (l.map encStream)), (1, .int .i64 n), (6, .int .i64 b), (8, .int .i64 t), (9, .int .i64 (mostQ l n b l[n] q).1), (10, .int .i64 q), (11, .int .i64 wo)], st := [], nx := 0, n := 123 } ?_ (fun _ hl h => awp_le hl h) ?_
    · refine awp_block ?_
      refine awp_for (fun w : Int => { sl := [(0, .sl false 3 (l.map encStream)), (1, .int .i64 n), (6, .int .i64 b), (8, .int .i64 t), (9, .int .i64 (mostQ l n b l[n] q).1), (10, .int .i64 q), (11, .int .i64 w)], st := [], nx := 0, n := 123 })
        (fun w => b + q * l[n].bits ≤ w ∧ w ≤ wo ∧ w ≤ fWait l n b l[n].bits q w) (fun w => (t - w).toNat) (b + q * l[n].bits) ⟨Int.le_refl _, w2, hfge _ hs (by omega)⟩ ?_ fun w hw => ?_
      · refine le_intro hB [] (by simp) (fun b _ => rfl) rfl ?_ ?_ rfl <;> simp -dsimp -implicitDefEqProofs only [push_cast, ↓trAdd_f, ↓stOf_f, Nat.reduceBEq, Int.reduceBEq, Int.reduceBNe, Int.reduceNeg, Int.reduceAdd, Int.reduceSub, Int.reduceLT, Int.reduceLE, Int.reduceMul, Nat.reducePow, Int.reducePow, Nat.reduceAdd, Nat.reduceEqDiff, Nat.reduceLT, Nat.reduceLeDiff, Nat.reduceMul, Nat.reduceSub, reduceCtorEq, ↓reduceIte]
      obtain ⟨v1, v2, v3⟩ := hw
      have hfb : b + (q : Int) * l[n].bits + load (l.take n) w 1 = fWait l n b l[n].bits q w := rfl
      have hfle := hfmono w wo (by omega) v2
      rw [w1] at hfle
      have hfup := hfmono w (fWait l n b l[n].bits q w) (by omega) v3
      have w4' := w4 w v1
      try refine hK _ ?_
      repeat (first | refine awp_seq ?_ | refine awp_block ?_ | refine awp_skip ?_ | refine awp_scope ?_ | refine awp_label ?_)
      refine awp_region tabOk fun K hK => ?_
      simp -dsimp -implicitDefEqProofs only [push_cast, ↓trAdd_f, ↓stOf_f, Nat.reduceBEq, Int.reduceBEq, Int.reduceBNe, Int.reduceNeg, Int.reduceAdd, Int.reduceSub, Int.reduceLT, Int.reduceLE, Int.reduceMul, Nat.reducePow, Int.reducePow, Nat.reduceAdd, Nat.reduceEqDiff, Nat.reduceLT, Nat.reduceLeDiff, Nat.reduceMul, Nat.reduceSub, reduceCtorEq, ↓reduceIte]
      refine callK_simple (waits_ok false l n b q w hl16 hn hs (by omega) (by omega) hb0 (by omega) (by omega) (by omega)) ?_ rfl fun _ => ?_
      · simp -dsimp -implicitDefEqProofs only [push_cast, List.mem_append, List.mem_cons, List.mem_singleton, forall_eq_or_imp, forall_eq, ↓trAdd_f, ↓stOf_f, Nat.reduceBEq, Int.reduceBEq, Int.reduceBNe, Int.reduceNeg, Int.reduceAdd, Int.reduceSub, Int.reduceLT, Int.reduceLE, Int.reduceMul, Nat.reducePow, Int.reducePow, Nat.reduceAdd, Nat.reduceEqDiff, Nat.reduceLT, Nat.reduceLeDiff, Nat.reduceMul, Nat.reduceSub, reduceCtorEq, ↓reduceIte]
      rw [hfb]
      simp -dsimp -implicitDefEqProofs only [push_cast, ↓trAdd_f, ↓stOf_f, Nat.reduceBEq, Int.reduceBEq, Int.reduceBNe, Int.reduceNeg, Int.reduceAdd, Int.reduceSub, Int.reduceLT, Int.reduceLE, Int.reduceMul, Nat.reducePow, Int.reducePow, Nat.reduceAdd, Nat.reduceEqDiff, Nat.reduceLT, Nat.reduceLeDiff, Nat.reduceMul, Nat.reduceSub, reduceCtorEq, ↓reduceIte]
      try refine hK _ ?_
      repeat (first | refine awp_seq ?_ | refine awp_block ?_ | refine awp_skip ?_ | refine awp_scope ?_ | refine awp_label ?_)
      refine awp_cond (b := fWait l n b l[n].bits q w != w) (by simp -dsimp -implicitDefEqProofs only [push_cast, ↓trAdd_f, ↓stOf_f, Nat.reduceBEq, Int.reduceBEq, Int.reduceBNe, Int.reduceNeg, Int.reduceAdd, Int.reduceSub, Int.reduceLT, Int.reduceLE, Int.reduceMul, Nat.reducePow, Int.reducePow, Nat.reduceAdd, Nat.reduceEqDiff, Nat.reduceLT, Nat.reduceLeDiff, Nat.reduceMul, Nat.reduceSub, reduceCtorEq, ↓reduceIte]) (fun h => ?_) (fun h => ?_)
      · have he : ¬ fWait l n b l[n].bits q w = w := by simpa using h
        clear h
        try refine hK _ ?_
        repeat (first | refine awp_seq ?_ | refine awp_block ?_ | refine awp_skip ?_ | refine awp_scope ?_ | refine awp_label ?_)
        refine awp_region tabOk fun K hK => ?_
        simp -dsimp -implicitDefEqProofs only [push_cast, ↓trAdd_f, ↓stOf_f, Nat.reduceBEq, Int.reduceBEq, Int.reduceBNe, Int.reduceNeg, Int.reduceAdd, Int.reduceSub, Int.reduceLT, Int.reduceLE, Int.reduceMul, Nat.reducePow, Int.reducePow, Nat.reduceAdd, Nat.reduceEqDiff, Nat.reduceLT, Nat.reduceLeDiff, Nat.reduceMul, Nat.reduceSub, reduceCtorEq, ↓reduceIte]
        refine callK_simple (waits_ok false l n b q w hl16 hn hs (by omega) (by omega) hb0 (by omega) (by omega) (by omega)) ?_ rfl fun _ => ?_
        · simp -dsimp -implicitDefEqProofs only [push_cast, List.mem_append, List.mem_cons, List.mem_singleton, forall_eq_or_imp, forall_eq, ↓trAdd_f, ↓stOf_f, Nat.reduceBEq, Int.reduceBEq, Int.reduceBNe, Int.reduceNeg, Int.reduceAdd, Int.reduceSub, Int.reduceLT, Int.reduceLE, Int.reduceMul, Nat.reducePow, Int.reducePow, Nat.reduceAdd, Nat.reduceEqDiff, Nat.reduceLT, Nat.reduceLeDiff, Nat.reduceMul, Nat.reduceSub, reduceCtorEq, ↓reduceIte]
        rw [hfb]
        simp -dsimp -implicitDefEqProofs only [push_cast, ↓trAdd_f, ↓stOf_f, Nat.reduceBEq, Int.reduceBEq, Int.reduceBNe, Int.reduceNeg, Int.reduceAdd, Int.reduceSub, Int.reduceLT, Int.reduceLE, Int.reduceMul, Nat.reducePow, Int.reducePow, Nat.reduceAdd, Nat.reduceEqDiff, Nat.reduceLT, Nat.reduceLeDiff, Nat.reduceMul, Nat.reduceSub, reduceCtorEq, ↓reduceIte]
        refine hK _ ⟨fWait l n b l[n].bits q w, ⟨by omega, hfle, hfup⟩, by omega, ?_⟩
        refine le_intro hB [] (by simp) (fun b _ => rfl) rfl ?_ ?_ rfl <;> simp -dsimp -implicitDefEqProofs only [push_cast, ↓trAdd_f, ↓stOf_f, Nat.reduceBEq, Int.reduceBEq, Int.reduceBNe, Int.reduceNeg, Int.reduceAdd, Int.reduceSub, Int.reduceLT, Int.reduceLE, Int.reduceMul, Nat.reducePow, Int.reducePow, Nat.reduceAdd, Nat.reduceEqDiff, Nat.reduceLT, Nat.reduceLeDiff, Nat.reduceMul, Nat.reduceSub, reduceCtorEq, ↓reduceIte]
      · have he : fWait l n b l[n].bits q w = w := by simpa using h
        have : w = wo := by have := w4' (by omega); omega
        refine awp_exit rfl ?_
        refine le_intro hB [] (by simp) (fun b _ => rfl) rfl ?_ ?_ rfl <;> simp -dsimp -implicitDefEqProofs only [this, push_cast, ↓trAdd_f, ↓stOf_f, Nat.reduceBEq, Int.reduceBEq, Int.reduceBNe, Int.reduceNeg, Int.reduceAdd, Int.reduceSub, Int.reduceLT, Int.reduceLE, Int.reduceMul, Nat.reducePow, Int.reducePow, Nat.reduceAdd, Nat.reduceEqDiff, Nat.reduceLT, Nat.reduceLeDiff, Nat.reduceMul, Nat.reduceSub, reduceCtorEq, ↓reduceIte]
    have g1 := hinv.m0
    have g2 := hinv.m1
    have hu3 : IntKind.i64.wrap (l[n].jitter + wo) = l[n].jitter + wo := wrap_i64 (by omega) (by omega)
    have hu4 : IntKind.i64.wrap ((q : Int) * l[n].period) = q * l[n].period := wrap_i64 (by omega) (by omega)
    have hu5 : IntKind.i64.wrap (l[n].jitter + wo - q * l[n].period) = l[n].jitter + wo - q * l[n].period := wrap_i64 (by omega) (by omega)
    have hu6 : IntKind.i64.wrap (l[n].jitter + wo - q * l[n].period + l[n].bits) = l[n].jitter + wo - q * l[n].period + l[n].bits := wrap_i64 (by omega) (by omega)
    try refine hK _ ?_
    repeat (first | refine awp_seq ?_ | refine awp_block ?_ | refine awp_skip ?_ | refine awp_scope ?_ | refine awp_label ?_)
    refine awp_draw tabOk (by kernel_rfl) (by kernel_rfl) fun K hK C hC => ?_
    simp -dsimp -implicitDefEqProofs only [hn, getD_map, encStream, hu3, hu4, hu5, hu6, push_cast, ↓trAdd_f, ↓stOf_f, Nat.reduceBEq, Int.reduceBEq, Int.reduceBNe, Int.reduceNeg, Int.reduceAdd, Int.reduceSub, Int.reduceLT, Int.reduceLE, Int.reduceMul, Nat.reducePow, Int.reducePow, Nat.reduceAdd, Nat.reduceEqDiff, Nat.reduceLT, Nat.reduceLeDiff, Nat.reduceMul, Nat.reduceSub, reduceCtorEq, ↓reduceIte]
    refine ⟨⟨by omega, by omega⟩, ⟨by omega, by omega⟩, ⟨by omega, by omega⟩, hC _ (by kernel_rfl), hK _ ?_⟩
    clear hC C
    try refine hK _ ?_
    repeat (first | refine awp_seq ?_ | refine awp_block ?_ | refine awp_skip ?_ | refine awp_scope ?_ | refine awp_label ?_)
    refine awp_region tabOk fun K hK => ?_
    simp -dsimp -implicitDefEqProofs only [push_cast, ↓trAdd_f, ↓stOf_f, Nat.reduceBEq, Int.reduceBEq, Int.reduceBNe, Int.reduceNeg, Int.reduceAdd, Int.reduceSub, Int.reduceLT, Int.reduceLE, Int.reduceMul, Nat.reducePow, Int.reducePow, Nat.reduceAdd, Nat.reduceEqDiff, Nat.reduceLT, Nat.reduceLeDiff, Nat.reduceMul, Nat.reduceSub, reduceCtorEq, ↓reduceIte]
    try simp (disch := omega) only [wrap_i64, wrap_u8, wrap_u16, wrap_u32]
    refine hK _ ⟨q + 1, hqQ, by omega, ?_⟩
    rw [hnext]
    refine le_intro hB [] (by simp) (fun b _ => rfl) rfl ?_ ?_ rfl <;> simp -dsimp -implicitDefEqProofs only [push_cast, ↓trAdd_f, ↓stOf_f, Nat.reduceBEq, Int.reduceBEq, Int.reduceBNe, Int.reduceNeg, Int.reduceAdd, Int.reduceSub, Int.reduceLT, Int.reduceLE, Int.reduceMul, Nat.reducePow, Int.reducePow, Nat.reduceAdd, Nat.reduceEqDiff, Nat.reduceLT, Nat.reduceLeDiff, Nat.reduceMul, Nat.reduceSub, reduceCtorEq, ↓reduceIte]
  · have he : q = Q := by simp at h; omega
    subst he
    refine awp_exit rfl ?_
    try refine hK _ ?_
    repeat (first | refine awp_seq ?_ | refine awp_block ?_ | refine awp_skip ?_ | refine awp_scope ?_ | refine awp_label ?_)
    refine awp_region tabOk fun K hK => ?_
    simp -dsimp -implicitDefEqProofs only [push_cast, ↓trAdd_f, ↓stOf_f, Nat.reduceBEq, Int.reduceBEq, Int.reduceBNe, Int.reduceNeg, Int.reduceAdd, Int.reduceSub, Int.reduceLT, Int.reduceLE, Int.reduceMul, Nat.reducePow, Int.reducePow, Nat.reduceAdd, Nat.reduceEqDiff, Nat.reduceLT, Nat.reduceLeDiff, Nat.reduceMul, Nat.reduceSub, reduceCtorEq, ↓reduceIte]
    refine hK _ (awp_ret ?_)
    simp -dsimp -implicitDefEqProofs only [hbp, push_cast, List.mem_append, List.mem_cons, List.mem_singleton, forall_eq_or_imp, forall_eq, ↓trAdd_f, ↓stOf_f, Nat.reduceBEq, Int.reduceBEq, Int.reduceBNe, Int.reduceNeg, Int.reduceAdd, Int.reduceSub, Int.reduceLT, Int.reduceLE, Int.reduceMul, Nat.reducePow, Int.reducePow, Nat.reduceAdd, Nat.reduceEqDiff, Nat.reduceLT, Nat.reduceLeDiff, Nat.reduceMul, Nat.reduceSub, reduceCtorEq, ↓reduceIte]
end Go.Proofs.YtahkpghgjjlgdaaFw

/-
  Walks: starts; Due, From; a queue's wait and next.
-/
namespace Go.Proofs.YtahkpghgjjlgdaaFw
open Go Go.Proofs
set_option maxRecDepth 100000
set_option maxHeartbeats 8000000
set_option linter.unusedVariables false
set_option linter.unusedSimpArgs false

def startAt (bs : List Int) (i : Nat) : Int := if i < bs.length then (band (bs.getD i 0) 65535).tmod 2000 else 0
def startsN (bs : List Int) (k : Nat) : List Int := (List.range k).map (startAt bs)
theorem startsN_succ (bs : List Int) (k : Nat) : startsN bs (k + 1) = startsN bs k ++ [startAt bs k] := by
  unfold startsN; rw [List.range_succ, List.map_append]; rfl
theorem startsN_len (bs : List Int) (k : Nat) : (startsN bs k).length = k := by unfold startsN; simp
theorem encI_fz (n : Int) : ∀ c ∈ encI n, c.fz = true := by simp [encI, PV.fz]
theorem ren_int (l : List Int) (r : Nat → Nat) : (l.map encI).map (renL r) = l.map encI := map_ren_fz _ (fz_map encI_fz l) r
theorem ok_int (l : List Int) (S : Nat → Prop) : (∀ e ∈ l.map encI, okL S e) = True := all_ok_fz _ (fz_map encI_fz l) S
theorem fz_int (l : List Int) : (∀ e ∈ l.map encI, ∀ c ∈ e, c.fz = true) = True := eq_true (fz_map encI_fz l)
theorem starts_ok (l : List Stream) (bs : List Int) (hl : l.length ≤ 2 ^ 30) (hb : bs.length ≤ 2 ^ 50) : FnS Try.prog 16 [.sl false 3 (l.map encStream), .sl false 1 (bs.map encI)] [] (.sl false 1 ((startsN bs l.length).map encI)) [] := by
  refine fn_walk tabOk Try.func16 rfl (by decide +kernel) Try.ntmps16 Try.results16 (by simp) fun B hB => ?_
  try refine hK _ ?_
  repeat (first | refine awp_seq ?_ | refine awp_block ?_ | refine awp_skip ?_ | refine awp_scope ?_ | refine awp_label ?_)
  refine awp_region tabOk fun K hK => ?_
  simp -dsimp -implicitDefEqProofs only [push_cast, ↓trAdd_f, ↓stOf_f, Nat.reduceBEq, Int.reduceBEq, Int.reduceBNe, Int.reduceNeg, Int.reduceAdd, Int.reduceSub, Int.reduceLT, Int.reduceLE, Int.reduceMul, Nat.reducePow, Int.reducePow, Nat.reduceAdd, Nat.reduceEqDiff, Nat.reduceLT, Nat.reduceLeDiff, Nat.reduceMul, Nat.reduceSub, reduceCtorEq, ↓reduceIte]
  try refine hK _ ?_
  repeat (first | refine awp_seq ?_ | refine awp_block ?_ | refine awp_skip ?_ | refine awp_scope ?_ | refine awp_label ?_)
  refine awp_region tabOk fun K hK => ?_
  simp -dsimp -implicitDefEqProofs only [push_cast, ↓trAdd_f, ↓stOf_f, Nat.reduceBEq, Int.reduceBEq, Int.reduceBNe, Int.reduceNeg, Int.reduceAdd, Int.reduceSub, Int.reduceLT, Int.reduceLE, Int.reduceMul, Nat.reducePow, Int.reducePow, Nat.reduceAdd, Nat.reduceEqDiff, Nat.reduceLT, Nat.reduceLeDiff, Nat.reduceMul, Nat.reduceSub, reduceCtorEq, ↓reduceIte]
  try refine hK _ ?_
  repeat (first | refine awp_seq ?_ | refine awp_block ?_ | refine awp_skip ?_ | refine awp_scope ?_ | refine awp_label ?_)
  refine awp_region tabOk fun K hK => ?_
  simp -dsimp -implicitDefEqProofs only [push_cast, ↓trAdd_f, ↓stOf_f, Nat.reduceBEq, Int.reduceBEq, Int.reduceBNe, Int.reduceNeg, Int.reduceAdd, Int.reduceSub, Int.reduceLT, Int.reduceLE, Int.reduceMul, Nat.reducePow, Int.reducePow, Nat.reduceAdd, Nat.reduceEqDiff, Nat.reduceLT, Nat.reduceLeDiff, Nat.reduceMul, Nat.reduceSub, reduceCtorEq, ↓reduceIte]
  refine hK _ (awp_block ?_)
  refine awp_for (fun k : Nat => { sl := [(0, .sl false 3 (l.map encStream)), (1, .sl false 1 (bs.map encI)), (5, .own 8 1 0 (startsN bs k).length), (6, .int .i64 k)], st := [(8, .row 1 ((startsN bs k).map encI))], nx := 32, n := 30 }) (fun k => k ≤ l.length) (fun k => l.length - k) 0 (Nat.zero_le _) ?_ fun k hk => ?_
  · have : startsN bs 0 = [] := rfl
    refine le_intro hB [] (by simp) (fun b _ => rfl) rfl ?_ ?_ rfl <;> simp -dsimp -implicitDefEqProofs only [this, push_cast, ↓trAdd_f, ↓stOf_f, Nat.reduceBEq, Int.reduceBEq, Int.reduceBNe, Int.reduceNeg, Int.reduceAdd, Int.reduceSub, Int.reduceLT, Int.reduceLE, Int.reduceMul, Nat.reducePow, Int.reducePow, Nat.reduceAdd, Nat.reduceEqDiff, Nat.reduceLT, Nat.reduceLeDiff, Nat.reduceMul, Nat.reduceSub, reduceCtorEq, ↓reduceIte]
  have hlen := startsN_len bs k
  try refine hK _ ?_
  repeat (first | refine awp_seq ?_ | refine awp_block ?_ | refine awp_skip ?_ | refine awp_scope ?_ | refine awp_label ?_)
  refine awp_region tabOk fun K hK => ?_
  simp -dsimp -implicitDefEqProofs only [push_cast, ↓trAdd_f, ↓stOf_f, Nat.reduceBEq, Int.reduceBEq, Int.reduceBNe, Int.reduceNeg, Int.reduceAdd, Int.reduceSub, Int.reduceLT, Int.reduceLE, Int.reduceMul, Nat.reducePow, Int.reducePow, Nat.reduceAdd, Nat.reduceEqDiff, Nat.reduceLT, Nat.reduceLeDiff, Nat.reduceMul, Nat.reduceSub, reduceCtorEq, ↓reduceIte]
  try refine hK _ ?_
  repeat (first | refine awp_seq ?_ | refine awp_block ?_ | refine awp_skip ?_ | refine awp_scope ?_ | refine awp_label ?_)
  refine awp_cond (b := decide ((k : Int) < l.length)) (by simp -dsimp -implicitDefEqProofs only [push_cast, ↓trAdd_f, ↓stOf_f, Nat.reduceBEq, Int.reduceBEq, Int.reduceBNe, Int.reduceNeg, Int.reduceAdd, Int.reduceSub, Int.reduceLT, Int.reduceLE, Int.reduceMul, Nat.reducePow, Int.reducePow, Nat.reduceAdd, Nat.reduceEqDiff, Nat.reduceLT, Nat.reduceLeDiff, Nat.reduceMul, Nat.reduceSub, reduceCtorEq, ↓reduceIte]) (fun h => ?_) (fun h => ?_)
  · have hlt : k < l.length := by simpa using h
    clear h
    have hsucc := startsN_succ bs k
    try refine hK _ ?_
    repeat (first | refine awp_seq ?_ | refine awp_block ?_ | refine awp_skip ?_ | refine awp_scope ?_ | refine awp_label ?_)
    refine awp_region tabOk fun K hK => ?_
    simp -dsimp -implicitDefEqProofs only [push_cast, ↓trAdd_f, ↓stOf_f, Nat.reduceBEq, Int.reduceBEq, Int.reduceBNe, Int.reduceNeg, Int.reduceAdd, Int.reduceSub, Int.reduceLT, Int.reduceLE, Int.reduceMul, Nat.reducePow, Int.reducePow, Nat.reduceAdd, Nat.reduceEqDiff, Nat.reduceLT, Nat.reduceLeDiff, Nat.reduceMul, Nat.reduceSub, reduceCtorEq, ↓reduceIte]
    refine hK _ (awp_seq ?_)
    refine awp_join { sl := [(0, .sl false 3 (l.map encStream)), (1, .sl false 1 (bs.map encI)), (5, .own 8 1 0 (startsN bs k).length), (6, .int .i64 k), (7, .int .i64 (startAt bs k))], st := [(8, .row 1 ((startsN bs k).map encI))], nx := 32, n := 30 } ?_ (fun _ hl h => awp_le hl h) ?_
    · try refine hK _ ?_
      repeat (first | refine awp_seq ?_ | refine awp_block ?_ | refine awp_skip ?_ | refine awp_scope ?_ | refine awp_label ?_)
      refine awp_region tabOk fun K hK => ?_
      simp -dsimp -implicitDefEqProofs only [push_cast, ↓trAdd_f, ↓stOf_f, Nat.reduceBEq, Int.reduceBEq, Int.reduceBNe, Int.reduceNeg, Int.reduceAdd, Int.reduceSub, Int.reduceLT, Int.reduceLE, Int.reduceMul, Nat.reducePow, Int.reducePow, Nat.reduceAdd, Nat.reduceEqDiff, Nat.reduceLT, Nat.reduceLeDiff, Nat.reduceMul, Nat.reduceSub, reduceCtorEq, ↓reduceIte]
      try refine hK _ ?_
      repeat (first | refine awp_seq ?_ | refine awp_block ?_ | refine awp_skip ?_ | refine awp_scope ?_ | refine awp_label ?_)
      refine awp_cond (b := decide ((k : Int) < bs.length)) (by simp -dsimp -implicitDefEqProofs only [push_cast, ↓trAdd_f, ↓stOf_f, Nat.reduceBEq, Int.reduceBEq, Int.reduceBNe, Int.reduceNeg, Int.reduceAdd, Int.reduceSub, Int.reduceLT, Int.reduceLE, Int.reduceMul, Nat.reducePow, Int.reducePow, Nat.reduceAdd, Nat.reduceEqDiff, Nat.reduceLT, Nat.reduceLeDiff, Nat.reduceMul, Nat.reduceSub, reduceCtorEq, ↓reduceIte]) (fun h => ?_) (fun h => ?_)
      · have hkb : k < bs.length := by simpa using h
        have b1 := band_range bs[k] 65535 (w := 16) (by decide) (by decide)
        have m1 : (band bs[k] 65535).tmod 2000 = band bs[k] 65535 % 2000 := Int.tmod_eq_emod_of_nonneg b1.1
        have w1 : IntKind.i64.wrap ((band bs[k] 65535).tmod 2000) = (band bs[k] 65535).tmod 2000 := wrap_i64 (by omega) (by omega)
        have e : startAt bs k = (band bs[k] 65535).tmod 2000 := by unfold startAt; rw [if_pos hkb, show bs.getD k 0 = bs[k] by simp [List.getD, hkb]]
        try refine hK _ ?_
        repeat (first | refine awp_seq ?_ | refine awp_block ?_ | refine awp_skip ?_ | refine awp_scope ?_ | refine awp_label ?_)
        refine awp_region tabOk fun K hK => ?_
        simp -dsimp -implicitDefEqProofs only [hkb, getD_map, encI, w1, push_cast, ↓trAdd_f, ↓stOf_f, Nat.reduceBEq, Int.reduceBEq, Int.reduceBNe, Int.reduceNeg, Int.reduceAdd, Int.reduceSub, Int.reduceLT, Int.reduceLE, Int.reduceMul, Nat.reducePow, Int.reducePow, Nat.reduceAdd, Nat.reduceEqDiff, Nat.reduceLT, Nat.reduceLeDiff, Nat.reduceMul, Nat.reduceSub, reduceCtorEq, ↓reduceIte]
        refine ⟨⟨by omega, by omega⟩, by decide, hK _ ?_⟩
        refine le_intro hB [] (by simp) (fun b _ => rfl) rfl ?_ ?_ rfl <;> simp -dsimp -implicitDefEqProofs only [e, ren_int, ok_int, push_cast, ↓trAdd_f, ↓stOf_f, Nat.reduceBEq, Int.reduceBEq, Int.reduceBNe, Int.reduceNeg, Int.reduceAdd, Int.reduceSub, Int.reduceLT, Int.reduceLE, Int.reduceMul, Nat.reducePow, Int.reducePow, Nat.reduceAdd, Nat.reduceEqDiff, Nat.reduceLT, Nat.reduceLeDiff, Nat.reduceMul, Nat.reduceSub, reduceCtorEq, ↓reduceIte]
      · have hkb : ¬ k < bs.length := by simp at h; omega
        have e : startAt bs k = 0 := by unfold startAt; rw [if_neg hkb]
        refine awp_skip ?_
        refine le_intro hB [] (by simp) (fun b _ => rfl) rfl ?_ ?_ rfl <;> simp -dsimp -implicitDefEqProofs only [e, ren_int, ok_int, push_cast, ↓trAdd_f, ↓stOf_f, Nat.reduceBEq, Int.reduceBEq, Int.reduceBNe, Int.reduceNeg, Int.reduceAdd, Int.reduceSub, Int.reduceLT, Int.reduceLE, Int.reduceMul, Nat.reducePow, Int.reducePow, Nat.reduceAdd, Nat.reduceEqDiff, Nat.reduceLT, Nat.reduceLeDiff, Nat.reduceMul, Nat.reduceSub, reduceCtorEq, ↓reduceIte]
    try refine hK _ ?_
    repeat (first | refine awp_seq ?_ | refine awp_block ?_ | refine awp_skip ?_ | refine awp_scope ?_ | refine awp_label ?_)
    refine awp_region tabOk fun K hK => ?_
    simp -dsimp -implicitDefEqProofs only [push_cast, ↓trAdd_f, ↓stOf_f, Nat.reduceBEq, Int.reduceBEq, Int.reduceBNe, Int.reduceNeg, Int.reduceAdd, Int.reduceSub, Int.reduceLT, Int.reduceLE, Int.reduceMul, Nat.reducePow, Int.reducePow, Nat.reduceAdd, Nat.reduceEqDiff, Nat.reduceLT, Nat.reduceLeDiff, Nat.reduceMul, Nat.reduceSub, reduceCtorEq, ↓reduceIte]
    refine ⟨⟨by omega, by omega⟩, ?_⟩
    try refine hK _ ?_
    repeat (first | refine awp_seq ?_ | refine awp_block ?_ | refine awp_skip ?_ | refine awp_scope ?_ | refine awp_label ?_)
    refine awp_region tabOk fun K hK => ?_
    simp -dsimp -implicitDefEqProofs only [push_cast, ↓trAdd_f, ↓stOf_f, Nat.reduceBEq, Int.reduceBEq, Int.reduceBNe, Int.reduceNeg, Int.reduceAdd, Int.reduceSub, Int.reduceLT, Int.reduceLE, Int.reduceMul, Nat.reducePow, Int.reducePow, Nat.reduceAdd, Nat.reduceEqDiff, Nat.reduceLT, Nat.reduceLeDiff, Nat.reduceMul, Nat.reduceSub, reduceCtorEq, ↓reduceIte]
    try simp (disch := omega) only [wrap_i64, wrap_u8, wrap_u16, wrap_u32]
    refine hK _ ⟨k + 1, hlt, by omega, ?_⟩
    rw [hsucc]
    refine le_intro hB [(8, 56)] (by simp) (fun b hb => absurd hb (Nat.not_lt_zero b)) rfl ?_ ?_ rfl <;> simp -dsimp -implicitDefEqProofs only [List.map_append, List.length_append, encI, ren_int, ok_int, List.map_cons, List.map_nil, push_cast, ↓trAdd_f, ↓stOf_f, Nat.reduceBEq, Int.reduceBEq, Int.reduceBNe, Int.reduceNeg, Int.reduceAdd, Int.reduceSub, Int.reduceLT, Int.reduceLE, Int.reduceMul, Nat.reducePow, Int.reducePow, Nat.reduceAdd, Nat.reduceEqDiff, Nat.reduceLT, Nat.reduceLeDiff, Nat.reduceMul, Nat.reduceSub, reduceCtorEq, ↓reduceIte]
  · have he : k = l.length := by simp at h; omega
    subst he
    refine awp_exit rfl ?_
    try refine hK _ ?_
    repeat (first | refine awp_seq ?_ | refine awp_block ?_ | refine awp_skip ?_ | refine awp_scope ?_ | refine awp_label ?_)
    refine awp_region tabOk fun K hK => ?_
    simp -dsimp -implicitDefEqProofs only [push_cast, ↓trAdd_f, ↓stOf_f, Nat.reduceBEq, Int.reduceBEq, Int.reduceBNe, Int.reduceNeg, Int.reduceAdd, Int.reduceSub, Int.reduceLT, Int.reduceLE, Int.reduceMul, Nat.reducePow, Int.reducePow, Nat.reduceAdd, Nat.reduceEqDiff, Nat.reduceLT, Nat.reduceLeDiff, Nat.reduceMul, Nat.reduceSub, reduceCtorEq, ↓reduceIte]
    refine hK _ (awp_ret ?_)
    simp -dsimp -implicitDefEqProofs only [fz_int, push_cast, List.mem_append, List.mem_cons, List.mem_singleton, forall_eq_or_imp, forall_eq, ↓trAdd_f, ↓stOf_f, Nat.reduceBEq, Int.reduceBEq, Int.reduceBNe, Int.reduceNeg, Int.reduceAdd, Int.reduceSub, Int.reduceLT, Int.reduceLE, Int.reduceMul, Nat.reducePow, Int.reducePow, Nat.reduceAdd, Nat.reduceEqDiff, Nat.reduceLT, Nat.reduceLeDiff, Nat.reduceMul, Nat.reduceSub, reduceCtorEq, ↓reduceIte]
end Go.Proofs.YtahkpghgjjlgdaaFw

/-
  Walks: Due, From; a queue's wait and next.
-/
namespace Go.Proofs.YtahkpghgjjlgdaaFw
open Go Go.Proofs
set_option maxRecDepth 100000
set_option maxHeartbeats 8000000
set_option linter.unusedVariables false
set_option linter.unusedSimpArgs false

theorem mul_bd {q : Nat} {s : Stream} (hs : s.ok) (hq : q ≤ 10000000) : 0 ≤ (q : Int) * s.period ∧ (q : Int) * s.period ≤ 10000000 * 1000000 :=
  ⟨Int.mul_nonneg (by omega) (by have := hs.2.2.1; omega), Int.mul_le_mul (by omega) hs.2.2.2.1 (by have := hs.2.2.1; omega) (by omega)⟩
theorem due_ok (s : Stream) (b : Int) (q : Nat) (hs : s.ok) (hb : 0 ≤ b ∧ b ≤ 1000000) (hq : q ≤ 10000000) : FnS Try.prog 30 [.agg (encStream s), .int .i64 b, .int .i64 q] [] (.int .i64 (dueZ s b q)) [] := by
  have h1 := mul_bd hs hq
  have hw1 : IntKind.i64.wrap ((q : Int) * s.period) = q * s.period := wrap_i64 (by omega) (by omega)
  have hw2 : IntKind.i64.wrap (b + (q : Int) * s.period) = b + q * s.period := wrap_i64 (by omega) (by omega)
  refine fn_walk tabOk Try.func30 rfl (by decide +kernel) Try.ntmps30 Try.results30 (by simp) fun B hB => ?_
  simp only [encStream]
  try refine hK _ ?_
  repeat (first | refine awp_seq ?_ | refine awp_block ?_ | refine awp_skip ?_ | refine awp_scope ?_ | refine awp_label ?_)
  refine awp_region tabOk fun K hK => ?_
  simp -dsimp -implicitDefEqProofs only [push_cast, ↓trAdd_f, ↓stOf_f, Nat.reduceBEq, Int.reduceBEq, Int.reduceBNe, Int.reduceNeg, Int.reduceAdd, Int.reduceSub, Int.reduceLT, Int.reduceLE, Int.reduceMul, Nat.reducePow, Int.reducePow, Nat.reduceAdd, Nat.reduceEqDiff, Nat.reduceLT, Nat.reduceLeDiff, Nat.reduceMul, Nat.reduceSub, reduceCtorEq, ↓reduceIte]
  try refine hK _ ?_
  repeat (first | refine awp_seq ?_ | refine awp_block ?_ | refine awp_skip ?_ | refine awp_scope ?_ | refine awp_label ?_)
  refine awp_region tabOk fun K hK => ?_
  simp -dsimp -implicitDefEqProofs only [hw1, hw2, push_cast, ↓trAdd_f, ↓stOf_f, Nat.reduceBEq, Int.reduceBEq, Int.reduceBNe, Int.reduceNeg, Int.reduceAdd, Int.reduceSub, Int.reduceLT, Int.reduceLE, Int.reduceMul, Nat.reducePow, Int.reducePow, Nat.reduceAdd, Nat.reduceEqDiff, Nat.reduceLT, Nat.reduceLeDiff, Nat.reduceMul, Nat.reduceSub, reduceCtorEq, ↓reduceIte]
  refine hK _ (awp_ret ?_)
  simp -dsimp -implicitDefEqProofs only [dueZ, push_cast, List.mem_append, List.mem_cons, List.mem_singleton, forall_eq_or_imp, forall_eq, ↓trAdd_f, ↓stOf_f, Nat.reduceBEq, Int.reduceBEq, Int.reduceBNe, Int.reduceNeg, Int.reduceAdd, Int.reduceSub, Int.reduceLT, Int.reduceLE, Int.reduceMul, Nat.reducePow, Int.reducePow, Nat.reduceAdd, Nat.reduceEqDiff, Nat.reduceLT, Nat.reduceLeDiff, Nat.reduceMul, Nat.reduceSub, reduceCtorEq, ↓reduceIte]
theorem tmod2 (q : Nat) : ((q : Int)).tmod 2 = ((q % 2 : Nat) : Int) := by
  rw [Int.tmod_eq_emod_of_nonneg (by omega)]; omega
theorem from_ok (s : Stream) (b : Int) (q : Nat) (hs : s.ok) (hb : 0 ≤ b ∧ b ≤ 1000000) (hq : q ≤ 10000000) : FnS Try.prog 31 [.agg (encStream s), .int .i64 b, .int .i64 q] [] (.int .i64 (fromZ s b q)) [] := by
  have h1 := mul_bd hs hq
  have h5 := hs.2.2.2.2.1
  have h6 := hs.2.2.2.2.2
  have hd : 0 ≤ dueZ s b q ∧ dueZ s b q ≤ 20000000000000 := by unfold dueZ; omega
  have hw1 : IntKind.i64.wrap (dueZ s b q + s.jitter) = dueZ s b q + s.jitter := wrap_i64 (by omega) (by omega)
  have hm := tmod2 q
  have hwm : IntKind.i64.wrap ((q % 2 : Nat) : Int) = ((q % 2 : Nat) : Int) := wrap_i64 (by omega) (by omega)
  refine fn_walk tabOk Try.func31 rfl (by decide +kernel) Try.ntmps31 Try.results31 (by simp) fun B hB => ?_
  simp only [encStream]
  try refine hK _ ?_
  repeat (first | refine awp_seq ?_ | refine awp_block ?_ | refine awp_skip ?_ | refine awp_scope ?_ | refine awp_label ?_)
  refine awp_region tabOk fun K hK => ?_
  simp -dsimp -implicitDefEqProofs only [push_cast, ↓trAdd_f, ↓stOf_f, Nat.reduceBEq, Int.reduceBEq, Int.reduceBNe, Int.reduceNeg, Int.reduceAdd, Int.reduceSub, Int.reduceLT, Int.reduceLE, Int.reduceMul, Nat.reducePow, Int.reducePow, Nat.reduceAdd, Nat.reduceEqDiff, Nat.reduceLT, Nat.reduceLeDiff, Nat.reduceMul, Nat.reduceSub, reduceCtorEq, ↓reduceIte]
  try refine hK _ ?_
  repeat (first | refine awp_seq ?_ | refine awp_block ?_ | refine awp_skip ?_ | refine awp_scope ?_ | refine awp_label ?_)
  refine awp_region tabOk fun K hK => ?_
  simp -dsimp -implicitDefEqProofs only [push_cast, ↓trAdd_f, ↓stOf_f, Nat.reduceBEq, Int.reduceBEq, Int.reduceBNe, Int.reduceNeg, Int.reduceAdd, Int.reduceSub, Int.reduceLT, Int.reduceLE, Int.reduceMul, Nat.reducePow, Int.reducePow, Nat.reduceAdd, Nat.reduceEqDiff, Nat.reduceLT, Nat.reduceLeDiff, Nat.reduceMul, Nat.reduceSub, reduceCtorEq, ↓reduceIte]
  refine callK_simple (due_ok s b q hs hb hq) ?_ rfl fun _ => ?_
  · simp -dsimp -implicitDefEqProofs only [encStream, push_cast, List.mem_append, List.mem_cons, List.mem_singleton, forall_eq_or_imp, forall_eq, ↓trAdd_f, ↓stOf_f, Nat.reduceBEq, Int.reduceBEq, Int.reduceBNe, Int.reduceNeg, Int.reduceAdd, Int.reduceSub, Int.reduceLT, Int.reduceLE, Int.reduceMul, Nat.reducePow, Int.reducePow, Nat.reduceAdd, Nat.reduceEqDiff, Nat.reduceLT, Nat.reduceLeDiff, Nat.reduceMul, Nat.reduceSub, reduceCtorEq, ↓reduceIte]
  simp -dsimp -implicitDefEqProofs only [push_cast, ↓trAdd_f, ↓stOf_f, Nat.reduceBEq, Int.reduceBEq, Int.reduceBNe, Int.reduceNeg, Int.reduceAdd, Int.reduceSub, Int.reduceLT, Int.reduceLE, Int.reduceMul, Nat.reducePow, Int.reducePow, Nat.reduceAdd, Nat.reduceEqDiff, Nat.reduceLT, Nat.reduceLeDiff, Nat.reduceMul, Nat.reduceSub, reduceCtorEq, ↓reduceIte]
  refine hK _ (awp_seq ?_)
  refine awp_join { sl := [(1, .int .i64 b), (2, .int .i64 q), (3, .ptr 0 0), (7, .int .i64 (arrZ s b q))], st := [(0, .box (encStream s))], nx := 8, n := 38 } ?_ (fun _ hl h => awp_le hl h) ?_
  · try refine hK _ ?_
    repeat (first | refine awp_seq ?_ | refine awp_block ?_ | refine awp_skip ?_ | refine awp_scope ?_ | refine awp_label ?_)
    refine awp_region tabOk fun K hK => ?_
    simp -dsimp -implicitDefEqProofs only [hm, hwm, push_cast, ↓trAdd_f, ↓stOf_f, Nat.reduceBEq, Int.reduceBEq, Int.reduceBNe, Int.reduceNeg, Int.reduceAdd, Int.reduceSub, Int.reduceLT, Int.reduceLE, Int.reduceMul, Nat.reducePow, Int.reducePow, Nat.reduceAdd, Nat.reduceEqDiff, Nat.reduceLT, Nat.reduceLeDiff, Nat.reduceMul, Nat.reduceSub, reduceCtorEq, ↓reduceIte]
    refine ⟨by decide, ?_⟩
    try refine hK _ ?_
    repeat (first | refine awp_seq ?_ | refine awp_block ?_ | refine awp_skip ?_ | refine awp_scope ?_ | refine awp_label ?_)
    refine awp_cond (b := ((q % 2 : Nat) : Int) == 1) (by simp -dsimp -implicitDefEqProofs only [push_cast, ↓trAdd_f, ↓stOf_f, Nat.reduceBEq, Int.reduceBEq, Int.reduceBNe, Int.reduceNeg, Int.reduceAdd, Int.reduceSub, Int.reduceLT, Int.reduceLE, Int.reduceMul, Nat.reducePow, Int.reducePow, Nat.reduceAdd, Nat.reduceEqDiff, Nat.reduceLT, Nat.reduceLeDiff, Nat.reduceMul, Nat.reduceSub, reduceCtorEq, ↓reduceIte]) (fun h => ?_) (fun h => ?_)
    · have e : arrZ s b q = dueZ s b q + s.jitter := by unfold arrZ; rw [if_pos (by simp at h; omega)]
      try refine hK _ ?_
      repeat (first | refine awp_seq ?_ | refine awp_block ?_ | refine awp_skip ?_ | refine awp_scope ?_ | refine awp_label ?_)
      refine awp_region tabOk fun K hK => ?_
      simp -dsimp -implicitDefEqProofs only [hw1, push_cast, ↓trAdd_f, ↓stOf_f, Nat.reduceBEq, Int.reduceBEq, Int.reduceBNe, Int.reduceNeg, Int.reduceAdd, Int.reduceSub, Int.reduceLT, Int.reduceLE, Int.reduceMul, Nat.reducePow, Int.reducePow, Nat.reduceAdd, Nat.reduceEqDiff, Nat.reduceLT, Nat.reduceLeDiff, Nat.reduceMul, Nat.reduceSub, reduceCtorEq, ↓reduceIte]
      refine hK _ ?_
      simp only [encStream]
      refine le_intro hB [] (by simp) (fun b _ => rfl) rfl ?_ ?_ rfl <;> simp -dsimp -implicitDefEqProofs only [e, push_cast, ↓trAdd_f, ↓stOf_f, Nat.reduceBEq, Int.reduceBEq, Int.reduceBNe, Int.reduceNeg, Int.reduceAdd, Int.reduceSub, Int.reduceLT, Int.reduceLE, Int.reduceMul, Nat.reducePow, Int.reducePow, Nat.reduceAdd, Nat.reduceEqDiff, Nat.reduceLT, Nat.reduceLeDiff, Nat.reduceMul, Nat.reduceSub, reduceCtorEq, ↓reduceIte]
    · have e : arrZ s b q = dueZ s b q := by unfold arrZ; rw [if_neg (by simp at h; omega)]; omega
      refine awp_skip ?_
      simp only [encStream]
      refine le_intro hB [] (by simp) (fun b _ => rfl) rfl ?_ ?_ rfl <;> simp -dsimp -implicitDefEqProofs only [e, push_cast, ↓trAdd_f, ↓stOf_f, Nat.reduceBEq, Int.reduceBEq, Int.reduceBNe, Int.reduceNeg, Int.reduceAdd, Int.reduceSub, Int.reduceLT, Int.reduceLE, Int.reduceMul, Nat.reducePow, Int.reducePow, Nat.reduceAdd, Nat.reduceEqDiff, Nat.reduceLT, Nat.reduceLeDiff, Nat.reduceMul, Nat.reduceSub, reduceCtorEq, ↓reduceIte]
  simp only [encStream]
  refine awp_seq ?_
  refine awp_join { sl := [(7, .int .i64 (fromZ s b q))], st := [], nx := 8, n := 38 } ?_ (fun _ hl h => awp_le hl h) ?_
  · try refine hK _ ?_
    repeat (first | refine awp_seq ?_ | refine awp_block ?_ | refine awp_skip ?_ | refine awp_scope ?_ | refine awp_label ?_)
    refine awp_region tabOk fun K hK => ?_
    simp -dsimp -implicitDefEqProofs only [push_cast, ↓trAdd_f, ↓stOf_f, Nat.reduceBEq, Int.reduceBEq, Int.reduceBNe, Int.reduceNeg, Int.reduceAdd, Int.reduceSub, Int.reduceLT, Int.reduceLE, Int.reduceMul, Nat.reducePow, Int.reducePow, Nat.reduceAdd, Nat.reduceEqDiff, Nat.reduceLT, Nat.reduceLeDiff, Nat.reduceMul, Nat.reduceSub, reduceCtorEq, ↓reduceIte]
    try refine hK _ ?_
    repeat (first | refine awp_seq ?_ | refine awp_block ?_ | refine awp_skip ?_ | refine awp_scope ?_ | refine awp_label ?_)
    refine awp_cond (b := decide (0 < (q : Int))) (by simp -dsimp -implicitDefEqProofs only [push_cast, ↓trAdd_f, ↓stOf_f, Nat.reduceBEq, Int.reduceBEq, Int.reduceBNe, Int.reduceNeg, Int.reduceAdd, Int.reduceSub, Int.reduceLT, Int.reduceLE, Int.reduceMul, Nat.reducePow, Int.reducePow, Nat.reduceAdd, Nat.reduceEqDiff, Nat.reduceLT, Nat.reduceLeDiff, Nat.reduceMul, Nat.reduceSub, reduceCtorEq, ↓reduceIte]) (fun h => ?_) (fun h => ?_)
    · obtain ⟨q, rfl⟩ : ∃ k, q = k + 1 := ⟨q - 1, by simp at h; omega⟩
      have hd2 : 0 ≤ dueZ s b q ∧ dueZ s b q ≤ 20000000000000 := by
        have := due_succ s b q
        have h3 := mul_bd (q := q) hs (by omega)
        unfold dueZ at *; omega
      have hw3 : IntKind.i64.wrap (((q + 1 : Nat) : Int) - 1) = q := by rw [wrap_i64 (by omega) (by omega)]; omega
      have hw4 : IntKind.i64.wrap (dueZ s b q + s.jitter) = dueZ s b q + s.jitter := wrap_i64 (by omega) (by omega)
      have hm2 := tmod2 (q + 1)
      have hwm2 : IntKind.i64.wrap (((q + 1) % 2 : Nat) : Int) = (((q + 1) % 2 : Nat) : Int) := wrap_i64 (by omega) (by omega)
      rw [show (((q + 1 : Nat)) : Int) = (q : Int) + 1 by push_cast; rfl] at hm2 hw3
      try refine hK _ ?_
      repeat (first | refine awp_seq ?_ | refine awp_block ?_ | refine awp_skip ?_ | refine awp_scope ?_ | refine awp_label ?_)
      refine awp_region tabOk fun K hK => ?_
      simp -dsimp -implicitDefEqProofs only [hw3, push_cast, ↓trAdd_f, ↓stOf_f, Nat.reduceBEq, Int.reduceBEq, Int.reduceBNe, Int.reduceNeg, Int.reduceAdd, Int.reduceSub, Int.reduceLT, Int.reduceLE, Int.reduceMul, Nat.reducePow, Int.reducePow, Nat.reduceAdd, Nat.reduceEqDiff, Nat.reduceLT, Nat.reduceLeDiff, Nat.reduceMul, Nat.reduceSub, reduceCtorEq, ↓reduceIte]
      refine callK_simple (due_ok s b q hs hb (by omega)) ?_ rfl fun _ => ?_
      · simp -dsimp -implicitDefEqProofs only [encStream, push_cast, List.mem_append, List.mem_cons, List.mem_singleton, forall_eq_or_imp, forall_eq, ↓trAdd_f, ↓stOf_f, Nat.reduceBEq, Int.reduceBEq, Int.reduceBNe, Int.reduceNeg, Int.reduceAdd, Int.reduceSub, Int.reduceLT, Int.reduceLE, Int.reduceMul, Nat.reducePow, Int.reducePow, Nat.reduceAdd, Nat.reduceEqDiff, Nat.reduceLT, Nat.reduceLeDiff, Nat.reduceMul, Nat.reduceSub, reduceCtorEq, ↓reduceIte]
      simp -dsimp -implicitDefEqProofs only [push_cast, ↓trAdd_f, ↓stOf_f, Nat.reduceBEq, Int.reduceBEq, Int.reduceBNe, Int.reduceNeg, Int.reduceAdd, Int.reduceSub, Int.reduceLT, Int.reduceLE, Int.reduceMul, Nat.reducePow, Int.reducePow, Nat.reduceAdd, Nat.reduceEqDiff, Nat.reduceLT, Nat.reduceLeDiff, Nat.reduceMul, Nat.reduceSub, reduceCtorEq, ↓reduceIte]
      refine hK _ (awp_seq ?_)
      refine awp_join { sl := [(7, .int .i64 (arrZ s b (q + 1))), (8, .int .i64 (arrZ s b q))], st := [], nx := 8, n := 38 } ?_ (fun _ hl h => awp_le hl h) ?_
      · try refine hK _ ?_
        repeat (first | refine awp_seq ?_ | refine awp_block ?_ | refine awp_skip ?_ | refine awp_scope ?_ | refine awp_label ?_)
        refine awp_region tabOk fun K hK => ?_
        simp -dsimp -implicitDefEqProofs only [hm2, hwm2, push_cast, ↓trAdd_f, ↓stOf_f, Nat.reduceBEq, Int.reduceBEq, Int.reduceBNe, Int.reduceNeg, Int.reduceAdd, Int.reduceSub, Int.reduceLT, Int.reduceLE, Int.reduceMul, Nat.reducePow, Int.reducePow, Nat.reduceAdd, Nat.reduceEqDiff, Nat.reduceLT, Nat.reduceLeDiff, Nat.reduceMul, Nat.reduceSub, reduceCtorEq, ↓reduceIte]
        refine ⟨by decide, ?_⟩
        try refine hK _ ?_
        repeat (first | refine awp_seq ?_ | refine awp_block ?_ | refine awp_skip ?_ | refine awp_scope ?_ | refine awp_label ?_)
        refine awp_cond (b := ((q : Int) + 1) % 2 == 0) (by simp -dsimp -implicitDefEqProofs only [push_cast, ↓trAdd_f, ↓stOf_f, Nat.reduceBEq, Int.reduceBEq, Int.reduceBNe, Int.reduceNeg, Int.reduceAdd, Int.reduceSub, Int.reduceLT, Int.reduceLE, Int.reduceMul, Nat.reducePow, Int.reducePow, Nat.reduceAdd, Nat.reduceEqDiff, Nat.reduceLT, Nat.reduceLeDiff, Nat.reduceMul, Nat.reduceSub, reduceCtorEq, ↓reduceIte]) (fun h => ?_) (fun h => ?_)
        · have e : arrZ s b q = dueZ s b q + s.jitter := by unfold arrZ; rw [if_pos (by simp at h; omega)]
          try refine hK _ ?_
          repeat (first | refine awp_seq ?_ | refine awp_block ?_ | refine awp_skip ?_ | refine awp_scope ?_ | refine awp_label ?_)
          refine awp_region tabOk fun K hK => ?_
          simp -dsimp -implicitDefEqProofs only [hw4, push_cast, ↓trAdd_f, ↓stOf_f, Nat.reduceBEq, Int.reduceBEq, Int.reduceBNe, Int.reduceNeg, Int.reduceAdd, Int.reduceSub, Int.reduceLT, Int.reduceLE, Int.reduceMul, Nat.reducePow, Int.reducePow, Nat.reduceAdd, Nat.reduceEqDiff, Nat.reduceLT, Nat.reduceLeDiff, Nat.reduceMul, Nat.reduceSub, reduceCtorEq, ↓reduceIte]
          refine hK _ ?_
          refine le_intro hB [] (by simp) (fun b _ => rfl) rfl ?_ ?_ rfl <;> simp -dsimp -implicitDefEqProofs only [e, push_cast, ↓trAdd_f, ↓stOf_f, Nat.reduceBEq, Int.reduceBEq, Int.reduceBNe, Int.reduceNeg, Int.reduceAdd, Int.reduceSub, Int.reduceLT, Int.reduceLE, Int.reduceMul, Nat.reducePow, Int.reducePow, Nat.reduceAdd, Nat.reduceEqDiff, Nat.reduceLT, Nat.reduceLeDiff, Nat.reduceMul, Nat.reduceSub, reduceCtorEq, ↓reduceIte]
        · have e : arrZ s b q = dueZ s b q := by unfold arrZ; rw [if_neg (by simp at h; omega)]; omega
          refine awp_skip ?_
          refine le_intro hB [] (by simp) (fun b _ => rfl) rfl ?_ ?_ rfl <;> simp -dsimp -implicitDefEqProofs only [e, push_cast, ↓trAdd_f, ↓stOf_f, Nat.reduceBEq, Int.reduceBEq, Int.reduceBNe, Int.reduceNeg, Int.reduceAdd, Int.reduceSub, Int.reduceLT, Int.reduceLE, Int.reduceMul, Nat.reducePow, Int.reducePow, Nat.reduceAdd, Nat.reduceEqDiff, Nat.reduceLT, Nat.reduceLeDiff, Nat.reduceMul, Nat.reduceSub, reduceCtorEq, ↓reduceIte]
      try refine hK _ ?_
      repeat (first | refine awp_seq ?_ | refine awp_block ?_ | refine awp_skip ?_ | refine awp_scope ?_ | refine awp_label ?_)
      refine awp_region tabOk fun K hK => ?_
      simp -dsimp -implicitDefEqProofs only [push_cast, ↓trAdd_f, ↓stOf_f, Nat.reduceBEq, Int.reduceBEq, Int.reduceBNe, Int.reduceNeg, Int.reduceAdd, Int.reduceSub, Int.reduceLT, Int.reduceLE, Int.reduceMul, Nat.reducePow, Int.reducePow, Nat.reduceAdd, Nat.reduceEqDiff, Nat.reduceLT, Nat.reduceLeDiff, Nat.reduceMul, Nat.reduceSub, reduceCtorEq, ↓reduceIte]
      refine hK _ ?_
      have e : fromZ s b (q + 1) = max (arrZ s b (q + 1)) (arrZ s b q) := rfl
      refine le_intro hB [] (by simp) (fun b _ => rfl) rfl ?_ ?_ rfl <;> simp -dsimp -implicitDefEqProofs only [e, push_cast, ↓trAdd_f, ↓stOf_f, Nat.reduceBEq, Int.reduceBEq, Int.reduceBNe, Int.reduceNeg, Int.reduceAdd, Int.reduceSub, Int.reduceLT, Int.reduceLE, Int.reduceMul, Nat.reducePow, Int.reducePow, Nat.reduceAdd, Nat.reduceEqDiff, Nat.reduceLT, Nat.reduceLeDiff, Nat.reduceMul, Nat.reduceSub, reduceCtorEq, ↓reduceIte]
    · have h0 : q = 0 := by simp at h; omega
      subst h0
      refine awp_skip ?_
      have e : fromZ s b 0 = arrZ s b 0 := rfl
      refine le_intro hB [] (by simp) (fun b _ => rfl) rfl ?_ ?_ rfl <;> simp -dsimp -implicitDefEqProofs only [e, push_cast, ↓trAdd_f, ↓stOf_f, Nat.reduceBEq, Int.reduceBEq, Int.reduceBNe, Int.reduceNeg, Int.reduceAdd, Int.reduceSub, Int.reduceLT, Int.reduceLE, Int.reduceMul, Nat.reducePow, Int.reducePow, Nat.reduceAdd, Nat.reduceEqDiff, Nat.reduceLT, Nat.reduceLeDiff, Nat.reduceMul, Nat.reduceSub, reduceCtorEq, ↓reduceIte]
  try refine hK _ ?_
  repeat (first | refine awp_seq ?_ | refine awp_block ?_ | refine awp_skip ?_ | refine awp_scope ?_ | refine awp_label ?_)
  refine awp_region tabOk fun K hK => ?_
  simp -dsimp -implicitDefEqProofs only [push_cast, ↓trAdd_f, ↓stOf_f, Nat.reduceBEq, Int.reduceBEq, Int.reduceBNe, Int.reduceNeg, Int.reduceAdd, Int.reduceSub, Int.reduceLT, Int.reduceLE, Int.reduceMul, Nat.reducePow, Int.reducePow, Nat.reduceAdd, Nat.reduceEqDiff, Nat.reduceLT, Nat.reduceLeDiff, Nat.reduceMul, Nat.reduceSub, reduceCtorEq, ↓reduceIte]
  refine hK _ (awp_ret ?_)
  simp -dsimp -implicitDefEqProofs only [push_cast, List.mem_append, List.mem_cons, List.mem_singleton, forall_eq_or_imp, forall_eq, ↓trAdd_f, ↓stOf_f, Nat.reduceBEq, Int.reduceBEq, Int.reduceBNe, Int.reduceNeg, Int.reduceAdd, Int.reduceSub, Int.reduceLT, Int.reduceLE, Int.reduceMul, Nat.reducePow, Int.reducePow, Nat.reduceAdd, Nat.reduceEqDiff, Nat.reduceLT, Nat.reduceLeDiff, Nat.reduceMul, Nat.reduceSub, reduceCtorEq, ↓reduceIte]

/-- A queue's cells. -/
def encQ (x : QS) : List PV := [.int .i64 x.s.bits, .int .i64 x.s.period, .int .i64 x.s.jitter, .int .i64 x.q, .int .i64 x.due, .int .i64 x.wts, .int .i64 x.late]
theorem wait_ok (c p j d w la : Int) (q : Nat) (hq : q ≤ 10000001) (hd : 0 ≤ d ∧ d ≤ 20000000000000) (hj : 0 ≤ j ∧ j ≤ 1000000) :
    FnS Try.prog 35 [.ptr 0 0] [(0, .box [.int .i64 c, .int .i64 p, .int .i64 j, .int .i64 q, .int .i64 d, .int .i64 w, .int .i64 la])] (.tup [])
      [(0, .box [.int .i64 c, .int .i64 p, .int .i64 j, .int .i64 q, .int .i64 d, .int .i64 (max w (d + if q % 2 = 1 then j else 0)), .int .i64 la])] := by
  have hw1 : IntKind.i64.wrap (d + j) = d + j := wrap_i64 (by omega) (by omega)
  have hm := tmod2 q
  have hwm : IntKind.i64.wrap ((q % 2 : Nat) : Int) = ((q % 2 : Nat) : Int) := wrap_i64 (by omega) (by omega)
  refine fn_walk tabOk Try.func35 rfl (by decide +kernel) Try.ntmps35 Try.results35 (by simp) fun B hB => ?_
  try refine hK _ ?_
  repeat (first | refine awp_seq ?_ | refine awp_block ?_ | refine awp_skip ?_ | refine awp_scope ?_ | refine awp_label ?_)
  refine awp_region tabOk fun K hK => ?_
  simp -dsimp -implicitDefEqProofs only [push_cast, ↓trAdd_f, ↓stOf_f, Nat.reduceBEq, Int.reduceBEq, Int.reduceBNe, Int.reduceNeg, Int.reduceAdd, Int.reduceSub, Int.reduceLT, Int.reduceLE, Int.reduceMul, Nat.reducePow, Int.reducePow, Nat.reduceAdd, Nat.reduceEqDiff, Nat.reduceLT, Nat.reduceLeDiff, Nat.reduceMul, Nat.reduceSub, reduceCtorEq, ↓reduceIte]
  refine hK _ (awp_seq ?_)
  refine awp_join { sl := [(0, .ptr 0 0), (2, .int .i64 (d + if q % 2 = 1 then j else 0))], st := [(0, .box [.int .i64 c, .int .i64 p, .int .i64 j, .int .i64 q, .int .i64 d, .int .i64 w, .int .i64 la])], nx := 8, n := 29 } ?_ (fun _ hl h => awp_le hl h) ?_
  · try refine hK _ ?_
    repeat (first | refine awp_seq ?_ | refine awp_block ?_ | refine awp_skip ?_ | refine awp_scope ?_ | refine awp_label ?_)
    refine awp_region tabOk fun K hK => ?_
    simp -dsimp -implicitDefEqProofs only [hm, hwm, push_cast, ↓trAdd_f, ↓stOf_f, Nat.reduceBEq, Int.reduceBEq, Int.reduceBNe, Int.reduceNeg, Int.reduceAdd, Int.reduceSub, Int.reduceLT, Int.reduceLE, Int.reduceMul, Nat.reducePow, Int.reducePow, Nat.reduceAdd, Nat.reduceEqDiff, Nat.reduceLT, Nat.reduceLeDiff, Nat.reduceMul, Nat.reduceSub, reduceCtorEq, ↓reduceIte]
    refine ⟨by decide, ?_⟩
    try refine hK _ ?_
    repeat (first | refine awp_seq ?_ | refine awp_block ?_ | refine awp_skip ?_ | refine awp_scope ?_ | refine awp_label ?_)
    refine awp_cond (b := (q : Int) % 2 == 1) (by simp -dsimp -implicitDefEqProofs only [push_cast, ↓trAdd_f, ↓stOf_f, Nat.reduceBEq, Int.reduceBEq, Int.reduceBNe, Int.reduceNeg, Int.reduceAdd, Int.reduceSub, Int.reduceLT, Int.reduceLE, Int.reduceMul, Nat.reducePow, Int.reducePow, Nat.reduceAdd, Nat.reduceEqDiff, Nat.reduceLT, Nat.reduceLeDiff, Nat.reduceMul, Nat.reduceSub, reduceCtorEq, ↓reduceIte]) (fun h => ?_) (fun h => ?_)
    · have e : (if q % 2 = 1 then j else 0) = j := by rw [if_pos (by simp at h; omega)]
      try refine hK _ ?_
      repeat (first | refine awp_seq ?_ | refine awp_block ?_ | refine awp_skip ?_ | refine awp_scope ?_ | refine awp_label ?_)
      refine awp_region tabOk fun K hK => ?_
      simp -dsimp -implicitDefEqProofs only [hw1, push_cast, ↓trAdd_f, ↓stOf_f, Nat.reduceBEq, Int.reduceBEq, Int.reduceBNe, Int.reduceNeg, Int.reduceAdd, Int.reduceSub, Int.reduceLT, Int.reduceLE, Int.reduceMul, Nat.reducePow, Int.reducePow, Nat.reduceAdd, Nat.reduceEqDiff, Nat.reduceLT, Nat.reduceLeDiff, Nat.reduceMul, Nat.reduceSub, reduceCtorEq, ↓reduceIte]
      refine hK _ ?_
      refine le_intro hB [] (by simp) (fun b _ => rfl) rfl ?_ ?_ rfl <;> simp -dsimp -implicitDefEqProofs only [e, push_cast, ↓trAdd_f, ↓stOf_f, Nat.reduceBEq, Int.reduceBEq, Int.reduceBNe, Int.reduceNeg, Int.reduceAdd, Int.reduceSub, Int.reduceLT, Int.reduceLE, Int.reduceMul, Nat.reducePow, Int.reducePow, Nat.reduceAdd, Nat.reduceEqDiff, Nat.reduceLT, Nat.reduceLeDiff, Nat.reduceMul, Nat.reduceSub, reduceCtorEq, ↓reduceIte]
    · have e : (if q % 2 = 1 then j else 0) = 0 := by rw [if_neg (by simp at h; omega)]
      refine awp_skip ?_
      refine le_intro hB [] (by simp) (fun b _ => rfl) rfl ?_ ?_ rfl <;> simp -dsimp -implicitDefEqProofs only [e, Int.add_zero, push_cast, ↓trAdd_f, ↓stOf_f, Nat.reduceBEq, Int.reduceBEq, Int.reduceBNe, Int.reduceNeg, Int.reduceAdd, Int.reduceSub, Int.reduceLT, Int.reduceLE, Int.reduceMul, Nat.reducePow, Int.reducePow, Nat.reduceAdd, Nat.reduceEqDiff, Nat.reduceLT, Nat.reduceLeDiff, Nat.reduceMul, Nat.reduceSub, reduceCtorEq, ↓reduceIte]
  try refine hK _ ?_
  repeat (first | refine awp_seq ?_ | refine awp_block ?_ | refine awp_skip ?_ | refine awp_scope ?_ | refine awp_label ?_)
  refine awp_region tabOk fun K hK => ?_
  simp -dsimp -implicitDefEqProofs only [push_cast, ↓trAdd_f, ↓stOf_f, Nat.reduceBEq, Int.reduceBEq, Int.reduceBNe, Int.reduceNeg, Int.reduceAdd, Int.reduceSub, Int.reduceLT, Int.reduceLE, Int.reduceMul, Nat.reducePow, Int.reducePow, Nat.reduceAdd, Nat.reduceEqDiff, Nat.reduceLT, Nat.reduceLeDiff, Nat.reduceMul, Nat.reduceSub, reduceCtorEq, ↓reduceIte]
  refine hK _ ?_
  simp -dsimp -implicitDefEqProofs only [push_cast, List.mem_append, List.mem_cons, List.mem_singleton, forall_eq_or_imp, forall_eq, ↓trAdd_f, ↓stOf_f, Nat.reduceBEq, Int.reduceBEq, Int.reduceBNe, Int.reduceNeg, Int.reduceAdd, Int.reduceSub, Int.reduceLT, Int.reduceLE, Int.reduceMul, Nat.reducePow, Int.reducePow, Nat.reduceAdd, Nat.reduceEqDiff, Nat.reduceLT, Nat.reduceLeDiff, Nat.reduceMul, Nat.reduceSub, reduceCtorEq, ↓reduceIte]
/-- A queue that may be so. -/
structure QS.okq (x : QS) : Prop where
  s : x.s.ok
  b : 0 ≤ x.b ∧ x.b ≤ 1000000
  q : x.q ≤ 10000000
  late : 0 ≤ x.late ∧ x.late ≤ 100000000000000
theorem QS.okq.due {x : QS} (h : x.okq) : 0 ≤ x.due ∧ x.due ≤ 11000000000000 := by
  have h1 := mul_bd h.s h.q
  have h2 := h.b
  unfold QS.due dueZ; omega
theorem next_ok (x : QS) (hx : x.okq) : FnS Try.prog 34 [.ptr 0 0] [(0, .box (encQ x))] (.tup []) [(0, .box (encQ { x with q := x.q + 1 }))] := by
  have hd := hx.due
  have hp := hx.s.2.2.2.1
  have hp0 := hx.s.2.2.1
  have hj := hx.s.2.2.2.2
  have hq := hx.q
  have hw1 : IntKind.i64.wrap (x.due + x.s.period) = x.due + x.s.period := wrap_i64 (by omega) (by omega)
  have hw2 : IntKind.i64.wrap ((x.q : Int) + 1) = (x.q : Int) + 1 := wrap_i64 (by omega) (by omega)
  have hds : ({ x with q := x.q + 1 } : QS).due = x.due + x.s.period := due_succ _ _ _
  have hws : ({ x with q := x.q + 1 } : QS).wts = max x.wts (x.due + x.s.period + if (x.q + 1) % 2 = 1 then x.s.jitter else 0) := by
    have := from_next x.s x.b hj.1 (by omega) x.q
    unfold QS.wts
    rw [← this]
    congr 1
    unfold arrZ
    rw [due_succ]; rfl
  have hca := wait_ok x.s.bits x.s.period x.s.jitter (x.due + x.s.period) x.wts x.late (x.q + 1) (by omega) (by omega) hj
  refine fn_walk tabOk Try.func34 rfl (by decide +kernel) Try.ntmps34 Try.results34 (by simp) fun B hB => ?_
  simp only [encQ]
  try refine hK _ ?_
  repeat (first | refine awp_seq ?_ | refine awp_block ?_ | refine awp_skip ?_ | refine awp_scope ?_ | refine awp_label ?_)
  refine awp_region tabOk fun K hK => ?_
  simp -dsimp -implicitDefEqProofs only [hw2, push_cast, ↓trAdd_f, ↓stOf_f, Nat.reduceBEq, Int.reduceBEq, Int.reduceBNe, Int.reduceNeg, Int.reduceAdd, Int.reduceSub, Int.reduceLT, Int.reduceLE, Int.reduceMul, Nat.reducePow, Int.reducePow, Nat.reduceAdd, Nat.reduceEqDiff, Nat.reduceLT, Nat.reduceLeDiff, Nat.reduceMul, Nat.reduceSub, reduceCtorEq, ↓reduceIte]
  try refine hK _ ?_
  repeat (first | refine awp_seq ?_ | refine awp_block ?_ | refine awp_skip ?_ | refine awp_scope ?_ | refine awp_label ?_)
  refine awp_draw tabOk (by kernel_rfl) (by kernel_rfl) fun K hK C hC => ?_
  simp -dsimp -implicitDefEqProofs only [hw1, push_cast, ↓trAdd_f, ↓stOf_f, Nat.reduceBEq, Int.reduceBEq, Int.reduceBNe, Int.reduceNeg, Int.reduceAdd, Int.reduceSub, Int.reduceLT, Int.reduceLE, Int.reduceMul, Nat.reducePow, Int.reducePow, Nat.reduceAdd, Nat.reduceEqDiff, Nat.reduceLT, Nat.reduceLeDiff, Nat.reduceMul, Nat.reduceSub, reduceCtorEq, ↓reduceIte]
  refine ⟨hC _ (by kernel_rfl), ?_⟩
  clear hC C
  try refine hK _ ?_
  repeat (first | refine awp_seq ?_ | refine awp_block ?_ | refine awp_skip ?_ | refine awp_scope ?_ | refine awp_label ?_)
  refine awp_region tabOk fun K hK => ?_
  simp -dsimp -implicitDefEqProofs only [push_cast, ↓trAdd_f, ↓stOf_f, Nat.reduceBEq, Int.reduceBEq, Int.reduceBNe, Int.reduceNeg, Int.reduceAdd, Int.reduceSub, Int.reduceLT, Int.reduceLE, Int.reduceMul, Nat.reducePow, Int.reducePow, Nat.reduceAdd, Nat.reduceEqDiff, Nat.reduceLT, Nat.reduceLeDiff, Nat.reduceMul, Nat.reduceSub, reduceCtorEq, ↓reduceIte]
  refine ⟨35, [], [], { args := [.ptr 0 0], st0 := [(0, .box [.int .i64 x.s.bits, .int .i64 x.s.period, .int .i64 x.s.jitter, .int .i64 ((x.q + 1 : Nat) : Int), .int .i64 (x.due + x.s.period), .int .i64 x.wts, .int .i64 x.late])], res := .tup [], st1 := [(0, .box [.int .i64 x.s.bits, .int .i64 x.s.period, .int .i64 x.s.jitter, .int .i64 ((x.q + 1 : Nat) : Int), .int .i64 (x.due + x.s.period), .int .i64 (max x.wts (x.due + x.s.period + if (x.q + 1) % 2 = 1 then x.s.jitter else 0)), .int .i64 x.late])], r := [0] }, rfl, hca, ?_, ?_⟩
  · simp -dsimp -implicitDefEqProofs only [push_cast, List.mem_append, List.mem_cons, List.mem_singleton, forall_eq_or_imp, forall_eq, ↓trAdd_f, ↓stOf_f, Nat.reduceBEq, Int.reduceBEq, Int.reduceBNe, Int.reduceNeg, Int.reduceAdd, Int.reduceSub, Int.reduceLT, Int.reduceLE, Int.reduceMul, Nat.reducePow, Int.reducePow, Nat.reduceAdd, Nat.reduceEqDiff, Nat.reduceLT, Nat.reduceLeDiff, Nat.reduceMul, Nat.reduceSub, reduceCtorEq, ↓reduceIte]
    all_goals exact rfl
  simp -dsimp -implicitDefEqProofs only [push_cast, ↓trAdd_f, ↓stOf_f, Nat.reduceBEq, Int.reduceBEq, Int.reduceBNe, Int.reduceNeg, Int.reduceAdd, Int.reduceSub, Int.reduceLT, Int.reduceLE, Int.reduceMul, Nat.reducePow, Int.reducePow, Nat.reduceAdd, Nat.reduceEqDiff, Nat.reduceLT, Nat.reduceLeDiff, Nat.reduceMul, Nat.reduceSub, reduceCtorEq, ↓reduceIte]
  refine hK _ ?_
  simp -dsimp -implicitDefEqProofs only [hds, hws, push_cast, List.mem_append, List.mem_cons, List.mem_singleton, forall_eq_or_imp, forall_eq, ↓trAdd_f, ↓stOf_f, Nat.reduceBEq, Int.reduceBEq, Int.reduceBNe, Int.reduceNeg, Int.reduceAdd, Int.reduceSub, Int.reduceLT, Int.reduceLE, Int.reduceMul, Nat.reducePow, Int.reducePow, Nat.reduceAdd, Nat.reduceEqDiff, Nat.reduceLT, Nat.reduceLeDiff, Nat.reduceMul, Nat.reduceSub, reduceCtorEq, ↓reduceIte]
  all_goals exact rfl
end Go.Proofs.YtahkpghgjjlgdaaFw

/-
  Plain: what holds while frames are played.
-/
namespace Go.Proofs.YtahkpghgjjlgdaaFw
open Go Go.Proofs
set_option linter.unusedVariables false
set_option linter.unusedSimpArgs false

structure PInv (l : List Stream) (bs : List Int) (until_ : Int) (n : Nat) (now : Int) (X : List QS) : Prop where
  ss : X.map (·.s) = l
  bb : X.map (·.b) = bs
  q : ∀ x ∈ X, x.q ≤ 1000001
  late : ∀ x ∈ X, 0 ≤ x.late ∧ x.late ≤ now
  now0 : 0 ≤ now
  nf : n ≤ fuel0
  now1 : now ≤ 3000000 + 1000 * ((fuel0 - n : Nat) : Int)
  mu : mu now until_ X < n
  same : playN until_ n now X = playN until_ fuel0 0 (play0 l bs)
structure PlayOk (l : List Stream) (bs : List Int) (until_ : Int) : Prop where
  hs : ∀ s ∈ l, s.ok
  hn : l.length ≤ 16
  hb : ∀ b ∈ bs, 0 ≤ b ∧ b ≤ 1000000
  len : bs.length = l.length
  u0 : 0 ≤ until_
  u1 : until_ ≤ 1000000
section
variable {l : List Stream} {bs : List Int} {until_ : Int} {n : Nat} {now : Int} {X : List QS}
theorem PInv.len (h : PInv l bs until_ n now X) : X.length = l.length := by rw [← h.ss]; simp
theorem PInv.big (h : PInv l bs until_ n now X) : now ≤ 41000000000 := by
  have h1 := h.now1
  have h2 : fuel0 = 40000000 := rfl
  omega
theorem PInv.okq (h : PInv l bs until_ n now X) (p : PlayOk l bs until_) {x : QS} (hx : x ∈ X) : x.okq := by
  refine ⟨p.hs _ ?_, p.hb _ ?_, by have := h.q x hx; omega, by have := h.late x hx; have := h.big; omega⟩
  · rw [← h.ss]; exact List.mem_map_of_mem hx
  · rw [← h.bb]; exact List.mem_map_of_mem hx
theorem play0_s : ∀ (l : List Stream) (bs : List Int), bs.length = l.length → (play0 l bs).map (·.s) = l ∧ (play0 l bs).map (·.b) = bs ∧ ∀ x ∈ play0 l bs, x.q = 0 ∧ x.late = 0
  | [], [], _ => by simp [play0]
  | s :: l, b :: bs, h => by
    obtain ⟨h1, h2, h3⟩ := play0_s l bs (by simpa using h)
    unfold play0 at *
    rw [List.zip_cons_cons, List.map_cons, List.map_cons, List.map_cons, h1, h2]
    refine ⟨rfl, rfl, fun x hx => ?_⟩
    rcases List.mem_cons.1 hx with rfl | hx
    · exact ⟨rfl, rfl⟩
    · exact h3 x hx
theorem pinv_first (p : PlayOk l bs until_) : PInv l bs until_ fuel0 0 (play0 l bs) := by
  obtain ⟨h1, h2, h3⟩ := play0_s l bs p.len
  refine ⟨h1, h2, fun x hx => by rw [(h3 x hx).1]; omega, fun x hx => by rw [(h3 x hx).2]; omega, Int.le_refl _, Nat.le_refl _, by simp, ?_, rfl⟩
  have hlen : (play0 l bs).length = l.length := by have := congrArg List.length h1; simpa using this
  have ht := todo_le until_ p.u1 (play0 l bs) fun x hx => by
    have hb : 0 ≤ x.b := (p.hb _ (by rw [← h2]; exact List.mem_map_of_mem hx)).1
    unfold QS.due dueZ
    rw [(h3 x hx).1]; simpa using hb
  have hn := p.hn
  rw [hlen] at ht
  unfold mu
  have h2 : fuel0 = 40000000 := rfl
  have : 1000000 * l.length ≤ 1000000 * 16 := Nat.mul_le_mul_left _ hn
  split <;> omega
theorem pinv_on (h : PInv l bs until_ n now X) (p : PlayOk l bs until_) {x : QS} (hx : x ∈ X) (ho : x.on until_) : x.q ≤ 1000000 ∧ x.wts ≤ 2000000 ∧ 0 ≤ x.wts := by
  have hk := h.okq p hx
  have h1 := hk.b
  have h2 := hk.s.2.2.1
  have h3 := p.u1
  unfold QS.on QS.due dueZ at ho
  have h4 : (x.q : Int) * 1 ≤ x.q * x.s.period := Int.mul_le_mul_of_nonneg_left h2 (by omega)
  have h5 := from_bd x.s x.b hk.s.2.2.2.2.1 (by omega) x.q
  have h6 := hk.s.2.2.2.2.2
  unfold dueZ at h5
  unfold QS.wts
  have h7 : 0 ≤ (x.q : Int) * x.s.period := Int.mul_nonneg (by omega) (by omega)
  omega
theorem pinv_jump (h : PInv l bs until_ (n + 1) now X) (p : PlayOk l bs until_) (hl : (scan now until_ X).1 = true) (hn : (scan now until_ X).2.1 = none) : PInv l bs until_ n (scan now until_ X).2.2 X ∧ 1 ≤ n ∧ now < (scan now until_ X).2.2 := by
  obtain ⟨⟨i, q1, q2, q3⟩, _⟩ := (scan_spec now until_ X).soon hl
  have hm : X.getD i zeroQ ∈ X := by rw [show X.getD i zeroQ = X[i] by simp [List.getD, q1]]; exact List.getElem_mem q1
  have h1 := (scan_spec now until_ X).none hn i q1 q2
  have h2 := pinv_on h p hm q2
  have h3 := mu_jump hl hn
  have h4 := h.mu
  have hf := h.nf
  refine ⟨⟨h.ss, h.bb, h.q, fun x hx => by have := h.late x hx; omega, by omega, by omega, by omega, by omega, ?_⟩, by omega, by omega⟩
  rw [← h.same, playN_jump hl hn]
theorem sendAt_map {β : Type} (f : QS → β) (j : Nat) (e : Int) (X : List QS) (hf : ∀ x : QS, f (x.sent e) = f x) (hj : j < X.length) : (sendAt j e X).map f = X.map f := by
  unfold sendAt
  rw [List.map_set, hf, show X.getD j zeroQ = X[j] by simp [List.getD, hj]]
  apply List.ext_getElem
  · simp
  · intro i h1 h2
    rw [List.getElem_set]
    split
    · rename_i e; subst e; simp
    · rfl
theorem sendAt_mem {j : Nat} {e : Int} {X : List QS} {x : QS} (h : x ∈ sendAt j e X) : x ∈ X ∨ x = (X.getD j zeroQ).sent e := List.mem_or_eq_of_mem_set h
theorem pinv_send (h : PInv l bs until_ (n + 1) now X) (p : PlayOk l bs until_) {j : Nat} (hj : (scan now until_ X).2.1 = some j) :
    PInv l bs until_ n (now + (X.getD j zeroQ).s.bits) (sendAt j (now + (X.getD j zeroQ).s.bits) X) ∧ 1 ≤ n ∧ j < X.length := by
  obtain ⟨q1, q2, q3, _⟩ := (scan_spec now until_ X).one j hj
  have hm : X.getD j zeroQ ∈ X := by rw [show X.getD j zeroQ = X[j] by simp [List.getD, q1]]; exact List.getElem_mem q1
  have hok := h.okq p hm
  have h2 := pinv_on h p hm q2
  have hS : ∀ x ∈ X, x.s.ok := fun x hx => (h.okq p hx).s
  have h3 := mu_send hS hj (now + (X.getD j zeroQ).s.bits) (now + (X.getD j zeroQ).s.bits)
  have h4 := h.mu
  have hf := h.nf
  have h5 := hok.s.1
  have h6 := hok.s.2.1
  have h7 := h.now0
  have h8 := h.now1
  have h9 := hok.due
  refine ⟨⟨?_, ?_, fun x hx => ?_, fun x hx => ?_, by omega, by omega, by omega, by omega, ?_⟩, by omega, q1⟩
  · rw [sendAt_map _ _ _ _ (fun _ => rfl) q1]; exact h.ss
  · rw [sendAt_map _ _ _ _ (fun _ => rfl) q1]; exact h.bb
  · rcases sendAt_mem hx with hx | rfl
    · exact h.q x hx
    · show (X.getD j zeroQ).q + 1 ≤ 1000001; omega
  · rcases sendAt_mem hx with hx | rfl
    · have := h.late x hx; omega
    · have := h.late _ hm
      show 0 ≤ max (X.getD j zeroQ).late (now + (X.getD j zeroQ).s.bits - (X.getD j zeroQ).due) ∧ max (X.getD j zeroQ).late (now + (X.getD j zeroQ).s.bits - (X.getD j zeroQ).due) ≤ now + (X.getD j zeroQ).s.bits
      omega
  · rw [← h.same, playN_send (scan_left hj) hj]
end
theorem playZ_ok {l : List Stream} {bs : List Int} {until_ : Int} (hr : rightS l = true) (p : PlayOk l bs until_) : playZ l bs until_ = (playN until_ fuel0 0 (play0 l bs)).map (·.late) := by
  unfold playZ
  rw [if_pos ⟨hr, p.len, p.u0, p.u1, p.hb⟩]
end Go.Proofs.YtahkpghgjjlgdaaFw

/-
  Plain: how many are played; a queue at its beginning.
-/
namespace Go.Proofs.YtahkpghgjjlgdaaFw
open Go Go.Proofs
set_option linter.unusedVariables false
set_option linter.unusedSimpArgs false

theorem playN_len (until_ : Int) : ∀ (n : Nat) (now : Int) (X : List QS), (playN until_ n now X).length = X.length
  | 0, _, _ => rfl
  | n + 1, now, X => by
    unfold playN
    split
    · rfl
    · split
      · exact playN_len until_ n _ X
      · rw [playN_len until_ n]; unfold sendAt; simp
theorem due0 (s : Stream) (b : Int) : QS.due { s := s, b := b, q := 0, late := 0 } = b := by
  show dueZ s b 0 = b; unfold dueZ; simp
theorem wts0 (s : Stream) (b : Int) : QS.wts { s := s, b := b, q := 0, late := 0 } = b := by
  show arrZ s b 0 = b; unfold arrZ dueZ; simp
theorem play0_cons (s : Stream) (l : List Stream) (b : Int) (bs : List Int) : play0 (s :: l) (b :: bs) = { s := s, b := b, q := 0, late := 0 } :: play0 l bs := rfl
end Go.Proofs.YtahkpghgjjlgdaaFw

/-
  Plain: what a bound that is told tells.
-/
namespace Go.Proofs.YtahkpghgjjlgdaaFw
open Go Go.Proofs
set_option linter.unusedVariables false
set_option linter.unusedSimpArgs false

def strmAt (l : List Stream) (i : Nat) : Stream := l.getD i zeroSt
def below (l : List Stream) (i : Nat) : Int := longest (l.drop (i + 1))
def busyT (l : List Stream) (i : Nat) : Int := (leastF (fBusy l i (below l i)) (strmAt l i).bits).1
def framesQ (l : List Stream) (i : Nat) : Nat := ((busyT l i + (strmAt l i).jitter + (strmAt l i).period - 1) / (strmAt l i).period).toNat
theorem boundP_eq {l : List Stream} {i : Nat} (hr : rightS l = true) (hi : i < l.length) : boundP l i = boundL l i (strmAt l i) (below l i) := by
  unfold boundP
  rw [if_pos ⟨hr, by omega, by omega⟩]
  rfl
theorem boundP_out {l : List Stream} {i : Int} (h : ¬ (0 ≤ i ∧ i < l.length)) : boundP l i = (0, false) := by
  unfold boundP; rw [if_neg (fun e => h e.2)]
theorem strmAt_eq {l : List Stream} {i : Nat} (hi : i < l.length) : strmAt l i = l[i] := by
  unfold strmAt; rw [List.getD_eq_getElem?_getD, List.getElem?_eq_getElem hi]; rfl
theorem strmAt_ok {l : List Stream} {i : Nat} (hs : ∀ s ∈ l, s.ok) (hi : i < l.length) : (strmAt l i).ok := by
  rw [strmAt_eq hi]; exact hs _ (List.getElem_mem hi)
theorem below_bd {l : List Stream} (hs : ∀ s ∈ l, s.ok) (i : Nat) : 0 ≤ below l i ∧ below l i ≤ 1000 := longest_bd _ fun s hm => hs s (List.mem_of_mem_drop hm)
theorem fBusy_ge {l : List Stream} {i : Nat} (hs : ∀ s ∈ l, s.ok) (hi : i < l.length) {b x : Int} (hb : 0 ≤ b) (hx : 1 ≤ x) : b + (strmAt l i).bits ≤ fBusy l i b x := by
  unfold fBusy
  rw [load_take_succ l i hi, ← strmAt_eq hi]
  have hk := strmAt_ok hs hi
  have h1 := load_nonneg (l.take i) (fun s hm => hs s (List.mem_of_mem_take hm)) x 0 (by omega) (by decide)
  have h2 : 1 ≤ (x + (strmAt l i).jitter + 0 + (strmAt l i).period - 1) / (strmAt l i).period := by
    rw [Int.le_ediv_iff_mul_le (by have := hk.2.2.1; omega)]
    have := hk.2.2.2.2.1; omega
  have h3 : 1 * (strmAt l i).bits ≤ (x + (strmAt l i).jitter + 0 + (strmAt l i).period - 1) / (strmAt l i).period * (strmAt l i).bits := Int.mul_le_mul_of_nonneg_right h2 (by have := hk.1; omega)
  unfold load1
  omega
theorem busy_spec {l : List Stream} {i : Nat} (hs : ∀ s ∈ l, s.ok) (hi : i < l.length) :
    ((leastF (fBusy l i (below l i)) (strmAt l i).bits).2 = true → fBusy l i (below l i) (leastF (fBusy l i (below l i)) (strmAt l i).bits).1 = (leastF (fBusy l i (below l i)) (strmAt l i).bits).1 ∧ (strmAt l i).bits ≤ (leastF (fBusy l i (below l i)) (strmAt l i).bits).1 ∧ ((leastF (fBusy l i (below l i)) (strmAt l i).bits).1 ≤ 10000000 ∨ (leastF (fBusy l i (below l i)) (strmAt l i).bits).1 = (strmAt l i).bits) ∧ ∀ x, (strmAt l i).bits ≤ x → fBusy l i (below l i) x ≤ x → (leastF (fBusy l i (below l i)) (strmAt l i).bits).1 ≤ x) ∧
    ((leastF (fBusy l i (below l i)) (strmAt l i).bits).2 = false → (leastF (fBusy l i (below l i)) (strmAt l i).bits).1 = 0 ∧ ∀ x, (strmAt l i).bits ≤ x → fBusy l i (below l i) x ≤ x → 10000000 < x) :=
  leastF_spec (fBusy_mono l i (below l i) hs) (strmAt l i).bits (by have := (strmAt_ok hs hi).1; omega) (by have := fBusy_ge hs hi (below_bd hs i).1 (strmAt_ok hs hi).1; have := (below_bd hs i).1; omega)
/-- A bound that is told. -/
structure Told (l : List Stream) (i : Nat) : Prop where
  busy : Busy l i (below l i) (strmAt l i) (busyT l i) (framesQ l i)
  fix : fBusy l i (below l i) (busyT l i) = busyT l i
  ge : (strmAt l i).bits ≤ busyT l i
  least : ∀ x, (strmAt l i).bits ≤ x → fBusy l i (below l i) x ≤ x → busyT l i ≤ x
  q1 : 1 ≤ framesQ l i
  qe : (framesQ l i : Int) = (busyT l i + (strmAt l i).jitter + (strmAt l i).period - 1) / (strmAt l i).period
  is : boundP l i = (mostW l i (below l i) (strmAt l i) (framesQ l i), true)
theorem told_of {l : List Stream} {i : Nat} (hr : rightS l = true) (hi : i < l.length) (h : (leastF (fBusy l i (below l i)) (strmAt l i).bits).2 = true) : Told l i := by
  obtain ⟨hs, hl1, hl16⟩ := right_ok_s hr
  have hk := strmAt_ok hs hi
  obtain ⟨q1, q2, q3, q4⟩ := (busy_spec hs hi).1 h
  change fBusy l i (below l i) (busyT l i) = busyT l i at q1
  change (strmAt l i).bits ≤ busyT l i at q2
  change busyT l i ≤ 10000000 ∨ busyT l i = (strmAt l i).bits at q3
  change ∀ x, (strmAt l i).bits ≤ x → fBusy l i (below l i) x ≤ x → busyT l i ≤ x at q4
  have hb := below_bd hs i
  have ht7 : busyT l i ≤ 10000000 := by have := hk.2.1; omega
  have ht0 : 1 ≤ busyT l i := by have := hk.1; omega
  have hroom := busy_room hi hs hb.1 (by omega) (by omega) q1
  rw [← strmAt_eq hi] at hroom
  have hq1 : 1 ≤ (busyT l i + (strmAt l i).jitter + (strmAt l i).period - 1) / (strmAt l i).period := by
    rw [Int.le_ediv_iff_mul_le (by have := hk.2.2.1; omega)]
    have := hk.2.2.2.2.1; omega
  have hqe : (framesQ l i : Int) = (busyT l i + (strmAt l i).jitter + (strmAt l i).period - 1) / (strmAt l i).period := by
    unfold framesQ; rw [Int.toNat_of_nonneg (by omega)]
  have hB : Busy l i (below l i) (strmAt l i) (busyT l i) (framesQ l i) := ⟨hs, hk, hb.1, hb.2, by omega, ht7, by rw [hqe]; exact hroom⟩
  refine ⟨hB, q1, q2, q4, by omega, hqe, ?_⟩
  rw [boundP_eq hr hi]
  unfold boundL
  rw [if_pos h]
  exact congrArg (fun x => (x, true)) (hB.mostW (framesQ l i) (Nat.le_refl _))
theorem told_iff {l : List Stream} {i : Nat} (hr : rightS l = true) (hi : i < l.length) : (boundP l i).2 = true ↔ (leastF (fBusy l i (below l i)) (strmAt l i).bits).2 = true := by
  rw [boundP_eq hr hi]
  unfold boundL
  split
  · rename_i h; exact ⟨fun _ => h, fun _ => rfl⟩
  · rename_i h; exact ⟨fun e => (by cases e), fun e => (h e).elim⟩
theorem told {l : List Stream} {i : Nat} (hr : rightS l = true) (hi : i < l.length) (h : (boundP l i).2 = true) : Told l i := told_of hr hi ((told_iff hr hi).1 h)
theorem told_ex {l : List Stream} {i : Nat} (hr : rightS l = true) (hi : i < l.length) {x : Int} (h1 : (strmAt l i).bits ≤ x) (h2 : fBusy l i (below l i) x ≤ x) (h3 : x ≤ 10000000) : Told l i := by
  obtain ⟨hs, hl1, hl16⟩ := right_ok_s hr
  refine told_of hr hi ?_
  cases h : (leastF (fBusy l i (below l i)) (strmAt l i).bits).2 with
  | true => rfl
  | false =>
    have := ((busy_spec hs hi).2 h).2 x h1 h2
    omega
theorem untold {l : List Stream} {i : Nat} (hr : rightS l = true) (hi : i < l.length) (h : (boundP l i).2 = false) : boundP l i = (0, false) := by
  rw [boundP_eq hr hi] at h ⊢
  unfold boundL at h ⊢
  split
  · rename_i h2; rw [if_pos h2] at h; cases h
  · rfl
theorem mostW_mono (l : List Stream) (i : Nat) (b : Int) (s : Stream) {p : Nat} : ∀ {q : Nat}, p ≤ q → mostW l i b s p ≤ mostW l i b s q
  | 0, h => by obtain rfl : p = 0 := by omega
               exact Int.le_refl _
  | q + 1, h => by
    by_cases e : p = q + 1
    · subst e; exact Int.le_refl _
    · have := mostW_mono l i b s (p := p) (q := q) (by omega)
      show _ ≤ max (mostW l i b s q) _
      omega
/-- The law Least. -/
theorem least_law {l : List Stream} {i : Nat} (hr : rightS l = true) (hi : i < l.length) :
    ((boundP l i).2 = true → (strmAt l i).jitter + (strmAt l i).bits + below l i ≤ (boundP l i).1) ∧
    (i = 0 → (strmAt l i).jitter + (strmAt l i).bits + below l i ≤ (strmAt l i).period → boundP l i = ((strmAt l i).jitter + (strmAt l i).bits + below l i, true)) := by
  obtain ⟨hs, hl1, hl16⟩ := right_ok_s hr
  have hk := strmAt_ok hs hi
  have hb := below_bd hs i
  refine ⟨fun h => ?_, fun h0 hp => ?_⟩
  · have ht := told hr hi h
    rw [ht.is]
    have h1 := mostW_mono l i (below l i) (strmAt l i) ht.q1
    have h2 : mostW l i (below l i) (strmAt l i) 1 = max 0 ((strmAt l i).jitter + waitOf l i (below l i) (strmAt l i) 0 - (0 : Nat) * (strmAt l i).period + (strmAt l i).bits) := rfl
    obtain ⟨_, _, h3, _, _⟩ := ht.busy.wait (q := 0) ht.q1
    show _ ≤ mostW l i (below l i) (strmAt l i) (framesQ l i)
    simp at h3
    simp at h2
    omega
  · subst h0
    have hone : ∀ x : Int, 1 ≤ x → x + (strmAt l 0).jitter ≤ (strmAt l 0).period → (x + (strmAt l 0).jitter + 0 + (strmAt l 0).period - 1) / (strmAt l 0).period = 1 := fun x h1 h2 => by
      have hT := hk.2.2.1
      have hJ := hk.2.2.2.2.1
      apply Int.le_antisymm
      · have := Int.ediv_lt_of_lt_mul (a := x + (strmAt l 0).jitter + 0 + (strmAt l 0).period - 1) (b := 2) (c := (strmAt l 0).period) (by omega) (by omega)
        omega
      · rw [Int.le_ediv_iff_mul_le (by omega)]; omega
    have hf : ∀ x : Int, 1 ≤ x → x + (strmAt l 0).jitter ≤ (strmAt l 0).period → fBusy l 0 (below l 0) x = below l 0 + (strmAt l 0).bits := fun x h1 h2 => by
      unfold fBusy
      rw [load_take_succ l 0 hi, ← strmAt_eq hi]
      unfold load1
      rw [hone x h1 h2]
      show below l 0 + (load [] x 0 + 1 * (strmAt l 0).bits) = _
      rw [load_nil]; omega
    have hx := hf (below l 0 + (strmAt l 0).bits) (by have := hk.1; omega) (by omega)
    have ht := told_ex hr hi (x := below l 0 + (strmAt l 0).bits) (by omega) (by omega) (by have := hk.2.1; omega)
    have hle := ht.least _ (show (strmAt l 0).bits ≤ below l 0 + (strmAt l 0).bits by omega) (by omega)
    have hbt : busyT l 0 = below l 0 + (strmAt l 0).bits := by
      have h1 := ht.fix
      rw [hf (busyT l 0) (by have := ht.ge; have := hk.1; omega) (by omega)] at h1
      exact h1.symm
    have hQ : framesQ l 0 = 1 := by
      have h1 := ht.qe
      have h2 := hone (busyT l 0) (by have := ht.ge; have := hk.1; omega) (by omega)
      rw [Int.add_zero] at h2
      omega
    obtain ⟨_, h2, h3, _, h5⟩ := ht.busy.wait (q := 0) ht.q1
    have hw : waitOf l 0 (below l 0) (strmAt l 0) 0 = below l 0 := by
      have e : ∀ x, fWait l 0 (below l 0) (strmAt l 0).bits ((0 : Nat) : Int) x = below l 0 := fun x => by
        unfold fWait
        show below l 0 + ((0 : Nat) : Int) * (strmAt l 0).bits + load [] x 1 = _
        rw [load_nil]; simp
      rw [e] at h2; exact h2.symm
    rw [ht.is, hQ]
    have h2 : mostW l 0 (below l 0) (strmAt l 0) 1 = max 0 ((strmAt l 0).jitter + waitOf l 0 (below l 0) (strmAt l 0) 0 - (0 : Nat) * (strmAt l 0).period + (strmAt l 0).bits) := rfl
    rw [h2, hw]
    have hJ := hk.2.2.2.2.1
    have hC := hk.1
    congr 1
    simp
    omega
end Go.Proofs.YtahkpghgjjlgdaaFw

/-
  Plain: no frame is later than its bound: busy windows of a place and of those ahead.
-/
namespace Go.Proofs.YtahkpghgjjlgdaaFw
open Go Go.Proofs
set_option linter.unusedVariables false
set_option linter.unusedSimpArgs false

/-- So many frames of each of the first streams, in bits. -/
def work (l : List Stream) (N : Nat → Int) : Nat → Int
  | 0 => 0
  | k + 1 => work l N k + N k * (strmAt l k).bits
theorem ld_succ {l : List Stream} {k : Nat} (h : k < l.length) (t more : Int) : load (l.take (k + 1)) t more = load (l.take k) t more + load1 t more (strmAt l k) := by
  rw [load_take_succ l k h, strmAt_eq h]
theorem work_le {l : List Stream} {N : Nat → Int} {t more : Int} : ∀ (n : Nat), n ≤ l.length → (∀ k < n, N k * (strmAt l k).bits ≤ load1 t more (strmAt l k)) → work l N n ≤ load (l.take n) t more
  | 0, _, _ => Int.le_refl _
  | n + 1, h, hN => by
    have h1 := work_le n (by omega) fun k hk => hN k (by omega)
    have h2 := hN n (by omega)
    rw [ld_succ (by omega)]
    show work l N n + N n * (strmAt l n).bits ≤ _
    omega
theorem work_eq {l : List Stream} {N : Nat → Int} {t more : Int} : ∀ (n : Nat), n ≤ l.length → (∀ k < n, N k * (strmAt l k).bits ≤ load1 t more (strmAt l k)) → load (l.take n) t more ≤ work l N n → ∀ k < n, N k * (strmAt l k).bits = load1 t more (strmAt l k)
  | 0, _, _, _, k, hk => absurd hk (by omega)
  | n + 1, h, hN, hge, k, hk => by
    have h1 := work_le n (by omega) fun k hk => hN k (by omega)
    have h2 := hN n (by omega)
    rw [ld_succ (by omega)] at hge
    change _ ≤ work l N n + N n * (strmAt l n).bits at hge
    by_cases e : k = n
    · subst e; omega
    · exact work_eq n (by omega) (fun k hk => hN k (by omega)) (by omega) k (by omega)
theorem work_same {l : List Stream} {N N' : Nat → Int} : ∀ (n : Nat), (∀ k < n, N' k = N k) → work l N' n = work l N n
  | 0, _ => rfl
  | n + 1, h => by
    show work l N' n + N' n * _ = work l N n + N n * _
    rw [work_same n fun k hk => h k (by omega), h n (by omega)]
theorem work_step {l : List Stream} {N N' : Nat → Int} {j : Nat} : ∀ (n : Nat), j < n → (∀ k < n, k ≠ j → N' k = N k) → N' j = N j + 1 → work l N' n = work l N n + (strmAt l j).bits
  | 0, h, _, _ => absurd h (by omega)
  | n + 1, h, hN, hj => by
    show work l N' n + N' n * _ = work l N n + N n * _ + _
    by_cases e : j = n
    · subst e
      rw [work_same j fun k hk => hN k (by omega) (by omega), hj, Int.add_mul]; omega
    · rw [work_step n (by omega) (fun k hk hk' => hN k (by omega) hk') hj, hN n (by omega) (by omega)]; omega
/-- How the queues stand: their streams. -/
structure Stand (l : List Stream) (X : List QS) : Prop where
  len : X.length = l.length
  s : ∀ k < l.length, (X.getD k zeroQ).s = strmAt l k
def nOf (X : List QS) (p : Nat → Nat) (k : Nat) : Int := ((X.getD k zeroQ).q : Int) - p k
/-- A window of place i, begun at t0 with so many frames sent of each before. -/
structure Win (l : List Stream) (i : Nat) (until_ now : Int) (X : List QS) (t0 : Int) (p : Nat → Nat) : Prop where
  time : now ≤ t0 + below l i + work l (nOf X p) (i + 1)
  le : ∀ k ≤ i, p k ≤ (X.getD k zeroQ).q
  from0 : ∀ k ≤ i, dueZ (strmAt l k) (X.getD k zeroQ).b (p k) < until_ → t0 ≤ fromZ (strmAt l k) (X.getD k zeroQ).b (p k)
  most : ∀ k ≤ i, nOf X p k ≤ (busyT l i + (strmAt l k).jitter + (strmAt l k).period - 1) / (strmAt l k).period
  wait : nOf X p i < framesQ l i → ∀ k < i, nOf X p k ≤ (waitOf l i (below l i) (strmAt l i) (nOf X p i).toNat + (strmAt l k).jitter) / (strmAt l k).period + 1
theorem work_zero {l : List Stream} {N : Nat → Int} : ∀ (n : Nat), (∀ k < n, N k = 0) → work l N n = 0
  | 0, _ => rfl
  | n + 1, h => by
    show work l N n + N n * _ = 0
    rw [work_zero n fun k hk => h k (by omega), h n (by omega)]; simp
theorem due_add (s : Stream) (b : Int) (p q : Nat) (h : p ≤ q) : dueZ s b q = dueZ s b p + ((q : Int) - p) * s.period := by
  unfold dueZ; rw [Int.sub_mul]; omega
section
variable {l : List Stream} {i : Nat} {until_ now : Int} {X : List QS}
/-- A window may begin where nothing of the place and of those ahead waits from before. -/
theorem win_fresh (hi : i < l.length) (ht : Told l i) (st : Stand l X) {t0 : Int} (hn : now ≤ t0 + below l i) (hw : ∀ k ≤ i, (X.getD k zeroQ).on until_ → t0 ≤ (X.getD k zeroQ).wts) : Win l i until_ now X t0 fun k => (X.getD k zeroQ).q := by
  have h0 : ∀ k, nOf X (fun k => (X.getD k zeroQ).q) k = 0 := fun k => by unfold nOf; simp
  have ok : ∀ k ≤ i, (strmAt l k).ok := fun k hk => strmAt_ok ht.busy.hs (by omega)
  have hT0 := ht.busy.t0
  refine ⟨by rw [work_zero _ fun k _ => h0 k]; omega, fun k _ => Nat.le_refl _, fun k hk hd => ?_, fun k hk => ?_, fun hq k hk => ?_⟩
  · have := hw k hk
    unfold QS.on QS.due QS.wts at this
    rw [st.s k (by omega)] at this
    exact this hd
  · rw [h0]
    obtain ⟨_, _, q3, _, q5, _⟩ := ok k hk
    exact Int.ediv_nonneg (by omega) (by omega)
  · rw [h0] at hq ⊢
    rw [h0]
    obtain ⟨_, _, q3, _, q5, _⟩ := ok k (by omega)
    obtain ⟨_, _, h3, _, _⟩ := ht.busy.wait (q := 0) (by omega)
    have hb := (below_bd ht.busy.hs i).1
    have : 0 ≤ (waitOf l i (below l i) (strmAt l i) (0 : Int).toNat + (strmAt l k).jitter) / (strmAt l k).period := Int.ediv_nonneg (by simp at h3 ⊢; omega) (by omega)
    omega
theorem load1_0 (t : Int) (s : Stream) : load1 t 0 s = (t + s.jitter + s.period - 1) / s.period * s.bits := by unfold load1; rw [Int.add_zero]
theorem load1_1 (t : Int) (s : Stream) (h : 1 ≤ s.period) : load1 t 1 s = ((t + s.jitter) / s.period + 1) * s.bits := by
  unfold load1
  rw [show t + s.jitter + 1 + s.period - 1 = (t + s.jitter) + s.period * 1 by omega, Int.add_mul_ediv_left _ _ (by omega)]
/-- All the window's frames are within the busy time. -/
theorem Win.busy (hi : i < l.length) (ht : Told l i) {t0 : Int} {p : Nat → Nat} (w : Win l i until_ now X t0 p) : now ≤ t0 + busyT l i := by
  have h1 := work_le (l := l) (N := nOf X p) (t := busyT l i) (more := 0) (i + 1) (by omega) fun k hk => by
    rw [load1_0]
    exact Int.mul_le_mul_of_nonneg_right (w.most k (by omega)) (by have := (strmAt_ok ht.busy.hs (show k < l.length by omega)).1; omega)
  have h2 := ht.fix
  have h3 := w.time
  unfold fBusy at h2
  omega
/-- A window that is full may begin anew. -/
theorem Win.renew (hi : i < l.length) (ht : Told l i) (st : Stand l X) {t0 : Int} {p : Nat → Nat} (w : Win l i until_ now X t0 p) (hfull : t0 + busyT l i ≤ now) : Win l i until_ now X now fun k => (X.getD k zeroQ).q := by
  have ok : ∀ k ≤ i, (strmAt l k).ok := fun k hk => strmAt_ok ht.busy.hs (by omega)
  have hN : ∀ k < i + 1, nOf X p k * (strmAt l k).bits ≤ load1 (busyT l i) 0 (strmAt l k) := fun k hk => by
    rw [load1_0]
    exact Int.mul_le_mul_of_nonneg_right (w.most k (by omega)) (by have := (ok k (by omega)).1; omega)
  have hb := (below_bd ht.busy.hs i).1
  refine win_fresh hi ht st (by omega) fun k hk hon => ?_
  have h2 := ht.fix
  have h3 := w.time
  unfold fBusy at h2
  have he := work_eq (i + 1) (by omega) hN (by omega) k (by omega)
  obtain ⟨q1, _, q3, _, q5, _⟩ := ok k hk
  rw [load1_0] at he
  have he2 : nOf X p k = (busyT l i + (strmAt l k).jitter + (strmAt l k).period - 1) / (strmAt l k).period := Int.eq_of_mul_eq_mul_right (by omega) he
  have hge : busyT l i + (strmAt l k).jitter ≤ nOf X p k * (strmAt l k).period := by
    rw [he2]
    have := Int.lt_ediv_add_one_mul_self (busyT l i + (strmAt l k).jitter + (strmAt l k).period - 1) (show 0 < (strmAt l k).period by omega)
    rw [Int.add_mul] at this
    omega
  have hpq := w.le k hk
  have hda := due_add (strmAt l k) (X.getD k zeroQ).b (p k) (X.getD k zeroQ).q hpq
  have hT0 := ht.busy.t0
  have hpos : 0 ≤ nOf X p k * (strmAt l k).period := by omega
  unfold nOf at hge
  unfold QS.on QS.due at hon
  unfold QS.wts
  rw [st.s k (by omega)] at hon ⊢
  have hf0 := w.from0 k hk (by unfold nOf at hpos; omega)
  have b1 := from_bd (strmAt l k) (X.getD k zeroQ).b q5 (by omega) (p k)
  have b2 := from_bd (strmAt l k) (X.getD k zeroQ).b q5 (by omega) (X.getD k zeroQ).q
  have := w.busy hi ht
  omega
/-- In a window no frame of the place waits longer than its wait. -/
theorem Win.waits (hi : i < l.length) (ht : Told l i) {t0 : Int} {p : Nat → Nat} (w : Win l i until_ now X t0 p) (hq : nOf X p i < framesQ l i) : now ≤ t0 + waitOf l i (below l i) (strmAt l i) (nOf X p i).toNat := by
  have ok : ∀ k ≤ i, (strmAt l k).ok := fun k hk => strmAt_ok ht.busy.hs (by omega)
  have h0 : 0 ≤ nOf X p i := by have := w.le i (Nat.le_refl _); unfold nOf; omega
  have h1 := work_le (l := l) (N := nOf X p) (t := waitOf l i (below l i) (strmAt l i) (nOf X p i).toNat) (more := 1) i (by omega) fun k hk => by
    rw [load1_1 _ _ (ok k (by omega)).2.2.1]
    exact Int.mul_le_mul_of_nonneg_right (w.wait hq k hk) (by have := (ok k (by omega)).1; omega)
  obtain ⟨_, h2, _, _, _⟩ := ht.busy.wait (q := (nOf X p i).toNat) (by omega)
  have h3 := w.time
  change now ≤ t0 + below l i + (work l (nOf X p) i + nOf X p i * (strmAt l i).bits) at h3
  unfold fWait at h2
  rw [Int.toNat_of_nonneg h0] at h2
  omega
end
end Go.Proofs.YtahkpghgjjlgdaaFw

/-
  Plain: no frame is later than its bound.
-/
namespace Go.Proofs.YtahkpghgjjlgdaaFw
open Go Go.Proofs
set_option linter.unusedVariables false
set_option linter.unusedSimpArgs false

theorem getD_sendAt {j : Nat} {e : Int} {X : List QS} (hj : j < X.length) (k : Nat) : (sendAt j e X).getD k zeroQ = if k = j then (X.getD j zeroQ).sent e else X.getD k zeroQ := by
  unfold sendAt
  by_cases h : k = j
  · subst h; rw [if_pos rfl]; simp [List.getD, hj]
  · rw [if_neg h]; simp [List.getD, List.getElem?_set, Ne.symm h]
theorem Stand.send {l : List Stream} {X : List QS} (st : Stand l X) {j : Nat} {e : Int} (hj : j < X.length) : Stand l (sendAt j e X) := by
  refine ⟨by unfold sendAt; rw [List.length_set]; exact st.len, fun k hk => ?_⟩
  rw [getD_sendAt hj]
  split
  · rename_i h; subst h; exact st.s k hk
  · exact st.s k hk
section
variable {l : List Stream} {i : Nat} {until_ now : Int} {X : List QS}
/-- What is known of the frame that is sent next. -/
theorem Win.head (hi : i < l.length) (ht : Told l i) (st : Stand l X) {t0 : Int} {p : Nat → Nat} (w : Win l i until_ now X t0 p) {j : Nat} (hj : j ≤ i) (hon : (X.getD j zeroQ).on until_) (hw : (X.getD j zeroQ).wts ≤ now) :
    nOf X p j * (strmAt l j).period ≤ now - t0 + (strmAt l j).jitter ∧ t0 - (strmAt l j).jitter + nOf X p j * (strmAt l j).period ≤ (X.getD j zeroQ).due := by
  obtain ⟨q1, _, q3, _, q5, _⟩ := strmAt_ok ht.busy.hs (show j < l.length by omega)
  have hpq := w.le j hj
  have hda := due_add (strmAt l j) (X.getD j zeroQ).b (p j) (X.getD j zeroQ).q hpq
  have hn0 : 0 ≤ ((X.getD j zeroQ).q : Int) - p j := by omega
  have hpos : 0 ≤ (((X.getD j zeroQ).q : Int) - p j) * (strmAt l j).period := Int.mul_nonneg hn0 (by omega)
  unfold QS.on at hon
  unfold QS.wts at hw
  unfold QS.due at hon ⊢
  rw [st.s j (by omega)] at hon hw ⊢
  have hf0 := w.from0 j hj (by omega)
  have b1 := from_bd (strmAt l j) (X.getD j zeroQ).b q5 (by omega) (p j)
  have b2 := from_bd (strmAt l j) (X.getD j zeroQ).b q5 (by omega) (X.getD j zeroQ).q
  unfold nOf
  omega
theorem nOf_send {p : Nat → Nat} {j : Nat} {e : Int} (hj : j < X.length) (k : Nat) : nOf (sendAt j e X) p k = if k = j then nOf X p j + 1 else nOf X p k := by
  unfold nOf
  rw [getD_sendAt hj]
  by_cases h : k = j
  · subst h; rw [if_pos rfl, if_pos rfl]; show (((X.getD k zeroQ).q + 1 : Nat) : Int) - _ = _; push_cast; omega
  · rw [if_neg h, if_neg h]
theorem Win.send (hi : i < l.length) (ht : Told l i) (st : Stand l X) {t0 : Int} {p : Nat → Nat} (w : Win l i until_ now X t0 p) (hlt : now < t0 + busyT l i) {j : Nat} (hj : j ≤ i) (hon : (X.getD j zeroQ).on until_) (hw : (X.getD j zeroQ).wts ≤ now) :
    Win l i until_ (now + (strmAt l j).bits) (sendAt j (now + (strmAt l j).bits) X) t0 p ∧ (j = i → nOf X p i < framesQ l i) := by
  have hjX : j < X.length := by rw [st.len]; omega
  obtain ⟨h1, h2⟩ := w.head hi ht st hj hon hw
  obtain ⟨q1, _, q3, _, q5, _⟩ := strmAt_ok ht.busy.hs (show j < l.length by omega)
  have hN := fun k => nOf_send (X := X) (p := p) (e := now + (strmAt l j).bits) hjX k
  have hmost : nOf X p j + 1 ≤ (busyT l i + (strmAt l j).jitter + (strmAt l j).period - 1) / (strmAt l j).period := by
    rw [Int.le_ediv_iff_mul_le (by omega), Int.add_mul]; omega
  have hqi : j = i → nOf X p i < framesQ l i := fun e => by subst e; have := ht.qe; omega
  have hs' : ∀ k, ((sendAt j (now + (strmAt l j).bits) X).getD k zeroQ).b = (X.getD k zeroQ).b := fun k => by
    rw [getD_sendAt hjX]
    split
    · rename_i e; subst e; rfl
    · rfl
  refine ⟨⟨?_, fun k hk => ?_, fun k hk => ?_, fun k hk => ?_, fun hq k hk => ?_⟩, hqi⟩
  · rw [work_step (N := nOf X p) (j := j) (i + 1) (by omega) (fun k _ hk => by rw [hN, if_neg hk]) (by rw [hN, if_pos rfl])]
    have := w.time
    omega
  · have := w.le k hk
    have h := hN k
    unfold nOf at h
    split at h
    · rename_i e; subst e; omega
    · omega
  · rw [hs']; exact w.from0 k hk
  · rw [hN]
    split
    · rename_i e; subst e; exact hmost
    · exact w.most k hk
  · rw [hN i] at hq ⊢
    rw [hN k]
    by_cases e : i = j
    · rw [if_pos e] at hq ⊢
      rw [if_neg (by omega)]
      subst e
      have h0 : 0 ≤ nOf X p i := by have := w.le i (Nat.le_refl _); unfold nOf; omega
      have h3 := w.wait (by omega) k hk
      have h4 := ht.busy.mono (q := (nOf X p i).toNat) (by omega)
      obtain ⟨_, _, c3, _, _, _⟩ := strmAt_ok ht.busy.hs (show k < l.length by omega)
      rw [show (nOf X p i + 1).toNat = (nOf X p i).toNat + 1 by omega]
      have h5 : (waitOf l i (below l i) (strmAt l i) (nOf X p i).toNat + (strmAt l k).jitter) / (strmAt l k).period ≤ (waitOf l i (below l i) (strmAt l i) ((nOf X p i).toNat + 1) + (strmAt l k).jitter) / (strmAt l k).period := Int.ediv_le_ediv (by omega) (by omega)
      omega
    · rw [if_neg e] at hq ⊢
      split
      · rename_i e2
        subst e2
        have h3 := w.waits hi ht hq
        have : nOf X p k ≤ (waitOf l i (below l i) (strmAt l i) (nOf X p i).toNat + (strmAt l k).jitter) / (strmAt l k).period := by
          rw [Int.le_ediv_iff_mul_le (by omega)]; omega
        omega
      · exact w.wait hq k hk
theorem mostW_ge (l : List Stream) (i : Nat) (b : Int) (s : Stream) {q n : Nat} (h : q < n) : s.jitter + waitOf l i b s q - q * s.period + s.bits ≤ mostW l i b s n ∧ 0 ≤ mostW l i b s n := by
  have h1 := mostW_mono l i b s (p := q + 1) (q := n) (by omega)
  have h2 := mostW_mono l i b s (p := 0) (q := n) (by omega)
  have h3 : mostW l i b s (q + 1) = max (mostW l i b s q) (s.jitter + waitOf l i b s q - q * s.period + s.bits) := rfl
  have h4 : mostW l i b s 0 = 0 := rfl
  omega
theorem longest_ge {l : List Stream} {s : Stream} (h : s ∈ l) : s.bits ≤ longest l := by
  have : ∀ (l : List Stream) (n : Int), n ≤ l.foldl (fun n s => max n s.bits) n ∧ ∀ s ∈ l, s.bits ≤ l.foldl (fun n s => max n s.bits) n := by
    intro l
    induction l with
    | nil => intro n; exact ⟨Int.le_refl _, fun s hs => by cases hs⟩
    | cons x l ih =>
      intro n
      obtain ⟨a, b⟩ := ih (max n x.bits)
      rw [List.foldl_cons]
      refine ⟨by omega, fun s hs => ?_⟩
      rcases List.mem_cons.1 hs with rfl | hs
      · omega
      · exact b s hs
  exact (this l 0).2 s h
theorem below_ge {j : Nat} (hij : i < j) (hj : j < l.length) : (strmAt l j).bits ≤ below l i := by
  unfold below
  rw [strmAt_eq hj]
  refine longest_ge ?_
  rw [show l[j] = (l.drop (i + 1))[j - (i + 1)]'(by simp; omega) by rw [List.getElem_drop]; congr 1; omega]
  exact List.getElem_mem _
theorem never (hi : i < l.length) (ht : Told l i) : ∀ (n : Nat) (now : Int) (X : List QS) (t0 : Int) (p : Nat → Nat), Stand l X → Win l i until_ now X t0 p → (X.getD i zeroQ).late ≤ mostW l i (below l i) (strmAt l i) (framesQ l i) →
    ((playN until_ n now X).getD i zeroQ).late ≤ mostW l i (below l i) (strmAt l i) (framesQ l i)
  | 0, now, X, t0, p, st, w, hl => hl
  | n + 1, now, X, t0, p, st, w, hl => by
    have hb := below_bd ht.busy.hs i
    cases hleft : (scan now until_ X).1 with
    | false => rw [playN_done hleft]; exact hl
    | true =>
      cases hone : (scan now until_ X).2.1 with
      | none =>
        rw [playN_jump hleft hone]
        obtain ⟨_, hsoon⟩ := (scan_spec now until_ X).soon hleft
        refine never hi ht n _ X (scan now until_ X).2.2 _ st (win_fresh hi ht st (by omega) fun k hk hon => ?_) hl
        exact hsoon k (by rw [st.len]; omega) hon
      | some j =>
        rw [playN_send hleft hone]
        obtain ⟨q1, q2, q3, q4⟩ := (scan_spec now until_ X).one j hone
        have hjl : j < l.length := by rw [← st.len]; exact q1
        have hsj := st.s j hjl
        rw [hsj]
        by_cases hji : j ≤ i
        · obtain ⟨t1, p1, w1, hlt⟩ : ∃ t1 p1, Win l i until_ now X t1 p1 ∧ now < t1 + busyT l i := by
            by_cases h : t0 + busyT l i ≤ now
            · exact ⟨now, _, w.renew hi ht st h, by have := ht.ge; have := ht.busy.st.1; omega⟩
            · exact ⟨t0, p, w, by omega⟩
          obtain ⟨w2, hq⟩ := w1.send hi ht st hlt hji q2 q3
          refine never hi ht n _ _ t1 p1 (st.send q1) w2 ?_
          rw [getD_sendAt q1]
          split
          · rename_i e
            subst e
            have hq' := hq rfl
            obtain ⟨_, h2⟩ := w1.head hi ht st (Nat.le_refl _) q2 q3
            have h3 := w1.waits hi ht hq'
            have h0 : 0 ≤ nOf X p1 i := by have := w1.le i (Nat.le_refl _); unfold nOf; omega
            have h4 := (mostW_ge l i (below l i) (strmAt l i) (q := (nOf X p1 i).toNat) (n := framesQ l i) (by omega)).1
            rw [Int.toNat_of_nonneg h0] at h4
            show max (X.getD i zeroQ).late (now + (strmAt l i).bits - (X.getD i zeroQ).due) ≤ _
            omega
          · exact hl
        · refine never hi ht n _ _ (now + 1) _ (st.send q1) (win_fresh hi ht (st.send q1) ?_ fun k hk hon => ?_) ?_
          · have := below_ge (i := i) (show i < j by omega) hjl
            omega
          · rw [getD_sendAt q1, if_neg (by omega)] at hon ⊢
            have := q4 k (by omega) hon
            omega
          · rw [getD_sendAt q1, if_neg (by omega)]; exact hl
end
end Go.Proofs.YtahkpghgjjlgdaaFw
