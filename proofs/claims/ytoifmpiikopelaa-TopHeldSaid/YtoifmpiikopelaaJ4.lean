import Derived.Test.YtoifmpiikopelaaJ3
/-
  What becomes of a text of which one part comes late, or never (no program in sight, but for Take's contracts).
-/
namespace Go.Proofs.YtoifmpiikopelaaFw
open Go Go.Proofs
set_option linter.unusedVariables false
set_option linter.unusedSimpArgs false

def manyF (t : List Int) : Nat := t.length / 7
def sndA (t : List Int) (j : Nat) : Snd := ⟨if j < manyF t then 2 else 3, t, ((min (6 + 7 * j) t.length : Nat) : Int), ((j : Int) + 1) % 16, -1, 0, if j < manyF t then 1 else 0, 0, 0⟩
def rcvJ (t : List Int) (room : Int) (j : Nat) (clk : Int) : Rcv := ⟨2, t.length, t.take (6 + 7 * j), ((j : Int) + 1) % 16, -1, 0, 0, clk, room, 0⟩
def prt (t : List Int) (j : Nat) : Pdu := ⟨3, 0, ((j : Int) + 1) % 16, 0, 0, 0, (t.drop (6 + 7 * j)).take (min (6 + 7 * j + 7) t.length - (6 + 7 * j))⟩
theorem next_step (t : List Int) (j : Nat) (clk : Int) (hj : j < manyF t) : tickS (nextS ⟨2, t, ((6 + 7 * j : Nat) : Int), ((j : Int) + 1) % 16, -1, 0, clk, 0, 0⟩ (6 + 7 * j)) = sndA t (j + 1) ∧ partP ⟨2, t, ((6 + 7 * j : Nat) : Int), ((j : Int) + 1) % 16, -1, 0, clk, 0, 0⟩ (6 + 7 * j) = prt t j := by
  unfold manyF at hj
  have hm : (6 + 7 * j + 7 < t.length) = (j + 1 < manyF t) := by unfold manyF; apply propext; omega
  refine ⟨?_, rfl⟩
  unfold tickS nextS sndA
  simp only [hm]
  have e1 : min (((6 + 7 * j : Nat) : Int) + 7) (t.length : Int) = ((min (6 + 7 * (j + 1)) t.length : Nat) : Int) := by omega
  have e1' : min (6 + 7 * (j : Int) + 7) (t.length : Int) = ((min (6 + 7 * (j + 1)) t.length : Nat) : Int) := by omega
  have e2 : (((j : Int) + 1) % 16 + 1) % 16 = (((j + 1 : Nat) : Int) + 1) % 16 := by omega
  by_cases h : j + 1 < manyF t
  · simp only [if_pos h, if_true, e2, Snd.mk.injEq, true_and, and_true]
    refine ⟨?_, by omega⟩
    omega
  · simp only [if_neg h, e2, show ¬ (3 : Int) = 2 by decide, if_false, Snd.mk.injEq, true_and, and_true]
    omega
theorem sndA_ok (t : List Int) (j : Nat) (hj : j < manyF t) (hl : t.length ≤ 4095) : SndOk (sndA t j) (6 + 7 * j) ∧ sndA t j = ⟨2, t, ((6 + 7 * j : Nat) : Int), ((j : Int) + 1) % 16, -1, 0, 1, 0, 0⟩ := by
  have hj' := hj
  unfold manyF at hj'
  have e : sndA t j = ⟨2, t, ((6 + 7 * j : Nat) : Int), ((j : Int) + 1) % 16, -1, 0, 1, 0, 0⟩ := by
    unfold sndA
    rw [if_pos hj, if_pos hj, show min (6 + 7 * j) t.length = 6 + 7 * j by omega]
  refine ⟨?_, e⟩
  rw [e]
  exact ⟨rfl, rfl, by show 6 + 7 * j < t.length; omega, hl, rfl, by show (0 : Int) ≤ 1; decide, rfl, by show 0 ≤ ((j : Int) + 1) % 16 ∧ ((j : Int) + 1) % 16 < 16; omega⟩
theorem sndA_end (t : List Int) : (sndA t (manyF t)).st = 3 ∧ (sndA t (manyF t)).clk = 0 := by
  unfold sndA
  simp
theorem take_good (t : List Int) (room : Int) (j : Nat) (clk : Int) (hj : j + 1 < manyF t) (hl : t.length ≤ 4095) : FnS Try.prog 14 [.agg (encRcv (rcvJ t room j clk)), .agg (encPdu (prt t j))] [] (.tup [.agg (encRcv (rcvJ t room (j + 1) 0)), .agg (encPdu pdu0), .bool false]) [] := by
  unfold manyF at hj
  have hmin : min (6 + 7 * j + 7) t.length - (6 + 7 * j) = 7 := by omega
  have hg : (t.take (6 + 7 * j)).length = 6 + 7 * j := by rw [List.length_take]; omega
  have hd : ((t.drop (6 + 7 * j)).take (min (6 + 7 * j + 7) t.length - (6 + 7 * j))).length = 7 := by rw [List.length_take, List.length_drop]; omega
  have h := takeNext_ok _ _ (prt t j) pdu0 false rfl (nextGood_ok (rcvJ t room j clk) (prt t j) rfl (by show 1 ≤ (t.take (6 + 7 * j)).length; omega) (by show (t.take (6 + 7 * j)).length ≤ 4095; omega) (by show (0 : Int) ≤ t.length ∧ (t.length : Int) ≤ 4095; omega) rfl (by
    show (((t.drop (6 + 7 * j)).take (min (6 + 7 * j + 7) t.length - (6 + 7 * j))).length : Int) = min 7 ((t.length : Int) - ((t.take (6 + 7 * j)).length : Int))
    rw [hd, hg]; omega) rfl (by show 0 ≤ ((j : Int) + 1) % 16 ∧ ((j : Int) + 1) % 16 < 16; omega))
  have e : goodR (rcvJ t room j clk) (prt t j) = rcvJ t room (j + 1) 0 := by
    rw [hmin] at hd
    unfold goodR rcvJ prt
    simp only [hmin, hd, hg]
    rw [if_neg (by omega)]
    have e1 : t.take (6 + 7 * j) ++ (t.drop (6 + 7 * j)).take 7 = t.take (6 + 7 * (j + 1)) := by
      rw [show 6 + 7 * (j + 1) = 6 + 7 * j + 7 by omega]
      exact List.take_add.symm
    rw [e1]
    have e2 : (((j : Int) + 1) % 16 + 1) % 16 = (((j + 1 : Nat) : Int) + 1) % 16 := by omega
    rw [e2]
  rw [e] at h
  exact h
theorem take_bad (t : List Int) (room : Int) (j : Nat) (clk : Int) (hj : j < manyF t) (hl : t.length ≤ 4095) : FnS Try.prog 14 [.agg (encRcv (rcvJ t room j clk)), .agg (encPdu (prt t (j + 1)))] [] (.tup [.agg (encRcv (badR (rcvJ t room j clk))), .agg (encPdu pdu0), .bool false]) [] :=
  takeNext_ok _ _ (prt t (j + 1)) pdu0 false rfl (nextBad_ok (rcvJ t room j clk) (prt t (j + 1)) rfl (by show (t.take (6 + 7 * j)).length ≤ 4095; rw [List.length_take]; omega) (by show (0 : Int) ≤ t.length ∧ (t.length : Int) ≤ 4095; omega) (by
    show (((j + 1 : Nat) : Int) + 1) % 16 ≠ ((j : Int) + 1) % 16
    omega))
theorem take_idle (t : List Int) (room : Int) (j i : Nat) (clk : Int) (hl : t.length ≤ 4095) : FnS Try.prog 14 [.agg (encRcv (badR (rcvJ t room j clk))), .agg (encPdu (prt t i))] [] (.tup [.agg (encRcv (badR (rcvJ t room j clk))), .agg (encPdu pdu0), .bool false]) [] :=
  takeNext_ok _ _ (prt t i) pdu0 false rfl (nextIdle_ok (badR (rcvJ t room j clk)) (prt t i) (by show (4 : Int) ≠ 2; decide) (by show (t.take (6 + 7 * j)).length ≤ 4095; rw [List.length_take]; omega) (by show (0 : Int) ≤ t.length ∧ (t.length : Int) ≤ 4095; omega))

/-- The fates: so many of no name, then a delay. -/
def heldF (k : Nat) : List Int := List.replicate (2 + k) 0 ++ [4]
theorem heldF_len (k : Nat) : (heldF k).length = 3 + k := by simp [heldF]; omega
theorem fate_lt {k n : Nat} (h : n < 2 + k) : fateF (heldF k) n = 0 := by
  unfold fateF
  rw [if_pos (by rw [heldF_len]; omega)]
  unfold heldF
  rw [List.getD_eq_getElem?_getD, List.getElem?_append_left (by simpa using h), List.getElem?_replicate, if_pos h]; rfl
theorem fate_eq (k : Nat) : fateF (heldF k) (2 + k) = 4 := by
  unfold fateF
  rw [if_pos (by rw [heldF_len]; omega)]
  unfold heldF
  rw [List.getD_eq_getElem?_getD, List.getElem?_append_right (by simp)]; simp
theorem fate_gt {k n : Nat} (h : 2 + k < n) : fateF (heldF k) n = 1 := by
  unfold fateF
  rw [if_neg (by rw [heldF_len]; omega)]
theorem passes0 : passes 0 := ⟨by decide, by decide, by decide⟩
theorem passes1 : passes 1 := ⟨by decide, by decide, by decide⟩
theorem tickJ (t : List Int) (room : Int) (j : Nat) {c : Int} (hc : c < 100) : tickR (rcvJ t room j c) = rcvJ t room j (c + 1) := by
  unfold tickR
  rw [if_pos (show (rcvJ t room j c).st = 2 from rfl), if_neg (show ¬ 100 < (rcvJ t room j c).clk + 1 by show ¬ 100 < c + 1; omega)]; rfl
theorem tickJ_end (t : List Int) (room : Int) (j : Nat) : tickR (rcvJ t room j 100) = { rcvJ t room j 101 with st := 4, err := 181 } := by
  unfold tickR
  rw [if_pos (show (rcvJ t room j 100).st = 2 from rfl), if_pos (show 100 < (rcvJ t room j 100).clk + 1 by show (100 : Int) < 100 + 1; decide)]; rfl
theorem tickJ_bad (t : List Int) (room : Int) (j : Nat) (c : Int) : tickR (badR (rcvJ t room j c)) = badR (rcvJ t room j c) := by
  unfold tickR
  rw [if_neg (by show ¬ (4 : Int) = 2; decide)]
def xB (t : List Int) (room : Int) (n : Nat) : PSt := ⟨n, sndA t n, rcvJ t room (n - 1) 1, [prt t (n - 1)], [], n + 2, prt t (n - 1)⟩
def xC (t : List Int) (room : Int) (k i : Nat) (p : Pdu) : PSt := ⟨k + 1 + i, sndA t (k + 1), rcvJ t room k (1 + i), [], [prt t k], k + 3, p⟩
def xD (t : List Int) (room : Int) (k : Nat) : PSt := ⟨k + 2, sndA t (k + 2), rcvJ t room k 2, [prt t (k + 1), prt t k], [], k + 4, prt t (k + 1)⟩
def xE (t : List Int) (room : Int) (k n : Nat) : PSt := ⟨n, sndA t n, badR (rcvJ t room k 2), [prt t (n - 1)], [], n + 2, prt t (n - 1)⟩
def xEnd (t : List Int) (room : Int) (k : Nat) : PSt :=
  if k + 1 = manyF t then ⟨k + 101, sndA t (k + 1), { rcvJ t room k 101 with st := 4, err := 181 }, [], [prt t k], k + 3, pdu0⟩ else ⟨manyF t + 1, sndA t (manyF t), badR (rcvJ t room k 2), [], [], manyF t + 2, pdu0⟩
inductive InvH (t : List Int) (room : Int) (k : Nat) : PSt → Prop
  | b (n : Nat) (h1 : 1 ≤ n) (h2 : n ≤ k) : InvH t room k (xB t room n)
  | c (i : Nat) (p : Pdu) (h : i = 0 ∨ (k + 1 = manyF t ∧ i ≤ 99)) : InvH t room k (xC t room k i p)
  | d (h : k + 2 ≤ manyF t) : InvH t room k (xD t room k)
  | e (n : Nat) (h1 : k + 3 ≤ n) (h2 : n ≤ manyF t) : InvH t room k (xE t room k n)
  | f : InvH t room k (xEnd t room k)
theorem invH_step (t : List Int) (room : Int) (k : Nat) (hk : k < manyF t) (h2 : t.length ≤ 300) (x : PSt) (hx : InvH t room k x) :
    x.n ≤ 300 ∧ x.c ≤ 100000 ∧ ((Fin x ∧ x = xEnd t room k) ∨ (¬ Fin x ∧ ∃ x', InvH t room k x' ∧ x'.n = x.n + 1 ∧ Rnd (heldF k) x x')) := by
  have hm43 : manyF t ≤ 43 := by unfold manyF; omega
  have hl : t.length ≤ 4095 := by omega
  have hse := sndA_end t
  cases hx with
  | f =>
    unfold xEnd
    split
    · rename_i hke
      refine ⟨by show k + 101 ≤ 300; omega, by show k + 3 ≤ 100000; omega, .inl ⟨⟨?_, by show (4 : Int) ≠ 2; decide, rfl⟩, rfl⟩⟩
      show (sndA t (k + 1)).st = 3
      rw [hke]; exact hse.1
    · exact ⟨by show manyF t + 1 ≤ 300; omega, by show manyF t + 2 ≤ 100000; omega, .inl ⟨⟨hse.1, by show (4 : Int) ≠ 2; decide, rfl⟩, rfl⟩⟩
  | b n h1 h2 =>
    obtain ⟨m, rfl⟩ : ∃ m, n = m + 1 := ⟨n - 1, by omega⟩
    obtain ⟨hS, hSe⟩ := sndA_ok t (m + 1) (by omega) hl
    obtain ⟨ns1, ns2⟩ := next_step t (m + 1) 1 (by omega)
    rw [← hSe] at ns1 ns2
    have hR : RIn (xB t room (m + 1)) (rcvJ t room (m + 1) 0) (fun i => if i = 0 then rcvJ t room m 1 else rcvJ t room (m + 1) 0) := ⟨rfl, rfl, ⟨by show (0 : Int) ≤ 0; decide, by show (0 : Int) ≤ 1000; decide⟩, by show 1 ≤ 5; decide, fun i h => by
      have hi : i = 0 := by have : i < 1 := h; omega
      subst hi
      exact take_good t room m 1 (by omega) hl⟩
    refine ⟨by show m + 1 ≤ 300; omega, by show m + 1 + 2 ≤ 100000; omega, .inr ⟨fun hf => by have := hf.2.2; simp [xB] at this, ?_⟩⟩
    by_cases hnk : m + 1 < k
    · refine ⟨xB t room (m + 2), .b (m + 2) (by omega) (by omega), rfl, by show 0 ≤ 1; decide, _, _, hR, .inr ⟨6 + 7 * (m + 1), hS, .inl ⟨?_, ?_⟩⟩⟩
      · show passes (fateF (heldF k) (m + 1 + 2))
        rw [fate_lt (by omega)]; exact passes0
      · unfold passR xB
        simp only [Nat.add_sub_cancel]
        rw [ns1, ns2, tickJ t room _ (by decide)]
        rfl
    · have hmk : m + 1 = k := by omega
      refine ⟨xC t room k 0 (prt t k), .c 0 _ (.inl rfl), by show k + 1 + 0 = m + 1 + 1; omega, by show 0 ≤ 1; decide, _, _, hR, .inr ⟨6 + 7 * (m + 1), hS, .inr ⟨rfl, ?_, ?_⟩⟩⟩
      · show fateF (heldF k) (m + 1 + 2) = 4
        rw [show m + 1 + 2 = 2 + k by omega, fate_eq]
      · unfold heldR xB xC
        simp only [Nat.add_sub_cancel]
        rw [ns1, ns2, tickJ t room _ (by decide), ← hmk]
        rfl
  | c i p h =>
    by_cases hke : k + 1 = manyF t
    · have hi : i ≤ 99 := by omega
      have h3 : (sndA t (k + 1)).st = 3 ∧ (sndA t (k + 1)).clk = 0 := by rw [hke]; exact hse
      have hR : RIn (xC t room k i p) (rcvJ t room k (1 + i)) (fun _ => rcvJ t room k (1 + i)) := ⟨rfl, rfl, ⟨by show (0 : Int) ≤ 1 + i; omega, by show (1 : Int) + i ≤ 1000; omega⟩, by show 0 ≤ 5; decide, fun i h => absurd h (Nat.not_lt_zero i)⟩
      refine ⟨by show k + 1 + i ≤ 300; omega, by show k + 3 ≤ 100000; omega, .inr ⟨fun hf => hf.2.1 rfl, ?_⟩⟩
      by_cases h99 : i = 99
      · subst h99
        refine ⟨xEnd t room k, .f, ?_, by show 1 ≤ 1; decide, _, _, hR, .inl ⟨h3.1, by rw [show (xC t room k 99 p).s = sndA t (k + 1) from rfl, h3.2]; decide, by rw [show (xC t room k 99 p).s = sndA t (k + 1) from rfl, h3.2]; decide, ?_⟩⟩
        · unfold xEnd
          rw [if_pos hke]; rfl
        · unfold xEnd lastR xC
          rw [if_pos hke]
          simp only []
          have e : rcvJ t room k (1 + ((99 : Nat) : Int)) = rcvJ t room k 100 := rfl
          rw [e, tickJ_end]
      · refine ⟨xC t room k (i + 1) pdu0, .c (i + 1) _ (.inr ⟨hke, by omega⟩), rfl, by show 1 ≤ 1; decide, _, _, hR, .inl ⟨h3.1, by rw [show (xC t room k i p).s = sndA t (k + 1) from rfl, h3.2]; decide, by rw [show (xC t room k i p).s = sndA t (k + 1) from rfl, h3.2]; decide, ?_⟩⟩
        unfold lastR xC
        simp only []
        rw [tickJ t room k (by omega)]
        rw [show (1 : Int) + ((i + 1 : Nat) : Int) = 1 + (i : Int) + 1 by omega]
        rfl
    · have hi : i = 0 := by omega
      subst hi
      obtain ⟨hS, hSe⟩ := sndA_ok t (k + 1) (by omega) hl
      obtain ⟨ns1, ns2⟩ := next_step t (k + 1) 1 (by omega)
      rw [← hSe] at ns1 ns2
      have hR : RIn (xC t room k 0 p) (rcvJ t room k 1) (fun _ => rcvJ t room k 1) := ⟨rfl, rfl, ⟨by show (0 : Int) ≤ 1; decide, by show (1 : Int) ≤ 1000; decide⟩, by show 0 ≤ 5; decide, fun i h => absurd h (Nat.not_lt_zero i)⟩
      refine ⟨by show k + 1 + 0 ≤ 300; omega, by show k + 3 ≤ 100000; omega, .inr ⟨fun hf => hf.2.1 rfl, xD t room k, .d (by omega), rfl, by show 1 ≤ 1; decide, _, _, hR, .inr ⟨6 + 7 * (k + 1), hS, .inl ⟨?_, ?_⟩⟩⟩⟩
      · show passes (fateF (heldF k) (k + 3))
        rw [fate_gt (by omega)]; exact passes1
      · unfold passR xC xD
        simp only []
        rw [ns1, ns2, tickJ t room k (by decide)]
        rfl
  | d h =>
    have hR : RIn (xD t room k) (badR (rcvJ t room k 2)) (fun i => if i = 0 then rcvJ t room k 2 else badR (rcvJ t room k 2)) := ⟨rfl, rfl, ⟨by show (0 : Int) ≤ 2; decide, by show (2 : Int) ≤ 1000; decide⟩, by show 2 ≤ 5; decide, fun i h => by
      have hi : i = 0 ∨ i = 1 := by have : i < 2 := h; omega
      rcases hi with rfl | rfl
      · exact take_bad t room k 2 hk hl
      · exact take_idle t room k k 2 hl⟩
    refine ⟨by show k + 2 ≤ 300; omega, by show k + 4 ≤ 100000; omega, .inr ⟨fun hf => by have := hf.2.2; simp [xD] at this, ?_⟩⟩
    by_cases hlt : k + 2 < manyF t
    · obtain ⟨hS, hSe⟩ := sndA_ok t (k + 2) hlt hl
      obtain ⟨ns1, ns2⟩ := next_step t (k + 2) 1 hlt
      rw [← hSe] at ns1 ns2
      refine ⟨xE t room k (k + 3), .e (k + 3) (by omega) (by omega), rfl, by show 0 ≤ 1; decide, _, _, hR, .inr ⟨6 + 7 * (k + 2), hS, .inl ⟨?_, ?_⟩⟩⟩
      · show passes (fateF (heldF k) (k + 4))
        rw [fate_gt (by omega)]; exact passes1
      · unfold passR xD xE
        simp only [Nat.add_sub_cancel]
        rw [ns1, ns2, tickJ_bad]
        rfl
    · have hke : k + 2 = manyF t := by omega
      have h3 : (sndA t (k + 2)).st = 3 ∧ (sndA t (k + 2)).clk = 0 := by rw [hke]; exact hse
      refine ⟨xEnd t room k, .f, ?_, by show 0 ≤ 1; decide, _, _, hR, .inl ⟨h3.1, by rw [show (xD t room k).s = sndA t (k + 2) from rfl, h3.2]; decide, by rw [show (xD t room k).s = sndA t (k + 2) from rfl, h3.2]; decide, ?_⟩⟩
      · unfold xEnd
        rw [if_neg (by omega)]; show manyF t + 1 = k + 2 + 1; omega
      · unfold xEnd lastR xD
        rw [if_neg (by omega)]
        simp only []
        rw [tickJ_bad, ← hke]
  | e n h1 h2 =>
    obtain ⟨m, rfl⟩ : ∃ m, n = m + 1 := ⟨n - 1, by omega⟩
    have hR : RIn (xE t room k (m + 1)) (badR (rcvJ t room k 2)) (fun _ => badR (rcvJ t room k 2)) := ⟨rfl, rfl, ⟨by show (0 : Int) ≤ 2; decide, by show (2 : Int) ≤ 1000; decide⟩, by show 1 ≤ 5; decide, fun i h => by
      have hi : i = 0 := by have : i < 1 := h; omega
      subst hi
      exact take_idle t room k m 2 hl⟩
    refine ⟨by show m + 1 ≤ 300; omega, by show m + 1 + 2 ≤ 100000; omega, .inr ⟨fun hf => by have := hf.2.2; simp [xE] at this, ?_⟩⟩
    by_cases hlt : m + 1 < manyF t
    · obtain ⟨hS, hSe⟩ := sndA_ok t (m + 1) hlt hl
      obtain ⟨ns1, ns2⟩ := next_step t (m + 1) 1 hlt
      rw [← hSe] at ns1 ns2
      refine ⟨xE t room k (m + 2), .e (m + 2) (by omega) (by omega), rfl, by show 0 ≤ 1; decide, _, _, hR, .inr ⟨6 + 7 * (m + 1), hS, .inl ⟨?_, ?_⟩⟩⟩
      · show passes (fateF (heldF k) (m + 1 + 2))
        rw [fate_gt (by omega)]; exact passes1
      · unfold passR xE
        simp only [Nat.add_sub_cancel]
        rw [ns1, ns2, tickJ_bad]
        rfl
    · have hke : m + 1 = manyF t := by omega
      have h3 : (sndA t (m + 1)).st = 3 ∧ (sndA t (m + 1)).clk = 0 := by rw [hke]; exact hse
      refine ⟨xEnd t room k, .f, ?_, by show 0 ≤ 1; decide, _, _, hR, .inl ⟨h3.1, by rw [show (xE t room k (m + 1)).s = sndA t (m + 1) from rfl, h3.2]; decide, by rw [show (xE t room k (m + 1)).s = sndA t (m + 1) from rfl, h3.2]; decide, ?_⟩⟩
      · unfold xEnd
        rw [if_neg (by omega)]; show manyF t + 1 = m + 1 + 1; omega
      · unfold xEnd lastR xE
        rw [if_neg (by omega)]
        simp only []
        rw [tickJ_bad, ← hke]
end Go.Proofs.YtoifmpiikopelaaFw

/-
  tplink.Play of a text of which one part is held, and of nine bytes.
-/
namespace Go.Proofs.YtoifmpiikopelaaFw
open Go Go.Proofs
set_option linter.unusedVariables false
set_option linter.unusedSimpArgs false

theorem playHeld_ok (t : List Int) (k : Nat) (h1 : 8 ≤ t.length) (h2 : t.length ≤ 300) (hk : k < manyF t) :
    FnS Try.prog 5 [.sl false 1 (t.map encB), .int .i64 4095, .int .i64 0, .int .i64 0, .sl false 1 ((heldF k).map encI)] [] (.tup [.agg (encSnd (xEnd t 4095 k).s), .agg (encRcv (xEnd t 4095 k).r), .int .i64 (xEnd t 4095 k).n]) [] := by
  have hm43 : manyF t ≤ 43 := by unfold manyF; omega
  obtain ⟨ns1, ns2⟩ := next_step t 0 0 (by unfold manyF; omega)
  have hr : tickR (rcv1 t 4095) = rcvJ t 4095 0 1 := tickJ t 4095 0 (c := 0) (by decide)
  refine play_ok t 4095 (heldF k) h1 (by omega) (by rw [heldF_len]; omega) (by omega) (by rw [fate_lt (by omega)]; exact passes0) (by rw [fate_lt (by omega)]; exact passes0) (InvH t 4095 k) (xEnd t 4095 k) ?_ fun x hx => invH_step t 4095 k hk h2 x hx
  by_cases h0 : k = 0
  · subst h0
    refine .inr ⟨fate_eq 0, ?_⟩
    have e : heldR (ply1 t 4095) (rcv1 t 4095) 6 = xC t 4095 0 0 (prt t 0) := by
      unfold heldR
      rw [hr]
      show (⟨0 + 1, tickS (nextS (snd1 t) 6), _, [], [partP (snd1 t) 6], 2 + 1, partP (snd1 t) 6⟩ : PSt) = _
      rw [show tickS (nextS (snd1 t) 6) = sndA t 1 from ns1, show partP (snd1 t) 6 = prt t 0 from ns2]
      rfl
    rw [e]
    exact .c 0 _ (.inl rfl)
  · refine .inl ⟨by rw [fate_lt (by omega)]; exact passes0, ?_⟩
    have e : passR (ply1 t 4095) (rcv1 t 4095) 6 = xB t 4095 1 := by
      unfold passR
      rw [hr]
      show (⟨0 + 1, tickS (nextS (snd1 t) 6), _, partP (snd1 t) 6 :: [], [], 2 + 1, partP (snd1 t) 6⟩ : PSt) = _
      rw [show tickS (nextS (snd1 t) 6) = sndA t 1 from ns1, show partP (snd1 t) 6 = prt t 0 from ns2]
      rfl
    rw [e]
    exact .b 1 (by omega) (by omega)
/-- What the end says. -/
theorem xEnd_is (t : List Int) (k : Nat) (hk : k < manyF t) : (xEnd t 4095 k).s.st = 3 ∧ (xEnd t 4095 k).r.st = 4 ∧ (xEnd t 4095 k).r.err = if k + 1 = manyF t then 181 else 183 := by
  have hse := sndA_end t
  unfold xEnd
  by_cases h : k + 1 = manyF t
  · rw [if_pos h, if_pos h]
    refine ⟨?_, rfl, rfl⟩
    show (sndA t (k + 1)).st = 3
    rw [h]; exact hse.1
  · rw [if_neg h, if_neg h]
    exact ⟨hse.1, rfl, rfl⟩
def t9 : List Int := [1, 2, 3, 4, 5, 6, 7, 8, 9]
def s9 : Snd := ⟨3, t9, 9, 2, -1, 0, 0, 0, 0⟩
def r9a : Rcv := ⟨2, 9, [1, 2, 3, 4, 5, 6], 1, -1, 0, 0, 1, 9, 0⟩
def r9b : Rcv := ⟨3, 9, t9, 2, -1, 0, 0, 0, 9, 0⟩
def p9 : Pdu := ⟨3, 0, 1, 0, 0, 0, [7, 8, 9]⟩
def x9a : PSt := ⟨1, s9, r9a, [p9], [], 3, p9⟩
def x9b : PSt := ⟨2, s9, r9b, [], [], 3, pdu0⟩
theorem play9_ok : FnS Try.prog 5 [.sl false 1 (t9.map encB), .int .i64 9, .int .i64 0, .int .i64 0, .sl false 1 (([] : List Int).map encI)] [] (.tup [.agg (encSnd s9), .agg (encRcv r9b), .int .i64 2]) [] := by
  have hf : ∀ n, fateF [] n = 1 := fun n => if_neg (Nat.not_lt_zero n)
  have htk : FnS Try.prog 14 [.agg (encRcv r9a), .agg (encPdu p9)] [] (.tup [.agg (encRcv r9b), .agg (encPdu pdu0), .bool false]) [] :=
    takeNext_ok _ _ p9 pdu0 false rfl (nextGood_ok r9a p9 rfl (by decide) (by decide) (by decide) rfl (by decide) rfl (by decide))
  refine play_ok t9 9 [] (by decide) (by decide) (by decide) (by decide) (by rw [hf]; exact passes1) (by rw [hf]; exact passes1) (fun x => x = x9a ∨ x = x9b) x9b (.inl ⟨by rw [hf]; exact passes1, .inl rfl⟩) fun x hx => ?_
  rcases hx with rfl | rfl
  · refine ⟨by decide, by decide, .inr ⟨fun h => by have := h.2.1; exact this rfl, x9b, .inr rfl, rfl, by decide, r9b, (fun i => if i = 0 then r9a else r9b), ⟨rfl, rfl, ⟨by decide, by decide⟩, by decide, fun i h => ?_⟩, .inl ⟨rfl, by decide, by decide, rfl⟩⟩⟩
    have hi : i = 0 := by have : i < 1 := h; omega
    subst hi
    exact htk
  · exact ⟨by decide, by decide, .inl ⟨⟨rfl, by show (3 : Int) ≠ 2; decide, rfl⟩, rfl⟩⟩
end Go.Proofs.YtoifmpiikopelaaFw

/-
  Walks: tp.Parts of nine bytes.
-/
namespace Go.Proofs.YtoifmpiikopelaaFw
open Go Go.Proofs
set_option maxRecDepth 100000
set_option maxHeartbeats 4000000
set_option linter.unusedVariables false
set_option linter.unusedSimpArgs false

/-- At the end, too, less may be said. -/
theorem awp_weak {P : Program} {B : Base} {Q : Post} {s : AS} {c : Code} (h : AWp P B c { Q with n := fun s1 => ∃ s2, s1.le B s2 ∧ Q.n s2 } s) : AWp P B c Q s := fun a w hs => by
  refine wp_mono (h a w hs) ?_
  rintro e a' w' ⟨s1, h1, h2⟩
  cases e with
  | normal => obtain ⟨s2, h3, h4⟩ := h1; exact ⟨s2, h4, h3 a' w' h2⟩
  | _ => exact ⟨s1, h1, h2⟩
theorem awpR_weak {P : Program} {B : Base} {l : Nat} {Q : Post} {s : AS} {c : Code} (h : AWpR P B l c { Q with n := fun s1 => ∃ s2, s1.le B s2 ∧ Q.n s2 } s) : AWpR P B l c Q s := fun a w hs => by
  refine wpIn_mono (h a w hs) ?_
  rintro e a' w' ⟨s1, h1, h2⟩
  cases e with
  | normal => obtain ⟨s2, h3, h4⟩ := h1; exact ⟨s2, h4, h3 a' w' h2⟩
  | _ => exact ⟨s1, h1, h2⟩
theorem chunk_ok (l : List Int) : FnS Try.prog 21 [.sl false 1 (l.map encB), .int .i64 7] [] (.fn (.func 29) [] [.ptr 0 0, .ptr 1 0]) [(0, .box [.sl false 1 (l.map encB)]), (1, .box [.int .i64 7])] := by
  refine fn_walkN tabOk Try.func21 rfl (by decide +kernel) Try.ntmps21 Try.results21 (by simp) fun B hB => ?_
  try refine hK _ ?_
  repeat (first | refine awp_seq ?_ | refine awp_block ?_ | refine awp_skip ?_ | refine awp_scope ?_ | refine awp_label ?_)
  refine awp_region tabOk fun K hK => ?_
  simp -dsimp -implicitDefEqProofs only [push_cast, ↓trAdd_f, ↓stOf_f, Nat.reduceBEq, Int.reduceBEq, Int.reduceBNe, Int.reduceNeg, Int.reduceAdd, Int.reduceSub, Int.reduceLT, Int.reduceLE, Int.reduceMul, Nat.reducePow, Int.reducePow, Nat.reduceAdd, Nat.reduceEqDiff, Nat.reduceLT, Nat.reduceLeDiff, Nat.reduceMul, Nat.reduceSub, reduceCtorEq, ↓reduceIte]
  refine hK _ ?_
  try refine hK _ ?_
  repeat (first | refine awp_seq ?_ | refine awp_block ?_ | refine awp_skip ?_ | refine awp_scope ?_ | refine awp_label ?_)
  refine awp_region tabOk fun K hK => ?_
  simp -dsimp -implicitDefEqProofs only [push_cast, ↓trAdd_f, ↓stOf_f, Nat.reduceBEq, Int.reduceBEq, Int.reduceBNe, Int.reduceNeg, Int.reduceAdd, Int.reduceSub, Int.reduceLT, Int.reduceLE, Int.reduceMul, Nat.reducePow, Int.reducePow, Nat.reduceAdd, Nat.reduceEqDiff, Nat.reduceLT, Nat.reduceLeDiff, Nat.reduceMul, Nat.reduceSub, reduceCtorEq, ↓reduceIte]
  refine hK _ ?_
  try refine hK _ ?_
  repeat (first | refine awp_seq ?_ | refine awp_block ?_ | refine awp_skip ?_ | refine awp_scope ?_ | refine awp_label ?_)
  refine awp_cond (b := false) (by simp -dsimp -implicitDefEqProofs only [push_cast, ↓trAdd_f, ↓stOf_f, Nat.reduceBEq, Int.reduceBEq, Int.reduceBNe, Int.reduceNeg, Int.reduceAdd, Int.reduceSub, Int.reduceLT, Int.reduceLE, Int.reduceMul, Nat.reducePow, Int.reducePow, Nat.reduceAdd, Nat.reduceEqDiff, Nat.reduceLT, Nat.reduceLeDiff, Nat.reduceMul, Nat.reduceSub, reduceCtorEq, ↓reduceIte]) (fun h => ?_) (fun h => ?_)
  · cases h
  refine awp_skip ?_
  try refine hK _ ?_
  repeat (first | refine awp_seq ?_ | refine awp_block ?_ | refine awp_skip ?_ | refine awp_scope ?_ | refine awp_label ?_)
  refine awp_region tabOk fun K hK => ?_
  simp -dsimp -implicitDefEqProofs only [push_cast, ↓trAdd_f, ↓stOf_f, Nat.reduceBEq, Int.reduceBEq, Int.reduceBNe, Int.reduceNeg, Int.reduceAdd, Int.reduceSub, Int.reduceLT, Int.reduceLE, Int.reduceMul, Nat.reducePow, Int.reducePow, Nat.reduceAdd, Nat.reduceEqDiff, Nat.reduceLT, Nat.reduceLeDiff, Nat.reduceMul, Nat.reduceSub, reduceCtorEq, ↓reduceIte]
  refine hK _ ?_
  refine awp_le (s' := { sl := [(4, .fn (.func 29) [] [.ptr 0 0, .ptr 1 0])], st := [(0, .box [.sl false 1 (l.map encB)]), (1, .box [.int .i64 7])], nx := 8, n := 9 }) ?_ (awp_ret ?_)
  · refine le_intro hB [(0, 0), (1, 8)] (by simp) (fun b hb => absurd hb (Nat.not_lt_zero b)) rfl ?_ ?_ rfl <;> simp -dsimp -implicitDefEqProofs only [bytes_ren, bytes_okl, List.forall_mem_cons, List.forall_mem_append, forall_nil_i, List.not_mem_nil, Int.natCast_zero, Int.natCast_add, Int.natCast_one, implies_true, imp_self_i, false_imp_i, slotsLe, storeLe, PV.ren, renL, renG, PV.ok, okL, Blk.ren, Blk.ok, distinct, wk, wkA, wkAL, wkC, wkL, wkB, blkLe, List.cons.injEq, true_or, PV.int.injEq, PV.bool.injEq, AS.get, getPV, lk, Int.cast_ofNat_Int, Int.natCast_one, Int.reduceBEq, Int.reduceBNe, Int.reduceNeg, int_toNat_zero_i, Nat.sub_zero, Int.natCast_zero, Int.reduceAdd, Int.reduceSub, Int.reduceLT, Int.reduceLE, Int.reduceMul, Int.zero_add, decide_true, decide_false, Nat.reducePow, Int.reducePow, Nat.reduceAdd, Nat.reduceEqDiff, Nat.reduceLT, Nat.reduceLeDiff, Nat.reduceMul, Nat.reduceSub, Nat.reduceBEq, Nat.le_refl, Nat.zero_add, Nat.add_zero, reduceCtorEq, or_true, true_or, or_false, false_or, if_true, if_false, ↓reduceIte, true_and, and_true, and_self, Bool.not_true, Bool.not_false, cond_true, cond_false, Bool.true_eq_false, Bool.false_eq_true, ne_eq, not_false_eq_true, not_true_eq_false, Bool.and_true, Bool.true_and, Bool.and_false, Bool.false_and, Bool.or_true, Bool.true_or, Bool.or_false, Bool.false_or, List.isEmpty_nil, List.map_cons, List.map_nil, List.length_cons, List.length_nil, List.length_map, List.getD_cons_zero, List.getD_cons_succ, List.getD_nil, List.getElem?_cons_zero, List.getElem?_cons_succ, List.getElem?_nil, List.take_succ_cons, List.take_zero, List.take_nil, List.drop_succ_cons, List.drop_zero, List.drop_nil, List.nil_append, List.cons_append, List.append_nil, Option.getD_some, Option.getD_none, Option.map_some, Option.map_none, Int.toNat_natCast]
  simp -dsimp -implicitDefEqProofs only [bytes_okl, List.flatMap_cons, List.flatMap_nil, List.mem_append, Blk.ok, PV.ok, okL, List.length_append, take_map_len, implies_true, imp_self_i, false_imp_i, endOk, endOkP, resVals, joinRes, view, viewA, viewC, viewOk, viewOkA, viewOkC, storeEnd, wk, wkA, wkAL, wkC, wkL, wkB, blkLe, true_or, PV.int.injEq, PV.bool.injEq, idsA, PV.fz, fzL, ids, idsC, fLoad, outP, TI.n, TI.isAgg, List.not_mem_nil, List.mem_cons, List.mem_singleton, forall_eq_or_imp, forall_eq, AS.get, getPV, lk, Int.cast_ofNat_Int, Int.natCast_one, Int.reduceBEq, Int.reduceBNe, Int.reduceNeg, int_toNat_zero_i, Nat.sub_zero, Int.natCast_zero, Int.reduceAdd, Int.reduceSub, Int.reduceLT, Int.reduceLE, Int.reduceMul, Int.zero_add, decide_true, decide_false, Nat.reducePow, Int.reducePow, Nat.reduceAdd, Nat.reduceEqDiff, Nat.reduceLT, Nat.reduceLeDiff, Nat.reduceMul, Nat.reduceSub, Nat.reduceBEq, Nat.le_refl, Nat.zero_add, Nat.add_zero, reduceCtorEq, or_true, true_or, or_false, false_or, if_true, if_false, ↓reduceIte, true_and, and_true, and_self, Bool.not_true, Bool.not_false, cond_true, cond_false, Bool.true_eq_false, Bool.false_eq_true, ne_eq, not_false_eq_true, not_true_eq_false, Bool.and_true, Bool.true_and, Bool.and_false, Bool.false_and, Bool.or_true, Bool.true_or, Bool.or_false, Bool.false_or, List.isEmpty_nil, List.map_cons, List.map_nil, List.length_cons, List.length_nil, List.length_map, List.getD_cons_zero, List.getD_cons_succ, List.getD_nil, List.getElem?_cons_zero, List.getElem?_cons_succ, List.getElem?_nil, List.take_succ_cons, List.take_zero, List.take_nil, List.drop_succ_cons, List.drop_zero, List.drop_nil, List.nil_append, List.cons_append, List.append_nil, Option.getD_some, Option.getD_none, Option.map_some, Option.map_none, Int.toNat_natCast, T_1, T_2, T_3, T_4, T_5, T_6, T_7, T_8, T_9, T_10, T_11, T_12, T_13, T_14, T_15, T_16, T_17, T_18, T_19, T_21, T_22, T_23, T_24, T_25, T_26, T_27, T_28, T_29, T_30, T_32, T_34, T_35, T_36, T_38, T_39, T_40, T_41, T_42, T_44, T_45, T_46, T_47, T_48, T_49, T_51, T_52, T_54, T_55, T_56, T_57, T_58, T_59, T_60, T_61, T_62, T_63, T_64, T_65, T_66, T_67, T_69, T_70, T_72, T_73, T_74, T_75, T_76, T_77, T_78, T_79, T_80, T_81, T_82, T_83, T_84, T_85, T_86, T_87, T_88, T_89, T_90, T_91, T_92, T_93, T_94, T_95, T_96, T_97, T_98, T_99, T_100, T_101, T_102, T_103, T_104]
def hd9 : Pdu := ⟨2, 9, 0, 0, 0, 0, [1, 2, 3, 4, 5, 6]⟩
def co9 : CallO := { args := [.sl true 1 ([7, 8, 9].map encB)], st0 := [(0, .box [.own 1 7 0 1]), (1, .row 7 [encPdu hd9])], res := .bool true, st1 := [(0, .box [.own 2 7 0 2]), (2, .row 7 [encPdu hd9, encPdu p9])], r := [0, 1] }
def ch9 (l : Nat) : Bool → AS
  | false => { sl := [(0, .fn (.yield l) [] []), (1, .ptr 2 0), (2, .ptr 3 0), (4, .int .i64 0)], st := [(0, .box [.own 1 7 0 1]), (1, .row 7 [encPdu hd9]), (2, .box [.sl false 1 ([7, 8, 9].map encB)]), (3, .box [.int .i64 7])], nx := 200, n := 31 }
  | true => { sl := [(0, .fn (.yield l) [] []), (1, .ptr 2 0), (2, .ptr 3 0), (4, .int .i64 7)], st := [(0, .box [.own 4 7 0 2]), (4, .row 7 [encPdu hd9, encPdu p9]), (2, .box [.sl false 1 ([7, 8, 9].map encB)]), (3, .box [.int .i64 7])], nx := 200, n := 31 }
theorem chunk1_ok {l : Nat} {rec : Loop} {K : List (Option Addr)} (hKl : K.length = 1) (hY : YJ Try.prog l rec K none co9) :
    FnJ Try.prog l rec K none 29 [.fn (.yield l) [] [], .ptr 2 0, .ptr 3 0] [(0, .box [.own 1 7 0 1]), (1, .row 7 [encPdu hd9]), (2, .box [.sl false 1 ([7, 8, 9].map encB)]), (3, .box [.int .i64 7])] (.tup [])
      [(0, .box [.own 4 7 0 2]), (4, .row 7 [encPdu hd9, encPdu p9]), (2, .box [.sl false 1 ([7, 8, 9].map encB)]), (3, .box [.int .i64 7])] := by
  refine fnJ_walk tabOk Try.func29 rfl (by decide +kernel) Try.ntmps29 Try.results29 (by simp) fun B hR hKn hB => ?_
  refine awpF_of (awp_weak ?_)
  try refine hK _ ?_
  repeat (first | refine awp_seq ?_ | refine awp_block ?_ | refine awp_skip ?_ | refine awp_scope ?_ | refine awp_label ?_)
  refine awp_region tabOk fun K hK => ?_
  simp -dsimp -implicitDefEqProofs only [push_cast, ↓trAdd_f, ↓stOf_f, Nat.reduceBEq, Int.reduceBEq, Int.reduceBNe, Int.reduceNeg, Int.reduceAdd, Int.reduceSub, Int.reduceLT, Int.reduceLE, Int.reduceMul, Nat.reducePow, Int.reducePow, Nat.reduceAdd, Nat.reduceEqDiff, Nat.reduceLT, Nat.reduceLeDiff, Nat.reduceMul, Nat.reduceSub, reduceCtorEq, ↓reduceIte]
  refine hK _ (awp_block ?_)
  have v0 : IntKind.i64.wrap 3 = 3 := rfl
  have v7 : IntKind.i64.wrap 7 = 7 := rfl
  have z0 : Int.toNat 0 = 0 := rfl
  have z3 : Int.toNat 3 = 3 := rfl
  have m3 : min (7 : Int) 3 = 3 := by decide
  refine awp_for (fun b : Bool => ch9 l b) (fun _ => True) (fun b => cond b 0 1) false trivial ?_ fun b _ => ?_
  · simp only [ch9]
    refine le_intro hB [] (by simp) (fun b hb => by rcases b with _ | _ | _ | _ | _ | _ | b <;> first | rfl | (exfalso; revert hb; simp; done) | (exfalso; simp at hb; omega)) rfl ?_ ?_ rfl <;> simp -dsimp -implicitDefEqProofs only [encPdu, hd9, bytes_ren, bytes_okl, encB, List.forall_mem_cons, List.forall_mem_append, forall_nil_i, List.not_mem_nil, Int.natCast_zero, Int.natCast_add, Int.natCast_one, implies_true, imp_self_i, false_imp_i, slotsLe, storeLe, PV.ren, renL, renG, PV.ok, okL, Blk.ren, Blk.ok, distinct, wk, wkA, wkAL, wkC, wkL, wkB, blkLe, List.cons.injEq, true_or, PV.int.injEq, PV.bool.injEq, AS.get, getPV, lk, Int.cast_ofNat_Int, Int.natCast_one, Int.reduceBEq, Int.reduceBNe, Int.reduceNeg, int_toNat_zero_i, Nat.sub_zero, Int.natCast_zero, Int.reduceAdd, Int.reduceSub, Int.reduceLT, Int.reduceLE, Int.reduceMul, Int.zero_add, decide_true, decide_false, Nat.reducePow, Int.reducePow, Nat.reduceAdd, Nat.reduceEqDiff, Nat.reduceLT, Nat.reduceLeDiff, Nat.reduceMul, Nat.reduceSub, Nat.reduceBEq, Nat.le_refl, Nat.zero_add, Nat.add_zero, reduceCtorEq, or_true, true_or, or_false, false_or, if_true, if_false, ↓reduceIte, true_and, and_true, and_self, Bool.not_true, Bool.not_false, cond_true, cond_false, Bool.true_eq_false, Bool.false_eq_true, ne_eq, not_false_eq_true, not_true_eq_false, Bool.and_true, Bool.true_and, Bool.and_false, Bool.false_and, Bool.or_true, Bool.true_or, Bool.or_false, Bool.false_or, List.isEmpty_nil, List.map_cons, List.map_nil, List.length_cons, List.length_nil, List.length_map, List.getD_cons_zero, List.getD_cons_succ, List.getD_nil, List.getElem?_cons_zero, List.getElem?_cons_succ, List.getElem?_nil, List.take_succ_cons, List.take_zero, List.take_nil, List.drop_succ_cons, List.drop_zero, List.drop_nil, List.nil_append, List.cons_append, List.append_nil, Option.getD_some, Option.getD_none, Option.map_some, Option.map_none, Int.toNat_natCast]
  cases b with
  | false =>
    simp only [ch9]
    try refine hK _ ?_
    repeat (first | refine awp_seq ?_ | refine awp_block ?_ | refine awp_skip ?_ | refine awp_scope ?_ | refine awp_label ?_)
    refine awp_region tabOk fun K hK => ?_
    simp -dsimp -implicitDefEqProofs only [push_cast, ↓trAdd_f, ↓stOf_f, Nat.reduceBEq, Int.reduceBEq, Int.reduceBNe, Int.reduceNeg, Int.reduceAdd, Int.reduceSub, Int.reduceLT, Int.reduceLE, Int.reduceMul, Nat.reducePow, Int.reducePow, Nat.reduceAdd, Nat.reduceEqDiff, Nat.reduceLT, Nat.reduceLeDiff, Nat.reduceMul, Nat.reduceSub, reduceCtorEq, ↓reduceIte]
    try refine hK _ ?_
    repeat (first | refine awp_seq ?_ | refine awp_block ?_ | refine awp_skip ?_ | refine awp_scope ?_ | refine awp_label ?_)
    refine awp_cond (b := true) (by simp -dsimp -implicitDefEqProofs only [push_cast, ↓trAdd_f, ↓stOf_f, Nat.reduceBEq, Int.reduceBEq, Int.reduceBNe, Int.reduceNeg, Int.reduceAdd, Int.reduceSub, Int.reduceLT, Int.reduceLE, Int.reduceMul, Nat.reducePow, Int.reducePow, Nat.reduceAdd, Nat.reduceEqDiff, Nat.reduceLT, Nat.reduceLeDiff, Nat.reduceMul, Nat.reduceSub, reduceCtorEq, ↓reduceIte]) (fun h => ?_) (fun h => ?_)
    rotate_left
    · cases h
    refine awp_skip ?_
    try refine hK _ ?_
    repeat (first | refine awp_seq ?_ | refine awp_block ?_ | refine awp_skip ?_ | refine awp_scope ?_ | refine awp_label ?_)
    refine awp_draw tabOk (by kernel_rfl) (by kernel_rfl) fun K hK C hC => ?_
    simp -dsimp -implicitDefEqProofs only [m3, z0, z3, push_cast, ↓trAdd_f, ↓stOf_f, Nat.reduceBEq, Int.reduceBEq, Int.reduceBNe, Int.reduceNeg, Int.reduceAdd, Int.reduceSub, Int.reduceLT, Int.reduceLE, Int.reduceMul, Nat.reducePow, Int.reducePow, Nat.reduceAdd, Nat.reduceEqDiff, Nat.reduceLT, Nat.reduceLeDiff, Nat.reduceMul, Nat.reduceSub, reduceCtorEq, ↓reduceIte]
    refine ⟨hC _ (by kernel_rfl), hK _ (awp_seq ?_)⟩
    refine awp_region_y1 (l1 := [_, _, _, _, _, _, _, _, _, _]) tabOk hR hKn fun K hK => ?_
    simp -dsimp -implicitDefEqProofs only [v0, z0, z3, push_cast, ↓trAdd_f, ↓stOf_f, Nat.reduceBEq, Int.reduceBEq, Int.reduceBNe, Int.reduceNeg, Int.reduceAdd, Int.reduceSub, Int.reduceLT, Int.reduceLE, Int.reduceMul, Nat.reducePow, Int.reducePow, Nat.reduceAdd, Nat.reduceEqDiff, Nat.reduceLT, Nat.reduceLeDiff, Nat.reduceMul, Nat.reduceSub, reduceCtorEq, ↓reduceIte]
    refine ⟨fun m h => by cases h; exact ⟨rfl, rfl⟩, by show (29 : Nat) < 31; decide, rfl, co9, hY, by rw [hKl]; rfl, ?_, ?_⟩
    · simp only [co9]
      simp -dsimp -implicitDefEqProofs only [encPdu, hd9, p9, encB, bytes_okl, bytes_ren, fCall, argsOk, argOk, lentOk, CallO.ren, CallO.keep, seenIds, distinct, blksOk, Blk.ok, PV.ok, okL, PV.ren, renL, Blk.ren, List.isEmpty_cons, List.isEmpty_nil, List.contains_nil, List.contains_cons, BEq.rfl, range_one_i, and_true, true_and, forall_nil_i, List.forall_mem_cons, Option.some.injEq, Blk.box.injEq, Blk.row.injEq, List.cons.injEq, take_map_len, restr, List.contains_nil, List.contains_cons, BEq.rfl, Nat.reduceBEq, implies_true, imp_self_i, false_imp_i, argsV, PV.fz, fzL, view, viewA, viewC, viewOk, viewOkA, viewOkC, seenV, ids, idsA, idsC, PV.scalar, PV.scalarA, PV.scalarC, VT.fr, wk, wkA, wkAL, wkC, wkL, wkB, blkLe, true_or, List.mem_cons, List.mem_singleton, List.not_mem_nil, forall_eq_or_imp, forall_eq, List.all_cons, List.all_nil, List.flatMap_cons, List.flatMap_nil, AS.get, getPV, lk, Int.cast_ofNat_Int, Int.natCast_one, Int.reduceBEq, Int.reduceBNe, Int.reduceNeg, int_toNat_zero_i, Nat.sub_zero, Int.natCast_zero, Int.reduceAdd, Int.reduceSub, Int.reduceLT, Int.reduceLE, Int.reduceMul, Int.zero_add, decide_true, decide_false, Nat.reducePow, Int.reducePow, Nat.reduceAdd, Nat.reduceEqDiff, Nat.reduceLT, Nat.reduceLeDiff, Nat.reduceMul, Nat.reduceSub, Nat.reduceBEq, Nat.le_refl, Nat.zero_add, Nat.add_zero, reduceCtorEq, or_true, true_or, or_false, false_or, if_true, if_false, ↓reduceIte, true_and, and_true, and_self, Bool.not_true, Bool.not_false, cond_true, cond_false, Bool.true_eq_false, Bool.false_eq_true, ne_eq, not_false_eq_true, not_true_eq_false, Bool.and_true, Bool.true_and, Bool.and_false, Bool.false_and, Bool.or_true, Bool.true_or, Bool.or_false, Bool.false_or, List.isEmpty_nil, List.map_cons, List.map_nil, List.length_cons, List.length_nil, List.length_map, List.getD_cons_zero, List.getD_cons_succ, List.getD_nil, List.getElem?_cons_zero, List.getElem?_cons_succ, List.getElem?_nil, List.take_succ_cons, List.take_zero, List.take_nil, List.drop_succ_cons, List.drop_zero, List.drop_nil, List.nil_append, List.cons_append, List.append_nil, Option.getD_some, Option.getD_none, Option.map_some, Option.map_none, Int.toNat_natCast]
      rfl
    simp only [co9]
    simp -dsimp -implicitDefEqProofs only [encPdu, hd9, p9, encB, bytes_ren, PV.fz, fzL, fCall, CallO.ren, CallO.keep, seenIds, PV.ren, renL, Blk.ren, List.isEmpty_cons, List.isEmpty_nil, push_cast, ↓trAdd_f, ↓stOf_f, Nat.reduceBEq, Int.reduceBEq, Int.reduceBNe, Int.reduceNeg, Int.reduceAdd, Int.reduceSub, Int.reduceLT, Int.reduceLE, Int.reduceMul, Nat.reducePow, Int.reducePow, Nat.reduceAdd, Nat.reduceEqDiff, Nat.reduceLT, Nat.reduceLeDiff, Nat.reduceMul, Nat.reduceSub, reduceCtorEq, ↓reduceIte]
    refine hK _ ?_
    try refine hK _ ?_
    repeat (first | refine awp_seq ?_ | refine awp_block ?_ | refine awp_skip ?_ | refine awp_scope ?_ | refine awp_label ?_)
    refine awp_cond (b := false) (by simp -dsimp -implicitDefEqProofs only [push_cast, ↓trAdd_f, ↓stOf_f, Nat.reduceBEq, Int.reduceBEq, Int.reduceBNe, Int.reduceNeg, Int.reduceAdd, Int.reduceSub, Int.reduceLT, Int.reduceLE, Int.reduceMul, Nat.reducePow, Int.reducePow, Nat.reduceAdd, Nat.reduceEqDiff, Nat.reduceLT, Nat.reduceLeDiff, Nat.reduceMul, Nat.reduceSub, reduceCtorEq, ↓reduceIte]) (fun h => ?_) (fun h => ?_)
    · cases h
    refine awp_skip ?_
    try refine hK _ ?_
    repeat (first | refine awp_seq ?_ | refine awp_block ?_ | refine awp_skip ?_ | refine awp_scope ?_ | refine awp_label ?_)
    refine awp_region tabOk fun K hK => ?_
    simp -dsimp -implicitDefEqProofs only [v7, push_cast, ↓trAdd_f, ↓stOf_f, Nat.reduceBEq, Int.reduceBEq, Int.reduceBNe, Int.reduceNeg, Int.reduceAdd, Int.reduceSub, Int.reduceLT, Int.reduceLE, Int.reduceMul, Nat.reducePow, Int.reducePow, Nat.reduceAdd, Nat.reduceEqDiff, Nat.reduceLT, Nat.reduceLeDiff, Nat.reduceMul, Nat.reduceSub, reduceCtorEq, ↓reduceIte]
    refine hK _ ⟨true, trivial, by decide, ?_⟩
    simp only [ch9]

    refine le_intro hB [(4, 368)] (by simp) (fun b hb => by rcases b with _ | _ | _ | _ | _ | _ | b <;> first | rfl | (exfalso; revert hb; simp; done) | (exfalso; simp at hb; omega)) rfl ?_ ?_ rfl <;> simp -dsimp -implicitDefEqProofs only [encPdu, hd9, p9, bytes_ren, bytes_okl, encB, List.forall_mem_cons, List.forall_mem_append, forall_nil_i, List.not_mem_nil, Int.natCast_zero, Int.natCast_add, Int.natCast_one, implies_true, imp_self_i, false_imp_i, slotsLe, storeLe, PV.ren, renL, renG, PV.ok, okL, Blk.ren, Blk.ok, distinct, wk, wkA, wkAL, wkC, wkL, wkB, blkLe, List.cons.injEq, true_or, PV.int.injEq, PV.bool.injEq, AS.get, getPV, lk, Int.cast_ofNat_Int, Int.natCast_one, Int.reduceBEq, Int.reduceBNe, Int.reduceNeg, int_toNat_zero_i, Nat.sub_zero, Int.natCast_zero, Int.reduceAdd, Int.reduceSub, Int.reduceLT, Int.reduceLE, Int.reduceMul, Int.zero_add, decide_true, decide_false, Nat.reducePow, Int.reducePow, Nat.reduceAdd, Nat.reduceEqDiff, Nat.reduceLT, Nat.reduceLeDiff, Nat.reduceMul, Nat.reduceSub, Nat.reduceBEq, Nat.le_refl, Nat.zero_add, Nat.add_zero, reduceCtorEq, or_true, true_or, or_false, false_or, if_true, if_false, ↓reduceIte, true_and, and_true, and_self, Bool.not_true, Bool.not_false, cond_true, cond_false, Bool.true_eq_false, Bool.false_eq_true, ne_eq, not_false_eq_true, not_true_eq_false, Bool.and_true, Bool.true_and, Bool.and_false, Bool.false_and, Bool.or_true, Bool.true_or, Bool.or_false, Bool.false_or, List.isEmpty_nil, List.map_cons, List.map_nil, List.length_cons, List.length_nil, List.length_map, List.getD_cons_zero, List.getD_cons_succ, List.getD_nil, List.getElem?_cons_zero, List.getElem?_cons_succ, List.getElem?_nil, List.take_succ_cons, List.take_zero, List.take_nil, List.drop_succ_cons, List.drop_zero, List.drop_nil, List.nil_append, List.cons_append, List.append_nil, Option.getD_some, Option.getD_none, Option.map_some, Option.map_none, Int.toNat_natCast]
  | true =>
    simp only [ch9]
    try refine hK _ ?_
    repeat (first | refine awp_seq ?_ | refine awp_block ?_ | refine awp_skip ?_ | refine awp_scope ?_ | refine awp_label ?_)
    refine awp_region tabOk fun K hK => ?_
    simp -dsimp -implicitDefEqProofs only [push_cast, ↓trAdd_f, ↓stOf_f, Nat.reduceBEq, Int.reduceBEq, Int.reduceBNe, Int.reduceNeg, Int.reduceAdd, Int.reduceSub, Int.reduceLT, Int.reduceLE, Int.reduceMul, Nat.reducePow, Int.reducePow, Nat.reduceAdd, Nat.reduceEqDiff, Nat.reduceLT, Nat.reduceLeDiff, Nat.reduceMul, Nat.reduceSub, reduceCtorEq, ↓reduceIte]
    try refine hK _ ?_
    repeat (first | refine awp_seq ?_ | refine awp_block ?_ | refine awp_skip ?_ | refine awp_scope ?_ | refine awp_label ?_)
    refine awp_cond (b := false) (by simp -dsimp -implicitDefEqProofs only [push_cast, ↓trAdd_f, ↓stOf_f, Nat.reduceBEq, Int.reduceBEq, Int.reduceBNe, Int.reduceNeg, Int.reduceAdd, Int.reduceSub, Int.reduceLT, Int.reduceLE, Int.reduceMul, Nat.reducePow, Int.reducePow, Nat.reduceAdd, Nat.reduceEqDiff, Nat.reduceLT, Nat.reduceLeDiff, Nat.reduceMul, Nat.reduceSub, reduceCtorEq, ↓reduceIte]) (fun h => ?_) (fun h => ?_)
    · cases h
    refine awp_exit rfl ?_
    refine ⟨{ sl := [], st := [(0, .box [.own 4 7 0 2]), (4, .row 7 [encPdu hd9, encPdu p9]), (2, .box [.sl false 1 ([7, 8, 9].map encB)]), (3, .box [.int .i64 7])], nx := 210, n := 31 }, ?_, ?_⟩
    · refine le_intro hB [] (by simp) (fun b hb => by rcases b with _ | _ | _ | _ | _ | _ | b <;> first | rfl | (exfalso; revert hb; simp; done) | (exfalso; simp at hb; omega)) rfl ?_ ?_ rfl <;> simp -dsimp -implicitDefEqProofs only [encPdu, hd9, p9, bytes_ren, bytes_okl, encB, List.forall_mem_cons, List.forall_mem_append, forall_nil_i, List.not_mem_nil, Int.natCast_zero, Int.natCast_add, Int.natCast_one, implies_true, imp_self_i, false_imp_i, slotsLe, storeLe, PV.ren, renL, renG, PV.ok, okL, Blk.ren, Blk.ok, distinct, wk, wkA, wkAL, wkC, wkL, wkB, blkLe, List.cons.injEq, true_or, PV.int.injEq, PV.bool.injEq, AS.get, getPV, lk, Int.cast_ofNat_Int, Int.natCast_one, Int.reduceBEq, Int.reduceBNe, Int.reduceNeg, int_toNat_zero_i, Nat.sub_zero, Int.natCast_zero, Int.reduceAdd, Int.reduceSub, Int.reduceLT, Int.reduceLE, Int.reduceMul, Int.zero_add, decide_true, decide_false, Nat.reducePow, Int.reducePow, Nat.reduceAdd, Nat.reduceEqDiff, Nat.reduceLT, Nat.reduceLeDiff, Nat.reduceMul, Nat.reduceSub, Nat.reduceBEq, Nat.le_refl, Nat.zero_add, Nat.add_zero, reduceCtorEq, or_true, true_or, or_false, false_or, if_true, if_false, ↓reduceIte, true_and, and_true, and_self, Bool.not_true, Bool.not_false, cond_true, cond_false, Bool.true_eq_false, Bool.false_eq_true, ne_eq, not_false_eq_true, not_true_eq_false, Bool.and_true, Bool.true_and, Bool.and_false, Bool.false_and, Bool.or_true, Bool.true_or, Bool.or_false, Bool.false_or, List.isEmpty_nil, List.map_cons, List.map_nil, List.length_cons, List.length_nil, List.length_map, List.getD_cons_zero, List.getD_cons_succ, List.getD_nil, List.getElem?_cons_zero, List.getElem?_cons_succ, List.getElem?_nil, List.take_succ_cons, List.take_zero, List.take_nil, List.drop_succ_cons, List.drop_zero, List.drop_nil, List.nil_append, List.cons_append, List.append_nil, Option.getD_some, Option.getD_none, Option.map_some, Option.map_none, Int.toNat_natCast]
    simp -dsimp -implicitDefEqProofs only [encPdu, hd9, p9, bytes_okl, encB, List.flatMap_cons, List.flatMap_nil, List.mem_append, Blk.ok, PV.ok, okL, List.length_append, take_map_len, implies_true, imp_self_i, false_imp_i, endOk, endOkP, resVals, joinRes, view, viewA, viewC, viewOk, viewOkA, viewOkC, storeEnd, wk, wkA, wkAL, wkC, wkL, wkB, blkLe, true_or, PV.int.injEq, PV.bool.injEq, idsA, PV.fz, fzL, ids, idsC, fLoad, outP, TI.n, TI.isAgg, List.not_mem_nil, List.mem_cons, List.mem_singleton, forall_eq_or_imp, forall_eq, AS.get, getPV, lk, Int.cast_ofNat_Int, Int.natCast_one, Int.reduceBEq, Int.reduceBNe, Int.reduceNeg, int_toNat_zero_i, Nat.sub_zero, Int.natCast_zero, Int.reduceAdd, Int.reduceSub, Int.reduceLT, Int.reduceLE, Int.reduceMul, Int.zero_add, decide_true, decide_false, Nat.reducePow, Int.reducePow, Nat.reduceAdd, Nat.reduceEqDiff, Nat.reduceLT, Nat.reduceLeDiff, Nat.reduceMul, Nat.reduceSub, Nat.reduceBEq, Nat.le_refl, Nat.zero_add, Nat.add_zero, reduceCtorEq, or_true, true_or, or_false, false_or, if_true, if_false, ↓reduceIte, true_and, and_true, and_self, Bool.not_true, Bool.not_false, cond_true, cond_false, Bool.true_eq_false, Bool.false_eq_true, ne_eq, not_false_eq_true, not_true_eq_false, Bool.and_true, Bool.true_and, Bool.and_false, Bool.false_and, Bool.or_true, Bool.true_or, Bool.or_false, Bool.false_or, List.isEmpty_nil, List.map_cons, List.map_nil, List.length_cons, List.length_nil, List.length_map, List.getD_cons_zero, List.getD_cons_succ, List.getD_nil, List.getElem?_cons_zero, List.getElem?_cons_succ, List.getElem?_nil, List.take_succ_cons, List.take_zero, List.take_nil, List.drop_succ_cons, List.drop_zero, List.drop_nil, List.nil_append, List.cons_append, List.append_nil, Option.getD_some, Option.getD_none, Option.map_some, Option.map_none, Int.toNat_natCast, T_1, T_2, T_3, T_4, T_5, T_6, T_7, T_8, T_9, T_10, T_11, T_12, T_13, T_14, T_15, T_16, T_17, T_18, T_19, T_21, T_22, T_23, T_24, T_25, T_26, T_27, T_28, T_29, T_30, T_32, T_34, T_35, T_36, T_38, T_39, T_40, T_41, T_42, T_44, T_45, T_46, T_47, T_48, T_49, T_51, T_52, T_54, T_55, T_56, T_57, T_58, T_59, T_60, T_61, T_62, T_63, T_64, T_65, T_66, T_67, T_69, T_70, T_72, T_73, T_74, T_75, T_76, T_77, T_78, T_79, T_80, T_81, T_82, T_83, T_84, T_85, T_86, T_87, T_88, T_89, T_90, T_91, T_92, T_93, T_94, T_95, T_96, T_97, T_98, T_99, T_100, T_101, T_102, T_103, T_104]
theorem parts9_ok : FnS Try.prog 7 [.sl false 1 (t9.map encB)] [] (.tup [.sl false 7 [encPdu hd9, encPdu p9], .bool true]) [] := by
  have hcl : FnS Try.prog 20 [.sl false 1 ([1, 2, 3, 4, 5, 6].map encB)] [] (.sl false 1 ([1, 2, 3, 4, 5, 6].map encB)) [] := clone_ok [1, 2, 3, 4, 5, 6] (by decide) (by decide)
  have hch := chunk_ok [7, 8, 9]
  have z6 : Int.toNat 6 = 6 := rfl
  have z9 : Int.toNat 9 = 9 := rfl
  have z3 : Int.toNat 3 = 3 := rfl
  simp only [t9, List.map_cons, List.map_nil] at hcl hch ⊢
  refine fn_raw tabOk Try.func7 rfl (by decide +kernel) Try.ntmps7 Try.results7 (by simp) fun B hB hds => ?_
  refine raw_seq (N' := fun s1 => s1.le B { sl := [(0, .sl false 1 [encB 1, encB 2, encB 3, encB 4, encB 5, encB 6, encB 7, encB 8, encB 9])], st := [], nx := 0, n := 39 }) ?_ (fun s1 hle a w hs1 => ?_)
  · try refine hK _ ?_
    repeat (first | refine awp_seq ?_ | refine awp_block ?_ | refine awp_skip ?_ | refine awp_scope ?_ | refine awp_label ?_)
    refine awp_region tabOk fun K hK => ?_
    simp -dsimp -implicitDefEqProofs only [push_cast, ↓trAdd_f, ↓stOf_f, Nat.reduceBEq, Int.reduceBEq, Int.reduceBNe, Int.reduceNeg, Int.reduceAdd, Int.reduceSub, Int.reduceLT, Int.reduceLE, Int.reduceMul, Nat.reducePow, Int.reducePow, Nat.reduceAdd, Nat.reduceEqDiff, Nat.reduceLT, Nat.reduceLeDiff, Nat.reduceMul, Nat.reduceSub, reduceCtorEq, ↓reduceIte]
    refine hK _ ?_
    refine le_intro hB [] (by simp) (fun b _ => rfl) rfl ?_ ?_ rfl <;> simp -dsimp -implicitDefEqProofs only [encB, List.forall_mem_cons, List.forall_mem_append, forall_nil_i, List.not_mem_nil, Int.natCast_zero, Int.natCast_add, Int.natCast_one, implies_true, imp_self_i, false_imp_i, slotsLe, storeLe, PV.ren, renL, renG, PV.ok, okL, Blk.ren, Blk.ok, distinct, wk, wkA, wkAL, wkC, wkL, wkB, blkLe, List.cons.injEq, true_or, PV.int.injEq, PV.bool.injEq, AS.get, getPV, lk, Int.cast_ofNat_Int, Int.natCast_one, Int.reduceBEq, Int.reduceBNe, Int.reduceNeg, int_toNat_zero_i, Nat.sub_zero, Int.natCast_zero, Int.reduceAdd, Int.reduceSub, Int.reduceLT, Int.reduceLE, Int.reduceMul, Int.zero_add, decide_true, decide_false, Nat.reducePow, Int.reducePow, Nat.reduceAdd, Nat.reduceEqDiff, Nat.reduceLT, Nat.reduceLeDiff, Nat.reduceMul, Nat.reduceSub, Nat.reduceBEq, Nat.le_refl, Nat.zero_add, Nat.add_zero, reduceCtorEq, or_true, true_or, or_false, false_or, if_true, if_false, ↓reduceIte, true_and, and_true, and_self, Bool.not_true, Bool.not_false, cond_true, cond_false, Bool.true_eq_false, Bool.false_eq_true, ne_eq, not_false_eq_true, not_true_eq_false, Bool.and_true, Bool.true_and, Bool.and_false, Bool.false_and, Bool.or_true, Bool.true_or, Bool.or_false, Bool.false_or, List.isEmpty_nil, List.map_cons, List.map_nil, List.length_cons, List.length_nil, List.length_map, List.getD_cons_zero, List.getD_cons_succ, List.getD_nil, List.getElem?_cons_zero, List.getElem?_cons_succ, List.getElem?_nil, List.take_succ_cons, List.take_zero, List.take_nil, List.drop_succ_cons, List.drop_zero, List.drop_nil, List.nil_append, List.cons_append, List.append_nil, Option.getD_some, Option.getD_none, Option.map_some, Option.map_none, Int.toNat_natCast]
  refine raw_seq (s := { sl := [(0, .sl false 1 [encB 1, encB 2, encB 3, encB 4, encB 5, encB 6, encB 7, encB 8, encB 9])], st := [], nx := 0, n := 39 }) (N' := fun s1 => s1.le B { sl := [(0, .sl false 1 [encB 1, encB 2, encB 3, encB 4, encB 5, encB 6, encB 7, encB 8, encB 9]), (4, .int .i64 9)], st := [], nx := 0, n := 39 }) ?_ (fun s1 hle a w hs1 => ?_) a w (hle a w hs1)
  · try refine hK _ ?_
    repeat (first | refine awp_seq ?_ | refine awp_block ?_ | refine awp_skip ?_ | refine awp_scope ?_ | refine awp_label ?_)
    refine awp_region tabOk fun K hK => ?_
    simp -dsimp -implicitDefEqProofs only [push_cast, ↓trAdd_f, ↓stOf_f, Nat.reduceBEq, Int.reduceBEq, Int.reduceBNe, Int.reduceNeg, Int.reduceAdd, Int.reduceSub, Int.reduceLT, Int.reduceLE, Int.reduceMul, Nat.reducePow, Int.reducePow, Nat.reduceAdd, Nat.reduceEqDiff, Nat.reduceLT, Nat.reduceLeDiff, Nat.reduceMul, Nat.reduceSub, reduceCtorEq, ↓reduceIte]
    refine hK _ ?_
    refine le_intro hB [] (by simp) (fun b _ => rfl) rfl ?_ ?_ rfl <;> simp -dsimp -implicitDefEqProofs only [encB, List.forall_mem_cons, List.forall_mem_append, forall_nil_i, List.not_mem_nil, Int.natCast_zero, Int.natCast_add, Int.natCast_one, implies_true, imp_self_i, false_imp_i, slotsLe, storeLe, PV.ren, renL, renG, PV.ok, okL, Blk.ren, Blk.ok, distinct, wk, wkA, wkAL, wkC, wkL, wkB, blkLe, List.cons.injEq, true_or, PV.int.injEq, PV.bool.injEq, AS.get, getPV, lk, Int.cast_ofNat_Int, Int.natCast_one, Int.reduceBEq, Int.reduceBNe, Int.reduceNeg, int_toNat_zero_i, Nat.sub_zero, Int.natCast_zero, Int.reduceAdd, Int.reduceSub, Int.reduceLT, Int.reduceLE, Int.reduceMul, Int.zero_add, decide_true, decide_false, Nat.reducePow, Int.reducePow, Nat.reduceAdd, Nat.reduceEqDiff, Nat.reduceLT, Nat.reduceLeDiff, Nat.reduceMul, Nat.reduceSub, Nat.reduceBEq, Nat.le_refl, Nat.zero_add, Nat.add_zero, reduceCtorEq, or_true, true_or, or_false, false_or, if_true, if_false, ↓reduceIte, true_and, and_true, and_self, Bool.not_true, Bool.not_false, cond_true, cond_false, Bool.true_eq_false, Bool.false_eq_true, ne_eq, not_false_eq_true, not_true_eq_false, Bool.and_true, Bool.true_and, Bool.and_false, Bool.false_and, Bool.or_true, Bool.true_or, Bool.or_false, Bool.false_or, List.isEmpty_nil, List.map_cons, List.map_nil, List.length_cons, List.length_nil, List.length_map, List.getD_cons_zero, List.getD_cons_succ, List.getD_nil, List.getElem?_cons_zero, List.getElem?_cons_succ, List.getElem?_nil, List.take_succ_cons, List.take_zero, List.take_nil, List.drop_succ_cons, List.drop_zero, List.drop_nil, List.nil_append, List.cons_append, List.append_nil, Option.getD_some, Option.getD_none, Option.map_some, Option.map_none, Int.toNat_natCast]
  refine raw_seq (s := { sl := [(0, .sl false 1 [encB 1, encB 2, encB 3, encB 4, encB 5, encB 6, encB 7, encB 8, encB 9]), (4, .int .i64 9)], st := [], nx := 0, n := 39 }) (N' := fun s1 => s1.le B { sl := [(0, .sl false 1 [encB 1, encB 2, encB 3, encB 4, encB 5, encB 6, encB 7, encB 8, encB 9]), (4, .int .i64 9)], st := [], nx := 0, n := 39 }) ?_ (fun s1 hle a w hs1 => ?_) a w (hle a w hs1)
  · try refine hK _ ?_
    repeat (first | refine awp_seq ?_ | refine awp_block ?_ | refine awp_skip ?_ | refine awp_scope ?_ | refine awp_label ?_)
    refine awp_region tabOk fun K hK => ?_
    simp -dsimp -implicitDefEqProofs only [push_cast, ↓trAdd_f, ↓stOf_f, Nat.reduceBEq, Int.reduceBEq, Int.reduceBNe, Int.reduceNeg, Int.reduceAdd, Int.reduceSub, Int.reduceLT, Int.reduceLE, Int.reduceMul, Nat.reducePow, Int.reducePow, Nat.reduceAdd, Nat.reduceEqDiff, Nat.reduceLT, Nat.reduceLeDiff, Nat.reduceMul, Nat.reduceSub, reduceCtorEq, ↓reduceIte]
    refine callK_simple (in_ok 9 1 4095) ?_ rfl fun _ => ?_
    · simp -dsimp -implicitDefEqProofs only [take_map_len, restr, List.contains_nil, List.contains_cons, BEq.rfl, Nat.reduceBEq, implies_true, imp_self_i, false_imp_i, argsV, PV.fz, fzL, view, viewA, viewC, viewOk, viewOkA, viewOkC, seenV, ids, idsA, idsC, PV.scalar, PV.scalarA, PV.scalarC, VT.fr, wk, wkA, wkAL, wkC, wkL, wkB, blkLe, true_or, List.mem_cons, List.mem_singleton, List.not_mem_nil, forall_eq_or_imp, forall_eq, List.all_cons, List.all_nil, List.flatMap_cons, List.flatMap_nil, AS.get, getPV, lk, Int.cast_ofNat_Int, Int.natCast_one, Int.reduceBEq, Int.reduceBNe, Int.reduceNeg, int_toNat_zero_i, Nat.sub_zero, Int.natCast_zero, Int.reduceAdd, Int.reduceSub, Int.reduceLT, Int.reduceLE, Int.reduceMul, Int.zero_add, decide_true, decide_false, Nat.reducePow, Int.reducePow, Nat.reduceAdd, Nat.reduceEqDiff, Nat.reduceLT, Nat.reduceLeDiff, Nat.reduceMul, Nat.reduceSub, Nat.reduceBEq, Nat.le_refl, Nat.zero_add, Nat.add_zero, reduceCtorEq, or_true, true_or, or_false, false_or, if_true, if_false, ↓reduceIte, true_and, and_true, and_self, Bool.not_true, Bool.not_false, cond_true, cond_false, Bool.true_eq_false, Bool.false_eq_true, ne_eq, not_false_eq_true, not_true_eq_false, Bool.and_true, Bool.true_and, Bool.and_false, Bool.false_and, Bool.or_true, Bool.true_or, Bool.or_false, Bool.false_or, List.isEmpty_nil, List.map_cons, List.map_nil, List.length_cons, List.length_nil, List.length_map, List.getD_cons_zero, List.getD_cons_succ, List.getD_nil, List.getElem?_cons_zero, List.getElem?_cons_succ, List.getElem?_nil, List.take_succ_cons, List.take_zero, List.take_nil, List.drop_succ_cons, List.drop_zero, List.drop_nil, List.nil_append, List.cons_append, List.append_nil, Option.getD_some, Option.getD_none, Option.map_some, Option.map_none, Int.toNat_natCast]
    simp -dsimp -implicitDefEqProofs only [push_cast, ↓trAdd_f, ↓stOf_f, Nat.reduceBEq, Int.reduceBEq, Int.reduceBNe, Int.reduceNeg, Int.reduceAdd, Int.reduceSub, Int.reduceLT, Int.reduceLE, Int.reduceMul, Nat.reducePow, Int.reducePow, Nat.reduceAdd, Nat.reduceEqDiff, Nat.reduceLT, Nat.reduceLeDiff, Nat.reduceMul, Nat.reduceSub, reduceCtorEq, ↓reduceIte]
    refine hK _ ?_
    try refine hK _ ?_
    repeat (first | refine awp_seq ?_ | refine awp_block ?_ | refine awp_skip ?_ | refine awp_scope ?_ | refine awp_label ?_)
    refine awp_cond (b := false) (by simp -dsimp -implicitDefEqProofs only [push_cast, ↓trAdd_f, ↓stOf_f, Nat.reduceBEq, Int.reduceBEq, Int.reduceBNe, Int.reduceNeg, Int.reduceAdd, Int.reduceSub, Int.reduceLT, Int.reduceLE, Int.reduceMul, Nat.reducePow, Int.reducePow, Nat.reduceAdd, Nat.reduceEqDiff, Nat.reduceLT, Nat.reduceLeDiff, Nat.reduceMul, Nat.reduceSub, reduceCtorEq, ↓reduceIte]) (fun h => ?_) (fun h => ?_)
    · cases h
    refine awp_skip ?_
    refine le_intro hB [] (by simp) (fun b _ => rfl) rfl ?_ ?_ rfl <;> simp -dsimp -implicitDefEqProofs only [encB, List.forall_mem_cons, List.forall_mem_append, forall_nil_i, List.not_mem_nil, Int.natCast_zero, Int.natCast_add, Int.natCast_one, implies_true, imp_self_i, false_imp_i, slotsLe, storeLe, PV.ren, renL, renG, PV.ok, okL, Blk.ren, Blk.ok, distinct, wk, wkA, wkAL, wkC, wkL, wkB, blkLe, List.cons.injEq, true_or, PV.int.injEq, PV.bool.injEq, AS.get, getPV, lk, Int.cast_ofNat_Int, Int.natCast_one, Int.reduceBEq, Int.reduceBNe, Int.reduceNeg, int_toNat_zero_i, Nat.sub_zero, Int.natCast_zero, Int.reduceAdd, Int.reduceSub, Int.reduceLT, Int.reduceLE, Int.reduceMul, Int.zero_add, decide_true, decide_false, Nat.reducePow, Int.reducePow, Nat.reduceAdd, Nat.reduceEqDiff, Nat.reduceLT, Nat.reduceLeDiff, Nat.reduceMul, Nat.reduceSub, Nat.reduceBEq, Nat.le_refl, Nat.zero_add, Nat.add_zero, reduceCtorEq, or_true, true_or, or_false, false_or, if_true, if_false, ↓reduceIte, true_and, and_true, and_self, Bool.not_true, Bool.not_false, cond_true, cond_false, Bool.true_eq_false, Bool.false_eq_true, ne_eq, not_false_eq_true, not_true_eq_false, Bool.and_true, Bool.true_and, Bool.and_false, Bool.false_and, Bool.or_true, Bool.true_or, Bool.or_false, Bool.false_or, List.isEmpty_nil, List.map_cons, List.map_nil, List.length_cons, List.length_nil, List.length_map, List.getD_cons_zero, List.getD_cons_succ, List.getD_nil, List.getElem?_cons_zero, List.getElem?_cons_succ, List.getElem?_nil, List.take_succ_cons, List.take_zero, List.take_nil, List.drop_succ_cons, List.drop_zero, List.drop_nil, List.nil_append, List.cons_append, List.append_nil, Option.getD_some, Option.getD_none, Option.map_some, Option.map_none, Int.toNat_natCast]
  refine raw_seq (s := { sl := [(0, .sl false 1 [encB 1, encB 2, encB 3, encB 4, encB 5, encB 6, encB 7, encB 8, encB 9]), (4, .int .i64 9)], st := [], nx := 0, n := 39 }) (N' := fun s1 => s1.le B { sl := [(0, .sl false 1 [encB 1, encB 2, encB 3, encB 4, encB 5, encB 6, encB 7, encB 8, encB 9]), (4, .int .i64 9)], st := [], nx := 0, n := 39 }) ?_ (fun s1 hle a w hs1 => ?_) a w (hle a w hs1)
  · try refine hK _ ?_
    repeat (first | refine awp_seq ?_ | refine awp_block ?_ | refine awp_skip ?_ | refine awp_scope ?_ | refine awp_label ?_)
    refine awp_region tabOk fun K hK => ?_
    simp -dsimp -implicitDefEqProofs only [push_cast, ↓trAdd_f, ↓stOf_f, Nat.reduceBEq, Int.reduceBEq, Int.reduceBNe, Int.reduceNeg, Int.reduceAdd, Int.reduceSub, Int.reduceLT, Int.reduceLE, Int.reduceMul, Nat.reducePow, Int.reducePow, Nat.reduceAdd, Nat.reduceEqDiff, Nat.reduceLT, Nat.reduceLeDiff, Nat.reduceMul, Nat.reduceSub, reduceCtorEq, ↓reduceIte]
    refine hK _ ?_
    try refine hK _ ?_
    repeat (first | refine awp_seq ?_ | refine awp_block ?_ | refine awp_skip ?_ | refine awp_scope ?_ | refine awp_label ?_)
    refine awp_cond (b := false) (by simp -dsimp -implicitDefEqProofs only [push_cast, ↓trAdd_f, ↓stOf_f, Nat.reduceBEq, Int.reduceBEq, Int.reduceBNe, Int.reduceNeg, Int.reduceAdd, Int.reduceSub, Int.reduceLT, Int.reduceLE, Int.reduceMul, Nat.reducePow, Int.reducePow, Nat.reduceAdd, Nat.reduceEqDiff, Nat.reduceLT, Nat.reduceLeDiff, Nat.reduceMul, Nat.reduceSub, reduceCtorEq, ↓reduceIte]) (fun h => ?_) (fun h => ?_)
    · cases h
    refine awp_skip ?_
    refine le_intro hB [] (by simp) (fun b _ => rfl) rfl ?_ ?_ rfl <;> simp -dsimp -implicitDefEqProofs only [encB, List.forall_mem_cons, List.forall_mem_append, forall_nil_i, List.not_mem_nil, Int.natCast_zero, Int.natCast_add, Int.natCast_one, implies_true, imp_self_i, false_imp_i, slotsLe, storeLe, PV.ren, renL, renG, PV.ok, okL, Blk.ren, Blk.ok, distinct, wk, wkA, wkAL, wkC, wkL, wkB, blkLe, List.cons.injEq, true_or, PV.int.injEq, PV.bool.injEq, AS.get, getPV, lk, Int.cast_ofNat_Int, Int.natCast_one, Int.reduceBEq, Int.reduceBNe, Int.reduceNeg, int_toNat_zero_i, Nat.sub_zero, Int.natCast_zero, Int.reduceAdd, Int.reduceSub, Int.reduceLT, Int.reduceLE, Int.reduceMul, Int.zero_add, decide_true, decide_false, Nat.reducePow, Int.reducePow, Nat.reduceAdd, Nat.reduceEqDiff, Nat.reduceLT, Nat.reduceLeDiff, Nat.reduceMul, Nat.reduceSub, Nat.reduceBEq, Nat.le_refl, Nat.zero_add, Nat.add_zero, reduceCtorEq, or_true, true_or, or_false, false_or, if_true, if_false, ↓reduceIte, true_and, and_true, and_self, Bool.not_true, Bool.not_false, cond_true, cond_false, Bool.true_eq_false, Bool.false_eq_true, ne_eq, not_false_eq_true, not_true_eq_false, Bool.and_true, Bool.true_and, Bool.and_false, Bool.false_and, Bool.or_true, Bool.true_or, Bool.or_false, Bool.false_or, List.isEmpty_nil, List.map_cons, List.map_nil, List.length_cons, List.length_nil, List.length_map, List.getD_cons_zero, List.getD_cons_succ, List.getD_nil, List.getElem?_cons_zero, List.getElem?_cons_succ, List.getElem?_nil, List.take_succ_cons, List.take_zero, List.take_nil, List.drop_succ_cons, List.drop_zero, List.drop_nil, List.nil_append, List.cons_append, List.append_nil, Option.getD_some, Option.getD_none, Option.map_some, Option.map_none, Int.toNat_natCast]
  refine raw_seq (s := { sl := [(0, .sl false 1 [encB 1, encB 2, encB 3, encB 4, encB 5, encB 6, encB 7, encB 8, encB 9]), (4, .int .i64 9)], st := [], nx := 0, n := 39 }) (N' := fun s1 => s1.le B { sl := [(0, .sl false 1 [encB 1, encB 2, encB 3, encB 4, encB 5, encB 6, encB 7, encB 8, encB 9]), (5, .ptr 100 0)], st := [(100, .box [.own 102 7 0 1]), (102, .row 7 [encPdu hd9])], nx := 200, n := 39 }) ?_ (fun s1 hle a w hs1 => ?_) a w (hle a w hs1)
  · try refine hK _ ?_
    repeat (first | refine awp_seq ?_ | refine awp_block ?_ | refine awp_skip ?_ | refine awp_scope ?_ | refine awp_label ?_)
    refine awp_region tabOk fun K hK => ?_
    simp -dsimp -implicitDefEqProofs only [z6, push_cast, ↓trAdd_f, ↓stOf_f, Nat.reduceBEq, Int.reduceBEq, Int.reduceBNe, Int.reduceNeg, Int.reduceAdd, Int.reduceSub, Int.reduceLT, Int.reduceLE, Int.reduceMul, Nat.reducePow, Int.reducePow, Nat.reduceAdd, Nat.reduceEqDiff, Nat.reduceLT, Nat.reduceLeDiff, Nat.reduceMul, Nat.reduceSub, reduceCtorEq, ↓reduceIte]
    refine callK_simple hcl ?_ rfl fun _ => ?_
    · simp -dsimp -implicitDefEqProofs only [encB, take_map_len, restr, List.contains_nil, List.contains_cons, BEq.rfl, Nat.reduceBEq, implies_true, imp_self_i, false_imp_i, argsV, PV.fz, fzL, view, viewA, viewC, viewOk, viewOkA, viewOkC, seenV, ids, idsA, idsC, PV.scalar, PV.scalarA, PV.scalarC, VT.fr, wk, wkA, wkAL, wkC, wkL, wkB, blkLe, true_or, List.mem_cons, List.mem_singleton, List.not_mem_nil, forall_eq_or_imp, forall_eq, List.all_cons, List.all_nil, List.flatMap_cons, List.flatMap_nil, AS.get, getPV, lk, Int.cast_ofNat_Int, Int.natCast_one, Int.reduceBEq, Int.reduceBNe, Int.reduceNeg, int_toNat_zero_i, Nat.sub_zero, Int.natCast_zero, Int.reduceAdd, Int.reduceSub, Int.reduceLT, Int.reduceLE, Int.reduceMul, Int.zero_add, decide_true, decide_false, Nat.reducePow, Int.reducePow, Nat.reduceAdd, Nat.reduceEqDiff, Nat.reduceLT, Nat.reduceLeDiff, Nat.reduceMul, Nat.reduceSub, Nat.reduceBEq, Nat.le_refl, Nat.zero_add, Nat.add_zero, reduceCtorEq, or_true, true_or, or_false, false_or, if_true, if_false, ↓reduceIte, true_and, and_true, and_self, Bool.not_true, Bool.not_false, cond_true, cond_false, Bool.true_eq_false, Bool.false_eq_true, ne_eq, not_false_eq_true, not_true_eq_false, Bool.and_true, Bool.true_and, Bool.and_false, Bool.false_and, Bool.or_true, Bool.true_or, Bool.or_false, Bool.false_or, List.isEmpty_nil, List.map_cons, List.map_nil, List.length_cons, List.length_nil, List.length_map, List.getD_cons_zero, List.getD_cons_succ, List.getD_nil, List.getElem?_cons_zero, List.getElem?_cons_succ, List.getElem?_nil, List.take_succ_cons, List.take_zero, List.take_nil, List.drop_succ_cons, List.drop_zero, List.drop_nil, List.nil_append, List.cons_append, List.append_nil, Option.getD_some, Option.getD_none, Option.map_some, Option.map_none, Int.toNat_natCast]
    simp -dsimp -implicitDefEqProofs only [push_cast, ↓trAdd_f, ↓stOf_f, Nat.reduceBEq, Int.reduceBEq, Int.reduceBNe, Int.reduceNeg, Int.reduceAdd, Int.reduceSub, Int.reduceLT, Int.reduceLE, Int.reduceMul, Nat.reducePow, Int.reducePow, Nat.reduceAdd, Nat.reduceEqDiff, Nat.reduceLT, Nat.reduceLeDiff, Nat.reduceMul, Nat.reduceSub, reduceCtorEq, ↓reduceIte]
    refine hK _ ?_
    refine le_intro hB [(100, 48), (102, 40)] (by simp) (fun b hb => absurd hb (Nat.not_lt_zero b)) rfl ?_ ?_ rfl <;> simp -dsimp -implicitDefEqProofs only [encPdu, hd9, encB, List.forall_mem_cons, List.forall_mem_append, forall_nil_i, List.not_mem_nil, Int.natCast_zero, Int.natCast_add, Int.natCast_one, implies_true, imp_self_i, false_imp_i, slotsLe, storeLe, PV.ren, renL, renG, PV.ok, okL, Blk.ren, Blk.ok, distinct, wk, wkA, wkAL, wkC, wkL, wkB, blkLe, List.cons.injEq, true_or, PV.int.injEq, PV.bool.injEq, AS.get, getPV, lk, Int.cast_ofNat_Int, Int.natCast_one, Int.reduceBEq, Int.reduceBNe, Int.reduceNeg, int_toNat_zero_i, Nat.sub_zero, Int.natCast_zero, Int.reduceAdd, Int.reduceSub, Int.reduceLT, Int.reduceLE, Int.reduceMul, Int.zero_add, decide_true, decide_false, Nat.reducePow, Int.reducePow, Nat.reduceAdd, Nat.reduceEqDiff, Nat.reduceLT, Nat.reduceLeDiff, Nat.reduceMul, Nat.reduceSub, Nat.reduceBEq, Nat.le_refl, Nat.zero_add, Nat.add_zero, reduceCtorEq, or_true, true_or, or_false, false_or, if_true, if_false, ↓reduceIte, true_and, and_true, and_self, Bool.not_true, Bool.not_false, cond_true, cond_false, Bool.true_eq_false, Bool.false_eq_true, ne_eq, not_false_eq_true, not_true_eq_false, Bool.and_true, Bool.true_and, Bool.and_false, Bool.false_and, Bool.or_true, Bool.true_or, Bool.or_false, Bool.false_or, List.isEmpty_nil, List.map_cons, List.map_nil, List.length_cons, List.length_nil, List.length_map, List.getD_cons_zero, List.getD_cons_succ, List.getD_nil, List.getElem?_cons_zero, List.getElem?_cons_succ, List.getElem?_nil, List.take_succ_cons, List.take_zero, List.take_nil, List.drop_succ_cons, List.drop_zero, List.drop_nil, List.nil_append, List.cons_append, List.append_nil, Option.getD_some, Option.getD_none, Option.map_some, Option.map_none, Int.toNat_natCast]
  refine raw_seq2 (s := { sl := [(0, .sl false 1 [encB 1, encB 2, encB 3, encB 4, encB 5, encB 6, encB 7, encB 8, encB 9]), (5, .ptr 100 0)], st := [(100, .box [.own 102 7 0 1]), (102, .row 7 [encPdu hd9])], nx := 200, n := 39 }) (N' := fun s1 => s1.le B { sl := [(5, .ptr 100 0), (27, .fn (.func 29) [] [.ptr 101 0, .ptr 103 0])], st := [(100, .box [.own 102 7 0 1]), (102, .row 7 [encPdu hd9]), (101, .box [.sl false 1 [encB 7, encB 8, encB 9]]), (103, .box [.int .i64 7])], nx := 200, n := 39 }) ?_ (fun s1 hle a w hs1 => ?_) a w (hle a w hs1)
  · try refine hK _ ?_
    repeat (first | refine awp_seq ?_ | refine awp_block ?_ | refine awp_skip ?_ | refine awp_scope ?_ | refine awp_label ?_)
    refine awp_region tabOk fun K hK => ?_
    simp -dsimp -implicitDefEqProofs only [z6, z9, z3, push_cast, ↓trAdd_f, ↓stOf_f, Nat.reduceBEq, Int.reduceBEq, Int.reduceBNe, Int.reduceNeg, Int.reduceAdd, Int.reduceSub, Int.reduceLT, Int.reduceLE, Int.reduceMul, Nat.reducePow, Int.reducePow, Nat.reduceAdd, Nat.reduceEqDiff, Nat.reduceLT, Nat.reduceLeDiff, Nat.reduceMul, Nat.reduceSub, reduceCtorEq, ↓reduceIte]
    refine ⟨21, [], [], { args := [.sl false 1 [encB 7, encB 8, encB 9], .int .i64 7], st0 := [], res := .fn (.func 29) [] [.ptr 0 0, .ptr 1 0], st1 := [(0, .box [.sl false 1 [encB 7, encB 8, encB 9]]), (1, .box [.int .i64 7])], r := [] }, rfl, .inl hch, ?_, ?_⟩
    · simp -dsimp -implicitDefEqProofs only [encB, bytes_okl, bytes_ren, fCall, argsOk, argOk, lentOk, CallO.ren, CallO.keep, seenIds, distinct, blksOk, Blk.ok, PV.ok, okL, PV.ren, renL, Blk.ren, List.isEmpty_cons, List.isEmpty_nil, List.contains_nil, List.contains_cons, BEq.rfl, range_one_i, and_true, true_and, forall_nil_i, List.forall_mem_cons, Option.some.injEq, Blk.box.injEq, Blk.row.injEq, List.cons.injEq, take_map_len, restr, List.contains_nil, List.contains_cons, BEq.rfl, Nat.reduceBEq, implies_true, imp_self_i, false_imp_i, argsV, PV.fz, fzL, view, viewA, viewC, viewOk, viewOkA, viewOkC, seenV, ids, idsA, idsC, PV.scalar, PV.scalarA, PV.scalarC, VT.fr, wk, wkA, wkAL, wkC, wkL, wkB, blkLe, true_or, List.mem_cons, List.mem_singleton, List.not_mem_nil, forall_eq_or_imp, forall_eq, List.all_cons, List.all_nil, List.flatMap_cons, List.flatMap_nil, AS.get, getPV, lk, Int.cast_ofNat_Int, Int.natCast_one, Int.reduceBEq, Int.reduceBNe, Int.reduceNeg, int_toNat_zero_i, Nat.sub_zero, Int.natCast_zero, Int.reduceAdd, Int.reduceSub, Int.reduceLT, Int.reduceLE, Int.reduceMul, Int.zero_add, decide_true, decide_false, Nat.reducePow, Int.reducePow, Nat.reduceAdd, Nat.reduceEqDiff, Nat.reduceLT, Nat.reduceLeDiff, Nat.reduceMul, Nat.reduceSub, Nat.reduceBEq, Nat.le_refl, Nat.zero_add, Nat.add_zero, reduceCtorEq, or_true, true_or, or_false, false_or, if_true, if_false, ↓reduceIte, true_and, and_true, and_self, Bool.not_true, Bool.not_false, cond_true, cond_false, Bool.true_eq_false, Bool.false_eq_true, ne_eq, not_false_eq_true, not_true_eq_false, Bool.and_true, Bool.true_and, Bool.and_false, Bool.false_and, Bool.or_true, Bool.true_or, Bool.or_false, Bool.false_or, List.isEmpty_nil, List.map_cons, List.map_nil, List.length_cons, List.length_nil, List.length_map, List.getD_cons_zero, List.getD_cons_succ, List.getD_nil, List.getElem?_cons_zero, List.getElem?_cons_succ, List.getElem?_nil, List.take_succ_cons, List.take_zero, List.take_nil, List.drop_succ_cons, List.drop_zero, List.drop_nil, List.nil_append, List.cons_append, List.append_nil, Option.getD_some, Option.getD_none, Option.map_some, Option.map_none, Int.toNat_natCast]
      rfl
    simp -dsimp -implicitDefEqProofs only [encB, bytes_ren, PV.fz, fzL, fCall, CallO.ren, CallO.keep, seenIds, PV.ren, renL, Blk.ren, List.isEmpty_cons, List.isEmpty_nil, push_cast, ↓trAdd_f, ↓stOf_f, Nat.reduceBEq, Int.reduceBEq, Int.reduceBNe, Int.reduceNeg, Int.reduceAdd, Int.reduceSub, Int.reduceLT, Int.reduceLE, Int.reduceMul, Nat.reducePow, Int.reducePow, Nat.reduceAdd, Nat.reduceEqDiff, Nat.reduceLT, Nat.reduceLeDiff, Nat.reduceMul, Nat.reduceSub, reduceCtorEq, ↓reduceIte]
    refine hK _ ?_
    refine le_intro hB [(101, 216), (103, 217)] (by simp) (fun b hb => absurd hb (Nat.not_lt_zero b)) rfl ?_ ?_ rfl <;> simp -dsimp -implicitDefEqProofs only [encPdu, hd9, encB, List.forall_mem_cons, List.forall_mem_append, forall_nil_i, List.not_mem_nil, Int.natCast_zero, Int.natCast_add, Int.natCast_one, implies_true, imp_self_i, false_imp_i, slotsLe, storeLe, PV.ren, renL, renG, PV.ok, okL, Blk.ren, Blk.ok, distinct, wk, wkA, wkAL, wkC, wkL, wkB, blkLe, List.cons.injEq, true_or, PV.int.injEq, PV.bool.injEq, AS.get, getPV, lk, Int.cast_ofNat_Int, Int.natCast_one, Int.reduceBEq, Int.reduceBNe, Int.reduceNeg, int_toNat_zero_i, Nat.sub_zero, Int.natCast_zero, Int.reduceAdd, Int.reduceSub, Int.reduceLT, Int.reduceLE, Int.reduceMul, Int.zero_add, decide_true, decide_false, Nat.reducePow, Int.reducePow, Nat.reduceAdd, Nat.reduceEqDiff, Nat.reduceLT, Nat.reduceLeDiff, Nat.reduceMul, Nat.reduceSub, Nat.reduceBEq, Nat.le_refl, Nat.zero_add, Nat.add_zero, reduceCtorEq, or_true, true_or, or_false, false_or, if_true, if_false, ↓reduceIte, true_and, and_true, and_self, Bool.not_true, Bool.not_false, cond_true, cond_false, Bool.true_eq_false, Bool.false_eq_true, ne_eq, not_false_eq_true, not_true_eq_false, Bool.and_true, Bool.true_and, Bool.and_false, Bool.false_and, Bool.or_true, Bool.true_or, Bool.or_false, Bool.false_or, List.isEmpty_nil, List.map_cons, List.map_nil, List.length_cons, List.length_nil, List.length_map, List.getD_cons_zero, List.getD_cons_succ, List.getD_nil, List.getElem?_cons_zero, List.getElem?_cons_succ, List.getElem?_nil, List.take_succ_cons, List.take_zero, List.take_nil, List.drop_succ_cons, List.drop_zero, List.drop_nil, List.nil_append, List.cons_append, List.append_nil, Option.getD_some, Option.getD_none, Option.map_some, Option.map_none, Int.toNat_natCast]
  refine range_wp1 (ι := Unit) (co := fun _ => co9) (x0 := fun _ => .sl true 1 ([7, 8, 9].map encB)) (jmp := fun _ => none) (caps := [(5, 0, 0)]) (r := [100, 102, 101, 103]) (kc := 1) (jump := none) (n0 := 0)
    (cg := fun l => { args := [.fn (.yield l) [] [], .ptr 2 0, .ptr 3 0], st0 := [(0, .box [.own 1 7 0 1]), (1, .row 7 [encPdu hd9]), (2, .box [.sl false 1 ([7, 8, 9].map encB)]), (3, .box [.int .i64 7])], res := .tup [], st1 := [(0, .box [.own 4 7 0 2]), (4, .row 7 [encPdu hd9, encPdu p9]), (2, .box [.sl false 1 ([7, 8, 9].map encB)]), (3, .box [.int .i64 7])], r := [100, 102, 101, 103] })
    (s := { sl := [(5, .ptr 100 0), (27, .fn (.func 29) [] [.ptr 101 0, .ptr 103 0])], st := [(100, .box [.own 102 7 0 1]), (102, .row 7 [encPdu hd9]), (101, .box [.sl false 1 [encB 7, encB 8, encB 9]]), (103, .box [.int .i64 7])], nx := 200, n := 39 }) (cap := [.ptr 101 0, .ptr 103 0]) (gf := 29)
    hB hds rfl (by show (28 : Nat) < 39; decide) (by decide) (fun x hx => by simp at hx; subst hx; exact ⟨by decide, by decide, rfl⟩) (fun i => ⟨rfl, rfl⟩) (fun l i B' hB' => ?_) (fun l rec K hKl hY => chunk1_ok hKl (hY ())) (fun l => rfl) (fun l => ?_) (fun l B' hB' => ?_) a w (hle a w hs1)
  · have hc7 : FnS Try.prog 20 [.sl false 1 ([7, 8, 9].map encB)] [] (.sl false 1 ([7, 8, 9].map encB)) [] := clone_ok [7, 8, 9] (by decide) (by decide)
    have v1 : Int.tmod 1 16 = 1 := by decide
    simp only [co9, roundS1, List.map_cons, List.map_nil, endAt] at *
    refine awpR_region tabOk rfl fun K hK => ?_
    simp -dsimp -implicitDefEqProofs only [push_cast, ↓trAdd_f, ↓stOf_f, Nat.reduceBEq, Int.reduceBEq, Int.reduceBNe, Int.reduceNeg, Int.reduceAdd, Int.reduceSub, Int.reduceLT, Int.reduceLE, Int.reduceMul, Nat.reducePow, Int.reducePow, Nat.reduceAdd, Nat.reduceEqDiff, Nat.reduceLT, Nat.reduceLeDiff, Nat.reduceMul, Nat.reduceSub, reduceCtorEq, ↓reduceIte]
    refine hK _ (fun B1 hB1 => awpR_block (awpR_weak (awpR_draw tabOk (by kernel_rfl) rfl (by kernel_rfl) fun K hK C hC => ?_)))
    simp -dsimp -implicitDefEqProofs only [v1, push_cast, ↓trAdd_f, ↓stOf_f, Nat.reduceBEq, Int.reduceBEq, Int.reduceBNe, Int.reduceNeg, Int.reduceAdd, Int.reduceSub, Int.reduceLT, Int.reduceLE, Int.reduceMul, Nat.reducePow, Int.reducePow, Nat.reduceAdd, Nat.reduceEqDiff, Nat.reduceLT, Nat.reduceLeDiff, Nat.reduceMul, Nat.reduceSub, reduceCtorEq, ↓reduceIte]
    refine ⟨by decide, callK_simple hc7 ?_ rfl fun _ => ?_⟩
    · simp -dsimp -implicitDefEqProofs only [encB, take_map_len, restr, List.contains_nil, List.contains_cons, BEq.rfl, Nat.reduceBEq, implies_true, imp_self_i, false_imp_i, argsV, PV.fz, fzL, view, viewA, viewC, viewOk, viewOkA, viewOkC, seenV, ids, idsA, idsC, PV.scalar, PV.scalarA, PV.scalarC, VT.fr, wk, wkA, wkAL, wkC, wkL, wkB, blkLe, true_or, List.mem_cons, List.mem_singleton, List.not_mem_nil, forall_eq_or_imp, forall_eq, List.all_cons, List.all_nil, List.flatMap_cons, List.flatMap_nil, AS.get, getPV, lk, Int.cast_ofNat_Int, Int.natCast_one, Int.reduceBEq, Int.reduceBNe, Int.reduceNeg, int_toNat_zero_i, Nat.sub_zero, Int.natCast_zero, Int.reduceAdd, Int.reduceSub, Int.reduceLT, Int.reduceLE, Int.reduceMul, Int.zero_add, decide_true, decide_false, Nat.reducePow, Int.reducePow, Nat.reduceAdd, Nat.reduceEqDiff, Nat.reduceLT, Nat.reduceLeDiff, Nat.reduceMul, Nat.reduceSub, Nat.reduceBEq, Nat.le_refl, Nat.zero_add, Nat.add_zero, reduceCtorEq, or_true, true_or, or_false, false_or, if_true, if_false, ↓reduceIte, true_and, and_true, and_self, Bool.not_true, Bool.not_false, cond_true, cond_false, Bool.true_eq_false, Bool.false_eq_true, ne_eq, not_false_eq_true, not_true_eq_false, Bool.and_true, Bool.true_and, Bool.and_false, Bool.false_and, Bool.or_true, Bool.true_or, Bool.or_false, Bool.false_or, List.isEmpty_nil, List.map_cons, List.map_nil, List.length_cons, List.length_nil, List.length_map, List.getD_cons_zero, List.getD_cons_succ, List.getD_nil, List.getElem?_cons_zero, List.getElem?_cons_succ, List.getElem?_nil, List.take_succ_cons, List.take_zero, List.take_nil, List.drop_succ_cons, List.drop_zero, List.drop_nil, List.nil_append, List.cons_append, List.append_nil, Option.getD_some, Option.getD_none, Option.map_some, Option.map_none, Int.toNat_natCast]
    simp -dsimp -implicitDefEqProofs only [push_cast, ↓trAdd_f, ↓stOf_f, Nat.reduceBEq, Int.reduceBEq, Int.reduceBNe, Int.reduceNeg, Int.reduceAdd, Int.reduceSub, Int.reduceLT, Int.reduceLE, Int.reduceMul, Nat.reducePow, Int.reducePow, Nat.reduceAdd, Nat.reduceEqDiff, Nat.reduceLT, Nat.reduceLeDiff, Nat.reduceMul, Nat.reduceSub, reduceCtorEq, ↓reduceIte]
    refine ⟨hC _ (by kernel_rfl), hK _ ⟨{ sl := [], st := [(0, .box [.own 2 7 0 2]), (2, .row 7 [encPdu hd9, encPdu p9])], nx := 10, n := 39 }, ?_, ?_⟩⟩
    · refine le_intro hB1 [(2, 74)] (by simp) (fun b hb => by rcases b with _ | _ | b <;> first | rfl | (exfalso; simp at hb; omega)) rfl ?_ ?_ rfl <;> simp -dsimp -implicitDefEqProofs only [encPdu, hd9, p9, encB, List.forall_mem_cons, List.forall_mem_append, forall_nil_i, List.not_mem_nil, Int.natCast_zero, Int.natCast_add, Int.natCast_one, implies_true, imp_self_i, false_imp_i, slotsLe, storeLe, PV.ren, renL, renG, PV.ok, okL, Blk.ren, Blk.ok, distinct, wk, wkA, wkAL, wkC, wkL, wkB, blkLe, List.cons.injEq, true_or, PV.int.injEq, PV.bool.injEq, AS.get, getPV, lk, Int.cast_ofNat_Int, Int.natCast_one, Int.reduceBEq, Int.reduceBNe, Int.reduceNeg, int_toNat_zero_i, Nat.sub_zero, Int.natCast_zero, Int.reduceAdd, Int.reduceSub, Int.reduceLT, Int.reduceLE, Int.reduceMul, Int.zero_add, decide_true, decide_false, Nat.reducePow, Int.reducePow, Nat.reduceAdd, Nat.reduceEqDiff, Nat.reduceLT, Nat.reduceLeDiff, Nat.reduceMul, Nat.reduceSub, Nat.reduceBEq, Nat.le_refl, Nat.zero_add, Nat.add_zero, reduceCtorEq, or_true, true_or, or_false, false_or, if_true, if_false, ↓reduceIte, true_and, and_true, and_self, Bool.not_true, Bool.not_false, cond_true, cond_false, Bool.true_eq_false, Bool.false_eq_true, ne_eq, not_false_eq_true, not_true_eq_false, Bool.and_true, Bool.true_and, Bool.and_false, Bool.false_and, Bool.or_true, Bool.true_or, Bool.or_false, Bool.false_or, List.isEmpty_nil, List.map_cons, List.map_nil, List.length_cons, List.length_nil, List.length_map, List.getD_cons_zero, List.getD_cons_succ, List.getD_nil, List.getElem?_cons_zero, List.getElem?_cons_succ, List.getElem?_nil, List.take_succ_cons, List.take_zero, List.take_nil, List.drop_succ_cons, List.drop_zero, List.drop_nil, List.nil_append, List.cons_append, List.append_nil, Option.getD_some, Option.getD_none, Option.map_some, Option.map_none, Int.toNat_natCast]
    simp -dsimp -implicitDefEqProofs only [encPdu, hd9, p9, encB, List.flatMap_cons, List.flatMap_nil, List.mem_append, Blk.ok, PV.ok, okL, List.length_append, take_map_len, implies_true, imp_self_i, false_imp_i, endOk, endOkP, resVals, joinRes, view, viewA, viewC, viewOk, viewOkA, viewOkC, storeEnd, wk, wkA, wkAL, wkC, wkL, wkB, blkLe, true_or, PV.int.injEq, PV.bool.injEq, idsA, PV.fz, fzL, ids, idsC, fLoad, outP, TI.n, TI.isAgg, List.not_mem_nil, List.mem_cons, List.mem_singleton, forall_eq_or_imp, forall_eq, AS.get, getPV, lk, Int.cast_ofNat_Int, Int.natCast_one, Int.reduceBEq, Int.reduceBNe, Int.reduceNeg, int_toNat_zero_i, Nat.sub_zero, Int.natCast_zero, Int.reduceAdd, Int.reduceSub, Int.reduceLT, Int.reduceLE, Int.reduceMul, Int.zero_add, decide_true, decide_false, Nat.reducePow, Int.reducePow, Nat.reduceAdd, Nat.reduceEqDiff, Nat.reduceLT, Nat.reduceLeDiff, Nat.reduceMul, Nat.reduceSub, Nat.reduceBEq, Nat.le_refl, Nat.zero_add, Nat.add_zero, reduceCtorEq, or_true, true_or, or_false, false_or, if_true, if_false, ↓reduceIte, true_and, and_true, and_self, Bool.not_true, Bool.not_false, cond_true, cond_false, Bool.true_eq_false, Bool.false_eq_true, ne_eq, not_false_eq_true, not_true_eq_false, Bool.and_true, Bool.true_and, Bool.and_false, Bool.false_and, Bool.or_true, Bool.true_or, Bool.or_false, Bool.false_or, List.isEmpty_nil, List.map_cons, List.map_nil, List.length_cons, List.length_nil, List.length_map, List.getD_cons_zero, List.getD_cons_succ, List.getD_nil, List.getElem?_cons_zero, List.getElem?_cons_succ, List.getElem?_nil, List.take_succ_cons, List.take_zero, List.take_nil, List.drop_succ_cons, List.drop_zero, List.drop_nil, List.nil_append, List.cons_append, List.append_nil, Option.getD_some, Option.getD_none, Option.map_some, Option.map_none, Int.toNat_natCast, T_1, T_2, T_3, T_4, T_5, T_6, T_7, T_8, T_9, T_10, T_11, T_12, T_13, T_14, T_15, T_16, T_17, T_18, T_19, T_21, T_22, T_23, T_24, T_25, T_26, T_27, T_28, T_29, T_30, T_32, T_34, T_35, T_36, T_38, T_39, T_40, T_41, T_42, T_44, T_45, T_46, T_47, T_48, T_49, T_51, T_52, T_54, T_55, T_56, T_57, T_58, T_59, T_60, T_61, T_62, T_63, T_64, T_65, T_66, T_67, T_69, T_70, T_72, T_73, T_74, T_75, T_76, T_77, T_78, T_79, T_80, T_81, T_82, T_83, T_84, T_85, T_86, T_87, T_88, T_89, T_90, T_91, T_92, T_93, T_94, T_95, T_96, T_97, T_98, T_99, T_100, T_101, T_102, T_103, T_104]
  · simp -dsimp -implicitDefEqProofs only [encPdu, hd9, p9, encB, bytes_okl, bytes_ren, fCall, argsOk, argOk, lentOk, CallO.ren, CallO.keep, seenIds, distinct, blksOk, Blk.ok, PV.ok, okL, PV.ren, renL, Blk.ren, List.isEmpty_cons, List.isEmpty_nil, List.contains_nil, List.contains_cons, BEq.rfl, range_one_i, and_true, true_and, forall_nil_i, List.forall_mem_cons, Option.some.injEq, Blk.box.injEq, Blk.row.injEq, List.cons.injEq, take_map_len, restr, List.contains_nil, List.contains_cons, BEq.rfl, Nat.reduceBEq, implies_true, imp_self_i, false_imp_i, argsV, PV.fz, fzL, view, viewA, viewC, viewOk, viewOkA, viewOkC, seenV, ids, idsA, idsC, PV.scalar, PV.scalarA, PV.scalarC, VT.fr, wk, wkA, wkAL, wkC, wkL, wkB, blkLe, true_or, List.mem_cons, List.mem_singleton, List.not_mem_nil, forall_eq_or_imp, forall_eq, List.all_cons, List.all_nil, List.flatMap_cons, List.flatMap_nil, AS.get, getPV, lk, Int.cast_ofNat_Int, Int.natCast_one, Int.reduceBEq, Int.reduceBNe, Int.reduceNeg, int_toNat_zero_i, Nat.sub_zero, Int.natCast_zero, Int.reduceAdd, Int.reduceSub, Int.reduceLT, Int.reduceLE, Int.reduceMul, Int.zero_add, decide_true, decide_false, Nat.reducePow, Int.reducePow, Nat.reduceAdd, Nat.reduceEqDiff, Nat.reduceLT, Nat.reduceLeDiff, Nat.reduceMul, Nat.reduceSub, Nat.reduceBEq, Nat.le_refl, Nat.zero_add, Nat.add_zero, reduceCtorEq, or_true, true_or, or_false, false_or, if_true, if_false, ↓reduceIte, true_and, and_true, and_self, Bool.not_true, Bool.not_false, cond_true, cond_false, Bool.true_eq_false, Bool.false_eq_true, ne_eq, not_false_eq_true, not_true_eq_false, Bool.and_true, Bool.true_and, Bool.and_false, Bool.false_and, Bool.or_true, Bool.true_or, Bool.or_false, Bool.false_or, List.isEmpty_nil, List.map_cons, List.map_nil, List.length_cons, List.length_nil, List.length_map, List.getD_cons_zero, List.getD_cons_succ, List.getD_nil, List.getElem?_cons_zero, List.getElem?_cons_succ, List.getElem?_nil, List.take_succ_cons, List.take_zero, List.take_nil, List.drop_succ_cons, List.drop_zero, List.drop_nil, List.nil_append, List.cons_append, List.append_nil, Option.getD_some, Option.getD_none, Option.map_some, Option.map_none, Int.toNat_natCast]
    rfl
  · unfold afterK
    simp only []
    simp -dsimp -implicitDefEqProofs only [encPdu, hd9, p9, encB, bytes_ren, PV.fz, fzL, fCall, CallO.ren, CallO.keep, seenIds, PV.ren, renL, Blk.ren, List.isEmpty_cons, List.isEmpty_nil, push_cast, ↓trAdd_f, ↓stOf_f, Nat.reduceBEq, Int.reduceBEq, Int.reduceBNe, Int.reduceNeg, Int.reduceAdd, Int.reduceSub, Int.reduceLT, Int.reduceLE, Int.reduceMul, Nat.reducePow, Int.reducePow, Nat.reduceAdd, Nat.reduceEqDiff, Nat.reduceLT, Nat.reduceLeDiff, Nat.reduceMul, Nat.reduceSub, reduceCtorEq, ↓reduceIte]
    try refine hK _ ?_
    repeat (first | refine awp_seq ?_ | refine awp_block ?_ | refine awp_skip ?_ | refine awp_scope ?_ | refine awp_label ?_)
    refine awp_region tabOk fun K hK => ?_
    simp -dsimp -implicitDefEqProofs only [push_cast, ↓trAdd_f, ↓stOf_f, Nat.reduceBEq, Int.reduceBEq, Int.reduceBNe, Int.reduceNeg, Int.reduceAdd, Int.reduceSub, Int.reduceLT, Int.reduceLE, Int.reduceMul, Nat.reducePow, Int.reducePow, Nat.reduceAdd, Nat.reduceEqDiff, Nat.reduceLT, Nat.reduceLeDiff, Nat.reduceMul, Nat.reduceSub, reduceCtorEq, ↓reduceIte]
    refine hK _ (awp_ret ?_)
    simp -dsimp -implicitDefEqProofs only [encPdu, hd9, p9, encB, List.flatMap_cons, List.flatMap_nil, List.mem_append, Blk.ok, PV.ok, okL, List.length_append, take_map_len, implies_true, imp_self_i, false_imp_i, endOk, endOkP, resVals, joinRes, view, viewA, viewC, viewOk, viewOkA, viewOkC, storeEnd, wk, wkA, wkAL, wkC, wkL, wkB, blkLe, true_or, PV.int.injEq, PV.bool.injEq, idsA, PV.fz, fzL, ids, idsC, fLoad, outP, TI.n, TI.isAgg, List.not_mem_nil, List.mem_cons, List.mem_singleton, forall_eq_or_imp, forall_eq, AS.get, getPV, lk, Int.cast_ofNat_Int, Int.natCast_one, Int.reduceBEq, Int.reduceBNe, Int.reduceNeg, int_toNat_zero_i, Nat.sub_zero, Int.natCast_zero, Int.reduceAdd, Int.reduceSub, Int.reduceLT, Int.reduceLE, Int.reduceMul, Int.zero_add, decide_true, decide_false, Nat.reducePow, Int.reducePow, Nat.reduceAdd, Nat.reduceEqDiff, Nat.reduceLT, Nat.reduceLeDiff, Nat.reduceMul, Nat.reduceSub, Nat.reduceBEq, Nat.le_refl, Nat.zero_add, Nat.add_zero, reduceCtorEq, or_true, true_or, or_false, false_or, if_true, if_false, ↓reduceIte, true_and, and_true, and_self, Bool.not_true, Bool.not_false, cond_true, cond_false, Bool.true_eq_false, Bool.false_eq_true, ne_eq, not_false_eq_true, not_true_eq_false, Bool.and_true, Bool.true_and, Bool.and_false, Bool.false_and, Bool.or_true, Bool.true_or, Bool.or_false, Bool.false_or, List.isEmpty_nil, List.map_cons, List.map_nil, List.length_cons, List.length_nil, List.length_map, List.getD_cons_zero, List.getD_cons_succ, List.getD_nil, List.getElem?_cons_zero, List.getElem?_cons_succ, List.getElem?_nil, List.take_succ_cons, List.take_zero, List.take_nil, List.drop_succ_cons, List.drop_zero, List.drop_nil, List.nil_append, List.cons_append, List.append_nil, Option.getD_some, Option.getD_none, Option.map_some, Option.map_none, Int.toNat_natCast, T_1, T_2, T_3, T_4, T_5, T_6, T_7, T_8, T_9, T_10, T_11, T_12, T_13, T_14, T_15, T_16, T_17, T_18, T_19, T_21, T_22, T_23, T_24, T_25, T_26, T_27, T_28, T_29, T_30, T_32, T_34, T_35, T_36, T_38, T_39, T_40, T_41, T_42, T_44, T_45, T_46, T_47, T_48, T_49, T_51, T_52, T_54, T_55, T_56, T_57, T_58, T_59, T_60, T_61, T_62, T_63, T_64, T_65, T_66, T_67, T_69, T_70, T_72, T_73, T_74, T_75, T_76, T_77, T_78, T_79, T_80, T_81, T_82, T_83, T_84, T_85, T_86, T_87, T_88, T_89, T_90, T_91, T_92, T_93, T_94, T_95, T_96, T_97, T_98, T_99, T_100, T_101, T_102, T_103, T_104]
end Go.Proofs.YtoifmpiikopelaaFw
