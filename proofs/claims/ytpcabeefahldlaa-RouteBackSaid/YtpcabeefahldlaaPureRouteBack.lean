/-
  The plain law of RouteBack: a ring of buses is a loop; without any one of its routes it is none.
-/
import Derived.Test.YtpcabeefahldlaaPx15
import Derived.Test.YtpcabeefahldlaaCut
namespace Go.Proofs.Ytpcabeefahldlaa.Pure
open Go.RowKit Go.Proofs.Ytpcabeefahldlaa.P Go.Proofs.YtpcabeefahldlaaOwn Go.Proofs.YtpcabeefahldlaaW.PrintWords Go.Proofs.YtpcabeefahldlaaW.PrintLast Go.Proofs.YtpcabeefahldlaaW.PrintMore
set_option linter.unusedVariables false
set_option linter.unusedSimpArgs false

/-- The route from a bus to the next one of a ring. -/
def step (n : Nat) (r : S45) (i : Nat) : S45 := ⟨(i : Int), (((i + 1) % n : Nat) : Int), r.f2, r.f3⟩
def ringL (n : Nat) (r : S45) : List S45 := (List.range n).map (step n r)
def cring (n : Nat) (r : S45) : List S45 := (List.range n).map (fun i => cutR (step n r i))
theorem ring_len (n : Nat) (r : S45) : (ringL n r).length = n := by simp [ringL]
theorem cring_len (n : Nat) (r : S45) : (cring n r).length = n := by simp [cring]

theorem back_l0 (r : S45) (n : Nat) (hn : 2 ≤ n ∧ n ≤ 4) : ∀ (d i : Nat), i + d = n → ∀ k, d + 101 < k → (∀ k', 100 < k' → phaetonlaw12_RouteBack.l1 k' true (n : Int) (ringL n r) [] 0 = some true) → phaetonlaw12_RouteBack.l0 k true (n : Int) ((List.range i).map (step n r)) (i : Int) r.f0 r.f1 r.f2.f0 r.f2.f1 r.f2.f2 r.f3 = some true
  | 0, i, hd, k, hk, H => by
    obtain ⟨k, rfl⟩ : ∃ j, k = j + 1 := ⟨k - 1, by omega⟩
    obtain rfl : i = n := by omega
    unfold phaetonlaw12_RouteBack.l0
    rw [if_neg (by omega)]
    exact H k (by omega)
  | d + 1, i, hd, k, hk, H => by
    obtain ⟨k, rfl⟩ : ∃ j, k = j + 1 := ⟨k - 1, by omega⟩
    unfold phaetonlaw12_RouteBack.l0
    rw [if_pos (by omega), if_neg (by omega), if_pos (by simp; omega), wr1 i (by omega)]
    have ht : Int.tmod ((i + 1 : Nat) : Int) (n : Int) = (((i + 1) % n : Nat) : Int) := rfl
    rw [ht]
    have e : (List.range i).map (step n r) ++ [(⟨(i : Int), (((i + 1) % n : Nat) : Int), (⟨r.f2.f0, r.f2.f1, r.f2.f2⟩ : S43), r.f3⟩ : S45)] = (List.range (i + 1)).map (step n r) := by
      rw [List.range_succ, List.map_append]; rfl
    rw [e]
    exact back_l0 r n hn d (i + 1) (by omega) k (by omega) H
theorem step_cut (n : Nat) (hn : 2 ≤ n ∧ n ≤ 4) (r : S45) (i : Nat) (hi : i < n) : (cutR (step n r i)).f0 = (i : Int) ∧ (cutR (step n r i)).f1 = (((i + 1) % n : Nat) : Int) := by
  have b : ∀ j : Fin 4, Go.bits .and .i64 ((j.val : Nat) : Int) 3 = (j.val : Int) := by decide +kernel
  have hm : (i + 1) % n < n := Nat.mod_lt _ (by omega)
  exact ⟨b ⟨i, by omega⟩, b ⟨(i + 1) % n, by omega⟩⟩
theorem step_apart (n : Nat) (hn : 2 ≤ n ∧ n ≤ 4) (r : S45) (i : Nat) (hi : i < n) : apartR (cutR (step n r i)) = true := by
  obtain ⟨h0, h1⟩ := step_cut n hn r i hi
  unfold apartR
  rw [h0, h1]
  have : i ≠ (i + 1) % n := by
    rcases Nat.lt_or_ge (i + 1) n with h | h
    · rw [Nat.mod_eq_of_lt h]; omega
    · rw [show i + 1 = n by omega, Nat.mod_self]; omega
  have h2 : ¬ ((i : Int) = (((i + 1) % n : Nat) : Int)) := by omega
  simpa using h2
theorem back_l1 (r : S45) (n : Nat) (hn : 2 ≤ n ∧ n ≤ 4) : ∀ (d i : Nat), i + d = n → ∀ k, d + 90 < k → (∀ k', 90 < k' → phaetonlaw12_RouteBack.l1 k' true (n : Int) (ringL n r) (cring n r) (n : Int) = some true) → phaetonlaw12_RouteBack.l1 k true (n : Int) (ringL n r) ((List.range i).map (fun i => cutR (step n r i))) (i : Int) = some true
  | 0, i, hd, k, hk, H => by
    obtain rfl : i = n := by omega
    exact H k (by omega)
  | d + 1, i, hd, k, hk, H => by
    obtain ⟨k, rfl⟩ : ∃ j, k = j + 1 := ⟨k - 1, by omega⟩
    unfold phaetonlaw12_RouteBack.l1
    rw [wr1 i (by omega), if_pos (by omega), if_pos (by omega), if_pos (by omega), if_pos (by rw [ring_len]; omega)]
    have hs : ((ringL n r).take ((i + 1 : Nat) : Int).toNat).drop ((i : Int)).toNat = [step n r i] := by
      rw [Int.toNat_natCast, Int.toNat_natCast, List.drop_take, show i + 1 - i = 1 by omega]
      unfold ringL
      rw [← List.map_drop, ← List.map_take]
      have : (List.range n).drop i = i :: (List.range n).drop (i + 1) := by
        rw [List.drop_eq_getElem_cons (by simp; omega)]; simp
      rw [this]; rfl
    rw [hs]
    have hc : phaetonlaw12_Cut.f k [step n r i] 1 = some [cutR (step n r i)] := by
      have h1 := fCut k 1 [step n r i] (by omega) (by simp) (by omega)
      have h2 : cutL ([step n r i].take 1) = [cutR (step n r i)] := by
        simp [cutL, step_apart n hn r i (by omega)]
      rw [h2] at h1; exact h1
    rw [hc, Option.bind_some, if_pos (by simp; omega)]
    have e : (List.range i).map (fun i => cutR (step n r i)) ++ [cutR (step n r i)] = (List.range (i + 1)).map (fun i => cutR (step n r i)) := by
      rw [List.range_succ, List.map_append]; rfl
    rw [e]
    exact back_l1 r n hn d (i + 1) (by omega) k (by omega) H
theorem cring_right (r : S45) (hr : ok45 r) (n : Nat) (hn : 2 ≤ n ∧ n ≤ 4) : (cring n r).all (rightR n) = true := by
  rw [List.all_eq_true]
  intro x hx
  unfold cring at hx
  obtain ⟨i, hi, rfl⟩ := List.mem_map.mp hx
  have hi : i < n := by simpa using hi
  have hm : (i + 1) % n < n := Nat.mod_lt _ (by omega)
  have W : ∀ x : Nat, x < 1000 → (Lit.int .i64 (x : Int)).wf = true := by
    intro x hx
    have h1 : IntKind.i64.min = -9223372036854775808 := by decide
    have h2 : IntKind.i64.max = 9223372036854775807 := by decide
    simp [Lit.wf]
    (try rw [h1]); (try rw [h2])
    omega
  have hok : ok45 (step n r i) := ⟨W _ (by omega), W _ (by omega), hr.2.2.1, hr.2.2.2⟩
  have h4 := cut_right hok (step_apart n hn r i hi)
  obtain ⟨h0, h1⟩ := step_cut n hn r i hi
  unfold rightR at h4 ⊢
  simp only [Bool.and_eq_true, decide_eq_true_eq] at h4 ⊢
  rw [h0, h1] at h4 ⊢
  refine ⟨⟨⟨⟨⟨⟨?_, ?_⟩, ?_⟩, ?_⟩, h4.1.1.2⟩, h4.1.2⟩, h4.2⟩ <;> omega
theorem drop_take_eq (l : List S45) (i : Nat) (hi : i < l.length) : l.take i ++ l.drop (i + 1) = l.eraseIdx i := by
  rw [List.eraseIdx_eq_take_drop_succ]
/-- What goes out of a potential: a ring has none. -/
theorem ring_loop (r : S45) (n m : Nat) (hn : 2 ≤ n ∧ n ≤ 4) (hm : n ≤ m ∧ m ≤ 4) : loopB (cring n r) m = false := by
  have hin : inR (cring n r) m := by
    intro x hx
    unfold cring at hx
    obtain ⟨i, hi, rfl⟩ := List.mem_map.mp hx
    have hi : i < n := by simpa using hi
    have hmm : (i + 1) % n < n := Nat.mod_lt _ (by omega)
    obtain ⟨h0, h1⟩ := step_cut n hn r i hi
    rw [h0, h1]; omega
  rw [← Bool.not_eq_true, loopB_iff hin hm.2 (by rw [cring_len]; omega)]
  rintro ⟨p, hp⟩
  have E : ∀ i, i < n → p i < p ((i + 1) % n) := by
    intro i hi
    have := hp (cutR (step n r i)) (by unfold cring; exact List.mem_map.mpr ⟨i, by simpa using hi, rfl⟩)
    obtain ⟨h0, h1⟩ := step_cut n hn r i hi
    rw [h0, h1, Int.toNat_natCast, Int.toNat_natCast] at this
    exact this
  rcases (show n = 2 ∨ n = 3 ∨ n = 4 by omega) with rfl | rfl | rfl
  · have a := E 0 (by omega); have b := E 1 (by omega); simp at a b; omega
  · have a := E 0 (by omega); have b := E 1 (by omega); have c := E 2 (by omega); simp at a b c; omega
  · have a := E 0 (by omega); have b := E 1 (by omega); have c := E 2 (by omega); have d := E 3 (by omega); simp at a b c d; omega
/-- A potential that starts behind the route that lacks. -/
theorem less_ok (r : S45) (n i : Nat) (hn : 2 ≤ n ∧ n ≤ 4) (hi : i < n) : loopB ((cring n r).take i ++ (cring n r).drop (i + 1)) n = true := by
  have mem : ∀ x ∈ (cring n r).take i ++ (cring n r).drop (i + 1), ∃ j, j < n ∧ j ≠ i ∧ x = cutR (step n r j) := by
    intro x hx
    rcases List.mem_append.mp hx with h | h
    · obtain ⟨j, hj, rfl⟩ := List.getElem_of_mem h
      rw [List.length_take, cring_len] at hj
      refine ⟨j, by omega, by omega, ?_⟩
      simp [cring]
    · obtain ⟨j, hj, rfl⟩ := List.getElem_of_mem h
      rw [List.length_drop, cring_len] at hj
      refine ⟨i + 1 + j, by omega, by omega, ?_⟩
      simp [cring]
  have hin : inR ((cring n r).take i ++ (cring n r).drop (i + 1)) n := by
    intro x hx
    obtain ⟨j, hj, _, rfl⟩ := mem x hx
    have hmm : (j + 1) % n < n := Nat.mod_lt _ (by omega)
    obtain ⟨h0, h1⟩ := step_cut n hn r j hj
    rw [h0, h1]; omega
  rw [loopB_iff hin hn.2 (by rw [List.length_append, List.length_take, List.length_drop, cring_len]; omega)]
  refine ⟨fun v => (((v + n - (i + 1)) % n : Nat) : Int), fun x hx => ?_⟩
  obtain ⟨j, hj, hne, rfl⟩ := mem x hx
  obtain ⟨h0, h1⟩ := step_cut n hn r j hj
  rw [h0, h1]
  simp only [Int.toNat_natCast]
  have key : ∀ a b c : Fin 5, 2 ≤ a.val → b.val < a.val → c.val < a.val → c.val ≠ b.val → (((c.val + a.val - (b.val + 1)) % a.val : Nat) : Int) < ((((c.val + 1) % a.val + a.val - (b.val + 1)) % a.val : Nat) : Int) := by decide +kernel
  exact key ⟨n, by omega⟩ ⟨i, by omega⟩ ⟨j, by omega⟩ hn.1 hi hj hne
theorem back_l2 (r : S45) (hr : ok45 r) (n : Nat) (hn : 2 ≤ n ∧ n ≤ 4) : ∀ (d i : Nat), i + d = n → ∀ k, d + 50 < k → phaetonlaw12_RouteBack.l2 k true (n : Int) (cring n r) (i : Int) = some true
  | 0, i, hd, k, hk => by
    obtain ⟨k, rfl⟩ : ∃ j, k = j + 1 := ⟨k - 1, by omega⟩
    unfold phaetonlaw12_RouteBack.l2
    rw [if_neg (by omega)]
  | d + 1, i, hd, k, hk => by
    obtain ⟨k, rfl⟩ : ∃ j, k = j + 1 := ⟨k - 1, by omega⟩
    unfold phaetonlaw12_RouteBack.l2
    have h1 : ((cring n r).take i).length = i := by rw [List.length_take, cring_len]; omega
    rw [if_pos (by omega), Option.bind_some, if_pos (by omega), if_pos (by rw [cring_len]; omega), Option.bind_some, Int.toNat_natCast, if_pos (by simp; omega), Option.bind_some, wr1 i (by omega), if_pos (by omega), if_pos (by rw [cring_len]; omega), Option.bind_some, Int.toNat_natCast, if_pos (by simp [cring_len]; omega), List.nil_append]
    have hall := cring_right r hr n hn
    rw [List.all_eq_true] at hall
    have hR : rightL ((cring n r).take i ++ (cring n r).drop (i + 1)) n = true := by
      unfold rightL
      rw [decide_eq_true (by omega : (1 : Int) ≤ n), decide_eq_true (by omega : (n : Int) ≤ 4), decide_eq_true (by rw [List.length_append, List.length_take, List.length_drop, cring_len]; omega : ((cring n r).take i ++ (cring n r).drop (i + 1)).length ≤ 16)]
      simp only [Bool.true_and]
      rw [List.all_eq_true]
      intro x hx
      rcases List.mem_append.mp hx with h | h
      · exact hall x (List.mem_of_mem_take h)
      · exact hall x (List.mem_of_mem_drop h)
    rw [fLoop _ _ _ (by omega), Option.bind_some, hR, less_ok r n i hn (by omega), Bool.true_and, if_pos rfl]
    exact back_l2 r hr n hn d (i + 1) (by omega) k (by omega)
theorem u8_range {a : Int} (h : (Lit.int .u8 a).wf = true) : 0 ≤ a ∧ a < 256 := by
  have h1 : IntKind.u8.min = 0 := by decide
  have h2 : IntKind.u8.max = 255 := by decide
  simp [Lit.wf] at h
  omega

theorem RouteBack : ∀ (y0 : Int) (y1 : S45), ((Lit.int .u8 y0).wf = true) → (ok45 y1) → ∃ k, phaetonlaw12_RouteBack.f k y0 y1.f0 y1.f1 y1.f2.f0 y1.f2.f1 y1.f2.f2 y1.f3 = some true := by
  intro a r ha hr
  obtain ⟨k, hk⟩ : ∃ k, k = 2000 := ⟨_, rfl⟩
  refine ⟨k, ?_⟩
  have ha := u8_range ha
  unfold phaetonlaw12_RouteBack.f
  rw [head_true k (by omega), Option.bind_some]
  have w0 : wrap64 a = a := wr _ (by omega)
  obtain ⟨n, hn, hn2⟩ : ∃ n : Nat, wrap64 (2 + Int.tmod (wrap64 a) 3) = n ∧ 2 ≤ n ∧ n ≤ 4 := by
    have : 0 ≤ Int.tmod (wrap64 a) 3 ∧ Int.tmod (wrap64 a) 3 < 3 := by
      rw [w0, Int.tmod_eq_emod_of_nonneg (by omega)]; omega
    refine ⟨(2 + Int.tmod (wrap64 a) 3).toNat, ?_, by omega, by omega⟩
    rw [wr _ (by omega)]; omega
  rw [hn]
  have h0 := back_l0 r n hn2 n 0 (by omega) k (by omega)
  refine h0 (fun k' hk' => ?_)
  have h1 := back_l1 r n hn2 n 0 (by omega) k' (by omega)
  refine h1 (fun k' hk' => ?_)
  obtain ⟨k', rfl⟩ : ∃ j, k' = j + 1 + 1 := ⟨k' - 2, by omega⟩
  have hall := cring_right r hr n hn2
  have hR : ∀ m : Nat, n ≤ m → m ≤ 4 → rightL (cring n r) m = true := by
    intro m h1 h2
    unfold rightL
    rw [decide_eq_true (by omega : (1 : Int) ≤ m), decide_eq_true (by omega : (m : Int) ≤ 4), decide_eq_true (by rw [cring_len]; omega : (cring n r).length ≤ 16)]
    simp only [Bool.true_and]
    rw [List.all_eq_true] at hall ⊢
    intro x hx
    have h := hall x hx
    unfold rightR at h ⊢
    simp only [Bool.and_eq_true, decide_eq_true_eq] at h ⊢
    refine ⟨⟨⟨⟨⟨⟨?_, ?_⟩, ?_⟩, ?_⟩, h.1.1.2⟩, h.1.2⟩, h.2⟩ <;> omega
  unfold phaetonlaw12_RouteBack.l1
  rw [if_neg (by omega), if_pos (by rw [cring_len]), fRight _ _ _ (by omega), Option.bind_some, hR n (by omega) (by omega), if_pos rfl, fLoop _ _ _ (by omega), Option.bind_some, hR n (by omega) (by omega), ring_loop r n n hn2 (by omega)]
  simp only [Bool.and_false, Bool.false_eq_true, if_false]
  have h4 := hR 4 (by omega) (by omega)
  have l4 := ring_loop r n 4 hn2 (by omega)
  rw [show ((4 : Nat) : Int) = 4 from rfl] at h4 l4
  rw [fLoop _ _ _ (by omega), Option.bind_some, h4, l4]
  unfold phaetonlaw12_RouteBack.j2
  simp only [Bool.and_false, Bool.false_eq_true, if_false]
  exact back_l2 r hr n hn2 n 0 (by omega) k' (by omega)

end Go.Proofs.Ytpcabeefahldlaa.Pure
