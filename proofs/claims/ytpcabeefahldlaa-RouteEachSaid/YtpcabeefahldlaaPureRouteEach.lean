/-
  The plain law of RouteEach: routes of which one thing may not be are not right, and have no reach.
-/
import Derived.Test.YtpcabeefahldlaaPx16
import Derived.Test.YtpcabeefahldlaaCut
namespace Go.Proofs.Ytpcabeefahldlaa.Pure
open Go.RowKit Go.Proofs.Ytpcabeefahldlaa.P Go.Proofs.YtpcabeefahldlaaOwn Go.Proofs.YtpcabeefahldlaaW.PrintWords Go.Proofs.YtpcabeefahldlaaW.PrintLast Go.Proofs.YtpcabeefahldlaaW.PrintMore
set_option linter.unusedVariables false
set_option linter.unusedSimpArgs false

theorem made_some (e : Bool) (i : Int) (r : Bool) (n : Int) (l : List Int) (hl : l.length < 9223372036854775807) : ∃ x, phaetonref06_Made.f e i r n l = some x := ⟨_, rfl⟩
theorem bad_not (l : List S45) (b : S45) (h : rightR 4 b = false) : rightL (l ++ [b]) 4 = false := by
  unfold rightL
  rw [List.all_append]
  simp [h]
theorem each_l0 (l : List S45) (bad : List S45) (hb : ∀ b ∈ bad, rightR 4 b = false) (hl : l.length ≤ 1000) (hb9 : bad.length ≤ 1000) (hr : rightL l 4 = true) (e : Bool) (id : Int) (rm : Bool) (ln : Int) (dat : List Int) : ∀ (k i : Nat), i ≤ bad.length → bad.length - i + 30 < k → phaetonlaw12_RouteEach.l0 k l true bad (i : Int) e id rm ln dat = some true
  | 0, _, _, h => by omega
  | k + 1, i, hi, h => by
    unfold phaetonlaw12_RouteEach.l0
    by_cases c : i < bad.length
    · rw [if_pos (by omega)]
      simp only [Option.bind_some, List.nil_append, List.length_nil, Nat.zero_add]
      rw [if_pos (by omega), if_pos (by omega), if_pos (by omega), rd45 bad i c]
      have hm : bad[i] ∈ bad := List.getElem_mem c
      have hx : (⟨bad[i].f0, bad[i].f1, ⟨bad[i].f2.f0, bad[i].f2.f1, bad[i].f2.f2⟩, bad[i].f3⟩ : S45) = bad[i] := rfl
      rw [hx, fRight _ _ _ (by omega), Option.bind_some, bad_not l _ (hb _ hm), fLoop _ _ _ (by omega), Option.bind_some, bad_not l _ (hb _ hm)]
      simp only [Bool.false_and, Bool.false_eq_true, if_false]
      have hre : route_Reach.f k (l ++ [bad[i]]) 4 0 e id rm ln dat = some [] := by
        unfold route_Reach.f
        rw [fLoop _ _ _ (by omega), Option.bind_some, bad_not l _ (hb _ hm)]; rfl
      rw [hre, Option.bind_some, if_pos (by simp), wr1 i (by omega)]
      exact each_l0 l bad hb hl hb9 hr e id rm ln dat k (i + 1) (by omega) (by omega)
    · rw [if_neg (by omega), fRight _ _ _ (by omega), Option.bind_some, hr, if_pos rfl]

theorem u8_range {a : Int} (h : (Lit.int .u8 a).wf = true) : 0 ≤ a ∧ a < 256 := by
  have h1 : IntKind.u8.min = 0 := by decide
  have h2 : IntKind.u8.max = 255 := by decide
  simp [Lit.wf] at h
  omega
theorem RouteEach : ∀ (y0 : List (S45)) (y1 : Int) (y2 : S25), ((y0.length * 48 ≤ 140737488351232 ∧ y0.length ≤ maxLen ∧ ∀ z0 ∈ y0, ok45 z0)) → ((Lit.int .u8 y1).wf = true) → (ok25 y2) → ∃ k, phaetonlaw12_RouteEach.f k y0 y1 y2.f0 y2.f1 y2.f2 y2.f3 y2.f4 = some true := by
  intro l a f ⟨hl0, hl1, hl2⟩ ha ⟨_, hf1, _, hf3, hf4⟩
  obtain ⟨k, hk⟩ : ∃ k, k = 2000 := ⟨_, rfl⟩
  refine ⟨k, ?_⟩
  have ha := u8_range ha
  obtain ⟨x, hx⟩ := made_some f.f0 f.f1 f.f2 f.f3 f.f4 (by omega)
  have hc : phaetonlaw12_Cut.f k l 15 = some (cutL (l.take 15)) := fCut k 15 l (by omega) (by omega) (by omega)
  have hcr := cutL_right (l := l.take 15) (fun r hr => hl2 r (List.mem_of_mem_take hr))
  have hcl : (cutL (l.take 15)).length ≤ 15 := Nat.le_trans (cutL_len _) (by rw [List.length_take]; omega)
  have hr := rightL_of hcr (by omega)
  unfold phaetonlaw12_RouteEach.f
  rw [head_true k (by omega), Option.bind_some, hc, Option.bind_some, hx, Option.bind_some]
  have w0 : wrap64 a = a := wr _ (by omega)
  obtain ⟨n, hn⟩ : ∃ n, Int.tmod (wrap64 a) 9 = n := ⟨_, rfl⟩
  have hn9 : 0 ≤ n ∧ n < 9 := by
    rw [← hn, w0, Int.tmod_eq_emod_of_nonneg (by omega)]; omega
  rw [hn]
  have w1 : wrap64 (4 + n) = 4 + n := wr _ (by omega)
  have w2 : wrap64 (-1 - n) = -1 - n := wr _ (by omega)
  have w3 : wrap64 (-2 - n) = -2 - n := wr _ (by omega)
  have w4 : wrap64 (2048 + n) = 2048 + n := wr _ (by omega)
  have w5 : wrap64 (1 + n) = 1 + n := wr _ (by omega)
  rw [w1, w2, w3, w4, w5]
  refine each_l0 (cutL (l.take 15)) _ ?_ (by omega) (by simp) hr _ _ _ _ _ k 0 (by omega) (by simp; omega)
  intro b hb
  rcases (show n = 0 ∨ n = 1 ∨ n = 2 ∨ n = 3 ∨ n = 4 ∨ n = 5 ∨ n = 6 ∨ n = 7 ∨ n = 8 by omega) with rfl | rfl | rfl | rfl | rfl | rfl | rfl | rfl | rfl <;> simp only [List.mem_cons, List.not_mem_nil, or_false] at hb <;> rcases hb with rfl | rfl | rfl | rfl | rfl | rfl | rfl | rfl <;> decide +kernel

end Go.Proofs.Ytpcabeefahldlaa.Pure
