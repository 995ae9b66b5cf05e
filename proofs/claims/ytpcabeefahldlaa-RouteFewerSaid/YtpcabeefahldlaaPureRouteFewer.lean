/-
  The plain law of RouteFewer: without any one of them routes without a loop have none; what they make of a frame is what all make, but for that one's.
-/
import Derived.Test.YtpcabeefahldlaaPx12
import Derived.Test.YtpcabeefahldlaaHop
import Derived.Test.YtpcabeefahldlaaRSame
namespace Go.Proofs.Ytpcabeefahldlaa.Pure
open Go.RowKit Go.Proofs.Ytpcabeefahldlaa.P Go.Proofs.YtpcabeefahldlaaOwn Go.Proofs.YtpcabeefahldlaaW.PrintWords Go.Proofs.YtpcabeefahldlaaW.PrintLast Go.Proofs.YtpcabeefahldlaaW.PrintMore
set_option linter.unusedVariables false
set_option linter.unusedSimpArgs false

theorem made_some (e : Bool) (i : Int) (r : Bool) (n : Int) (l : List Int) (hl : l.length < 9223372036854775807) : ∃ x, phaetonref06_Made.f e i r n l = some x := ⟨_, rfl⟩
theorem u8_range {a : Int} (h : (Lit.int .u8 a).wf = true) : 0 ≤ a ∧ a < 256 := by
  have h1 : IntKind.u8.min = 0 := by decide
  have h2 : IntKind.u8.max = 255 := by decide
  simp [Lit.wf] at h
  omega
theorem hopsL_app (a b : List S45) (bus : Int) (f : S25) : hopsL (a ++ b) bus f = hopsL a bus f ++ hopsL b bus f := by simp [hopsL]
theorem RouteFewer : ∀ (y0 : List (S45)) (y1 : Int) (y2 : S27), ((y0.length * 48 ≤ 140737488351232 ∧ y0.length ≤ maxLen ∧ ∀ z0 ∈ y0, ok45 z0)) → ((Lit.int .u8 y1).wf = true) → (ok27 y2) → ∃ k, phaetonlaw12_RouteFewer.f k y0 y1 y2.f0 y2.f1.f0 y2.f1.f1 y2.f1.f2 y2.f1.f3 y2.f1.f4 = some true := by
  intro l0 a x ⟨hl0, hl1, hl2⟩ ha hx
  obtain ⟨b0, f0, f1, f2, f3, f4⟩ := x
  obtain ⟨_, _, _, _, _, hf4⟩ := hx
  dsimp only
  refine ⟨2000, ?_⟩
  have ha := u8_range ha
  obtain ⟨⟨t1, t2, t3, t4, t5⟩, hm⟩ := made_some f0 f1 f2 f3 f4 (by have h_ : f4.length * 1 ≤ 140737488351232 := hf4.1; omega)
  have hc : phaetonlaw12_Cut.f 2000 l0 16 = some (cutL (l0.take 16)) := fCut 2000 16 l0 (by omega) (by omega) (by omega)
  have hcr := cutL_right (l := l0.take 16) (fun r hr => hl2 r (List.mem_of_mem_take hr))
  have hcl : (cutL (l0.take 16)).length ≤ 16 := Nat.le_trans (cutL_len _) (by rw [List.length_take]; omega)
  unfold phaetonlaw12_RouteFewer.f
  rw [head_true _ (by omega), Option.bind_some, hc, Option.bind_some, hm, Option.bind_some]
  generalize cutL (l0.take 16) = l at *
  dsimp only
  generalize Go.bits .and .i64 b0 3 = bus
  have hH : ∀ m : List S45, m.length ≤ 16 → route_Hops.f 2000 m bus t1 t2 t3 t4 t5 = some (hopsL m bus ⟨t1, t2, t3, t4, t5⟩) := fun m hm => fHops 2000 m bus ⟨t1, t2, t3, t4, t5⟩ (by omega) (by omega)
  generalize (⟨t1, t2, t3, t4, t5⟩ : S25) = fr at hH
  by_cases h0 : (l.length : Int) = 0
  · have hn : l = [] := List.eq_nil_of_length_eq_zero (by omega)
    rw [if_pos h0, hH l (by omega), Option.bind_some, hn, if_pos (by simp [hopsL])]
  · have w0 : wrap64 a = a := wr _ (by omega)
    obtain ⟨n, hn, hnl⟩ : ∃ n : Nat, Int.tmod (wrap64 a) (l.length : Int) = (n : Int) ∧ n < l.length := by
      rw [w0, Int.tmod_eq_emod_of_nonneg (by omega)]
      have g1 := Int.emod_nonneg a (show (l.length : Int) ≠ 0 from h0)
      have g2 := Int.emod_lt_of_pos a (show 0 < (l.length : Int) by omega)
      exact ⟨(a % l.length).toNat, by omega, by omega⟩
    rw [if_neg h0, hn, wr1 n (by omega), Int.toNat_natCast, Int.toNat_natCast]
    have lt := List.length_take_le n l
    have ld : (l.drop (n + 1)).length ≤ 16 := by rw [List.length_drop]; omega
    have hsplit : l = l.take n ++ [l[n]] ++ l.drop (n + 1) := by
      rw [List.append_assoc, List.singleton_append, ← List.drop_eq_getElem_cons hnl, List.take_append_drop]
    have one : ([⟨(rd_T45 l (n : Int)).f0, (rd_T45 l (n : Int)).f1, ⟨(rd_T45 l (n : Int)).f2.f0, (rd_T45 l (n : Int)).f2.f1, (rd_T45 l (n : Int)).f2.f2⟩, (rd_T45 l (n : Int)).f3⟩] : List S45) = [l[n]] := by rw [rd45 l n hnl]
    have q1 := hopsL_len (l.take n) bus fr
    have q2 := hopsL_len (l.drop (n + 1)) bus fr
    have q3 := hopsL_len [l[n]] bus fr
    have q4 : [l[n]].length = 1 := rfl
    have hless : (l.take n ++ l.drop (n + 1)).length ≤ 16 := by rw [List.length_append, List.length_take, List.length_drop]; omega
    have eall : hopsL l bus fr = hopsL (l.take n) bus fr ++ hopsL [l[n]] bus fr ++ hopsL (l.drop (n + 1)) bus fr := by
      conv => lhs; rw [hsplit]
      rw [hopsL_app, hopsL_app]
    have eless : hopsL (l.take n ++ l.drop (n + 1)) bus fr = hopsL (l.take n) bus fr ++ hopsL (l.drop (n + 1)) bus fr := hopsL_app ..
    have hin : inR l 4 := all_in (n := 4) hcr
    have hrl := rightL_of hcr hcl
    have hsub : ∀ r ∈ l.take n ++ l.drop (n + 1), r ∈ l := fun r hr => by
      rcases List.mem_append.1 hr with h | h
      · exact List.mem_of_mem_take h
      · exact List.mem_of_mem_drop h
    have hcr2 : (l.take n ++ l.drop (n + 1)).all (rightR 4) = true := by
      rw [List.all_eq_true] at hcr ⊢
      exact fun r hr => hcr r (hsub r hr)
    have hrl2 := rightL_of hcr2 hless
    rw [if_pos (by omega), if_pos (by omega), Option.bind_some, if_pos (by omega), Option.bind_some, if_pos (by simp only [List.length_nil]; omega), Option.bind_some, if_pos (by omega), if_pos (by omega), Option.bind_some, List.nil_append, if_pos (by omega), Option.bind_some, hH _ (by omega), Option.bind_some, hH _ (by omega), Option.bind_some, Option.bind_some, List.nil_append, if_pos (by simp only [List.length_nil]; omega), Option.bind_some, one, hH _ (by rw [q4]; omega), Option.bind_some, if_pos (by omega), Option.bind_some, if_pos (by rw [List.length_append]; omega), Option.bind_some, Option.bind_some, if_pos (by simp only [List.length_nil]; omega), Option.bind_some, List.nil_append, if_pos (by omega), Option.bind_some, hH _ hless, hH l hcl, eall, eless]
    simp only [Option.bind_some, fSame, if_true]
    rw [fLoop _ _ _ (by omega), Option.bind_some, fLoop _ _ _ (by omega), Option.bind_some, hrl, hrl2, Bool.true_and, Bool.true_and]
    cases hb : loopB l 4 with
    | false => rw [if_neg (by decide)]
    | true =>
      obtain ⟨p, hp⟩ := (loopB_iff (n := 4) hin (by decide) (by omega)).1 hb
      have h2 : loopB (l.take n ++ l.drop (n + 1)) 4 = true := (loopB_iff (n := 4) (all_in (n := 4) hcr2) (by decide) (by omega)).2 ⟨p, fun r hr => hp r (hsub r hr)⟩
      rw [if_pos rfl, h2, if_pos rfl]

end Go.Proofs.Ytpcabeefahldlaa.Pure
