/-
  The plain law of RouteTells: the program's routes and the document's are alike.
-/
import Derived.Test.YtpcabeefahldlaaPx19
import Derived.Test.YtpcabeefahldlaaRefLoop
import Derived.Test.YtpcabeefahldlaaRHop
namespace Go.Proofs.Ytpcabeefahldlaa.Pure
open Go.RowKit Go.Proofs.Ytpcabeefahldlaa.P Go.Proofs.YtpcabeefahldlaaOwn Go.Proofs.YtpcabeefahldlaaW.PrintWords Go.Proofs.YtpcabeefahldlaaW.PrintLast Go.Proofs.YtpcabeefahldlaaW.PrintMore
set_option linter.unusedVariables false
set_option linter.unusedSimpArgs false

theorem bits_wf (a b : Int) : (Lit.int .i64 (Go.bits .and .i64 a b)).wf = true := by
  have e : Go.bits .and .i64 a b = (BitVec.ofInt 64 a &&& BitVec.ofInt 64 b).toInt := by
    show IntKind.i64.wrap ((BitVec.ofInt 64 a &&& BitVec.ofInt 64 b).toNat : Int) = _
    exact wrap_toInt _
  rw [e]
  generalize (BitVec.ofInt 64 a &&& BitVec.ofInt 64 b) = A
  have h1 := BitVec.toInt_lt (x := A)
  have h2 := BitVec.le_toInt (x := A)
  have h3 : IntKind.i64.min = -9223372036854775808 := by decide
  have h4 : IntKind.i64.max = 9223372036854775807 := by decide
  simp [Lit.wf]
  (try rw [h3]); (try rw [h4]); omega
theorem new_wf (e : Bool) (x : Int) : (Lit.int .i64 (mx (-1) (mn x (topR e)))).wf = true := by
  have h : -1 ≤ mx (-1) (mn x (topR e)) ∧ mx (-1) (mn x (topR e)) ≤ 536870911 := by
    unfold mx mn topR
    cases e <;> simp only [Bool.false_eq_true, if_false, if_true] <;> repeat (first | omega | split)
  generalize mx (-1) (mn x (topR e)) = x at *
  have h3 : IntKind.i64.min = -9223372036854775808 := by decide
  have h4 : IntKind.i64.max = 9223372036854775807 := by decide
  simp [Lit.wf]
  (try rw [h3]); (try rw [h4]); omega
theorem cut_ok (r : S45) : ok45 (cutR r) := by
  unfold ok45 ok43 cutR
  dsimp only
  exact ⟨bits_wf _ _, bits_wf _ _, ⟨trivial, bits_wf _ _, bits_wf _ _⟩, new_wf _ _⟩
theorem cutL_ok {l : List S45} (h : ∀ r ∈ l, ok45 r) : ∀ r ∈ cutL l, ok45 r := by
  intro x hx
  unfold cutL at hx
  obtain ⟨hx, ha⟩ := List.mem_filter.mp hx
  obtain ⟨r, hr, rfl⟩ := List.mem_map.mp hx
  exact cut_ok r
theorem id_low {l : List S45} (h : l.all (rightR 4) = true) : ∀ r ∈ l, -1 ≤ r.f3 := by
  rw [List.all_eq_true] at h
  intro r hr
  have := h r hr
  unfold rightR idR at this
  simp only [Bool.and_eq_true, Bool.or_eq_true, beq_iff_eq, decide_eq_true_eq] at this
  omega

theorem RouteTells : ∀ (y0 : List (S45)) (y1 : Int) (y2 : S27), ((y0.length * 48 ≤ 140737488351232 ∧ y0.length ≤ maxLen ∧ ∀ z0 ∈ y0, ok45 z0)) → ((Lit.int .i64 y1).wf = true) → (ok27 y2) → ∃ k, phaetonlaw12_RouteTells.f k y0 y1 y2.f0 y2.f1.f0 y2.f1.f1 y2.f1.f2 y2.f1.f3 y2.f1.f4 = some true := by
  intro l0 n x ⟨hl0, hl1, hl2⟩ hn ⟨hx0, _, hf1, _, hf3, hf4⟩
  obtain ⟨k, hk⟩ : ∃ k, k = 2000000 := ⟨_, rfl⟩
  refine ⟨k + 1 + 1, ?_⟩
  obtain ⟨f, hf⟩ := made_some x.f1.f0 x.f1.f1 x.f1.f2 x.f1.f3 x.f1.f4 (by omega)
  unfold phaetonlaw12_RouteTells.f
  rw [head_true (k + 1 + 1) (by omega), Option.bind_some, Option.bind_some]
  have hm : 0 ≤ mn (l0.length : Int) 17 ∧ mn (l0.length : Int) 17 ≤ (l0.length : Int) ∧ mn (l0.length : Int) 17 ≤ 17 := by unfold mn; split <;> omega
  have ht : (l0.take (mn (l0.length : Int) 17).toNat).length ≤ 17 := by rw [List.length_take]; omega
  rw [if_pos hm.1, if_pos hm.2.1, Option.bind_some, if_pos (by simp; omega), Option.bind_some, hf, Option.bind_some, List.nil_append]
  have hok : ∀ r ∈ l0.take (mn (l0.length : Int) 17).toNat, ok45 r := fun r hr => hl2 r (List.mem_of_mem_take hr)
  generalize l0.take (mn (l0.length : Int) 17).toNat = l at *
  rw [fRight _ _ _ (by omega), Option.bind_some, fRRight _ _ _ (by omega) hok (by omega), Option.bind_some, if_neg (by simp), fLoop _ _ _ (by omega), Option.bind_some, fRLoop _ _ _ (by omega) hok (by omega), Option.bind_some]
  have hc : phaetonlaw12_Cut.f (k + 1) l 10 = some (cutL (l.take 10)) := fCut (k + 1) 10 l (by omega) (by omega) (by omega)
  have hmr : ∀ r ∈ l.take 10, ok45 r := fun r hr => hok r (List.mem_of_mem_take hr)
  have hcr := cutL_right hmr
  have hcl : (cutL (l.take 10)).length ≤ 10 := Nat.le_trans (cutL_len _) (by rw [List.length_take]; omega)
  have hin : inR (cutL (l.take 10)) 4 := all_in (n := 4) hcr
  have hco := cutL_ok hmr
  have hid := id_low hcr
  rw [phaetonlaw12_RouteTells.j0]
  rw [if_neg (by simp), hc, Option.bind_some]
  generalize cutL (l.take 10) = m at *
  have hlen := hopsL_len m x.f0 f
  rw [fHops _ _ _ _ (by omega) (by omega), Option.bind_some, fRHops _ _ _ _ (by omega) hid (by omega), Option.bind_some, fSame _, Option.bind_some, if_pos rfl, fLoop _ _ _ (by omega), Option.bind_some, fRLoop _ _ _ (by omega) hco (by omega), Option.bind_some]
  rw [phaetonlaw12_RouteTells.j1]
  rw [if_neg (by simp), fReach _ _ _ _ hcl hin (by omega), Option.bind_some, fRReach _ _ _ _ hcl hin hid (by omega) (fRLoop _ _ _ (by omega) hco (by omega)), Option.bind_some]
  have hlv := levels_len m hcl 4 (hopsL m x.f0 f) (by omega)
  rw [fSame _, Option.bind_some, if_pos rfl]

end Go.Proofs.Ytpcabeefahldlaa.Pure
