/-
  The plain law of RouteEnds: of routes without a loop no frame comes back to its bus; hops of hops of hops have none.
-/
import Derived.Test.YtpcabeefahldlaaPx21
import Derived.Test.YtpcabeefahldlaaHop
namespace Go.Proofs.Ytpcabeefahldlaa.Pure
open Go.RowKit Go.Proofs.Ytpcabeefahldlaa.P Go.Proofs.YtpcabeefahldlaaOwn Go.Proofs.YtpcabeefahldlaaW.PrintWords Go.Proofs.YtpcabeefahldlaaW.PrintLast Go.Proofs.YtpcabeefahldlaaW.PrintMore
set_option linter.unusedVariables false
set_option linter.unusedSimpArgs false

theorem ends_l1 (l : List S45) (hl : l.length ≤ 10) (bus : Int) (all v : List S38) (hv : v.length < 1000000) (hb : ∀ h ∈ v, h.f0 ≠ bus) (many : Int) (n : Nat) (B : Nat) (H : ∀ k, B ≤ k → phaetonlaw12_RouteEnds.l0 k l true bus all (nextL l v) many (wrap64 ((n : Int) + 1)) = some true) : ∀ (k i : Nat) (nx : List S38), i ≤ v.length → nx.length + l.length * (v.length - i) < 1000000000 → B + (v.length - i) + 100 < k → nx ++ nextL l (v.drop i) = nextL l v → phaetonlaw12_RouteEnds.l1 k l true bus all v many (n : Int) nx (i : Int) = some true
  | 0, _, _, _, _, h, _ => by omega
  | k + 1, i, nx, hi, ho, h, hx => by
    unfold phaetonlaw12_RouteEnds.l1
    by_cases e : i < v.length
    · rw [if_pos (by omega), if_pos (by omega), rd38 v i e, if_neg (hb _ (List.getElem_mem e)), fHops _ _ _ _ (by omega) (by omega), Option.bind_some]
      have h2 := hopsL_len l v[i].f0 v[i].f1
      have hm : l.length * (v.length - i) = l.length * (v.length - (i + 1)) + l.length := by rw [show v.length - i = (v.length - (i + 1)) + 1 by omega, Nat.mul_succ]
      rw [if_pos (by omega), wr1 i (by omega)]
      refine ends_l1 l hl bus all v hv hb many n B H k (i + 1) _ (by omega) (by rw [List.length_append]; omega) (by omega) ?_
      rw [← hx, List.drop_eq_getElem_cons e, nextL_cons, List.append_assoc]
    · rw [if_neg (by omega)]
      have : v.drop i = [] := by apply List.drop_eq_nil_of_le; omega
      rw [this] at hx
      have hx' : nx = nextL l v := by simpa [nextL] using hx
      rw [hx']
      exact H k (by omega)
theorem ends_l0 (l : List S45) (hl : l.length ≤ 10) (hr : inR l 4) (p : Nat → Int) (hp : pot l p) (bus : Int) (all : List S38) (ha : all.length < 10000000) (c : Nat) (hc : 3000 ≤ c) : ∀ (d i k many : Nat) (v : List S38), i + d = 3 → (∀ h ∈ v, p bus.toNat + 1 ≤ p h.f0.toNat ∧ 0 ≤ h.f0 ∧ h.f0 < 4) → v.length * 10 ^ d ≤ 10000 → lev l d v = [] → many + (levels l d v).length = all.length → d * c + 500 < k → phaetonlaw12_RouteEnds.l0 k l true bus all v (many : Int) (i : Int) = some true
  | 0, i, k, many, v, hd, hv, h1, h2, h3, hk => by
    obtain ⟨k, rfl⟩ : ∃ j, k = j + 1 + 1 := ⟨k - 2, by omega⟩
    obtain rfl : v = [] := h2
    unfold phaetonlaw12_RouteEnds.l0
    rw [if_neg (by omega)]
    unfold phaetonlaw12_RouteEnds.j1
    rw [if_neg (by decide), if_pos (by simp), if_pos (by simp [levels] at h3; omega)]
  | d + 1, i, k, many, v, hd, hv, h1, h2, h3, hk => by
    obtain ⟨k, rfl⟩ : ∃ j, k = j + 1 + 1 := ⟨k - 2, by omega⟩
    have hp1 : 1 ≤ 10 ^ d := Nat.one_le_pow _ _ (by omega)
    have hv1 : v.length * 10 ≤ v.length * 10 ^ (d + 1) := Nat.mul_le_mul_left _ (by rw [Nat.pow_succ]; omega)
    have h4 := nextL_len l v
    have h5 : l.length * v.length ≤ 10 * v.length := Nat.mul_le_mul_right _ hl
    unfold phaetonlaw12_RouteEnds.l0
    rw [if_pos (by omega)]
    unfold phaetonlaw12_RouteEnds.j1
    rw [decide_eq_true (by omega : (v.length : Int) < 2000), if_pos rfl]
    have hmany : wrap64 ((many : Int) + (v.length : Int)) = ((many + v.length : Nat) : Int) := by
      rw [levels, List.length_append] at h3
      rw [wr _ (by omega)]; omega
    rw [hmany]
    refine ends_l1 l hl bus all v (by omega) (fun h hh e => ?_) _ i (d * c + 501) (fun k' hk' => ?_) (k) 0 [] (by omega) (by simp; omega) (by rw [Nat.succ_mul] at hk; omega) (by simp)
    · have := hv h hh
      rw [e] at this; omega
    · rw [wr1 i (by omega)]
      refine ends_l0 l hl hr p hp bus all ha c hc d (i + 1) k' _ _ (by omega) (fun h hh => ?_) ?_ h2 ?_ (by omega)
      · have := lev_up hp hr (d := p bus.toNat + 1) (fun x hx => (hv x hx).1) h hh
        omega
      · refine Nat.le_trans (Nat.mul_le_mul_right _ (Nat.le_trans h4 h5)) ?_
        rw [Nat.pow_succ] at h1
        have : 10 * v.length * 10 ^ d = v.length * (10 ^ d * 10) := by rw [Nat.mul_comm 10, Nat.mul_assoc, Nat.mul_comm 10]
        omega
      · rw [levels, List.length_append] at h3; omega

theorem RouteEnds : ∀ (y0 : List (S45)) (y1 : S27), ((y0.length * 48 ≤ 140737488351232 ∧ y0.length ≤ maxLen ∧ ∀ z0 ∈ y0, ok45 z0)) → (ok27 y1) → ∃ k, phaetonlaw12_RouteEnds.f k y0 y1.f0 y1.f1.f0 y1.f1.f1 y1.f1.f2 y1.f1.f3 y1.f1.f4 = some true := by
  intro l0 x ⟨hl0, hl1, hl2⟩ ⟨hx0, _, hf1, _, hf3, hf4⟩
  obtain ⟨k, hk⟩ : ∃ k, k = 1000000 := ⟨_, rfl⟩
  refine ⟨k, ?_⟩
  obtain ⟨f, hf⟩ := made_some x.f1.f0 x.f1.f1 x.f1.f2 x.f1.f3 x.f1.f4 (by omega)
  have hc : phaetonlaw12_Cut.f k l0 10 = some (cutL (l0.take 10)) := fCut k 10 l0 (by omega) (by omega) (by omega)
  have hcr := cutL_right (l := l0.take 10) (fun r hr => hl2 r (List.mem_of_mem_take hr))
  have hcl : (cutL (l0.take 10)).length ≤ 10 := Nat.le_trans (cutL_len _) (by rw [List.length_take]; omega)
  have hrl := rightL_of hcr (by omega)
  have hin : inR (cutL (l0.take 10)) 4 := all_in (n := 4) hcr
  unfold phaetonlaw12_RouteEnds.f
  rw [head_true k (by omega), Option.bind_some, hc, Option.bind_some, hf, Option.bind_some, fLoop _ _ _ (by omega), Option.bind_some]
  generalize cutL (l0.take 10) = l at *
  have hb := and3 hx0
  generalize Go.bits .and .i64 x.f0 3 = bus at *
  dsimp only
  have hre := fReach k l bus f (by omega) hin (by omega)
  by_cases h : (rightL l 4 && loopB l 4) = true
  · rw [if_pos h, hre, if_pos h, Option.bind_some, fHops _ _ _ _ (by omega) (by omega), Option.bind_some]
    have hL : loopB l ((4 : Nat) : Int) = true := by simp only [Bool.and_eq_true] at h; exact h.2
    obtain ⟨p, hp⟩ := (loopB_iff (n := 4) hin (by omega) (by omega)).mp hL
    obtain ⟨q, hq, q0, q3⟩ := rank3 hp hin
    have hlen := hopsL_len l bus f
    have hup := hops_up hq hin bus f
    have hend : lev l 3 (hopsL l bus f) = [] := lev_end hq hin q3 3 _ (fun x hx => by
      have := hup x hx
      have := q0 bus.toNat
      omega)
    have h43 : levels l 4 (hopsL l bus f) = levels l 3 (hopsL l bus f) := by
      have := levels_add l 3 1 (hopsL l bus f)
      rw [hend, levels_nil, List.append_nil] at this
      exact this
    rw [h43]
    exact ends_l0 l hcl hin q hq bus _ (by have := levels_len l hcl 3 (hopsL l bus f) (by omega); omega) 3000 (by omega) 3 0 k 0 _ (by omega) hup (by omega) hend (by omega) (by omega)
  · rw [if_neg h, hre, if_neg h, Option.bind_some, if_pos (by simp)]

end Go.Proofs.Ytpcabeefahldlaa.Pure
