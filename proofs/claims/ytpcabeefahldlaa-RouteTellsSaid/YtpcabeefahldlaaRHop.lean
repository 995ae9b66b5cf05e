/-
  What routes make of a frame, as plain rows: the document's answers. Conditions: few routes, made right.
-/
import Derived.Test.YtpcabeefahldlaaPx18
import Derived.Test.YtpcabeefahldlaaGSame
import Derived.Test.YtpcabeefahldlaaPx14
import Derived.Test.YtpcabeefahldlaaHop
namespace Go.Proofs.Ytpcabeefahldlaa.P
open Go.RowKit Go.Proofs.YtpcabeefahldlaaOwn Go.Proofs.YtpcabeefahldlaaW.PrintWords Go.Proofs.YtpcabeefahldlaaW.PrintLast Go.Proofs.YtpcabeefahldlaaW.PrintMore
set_option linter.unusedVariables false
set_option linter.unusedSimpArgs false

theorem fRTakes (t : S43) (f : S25) : phaetonref07_Takes.f t.f0 t.f1 t.f2 f.f0 f.f1 f.f2 f.f3 f.f4 = some (takesR t f) := by
  unfold phaetonref07_Takes.f takesR
  by_cases h : t.f0 = f.f0
  · rw [if_pos (by simp [h]), h]; simp
  · rw [if_neg (by simp [h])]; simp [Ne.symm h]
theorem rhops_l0 (l : List S45) (bus : Int) (f : S25) (hl : l.length < 9223372036854775807) (hn : ∀ r ∈ l, -1 ≤ r.f3) : ∀ (k i : Nat) (out : List S38), i ≤ l.length → out.length + (l.length - i) < 1000000 → 2 * (l.length - i) < k → phaetonref12_Hops.l0 k l bus out (i : Int) f.f0 f.f1 f.f2 f.f3 f.f4 = some (out ++ hopsL (l.drop i) bus f)
  | 0, _, _, _, _, h => by omega
  | k + 1, i, out, hi, ho, h => by
    unfold phaetonref12_Hops.l0
    by_cases e : i < l.length
    · obtain ⟨k, rfl⟩ : ∃ j, k = j + 1 := ⟨k - 1, by omega⟩
      rw [if_pos (by omega), if_pos (by omega), rd45 l i e, List.drop_eq_getElem_cons e, hopsL_cons]
      have IH := fun o => rhops_l0 l bus f hl hn k (i + 1) o (by omega)
      have hr := hn _ (List.getElem_mem e)
      have J : ∀ b : Bool, b = goes bus f l[i] → phaetonref12_Hops.j1 (k + 1) l bus out (i : Int) b f.f0 f.f1 f.f2 f.f3 f.f4 = some (out ++ if goes bus f l[i] = true then hopF f l[i] :: hopsL (l.drop (i + 1)) bus f else hopsL (l.drop (i + 1)) bus f) := by
        intro b hb
        rw [← hb]
        unfold phaetonref12_Hops.j1
        rw [wr1 i (by omega), rd45 l i e, if_pos (show 0 ≤ (i : Int) by omega), if_pos (show (i : Int) < (l.length : Int) by omega)]
        generalize l[i] = r at *
        cases b with
        | false => simp only [Bool.false_eq_true, if_false]; exact IH out (by omega) (by omega)
        | true =>
          simp only [if_true]
          have hx : ∀ y : S38, y = hopF f r → phaetonref12_Hops.l0 k l bus (out ++ [y]) ((i + 1 : Nat) : Int) f.f0 f.f1 f.f2 f.f3 f.f4 = some (out ++ hopF f r :: hopsL (l.drop (i + 1)) bus f) := by
            intro y hy
            rw [hy, IH (out ++ [hopF f r]) (by simp; omega) (by omega)]
            simp
          by_cases hn : r.f3 = -1
          · rw [if_neg (by omega), if_pos (by omega)]; exact hx _ (by simp [hopF, hn])
          · rw [if_pos (by omega), if_pos (by omega)]; exact hx _ (by simp [hopF, hn])
      by_cases hb : l[i].f0 = bus
      · rw [if_pos hb, fRTakes, Option.bind_some]
        exact J (takesR l[i].f2 f) (by simp [goes, hb])
      · rw [if_neg hb]
        exact J false (by simp [goes, hb])
    · rw [if_neg (by omega)]
      have : l.drop i = [] := by apply List.drop_eq_nil_of_le; omega
      rw [this]; simp [hopsL]
theorem fRHops (k : Nat) (l : List S45) (bus : Int) (f : S25) (hl : l.length < 1000000) (hn : ∀ r ∈ l, -1 ≤ r.f3) (hk : 2 * l.length < k) : phaetonref12_Hops.f k l bus f.f0 f.f1 f.f2 f.f3 f.f4 = some (hopsL l bus f) := by
  unfold phaetonref12_Hops.f
  have := rhops_l0 l bus f (by omega) hn k 0 [] (by omega) (by simp; omega) (by omega)
  simpa using this

theorem rnext_l1 (l : List S45) (out lev : List S38) (hl : l.length < 1000) (hn : ∀ r ∈ l, -1 ≤ r.f3) (hv : lev.length < 1000000) (B : Nat) (R : Option (List S38)) (H : ∀ k, B ≤ k → phaetonref12_Reach.l0 k l out (nextL l lev) = R) : ∀ (k i : Nat) (nx : List S38), i ≤ lev.length → nx.length + l.length * (lev.length - i) < 1000000000 → B + (lev.length - i) + 2 * l.length + 1 < k → nx ++ nextL l (lev.drop i) = nextL l lev → phaetonref12_Reach.l1 k l out lev nx (i : Int) = R
  | 0, _, _, _, _, h, _ => by omega
  | k + 1, i, nx, hi, ho, h, hx => by
    unfold phaetonref12_Reach.l1
    by_cases e : i < lev.length
    · rw [if_pos (by omega), if_pos (by omega), rd38 lev i e, fRHops _ _ _ _ (by omega) hn (by omega), Option.bind_some]
      have h2 := hopsL_len l lev[i].f0 lev[i].f1
      have hm : l.length * (lev.length - i) = l.length * (lev.length - (i + 1)) + l.length := by rw [show lev.length - i = (lev.length - (i + 1)) + 1 by omega, Nat.mul_succ]
      rw [if_pos (by omega), wr1 i (by omega)]
      refine rnext_l1 l out lev hl hn hv B R H k (i + 1) _ (by omega) (by rw [List.length_append]; omega) (by omega) ?_
      rw [← hx, List.drop_eq_getElem_cons e, nextL_cons, List.append_assoc]
    · rw [if_neg (by omega)]
      have : lev.drop i = [] := by apply List.drop_eq_nil_of_le; omega
      rw [this] at hx
      have hx' : nx = nextL l lev := by simpa [nextL] using hx
      rw [hx']
      exact H k (by omega)
theorem rreach_l0 (l : List S45) (hl : l.length ≤ 10) (hn : ∀ r ∈ l, -1 ≤ r.f3) (c : Nat) (hc : 150000 ≤ c) : ∀ (n k : Nat) (out v : List S38), lev l n v = [] → v.length * 10 ^ n ≤ 100000 → out.length + n * 100000 < 100000000 → n * c + 100 < k → phaetonref12_Reach.l0 k l out v = some (out ++ levels l n v)
  | 0, k, out, v, hv, _, _, hk => by
    obtain ⟨k, rfl⟩ : ∃ j, k = j + 1 := ⟨k - 1, by omega⟩
    obtain rfl : v = [] := hv
    unfold phaetonref12_Reach.l0
    rw [if_neg (by simp)]; simp [levels]
  | n + 1, k, out, v, hv, h1, h2, hk => by
    obtain ⟨k, rfl⟩ : ∃ j, k = j + 1 := ⟨k - 1, by omega⟩
    unfold phaetonref12_Reach.l0
    have hp : 1 ≤ 10 ^ (n + 1) := Nat.one_le_pow _ _ (by omega)
    have hv1 : v.length ≤ v.length * 10 ^ (n + 1) := Nat.le_mul_of_pos_right _ hp
    by_cases e : v.length = 0
    · obtain rfl : v = [] := List.eq_nil_of_length_eq_zero e
      rw [if_neg (by simp), levels_nil]; simp
    · rw [if_pos (by omega), if_pos (by omega)]
      have h3 := nextL_len l v
      have h4 : l.length * v.length ≤ 10 * v.length := Nat.mul_le_mul_right _ hl
      have h5 : (nextL l v).length * 10 ^ n ≤ 100000 := by
        refine Nat.le_trans (Nat.mul_le_mul_right _ (Nat.le_trans h3 h4)) ?_
        rw [Nat.pow_succ] at h1
        have : 10 * v.length * 10 ^ n = v.length * (10 ^ n * 10) := by rw [Nat.mul_comm 10, Nat.mul_assoc, Nat.mul_comm 10]
        omega
      refine rnext_l1 l _ v (by omega) hn (by omega) (n * c + 101) _ (fun k' hk' => ?_) k 0 [] (by omega) (by simp; omega) (by rw [Nat.succ_mul] at hk; omega) (by simp)
      rw [rreach_l0 l hl hn c hc n k' _ _ hv h5 (by rw [List.length_append]; omega) (by omega), levels]
      simp

theorem fRReach (k : Nat) (l : List S45) (bus : Int) (f : S25) (hl : l.length ≤ 10) (hr : inR l 4) (hn : ∀ r ∈ l, -1 ≤ r.f3) (hk : 1000000 ≤ k) (hL : phaetonref12_Loopless.f k l 4 = some (rightL l 4 && loopB l 4)) : phaetonref12_Reach.f k l 4 bus f.f0 f.f1 f.f2 f.f3 f.f4 = some (if (rightL l 4 && loopB l 4) = true then levels l 4 (hopsL l bus f) else []) := by
  unfold phaetonref12_Reach.f
  rw [Option.bind_some, hL, Option.bind_some]
  by_cases h : (rightL l 4 && loopB l 4) = true
  · rw [if_pos h, if_pos h, fRHops _ _ _ _ (by omega) hn (by omega), Option.bind_some]
    have hL : loopB l ((4 : Nat) : Int) = true := by simp only [Bool.and_eq_true] at h; exact h.2
    obtain ⟨p, hp⟩ := (loopB_iff (n := 4) hr (by omega) (by omega)).mp hL
    obtain ⟨q, hq, q0, q3⟩ := rank3 hp hr
    have hlen := hopsL_len l bus f
    have hend : lev l 4 (hopsL l bus f) = [] := lev_end hq hr q3 4 _ (fun x hx => by
      have := hops_up hq hr bus f x hx
      have := q0 bus.toNat
      omega)
    have := rreach_l0 l hl hn 200000 (by omega) 4 k [] _ hend (by omega) (by simp) (by omega)
    simpa using this
  · rw [if_neg h, if_neg h]

/-- What is alike is the same. -/
theorem same_frame (f : S25) : phaetonref04_Same.f f.f0 f.f1 f.f2 f.f3 f.f4 f.f0 f.f1 f.f2 f.f3 f.f4 = some true := by
  unfold phaetonref04_Same.f phaetonref01_SameBytes.f
  simp
theorem fSame (a : List S38) : phaetonref12_Same.f a a = some true := by
  have h : ∀ f : S25, sameF f f = true := by
    intro f
    have := (sameF_f f f).symm.trans (same_frame f)
    simpa using this
  unfold phaetonref12_Same.f sameFrom sameH
  simp [h]
end Go.Proofs.Ytpcabeefahldlaa.P
