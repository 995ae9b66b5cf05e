/-
  The plain law of RouteSame: each frame that routes make has the kind, the data, the length of the one that came, and is right; it goes to another bus.
-/
import Derived.Test.YtpcabeefahldlaaPx14
import Derived.Test.YtpcabeefahldlaaHop
import Derived.Test.YtpcabeefahldlaaRSame
namespace Go.Proofs.Ytpcabeefahldlaa.Pure
open Go.RowKit Go.Proofs.Ytpcabeefahldlaa.P Go.Proofs.YtpcabeefahldlaaOwn Go.Proofs.YtpcabeefahldlaaW.PrintWords Go.Proofs.YtpcabeefahldlaaW.PrintLast Go.Proofs.YtpcabeefahldlaaW.PrintMore
set_option linter.unusedVariables false
set_option linter.unusedSimpArgs false

def topE (e : Bool) : Int := if e = true then 536870912 else 2048
def lenF (f : S25) : Prop := 0 ≤ f.f3 ∧ f.f3 ≤ 8 ∧ (if f.f2 = true then f.f4.length = 0 else (f.f4.length : Int) = f.f3)
theorem right_frame (k : Nat) (e : Bool) (i : Int) (r : Bool) (n : Int) (d : List Int) (hk : 2 ≤ k) (hi : 0 ≤ i ∧ i < topE e) (hl : lenF ⟨e, i, r, n, d⟩) : phaetonref04_Right.f k e i r n d = some true := by
  obtain ⟨k, rfl⟩ : ∃ j, k = j + 1 + 1 := ⟨k - 2, by omega⟩
  obtain ⟨h0, h8, hd⟩ := hl
  dsimp only at h0 h8 hd
  have main : ∀ t : Int, i < t → phaetonref04_Right.j0 (k + 1 + 1) t e i r n d = some true := by
    intro t ht
    rw [phaetonref04_Right.j0, if_neg (by omega), if_neg (by omega), if_neg (by omega), phaetonref04_Right.j1, decide_eq_false (by omega), if_neg (by decide)]
    cases r with
    | true => rw [if_pos rfl] at hd ⊢; rw [hd]; rfl
    | false => rw [if_neg (by decide)] at hd ⊢; rw [hd]; simp
  unfold phaetonref04_Right.f
  unfold topE at hi
  cases e with
  | true => rw [if_pos rfl] at hi ⊢; exact main _ hi.2
  | false => rw [if_neg (by decide)] at hi ⊢; exact main _ hi.2
/-- What each hop keeps of the frame that came. -/
structure Core (l : List S45) (f : S25) (g : S25) : Prop where
  e : g.f0 = f.f0
  r : g.f2 = f.f2
  n : g.f3 = f.f3
  d : g.f4 = f.f4
  i : g.f1 = f.f1 ∨ ∃ r ∈ l, g.f1 = r.f3
  b : 0 ≤ g.f1 ∧ g.f1 < topE f.f0
theorem core_hop {l : List S45} (hr : l.all (rightR 4) = true) {f g : S25} (hg : Core l f g) (b : Int) : ∀ h ∈ hopsL l b g, Core l f h.f1 ∧ 0 ≤ h.f0 ∧ h.f0 < 4 ∧ h.f0 ≠ b := by
  intro h hh
  unfold hopsL at hh
  obtain ⟨r, hrm, rfl⟩ := List.mem_map.mp hh
  obtain ⟨hrm, hgo⟩ := List.mem_filter.mp hrm
  rw [List.all_eq_true] at hr
  have h1 := hr r hrm
  have hin := rightR_in h1
  unfold goes takesR at hgo
  simp only [Bool.and_eq_true, beq_iff_eq] at hgo
  refine ⟨⟨hg.e, hg.r, hg.n, hg.d, ?_, ?_⟩, hin.2.2.1, hin.2.2.2.1, fun e => hin.2.2.2.2 (hgo.1.trans e.symm)⟩
  · show (if r.f3 = -1 then g.f1 else r.f3) = f.f1 ∨ ∃ r' ∈ l, (if r.f3 = -1 then g.f1 else r.f3) = r'.f3
    by_cases c : r.f3 = -1
    · rw [if_pos c]; exact hg.i
    · rw [if_neg c]; exact .inr ⟨r, hrm, rfl⟩
  · show 0 ≤ (if r.f3 = -1 then g.f1 else r.f3) ∧ (if r.f3 = -1 then g.f1 else r.f3) < topE f.f0
    by_cases c : r.f3 = -1
    · rw [if_pos c]; exact hg.b
    · rw [if_neg c]
      unfold rightR at h1
      simp only [Bool.and_eq_true] at h1
      have hid := h1.2
      unfold idR at hid
      rw [← hg.e, hgo.2.1]
      unfold topE
      simp only [Bool.or_eq_true, beq_iff_eq, Bool.and_eq_true, decide_eq_true_eq] at hid
      rcases hid with h | h
      · exact absurd h c
      · exact h
theorem core_lev {l : List S45} (hr : l.all (rightR 4) = true) {f : S25} {p : Nat → Int} (hp : pot l p) (hin : inR l 4) (d : Int) : ∀ (n : Nat) (v : List S38), (∀ h ∈ v, Core l f h.f1 ∧ d + 1 ≤ p h.f0.toNat ∧ 0 ≤ h.f0 ∧ h.f0 < 4) → ∀ h ∈ levels l n v, Core l f h.f1 ∧ d + 1 ≤ p h.f0.toNat ∧ 0 ≤ h.f0 ∧ h.f0 < 4
  | 0, _, _, h, hh => by simp [levels] at hh
  | n + 1, v, hv, h, hh => by
    rw [levels, List.mem_append] at hh
    rcases hh with hh | hh
    · exact hv h hh
    · refine core_lev hr hp hin d n (nextL l v) (fun x hx => ?_) h hh
      have h1 := lev_up hp hin (d := d + 1) (fun y hy => (hv y hy).2.1) x hx
      unfold nextL at hx
      obtain ⟨y, hy, hx⟩ := List.mem_flatMap.mp hx
      exact ⟨(core_hop hr (hv y hy).1 y.f0 x hx).1, by omega, h1.2.1, h1.2.2⟩

theorem same_l1 (l : List S45) (hl : l.length ≤ 10) (bus : Int) (all : List S38) (f : S25) (i : Nat) (hi : i < all.length) (hc : Core l f all[i].f1) (hlen : lenF f) (h0 : 0 ≤ all[i].f0) (h4 : all[i].f0 < 4) (hb : all[i].f0 ≠ bus) (hal : all.length < 1000000) (B : Nat) (hB : 10 ≤ B) (H : ∀ k, B ≤ k → phaetonlaw12_RouteSame.l0 k l true bus all (wrap64 ((i : Int) + 1)) f.f0 f.f1 f.f2 f.f3 f.f4 = some true) : ∀ (k j : Nat) (x : Bool), j ≤ l.length → (x = true ∨ ∃ r ∈ l.drop j, all[i].f1.f1 = r.f3) → (l.length - j) + B < k →
    phaetonlaw12_RouteSame.l1 k l true bus all (i : Int) x (j : Int) f.f0 f.f1 f.f2 f.f3 f.f4 all[i].f1.f0 all[i].f1.f1 all[i].f1.f2 all[i].f1.f3 all[i].f1.f4 = some true
  | 0, _, _, _, _, h => by omega
  | k + 1, j, x, hj, hx, h => by
    rw [phaetonlaw12_RouteSame.l1]
    by_cases e : j < l.length
    · rw [if_pos (by omega)]
      cases x with
      | true =>
        rw [if_pos rfl, wr1 j (by omega)]
        exact same_l1 l hl bus all f i hi hc hlen h0 h4 hb hal B hB H k (j + 1) true (by omega) (.inl rfl) (by omega)
      | false =>
        rw [if_neg (by decide), if_pos (by omega), rd45 l j e, wr1 j (by omega)]
        refine same_l1 l hl bus all f i hi hc hlen h0 h4 hb hal B hB H k (j + 1) _ (by omega) ?_ (by omega)
        rcases hx with hx | ⟨r, hr, hx⟩
        · cases hx
        · rw [List.drop_eq_getElem_cons e] at hr
          rcases List.mem_cons.1 hr with rfl | hr
          · left; rw [hx]; exact beq_self_eq_true _
          · right; exact ⟨r, hr, hx⟩
    · have hxt : x = true := by
        rcases hx with hx | ⟨r, hr, _⟩
        · exact hx
        · rw [List.drop_of_length_le (by omega)] at hr; simp at hr
      subst hxt
      have hsame : phaetonref04_Same.f all[i].f1.f0 all[i].f1.f1 all[i].f1.f2 all[i].f1.f3 all[i].f1.f4 f.f0 all[i].f1.f1 f.f2 f.f3 f.f4 = some true := by
        rw [hc.e, hc.r, hc.n, hc.d]
        exact same_frame ⟨f.f0, all[i].f1.f1, f.f2, f.f3, f.f4⟩
      have hright : phaetonref04_Right.f k all[i].f1.f0 all[i].f1.f1 all[i].f1.f2 all[i].f1.f3 all[i].f1.f4 = some true := by
        rw [hc.e, hc.r, hc.n, hc.d]
        exact right_frame k _ _ _ _ _ (by omega) hc.b hlen
      rw [if_neg (by omega), if_pos rfl, hsame, Option.bind_some, if_pos rfl, hright, Option.bind_some, if_pos rfl, if_pos (by omega), if_pos (by omega), rd38 all i hi, if_neg (by omega), if_neg (by omega), if_neg hb]
      exact H k (by omega)
theorem same_l0 (l : List S45) (hl : l.length ≤ 10) (bus : Int) (all : List S38) (f : S25) (hlen : lenF f) (hal : all.length < 1000000) (hall : ∀ h ∈ all, Core l f h.f1 ∧ 0 ≤ h.f0 ∧ h.f0 < 4 ∧ h.f0 ≠ bus) : ∀ (d i k : Nat), i + d = all.length → d * 30 + 100 < k → phaetonlaw12_RouteSame.l0 k l true bus all (i : Int) f.f0 f.f1 f.f2 f.f3 f.f4 = some true
  | 0, i, k, hd, hk => by
    obtain ⟨k, rfl⟩ : ∃ j, k = j + 1 := ⟨k - 1, by omega⟩
    rw [phaetonlaw12_RouteSame.l0, if_neg (by omega)]
  | d + 1, i, k, hd, hk => by
    obtain ⟨k, rfl⟩ : ∃ j, k = j + 1 := ⟨k - 1, by omega⟩
    have hi : i < all.length := by omega
    obtain ⟨hc, h0, h4, hb⟩ := hall _ (List.getElem_mem hi)
    rw [phaetonlaw12_RouteSame.l0, if_pos (by omega), if_pos (by omega), rd38 all i hi]
    refine same_l1 l hl bus all f i hi hc hlen h0 h4 hb hal (d * 30 + 101) (by omega) (fun k' hk' => ?_) k 0 _ (by omega) ?_ (by omega)
    · rw [wr1 i (by omega)]
      exact same_l0 l hl bus all f hlen hal hall d (i + 1) k' (by omega) (by omega)
    · rcases hc.i with h | ⟨r, hr, h⟩
      · left; rw [h]; exact beq_self_eq_true _
      · right; exact ⟨r, by simpa using hr, h⟩

theorem RouteSame : ∀ (y0 : List (S45)) (y1 : S27), ((y0.length * 48 ≤ 140737488351232 ∧ y0.length ≤ maxLen ∧ ∀ z0 ∈ y0, ok45 z0)) → (ok27 y1) → ∃ k, phaetonlaw12_RouteSame.f k y0 y1.f0 y1.f1.f0 y1.f1.f1 y1.f1.f2 y1.f1.f3 y1.f1.f4 = some true := by
  intro l0 x ⟨hl0, hl1, hl2⟩ hx
  obtain ⟨b0, e, i, r, n, dt⟩ := x
  obtain ⟨hb0, _, hi, _, hn, hdt⟩ := hx
  dsimp only at hb0 hi hn hdt ⊢
  obtain ⟨k, hk⟩ : ∃ k, k = 20000000 := ⟨_, rfl⟩
  refine ⟨k, ?_⟩
  have hc : phaetonlaw12_Cut.f k l0 10 = some (cutL (l0.take 10)) := fCut k 10 l0 (by omega) (by omega) (by omega)
  have hcr := cutL_right (l := l0.take 10) (fun r hr => hl2 r (List.mem_of_mem_take hr))
  have hcl : (cutL (l0.take 10)).length ≤ 10 := Nat.le_trans (cutL_len _) (by rw [List.length_take]; omega)
  have hbus := and3 hb0
  have hm : phaetonref06_Made.f e i r n dt = some (e, Go.bits .and .i64 i (topR e), r, if r = true then mn (Go.bits .and .i64 n 15) 8 else ((dt.take 8).length : Int), if r = true then [] else dt.take 8) := rfl
  have hidb : 0 ≤ Go.bits .and .i64 i (topR e) ∧ Go.bits .and .i64 i (topR e) < topE e := by
    obtain ⟨I, rfl⟩ := toInt_of_wf hi
    unfold topR topE
    cases e
    · have := and_mask I 11 (by omega)
      rw [show ((2 ^ 11 - 1 : Nat) : Int) = 2047 from rfl] at this
      simp only [Bool.false_eq_true, if_false]; rw [this.1]; have := this.2; omega
    · have := and_mask I 29 (by omega)
      rw [show ((2 ^ 29 - 1 : Nat) : Int) = 536870911 from rfl] at this
      simp only [if_true]; rw [this.1]; have := this.2; omega
  have hlenf : lenF ⟨e, Go.bits .and .i64 i (topR e), r, if r = true then mn (Go.bits .and .i64 n 15) 8 else ((dt.take 8).length : Int), if r = true then [] else dt.take 8⟩ := by
    have h8 : (dt.take 8).length ≤ 8 := by rw [List.length_take]; omega
    have h15 : 0 ≤ Go.bits .and .i64 n 15 := by
      obtain ⟨Nn, rfl⟩ := toInt_of_wf hn
      have := and_mask Nn 4 (by omega)
      rw [show ((2 ^ 4 - 1 : Nat) : Int) = 15 from rfl] at this
      rw [this.1]; exact this.2.1
    cases r with
    | true => exact ⟨by show 0 ≤ mn (Go.bits .and .i64 n 15) 8; unfold mn; split <;> omega, by show mn (Go.bits .and .i64 n 15) 8 ≤ 8; unfold mn; split <;> omega, rfl⟩
    | false => exact ⟨by show (0 : Int) ≤ ((dt.take 8).length : Int); omega, by show ((dt.take 8).length : Int) ≤ 8; omega, rfl⟩
  unfold phaetonlaw12_RouteSame.f
  rw [head_true k (by omega), Option.bind_some, hc, Option.bind_some, hm, Option.bind_some]
  dsimp only
  generalize cutL (l0.take 10) = l at *
  have hH := fHops k l (Go.bits .and .i64 b0 3) ⟨e, Go.bits .and .i64 i (topR e), r, if r = true then mn (Go.bits .and .i64 n 15) 8 else ((dt.take 8).length : Int), if r = true then [] else dt.take 8⟩ (by omega) (by omega)
  have hin : inR l 4 := all_in (n := 4) hcr
  have hR := fReach k l (Go.bits .and .i64 b0 3) ⟨e, Go.bits .and .i64 i (topR e), r, if r = true then mn (Go.bits .and .i64 n 15) 8 else ((dt.take 8).length : Int), if r = true then [] else dt.take 8⟩ hcl hin (by omega)
  dsimp only at hH hR
  generalize (if r = true then mn (Go.bits .and .i64 n 15) 8 else ((dt.take 8).length : Int)) = N at *
  generalize (if r = true then [] else dt.take 8) = D at *
  generalize Go.bits .and .i64 i (topR e) = I at *
  generalize Go.bits .and .i64 b0 3 = bus at *
  have hcore : Core l ⟨e, I, r, N, D⟩ ⟨e, I, r, N, D⟩ := ⟨rfl, rfl, rfl, rfl, .inl rfl, hidb⟩
  have hop1 := core_hop hcr hcore bus
  have hlen1 := hopsL_len l bus ⟨e, I, r, N, D⟩
  have hlev := levels_len l hcl 4 (hopsL l bus ⟨e, I, r, N, D⟩) (by omega)
  rw [Option.bind_some, hH, Option.bind_some, if_pos (by simp only [List.length_nil]; omega), Option.bind_some, List.nil_append, hR, Option.bind_some]
  generalize hRe : (if (rightL l 4 && loopB l 4) = true then levels l 4 (hopsL l bus ⟨e, I, r, N, D⟩) else []) = re
  have hre : re.length ≤ 400000 := by
    rw [← hRe]
    split
    · omega
    · simp
  rw [if_pos (by omega)]
  have hmem : ∀ h ∈ hopsL l bus ⟨e, I, r, N, D⟩ ++ re, Core l ⟨e, I, r, N, D⟩ h.f1 ∧ 0 ≤ h.f0 ∧ h.f0 < 4 ∧ h.f0 ≠ bus := by
    intro h hh
    rcases List.mem_append.1 hh with hh | hh
    · exact hop1 h hh
    · rw [← hRe] at hh
      cases hb : (rightL l 4 && loopB l 4) with
      | false => rw [if_neg (by rw [hb]; decide)] at hh; simp at hh
      | true =>
        rw [if_pos hb] at hh
        rw [Bool.and_eq_true] at hb
        obtain ⟨p, hp⟩ := (loopB_iff (n := 4) hin (by decide) (by omega)).1 hb.2
        have h1 := core_lev hcr hp hin (p bus.toNat) 4 (hopsL l bus ⟨e, I, r, N, D⟩) (fun x hx => ⟨(hop1 x hx).1, (hops_up hp hin bus _ x hx).1, (hop1 x hx).2.1, (hop1 x hx).2.2.1⟩) h hh
        refine ⟨h1.1, h1.2.2.1, h1.2.2.2, fun e => ?_⟩
        rw [e] at h1
        omega
  have := same_l0 l hcl bus (hopsL l bus ⟨e, I, r, N, D⟩ ++ re) ⟨e, I, r, N, D⟩ hlenf (by rw [List.length_append]; omega) hmem (hopsL l bus ⟨e, I, r, N, D⟩ ++ re).length 0 k (by omega) (by rw [List.length_append]; omega)
  exact this

end Go.Proofs.Ytpcabeefahldlaa.Pure
