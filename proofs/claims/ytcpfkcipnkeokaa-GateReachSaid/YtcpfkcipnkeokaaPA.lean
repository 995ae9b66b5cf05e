/-
  What goes in changes rows at their ends alone.
-/
import Derived.Test.YtcpfkcipnkeokaaPN
import Derived.Test.YtcpfkcipnkeokaaOP
namespace Go.Proofs.YtcpfkcipnkeokaaFw
open Go Go.Proofs
set_option linter.unusedVariables false
set_option linter.unusedSimpArgs false

structure Sent where
  bus : Int
  f : Frame
def encSent (x : Sent) : List PV := .int .i64 x.bus :: encFrame false x.f
theorem opens58 : Opens Try.prog 58 6 encSent (fun x => I64 x.bus ∧ x.f.wf) :=
  (opens_struct Try.underlying58 (by kernel_rfl) (opensF_cons rfl (opens_int Try.underlying3 (by kernel_rfl)) (opensF_one rfl opens38)) (fun x : Sent => (x.bus, x.f)) (fun p => ⟨p.1, p.2⟩) (fun _ => rfl)).conv (fun _ => rfl) fun y h => ⟨I64_wf h.1, h.2⟩
theorem chg_getD (f : List Frame → List Frame) (out : List (List Frame)) (b : Int) (i : Nat) (hi : i < out.length) : (chg f out b).getD i [] = if (i : Int) = b then f (out.getD i []) else out.getD i [] := by
  have h' : i < (chg f out b).length := by rw [chg_len]; exact hi
  rw [show (chg f out b).getD i [] = (chg f out b)[i] by simp [List.getD, h'], show out.getD i [] = out[i] by simp [List.getD, hi]]
  exact chg_get f out b i hi h'
theorem stepIn_len (g : Gate) (h : Hop) : (stepIn g h).out.length = g.out.length := by
  unfold stepIn; split
  · exact chg_len _ _ _
  · rfl
theorem stepIn_row (g : Gate) (h : Hop) (i : Nat) (hi : i < g.out.length) : (stepIn g h).out.getD i [] = g.out.getD i [] ∨ ((i : Int) = h.to ∧ (stepIn g h).out.getD i [] = g.out.getD i [] ++ [h.frame]) := by
  unfold stepIn
  split
  · simp only
    rw [chg_getD _ _ _ _ hi]
    split
    · rename_i e; exact .inr ⟨e, rfl⟩
    · exact .inl rfl
  · exact .inl rfl
theorem foldIn_row : ∀ (l : List Hop) (g : Gate) (i : Nat), i < g.out.length → (g.out.getD i [] <+: (l.foldl stepIn g).out.getD i []) ∧ ((∀ h ∈ l, h.to ≠ (i : Int)) → (l.foldl stepIn g).out.getD i [] = g.out.getD i [])
  | [], g, i, _ => ⟨List.prefix_refl _, fun _ => rfl⟩
  | h :: l, g, i, hi => by
    have h1 := stepIn_row g h i hi
    have h2 := foldIn_row l (stepIn g h) i (by rw [stepIn_len]; exact hi)
    rw [List.foldl_cons]
    refine ⟨?_, fun hn => ?_⟩
    · rcases h1 with h1 | ⟨_, h1⟩
      · rw [← h1]; exact h2.1
      · refine List.IsPrefix.trans ?_ h2.1
        rw [h1]; exact List.prefix_append _ _
    · rw [h2.2 fun x hx => hn x (by simp [hx])]
      rcases h1 with h1 | ⟨e, _⟩
      · exact h1
      · exact absurd e.symm (hn h (by simp))
theorem inG_pre (g : Gate) (bus : Int) (f : Frame) (i : Nat) (hi : i < g.out.length) : ((inG g bus f).out.getD i []).take (g.out.getD i []).length = g.out.getD i [] ∧ (g.out.getD i []).length ≤ ((inG g bus f).out.getD i []).length := by
  have h := (foldIn_row (hops g.routes bus f) g i hi).1
  exact ⟨(List.prefix_iff_eq_take.1 h).symm, h.length_le⟩
theorem inG_self (g : Gate) (bus : Nat) (f : Frame) (hi : bus < g.out.length) (hr : ∀ r ∈ g.routes, r.src ≠ r.to) : (inG g bus f).out.getD bus [] = g.out.getD bus [] := by
  refine (foldIn_row (hops g.routes bus f) g bus hi).2 fun h hh => ?_
  obtain ⟨r, hrm, rfl⟩ := List.mem_map.1 hh
  obtain ⟨h1, h2⟩ := List.mem_filter.1 hrm
  simp at h2
  have := hr r h1
  show r.to ≠ _
  rw [← h2.1]
  exact fun e => this e.symm
theorem inG_none (g : Gate) (bus : Int) (f : Frame) (hr : ∀ r ∈ g.routes, r.src ≠ bus) : inG g bus f = g := by
  unfold inG
  have : hops g.routes bus f = [] := by
    unfold hops
    rw [List.filter_eq_nil_iff.2 fun r h => by simp [hr r h]]
    rfl
  rw [this]; rfl
theorem right_src {l : List Route} {n : Int} (h : rightR routeR l n = true) : ∀ r ∈ l, 0 ≤ r.src ∧ r.src < n ∧ r.src ≠ r.to := by
  intro r hr
  have := (right_of h).2.2.2 r hr
  unfold routeR at this
  simp at this
  omega
end Go.Proofs.YtcpfkcipnkeokaaFw
