/-
  What keeps a gateway good; what Cut makes is right to ask for.
-/
import Derived.Test.YtcpfkcipnkeokaaWK
namespace Go.Proofs.YtcpfkcipnkeokaaFw
open Go
set_option linter.unusedVariables false
set_option linter.unusedSimpArgs false

def Gate.okB (g : Gate) : Prop := ∀ l ∈ g.out, ∀ f ∈ l, f.okB
theorem newOf_zero {l : List Route} {n room : Int} (h : (newOf l n room).2 = 0) : rightR routeR l n = true ∧ loopless l n = true ∧ 1 ≤ room ∧ room ≤ 64 ∧ (newOf l n room).1 = { routes := l, cap := room, out := List.replicate n.toNat [], lost := List.replicate n.toNat 0 } := by
  unfold newOf newG at h ⊢
  split at h
  · simp at h
  · rename_i h1
    split at h
    · simp at h
    · rename_i h2
      split at h
      · simp at h
      · rename_i h3
        simp at h1 h2 h3
        refine ⟨h1, h2, by omega, by omega, ?_⟩
        rw [if_neg (by simp [h1]), if_neg (by simp [h2]), if_neg (by simp; omega)]
theorem newOf_good {l : List Route} {n : Nat} {room : Int} (h : (newOf l n room).2 = 0) : (newOf l n room).1.good n 0 ∧ (newOf l n room).1.okB ∧ (newOf l n room).1.routes = l := by
  obtain ⟨h1, h2, h3, h4, h5⟩ := newOf_zero h
  obtain ⟨hn1, hn4, hl16, hrt⟩ := right_of h1
  rw [h5]
  refine ⟨⟨by omega, by simp, by simp, by simpa using h3, by simpa using h4, hl16, fun r hr => ?_, ?_, ?_⟩, ?_, rfl⟩
  · have := hrt r hr
    unfold routeR at this
    simp at this
    omega
  · intro l hl; simp at hl; rw [hl.2]; show ((0 : Nat) : Int) ≤ room; omega
  · intro x hx; simp at hx; omega
  · intro l hl; simp at hl; rw [hl.2]; simp
theorem doneG_good {g : Gate} {n : Nat} {m : Int} (hg : g.good n m) (bus : Int) : (doneG g bus).good n m := by
  unfold doneG
  split
  · refine ⟨hg.n4, by rw [← hg.outs]; exact chg_len _ _ _, hg.losts, hg.cap1, hg.cap64, hg.rts, hg.rt, fun l hl => ?_, hg.lst⟩
    simp only [chg, List.mem_mapIdx] at hl
    obtain ⟨i, hi, rfl⟩ := hl
    have := hg.row _ (List.getElem_mem hi)
    split
    · simp only [doneF, List.length_drop]; show ((_ - 1 : Nat) : Int) ≤ g.cap; omega
    · exact this
  · exact hg
theorem doneG_okB {g : Gate} (hg : g.okB) (bus : Int) : (doneG g bus).okB := by
  unfold doneG
  split
  · intro l hl
    simp only [chg, List.mem_mapIdx] at hl
    obtain ⟨i, hi, rfl⟩ := hl
    have := hg _ (List.getElem_mem hi)
    split
    · exact fun f hf => this f (List.mem_of_mem_drop hf)
    · exact this
  · exact hg
theorem doneG_routes (g : Gate) (bus : Int) : (doneG g bus).routes = g.routes := by unfold doneG; split <;> rfl
theorem stepIn_okB {g : Gate} (hg : g.okB) (h : Hop) (hh : h.frame.okB) : (stepIn g h).okB := by
  unfold stepIn
  split
  · intro l hl
    simp only [chg, List.mem_mapIdx] at hl
    obtain ⟨i, hi, rfl⟩ := hl
    have := hg _ (List.getElem_mem hi)
    split
    · intro f hf
      simp only [addF, List.mem_append, List.mem_singleton] at hf
      rcases hf with hf | rfl
      · exact this f hf
      · exact hh
    · exact this
  · exact hg
theorem foldIn_okB : ∀ (l : List Hop) (g : Gate), g.okB → (∀ h ∈ l, h.frame.okB) → (l.foldl stepIn g).okB
  | [], g, hg, _ => hg
  | h :: l, g, hg, hh => foldIn_okB l _ (stepIn_okB hg h (hh h (by simp))) fun x hx => hh x (by simp [hx])
theorem hops_okB (l : List Route) (bus : Int) (f : Frame) (hf : f.okB) : ∀ h ∈ hops l bus f, h.frame.okB := by
  intro h hh
  obtain ⟨r, hr, rfl⟩ := List.mem_map.1 hh
  unfold hopOf
  simp only
  split <;> exact hf
theorem inG_good {g : Gate} {n : Nat} {m : Int} (hg : g.good n m) (bus : Int) (f : Frame) : (inG g bus f).good n (m + 16) := by
  have h1 := foldIn_good _ g m hg (hops_to hg bus f)
  have h2 : (hops g.routes bus f).length ≤ 16 := Nat.le_trans (hops_len _ _ _) hg.rts
  exact ⟨h1.n4, h1.outs, h1.losts, h1.cap1, h1.cap64, h1.rts, h1.rt, h1.row, fun x hx => by have := h1.lst x hx; omega⟩
theorem inG_okB {g : Gate} (hg : g.okB) (bus : Int) (f : Frame) (hf : f.okB) : (inG g bus f).okB := foldIn_okB _ _ hg (hops_okB _ _ _ hf)
theorem inG_routes (g : Gate) (bus : Int) (f : Frame) : (inG g bus f).routes = g.routes := (foldIn_routes _ g).1
theorem inG_cap (g : Gate) (bus : Int) (f : Frame) : (inG g bus f).cap = g.cap := (foldIn_routes _ g).2
theorem inG_eq {g : Gate} (h : ∀ r ∈ g.routes, -1 ≤ r.new) (bus : Int) (f : Frame) : inG2 g bus f = inG g bus f := by
  unfold inG inG2; rw [hops_eq _ _ _ h]
theorem next_okB {g : Gate} (hg : g.okB) (bus : Int) : (next g bus).1.okB := by
  unfold next
  split
  · rename_i h
    unfold has at h
    simp at h
    obtain ⟨h0, h1, h2⟩ := h
    have hb : bus.toNat < g.out.length := by omega
    have e : g.out.getD bus.toNat [] = g.out[bus.toNat] := by simp [List.getD, hb]
    have h4 : 0 < g.out[bus.toNat].length := by
      have : g.out[bus.toNat]?.getD [] = g.out[bus.toNat] := by simp [hb]
      rw [this] at h2
      exact h2
    simp only [e]
    rw [show g.out[bus.toNat].getD 0 zeroF = g.out[bus.toNat][0] by simp [List.getD, h4]]
    exact hg _ (List.getElem_mem hb) _ (List.getElem_mem h4)
  · simp [Frame.okB, Bytes, zeroF]
theorem cutR_i64 (r : Route) : (cutR r).i64 := by
  refine ⟨band_I64 _ _, band_I64 _ _, band_I64 _ _, band_I64 _ _, ?_⟩
  unfold I64 cutR topF
  simp only
  split <;> omega
theorem cut_mem {l : List Route} {m : Nat} {r : Route} (h : r ∈ cut l m) : ∃ x ∈ l, r = cutR x := by
  unfold cut at h
  obtain ⟨x, hx, rfl⟩ := List.mem_map.1 (List.mem_filter.1 h).1
  exact ⟨x, List.mem_of_mem_take hx, rfl⟩
theorem cut_i64 (l : List Route) (m : Nat) : ∀ r ∈ cut l m, r.i64 := by
  intro r h
  obtain ⟨x, _, rfl⟩ := cut_mem h
  exact cutR_i64 x
theorem cut_new (l : List Route) (m : Nat) : ∀ r ∈ cut l m, -1 ≤ r.new := by
  intro r h
  obtain ⟨x, _, rfl⟩ := cut_mem h
  unfold cutR
  simp only
  omega
theorem made_okB (f : Frame) (hf : f.okB) : (made f).okB := by
  unfold made Frame.okB
  simp only
  split
  · simp [Bytes]
  · exact fun b hb => hf b (List.mem_of_mem_take hb)
end Go.Proofs.YtcpfkcipnkeokaaFw
