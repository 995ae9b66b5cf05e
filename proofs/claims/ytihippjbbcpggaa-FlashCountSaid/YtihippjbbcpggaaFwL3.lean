/-
  An abstract walk, part L3: copy, into a row of one's own.
-/
import Derived.Test.YtihippjbbcpggaaFwL2
namespace Go.Proofs.YtihippjbbcpggaaFw
open Go
set_option linter.unusedVariables false
set_option linter.unusedSimpArgs false

section
variable {P : Program} {B : Base} {A : AF} {a : Act} {w : World} {F : Nat → Prop} {m : Ids} {T : Tab} {d : Option Tmp} {u : Nat → Prop} {c : Nat}

theorem get_mid {α : Type} (cs ns : List α) (D : Nat) (hD : D + ns.length ≤ cs.length) (k : Nat) :
    (cs.take D ++ ns ++ cs.drop (D + ns.length))[k]? = if k < D then cs[k]? else if k < D + ns.length then ns[k - D]? else cs[k]? := by
  have hl : (cs.take D).length = D := by rw [List.length_take]; omega
  rw [List.append_assoc]
  split
  · rw [List.getElem?_append_left (by omega), List.getElem?_take, if_pos (by assumption)]
  · rw [List.getElem?_append_right (by omega), hl]
    split
    · rw [List.getElem?_append_left (by omega)]
    · rw [List.getElem?_append_right (by omega), List.getElem?_drop]
      congr 1
      omega

theorem fCopy_ok (hT : TabOk P T) (h : SimW B A a w F m) {st : St} (hst : ∀ b k, st b = some k → A.st b = some k) {t tx ty : TypeId} {x y : PV} {r : R} (hr : fCopy T st t tx x y = some r) (hg : r.g)
    {vx vy : Value} (hx : Rep F w m x vx) (hy : Rep F w m y vy) (hd : A.fits d) :
    ∃ v w', (Builtin.copy_ #[t, tx] ty #[vx, vy]).run P w = .ok v w' ∧ SimW B (((A.eff r.dels r.puts).use u).put d r.v) (a.put d v) w' F m := by
  unfold fCopy at hr
  split at hr
  case h_2 => cases hr
  rename_i e e2 b s off len hk hk2
  split at hr
  case h_2 => cases hr
  rename_i s' es sx xs gx hb hry
  cases hr
  obtain ⟨hke, hs1, hss, hs, hgx, hsx, hle, hle47, hx0, hl0⟩ := hg
  subst hss hs hsx
  obtain ⟨cap, a', rfl, hlc, hl47, hcc⟩ := hx.own_inv
  obtain ⟨xa, cc, e', fr, h3, h4, rfl, h6, h7⟩ := hcc (by omega)
  obtain ⟨ao, h1, h2⟩ := h.blk b _ (hst b _ hb)
  rw [h3] at h1
  cases h1
  have hown := h.own b _ xa (hst b _ hb) h3
  obtain ⟨q1, q0, ⟨q2, _⟩ | ⟨b', o', vs, e'', hxe, q3, q4, q5⟩⟩ := h2
  · cases q2
  cases hxe
  rw [h6] at q3
  cases q3
  obtain ⟨ax, capx, news, rfl, hcapx, hlx47, hrn, hcn⟩ := rowOf_ok h hst hry hgx hy
  have hnl : news.length = xs.length := by rw [hrn.1]; simp
  obtain ⟨bx, ox, rfl, hcell⟩ := hcn (by intro hh; rw [hh] at hnl; simp at hnl; omega)
  obtain ⟨i, z, hi, hsz, _⟩ := (hT e hke).info
  have hu := und_slice hT hk
  have hn : (news.take (min xs.length len)).length = min xs.length len := by rw [List.length_take]; omega
  dsimp only at h6 h7 q4 q5 hown
  have hfit : o' + off * 1 + (news.take (min xs.length len)).length ≤ cc.size := by rw [hn]; omega
  have hrun := run_copy_row P w t tx ty e b' (o' + off * 1) len cap ⟨bx, ox, none⟩ xs.length capx cc e' (news.take (min xs.length len)) hu (by rw [hi]; simpa [hsz] using hs1) h6 hn
    (fun j v hj => by
      rw [List.getElem?_take] at hj
      split at hj
      · rw [add_none]; exact hcell j v hj
      · cases hj) hfit (fun v hv => hrn.2.2.1 v (List.mem_of_mem_take hv))
  rw [hn] at hrun hfit
  have hsz2 : (cc.toList.take (o' + off * 1) ++ news.take (min xs.length len) ++ cc.toList.drop (o' + off * 1 + min xs.length len)).toArray.size = cc.size := by
    rw [List.size_toArray, List.length_append, List.length_append, List.length_take, List.length_drop, Array.length_toList, hn]
    omega
  have g := grow_setRow (m := m) (F := F) h6 hsz2 hown.1
  refine ⟨_, _, hrun, h.write (x := ⟨b', o', none⟩) hd (hst b _ hb) h3 h6 hsz2 (.fz (.int _ _)) ?_⟩
  have hxl : (xs.take len).length = min xs.length len := by rw [List.length_take]; omega
  have htl : (es.take off).length = off := by rw [List.length_take]; omega
  refine ⟨fun el hel => ?_, by rw [List.length_append, List.length_append, hxl, htl, List.length_drop]; omega, .inr ⟨b', o', _, e', rfl, setRow_heap w b' cc _ e' _ h6, ?_, fun i1 j1 el c hi1 hj1 => ?_⟩⟩
  · rcases List.mem_append.1 hel with hel | hel
    · exact q1 el (List.mem_of_mem_take hel)
    · rcases List.mem_append.1 hel with hel | hel
      · exact hrn.2.1 el (List.mem_of_mem_take hel)
      · exact q1 el (List.mem_of_mem_drop hel)
  · rw [hsz2, List.length_append, List.length_append, hxl, htl, List.length_drop]
    omega
  · have key := get_mid cc.toList (news.take (min xs.length len)) (o' + off * 1) (by rw [hn, Array.length_toList]; omega) (o' + i1 * 1 + j1)
    rw [hn] at key
    have hgo : ∀ v, (if o' + i1 * 1 + j1 < o' + off * 1 then cc.toList[o' + i1 * 1 + j1]? else if o' + i1 * 1 + j1 < o' + off * 1 + min xs.length len then (news.take (min xs.length len))[o' + i1 * 1 + j1 - (o' + off * 1)]? else cc.toList[o' + i1 * 1 + j1]?) = some v → v.oneCell' = true → Rep F w m c v →
        ∃ v, (cc.toList.take (o' + off * 1) ++ news.take (min xs.length len) ++ cc.toList.drop (o' + off * 1 + min xs.length len)).toArray[o' + i1 * 1 + j1]? = some v ∧ v.oneCell' = true ∧ Rep F (w.setRow b' (cc.toList.take (o' + off * 1) ++ news.take (min xs.length len) ++ cc.toList.drop (o' + off * 1 + min xs.length len)).toArray) m c v := by
      intro v hv h1 h2
      refine ⟨v, ?_, h1, h2.mono g⟩
      rw [List.getElem?_toArray, key]
      exact hv
    by_cases c1 : i1 < off
    · rw [List.getElem?_append_left (by omega), List.getElem?_take, if_pos c1] at hi1
      have hj0 : j1 < 1 := by have := (List.getElem?_eq_some_iff.1 hj1).1; rwa [q1 el (List.mem_of_getElem? hi1)] at this
      obtain ⟨v, p1, p2, p3⟩ := q5 i1 j1 el c hi1 hj1
      exact hgo v (by rw [if_pos (by omega)]; simpa using p1) p2 p3
    · rw [List.getElem?_append_right (by omega), htl] at hi1
      by_cases c2 : i1 < off + min xs.length len
      · rw [List.getElem?_append_left (by omega), List.getElem?_take, if_pos (by omega)] at hi1
        have hj0 : j1 < 1 := by have := (List.getElem?_eq_some_iff.1 hj1).1; rwa [hrn.2.1 el (List.mem_of_getElem? hi1)] at this
        obtain ⟨v, p1, p2⟩ := hrn.2.2.2 (i1 - off) j1 el c hi1 hj1
        refine hgo v ?_ (hrn.2.2.1 v (List.mem_of_getElem? p1)) p2
        rw [if_neg (by omega), if_pos (by omega), List.getElem?_take, if_pos (by omega), ← p1]
        congr 1
        omega
      · rw [List.getElem?_append_right (by omega), hxl, List.getElem?_drop] at hi1
        have e1 : off + min xs.length len + (i1 - off - min xs.length len) = i1 := by omega
        rw [e1] at hi1
        have hj0 : j1 < 1 := by have := (List.getElem?_eq_some_iff.1 hj1).1; rwa [q1 el (List.mem_of_getElem? hi1)] at this
        obtain ⟨v, p1, p2, p3⟩ := q5 i1 j1 el c hi1 hj1
        exact hgo v (by rw [if_neg (by omega), if_neg (by omega)]; simpa using p1) p2 p3

end
end Go.Proofs.YtihippjbbcpggaaFw
