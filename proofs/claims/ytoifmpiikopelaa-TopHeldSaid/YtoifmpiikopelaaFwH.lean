/-
  An abstract walk, part H: stores; new boxes and rows.
-/
import Derived.Test.YtoifmpiikopelaaFwG
namespace Go.Proofs.YtoifmpiikopelaaFw
open Go
set_option linter.unusedVariables false
set_option linter.unusedSimpArgs false

section
variable {P : Program} {B : Base} {A : AF} {a : Act} {w : World} {F : Nat → Prop} {m : Ids} {T : Tab} {d : Option Tmp} {u : Nat → Prop} {c : Nat}

theorem run_storeCells_O (P : Program) (g o : Nat) (t : TypeId) (fz : Nat × Nat) : ∀ (vs : List Value) (i : Nat) (cur : Array Value) (w : World), w.heap[g]? = some (.cells cur t fz) → frOk cur.size fz → o + i + vs.length ≤ cur.size → (∀ v ∈ vs, v.oneCell' = true) →
    (storeCells ⟨g, o, none⟩ vs i).run P w = .ok () (w.setRow g (cur.toList.take (o + i) ++ vs ++ cur.toList.drop (o + i + vs.length)).toArray)
  | [], i, cur, w, hg, _, _, _ => by
    simp only [storeCells, List.append_nil, List.length_nil, Nat.add_zero, List.take_append_drop, Array.toArray_toList]
    rw [setRow_self w g cur t fz hg]
    rfl
  | v :: rest, i, cur, w, hg, hfz, hl, h1 => by
    have hi : o + i < cur.size := by simp at hl; omega
    have hadd : (⟨g, o, none⟩ : Addr).add i = ⟨g, o + i, none⟩ := by unfold Addr.add; split <;> simp_all
    have hcell : w.cell? ⟨g, o + i, none⟩ = some cur[o + i] := by simp [World.cell?, hg, hi]
    have hfro : w.frozen? ⟨g, o + i, none⟩ = false := by
      have := hfz.at_ hi
      obtain ⟨lo, hi'⟩ := fz
      simp only [World.frozen?, hg]
      simp only at this
      rw [Bool.and_eq_false_iff, decide_eq_false_iff_not, decide_eq_false_iff_not]
      omega
    have hst : (store ((⟨g, o, none⟩ : Addr).add i) v).run P w = .ok () (w.setRow g (cur.setIfInBounds (o + i) v)) := by
      rw [hadd, run_store P w _ v _ (h1 v (by simp)), hcell]
      simp [hfro, setCell_eq_setRow w g (o + i) cur t fz v hg]
    have ih := run_storeCells_O P g o t fz rest (i + 1) (cur.setIfInBounds (o + i) v) (w.setRow g (cur.setIfInBounds (o + i) v)) (setRow_heap w g cur _ t _ hg) (by simpa using hfz) (by simp at hl ⊢; omega) (fun x hx => h1 x (by simp [hx]))
    simp only [storeCells, Sem.run_bind, hst, Result.andThen_ok, ih, setRow_setRow]
    congr 3
    have e := list_seg_step cur.toList (o + i) v rest (by simp at hl ⊢; omega)
    simpa [Array.toList_setIfInBounds, Nat.add_assoc] using e

/-- A block laid over cells of which a part was put anew. -/
theorem box_put {b : Nat} {cs ds : List PV} {vs : Array Value} {us : List Value} {e : TypeId} {off : Nat} (hg : w.heap[b]? = some (Obj.cells vs e (0, 0))) (hF : ¬ F b)
    (h1 : RepL F w m cs vs.toList) (h2 : RepL F w m ds us) (hl : off + ds.length ≤ cs.length) :
    BlkOk F (w.setRow b (vs.toList.take off ++ us ++ vs.toList.drop (off + us.length)).toArray) m (some ⟨b, 0, none⟩) (.box (splice cs off ds)) := by
  have hs : (vs.toList.take off ++ us ++ vs.toList.drop (off + us.length)).toArray.size = vs.size := by
    have := h1.1
    have := h2.1
    simp at *
    omega
  have g := grow_setRow (m := m) hg hs hF
  have h3 := (h1.mono g).splice (h2.mono g) off
  refine ⟨b, _, e, rfl, setRow_heap w b vs _ e _ hg, by rw [List.size_toArray, h3.1], fun i c v hc hv => ?_⟩
  exact h3.2 i c v hc (by simpa using hv)

theorem fStore_ok (hT : TabOk P T) (h : SimW B A a w F m) {st : St} (hst : ∀ b k, st b = some k → A.st b = some k) {t : TypeId} {x y : PV} {r : R} (hr : fStore T st t x y = some r) (hg : r.g)
    {vx vy : Value} (hx : Rep F w m x vx) (hy : Rep F w m y vy) (hd : A.fits d) :
    ∃ w', (Instr.storeAt t vx vy).run P w = .ok () w' ∧ SimW B (((A.eff r.dels r.puts).use u).put d r.v) (a.put d undef) w' F m := by
  unfold fStore at hr
  split at hr
  · rename_i b off
    split at hr
    · rename_i cs hb
      cases hr
      obtain ⟨h1, h2, h3, h4⟩ := hg
      obtain ⟨ao, h5, h6⟩ := h.blk b _ (hst b _ hb)
      cases hx with
      | fz hx => cases hx
      | ptr _ _ x hmb hp =>
        rw [hmb] at h5
        cases h5
        obtain ⟨vs, e, hxe, h7, h8⟩ := box_cells (b := b) h6
        have hyc := hy.cells h2
        have hn : vy.cells.size = (T t).size := by rw [← h3, ← hyc.1]; simp
        have hxo : x.off = 0 := by rw [hxe]
        have hlen : off + vy.cells.toList.length ≤ vs.size := by
          have := h8.1
          simp at this ⊢
          omega
        have hrun := run_storeCells_at P x.block (x.off + off) e vy.cells.toList 0 vs w h7 (by rw [hxo]; simpa using hlen) hyc.one
        have ho := h.own b _ x (hst b _ hb) hmb
        simp only [hxo, Nat.zero_add, Nat.add_zero] at hrun ⊢
        have hrun' : (Instr.storeAt t (.pointer (some ⟨x.block, off, none⟩)) vy).run P w = .ok () (w.setRow x.block (vs.toList.take off ++ vy.cells.toList ++ vs.toList.drop (off + vy.cells.toList.length)).toArray) := by
          simp only [Instr.storeAt, Instr.sureAddr, storeVar, Sem.run_bind, Sem.run_pure, Result.andThen_ok, run_sizeOf hT h1, hn]
          simpa using hrun
        have hbk := box_put (off := off) h7 ho.1 h8 hyc (by rw [h3]; exact h4)
        refine ⟨_, hrun', h.write hd (hst b _ hb) hmb h7 ?_ (.fz .und) ?_⟩
        · simp at hlen ⊢; omega
        · rw [hxe]; exact hbk
    · cases hr
  · rename_i b s i off
    split at hr
    · rename_i s' es hb
      cases hr
      obtain ⟨h1, h2, h3, rfl, hi, h4⟩ := hg
      obtain ⟨ao, h5, h6⟩ := h.blk b _ (hst b _ hb)
      cases hx with
      | fz hx => cases hx
      | rp _ _ _ _ x hmb hp =>
        rw [hmb] at h5
        cases h5
        obtain ⟨vs, e, fr, hsp, h7, hfr, hel, hes, h8⟩ := row_elem h6 hi
        have hyc := hy.cells h2
        have hn : vy.cells.size = (T t).size := by rw [← h3, ← hyc.1]; simp
        have hle : i * s' + s' ≤ es.length * s' := by rw [← Nat.succ_mul]; exact Nat.mul_le_mul_right _ hi
        have hyl : vy.cells.toList.length = (T t).size := by simpa using hn
        have hlen : x.off + i * s' + off + vy.cells.toList.length ≤ vs.size := by rw [hyl]; omega
        have hrun := run_storeCells_O P x.block (x.off + i * s' + off) e fr vy.cells.toList 0 vs w h7 hfr (by simpa using hlen) hyc.one
        have ho := h.own b _ x (hst b _ hb) hmb
        simp only [Nat.add_zero] at hrun
        have hrun' : (Instr.storeAt t (.pointer (some ⟨x.block, x.off + i * s' + off, none⟩)) vy).run P w =
            .ok () (w.setRow x.block (vs.toList.take (x.off + i * s' + off) ++ vy.cells.toList ++ vs.toList.drop (x.off + i * s' + off + vy.cells.toList.length)).toArray) := by
          simp only [Instr.storeAt, Instr.sureAddr, storeVar, Sem.run_bind, Sem.run_pure, Result.andThen_ok, run_sizeOf hT h1, hn]
          simpa using hrun
        have hsz : (vs.toList.take (x.off + i * s' + off) ++ vy.cells.toList ++ vs.toList.drop (x.off + i * s' + off + vy.cells.toList.length)).toArray.size = vs.size := by
          rw [List.size_toArray, List.length_append, List.length_append, List.length_take, List.length_drop, Array.length_toList]
          omega
        have g := grow_setRow (m := m) h7 hsz ho.1
        refine ⟨_, hrun', h.write hd (hst b _ hb) hmb h7 hsz (.fz .und) ?_⟩
        obtain ⟨q1, q0, ⟨q2, _⟩ | ⟨b', o', vs', e', fr', hx', q3, qfr, q4, q5⟩⟩ := h6
        · cases q2
        · cases hx'
          rw [h7] at q3
          cases q3
          have hyp : y.cells.length = (T t).size := h3
          refine ⟨?_, by simpa using q0, .inr ⟨b', o', _, e, fr, rfl, setRow_heap w b' vs _ e _ h7, by rw [hsz]; exact hfr, by rw [hsz]; simpa using q4, fun i1 j1 el c hi1 hj1 => ?_⟩⟩
          · intro el hel
            rcases List.mem_or_eq_of_mem_set hel with hel | rfl
            · exact q1 el hel
            · unfold splice
              simp [hel, hyp] at *
              omega
          · -- the cell at element i1, place j1
            have hi1' : i1 < es.length := by
              have := (List.getElem?_eq_some_iff.1 hi1).1
              simpa using this
            have key : ∀ k : Nat, (vs.toList.take (o' + i * s' + off) ++ vy.cells.toList ++ vs.toList.drop (o' + i * s' + off + vy.cells.toList.length)).toArray[k]? =
                if k < o' + i * s' + off then vs[k]? else if k < o' + i * s' + off + vy.cells.toList.length then vy.cells.toList[k - (o' + i * s' + off)]? else vs[k]? := by
              intro k
              dsimp only at hlen
              have hl1 : (vs.toList.take (o' + i * s' + off)).length = o' + i * s' + off := by rw [List.length_take, Array.length_toList]; omega
              rw [List.getElem?_toArray, List.append_assoc]
              split
              · rw [List.getElem?_append_left (by omega), List.getElem?_take, if_pos (by assumption), Array.getElem?_toList]
              · rw [List.getElem?_append_right (by omega), hl1]
                split
                · rw [List.getElem?_append_left (by omega)]
                · rw [List.getElem?_append_right (by omega), List.getElem?_drop, Array.getElem?_toList]
                  congr 1
                  omega
            rw [List.getElem?_set] at hi1
            by_cases he : i = i1
            · subst he
              rw [if_pos rfl, if_pos hi] at hi1
              cases hi1
              have hj1' : j1 < s' := by
                have := (List.getElem?_eq_some_iff.1 hj1).1
                unfold splice at this
                rw [List.length_append, List.length_append, List.length_take, List.length_drop, hel, hyp] at this
                omega
              rw [key]
              have hold := h8.splice hyc off
              have hj2 : ((vs.toList.drop (o' + i * s')).take s').length = s' := by rw [h8.1, hel]
              -- read the new element's cell
              have hv := hold.2 j1 c
              by_cases c1 : j1 < off
              · rw [if_pos (by omega)]
                have : vs[o' + i * s' + j1]? = (((vs.toList.drop (o' + i * s')).take s').take off ++ vy.cells.toList ++ ((vs.toList.drop (o' + i * s')).take s').drop (off + vy.cells.toList.length))[j1]? := by
                  rw [List.append_assoc, List.getElem?_append_left (by rw [List.length_take, hj2]; omega), List.getElem?_take, if_pos c1, List.getElem?_take, if_pos hj1', List.getElem?_drop, Array.getElem?_toList]
                obtain ⟨v, hv'⟩ : ∃ v, vs[o' + i * s' + j1]? = some v := ⟨_, Array.getElem?_eq_getElem (by omega)⟩
                rw [hv'] at this
                obtain ⟨r1, r2⟩ := hv v hj1 this.symm
                exact ⟨v, hv', r1, r2.mono g⟩
              · by_cases c2 : j1 < off + vy.cells.toList.length
                · rw [if_neg (by omega), if_pos (by omega)]
                  have e1 : o' + i * s' + j1 - (o' + i * s' + off) = j1 - off := by omega
                  rw [e1]
                  have : vy.cells.toList[j1 - off]? = (((vs.toList.drop (o' + i * s')).take s').take off ++ vy.cells.toList ++ ((vs.toList.drop (o' + i * s')).take s').drop (off + vy.cells.toList.length))[j1]? := by
                    have hlo : (((vs.toList.drop (o' + i * s')).take s').take off).length = off := by rw [List.length_take, hj2]; omega
                    rw [List.append_assoc, List.getElem?_append_right (by omega), hlo, List.getElem?_append_left (by omega)]
                  obtain ⟨v, hv'⟩ : ∃ v, vy.cells.toList[j1 - off]? = some v := ⟨_, List.getElem?_eq_getElem (by omega)⟩
                  rw [hv'] at this
                  obtain ⟨r1, r2⟩ := hv v hj1 this.symm
                  exact ⟨v, hv', r1, r2.mono g⟩
                · rw [if_neg (by omega), if_neg (by omega)]
                  have : vs[o' + i * s' + j1]? = (((vs.toList.drop (o' + i * s')).take s').take off ++ vy.cells.toList ++ ((vs.toList.drop (o' + i * s')).take s').drop (off + vy.cells.toList.length))[j1]? := by
                    have hlo : (((vs.toList.drop (o' + i * s')).take s').take off).length = off := by rw [List.length_take, hj2]; omega
                    rw [List.append_assoc, List.getElem?_append_right (by omega), hlo, List.getElem?_append_right (by omega), List.getElem?_drop, List.getElem?_take, if_pos (by omega), List.getElem?_drop, Array.getElem?_toList]
                    congr 1
                    omega
                  obtain ⟨v, hv'⟩ : ∃ v, vs[o' + i * s' + j1]? = some v := ⟨_, Array.getElem?_eq_getElem (by omega)⟩
                  rw [hv'] at this
                  obtain ⟨r1, r2⟩ := hv v hj1 this.symm
                  exact ⟨v, hv', r1, r2.mono g⟩
            · rw [if_neg he] at hi1
              obtain ⟨v, hv, r1, r2⟩ := q5 i1 j1 el c hi1 hj1
              have hj1' : j1 < s' := by
                have := (List.getElem?_eq_some_iff.1 hj1).1
                rw [q1 el (List.mem_of_getElem? hi1)] at this
                exact this
              refine ⟨v, ?_, r1, r2.mono g⟩
              rw [key]
              rcases Nat.lt_or_gt_of_ne he with hlt | hlt
              · have : i * s' + s' ≤ i1 * s' := by rw [← Nat.succ_mul]; exact Nat.mul_le_mul_right _ hlt
                rw [if_neg (by omega), if_neg (by omega)]
                exact hv
              · have : i1 * s' + s' ≤ i * s' := by rw [← Nat.succ_mul]; exact Nat.mul_le_mul_right _ hlt
                rw [if_pos (by omega)]
                exact hv
    · cases hr
  · cases hr

end
end Go.Proofs.YtoifmpiikopelaaFw
