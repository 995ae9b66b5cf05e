/-
  An abstract walk, part L: append and copy are right.
-/
import Derived.Test.YtoifmpiikopelaaFwK
namespace Go.Proofs.YtoifmpiikopelaaFw
open Go
set_option linter.unusedVariables false
set_option linter.unusedSimpArgs false

section
variable {P : Program} {B : Base} {A : AF} {a : Act} {w : World} {F : Nat → Prop} {m : Ids} {T : Tab} {d : Option Tmp} {u : Nat → Prop} {c : Nat}

theorem run_append_in {t tx ty e e' : TypeId} {i : TypeInfo} (ht : P.underlying t = some (.slice e)) (hi : P.info? e = some i) (b off sLen sCap : Nat) (x : Value) (n : Nat) (news : List Value) (hs : Src P i.size tx x n news w)
    (hroom : sLen + n ≤ sCap) {cur : Array Value} {fr : Nat × Nat} (hg : w.heap[b]? = some (Obj.cells cur e' fr)) (hfr : frOk cur.size fr) (hfit : off + sLen * i.size + news.length ≤ cur.size) :
    (Builtin.append_ #[t, tx] ty #[.slice (some ⟨b, off, none⟩) sLen sCap, x]).run P w = .ok (.slice (some ⟨b, off, none⟩) (sLen + n) sCap)
      (w.setRow b (cur.toList.take (off + sLen * i.size) ++ news ++ cur.toList.drop (off + sLen * i.size + news.length)).toArray) := by
  have hst := run_storeCells_O P b (off + sLen * i.size) e' fr news 0 cur w hg hfr (by simpa using hfit) hs.one
  simp only [Nat.add_zero] at hst
  rcases hs.kind with ⟨e', hk⟩ | hk <;> simp [Builtin.append_, run_underlying ht, run_underlying hk, sizeOf, typeInfo, hi, hs.len, hroom, hs.cells, Addr.add_lit, hst]

theorem run_append_none {t tx ty e : TypeId} {i : TypeInfo} (ht : P.underlying t = some (.slice e)) (hi : P.info? e = some i) (ao : Option Addr) (x : Value) (news : List Value) (hs : Src P i.size tx x 0 news w) :
    (Builtin.append_ #[t, tx] ty #[.slice ao 0 0, x]).run P w = .ok (.slice ao 0 0) w := by
  have hn : news = [] := List.eq_nil_of_length_eq_zero (by rw [hs.newsLen]; simp)
  subst hn
  cases ao <;> rcases hs.kind with ⟨e', hk⟩ | hk <;> simp [Builtin.append_, run_underlying ht, run_underlying hk, sizeOf, typeInfo, hi, hs.len, hs.cells, storeCells]

/-- A new row behind an append that grows. -/
theorem new_row {w : World} {s n k : Nat} {es : List (List PV)} {vs : List Value} {zs : Array Value} {e : TypeId} (h : RowRep F w m s es vs) (hl : es.length ≤ 2 ^ 47)
    (g : Grow F w m F { w with heap := w.heap.push (.cells (vs.toArray ++ zs) e) } (updI m c (some ⟨w.heap.size, 0, none⟩))) :
    BlkOk F { w with heap := w.heap.push (.cells (vs.toArray ++ zs) e) } (updI m c (some ⟨w.heap.size, 0, none⟩)) (some ⟨w.heap.size, 0, none⟩) (.row s es) := by
  refine ⟨h.2.1, hl, .inr ⟨w.heap.size, 0, _, e, _, rfl, by simp; rfl, frOk.zero _, by simp [h.1], fun i j el p hi hj => ?_⟩⟩
  obtain ⟨v, h1, h2⟩ := h.2.2.2 i j el p hi hj
  have hlt := (List.getElem?_eq_some_iff.1 h1).1
  refine ⟨v, ?_, h.2.2.1 v (List.mem_of_getElem? h1), h2.mono g⟩
  rw [Array.getElem?_append_left (by simp; omega)]
  simpa using h1

theorem fAppend_ok (hT : TabOk P T) (h : SimW B A a w F m) {st : St} (hst : ∀ b k, st b = some k → A.st b = some k) {t tx ty : TypeId} {x y : PV} {r : R} (hr : fAppend T st c t tx x y = some r) (hg : r.g)
    {vx vy : Value} (hx : Rep F w m x vx) (hy : Rep F w m y vy) (hd : A.fits d) (hc : ¬ A.used c) (huc : u c) :
    ∃ v w' m', (Builtin.append_ #[t, tx] ty #[vx, vy]).run P w = .ok v w' ∧ SimW B (((A.eff r.dels r.puts).use u).put d r.v) (a.put d v) w' F m' := by
  unfold fAppend at hr
  split at hr
  case h_2 => cases hr
  rename_i e e2 hk hk2
  have hu := und_slice hT hk
  split at hr
  case h_2 => cases hr
  rename_i ss es gs sx xs gx hrx hry
  have hbase : ∀ {g' : Prop}, ((T e).k ≠ .other ∧ 0 < (T e).size ∧ gs ∧ gx ∧ (es = [] ∨ ss = (T e).size) ∧ (xs = [] ∨ sx = (T e).size) ∧ (es.length + xs.length) * (T e).bytes ≤ 2 ^ 47 ∧ es.length + xs.length ≤ 2 ^ 47) → g' → True := fun _ _ => trivial
  -- the general part
  have main : ∀ (hke : (T e).k ≠ .other) (h0 : 0 < (T e).size) (hgs : gs) (hgx : gx) (hes : es = [] ∨ ss = (T e).size) (hxs : xs = [] ∨ sx = (T e).size) (hB : (es.length + xs.length) * (T e).bytes ≤ 2 ^ 47) (h47 : es.length + xs.length ≤ 2 ^ 47) (dels : List Nat)
      (hcase : (∃ t' s' , x = .sl t' s' es ∧ t' = true ∧ (es = [] ∨ xs ≠ [])) ∨ (∃ b off len s' es', x = .own b ss off len ∧ ss = (T e).size ∧ st b = some (.row s' es') ∧ s' = ss ∧ off + len ≤ es'.length ∧ es = (es'.drop off).take len ∧ dels = [b])),
      ∃ v w' m', (Builtin.append_ #[t, tx] ty #[vx, vy]).run P w = .ok v w' ∧ SimW B (((A.eff dels [(c, .row (T e).size (es ++ xs))]).use u).put d (.own c (T e).size 0 (es.length + xs.length))) (a.put d v) w' F m' := by
    intro hke h0 hgs hgx hes hxs hB h47 dels hcase
    obtain ⟨i, z, hi, hs, hb, hz, hzz, hzs, _⟩ := (hT e hke).info
    obtain ⟨ao, cap, olds, hvx, hcap, hl47, hro, hco⟩ := rowOf_ok h hst hrx hgs hx
    obtain ⟨ax, capx, news, hvy, hcapx, hlx47, hrn, hcn⟩ := rowOf_ok h hst hry hgx hy
    have hsrc := src_of hT hk2 (size := (T e).size) hxs hrn hcn h0 (cap := capx)
    have hsrc0 := src_of hT hk (size := (T e).size) hes hro hco h0 (cap := cap)
    rw [← hs] at hsrc hsrc0
    have hro' : RowRep F w m (T e).size es olds := by
      rcases hes with rfl | rfl
      · have : olds = [] := List.eq_nil_of_length_eq_zero (by simpa using hro.1)
        subst this
        exact ⟨by simp, by simp, by simp, by simp⟩
      · exact hro
    have hrn' : RowRep F w m (T e).size xs news := by
      rcases hxs with rfl | rfl
      · have : news = [] := List.eq_nil_of_length_eq_zero (by simpa using hrn.1)
        subst this
        exact ⟨by simp, by simp, by simp, by simp⟩
      · exact hrn
    have hall := hro'.append hrn'
    have hlen : (es ++ xs).length ≤ 2 ^ 47 := by simpa using h47
    subst hvx hvy
    -- a new block
    have grow : cap < es.length + xs.length → ∃ v w' m', (Builtin.append_ #[t, tx] ty #[.slice ao es.length cap, .slice ax xs.length capx]).run P w = .ok v w' ∧
        SimW B (((A.eff dels [(c, .row (T e).size (es ++ xs))]).use u).put d (.own c (T e).size 0 (es.length + xs.length))) (a.put d v) w' F m' := by
      intro hgt
      have hrun := run_append_grow_src (P := P) w t tx ty e i z hu hi hz ao es.length cap olds hsrc0.cellsD _ xs.length news hsrc hgt (by omega) (growslice_fits (by omega) (by rw [hb]; omega))
      have hd' := h.drew
      have hgr := hd'.grow hc (.cells ((olds ++ news).toArray ++ Builtin.zeroCells z.cells (grownCap w (es.length + xs.length) cap e - (es.length + xs.length))) e) (some ⟨w.drew.heap.size, 0, none⟩)
      have hge := grownCap_ge w (es.length + xs.length) cap e
      refine ⟨_, _, _, hrun, hd'.new hd hc huc (?_ : Rep F _ _ (.own c (T e).size 0 (es.length + xs.length)) _) (new_row (n := 0) (k := 0) (hall.mono grow_drew) hlen hgr)⟩
      refine own_new hge h47 ?_
      rw [Array.size_append, size_zeroCells, hzs, List.size_toArray, List.length_append, hro'.1, hrn'.1, ← Nat.add_mul, ← Nat.add_mul]
      exact Nat.mul_le_mul_right _ (by omega)
    by_cases hgt : cap < es.length + xs.length
    · exact grow hgt
    · rcases hcase with ⟨t', s', rfl, rfl, hor⟩ | ⟨b, off, len, s', es', rfl, hss, hb', rfl, hle, rfl, rfl⟩
      · -- a full slice: nothing to append to nothing
        have hcape : cap = es.length := by
          have := hx.sl_inv
          cases this with
          | sl _ _ _ _ _ _ _ ht => exact ht rfl
        have hx0 : xs = [] := List.eq_nil_of_length_eq_zero (by omega)
        have he0 : es = [] := by rcases hor with h | h; exact h; exact (h hx0).elim
        subst hx0 he0
        have hcap0 : cap = 0 := by simpa using hcape
        subst hcap0
        have hrun := run_append_none (P := P) (w := w) (ty := ty) hu hi ao _ news (by simpa using hsrc)
        refine ⟨_, _, _, by simpa using hrun, h.nilId hd hc huc (.own _ _ _ _ _ _ (by simp) (by simp) (by simp))⟩
      · have hlen' : ((es'.drop off).take len).length = len := by simp; omega
        obtain ⟨cap', a', heq, hlc, hl47', hcc⟩ := hx.own_inv
        injection heq with q1 q2 q3
        subst q1 q3
        by_cases hc0 : cap = 0
        · subst hc0
          have hx0 : xs = [] := List.eq_nil_of_length_eq_zero (by omega)
          have hl0 : len = 0 := by omega
          subst hx0 hl0
          have hrun := run_append_none (P := P) (w := w) (ty := ty) hu hi ao _ news (by simpa using hsrc)
          refine ⟨.slice ao 0 0, w, updI m c none, by simpa using hrun, ?_⟩
          have := h.nilId (dels := [b]) (s := (T e).size) hd hc huc (.own c (T e).size 0 0 0 ao (by simp) (by simp) (by simp))
          simpa using this
        · obtain ⟨xa, cc, e', fr, h3, h4, h5, h6, h7⟩ := hcc hc0
          subst h5
          obtain ⟨ao', h1, h2⟩ := h.blk b _ (hst b _ hb')
          rw [h3] at h1
          cases h1
          obtain ⟨vs, e'', fr, h8, h9, hfr, h10, h11⟩ := row_seg h2 hle
          rw [h6] at h9
          cases h9
          have hfit : xa.off + off * s' + ((es'.drop off).take len).length * i.size + news.length ≤ cc.size := by
            rw [hlen', hs, ← hss, hrn'.1, ← hss, Nat.add_assoc, Nat.add_assoc, ← Nat.add_mul, ← Nat.add_mul]
            refine Nat.le_trans (Nat.add_le_add_left (Nat.mul_le_mul_right _ ?_) _) h7
            rw [hlen'] at hgt
            omega
          have hrun := run_append_in (P := P) (w := w) (ty := ty) hu hi xa.block (xa.off + off * s') ((es'.drop off).take len).length cap _ xs.length news hsrc (by omega) h6 hfr hfit
          have ho := h.own b _ xa (hst b _ hb') h3
          have hmul : ((es'.drop off).take len).length * i.size = len * s' := by rw [hlen', hs, ← hss]
          rw [hmul] at hrun hfit
          have hnl : news.length = xs.length * s' := by rw [hrn'.1, ← hss]
          have hsz : (cc.toList.take (xa.off + off * s' + len * s') ++ news ++ cc.toList.drop (xa.off + off * s' + len * s' + news.length)).toArray.size = cc.size := by
            rw [List.size_toArray, List.length_append, List.length_append, List.length_take, List.length_drop, Array.length_toList]
            omega
          have hmc : m c = none := Classical.byContradiction fun e => hc (h.used c e)
          have g := (grow_setRow (m := m) h6 hsz ho.1).trans (grow_upd (F := F) (w := w.setRow xa.block (cc.toList.take (xa.off + off * s' + len * s') ++ news ++ cc.toList.drop (xa.off + off * s' + len * s' + news.length)).toArray) (x := some ⟨xa.block, xa.off + off * s', none⟩) hmc)
          refine ⟨_, _, _, hrun, h.move (c := c) (off := xa.off + off * s') hd (hst b _ hb') h3 hc huc (by simp) h6 hsz ?_ ⟨?_, hlen, .inr ⟨xa.block, _, _, e', _, rfl, setRow_heap w xa.block cc _ e' _ h6, by rw [hsz]; exact hfr, ?_, fun i1 j1 el p hi1 hj1 => ?_⟩⟩⟩
          · refine .own _ _ _ _ _ _ (by omega) h47 fun _ => ⟨⟨xa.block, xa.off + off * s', none⟩, _, e', _, by simp [updI], rfl, by simp, setRow_heap w xa.block cc _ e' _ h6, ?_⟩
            rw [hsz]
            show xa.off + off * s' + (0 + cap) * (T e).size ≤ cc.size
            rw [Nat.add_mul] at h7
            rw [Nat.zero_add, ← hss]
            omega
          · exact hall.2.1
          · rw [hsz, List.length_append, hlen', ← hss, Nat.add_mul, ← hnl]
            omega
          · rw [← hss] at hall ⊢
            have hold : olds = (cc.toList.drop (xa.off + off * s')).take (len * s') := by
              have hl1 : olds.length = len * s' := by rw [hro.1, hlen']
              apply List.ext_getElem?
              intro k
              by_cases hk : k < len * s'
              · have hne : olds ≠ [] := by intro h; rw [h] at hl1; simp at hl1; omega
                obtain ⟨b1, o1, e1, hcell⟩ := hco hne
                cases e1
                have hk' : k < olds.length := by omega
                have := hcell k olds[k] (List.getElem?_eq_getElem hk')
                rw [cell_of h6] at this
                have e2 : ((cc.toList.drop (xa.off + off * s')).take (len * s'))[k]? = cc[xa.off + off * s' + k]? := by
                  rw [List.getElem?_take, if_pos hk, List.getElem?_drop, Array.getElem?_toList]
                rw [e2, this]
                exact List.getElem?_eq_getElem hk'
              · rw [List.getElem?_eq_none (by omega), List.getElem?_eq_none (by rw [List.length_take]; omega)]
            obtain ⟨v, q1, q2⟩ := hall.2.2.2 i1 j1 el p hi1 hj1
            refine ⟨v, ?_, hall.2.2.1 v (List.mem_of_getElem? q1), q2.mono g⟩
            have hol : olds.length = len * s' := by rw [hro.1, hlen']
            rw [← q1, List.getElem?_toArray, List.append_assoc]
            have htl : (cc.toList.take (xa.off + off * s' + len * s')).length = xa.off + off * s' + len * s' := by rw [List.length_take, Array.length_toList]; omega
            have hk : i1 * s' + j1 < olds.length + news.length := by
              have := (List.getElem?_eq_some_iff.1 q1).1
              rwa [List.length_append] at this
            by_cases hlt : i1 * s' + j1 < len * s'
            · rw [List.getElem?_append_left (by omega), List.getElem?_append_left (by omega), hold, List.getElem?_take, if_pos (by omega), List.getElem?_take, if_pos hlt, List.getElem?_drop]
              congr 1
              omega
            · rw [List.getElem?_append_right (by omega), htl, List.getElem?_append_left (by omega), List.getElem?_append_right (by omega), hol]
              congr 1
              omega
  split at hr
  · rename_i s0 es0
    cases hr
    obtain ⟨⟨h1, h2, h3, h4, h5, h6, h7, h8⟩, h9⟩ := hg
    simp only [rowOf, Option.some.injEq, Prod.mk.injEq] at hrx
    obtain ⟨rfl, rfl, _⟩ := hrx
    exact main h1 h2 h3 h4 h5 h6 h7 h8 [] (.inl ⟨_, _, rfl, rfl, h9⟩)
  · rename_i b s0 off len
    cases hr
    obtain ⟨⟨h1, h2, h3, h4, h5, h6, h7, h8⟩, h9⟩ := hg
    simp only [rowOf] at hrx
    split at hrx
    · rename_i s' es' hb
      cases hrx
      exact main h1 h2 h3 h4 h5 h6 h7 h8 [b] (.inr ⟨b, off, len, s', es', rfl, h9, hb, h3.1, h3.2, rfl, rfl⟩)
    · cases hrx
  · cases hr

end
end Go.Proofs.YtoifmpiikopelaaFw
