/-
  An abstract walk, part L3: copy, into a row of one's own.
-/
import Derived.Test.YtoifmpiikopelaaFwL2
namespace Go.Proofs.YtoifmpiikopelaaFw
open Go
set_option linter.unusedVariables false
set_option linter.unusedSimpArgs false

section
variable {P : Program} {B : Base} {A : AF} {a : Act} {w : World} {F : Nat → Prop} {m : Ids} {T : Tab} {d : Option Tmp} {u : Nat → Prop} {c : Nat}

theorem get_mid {α : Type} (cs ns : List α) (D : Nat) (hD : D + ns.length ≤ cs.length) (k : Nat) :
    (cs.take D ++ ns ++ cs.drop (D + ns.length))[k]? = if k < D then cs[k]? else if k < D + ns.length then ns[k - D]? else cs[k]? := by
  have hl : (cs.take D).length = D := by rw [List.length_take]; omega
  rw [List.append_assoc]
  split
  · rw [List.getElem?_append_left (by omega), List.getElem?_take, if_pos (by assumption)]
  · rw [List.getElem?_append_right (by omega), hl]
    split
    · rw [List.getElem?_append_left (by omega)]
    · rw [List.getElem?_append_right (by omega), List.getElem?_drop]
      congr 1
      omega

theorem run_copy_O (P : Program) (w : World) (dT sT ty elem : TypeId) (g o dLen dCap : Nat) (a : Addr) (sLen sCap : Nat) (cur : Array Value) (t : TypeId) {fz : Nat × Nat} (cs : List Value)
    (hu : P.underlying dT = some (.slice elem)) (hs : (P.info? elem).map (·.size) = some 1)
    (hg : w.heap[g]? = some (.cells cur t fz)) (hfz : frOk cur.size fz) (hn : cs.length = Nat.min sLen dLen)
    (hsrc : ∀ j v, cs[j]? = some v → w.cell? (a.add j) = some v) (hfit : o + cs.length ≤ cur.size) (h1 : ∀ v ∈ cs, v.oneCell' = true) :
    (Builtin.copy_ #[dT, sT] ty #[.slice (some ⟨g, o, none⟩) dLen dCap, .slice (some a) sLen sCap]).run P w =
      .ok (goInt cs.length) (w.setRow g (cur.toList.take o ++ cs ++ cur.toList.drop (o + cs.length)).toArray) := by
  have hl := run_loadCells_list (P := P) w a cs hsrc
  have hst := run_storeCells_O P g o t fz cs 0 cur w hg hfz (by simpa using hfit) h1
  cases hq : P.info? elem with
  | none => simp [hq] at hs
  | some i =>
    have hi : i.size = 1 := by simpa [hq] using hs
    simp [Builtin.copy_, run_underlying hu, Builtin.lenOf, Builtin.firstCells, sizeOf, typeInfo, hq, hi, ← hn, hl, hst]

theorem fCopy_ok (hT : TabOk P T) (h : SimW B A a w F m) {st : St} (hst : ∀ b k, st b = some k → A.st b = some k) {t tx ty : TypeId} {x y : PV} {r : R} (hr : fCopy T st t tx x y = some r) (hg : r.g)
    {vx vy : Value} (hx : Rep F w m x vx) (hy : Rep F w m y vy) (hd : A.fits d) :
    ∃ v w', (Builtin.copy_ #[t, tx] ty #[vx, vy]).run P w = .ok v w' ∧ SimW B (((A.eff r.dels r.puts).use u).put d r.v) (a.put d v) w' F m := by
  unfold fCopy at hr
  split at hr
  case h_2 => cases hr
  rename_i e e2 b s off len hk hk2
  split at hr
  case h_2 => cases hr
  rename_i s' es sx xs gx hb hry
  cases hr
  obtain ⟨hke, hs1, hss, hs, hgx, hsx, hle, hle47, hx0, hl0⟩ := hg
  subst hss hs hsx
  obtain ⟨cap, a', rfl, hlc, hl47, hcc⟩ := hx.own_inv
  obtain ⟨xa, cc, e', fr, h3, h4, rfl, h6, h7⟩ := hcc (by omega)
  obtain ⟨ao, h1, h2⟩ := h.blk b _ (hst b _ hb)
  rw [h3] at h1
  cases h1
  have hown := h.own b _ xa (hst b _ hb) h3
  obtain ⟨q1, q0, ⟨q2, _⟩ | ⟨b', o', vs, e'', fr', hxe, q3, qfr, q4, q5⟩⟩ := h2
  · cases q2
  cases hxe
  rw [h6] at q3
  cases q3
  obtain ⟨ax, capx, news, rfl, hcapx, hlx47, hrn, hcn⟩ := rowOf_ok h hst hry hgx hy
  have hnl : news.length = xs.length := by rw [hrn.1]; simp
  obtain ⟨bx, ox, rfl, hcell⟩ := hcn (by intro hh; rw [hh] at hnl; simp at hnl; omega)
  obtain ⟨i, z, hi, hsz, _⟩ := (hT e hke).info
  have hu := und_slice hT hk
  have hn : (news.take (min xs.length len)).length = min xs.length len := by rw [List.length_take]; omega
  dsimp only at h6 h7 q4 q5 hown
  have hfit : o' + off * 1 + (news.take (min xs.length len)).length ≤ cc.size := by rw [hn]; omega
  have hrun := run_copy_O P w t tx ty e b' (o' + off * 1) len cap ⟨bx, ox, none⟩ xs.length capx cc e' (news.take (min xs.length len)) hu (by rw [hi]; simpa [hsz] using hs1) h6 qfr hn
    (fun j v hj => by
      rw [List.getElem?_take] at hj
      split at hj
      · rw [add_none]; exact hcell j v hj
      · cases hj) hfit (fun v hv => hrn.2.2.1 v (List.mem_of_mem_take hv))
  rw [hn] at hrun hfit
  have hsz2 : (cc.toList.take (o' + off * 1) ++ news.take (min xs.length len) ++ cc.toList.drop (o' + off * 1 + min xs.length len)).toArray.size = cc.size := by
    rw [List.size_toArray, List.length_append, List.length_append, List.length_take, List.length_drop, Array.length_toList, hn]
    omega
  have g := grow_setRow (m := m) (F := F) h6 hsz2 hown.1
  refine ⟨_, _, hrun, h.write (x := ⟨b', o', none⟩) hd (hst b _ hb) h3 h6 hsz2 (.fz (.int _ _)) ?_⟩
  have hxl : (xs.take len).length = min xs.length len := by rw [List.length_take]; omega
  have htl : (es.take off).length = off := by rw [List.length_take]; omega
  refine ⟨fun el hel => ?_, by rw [List.length_append, List.length_append, hxl, htl, List.length_drop]; omega, .inr ⟨b', o', _, e', _, rfl, setRow_heap w b' cc _ e' _ h6, by rw [hsz2]; exact qfr, ?_, fun i1 j1 el c hi1 hj1 => ?_⟩⟩
  · rcases List.mem_append.1 hel with hel | hel
    · exact q1 el (List.mem_of_mem_take hel)
    · rcases List.mem_append.1 hel with hel | hel
      · exact hrn.2.1 el (List.mem_of_mem_take hel)
      · exact q1 el (List.mem_of_mem_drop hel)
  · rw [hsz2, List.length_append, List.length_append, hxl, htl, List.length_drop]
    omega
  · have key := get_mid cc.toList (news.take (min xs.length len)) (o' + off * 1) (by rw [hn, Array.length_toList]; omega) (o' + i1 * 1 + j1)
    rw [hn] at key
    have hgo : ∀ v, (if o' + i1 * 1 + j1 < o' + off * 1 then cc.toList[o' + i1 * 1 + j1]? else if o' + i1 * 1 + j1 < o' + off * 1 + min xs.length len then (news.take (min xs.length len))[o' + i1 * 1 + j1 - (o' + off * 1)]? else cc.toList[o' + i1 * 1 + j1]?) = some v → v.oneCell' = true → Rep F w m c v →
        ∃ v, (cc.toList.take (o' + off * 1) ++ news.take (min xs.length len) ++ cc.toList.drop (o' + off * 1 + min xs.length len)).toArray[o' + i1 * 1 + j1]? = some v ∧ v.oneCell' = true ∧ Rep F (w.setRow b' (cc.toList.take (o' + off * 1) ++ news.take (min xs.length len) ++ cc.toList.drop (o' + off * 1 + min xs.length len)).toArray) m c v := by
      intro v hv h1 h2
      refine ⟨v, ?_, h1, h2.mono g⟩
      rw [List.getElem?_toArray, key]
      exact hv
    by_cases c1 : i1 < off
    · rw [List.getElem?_append_left (by omega), List.getElem?_take, if_pos c1] at hi1
      have hj0 : j1 < 1 := by have := (List.getElem?_eq_some_iff.1 hj1).1; rwa [q1 el (List.mem_of_getElem? hi1)] at this
      obtain ⟨v, p1, p2, p3⟩ := q5 i1 j1 el c hi1 hj1
      exact hgo v (by rw [if_pos (by omega)]; simpa using p1) p2 p3
    · rw [List.getElem?_append_right (by omega), htl] at hi1
      by_cases c2 : i1 < off + min xs.length len
      · rw [List.getElem?_append_left (by omega), List.getElem?_take, if_pos (by omega)] at hi1
        have hj0 : j1 < 1 := by have := (List.getElem?_eq_some_iff.1 hj1).1; rwa [hrn.2.1 el (List.mem_of_getElem? hi1)] at this
        obtain ⟨v, p1, p2⟩ := hrn.2.2.2 (i1 - off) j1 el c hi1 hj1
        refine hgo v ?_ (hrn.2.2.1 v (List.mem_of_getElem? p1)) p2
        rw [if_neg (by omega), if_pos (by omega), List.getElem?_take, if_pos (by omega), ← p1]
        congr 1
        omega
      · rw [List.getElem?_append_right (by omega), hxl, List.getElem?_drop] at hi1
        have e1 : off + min xs.length len + (i1 - off - min xs.length len) = i1 := by omega
        rw [e1] at hi1
        have hj0 : j1 < 1 := by have := (List.getElem?_eq_some_iff.1 hj1).1; rwa [q1 el (List.mem_of_getElem? hi1)] at this
        obtain ⟨v, p1, p2, p3⟩ := q5 i1 j1 el c hi1 hj1
        exact hgo v (by rw [if_neg (by omega), if_neg (by omega)]; simpa using p1) p2 p3

/-- A block of an id is put anew in whatever way. -/
theorem SimW.touch (h : SimW B A a w F m) {d : Option Tmp} {pv : PV} {v : Value} {b : Nat} {k0 k : Blk} {x : Addr} {w' : World} {cur cs : Array Value} {e : TypeId} {fr fr' : Nat × Nat} (hd : A.fits d) (hb : A.st b = some k0) (hx : m b = some (some x))
    (hg : w.heap[x.block]? = some (Obj.cells cur e fr)) (hg' : w'.heap[x.block]? = some (Obj.cells cs e fr')) (hs : cs.size = cur.size) (ho' : ∀ k, k ≠ x.block → w'.heap[k]? = w.heap[k]?) (hsz : w'.heap.size = w.heap.size)
    (hos : w'.os = w.os ∧ w'.tape = w.tape ∧ w'.output = w.output)
    (hv : Rep F w' m pv v) (hk : BlkOk F w' m (some x) k) {u : Nat → Prop} :
    SimW B (((A.eff [] [(b, k)]).use u).put d pv) (a.put d v) w' F m := by
  have ho := h.own b k0 x hb hx
  have g : Grow F w m F w' m := ⟨fun _ h => h, fun y hy => ho' y (by rintro rfl; exact ho.1 hy), fun _ _ h => h, fun y c e2 fr2 hy => by
    by_cases hyk : y = x.block
    · subst hyk; rw [hg] at hy; cases hy; exact ⟨cs, fr', hg', hs⟩
    · exact ⟨c, fr2, by rw [ho' y hyk]; exact hy, rfl⟩⟩
  have hst : (((A.eff [] [(b, k)]).use u).put d pv).st = fun b' => if b' = b then some k else A.st b' := by
    funext b'
    have : (((A.eff [] [(b, k)]).use u).put d pv).st b' = (A.eff [] [(b, k)]).st b' := by cases d <;> rfl
    rw [this]
    simp only [AF.eff, List.lookup]
    by_cases hb : b' = b
    · subst hb; simp
    · have : (b' == b) = false := by simpa using hb
      simp [this, hb]
  have hus : (((A.eff [] [(b, k)]).use u).put d pv).used = fun b => A.used b ∨ u b := by cases d <;> rfl
  have key : ∀ b' k', A.st b' = some k' → b' ≠ b → ∀ x', m b' = some (some x') → x'.block ≠ x.block := fun b' k' h1 h2 x' h3 => h.apart b' b k' k0 x' x h1 hb h2 h3 hx
  refine h.step hd g hv (by cases d <;> rfl) (by cases d <;> rfl) (fun b' k' hb' => ?_) (fun b1 b2 k1 k2 x1 x2 h1 h2 hne hx1 hx2 => ?_) (fun b' hb' => by rw [hus]; exact .inl (h.used b' hb')) (fun y hy => by rw [hsz]; exact h.fz y hy)
    ⟨hos.1.trans h.wr.os, hos.2.1.trans h.wr.tape, hos.2.2.trans h.wr.output, by rw [hsz]; exact h.wr.size, fun y hy hyb => by
      rw [ho' y]
      · exact h.wr.block y hy hyb
      · rintro rfl
        rcases ho.2 with hq | hq
        · omega
        · exact hyb hq⟩
  · rw [hst] at hb'
    dsimp only at hb'
    split at hb'
    · rename_i e'
      subst e'
      cases hb'
      exact .inr ⟨some x, hx, hk, fun y hy => by cases hy; exact ho⟩
    · rename_i e'
      exact .inl ⟨hb', fun y hy => ⟨ho' _ (key b' k' hb' e' y hy), (h.own b' k' y hb' hy).1⟩⟩
  · rw [hst] at h1 h2
    dsimp only at h1 h2
    have e1 : ∃ k', A.st b1 = some k' := by
      split at h1
      · rename_i e; subst e; exact ⟨_, hb⟩
      · exact ⟨_, h1⟩
    have e2 : ∃ k', A.st b2 = some k' := by
      split at h2
      · rename_i e; subst e; exact ⟨_, hb⟩
      · exact ⟨_, h2⟩
    obtain ⟨k1', e1⟩ := e1
    obtain ⟨k2', e2⟩ := e2
    exact h.apart b1 b2 _ _ x1 x2 e1 e2 hne hx1 hx2

/-- Bytes turned to the same type: the row is marked, behind its last cell. -/
def fConvS (T : Tab) (st : St) (src dst : TypeId) (x : PV) : Option R :=
  match (T src).k, (T dst).k, x with
  | .slice _, .slice e, .own b s off len => match (T e).k, st b with
    | .int .u8, some (.row s' es) => some { g := src = dst ∧ 0 < len, v := .own b s off len, puts := [(b, .row s' es)] }
    | _, _ => none
  | _, _, _ => none

theorem fConvS_ok (hT : TabOk P T) (h : SimW B A a w F m) {st : St} (hst : ∀ b k, st b = some k → A.st b = some k) {src dst : TypeId} {x : PV} {r : R} (hr : fConvS T st src dst x = some r) (hg : r.g) {vx : Value} (hx : Rep F w m x vx) (hd : A.fits d) :
    ∃ v w', (convert src dst vx).run P w = .ok v w' ∧ SimW B (((A.eff r.dels r.puts).use u).put d r.v) (a.put d v) w' F m := by
  unfold fConvS at hr
  split at hr
  case h_2 => cases hr
  rename_i e0 e b s off len hk1 hk2
  split at hr
  case h_2 => cases hr
  rename_i s' es hk3 hb
  cases hr
  obtain ⟨rfl, hlen⟩ := hg
  rw [hk1] at hk2
  cases hk2
  obtain ⟨cap, a', rfl, hlc, hl47, hcc⟩ := hx.own_inv
  obtain ⟨xa, cc, e', fr, h3, h4, rfl, h6, h7⟩ := hcc (by omega)
  obtain ⟨ao, h1, h2⟩ := h.blk b _ (hst b _ hb)
  rw [h3] at h1
  cases h1
  have hu := und_slice hT hk1
  have hui := und_int hT hk3
  have hsh : w.shape? xa.block = some (e', cc.size) := by simp [World.shape?, h6]
  generalize hw' : w.freeze ⟨xa.block, cc.size, none⟩ 1 = w'
  have hlt : xa.block < w.heap.size := (Array.getElem?_eq_some_iff.1 h6).1
  obtain ⟨fr', hfr', hat⟩ : ∃ fr' : Nat × Nat, (frOk cc.size fr → frOk cc.size fr') ∧ w'.heap[xa.block]? = some (Obj.cells cc e' fr') := by
    obtain ⟨lo, hi⟩ := fr
    refine ⟨if lo == hi then (cc.size, cc.size + 1) else (min lo cc.size, max hi (cc.size + 1)), fun hq => ?_, ?_⟩
    · split
      · exact .inr (Nat.le_refl _)
      · rename_i hne
        rcases hq with hq | hq
        · simp at hne; exact (hne hq).elim
        · exact .inr (by dsimp only at *; omega)
    · rw [← hw']
      simp [World.freeze, Array.getElem?_modify, h6]
  have hoth : ∀ k, k ≠ xa.block → w'.heap[k]? = w.heap[k]? := fun k hk => by
    rw [← hw']
    simp [World.freeze, Array.getElem?_modify, Ne.symm hk]
  have hszw : w'.heap.size = w.heap.size := by rw [← hw']; simp [World.freeze]
  have ho := h.own b _ xa (hst b _ hb) h3
  have g : Grow F w m F w' m := ⟨fun _ h => h, fun y hy => hoth y (by rintro rfl; exact ho.1 hy), fun _ _ h => h, fun y c e2 fr2 hy => by
    by_cases hyk : y = xa.block
    · subst hyk; rw [h6] at hy; cases hy; exact ⟨cc, fr', hat, rfl⟩
    · exact ⟨c, fr2, by rw [hoth y hyk]; exact hy, rfl⟩⟩
  refine ⟨_, w', ?_, h.touch hd (hst b _ hb) h3 h6 hat rfl hoth hszw ⟨by rw [← hw']; rfl, by rw [← hw']; rfl, by rw [← hw']; rfl⟩ (hx.mono g) ?_⟩
  · simp [convert, run_underlying hu, run_underlying hui, markStringish, hsh]
    exact hw'
  · obtain ⟨q1, q0, ⟨q2, _⟩ | ⟨b', o', vs, e'', fr2, hxe, q3, qfr, q4, q5⟩⟩ := h2
    · cases q2
    · cases hxe
      rw [h6] at q3
      cases q3
      exact ⟨q1, q0, .inr ⟨b', o', cc, e', fr', rfl, hat, hfr' qfr, q4, fun i j el c hi hj => by
        obtain ⟨v, r1, r2, r3⟩ := q5 i j el c hi hj
        exact ⟨v, r1, r2, r3.mono g⟩⟩⟩

end
end Go.Proofs.YtoifmpiikopelaaFw
