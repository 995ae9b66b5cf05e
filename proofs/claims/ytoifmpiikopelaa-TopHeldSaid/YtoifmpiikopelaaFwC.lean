/-
  An abstract walk, part C: a row that goes on under a new id; a nil row; lists of cells.
-/
import Derived.Test.YtoifmpiikopelaaFwB
namespace Go.Proofs.YtoifmpiikopelaaFw
open Go
set_option linter.unusedVariables false
set_option linter.unusedSimpArgs false

section
variable {B : Base} {A : AF} {a : Act} {w : World} {F : Nat → Prop} {m : Ids}

theorem st_eff_put (A : AF) (dels : List Nat) (c : Nat) (k : Blk) (u : Nat → Prop) (d : Option Tmp) (pv : PV) :
    (((A.eff dels [(c, k)]).use u).put d pv).st = fun b => if b = c then some k else if b ∈ dels then none else A.st b := by
  funext b
  have : (((A.eff dels [(c, k)]).use u).put d pv).st b = (A.eff dels [(c, k)]).st b := by cases d <;> rfl
  rw [this]
  simp only [AF.eff, List.lookup]
  by_cases hb : b = c
  · subst hb; simp
  · have : (b == c) = false := by simpa using hb
    simp [this, hb]

theorem grow_upd {c : Nat} {x : Option Addr} (hc : m c = none) : Grow F w m F w (updI m c x) where
  sub := fun _ h => h
  same := fun _ _ => rfl
  ids := fun b y hb => by
    unfold updI
    rw [if_neg]
    · exact hb
    · intro e; subst e; rw [hc] at hb; cases hb
  size := fun _ c _ fr h => ⟨c, fr, h, rfl⟩

/-- An id without a block: a nil row. -/
theorem SimW.nilId (h : SimW B A a w F m) {d : Option Tmp} {pv : PV} {v : Value} {s c : Nat} {dels : List Nat} {u : Nat → Prop} (hd : A.fits d) (hc : ¬ A.used c) (huc : u c)
    (hv : Rep F w (updI m c none) pv v) :
    SimW B (((A.eff dels [(c, .row s [])]).use u).put d pv) (a.put d v) w F (updI m c none) := by
  have hmc : m c = none := Classical.byContradiction fun e => hc (h.used c e)
  have g := grow_upd (F := F) (w := w) (x := none) hmc
  have hst := st_eff_put A dels c (.row s []) u d pv
  have hus : (((A.eff dels [(c, .row s [])]).use u).put d pv).used = fun b => A.used b ∨ u b := by cases d <;> rfl
  refine h.step hd g hv (by cases d <;> rfl) (by cases d <;> rfl) (fun b k' hb => ?_) (fun b b' k1 k2 x x' hb hb' hne hx hx' => ?_) (fun b hb => ?_) h.fz h.wr
  · rw [hst] at hb
    dsimp only at hb
    split at hb
    · rename_i e
      subst e
      cases hb
      exact .inr ⟨none, by simp [updI], ⟨by simp, by simp, .inl ⟨rfl, rfl⟩⟩, fun x hx => by cases hx⟩
    · split at hb
      · cases hb
      · exact .inl ⟨hb, fun x hx => ⟨rfl, (h.own b k' x hb hx).1⟩⟩
  · rw [hst] at hb hb'
    dsimp only at hb hb'
    unfold updI at hx hx'
    split at hx
    · cases hx
    · rename_i e1
      split at hx'
      · cases hx'
      · rename_i e2
        rw [if_neg e1] at hb
        rw [if_neg e2] at hb'
        split at hb
        · cases hb
        · split at hb'
          · cases hb'
          · exact h.apart b b' k1 k2 x x' hb hb' hne hx hx'
  · rw [hus]
    unfold updI at hb
    split at hb
    · rename_i e; subst e; exact .inr huc
    · exact .inl (h.used b hb)

/-- A row is written, and goes on under a new id, from another place of its block on. -/
theorem SimW.move (h : SimW B A a w F m) {d : Option Tmp} {pv : PV} {v : Value} {b c off : Nat} {k0 k : Blk} {x : Addr} {cur cs : Array Value} {e : TypeId} {fr : Nat × Nat} {u : Nat → Prop} {dels : List Nat} (hd : A.fits d) (hb : A.st b = some k0) (hx : m b = some (some x))
    (hc : ¬ A.used c) (huc : u c) (hdel : b ∈ dels)
    (hg : w.heap[x.block]? = some (Obj.cells cur e fr)) (hs : cs.size = cur.size)
    (hv : Rep F (w.setRow x.block cs) (updI m c (some ⟨x.block, off, none⟩)) pv v) (hk : BlkOk F (w.setRow x.block cs) (updI m c (some ⟨x.block, off, none⟩)) (some ⟨x.block, off, none⟩) k) :
    SimW B (((A.eff dels [(c, k)]).use u).put d pv) (a.put d v) (w.setRow x.block cs) F (updI m c (some ⟨x.block, off, none⟩)) := by
  have ho := h.own b k0 x hb hx
  have hmc : m c = none := Classical.byContradiction fun e => hc (h.used c e)
  have hcb : c ≠ b := by rintro rfl; rw [hmc] at hx; cases hx
  have g := (grow_setRow (m := m) hg hs ho.1).trans (grow_upd (F := F) (w := w.setRow x.block cs) (x := some ⟨x.block, off, none⟩) hmc)
  have hst := st_eff_put A dels c k u d pv
  have hus : (((A.eff dels [(c, k)]).use u).put d pv).used = fun b => A.used b ∨ u b := by cases d <;> rfl
  have key : ∀ b' k', A.st b' = some k' → b' ≠ b → ∀ x', m b' = some (some x') → x'.block ≠ x.block := fun b' k' h1 h2 x' h3 => h.apart b' b k' k0 x' x h1 hb h2 h3 hx
  refine h.step hd g hv (by cases d <;> rfl) (by cases d <;> rfl) (fun b' k' hb' => ?_) (fun b1 b2 k1 k2 x1 x2 h1 h2 hne hx1 hx2 => ?_) (fun b' hb' => ?_) (fun y hy => by simp; exact h.fz y hy) (kept_setRow h.wr cs ho.2)
  · rw [hst] at hb'
    dsimp only at hb'
    split at hb'
    · rename_i e'
      subst e'
      cases hb'
      refine .inr ⟨_, by simp [updI], hk, fun y hy => ?_⟩
      cases hy
      exact ho
    · split at hb'
      · cases hb'
      · rename_i e1 e2
        have hne : b' ≠ b := by rintro rfl; exact e2 hdel
        exact .inl ⟨hb', fun y hy => ⟨setRow_other w _ _ cs (key b' k' hb' hne y hy), (h.own b' k' y hb' hy).1⟩⟩
  · rw [hst] at h1 h2
    dsimp only at h1 h2
    unfold updI at hx1 hx2
    by_cases e1 : b1 = c
    · subst e1
      rw [if_pos rfl] at hx1
      rw [if_neg (fun e => hne e.symm)] at h2 hx2
      split at h2
      · cases h2
      · rename_i e2
        have hne' : b2 ≠ b := by rintro rfl; exact e2 hdel
        have := key b2 k2 h2 hne' x2 hx2
        cases hx1
        exact fun e => this e.symm
    · rw [if_neg e1] at h1 hx1
      split at h1
      · cases h1
      · rename_i e1'
        by_cases e2 : b2 = c
        · subst e2
          rw [if_pos rfl] at hx2
          have hne' : b1 ≠ b := by rintro rfl; exact e1' hdel
          have := key b1 k1 h1 hne' x1 hx1
          cases hx2
          exact this
        · rw [if_neg e2] at h2 hx2
          split at h2
          · cases h2
          · exact h.apart b1 b2 k1 k2 x1 x2 h1 h2 hne hx1 hx2
  · rw [hus]
    unfold updI at hb'
    split at hb'
    · rename_i e; subst e; exact .inr huc
    · exact .inl (h.used b' hb')

end

/-! ### Cells of values -/

/-- A list of abstract cells stands for a list of values, one cell each. -/
def RepL (F : Nat → Prop) (w : World) (m : Ids) (cs : List PV) (vs : List Value) : Prop :=
  vs.length = cs.length ∧ ∀ (i : Nat) (c : PV) (v : Value), cs[i]? = some c → vs[i]? = some v → v.oneCell' = true ∧ Rep F w m c v

theorem RepL.mono {F F' : Nat → Prop} {w w' : World} {m m' : Ids} (g : Grow F w m F' w' m') {cs : List PV} {vs : List Value} (h : RepL F w m cs vs) : RepL F' w' m' cs vs :=
  ⟨h.1, fun i c v hc hv => ⟨(h.2 i c v hc hv).1, (h.2 i c v hc hv).2.mono g⟩⟩

theorem RepL.one {F : Nat → Prop} {w : World} {m : Ids} {cs : List PV} {vs : List Value} (h : RepL F w m cs vs) : ∀ v ∈ vs, v.oneCell' = true := by
  intro v hv
  obtain ⟨i, hi, e⟩ := List.mem_iff_getElem.1 hv
  have hi' : i < cs.length := by rw [← h.1]; exact hi
  exact (h.2 i cs[i] v (List.getElem?_eq_getElem hi') (by rw [← e]; exact List.getElem?_eq_getElem hi)).1

/-- Is the value no tuple, no unknown? Then its cells can be stored. -/
def PV.celled : PV → Bool
  | .tup _ | .any | .und => false
  | _ => true

theorem Rep.cells {F : Nat → Prop} {w : World} {m : Ids} {p : PV} {v : Value} (h : Rep F w m p v) (hp : p.celled = true) : RepL F w m p.cells v.cells.toList := by
  by_cases ha : ∃ cs, p = .agg cs
  · obtain ⟨cs, rfl⟩ := ha
    obtain ⟨vs, rfl, h1, h2, h3⟩ := h.agg_inv
    refine ⟨by simpa [PV.cells, Value.cells] using h1, fun i c v hc hv => ?_⟩
    have hv' : vs[i]? = some v := by simpa [Value.cells] using hv
    exact ⟨h2 i v hv', h3 i c v hc hv'⟩
  · have ho : p.one = true := by cases p <;> first | rfl | (simp [PV.celled] at hp; done) | exact (ha ⟨_, rfl⟩).elim
    have h1 := h.one ho
    have hc : p.cells = [p] := by cases p <;> first | rfl | exact (ha ⟨_, rfl⟩).elim
    rw [oneCell_cells h1, hc]
    refine ⟨rfl, fun i c u hc hu => ?_⟩
    cases i with
    | zero => simp at hc hu; subst hc; subst hu; exact ⟨h1, h⟩
    | succ i => simp at hc

theorem RepL.toAgg {F : Nat → Prop} {w : World} {m : Ids} {cs : List PV} {vs : List Value} (h : RepL F w m cs vs) : Rep F w m (.agg cs) (.agg vs.toArray) :=
  .agg cs vs.toArray (by simpa using h.1) (fun i v hv => h.one v (List.mem_of_getElem? (by simpa using hv))) fun i c v hc hv => (h.2 i c v hc (by simpa using hv)).2

theorem RepL.get {F : Nat → Prop} {w : World} {m : Ids} {cs : List PV} {vs : List Value} (h : RepL F w m cs vs) {i : Nat} (hi : i < cs.length) : ∃ v, vs[i]? = some v ∧ v.oneCell' = true ∧ Rep F w m (cs.getD i .any) v := by
  have hi' : i < vs.length := by rw [h.1]; exact hi
  refine ⟨vs[i], List.getElem?_eq_getElem hi', ?_⟩
  have := h.2 i cs[i] vs[i] (List.getElem?_eq_getElem hi) (List.getElem?_eq_getElem hi')
  simpa [List.getD, List.getElem?_eq_getElem hi] using this

theorem RepL.sub {F : Nat → Prop} {w : World} {m : Ids} {cs : List PV} {vs : List Value} (h : RepL F w m cs vs) (o n : Nat) : RepL F w m ((cs.drop o).take n) ((vs.drop o).take n) := by
  refine ⟨by simp [h.1], fun i c v hc hv => ?_⟩
  rw [List.getElem?_take] at hc hv
  split at hc
  · rename_i hi
    rw [if_pos hi] at hv
    rw [List.getElem?_drop] at hc hv
    exact h.2 _ c v hc hv
  · cases hc

/-- Cells put over cells. -/
def splice (cs : List PV) (o : Nat) (ds : List PV) : List PV := cs.take o ++ ds ++ cs.drop (o + ds.length)

theorem RepL.append {F : Nat → Prop} {w : World} {m : Ids} {cs ds : List PV} {vs us : List Value} (h : RepL F w m cs vs) (k : RepL F w m ds us) : RepL F w m (cs ++ ds) (vs ++ us) := by
  refine ⟨by simp [h.1, k.1], fun i c v hc hv => ?_⟩
  by_cases hi : i < cs.length
  · rw [List.getElem?_append_left hi] at hc
    rw [List.getElem?_append_left (by rw [h.1]; exact hi)] at hv
    exact h.2 i c v hc hv
  · rw [List.getElem?_append_right (by omega)] at hc
    rw [List.getElem?_append_right (by rw [h.1]; omega), h.1] at hv
    exact k.2 _ c v hc hv

theorem RepL.take {F : Nat → Prop} {w : World} {m : Ids} {cs : List PV} {vs : List Value} (h : RepL F w m cs vs) (n : Nat) : RepL F w m (cs.take n) (vs.take n) := by
  have := h.sub 0 n
  simpa using this

theorem RepL.drop {F : Nat → Prop} {w : World} {m : Ids} {cs : List PV} {vs : List Value} (h : RepL F w m cs vs) (n : Nat) : RepL F w m (cs.drop n) (vs.drop n) :=
  ⟨by simp [h.1], fun i c v hc hv => by rw [List.getElem?_drop] at hc hv; exact h.2 _ c v hc hv⟩

theorem RepL.splice {F : Nat → Prop} {w : World} {m : Ids} {cs ds : List PV} {vs us : List Value} (h : RepL F w m cs vs) (k : RepL F w m ds us) (o : Nat) :
    RepL F w m (splice cs o ds) (vs.take o ++ us ++ vs.drop (o + us.length)) := by
  unfold Go.Proofs.YtoifmpiikopelaaFw.splice
  rw [k.1]
  exact ((h.take o).append k).append (h.drop _)

end Go.Proofs.YtoifmpiikopelaaFw
