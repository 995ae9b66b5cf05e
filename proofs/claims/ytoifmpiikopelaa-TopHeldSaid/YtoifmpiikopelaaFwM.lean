/-
  An abstract walk, part M: ids renamed and forgotten; what is frozen; views of rows as frozen slices.
-/
import Derived.Test.YtoifmpiikopelaaFwL3
namespace Go.Proofs.YtoifmpiikopelaaFw
open Go
set_option linter.unusedVariables false
set_option linter.unusedSimpArgs false

mutual
/-- Ids renamed. -/
def PV.ren (r : Nat → Nat) : PV → PV
  | .ptr b off => .ptr (r b) off
  | .rp b s i off => .rp (r b) s i off
  | .own b s off len => .own (r b) s off len
  | .ownc b s off len cap => .ownc (r b) s off len cap
  | .val x => .val x
  | .agg cs => .agg (renL r cs)
  | .tup cs => .tup (renL r cs)
  | .fn f first cap => .fn f (renL r first) (renL r cap)
  | .bool b => .bool b
  | .int k n => .int k n
  | .str s => .str s
  | .nilp => .nilp
  | .nilf => .nilf
  | .und => .und
  | .sl t s es => .sl t s es
  | .pf cs => .pf cs
  | .any => .any
def renL (r : Nat → Nat) : List PV → List PV
  | [] => []
  | c :: cs => c.ren r :: renL r cs
end

mutual
/-- Each id of the value is of S. -/
def PV.ok (S : Nat → Prop) : PV → Prop
  | .ptr b _ => S b
  | .rp b _ _ _ => S b
  | .own b _ _ _ => S b
  | .ownc b _ _ _ _ => S b
  | .val _ => True
  | .agg cs => okL S cs
  | .tup cs => okL S cs
  | .fn _ first cap => okL S first ∧ okL S cap
  | .bool _ => True
  | .int _ _ => True
  | .str _ => True
  | .nilp => True
  | .nilf => True
  | .und => True
  | .sl _ _ _ => True
  | .pf _ => True
  | .any => True
def okL (S : Nat → Prop) : List PV → Prop
  | [] => True
  | c :: cs => c.ok S ∧ okL S cs
end

mutual
/-- No id is in it, and all is known. -/
def PV.fz : PV → Bool
  | .ptr _ _ => false
  | .rp _ _ _ _ => false
  | .own _ _ _ _ => false
  | .ownc _ _ _ _ _ => false
  | .val _ => true
  | .agg cs => fzL cs
  | .tup cs => fzL cs
  | .fn _ first cap => first.isEmpty && cap.isEmpty
  | .any => false
  | .bool _ => true
  | .int _ _ => true
  | .str _ => true
  | .nilp => true
  | .nilf => true
  | .und => true
  | .sl _ _ _ => true
  | .pf _ => true
def fzL : List PV → Bool
  | [] => true
  | c :: cs => c.fz && fzL cs
end

theorem renL_map (r : Nat → Nat) : ∀ cs, renL r cs = cs.map (PV.ren r)
  | [] => by rw [renL]; rfl
  | c :: cs => by rw [renL, renL_map r cs]; rfl
theorem okL_iff (S : Nat → Prop) : ∀ cs, okL S cs ↔ ∀ c ∈ cs, c.ok S
  | [] => by rw [okL]; simp
  | c :: cs => by rw [okL, okL_iff S cs]; simp
theorem fzL_iff : ∀ cs, fzL cs = true ↔ ∀ c ∈ cs, c.fz = true
  | [] => by rw [fzL]; simp
  | c :: cs => by rw [fzL, Bool.and_eq_true, fzL_iff cs]; simp

def Blk.ren (r : Nat → Nat) : Blk → Blk
  | .box cs => .box (renL r cs)
  | .row s es => .row s (es.map (renL r))

def Blk.ok (S : Nat → Prop) : Blk → Prop
  | .box cs => okL S cs
  | .row _ es => ∀ e ∈ es, okL S e

section
variable {F : Nat → Prop} {w : World} {m m' : Ids}

theorem RF.unren {r : Nat → Nat} {q : PV} {v : Value} (h : RF F w q v) : ∀ p : PV, p.ren r = q → RF F w p v := by
  induction h with
  | bool b => intro p hp; cases p <;> simp [PV.ren] at hp; subst hp; exact .bool _
  | int k n => intro p hp; cases p <;> simp [PV.ren] at hp; obtain ⟨rfl, rfl⟩ := hp; exact .int _ _
  | str s => intro p hp; cases p <;> simp [PV.ren] at hp; subst hp; exact .str _
  | nilp => intro p hp; cases p <;> simp [PV.ren] at hp; exact .nilp
  | nilf => intro p hp; cases p <;> simp [PV.ren] at hp; exact .nilf
  | und => intro p hp; cases p <;> simp [PV.ren] at hp; exact .und
  | agg cs vs hn h1 h ih =>
    intro p hp
    cases p <;> simp [PV.ren] at hp
    subst hp
    rw [renL_map] at *
    refine .agg _ vs (by simpa using hn) h1 fun i c v hc hv => ih i (c.ren r) v (by rw [List.getElem?_map, hc]; rfl) hv c rfl
  | tup cs vs hn h ih =>
    intro p hp
    cases p <;> simp [PV.ren] at hp
    subst hp
    rw [renL_map] at *
    refine .tup _ vs (by simpa using hn) fun i c v hc hv => ih i (c.ren r) v (by rw [List.getElem?_map, hc]; rfl) hv c rfl
  | sl t s es a cap val hl ht hs hb hm h ih => intro p hp; cases p <;> simp [PV.ren] at hp; obtain ⟨rfl, rfl, rfl⟩ := hp; exact .sl _ _ _ a cap val hl ht hs hb hm h
  | pf cs b o val hF hm h ih => intro p hp; cases p <;> simp [PV.ren] at hp; subst hp; exact .pf _ b o val hF hm h
  | fn f =>
    intro p hp
    cases p <;> simp [PV.ren, renL_map] at hp
    obtain ⟨rfl, rfl, rfl⟩ := hp
    exact .fn _
  | val x v h => intro p hp; cases p <;> simp [PV.ren] at hp; subst hp; exact .val _ _ h

/-- From renamed ids back: the new ids stand for what the renamed ones stood for. -/
theorem Rep.unren {r : Nat → Nat} {S : Nat → Prop} {q : PV} {v : Value} (h : Rep F w m q v) (hm : ∀ b, S b → m' b = m (r b)) : ∀ p : PV, p.ren r = q → p.ok S → Rep F w m' p v := by
  induction h with
  | fz h => intro p hp _; exact .fz (h.unren p hp)
  | any v => intro p hp _; cases p <;> simp [PV.ren] at hp; exact .any _
  | agg cs vs hn h1 h ih =>
    intro p hp ho
    cases p <;> simp [PV.ren] at hp
    subst hp
    rw [PV.ok, okL_iff] at ho
    rw [renL_map] at *
    refine .agg _ vs (by simpa using hn) h1 fun i c v hc hv => ih i (c.ren r) v (by rw [List.getElem?_map, hc]; rfl) hv c rfl (ho c (List.mem_of_getElem? hc))
  | tup cs vs hn h ih =>
    intro p hp ho
    cases p <;> simp [PV.ren] at hp
    subst hp
    rw [PV.ok, okL_iff] at ho
    rw [renL_map] at *
    refine .tup _ vs (by simpa using hn) fun i c v hc hv => ih i (c.ren r) v (by rw [List.getElem?_map, hc]; rfl) hv c rfl (ho c (List.mem_of_getElem? hc))
  | ptr b off a hb hp' =>
    intro p hp ho
    cases p <;> simp [PV.ren] at hp
    obtain ⟨rfl, rfl⟩ := hp
    rw [PV.ok] at ho
    exact .ptr _ _ a (by rw [hm _ ho]; exact hb) hp'
  | rp b s i off a hb hp' =>
    intro p hp ho
    cases p <;> simp [PV.ren] at hp
    obtain ⟨rfl, rfl, rfl, rfl⟩ := hp
    rw [PV.ok] at ho
    exact .rp _ _ _ _ a (by rw [hm _ ho]; exact hb) hp'
  | own b s off len cap a' hl hb hc =>
    intro p hp ho
    cases p <;> simp [PV.ren] at hp
    obtain ⟨rfl, rfl, rfl, rfl⟩ := hp
    rw [PV.ok] at ho
    refine .own _ _ _ _ cap a' hl hb fun h0 => ?_
    obtain ⟨a, c, e, fr, h1, h2⟩ := hc h0
    exact ⟨a, c, e, fr, by rw [hm _ ho]; exact h1, h2⟩
  | ownc b s off len cap a' hl hb hc =>
    intro p hp ho
    cases p <;> simp [PV.ren] at hp
    obtain ⟨rfl, rfl, rfl, rfl, rfl⟩ := hp
    rw [PV.ok] at ho
    refine .ownc _ _ _ _ _ a' hl hb fun h0 => ?_
    obtain ⟨a, c, e, fr, h1, h2⟩ := hc h0
    exact ⟨a, c, e, fr, by rw [hm _ ho]; exact h1, h2⟩
  | fn f first cap vs us hn hk h hu ih1 ih2 =>
    intro p hp ho
    cases p <;> simp [PV.ren] at hp
    obtain ⟨rfl, rfl, rfl⟩ := hp
    rw [PV.ok, okL_iff, okL_iff] at ho
    rw [renL_map] at *
    refine .fn _ _ _ vs us (by simpa using hn) (by simpa using hk) (fun i c v hc hv => ih1 i (c.ren r) v (by rw [List.getElem?_map, hc]; rfl) hv c rfl (ho.1 c (List.mem_of_getElem? hc)))
      fun i c v hc hv => ih2 i (c.ren r) v (by rw [List.getElem?_map, hc]; rfl) hv c rfl (ho.2 c (List.mem_of_getElem? hc))

theorem RF.ren {r : Nat → Nat} {q : PV} {v : Value} (h : RF F w q v) : q.ren r = q := by
  induction h with
  | agg cs vs hn h1 h ih =>
    rw [PV.ren, renL_map]
    congr 1
    refine (List.map_congr_left (g := id) fun c hc => ?_).trans (List.map_id _)
    obtain ⟨i, hi, e⟩ := List.mem_iff_getElem.1 hc
    exact ih i c vs[i] (by rw [List.getElem?_eq_getElem hi, e]) (Array.getElem?_eq_getElem (by omega))
  | tup cs vs hn h ih =>
    rw [PV.ren, renL_map]
    congr 1
    refine (List.map_congr_left (g := id) fun c hc => ?_).trans (List.map_id _)
    obtain ⟨i, hi, e⟩ := List.mem_iff_getElem.1 hc
    exact ih i c vs[i] (by rw [List.getElem?_eq_getElem hi, e]) (Array.getElem?_eq_getElem (by omega))
  | fn f => rw [PV.ren, renL]
  | _ => rw [PV.ren]

/-- Into renamed ids. -/
theorem Rep.ren {r : Nat → Nat} {S : Nat → Prop} {p : PV} {v : Value} (h : Rep F w m p v) (hm : ∀ b, S b → m' (r b) = m b) (ho : p.ok S) : Rep F w m' (p.ren r) v := by
  induction h with
  | fz h => rw [h.ren]; exact .fz h
  | any v => rw [PV.ren]; exact .any _
  | agg cs vs hn h1 h ih =>
    rw [PV.ok, okL_iff] at ho
    rw [PV.ren, renL_map]
    refine .agg _ vs (by simpa using hn) h1 fun i c v hc hv => ?_
    rw [List.getElem?_map, Option.map_eq_some_iff] at hc
    obtain ⟨c0, hc0, rfl⟩ := hc
    exact ih i c0 v hc0 hv (ho c0 (List.mem_of_getElem? hc0))
  | tup cs vs hn h ih =>
    rw [PV.ok, okL_iff] at ho
    rw [PV.ren, renL_map]
    refine .tup _ vs (by simpa using hn) fun i c v hc hv => ?_
    rw [List.getElem?_map, Option.map_eq_some_iff] at hc
    obtain ⟨c0, hc0, rfl⟩ := hc
    exact ih i c0 v hc0 hv (ho c0 (List.mem_of_getElem? hc0))
  | ptr b off a hb hp => rw [PV.ok] at ho; rw [PV.ren]; exact .ptr _ _ a (by rw [hm _ ho]; exact hb) hp
  | rp b s i off a hb hp => rw [PV.ok] at ho; rw [PV.ren]; exact .rp _ _ _ _ a (by rw [hm _ ho]; exact hb) hp
  | own b s off len cap a' hl hb hc =>
    rw [PV.ok] at ho
    rw [PV.ren]
    refine .own _ _ _ _ cap a' hl hb fun h0 => ?_
    obtain ⟨a, c, e, fr, h1, h2⟩ := hc h0
    exact ⟨a, c, e, fr, by rw [hm _ ho]; exact h1, h2⟩
  | ownc b s off len cap a' hl hb hc =>
    rw [PV.ok] at ho
    rw [PV.ren]
    refine .ownc _ _ _ _ _ a' hl hb fun h0 => ?_
    obtain ⟨a, c, e, fr, h1, h2⟩ := hc h0
    exact ⟨a, c, e, fr, by rw [hm _ ho]; exact h1, h2⟩
  | fn f first cap vs us hn hk h hu ih1 ih2 =>
    rw [PV.ok, okL_iff, okL_iff] at ho
    rw [PV.ren, renL_map, renL_map]
    refine .fn _ _ _ vs us (by simpa using hn) (by simpa using hk) (fun i c v hc hv => ?_) fun i c v hc hv => ?_
    · rw [List.getElem?_map, Option.map_eq_some_iff] at hc
      obtain ⟨c0, hc0, rfl⟩ := hc
      exact ih1 i c0 v hc0 hv (ho.1 c0 (List.mem_of_getElem? hc0))
    · rw [List.getElem?_map, Option.map_eq_some_iff] at hc
      obtain ⟨c0, hc0, rfl⟩ := hc
      exact ih2 i c0 v hc0 hv (ho.2 c0 (List.mem_of_getElem? hc0))

theorem BlkOk.unren {r : Nat → Nat} {S : Nat → Prop} {ao : Option Addr} {k : Blk} (h : BlkOk F w m ao (k.ren r)) (hm : ∀ b, S b → m' b = m (r b)) (ho : k.ok S) : BlkOk F w m' ao k := by
  cases k with
  | box cs =>
    obtain ⟨b, vs, e, rfl, h1, h2, h3⟩ := h
    rw [renL_map] at *
    rw [Blk.ok, okL_iff] at ho
    refine ⟨b, vs, e, rfl, h1, by simpa using h2, fun i c v hc hv => ?_⟩
    obtain ⟨h4, h5⟩ := h3 i (c.ren r) v (by rw [List.getElem?_map, hc]; rfl) hv
    exact ⟨h4, h5.unren hm c rfl (ho c (List.mem_of_getElem? hc))⟩
  | row s es =>
    obtain ⟨h1, hl, h2⟩ := h
    have h1' : ∀ e ∈ es, e.length = s := fun e he => by
      have := h1 (renL r e) (List.mem_map.2 ⟨e, he, rfl⟩)
      simpa [renL_map] using this
    refine ⟨h1', by simpa using hl, ?_⟩
    rcases h2 with ⟨h2, h3⟩ | ⟨b, o, vs, e, fr, rfl, h3, hfr, h4, h5⟩
    · exact .inl ⟨h2, by simpa using h3⟩
    · refine .inr ⟨b, o, vs, e, fr, rfl, h3, hfr, by simpa using h4, fun i j el c hi hj => ?_⟩
      obtain ⟨v, hv, h6, h7⟩ := h5 i j (renL r el) (c.ren r) (by rw [List.getElem?_map, hi]; rfl) (by rw [renL_map, List.getElem?_map, hj]; rfl)
      refine ⟨v, hv, h6, h7.unren hm c rfl ?_⟩
      exact (okL_iff S el).1 (ho el (List.mem_of_getElem? hi)) c (List.mem_of_getElem? hj)

theorem BlkOk.ren {r : Nat → Nat} {S : Nat → Prop} {ao : Option Addr} {k : Blk} (h : BlkOk F w m ao k) (hm : ∀ b, S b → m' (r b) = m b) (ho : k.ok S) : BlkOk F w m' ao (k.ren r) := by
  cases k with
  | box cs =>
    obtain ⟨b, vs, e, rfl, h1, h2, h3⟩ := h
    rw [Blk.ok, okL_iff] at ho
    refine ⟨b, vs, e, rfl, h1, by simpa [renL_map] using h2, fun i c v hc hv => ?_⟩
    rw [renL_map, List.getElem?_map, Option.map_eq_some_iff] at hc
    obtain ⟨c0, hc0, rfl⟩ := hc
    obtain ⟨h4, h5⟩ := h3 i c0 v hc0 hv
    exact ⟨h4, h5.ren hm (ho c0 (List.mem_of_getElem? hc0))⟩
  | row s es =>
    obtain ⟨h1, hl, h2⟩ := h
    refine ⟨fun e he => ?_, by simpa using hl, ?_⟩
    · obtain ⟨e0, he0, rfl⟩ := List.mem_map.1 he
      simpa [renL_map] using h1 e0 he0
    · rcases h2 with ⟨h2, h3⟩ | ⟨b, o, vs, e, fr, rfl, h3, hfr, h4, h5⟩
      · exact .inl ⟨h2, by simpa using h3⟩
      · refine .inr ⟨b, o, vs, e, fr, rfl, h3, hfr, by simpa using h4, fun i j el c hi hj => ?_⟩
        rw [List.getElem?_map, Option.map_eq_some_iff] at hi
        obtain ⟨el0, hel0, rfl⟩ := hi
        rw [renL_map, List.getElem?_map, Option.map_eq_some_iff] at hj
        obtain ⟨c0, hc0, rfl⟩ := hj
        obtain ⟨v, hv, h6, h7⟩ := h5 i j el0 c0 hel0 hc0
        exact ⟨v, hv, h6, h7.ren hm ((okL_iff S el0).1 (ho el0 (List.mem_of_getElem? hel0)) c0 (List.mem_of_getElem? hc0))⟩

theorem Rep.rf {p : PV} {v : Value} (h : Rep F w m p v) (hz : p.fz = true) : RF F w p v := by
  induction h with
  | fz h => exact h
  | any v => simp [PV.fz] at hz
  | agg cs vs hn h1 h ih =>
    rw [PV.fz, fzL_iff] at hz
    exact .agg cs vs hn h1 fun i c v hc hv => ih i c v hc hv (hz c (List.mem_of_getElem? hc))
  | tup cs vs hn h ih =>
    rw [PV.fz, fzL_iff] at hz
    exact .tup cs vs hn fun i c v hc hv => ih i c v hc hv (hz c (List.mem_of_getElem? hc))
  | ptr => simp [PV.fz] at hz
  | rp => simp [PV.fz] at hz
  | own => simp [PV.fz] at hz
  | ownc => simp [PV.fz] at hz
  | fn f first cap vs us hn hk h hu ih1 ih2 =>
    simp [PV.fz] at hz
    obtain ⟨rfl, rfl⟩ := hz
    have e1 : vs = #[] := by simpa using hn
    have e2 : us = #[] := by simpa using hk
    subst e1 e2
    exact .fn f

end

/-! ### Views: a value with rows in it, as a frozen one -/
def viewC (st : St) : PV → PV
  | .own b s off len => match st b with
    | some (.row _ es) => .sl false s ((es.drop off).take len)
    | _ => .any
  | .ptr b off => match st b with
    | some (.box cs) => .pf (cs.drop off)
    | _ => .any
  | p => p

def viewA (st : St) : PV → PV
  | .agg cs => .agg (cs.map (viewC st))
  | p => viewC st p

def view (st : St) : PV → PV
  | .tup cs => .tup (cs.map (viewA st))
  | p => viewA st p

/-- The view is right: all that is seen is frozen. -/
def viewOkC (st : St) : PV → Prop
  | .own b s off len => match st b with
    | some (.row s' es) => s' = s ∧ 0 < s ∧ off + len ≤ es.length ∧ ∀ e ∈ (es.drop off).take len, ∀ c ∈ e, c.fz = true
    | _ => False
  | .ptr b off => match st b with
    | some (.box cs) => ∀ c ∈ cs.drop off, c.fz = true
    | _ => False
  | p => p.fz = true

def viewOkA (st : St) : PV → Prop
  | .agg cs => ∀ c ∈ cs, viewOkC st c
  | p => viewOkC st p

def viewOk (st : St) : PV → Prop
  | .tup cs => ∀ c ∈ cs, viewOkA st c
  | p => viewOkA st p

def idsC : PV → List Nat
  | .own b _ _ _ => [b]
  | .ptr b _ => [b]
  | _ => []

def idsA : PV → List Nat
  | .agg cs => cs.flatMap idsC
  | p => idsC p

def ids : PV → List Nat
  | .tup cs => cs.flatMap idsA
  | p => idsA p

/-- The same, or less: a capacity that is not told any more. -/
def wkC : PV → PV → Prop
  | .sl t s es, .sl t' s' es' => es = es' ∧ (t' = true → t = true) ∧ (s = s' ∨ es = [])
  | .sl t _ es, .own _ _ _ len' => t = true ∧ es = [] ∧ len' = 0
  | .val .nils, .sl _ _ es => es = []
  | .val .nils, .own _ _ _ len' => len' = 0
  | .ownc b s off len _, .own b' s' off' len' => b = b' ∧ s = s' ∧ off = off' ∧ len = len'
  | a, b => a = b

def wkL : List PV → List PV → Prop
  | [], [] => True
  | x :: xs, y :: ys => wkC x y ∧ wkL xs ys
  | _, _ => False

def wkA : PV → PV → Prop
  | .agg xs, .agg ys => wkL xs ys ∨ xs = ys
  | a, b => wkC a b

def wkAL : List PV → List PV → Prop
  | [], [] => True
  | x :: xs, y :: ys => wkA x y ∧ wkAL xs ys
  | _, _ => False

def wk : PV → PV → Prop
  | .tup xs, .tup ys => wkAL xs ys ∨ xs = ys
  | a, b => wkA a b

section
variable {F : Nat → Prop} {w : World} {m : Ids}

theorem wkC_rep {p q : PV} {v : Value} (h : wkC p q) (hp : Rep F w m p v) : Rep F w m q v := by
  unfold wkC at h
  split at h
  · obtain ⟨rfl, h1, h2⟩ := h
    have hp := hp.sl_inv
    cases hp with
    | sl t s es a cap val hl ht hs hb hm hc =>
      rcases h2 with rfl | rfl
      · exact .fz (.sl _ _ _ a cap val hl (fun e => ht (h1 e)) hs hb hm hc)
      · exact .fz (.sl _ _ [] a cap val hl (fun e => ht (h1 e)) (by simp) hb (by simp) (by simp))
  · obtain ⟨rfl, rfl, rfl⟩ := h
    have hp := hp.sl_inv
    cases hp with
    | sl t s es a cap val hl ht hs hb hm hc =>
      have : cap = 0 := ht rfl
      subst this
      exact .own _ _ _ _ 0 _ (by simp) (by simp) (by simp)
  · subst h
    have := hp.val_inv
    cases this
    exact .fz (.sl _ _ [] none 0 (fun _ _ => default) (by simp) (by simp) (by simp) (by simp) (by simp) (by simp))
  · subst h
    have := hp.val_inv
    cases this
    exact .own _ _ _ _ 0 _ (by simp) (by simp) (by simp)
  · obtain ⟨rfl, rfl, rfl, rfl⟩ := h
    obtain ⟨a', rfl, h1, h2, h3⟩ := hp.ownc_inv
    exact .own _ _ _ _ _ a' h1 (by omega) h3
  · subst h; exact hp

theorem wkL_get : ∀ {xs ys : List PV}, wkL xs ys → xs.length = ys.length ∧ ∀ (i : Nat) (x y : PV), xs[i]? = some x → ys[i]? = some y → wkC x y
  | [], [], _ => ⟨rfl, by simp⟩
  | x :: xs, y :: ys, h => by
    obtain ⟨h1, h2⟩ := wkL_get h.2
    refine ⟨by simp [h1], fun i a b ha hb => ?_⟩
    cases i with
    | zero => simp at ha hb; subst ha hb; exact h.1
    | succ i => simp at ha hb; exact h2 i a b ha hb
  | [], _ :: _, h => h.elim
  | _ :: _, [], h => h.elim

theorem wkAL_get : ∀ {xs ys : List PV}, wkAL xs ys → xs.length = ys.length ∧ ∀ (i : Nat) (x y : PV), xs[i]? = some x → ys[i]? = some y → wkA x y
  | [], [], _ => ⟨rfl, by simp⟩
  | x :: xs, y :: ys, h => by
    obtain ⟨h1, h2⟩ := wkAL_get h.2
    refine ⟨by simp [h1], fun i a b ha hb => ?_⟩
    cases i with
    | zero => simp at ha hb; subst ha hb; exact h.1
    | succ i => simp at ha hb; exact h2 i a b ha hb
  | [], _ :: _, h => h.elim
  | _ :: _, [], h => h.elim

theorem wkA_rep {p q : PV} {v : Value} (h : wkA p q) (hp : Rep F w m p v) : Rep F w m q v := by
  unfold wkA at h
  split at h
  · rename_i xs ys
    rcases h with h | rfl
    · obtain ⟨vs, rfl, h1, h2, h3⟩ := hp.agg_inv
      obtain ⟨h4, h5⟩ := wkL_get h
      refine .agg ys vs (by omega) h2 fun i c v hc hv => ?_
      have hi : i < xs.length := by rw [h4]; exact (List.getElem?_eq_some_iff.1 hc).1
      exact wkC_rep (h5 i xs[i] c (List.getElem?_eq_getElem hi) hc) (h3 i xs[i] v (List.getElem?_eq_getElem hi) hv)
    · exact hp
  · exact wkC_rep h hp

theorem wk_rep {p q : PV} {v : Value} (h : wk p q) (hp : Rep F w m p v) : Rep F w m q v := by
  unfold wk at h
  split at h
  · rename_i xs ys
    rcases h with h | rfl
    · obtain ⟨vs, rfl, h1, h3⟩ := hp.tup_inv
      obtain ⟨h4, h5⟩ := wkAL_get h
      refine .tup ys vs (by omega) fun i c v hc hv => ?_
      have hi : i < xs.length := by rw [h4]; exact (List.getElem?_eq_some_iff.1 hc).1
      exact wkA_rep (h5 i xs[i] c (List.getElem?_eq_getElem hi) hc) (h3 i xs[i] v (List.getElem?_eq_getElem hi) hv)
    · exact hp
  · exact wkA_rep h hp

/-- A block of which less is said. -/
def wkB : Blk → Blk → Prop
  | .box xs, .box ys => wkL xs ys ∨ xs = ys
  | a, b => a = b

theorem wkB_ok {k k' : Blk} {ao : Option Addr} (h : wkB k k') (hk : BlkOk F w m ao k) : BlkOk F w m ao k' := by
  unfold wkB at h
  split at h
  · rename_i xs ys
    rcases h with h | rfl
    · obtain ⟨b, vs, e, rfl, h1, h2, h3⟩ := hk
      obtain ⟨h4, h5⟩ := wkL_get h
      refine ⟨b, vs, e, rfl, h1, by omega, fun i c v hc hv => ?_⟩
      have hi : i < xs.length := by rw [h4]; exact (List.getElem?_eq_some_iff.1 hc).1
      obtain ⟨q1, q2⟩ := h3 i xs[i] v (List.getElem?_eq_getElem hi) hv
      exact ⟨q1, wkC_rep (h5 i xs[i] c (List.getElem?_eq_getElem hi) hc) q2⟩
    · exact hk
  · subst h; exact hk

end

section
variable {B : Base} {A : AF} {a : Act} {w : World} {F G : Nat → Prop} {m : Ids}

theorem viewC_ok (h : SimW B A a w F m) {st : St} (hst : ∀ b k, st b = some k → A.st b = some k) {p : PV} {v : Value} (hp : Rep F w m p v) (ho : viewOkC st p)
    (hF : ∀ x, F x → G x) (hG : ∀ b, b ∈ idsC p → ∀ x, m b = some (some x) → G x.block) : RF G w (viewC st p) v := by
  by_cases hown : ∃ b s off len, p = .own b s off len
  · obtain ⟨b, s, off, len, rfl⟩ := hown
    simp only [viewOkC] at ho
    simp only [viewC]
    cases hb : st b with
    | none => simp [hb] at ho
    | some k =>
      cases k with
      | box cs => simp [hb] at ho
      | row s' es =>
        simp only [hb] at ho ⊢
        obtain ⟨rfl, h0, hle, hz⟩ := ho
        obtain ⟨cap, a', rfl, hl, h47, hc⟩ := hp.own_inv
        have hlen : ((es.drop off).take len).length = len := by simp; omega
        obtain ⟨ao, h1, h2⟩ := h.blk b _ (hst b _ hb)
        rw [show Value.slice a' len cap = Value.slice a' ((es.drop off).take len).length cap by rw [hlen]]
        by_cases hl0 : len = 0
        · subst hl0
          exact .sl _ _ _ _ _ (fun _ _ => default) (by simp) (by simp) (by simp) (by simp) (by simp) (by simp)
        · obtain ⟨xa, c, e, fr, h3, h4, rfl, h5, h6⟩ := hc (by omega)
          rw [h3] at h1
          cases h1
          obtain ⟨vs, e', _, h7, h8, _, h9, h10⟩ := row_seg h2 hle
          rw [h5] at h8
          cases h8
          refine .sl _ _ _ _ _ (fun i j => (((c.toList.drop (xa.off + off * s')).take (len * s'))[i * s' + j]?).getD undef) (by omega) (by simp) h10.2.1 (by omega) (fun i j hi hj => ?_) fun i j el c hi hj => ?_
          · have hi' := hi
            rw [hlen] at hi'
            have hel := h10.2.1 _ (List.getElem_mem hi)
            obtain ⟨v, q1, q2⟩ := h10.2.2.2 i j _ (((es.drop off).take len)[i][j]'(by rw [hel]; exact hj)) (List.getElem?_eq_getElem hi) (List.getElem?_eq_getElem _)
            refine ⟨xa.block, _, rfl, hG b (by simp [idsC]) _ h3, ?_, ?_⟩
            · rw [cell_of h5, q1]
              simp only [Option.getD_some]
              rw [List.getElem?_take] at q1
              split at q1
              · rw [List.getElem?_drop, Array.getElem?_toList] at q1
                rw [← q1]
                congr 1
                omega
              · cases q1
            · rw [q1]
              exact h10.2.2.1 v (List.mem_of_getElem? q1)
          · obtain ⟨v, q1, q2⟩ := h10.2.2.2 i j el c hi hj
            rw [q1]
            exact (q2.rf (hz el (List.mem_of_getElem? hi) c (List.mem_of_getElem? hj))).mono hF (fun _ _ => rfl)
  · by_cases hptr : ∃ b off, p = .ptr b off
    · obtain ⟨b, off, rfl⟩ := hptr
      simp only [viewOkC] at ho
      simp only [viewC]
      cases hb : st b with
      | none => simp [hb] at ho
      | some k =>
        cases k with
        | row s' es => simp [hb] at ho
        | box cs =>
          simp only [hb] at ho ⊢
          obtain ⟨ao, h1, h2⟩ := h.blk b _ (hst b _ hb)
          cases hp with
          | fz hp => cases hp
          | ptr _ _ x hmb hsp =>
            rw [hmb] at h1
            cases h1
            obtain ⟨vs, e, hxe, h5, h6⟩ := box_cells (b := b) h2
            have ho0 : x.off = 0 := by rw [hxe]
            refine .pf _ _ _ (fun j => (vs.toList[off + j]?).getD undef) (hG b (by simp [idsC]) _ hmb) (fun j hj => ?_) fun j c hc => ?_
            · have hlt : off + j < cs.length := by simp at hj; omega
              obtain ⟨v, hv, q1, q2⟩ := h6.get hlt
              rw [cell_of h5, ho0, hv]
              refine ⟨?_, q1⟩
              simpa using hv
            · rw [List.getElem?_drop] at hc
              have hlt : off + j < cs.length := (List.getElem?_eq_some_iff.1 hc).1
              obtain ⟨v, hv, q1, q2⟩ := h6.get hlt
              rw [hv]
              have ec : cs.getD (off + j) .any = c := by simp [List.getD, hc]
              rw [ec] at q2
              exact (q2.rf (ho c (List.mem_of_getElem? (by rw [List.getElem?_drop]; exact hc)))).mono hF (fun _ _ => rfl)
    · have e1 : viewC st p = p := by cases p <;> first | rfl | exact (hown ⟨_, _, _, _, rfl⟩).elim | exact (hptr ⟨_, _, rfl⟩).elim
      have e2 : p.fz = true := by cases p <;> first | exact ho | exact (hown ⟨_, _, _, _, rfl⟩).elim | exact (hptr ⟨_, _, rfl⟩).elim
      rw [e1]
      exact (hp.rf e2).mono hF (fun _ _ => rfl)

theorem viewA_ok (h : SimW B A a w F m) {st : St} (hst : ∀ b k, st b = some k → A.st b = some k) {p : PV} {v : Value} (hp : Rep F w m p v) (ho : viewOkA st p)
    (hF : ∀ x, F x → G x) (hG : ∀ b, b ∈ idsA p → ∀ x, m b = some (some x) → G x.block) : RF G w (viewA st p) v := by
  by_cases ha : ∃ cs, p = .agg cs
  · obtain ⟨cs, rfl⟩ := ha
    obtain ⟨vs, rfl, h1, h2, h3⟩ := hp.agg_inv
    simp only [viewA]
    refine .agg _ vs (by simpa using h1) h2 fun i c v hc hv => ?_
    rw [List.getElem?_map, Option.map_eq_some_iff] at hc
    obtain ⟨c0, hc0, rfl⟩ := hc
    have hmem := List.mem_of_getElem? hc0
    exact viewC_ok h hst (h3 i c0 v hc0 hv) (ho c0 hmem) hF fun b hb => hG b (List.mem_flatMap.2 ⟨c0, hmem, hb⟩)
  · have e1 : viewA st p = viewC st p := by cases p <;> first | rfl | exact (ha ⟨_, rfl⟩).elim
    have e2 : viewOkC st p := by cases p <;> first | exact ho | exact (ha ⟨_, rfl⟩).elim
    have e3 : idsA p = idsC p := by cases p <;> first | rfl | exact (ha ⟨_, rfl⟩).elim
    rw [e1]
    rw [e3] at hG
    exact viewC_ok h hst hp e2 hF hG

theorem view_ok (h : SimW B A a w F m) {st : St} (hst : ∀ b k, st b = some k → A.st b = some k) {p : PV} {v : Value} (hp : Rep F w m p v) (ho : viewOk st p)
    (hF : ∀ x, F x → G x) (hG : ∀ b, b ∈ ids p → ∀ x, m b = some (some x) → G x.block) : RF G w (view st p) v := by
  by_cases ha : ∃ cs, p = .tup cs
  · obtain ⟨cs, rfl⟩ := ha
    obtain ⟨vs, rfl, h1, h3⟩ := hp.tup_inv
    simp only [view]
    refine .tup _ vs (by simpa using h1) fun i c v hc hv => ?_
    rw [List.getElem?_map, Option.map_eq_some_iff] at hc
    obtain ⟨c0, hc0, rfl⟩ := hc
    have hmem := List.mem_of_getElem? hc0
    exact viewA_ok h hst (h3 i c0 v hc0 hv) (ho c0 hmem) hF fun b hb => hG b (List.mem_flatMap.2 ⟨c0, hmem, hb⟩)
  · have e1 : view st p = viewA st p := by cases p <;> first | rfl | exact (ha ⟨_, rfl⟩).elim
    have e2 : viewOkA st p := by cases p <;> first | exact ho | exact (ha ⟨_, rfl⟩).elim
    have e3 : ids p = idsA p := by cases p <;> first | rfl | exact (ha ⟨_, rfl⟩).elim
    rw [e1]
    rw [e3] at hG
    exact viewA_ok h hst hp e2 hF hG

/-- The ids of what is seen have rows. -/
theorem view_rows {st : St} {q : PV} (hv : viewOk st q) : ∀ b ∈ ids q, ∃ k, st b = some k := by
  have key : ∀ q : PV, viewOkC st q → ∀ b ∈ idsC q, ∃ k, st b = some k := by
    intro q hq b hb
    cases q <;> simp [idsC] at hb
    all_goals
      subst hb
      simp only [viewOkC] at hq
      split at hq
      · rename_i e; exact ⟨_, e⟩
      · exact hq.elim
  have keyA : ∀ q : PV, viewOkA st q → ∀ b ∈ idsA q, ∃ k, st b = some k := by
    intro q hq b hb
    by_cases ha : ∃ cs, q = .agg cs
    · obtain ⟨cs, rfl⟩ := ha
      obtain ⟨c, hc, hb⟩ := List.mem_flatMap.1 hb
      exact key c (hq c hc) b hb
    · have e2 : viewOkC st q := by cases q <;> first | exact hq | exact (ha ⟨_, rfl⟩).elim
      have e3 : idsA q = idsC q := by cases q <;> first | rfl | exact (ha ⟨_, rfl⟩).elim
      rw [e3] at hb
      exact key q e2 b hb
  intro b hb
  by_cases ha : ∃ cs, q = .tup cs
  · obtain ⟨cs, rfl⟩ := ha
    obtain ⟨c, hc, hb⟩ := List.mem_flatMap.1 hb
    exact keyA c (hv c hc) b hb
  · have e2 : viewOkA st q := by cases q <;> first | exact hv | exact (ha ⟨_, rfl⟩).elim
    have e3 : ids q = idsA q := by cases q <;> first | rfl | exact (ha ⟨_, rfl⟩).elim
    rw [e3] at hb
    exact keyA q e2 b hb

end
end Go.Proofs.YtoifmpiikopelaaFw
