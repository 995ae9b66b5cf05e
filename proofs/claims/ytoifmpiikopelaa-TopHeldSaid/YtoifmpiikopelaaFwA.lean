/-
  An abstract walk, part A: abstract values, how they stand for the model's values in a world, and that what is frozen or owned stays as the world grows.
-/
import Derived.Calls
import Derived.Orders
import Derived.Laws.CopyRow
import Derived.Laws.Cells
import Derived.Laws.AppendOwn
import Derived.Deep.AppendSrc
namespace Go.Proofs.YtoifmpiikopelaaFw
open Go
set_option linter.unusedVariables false
set_option linter.unusedSimpArgs false

/-- Values of one cell that name no memory: an unknown truth value, an interface that holds a number, the nil interface, the nil slice. -/
inductive VT where
  | abool
  | ifc (t : TypeId) (k : IntKind) (n : Int)
  | nili
  | nils
  | fmap (es : List (Int × FuncId))
  deriving Inhabited

def VT.ok : VT → Value → Prop
  | .abool, v => ∃ b, v = .bool b
  | .ifc t k n, v => v = .iface t (.int k n)
  | .nili, v => v = .nilIface
  | .nils, v => v = .slice none 0 0
  | .fmap _, v => ∃ b, v = .map (some b)

/-- What stands behind it in a world: a map of functions that stays as it is. -/
def VT.okW (F : Nat → Prop) (w : World) : VT → Value → Prop
  | .fmap es, v => ∃ b arr clk, v = .map (some b) ∧ F b ∧ w.heap[b]? = some (Obj.map arr clk) ∧ arr.toList.map (fun e => (e.key, e.val)) = es.map fun p => (Value.int .i64 p.1, Value.func (.func p.2) #[] #[])
  | x, v => x.ok v
theorem VT.okW_ok {F : Nat → Prop} {w : World} {x : VT} {v : Value} (h : x.okW F w v) : x.ok v := by
  cases x with
  | fmap es => obtain ⟨b, _, _, rfl, _⟩ := h; exact ⟨b, rfl⟩
  | _ => exact h
theorem VT.okW_mono {F F' : Nat → Prop} {w w' : World} (hF : ∀ x, F x → F' x) (hw : ∀ x, F x → w'.heap[x]? = w.heap[x]?) {x : VT} {v : Value} (h : x.okW F w v) : x.okW F' w' v := by
  cases x with
  | fmap es => obtain ⟨b, arr, clk, h1, h2, h3, h4⟩ := h; exact ⟨b, arr, clk, h1, hF b h2, by rw [hw b h2]; exact h3, h4⟩
  | _ => exact h

theorem VT.ok_one {x : VT} {v : Value} (h : x.ok v) : v.oneCell' = true := by
  cases x with
  | abool => obtain ⟨b, rfl⟩ := h; rfl
  | ifc t k n => cases h; rfl
  | nili => cases h; rfl
  | nils => cases h; rfl
  | fmap es => obtain ⟨b, rfl⟩ := h; rfl

/-- An abstract value. 'sl': a frozen slice (tight: its capacity is its length; s: cells an element). 'ptr': a pointer into the box of an id. 'rp': a pointer into an element of an id's row. 'own': a slice over an id's row. 'pf': a pointer to frozen cells. -/
inductive PV where
  | bool (b : Bool)
  | int (k : IntKind) (n : Int)
  | str (s : ByteArray)
  | nilp
  | nilf
  | und
  | agg (cs : List PV)
  | tup (vs : List PV)
  | sl (t : Bool) (s : Nat) (es : List (List PV))
  | pf (cs : List PV)
  | ptr (b : Nat) (off : Nat)
  | rp (b : Nat) (s i off : Nat)
  | own (b : Nat) (s off len : Nat)
  | ownc (b : Nat) (s off len cap : Nat)
  | val (x : VT)
  | fn (f : Fn) (first cap : List PV)
  | any
  deriving Inhabited

def PV.cells : PV → List PV
  | .agg cs => cs
  | v => [v]

/-- A frozen abstract value in a world: what it reads lies in the blocks of F. -/
inductive RF (F : Nat → Prop) (w : World) : PV → Value → Prop
  | bool (b : Bool) : RF F w (.bool b) (.bool b)
  | int (k : IntKind) (n : Int) : RF F w (.int k n) (.int k n)
  | str (s : ByteArray) : RF F w (.str s) (.string s)
  | nilp : RF F w .nilp (.pointer none)
  | nilf : RF F w .nilf .nilFunc
  | und : RF F w .und undef
  | agg (cs : List PV) (vs : Array Value) (hn : vs.size = cs.length) (h1 : ∀ (i : Nat) (v : Value), vs[i]? = some v → v.oneCell' = true)
      (h : ∀ (i : Nat) (c : PV) (v : Value), cs[i]? = some c → vs[i]? = some v → RF F w c v) : RF F w (.agg cs) (.agg vs)
  | tup (cs : List PV) (vs : Array Value) (hn : vs.size = cs.length)
      (h : ∀ (i : Nat) (c : PV) (v : Value), cs[i]? = some c → vs[i]? = some v → RF F w c v) : RF F w (.tup cs) (.tuple vs)
  | sl (t : Bool) (s : Nat) (es : List (List PV)) (a : Option Addr) (cap : Nat) (val : Nat → Nat → Value) (hl : es.length ≤ cap) (ht : t = true → cap = es.length)
      (hs : ∀ e ∈ es, e.length = s) (hb : es.length ≤ 2 ^ 47)
      (hm : ∀ i j, i < es.length → j < s → ∃ b o, a = some ⟨b, o, none⟩ ∧ F b ∧ w.cell? ⟨b, o + i * s + j, none⟩ = some (val i j) ∧ (val i j).oneCell' = true)
      (h : ∀ (i j : Nat) (e : List PV) (c : PV), es[i]? = some e → e[j]? = some c → RF F w c (val i j)) : RF F w (.sl t s es) (.slice a es.length cap)
  | pf (cs : List PV) (b o : Nat) (val : Nat → Value) (hF : F b)
      (hm : ∀ j, j < cs.length → w.cell? ⟨b, o + j, none⟩ = some (val j) ∧ (val j).oneCell' = true)
      (h : ∀ (j : Nat) (c : PV), cs[j]? = some c → RF F w c (val j)) : RF F w (.pf cs) (.pointer (some ⟨b, o, none⟩))
  | fn (f : Fn) : RF F w (.fn f [] []) (.func f #[] #[])
  | val (x : VT) (v : Value) (h : x.okW F w v) : RF F w (.val x) v

/-- What an id stands for: nothing yet, a nil row, or an address. -/
abbrev Ids := Nat → Option (Option Addr)

inductive Rep (F : Nat → Prop) (w : World) (m : Ids) : PV → Value → Prop
  | fz {p : PV} {v : Value} (h : RF F w p v) : Rep F w m p v
  | any (v : Value) : Rep F w m .any v
  | agg (cs : List PV) (vs : Array Value) (hn : vs.size = cs.length) (h1 : ∀ (i : Nat) (v : Value), vs[i]? = some v → v.oneCell' = true)
      (h : ∀ (i : Nat) (c : PV) (v : Value), cs[i]? = some c → vs[i]? = some v → Rep F w m c v) : Rep F w m (.agg cs) (.agg vs)
  | tup (cs : List PV) (vs : Array Value) (hn : vs.size = cs.length)
      (h : ∀ (i : Nat) (c : PV) (v : Value), cs[i]? = some c → vs[i]? = some v → Rep F w m c v) : Rep F w m (.tup cs) (.tuple vs)
  | ptr (b off : Nat) (a : Addr) (hb : m b = some (some a)) (hp : a.spot = none) : Rep F w m (.ptr b off) (.pointer (some ⟨a.block, a.off + off, none⟩))
  | rp (b s i off : Nat) (a : Addr) (hb : m b = some (some a)) (hp : a.spot = none) : Rep F w m (.rp b s i off) (.pointer (some ⟨a.block, a.off + i * s + off, none⟩))
  | own (b s off len cap : Nat) (a' : Option Addr) (hl : len ≤ cap) (hb : len ≤ 2 ^ 47)
      (hc : cap ≠ 0 → ∃ (a : Addr) (c : Array Value) (e : TypeId) (fr : Nat × Nat), m b = some (some a) ∧ a.spot = none ∧ a' = some ⟨a.block, a.off + off * s, none⟩ ∧ w.heap[a.block]? = some (Obj.cells c e fr) ∧ a.off + (off + cap) * s ≤ c.size) :
      Rep F w m (.own b s off len) (.slice a' len cap)
  | ownc (b s off len cap : Nat) (a' : Option Addr) (hl : len ≤ cap) (hb : cap ≤ 2 ^ 47)
      (hc : cap ≠ 0 → ∃ (a : Addr) (c : Array Value) (e : TypeId) (fr : Nat × Nat), m b = some (some a) ∧ a.spot = none ∧ a' = some ⟨a.block, a.off + off * s, none⟩ ∧ w.heap[a.block]? = some (Obj.cells c e fr) ∧ a.off + (off + cap) * s ≤ c.size) :
      Rep F w m (.ownc b s off len cap) (.slice a' len cap)
  | fn (f : Fn) (first cap : List PV) (vs us : Array Value) (hn : vs.size = first.length) (hk : us.size = cap.length)
      (h : ∀ (i : Nat) (c : PV) (v : Value), first[i]? = some c → vs[i]? = some v → Rep F w m c v)
      (hu : ∀ (i : Nat) (c : PV) (v : Value), cap[i]? = some c → us[i]? = some v → Rep F w m c v) : Rep F w m (.fn f first cap) (.func f vs us)

/-- The world grows: what is frozen stays, ids stay, blocks keep their sizes. -/
structure Grow (F : Nat → Prop) (w : World) (m : Ids) (F' : Nat → Prop) (w' : World) (m' : Ids) : Prop where
  sub : ∀ x, F x → F' x
  same : ∀ x, F x → w'.heap[x]? = w.heap[x]?
  ids : ∀ b a, m b = some a → m' b = some a
  size : ∀ (x : Nat) (c : Array Value) (e : TypeId) (fr : Nat × Nat), w.heap[x]? = some (Obj.cells c e fr) → ∃ (c' : Array Value) (fr' : Nat × Nat), w'.heap[x]? = some (Obj.cells c' e fr') ∧ c'.size = c.size

theorem RF.mono {F F' : Nat → Prop} {w w' : World} (hF : ∀ x, F x → F' x) (hw : ∀ x, F x → w'.heap[x]? = w.heap[x]?) {p : PV} {v : Value} (h : RF F w p v) : RF F' w' p v := by
  induction h with
  | bool b => exact .bool b
  | int k n => exact .int k n
  | str s => exact .str s
  | nilp => exact .nilp
  | nilf => exact .nilf
  | und => exact .und
  | agg cs vs hn h1 _ ih => exact .agg cs vs hn h1 ih
  | tup cs vs hn _ ih => exact .tup cs vs hn ih
  | sl t s es a cap val hl ht hs hb hm _ ih =>
    refine .sl t s es a cap val hl ht hs hb (fun i j hi hj => ?_) ih
    obtain ⟨b, o, ha, hf, hc, h1⟩ := hm i j hi hj
    exact ⟨b, o, ha, hF b hf, by rw [World.cell?_of_block (hw b hf)]; exact hc, h1⟩
  | pf cs b o val hf hm _ ih =>
    refine .pf cs b o val (hF b hf) (fun j hj => ?_) ih
    obtain ⟨hc, h1⟩ := hm j hj
    exact ⟨by rw [World.cell?_of_block (hw b hf)]; exact hc, h1⟩
  | fn f => exact .fn f
  | val x v h => exact .val x v (VT.okW_mono hF hw h)

theorem Rep.mono {F F' : Nat → Prop} {w w' : World} {m m' : Ids} (g : Grow F w m F' w' m') {p : PV} {v : Value} (h : Rep F w m p v) : Rep F' w' m' p v := by
  induction h with
  | fz h => exact .fz (h.mono g.sub g.same)
  | any v => exact .any v
  | agg cs vs hn h1 _ ih => exact .agg cs vs hn h1 ih
  | tup cs vs hn _ ih => exact .tup cs vs hn ih
  | ptr b off a hb hp => exact .ptr b off a (g.ids b _ hb) hp
  | rp b s i off a hb hp => exact .rp b s i off a (g.ids b _ hb) hp
  | own b s off len cap a' hl hb hc =>
    refine .own b s off len cap a' hl hb fun h0 => ?_
    obtain ⟨a, c, e, fr, h1, h2, h3, h4, h5⟩ := hc h0
    obtain ⟨c', fr', h6, h7⟩ := g.size _ _ _ _ h4
    exact ⟨a, c', e, fr', g.ids b _ h1, h2, h3, h6, by omega⟩
  | ownc b s off len cap a' hl hb hc =>
    refine .ownc b s off len cap a' hl hb fun h0 => ?_
    obtain ⟨a, c, e, fr, h1, h2, h3, h4, h5⟩ := hc h0
    obtain ⟨c', fr', h6, h7⟩ := g.size _ _ _ _ h4
    exact ⟨a, c', e, fr', g.ids b _ h1, h2, h3, h6, by omega⟩
  | fn f first cap vs us hn hk _ _ ih1 ih2 => exact .fn f first cap vs us hn hk ih1 ih2

theorem Grow.refl (F : Nat → Prop) (w : World) (m : Ids) : Grow F w m F w m := ⟨fun _ h => h, fun _ _ => rfl, fun _ _ h => h, fun _ c _ fr h => ⟨c, fr, h, rfl⟩⟩

theorem Grow.trans {F F' F'' : Nat → Prop} {w w' w'' : World} {m m' m'' : Ids} (g : Grow F w m F' w' m') (k : Grow F' w' m' F'' w'' m'') : Grow F w m F'' w'' m'' :=
  ⟨fun x h => k.sub x (g.sub x h), fun x h => (k.same x (g.sub x h)).trans (g.same x h), fun b a h => k.ids b a (g.ids b a h),
   fun x c e fr h => let ⟨c', fr', h1, h2⟩ := g.size x c e fr h; let ⟨c'', fr'', h3, h4⟩ := k.size x c' e fr' h1; ⟨c'', fr'', h3, h4.trans h2⟩⟩

/-- A block of the store. 'box': known whole (a variable, a struct, an array). 'row': a slice's array, known up to a length. -/
inductive Blk where
  | box (cs : List PV)
  | row (s : Nat) (es : List (List PV))
  deriving Inhabited

/-- No cell is frozen. -/
def frOk (n : Nat) (fr : Nat × Nat) : Prop := fr.1 = fr.2 ∨ n ≤ fr.1
theorem frOk.zero (n : Nat) : frOk n (0, 0) := .inl rfl
theorem frOk.at_ {n : Nat} {fr : Nat × Nat} (h : frOk n fr) {k : Nat} (hk : k < n) : ¬ (fr.1 ≤ k ∧ k < fr.2) := by rcases h with h | h <;> omega

def BlkOk (F : Nat → Prop) (w : World) (m : Ids) : Option Addr → Blk → Prop
  | ao, .box cs => ∃ (b : Nat) (vs : Array Value) (e : TypeId), ao = some ⟨b, 0, none⟩ ∧ w.heap[b]? = some (Obj.cells vs e (0, 0)) ∧ vs.size = cs.length ∧
      ∀ (i : Nat) (c : PV) (v : Value), cs[i]? = some c → vs[i]? = some v → v.oneCell' = true ∧ Rep F w m c v
  | ao, .row s es => (∀ e ∈ es, e.length = s) ∧ es.length ≤ 2 ^ 47 ∧ ((ao = none ∧ es = []) ∨
      ∃ (b o : Nat) (vs : Array Value) (e : TypeId) (fr : Nat × Nat), ao = some ⟨b, o, none⟩ ∧ w.heap[b]? = some (Obj.cells vs e fr) ∧ frOk vs.size fr ∧ o + es.length * s ≤ vs.size ∧
        ∀ (i j : Nat) (el : List PV) (c : PV), es[i]? = some el → el[j]? = some c → ∃ v, vs[o + i * s + j]? = some v ∧ v.oneCell' = true ∧ Rep F w m c v)

/-- A block that did not change stays what it was. -/
theorem BlkOk.mono {F F' : Nat → Prop} {w w' : World} {m m' : Ids} (g : Grow F w m F' w' m') {ao : Option Addr} {k : Blk} (h : BlkOk F w m ao k)
    (hw : ∀ a, ao = some a → w'.heap[a.block]? = w.heap[a.block]?) : BlkOk F' w' m' ao k := by
  cases k with
  | box cs =>
    obtain ⟨b, vs, e, rfl, h1, h2, h3⟩ := h
    exact ⟨b, vs, e, rfl, by rw [hw _ rfl]; exact h1, h2, fun i c v hc hv => ⟨(h3 i c v hc hv).1, (h3 i c v hc hv).2.mono g⟩⟩
  | row s es =>
    obtain ⟨h1, hl, h2 | ⟨b, o, vs, e, fr, rfl, h3, hfr, h4, h5⟩⟩ := h
    · exact ⟨h1, hl, .inl h2⟩
    · refine ⟨h1, hl, .inr ⟨b, o, vs, e, fr, rfl, by rw [hw _ rfl]; exact h3, hfr, h4, fun i j el c hi hj => ?_⟩⟩
      obtain ⟨v, hv, h6, h7⟩ := h5 i j el c hi hj
      exact ⟨v, hv, h6, h7.mono g⟩

/-! ### Reading an abstract value back -/
section
variable {F : Nat → Prop} {w : World} {m : Ids}

theorem Rep.bool_inv {b : Bool} {v : Value} (h : Rep F w m (.bool b) v) : v = .bool b := by
  cases h with | fz h => cases h; rfl
theorem Rep.int_inv {k : IntKind} {n : Int} {v : Value} (h : Rep F w m (.int k n) v) : v = .int k n := by
  cases h with | fz h => cases h; rfl
theorem Rep.str_inv {s : ByteArray} {v : Value} (h : Rep F w m (.str s) v) : v = .string s := by
  cases h with | fz h => cases h; rfl
theorem Rep.nilp_inv {v : Value} (h : Rep F w m .nilp v) : v = .pointer none := by
  cases h with | fz h => cases h; rfl
theorem Rep.und_inv {v : Value} (h : Rep F w m .und v) : v = undef := by
  cases h with | fz h => cases h; rfl
theorem Rep.val_inv {x : VT} {v : Value} (h : Rep F w m (.val x) v) : x.okW F w v := by
  cases h with | fz h => cases h; assumption
theorem Rep.ownc_inv {b s off len cap : Nat} {v : Value} (h : Rep F w m (.ownc b s off len cap) v) : ∃ a', v = .slice a' len cap ∧ len ≤ cap ∧ cap ≤ 2 ^ 47 ∧
    (cap ≠ 0 → ∃ (a : Addr) (c : Array Value) (e : TypeId) (fr : Nat × Nat), m b = some (some a) ∧ a.spot = none ∧ a' = some ⟨a.block, a.off + off * s, none⟩ ∧ w.heap[a.block]? = some (Obj.cells c e fr) ∧ a.off + (off + cap) * s ≤ c.size) := by
  cases h with
  | fz h => cases h
  | ownc _ _ _ _ _ a' hl hb hc => exact ⟨a', rfl, hl, hb, hc⟩
theorem Rep.sl_inv {t : Bool} {s : Nat} {es : List (List PV)} {v : Value} (h : Rep F w m (.sl t s es) v) : RF F w (.sl t s es) v := by
  cases h with | fz h => exact h
theorem Rep.pf_inv {cs : List PV} {v : Value} (h : Rep F w m (.pf cs) v) : RF F w (.pf cs) v := by
  cases h with | fz h => exact h
theorem Rep.agg_inv {cs : List PV} {v : Value} (h : Rep F w m (.agg cs) v) : ∃ vs, v = .agg vs ∧ vs.size = cs.length ∧ (∀ (i : Nat) (v : Value), vs[i]? = some v → v.oneCell' = true) ∧
    ∀ (i : Nat) (c : PV) (v : Value), cs[i]? = some c → vs[i]? = some v → Rep F w m c v := by
  cases h with
  | fz h => cases h with | agg _ vs hn h1 h => exact ⟨vs, rfl, hn, h1, fun i c v hc hv => .fz (h i c v hc hv)⟩
  | agg _ vs hn h1 h => exact ⟨vs, rfl, hn, h1, h⟩
theorem Rep.tup_inv {cs : List PV} {v : Value} (h : Rep F w m (.tup cs) v) : ∃ vs, v = .tuple vs ∧ vs.size = cs.length ∧
    ∀ (i : Nat) (c : PV) (v : Value), cs[i]? = some c → vs[i]? = some v → Rep F w m c v := by
  cases h with
  | fz h => cases h with | tup _ vs hn h => exact ⟨vs, rfl, hn, fun i c v hc hv => .fz (h i c v hc hv)⟩
  | tup _ vs hn h => exact ⟨vs, rfl, hn, h⟩
theorem Rep.fn_inv {f : Fn} {first cap : List PV} {v : Value} (h : Rep F w m (.fn f first cap) v) : ∃ vs us, v = .func f vs us ∧ vs.size = first.length ∧ us.size = cap.length ∧
    (∀ (i : Nat) (c : PV) (v : Value), first[i]? = some c → vs[i]? = some v → Rep F w m c v) ∧ ∀ (i : Nat) (c : PV) (v : Value), cap[i]? = some c → us[i]? = some v → Rep F w m c v := by
  cases h with
  | fz h => cases h with | fn f => exact ⟨#[], #[], rfl, rfl, rfl, by simp, by simp⟩
  | fn _ _ _ vs us hn hk h hu => exact ⟨vs, us, rfl, hn, hk, h, hu⟩

theorem Rep.own_inv {b s off len : Nat} {v : Value} (h : Rep F w m (.own b s off len) v) : ∃ cap a', v = .slice a' len cap ∧ len ≤ cap ∧ len ≤ 2 ^ 47 ∧
    (cap ≠ 0 → ∃ (a : Addr) (c : Array Value) (e : TypeId) (fr : Nat × Nat), m b = some (some a) ∧ a.spot = none ∧ a' = some ⟨a.block, a.off + off * s, none⟩ ∧ w.heap[a.block]? = some (Obj.cells c e fr) ∧ a.off + (off + cap) * s ≤ c.size) := by
  cases h with
  | fz h => cases h
  | own _ _ _ _ cap a' hl hb hc => exact ⟨cap, a', rfl, hl, hb, hc⟩

/-- Is the value one cell whatever it stands for? -/
def PV.one : PV → Bool
  | .agg _ | .tup _ | .any | .und => false
  | _ => true

theorem RF.one {p : PV} {v : Value} (h : RF F w p v) (hp : p.one = true) : v.oneCell' = true := by
  cases h <;> first | rfl | (simp [PV.one] at hp; done) | exact VT.ok_one (VT.okW_ok (by assumption))

theorem Rep.one {p : PV} {v : Value} (h : Rep F w m p v) (hp : p.one = true) : v.oneCell' = true := by
  cases h with
  | fz h => exact h.one hp
  | _ => first | rfl | simp [PV.one] at hp

theorem oneCell_cells {v : Value} (h : v.oneCell' = true) : v.cells = #[v] := by
  cases v <;> first | rfl | simp [Value.oneCell'] at h

end
end Go.Proofs.YtoifmpiikopelaaFw
