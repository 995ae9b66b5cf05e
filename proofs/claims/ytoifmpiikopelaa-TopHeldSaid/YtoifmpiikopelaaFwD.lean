/-
  An abstract walk, part D: the table of types; what an operand and each operation that touches no store come to; that they are right.
-/
import Derived.Test.YtoifmpiikopelaaFwC
namespace Go.Proofs.YtoifmpiikopelaaFw
open Go
set_option linter.unusedVariables false
set_option linter.unusedSimpArgs false

/-! ### Types -/
inductive TK where
  | bool | int (k : IntKind) | str | ptr (e : TypeId) | slice (e : TypeId) | arr (n : Nat) (e : TypeId) | strct (fs : List (Nat × TypeId)) | func | other
  deriving DecidableEq, Inhabited

def fieldsN (f : TypeId → Option Nat) (sz : TypeId → Option Nat) : List Field → Nat → Option Nat
  | [], n => some n
  | x :: xs, n => match f x.type with
    | some k => if x.offset = n ∧ (x.name == "_") = false ∧ sz x.type = some k then fieldsN f sz xs (n + k) else none
    | none => none

/-- The cells of a type whose values are equal just if their cells are. -/
def plainN (P : Program) : Nat → TypeId → Option Nat
  | 0, _ => none
  | d + 1, t => match P.underlying t with
    | some .bool => some 1
    | some (.int _) => some 1
    | some .string => some 1
    | some (.struct fs) => if P.stoodInHeld t then none else fieldsN (plainN P d) (fun t => (P.info? t).map (·.size)) fs.toList 0
    | some (.array n e) => match plainN P d e with
      | some k => if (P.info? e).map (·.size) = some k then some (n * k) else none
      | none => none
    | _ => none

/-- Is the type an aggregate? -/
def aggB (P : Program) (t : TypeId) : Bool := match P.underlying t with | some (.struct _) | some (.array _ _) => true | _ => false

/-- The kinds of a type's leaves. -/
def kindsN (P : Program) : Nat → TypeId → List TK
  | 0, _ => []
  | d + 1, t => match P.underlying t with
    | some .bool => [.bool]
    | some (.int k) => [.int k]
    | some .string => [.str]
    | some (.struct fs) => fs.toList.flatMap fun f => kindsN P d f.type
    | some (.array n e) => (List.replicate n (kindsN P d e)).flatten
    | _ => []

structure TI where
  k : TK := .other
  size : Nat := 0
  bytes : Nat := 0
  zero : List PV := []
  kinds : List TK := []
  deriving Inhabited

def TI.isAgg (t : TI) : Bool := match t.k with | .arr .. | .strct _ => true | _ => false

def descOf : TypeDesc → TK
  | .bool => .bool
  | .int k => .int k
  | .string => .str
  | .pointer e => .ptr e
  | .slice e => .slice e
  | .array n e => .arr n e
  | .struct fs => .strct (fs.toList.map fun f => (f.offset, f.type))
  | .func .. => .func
  | _ => .other

/-- A zero cell, and what stands for it. -/
def zeroB : Value → PV → Bool
  | .bool b, .bool c => b == c
  | .int k n, .int j i => k == j && n == i
  | .string s, .str t => s.data == t.data
  | .pointer none, .nilp => true
  | .slice none 0 0, .sl _ _ [] => true
  | .slice none 0 0, .val .nils => true
  | .nilFunc, .nilf => true
  | _, _ => false

def zerosB : List Value → List PV → Bool
  | [], [] => true
  | v :: vs, p :: ps => zeroB v p && zerosB vs ps
  | _, _ => false

def tiB (P : Program) (t : TypeId) (ti : TI) : Bool :=
  match P.underlying t, P.info? t with
  | some d, some i => descOf d == ti.k && i.size == ti.size && i.bytes == ti.bytes && (match i.zero with | some z => zerosB z.cells.toList ti.zero && z.cells.size == ti.size && (ti.isAgg == (match z with | .agg _ => true | _ => false)) | none => false) &&
      (ti.kinds.isEmpty || (plainN P 8 t == some ti.size && kindsN P 8 t == ti.kinds && !P.eqGuardType P.depth t && aggB P t))
  | _, _ => false

/-- What the table says of a type is so. -/
structure TiOk (P : Program) (t : TypeId) (ti : TI) : Prop where
  und : ∃ d, P.underlying t = some d ∧ descOf d = ti.k
  info : ∃ i z, P.info? t = some i ∧ i.size = ti.size ∧ i.bytes = ti.bytes ∧ i.zero = some z ∧ zerosB z.cells.toList ti.zero = true ∧ z.cells.size = ti.size ∧ (ti.isAgg = true ↔ ∃ cs, z = .agg cs)
  plain : ti.kinds ≠ [] → plainN P 8 t = some ti.size ∧ kindsN P 8 t = ti.kinds ∧ P.eqGuardType P.depth t = false ∧ aggB P t = true

theorem TiOk.of (P : Program) (t : TypeId) (ti : TI) (h : tiB P t ti = true) : TiOk P t ti := by
  unfold tiB at h
  cases hd : P.underlying t with
  | none => simp [hd] at h
  | some d =>
    cases hi : P.info? t with
    | none => simp [hd, hi] at h
    | some i =>
      cases hz : i.zero with
      | none => simp [hd, hi, hz] at h
      | some z =>
        simp [hd, hi, hz] at h
        obtain ⟨⟨⟨⟨h1, h2⟩, h3⟩, ⟨h4, h5⟩, h6⟩, h7⟩ := h
        refine ⟨⟨d, hd, h1⟩, ⟨i, z, hi, h2, h3, hz, h4, h5, ?_⟩, fun hne => ?_⟩
        · rw [h6]
          cases z <;> simp
        · rcases h7 with h7 | ⟨⟨⟨h7, h8⟩, h9⟩, h10⟩
          · exact (hne h7).elim
          · exact ⟨h7, h8, h9, h10⟩

abbrev Tab := TypeId → TI

/-- The types that the table speaks of (others have an empty row). -/
def TabOk (P : Program) (T : Tab) : Prop := ∀ t, (T t).k ≠ .other → TiOk P t (T t)

def tabOf (l : List (TypeId × TI)) : Tab := fun t => (l.lookup t).getD {}

theorem tabOk_of (P : Program) (l : List (TypeId × TI)) (h : (l.all fun x => tiB P x.1 x.2) = true) : TabOk P (tabOf l) := by
  intro t ht
  unfold tabOf at ht ⊢
  cases hl : l.lookup t with
  | none => simp [hl] at ht
  | some ti =>
    simp only [Option.getD_some]
    have hm : (t, ti) ∈ l := by
      clear h ht
      induction l with
      | nil => simp at hl
      | cons x l ih =>
        simp only [List.lookup] at hl
        split at hl
        · rename_i e
          have : t = x.1 := by simpa using e
          cases hl
          subst this
          exact List.mem_cons_self
        · exact List.mem_cons_of_mem _ (ih hl)
    exact TiOk.of P t ti (List.all_eq_true.1 h _ hm)

theorem zerosB_rep {vs : List Value} {ps : List PV} (h : zerosB vs ps = true) : vs.length = ps.length ∧ ∀ (i : Nat) (c : PV) (v : Value), ps[i]? = some c → vs[i]? = some v → v.oneCell' = true ∧ ∀ F w, RF F w c v := by
  induction vs generalizing ps with
  | nil => cases ps with
    | nil => exact ⟨rfl, by simp⟩
    | cons => simp [zerosB] at h
  | cons v vs ih => cases ps with
    | nil => simp [zerosB] at h
    | cons p ps =>
      simp only [zerosB, Bool.and_eq_true] at h
      obtain ⟨h1, h2⟩ := ih h.2
      refine ⟨by simp [h1], fun i c u hc hu => ?_⟩
      cases i with
      | zero =>
        simp at hc hu
        subst hc; subst hu
        have h0 := h.1
        unfold zeroB at h0
        split at h0 <;> first
          | (simp at h0; done)
          | (simp at h0; subst h0; exact ⟨rfl, fun F w => .bool _⟩)
          | (simp at h0; obtain ⟨rfl, rfl⟩ := h0; exact ⟨rfl, fun F w => .int _ _⟩)
          | (rename_i s t; have : s = t := by (have := eq_of_beq h0; cases s; cases t; cases this; rfl)
             subst this; exact ⟨rfl, fun F w => .str _⟩)
          | exact ⟨rfl, fun F w => .nilp⟩
          | exact ⟨rfl, fun F w => .nilf⟩
          | exact ⟨rfl, fun F w => .val .nils _ rfl⟩
          | exact ⟨rfl, fun F w => .sl _ _ [] none 0 (fun _ _ => default) (by simp) (by simp) (by simp) (by simp) (by simp) (by simp)⟩
      | succ i => simp at hc hu; exact h2 i c u hc hu

theorem zeros_repL {vs : List Value} {ps : List PV} (h : zerosB vs ps = true) (F : Nat → Prop) (w : World) (m : Ids) : RepL F w m ps vs :=
  ⟨(zerosB_rep h).1, fun i c v hc hv => ⟨((zerosB_rep h).2 i c v hc hv).1, .fz (((zerosB_rep h).2 i c v hc hv).2 F w)⟩⟩

/-! ### Operands -/
def pvCell : Value → PV
  | .bool b => .bool b
  | .int k n => .int k n
  | .string s => .str s
  | .pointer none => .nilp
  | .slice none 0 0 => .sl true 1 []
  | .nilFunc => .nilf
  | .nilIface => .val .nili
  | _ => .any

def pvConst : Value → PV
  | .agg cs => if cs.toList.all (·.oneCell') then .agg (cs.toList.map pvCell) else .any
  | v => pvCell v

theorem pvCell_rep (v : Value) (F : Nat → Prop) (w : World) (m : Ids) : Rep F w m (pvCell v) v := by
  unfold pvCell
  split <;> first
    | exact .fz (.bool _)
    | exact .fz (.int _ _)
    | exact .fz (.str _)
    | exact .fz .nilp
    | exact .fz .nilf
    | exact .fz (.val .nili _ rfl)
    | exact .fz (.sl _ _ [] none 0 (fun _ _ => default) (by simp) (by simp) (by simp) (by simp) (by simp) (by simp))
    | exact .any _

theorem pvConst_rep (v : Value) (F : Nat → Prop) (w : World) (m : Ids) : Rep F w m (pvConst v) v := by
  unfold pvConst
  split
  · rename_i cs
    split
    · rename_i h
      refine .agg _ _ (by simp) (fun i v hv => List.all_eq_true.1 h v (List.mem_of_getElem? (by simpa using hv))) fun i c v hc hv => ?_
      rw [List.getElem?_map] at hc
      have : cs.toList[i]? = some v := by simpa using hv
      rw [this] at hc
      cases hc
      exact pvCell_rep v F w m
    · exact .any _
  · exact pvCell_rep v F w m

def ev (get : Nat → PV) : Operand → PV
  | .tmp t => get t
  | .const v => pvConst v
  | .global _ => .any
  | .func f => .fn (.func f) [] []

theorem SimW.ev {B : Base} {A : AF} {a : Act} {w : World} {F : Nat → Prop} {m : Ids} (h : SimW B A a w F m) (x : Operand) : Rep F w m (ev A.get x) (a.eval x) := by
  cases x with
  | tmp t => exact h.slot t
  | const v => exact pvConst_rep v F w m
  | global g => exact .any _
  | func f => exact .fz (.fn _)

/-! ### What an operation comes to -/
/-- The answer, its conditions, the ids that go, the ids that are put. -/
structure R where
  g : Prop := True
  v : PV
  dels : List Nat := []
  puts : List (Nat × Blk) := []

/-- A pick between truth values whose test is not decided: by 'or' and 'and'. -/
def fPick (c x y : PV) : Option R :=
  match c, x, y with
  | .bool b, .bool p, .bool q => some { v := .bool (bif b then p else q) }
  | .bool b, .int k p, .int k' q => some { g := k = k', v := .int k (bif b then p else q) }
  | .bool true, x, _ => some { v := x }
  | .bool false, _, y => some { v := y }
  | _, _, _ => none

def fBin (op : BinOp) (x y : PV) : Option R :=
  match op, x, y with
  | .shl, .int k a, .int _ b => some { g := 0 ≤ b, v := .int k (k.wrap (a * 2 ^ (min b.toNat k.bits))) }
  | .shr, .int k a, .int _ b => some { g := 0 ≤ b, v := .int k (a.fdiv (2 ^ (min b.toNat k.bits))) }
  | .add, .int k a, .int k' b => some { g := k = k', v := .int k (k.wrap (a + b)) }
  | .sub, .int k a, .int k' b => some { g := k = k', v := .int k (k.wrap (a - b)) }
  | .mul, .int k a, .int k' b => some { g := k = k', v := .int k (k.wrap (a * b)) }
  | .quo, .int k a, .int k' b => some { g := k = k' ∧ b ≠ 0, v := .int k (k.wrap (a.tdiv b)) }
  | .rem, .int k a, .int k' b => some { g := k = k' ∧ b ≠ 0, v := .int k (a.tmod b) }
  | .and, .int k a, .int k' b => some { g := k = k', v := .int k (k.wrap (BitVec.ofInt k.bits a &&& BitVec.ofInt k.bits b).toNat) }
  | .or, .int k a, .int k' b => some { g := k = k', v := .int k (k.wrap (BitVec.ofInt k.bits a ||| BitVec.ofInt k.bits b).toNat) }
  | .xor, .int k a, .int k' b => some { g := k = k', v := .int k (k.wrap (BitVec.ofInt k.bits a ^^^ BitVec.ofInt k.bits b).toNat) }
  | .andNot, .int k a, .int k' b => some { g := k = k', v := .int k (k.wrap (BitVec.ofInt k.bits a &&& ~~~BitVec.ofInt k.bits b).toNat) }
  | .eql, .int k a, .int k' b => some { g := k = k', v := .bool (a == b) }
  | .neq, .int k a, .int k' b => some { g := k = k', v := .bool (a != b) }
  | .lss, .int k a, .int k' b => some { g := k = k', v := .bool (a < b) }
  | .leq, .int k a, .int k' b => some { g := k = k', v := .bool (a ≤ b) }
  | .gtr, .int k a, .int k' b => some { g := k = k', v := .bool (b < a) }
  | .geq, .int k a, .int k' b => some { g := k = k', v := .bool (b ≤ a) }
  | .eql, .str a, .str b => some { v := .bool (a.toList == b.toList) }
  | .neq, .str a, .str b => some { v := .bool (!(a.toList == b.toList)) }
  | _, _, _ => none

/-- Comparisons by the type: truth values, pointers and slices against nil. -/
def fEq (k : TK) (x y : PV) : Option PV :=
  match k, x, y with
  | .bool, .bool a, .bool b => some (.bool (a == b))
  | .ptr _, .nilp, .nilp => some (.bool true)
  | .ptr _, .ptr _ _, .nilp => some (.bool false)
  | .ptr _, .rp .., .nilp => some (.bool false)
  | .ptr _, .nilp, .ptr _ _ => some (.bool false)
  | .func, .nilf, .nilf => some (.bool true)
  | .func, .fn .., .nilf => some (.bool false)
  | _, _, _ => none

def fUn (op : UnOp) (x : PV) : Option R :=
  match op, x with
  | .neg, .int k n => some { v := .int k (k.wrap (0 - n)) }
  | .not, .bool b => some { v := .bool (!b) }
  | .xor, .int k n => some { v := .int k (k.wrap (BitVec.ofInt k.bits (if k.signed then -1 else k.max) ^^^ BitVec.ofInt k.bits n).toNat) }
  | _, _ => none

section
variable {P : Program} {F : Nat → Prop} {w : World} {m : Ids}

theorem fPick_ok {c x y : PV} {r : R} (h : fPick c x y = some r) (hg : r.g) {vc vx vy : Value} (hc : Rep F w m c vc) (hx : Rep F w m x vx) (hy : Rep F w m y vy) :
    ∃ b, vc = .bool b ∧ Rep F w m r.v (if b then vx else vy) ∧ r.dels = [] ∧ r.puts = [] := by
  unfold fPick at h
  split at h
  · cases h; have := hc.bool_inv; have h1 := hx.bool_inv; have h2 := hy.bool_inv; subst this h1 h2
    refine ⟨_, rfl, ?_, rfl, rfl⟩; rename_i b _ _; cases b <;> exact .fz (.bool _)
  · cases h; have := hc.bool_inv; have h1 := hx.int_inv; have h2 := hy.int_inv; subst this h1 h2; dsimp only at hg; subst hg
    refine ⟨_, rfl, ?_, rfl, rfl⟩; rename_i b _ _ _; cases b <;> exact .fz (.int _ _)
  · cases h; have := hc.bool_inv; subst this; exact ⟨true, rfl, hx, rfl, rfl⟩
  · cases h; have := hc.bool_inv; subst this; exact ⟨false, rfl, hy, rfl, rfl⟩
  · cases h

theorem fBin_ok {op : BinOp} {x y : PV} {r : R} (h : fBin op x y = some r) (hg : r.g) {vx vy : Value} (hx : Rep F w m x vx) (hy : Rep F w m y vy) (t : TypeId) :
    ∃ v, (binOp op t vx vy).run P w = .ok v w ∧ Rep F w m r.v v ∧ r.dels = [] ∧ r.puts = [] ∧ (∀ xo yo, (eqGuard op t xo yo vx vy).run P w = .ok () w) := by
  have eg : ∀ (op : BinOp) (k k' : IntKind) (a b : Int) xo yo, (eqGuard op t xo yo (.int k a) (.int k' b)).run P w = .ok () w := fun op k k' a b xo yo => by
    unfold eqGuard; cases op <;> rfl
  have es : ∀ (op : BinOp) (a b : ByteArray) xo yo, (eqGuard op t xo yo (.string a) (.string b)).run P w = .ok () w := fun op a b xo yo => by
    unfold eqGuard; cases op <;> rfl
  unfold fBin at h
  split at h <;> first | cases h | skip
  all_goals first
    | (have h1 := hx.int_inv; have h2 := hy.int_inv; subst h1 h2)
    | (have h1 := hx.str_inv; have h2 := hy.str_inv; subst h1 h2)
  · exact ⟨_, by simp [binOp, Op.shift, show ¬ (_ < (0 : Int)) from Int.not_lt.2 hg], .fz (.int _ _), rfl, rfl, eg _ _ _ _ _⟩
  · exact ⟨_, by simp [binOp, Op.shift, show ¬ (_ < (0 : Int)) from Int.not_lt.2 hg], .fz (.int _ _), rfl, rfl, eg _ _ _ _ _⟩
  · dsimp only at hg; subst hg; exact ⟨_, by simp [binOp, Op.intArith], .fz (.int _ _), rfl, rfl, eg _ _ _ _ _⟩
  · dsimp only at hg; subst hg; exact ⟨_, by simp [binOp, Op.intArith], .fz (.int _ _), rfl, rfl, eg _ _ _ _ _⟩
  · dsimp only at hg; subst hg; exact ⟨_, by simp [binOp, Op.intArith], .fz (.int _ _), rfl, rfl, eg _ _ _ _ _⟩
  · dsimp only at hg; obtain ⟨hg, h0⟩ := hg; subst hg; exact ⟨_, by simp [binOp, Op.intDiv, h0], .fz (.int _ _), rfl, rfl, eg _ _ _ _ _⟩
  · dsimp only at hg; obtain ⟨hg, h0⟩ := hg; subst hg; exact ⟨_, by simp [binOp, Op.intDiv, h0], .fz (.int _ _), rfl, rfl, eg _ _ _ _ _⟩
  · dsimp only at hg; subst hg; exact ⟨_, by simp only [binOp, ne_eq, not_true, if_false, Op.intBits, Sem.run_pure], .fz (.int _ _), rfl, rfl, eg _ _ _ _ _⟩
  · dsimp only at hg; subst hg; exact ⟨_, by simp only [binOp, ne_eq, not_true, if_false, Op.intBits, Sem.run_pure], .fz (.int _ _), rfl, rfl, eg _ _ _ _ _⟩
  · dsimp only at hg; subst hg; exact ⟨_, by simp only [binOp, ne_eq, not_true, if_false, Op.intBits, Sem.run_pure], .fz (.int _ _), rfl, rfl, eg _ _ _ _ _⟩
  · dsimp only at hg; subst hg; exact ⟨_, by simp only [binOp, ne_eq, not_true, if_false, Op.intBits, Sem.run_pure], .fz (.int _ _), rfl, rfl, eg _ _ _ _ _⟩
  · dsimp only at hg; subst hg; exact ⟨_, by simp [binOp, Op.intCmp], .fz (.bool _), rfl, rfl, eg _ _ _ _ _⟩
  · dsimp only at hg; subst hg; exact ⟨_, by simp [binOp, Op.intCmp], .fz (.bool _), rfl, rfl, eg _ _ _ _ _⟩
  · dsimp only at hg; subst hg; exact ⟨_, by simp [binOp, Op.intCmp], .fz (.bool _), rfl, rfl, eg _ _ _ _ _⟩
  · dsimp only at hg; subst hg; exact ⟨_, by simp [binOp, Op.intCmp], .fz (.bool _), rfl, rfl, eg _ _ _ _ _⟩
  · dsimp only at hg; subst hg; exact ⟨_, by simp [binOp, Op.intCmp], .fz (.bool _), rfl, rfl, eg _ _ _ _ _⟩
  · dsimp only at hg; subst hg; exact ⟨_, by simp [binOp, Op.intCmp], .fz (.bool _), rfl, rfl, eg _ _ _ _ _⟩
  · exact ⟨_, by simp only [binOp, Op.stringOp, Sem.run_pure], .fz (.bool _), rfl, rfl, es _ _ _⟩
  · exact ⟨_, by simp only [binOp, Op.stringOp, Sem.run_pure], .fz (.bool _), rfl, rfl, es _ _ _⟩

theorem fUn_ok {op : UnOp} {x : PV} {r : R} (h : fUn op x = some r) {vx : Value} (hx : Rep F w m x vx) :
    ∃ v, (Op.unary op vx).run P w = .ok v w ∧ Rep F w m r.v v ∧ r.dels = [] ∧ r.puts = [] := by
  unfold fUn at h
  split at h <;> first | cases h | skip
  · have h1 := hx.int_inv; subst h1; exact ⟨_, by simp [Op.unary, Op.intArith], .fz (.int _ _), rfl, rfl⟩
  · have h1 := hx.bool_inv; subst h1; exact ⟨_, by simp [Op.unary], .fz (.bool _), rfl, rfl⟩
  · have h1 := hx.int_inv; subst h1; exact ⟨_, by simp only [Op.unary, Op.intBits, Sem.run_pure], .fz (.int _ _), rfl, rfl⟩

end
end Go.Proofs.YtoifmpiikopelaaFw
