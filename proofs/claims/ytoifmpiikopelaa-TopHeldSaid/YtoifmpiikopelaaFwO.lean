/-
  An abstract walk, part O: one operation.
-/
import Derived.Test.YtoifmpiikopelaaFwN
namespace Go.Proofs.YtoifmpiikopelaaFw
open Go
set_option linter.unusedVariables false
set_option linter.unusedSimpArgs false

/-- '==' and '!=' where the operands are no numbers. -/
def fCmp (T : Tab) (op : BinOp) (t : TypeId) (x y : PV) : Option R :=
  match op, fEqA (T t) x y, fEq (T t).k x y with
  | .eql, some (g, b), _ => some { g := g, v := .bool b }
  | .neq, some (g, b), _ => some { g := g, v := .bool (!b) }
  | .eql, none, some v => some { v := v }
  | .neq, none, some (.bool b) => some { v := .bool (!b) }
  | _, _, _ => none

/-- '== nil' of slices. -/
def fNilS (T : Tab) (op : BinOp) (t : TypeId) (x : PV) (y : Operand) : Option R :=
  match y with
  | .const (.slice none 0 0) => match (T t).k, op, x with
    | .slice _, .eql, .sl _ s es => some { g := 0 < s ∨ es = [], v := if es.isEmpty then .val .abool else .bool false }
    | .slice _, .neq, .sl _ s es => some { g := 0 < s ∨ es = [], v := if es.isEmpty then .val .abool else .bool true }
    | .slice _, .eql, .own _ _ _ len => some { v := if len = 0 then .val .abool else .bool false }
    | .slice _, .neq, .own _ _ _ len => some { v := if len = 0 then .val .abool else .bool true }
    | .slice _, .eql, .ownc _ _ _ _ cap => some { v := if cap = 0 then .val .abool else .bool false }
    | .slice _, .neq, .ownc _ _ _ _ cap => some { v := if cap = 0 then .val .abool else .bool true }
    | .slice _, .eql, .val .nils => some { v := .bool true }
    | .slice _, .neq, .val .nils => some { v := .bool false }
    | _, _, _ => none
  | _ => none

/-- A number in an interface. -/
def fIface (T : Tab) (t : TypeId) (x : PV) : Option R :=
  match (T t).k, x with
  | .int _, .int k n => some { v := .val (.ifc t k n) }
  | _, _ => none

/-- What an operation that enters no function comes to. -/
def fstep (T : Tab) (get : Nat → PV) (st : St) (c : Nat) (op : Op) : Option R :=
  match op with
  | .move x => some { v := ev get x }
  | .assign x => some { v := ev get x }
  | .pick a x y => fPick (ev get a) (ev get x) (ev get y)
  | .alloc e => fAlloc T c e
  | .box _ x => fBox c (ev get x)
  | .build t parts => fBuild T t (parts.toList.map fun x => (x.1, ev get x.2))
  | .buildSlice t n parts => fBuildSlice T c t n (parts.toList.map fun x => (x.1, ev get x.2))
  | .load t a => fLoad T st t (ev get a)
  | .store t a x => fStore T st t (ev get a) (ev get x)
  | .nilCheck x => fNil (ev get x)
  | .binOp op t x y _ => match fBin op (ev get x) (ev get y) with
    | some r => some r
    | none => match fNilS T op t (ev get x) y with
      | some r => some r
      | none => fCmp T op t (ev get x) (ev get y)
  | .unOp op _ x => fUn op (ev get x)
  | .convert s d x => match fConvS T st s d (ev get x) with
    | some r => some r
    | none => fConvB T st s d (ev get x)
  | .makeInterface t x => fIface T t (ev get x)
  | .makeFunc (.func f) first cap => some { v := .fn (.func f) (first.toList.map (ev get)) (cap.toList.map (ev get)) }
  | .makeSlice t l k => match isC64 l k with
    | true => fMakeC T c t (ev get l) (ev get k)
    | false => fMake T c t (ev get l) (ev get k)
  | .slice t x lo hi mx => match optI get lo, optI get hi, optI get mx with
    | some lo, some hi, some mx => fSlice T t (ev get x) lo hi mx
    | _, _, _ => none
  | .fieldAddr t x f => fFieldAddr T t (ev get x) f
  | .field t x f => fField T t (ev get x) f
  | .indexAddr t x i => fIndexAddr T t (ev get x) (ev get i)
  | .index t x i => fIndex T t (ev get x) (ev get i)
  | .extract x i => fExtract (ev get x) i
  | .call { callee := .builtin b, args := args, argTypes := ts } =>
    match b, args.toList, ts.toList with
    | .len, [x], [t] => fLen T t (ev get x)
    | .cap, [x], [t] => fCap T t (ev get x)
    | .max, xs, _ => fMax true (xs.map (ev get))
    | .min, xs, _ => fMax false (xs.map (ev get))
    | .append, [s, x], [t, tx] => fAppend T st c t tx (ev get s) (ev get x)
    | .copy, [s, x], [t, tx] => fCopy T st t tx (ev get s) (ev get x)
    | _, _, _ => none
  | _ => none

section
variable {P : Program} {B : Base} {A : AF} {a : Act} {w : World} {F : Nat → Prop} {m : Ids} {T : Tab} {u : Nat → Prop} {c : Nat}

theorem SimW.use0 (h : SimW B A a w F m) : SimW B ((A.eff [] []).use u) a w F m :=
  ⟨h.defers, h.size, h.slot, h.blk, h.own, h.apart, fun b hb => .inl (h.used b hb), h.fz, h.gr, h.wr⟩

theorem SimW.pure (h : SimW B A a w F m) {d : Option Tmp} {r : R} {v : Value} (hd : A.fits d) (hv : Rep F w m r.v v) (h1 : r.dels = []) (h2 : r.puts = []) :
    SimW B (((A.eff r.dels r.puts).use u).put d r.v) (a.put d v) w F m := by
  rw [h1, h2]
  exact (h.use0 (u := u)).put hd hv

theorem argTypes_two {ts : Array TypeId} {t tx : TypeId} (h : ts.toList = [t, tx]) : ts = #[t, tx] := by
  apply Array.ext'; exact h

theorem nilS_run (hT : TabOk P T) {t e : TypeId} (hk : (T t).k = .slice e) (ao : Option Addr) (n c : Nat) (ty : TypeId) :
    (binOp .eql t (.slice ao n c) (.slice none 0 0)).run P w = .ok (.bool ao.isNone) w ∧ (binOp .neq t (.slice ao n c) (.slice none 0 0)).run P w = .ok (.bool !ao.isNone) w ∧
      ∀ op, op = .eql ∨ op = .neq → ∀ xo yo, (eqGuard op t xo yo (.slice ao n c) (.slice none 0 0)).run P w = .ok () w := by
  obtain ⟨dd, hdd⟩ := equal_d
  have hu := und_slice hT hk
  refine ⟨?_, ?_, ?_⟩
  · cases ao <;> simp [binOp, hdd, Op.equalIn, run_underlying hu]
  · cases ao <;> simp [binOp, hdd, Op.equalIn, run_underlying hu]
  · rintro op (rfl | rfl) xo yo <;> simp [eqGuard]

theorem fNilS_ok (hT : TabOk P T) {op : BinOp} {t : TypeId} {x : PV} {y : Operand} {r : R} (h : fNilS T op t x y = some r) (hg : r.g) {vx vy : Value} (hx : Rep F w m x vx) (hy : y = .const (.slice none 0 0) → vy = .slice none 0 0) :
    ∃ v, (binOp op t vx vy).run P w = .ok v w ∧ Rep F w m r.v v ∧ r.dels = [] ∧ r.puts = [] ∧ (∀ xo yo, (eqGuard op t xo yo vx vy).run P w = .ok () w) := by
  unfold fNilS at h
  split at h
  case h_2 => cases h
  have hvy := hy rfl
  subst hvy
  have bo : ∀ b : Bool, Rep F w m (.val .abool) (.bool b) := fun b => .fz (.val _ _ ⟨b, rfl⟩)
  have slc : ∀ {tt s es}, Rep F w m (.sl tt s es) vx → (0 < s ∨ es = []) → ∃ ao n c, vx = .slice ao n c ∧ (es ≠ [] → ao.isNone = false) := by
    intro tt s es hx hs
    have hx := hx.sl_inv
    cases hx with
    | sl _ _ _ a cap val hl ht hs' hb hm hc =>
      refine ⟨a, _, _, rfl, fun hne => ?_⟩
      have hs0 : 0 < s := hs.resolve_right hne
      have hl0 : 0 < es.length := List.length_pos_iff.2 hne
      obtain ⟨b, o, rfl, _⟩ := hm 0 0 hl0 hs0
      rfl
  have ownr : ∀ {b s off len}, Rep F w m (.own b s off len) vx → ∃ ao n c, vx = .slice ao n c ∧ (len ≠ 0 → ao.isNone = false) := by
    intro b s off len hx
    obtain ⟨cap, a', rfl, h1, h2, h3⟩ := hx.own_inv
    refine ⟨_, _, _, rfl, fun hne => ?_⟩
    obtain ⟨a, c, e, fr, _, _, rfl, _⟩ := h3 (by omega)
    rfl
  have ownrc : ∀ {b s off len cap}, Rep F w m (.ownc b s off len cap) vx → ∃ ao n c, vx = .slice ao n c ∧ (cap ≠ 0 → ao.isNone = false) := by
    intro b s off len cap hx
    obtain ⟨a', rfl, h1, h2, h3⟩ := hx.ownc_inv
    refine ⟨_, _, _, rfl, fun hne => ?_⟩
    obtain ⟨a, c, e, fr, _, _, rfl, _⟩ := h3 hne
    rfl
  split at h <;> first | cases h | skip
  all_goals rename_i hk
  · obtain ⟨ao, n, c, rfl, hn⟩ := slc hx hg
    obtain ⟨h1, h2, h3⟩ := nilS_run (w := w) hT hk ao n c 0
    refine ⟨_, h1, ?_, rfl, rfl, h3 _ (.inl rfl)⟩
    dsimp only
    split
    · exact bo _
    · rename_i hne; rw [hn (by intro e; subst e; simp at hne)]; exact .fz (.bool _)
  · obtain ⟨ao, n, c, rfl, hn⟩ := slc hx hg
    obtain ⟨h1, h2, h3⟩ := nilS_run (w := w) hT hk ao n c 0
    refine ⟨_, h2, ?_, rfl, rfl, h3 _ (.inr rfl)⟩
    dsimp only
    split
    · exact bo _
    · rename_i hne; rw [hn (by intro e; subst e; simp at hne)]; exact .fz (.bool _)
  · obtain ⟨ao, n, c, rfl, hn⟩ := ownr hx
    obtain ⟨h1, h2, h3⟩ := nilS_run (w := w) hT hk ao n c 0
    refine ⟨_, h1, ?_, rfl, rfl, h3 _ (.inl rfl)⟩
    dsimp only
    split
    · exact bo _
    · rename_i hne; rw [hn hne]; exact .fz (.bool _)
  · obtain ⟨ao, n, c, rfl, hn⟩ := ownr hx
    obtain ⟨h1, h2, h3⟩ := nilS_run (w := w) hT hk ao n c 0
    refine ⟨_, h2, ?_, rfl, rfl, h3 _ (.inr rfl)⟩
    dsimp only
    split
    · exact bo _
    · rename_i hne; rw [hn hne]; exact .fz (.bool _)
  · obtain ⟨ao, n, c, rfl, hn⟩ := ownrc hx
    obtain ⟨h1, h2, h3⟩ := nilS_run (w := w) hT hk ao n c 0
    refine ⟨_, h1, ?_, rfl, rfl, h3 _ (.inl rfl)⟩
    dsimp only
    split
    · exact bo _
    · rename_i hne; rw [hn hne]; exact .fz (.bool _)
  · obtain ⟨ao, n, c, rfl, hn⟩ := ownrc hx
    obtain ⟨h1, h2, h3⟩ := nilS_run (w := w) hT hk ao n c 0
    refine ⟨_, h2, ?_, rfl, rfl, h3 _ (.inr rfl)⟩
    dsimp only
    split
    · exact bo _
    · rename_i hne; rw [hn hne]; exact .fz (.bool _)
  · have := hx.val_inv
    cases this
    obtain ⟨h1, h2, h3⟩ := nilS_run (w := w) hT hk none 0 0 0
    exact ⟨_, h1, .fz (.bool _), rfl, rfl, h3 _ (.inl rfl)⟩
  · have := hx.val_inv
    cases this
    obtain ⟨h1, h2, h3⟩ := nilS_run (w := w) hT hk none 0 0 0
    exact ⟨_, h2, .fz (.bool _), rfl, rfl, h3 _ (.inr rfl)⟩

/-- ONE OPERATION IS RIGHT. -/
theorem step_ok (hT : TabOk P T) (h : SimW B A a w F m) {st : St} (hst : ∀ b k, st b = some k → A.st b = some k) {o : Oper} {r : R} (hr : fstep T A.get st c o.op = some r) (hg : r.g)
    (hd : A.fits o.dst) (hc : ¬ A.used c) (huc : u c) :
    ∃ n v w' m', (execOp a.eval o).run P w = .ok n w' ∧ (n = .value v ∨ (n = .skip ∧ v = undef)) ∧ SimW B (((A.eff r.dels r.puts).use u).put o.dst r.v) (a.put o.dst v) w' F m' := by
  have pur : ∀ {v : Value}, (execOp a.eval o).run P w = .ok (.value v) w → Rep F w m r.v v → r.dels = [] → r.puts = [] →
      ∃ n v w' m', (execOp a.eval o).run P w = .ok n w' ∧ (n = .value v ∨ (n = .skip ∧ v = undef)) ∧ SimW B (((A.eff r.dels r.puts).use u).put o.dst r.v) (a.put o.dst v) w' F m' :=
    fun {v} h1 h2 h3 h4 => ⟨_, v, w, m, h1, .inl rfl, h.pure hd h2 h3 h4⟩
  unfold fstep at hr
  split at hr
  · rename_i x ho; cases hr; exact pur (by simp [execOp, ho]) (h.ev x) rfl rfl
  · rename_i x ho; cases hr; exact pur (by simp [execOp, ho]) (h.ev x) rfl rfl
  · rename_i a1 x y ho
    obtain ⟨b, h1, h2, h3, h4⟩ := fPick_ok hr hg (h.ev a1) (h.ev x) (h.ev y)
    exact pur (by simp [execOp, ho, h1, asBool]) h2 h3 h4
  · rename_i e ho
    obtain ⟨v, w', m', h1, h2⟩ := fAlloc_ok hT h hr hg hd hc huc
    exact ⟨_, v, w', m', by simp [execOp, ho, h1], .inl rfl, h2⟩
  · rename_i e x ho
    obtain ⟨v, w', m', h1, h2⟩ := fBox_ok (P := P) (t := e) h hr hg (h.ev x) hd hc huc
    exact ⟨_, v, w', m', by simp [execOp, ho, h1], .inl rfl, h2⟩
  · rename_i t parts ho
    obtain ⟨v, h1, h2, h3, h4⟩ := fBuild_ok hT h hr hg
    exact pur (by simp [execOp, ho, h1]) h2 h3 h4
  · rename_i t n parts ho
    obtain ⟨v, w', m', h1, h2⟩ := fBuildSlice_ok hT h hr hg hd hc huc
    exact ⟨_, v, w', m', by simp [execOp, ho, h1], .inl rfl, h2⟩
  · rename_i t x ho
    obtain ⟨v, h1, h2, h3, h4⟩ := fLoad_ok hT h hst hr hg (h.ev x)
    exact pur (by simp [execOp, ho, h1]) h2 h3 h4
  · rename_i t x y ho
    obtain ⟨w', h1, h2⟩ := fStore_ok (u := u) hT h hst hr hg (h.ev x) (h.ev y) hd
    exact ⟨_, undef, w', m, by simp [execOp, ho, h1], .inr ⟨rfl, rfl⟩, h2⟩
  · rename_i x ho
    obtain ⟨h1, h2, h3, h4⟩ := fNil_ok (P := P) hr _ (h.ev x) o x ho a rfl
    exact pur h1 h2 h3 h4
  · rename_i op t x y ty ho
    split at hr
    · rename_i r' hb
      cases hr
      obtain ⟨v, h1, h2, h3, h4, h5⟩ := fBin_ok (P := P) hb hg (h.ev x) (h.ev y) t
      exact pur (by simp [execOp, ho, h5, h1]) h2 h3 h4
    · rename_i hb0
      clear hb0
      split at hr
      · rename_i r' hb
        cases hr
        obtain ⟨v, h1, h2, h3, h4, h5⟩ := fNilS_ok (P := P) (vy := a.eval y) hT hb hg (h.ev x) (fun e => by subst e; rfl)
        exact pur (by simp [execOp, ho, h5, h1]) h2 h3 h4
      rename_i hb0
      clear hb0
      unfold fCmp at hr
      split at hr
      · rename_i g b he
        cases hr
        obtain ⟨h2, h3, h4⟩ := fEqA_ok hT he hg (h.ev x) (h.ev y)
        exact pur (v := .bool b) (by simp [execOp, ho, h2 .eql (.inl rfl), h3]) (.fz (.bool _)) rfl rfl
      · rename_i g b he
        cases hr
        obtain ⟨h2, h3, h4⟩ := fEqA_ok hT he hg (h.ev x) (h.ev y)
        exact pur (v := .bool (!b)) (by simp [execOp, ho, h2 .neq (.inr rfl), h4]) (.fz (.bool _)) rfl rfl
      · rename_i v _ he
        cases hr
        obtain ⟨b, rfl, _, h2, h3, h4⟩ := fEq_ok hT he rfl (h.ev x) (h.ev y)
        exact pur (v := .bool b) (by simp [execOp, ho, h2 .eql (.inl rfl), h3]) (.fz (.bool _)) rfl rfl
      · rename_i b _ he
        cases hr
        obtain ⟨b', e, _, h2, h3, h4⟩ := fEq_ok hT he rfl (h.ev x) (h.ev y)
        cases e
        exact pur (v := .bool (!b)) (by simp [execOp, ho, h2 .neq (.inr rfl), h4]) (.fz (.bool _)) rfl rfl
      · cases hr
  · rename_i op t x ho
    obtain ⟨v, h1, h2, h3, h4⟩ := fUn_ok (P := P) hr (h.ev x)
    exact pur (by simp [execOp, ho, h1]) h2 h3 h4
  · rename_i s d x ho
    split at hr
    · rename_i r' hb
      cases hr
      obtain ⟨v, w', h1, h2⟩ := fConvS_ok (u := u) hT h hst hb hg (h.ev x) hd
      exact ⟨_, v, w', m, by simp [execOp, ho, h1], .inl rfl, h2⟩
    · obtain ⟨v, h1, h2, h3, h4⟩ := fConvB_ok hT h hst hr hg (h.ev x)
      exact pur (by simp [execOp, ho, h1]) h2 h3 h4
  · rename_i t x ho
    unfold fIface at hr
    split at hr
    · rename_i k0 k n hk hx
      cases hr
      have h1 := h.ev x
      rw [hx] at h1
      have h2 := h1.int_inv
      exact pur (v := .iface t (.int k n)) (by simp [execOp, ho, Instr.makeInterface, run_underlying (und_int hT hk), h2]) (.fz (.val _ _ rfl)) rfl rfl
    · cases hr
  · rename_i f first cap ho
    cases hr
    refine pur (v := .func (.func f) (first.map a.eval) (cap.map a.eval)) (by simp [execOp, ho, Instr.makeFunc]) (.fn _ _ _ _ _ (by simp) (by simp) (fun i p v hp hv => ?_) fun i p v hp hv => ?_) rfl rfl
    · rw [List.getElem?_map, Option.map_eq_some_iff] at hp
      rw [Array.getElem?_map, Option.map_eq_some_iff] at hv
      obtain ⟨x, hx, rfl⟩ := hp
      obtain ⟨y, hy, rfl⟩ := hv
      rw [Array.getElem?_toList, hy] at hx
      injection hx with hx
      subst hx
      exact h.ev _
    · rw [List.getElem?_map, Option.map_eq_some_iff] at hp
      rw [Array.getElem?_map, Option.map_eq_some_iff] at hv
      obtain ⟨x, hx, rfl⟩ := hp
      obtain ⟨y, hy, rfl⟩ := hv
      rw [Array.getElem?_toList, hy] at hx
      injection hx with hx
      subst hx
      exact h.ev _
  · rename_i t l k ho
    split at hr
    · obtain ⟨v, w', m', h1, h2⟩ := fMakeC_ok hT h hr hg (h.ev l) (h.ev k) hd hc huc
      exact ⟨_, v, w', m', by simp [execOp, ho, h1], .inl rfl, h2⟩
    · obtain ⟨v, w', m', h1, h2⟩ := fMake_ok hT h hr hg (h.ev l) (h.ev k) hd hc huc
      exact ⟨_, v, w', m', by simp [execOp, ho, h1], .inl rfl, h2⟩
  · rename_i t x lo hi mx ho
    split at hr
    · rename_i lo' hi' mx' e1 e2 e3
      obtain ⟨y1, p1, q1⟩ := optI_ok h e1
      obtain ⟨y2, p2, q2⟩ := optI_ok h e2
      obtain ⟨y3, p3, q3⟩ := optI_ok h e3
      subst q1 q2 q3
      obtain ⟨v, h1, h2, h3, h4⟩ := fSlice_ok hT hr hg (h.ev x)
      exact pur (by simp only [execOp, ho, p1, p2, p3, Sem.run_bind, h1, Result.andThen_ok, Sem.run_pure]) h2 h3 h4
    · cases hr
  · rename_i t x f ho
    obtain ⟨v, h1, h2, h3, h4⟩ := fFieldAddr_ok hT hr hg (h.ev x)
    exact pur (by simp [execOp, ho, h1]) h2 h3 h4
  · rename_i t x f ho
    obtain ⟨v, h1, h2, h3, h4⟩ := fField_ok hT hr hg (h.ev x)
    exact pur (by simp [execOp, ho, h1]) h2 h3 h4
  · rename_i t x i ho
    obtain ⟨v, h1, h2, h3, h4⟩ := fIndexAddr_ok hT hr hg (h.ev x) (h.ev i)
    exact pur (by simp [execOp, ho, h1]) h2 h3 h4
  · rename_i t x i ho
    obtain ⟨v, h1, h2, h3, h4⟩ := fIndex_ok hT hr hg (h.ev x) (h.ev i)
    exact pur (by simp [execOp, ho, h1]) h2 h3 h4
  · rename_i x i ho
    obtain ⟨v, h1, h2, h3, h4⟩ := fExtract_ok (P := P) hr hg (h.ev x)
    exact pur (by simp [execOp, ho, h1]) h2 h3 h4
  · rename_i b args ts ho
    split at hr
    · rename_i x t ha ht
      have e1 : args = #[x] := Array.ext' ha
      have e2 : ts = #[t] := Array.ext' ht
      subst e1 e2
      obtain ⟨v, h1, h2, h3, h4⟩ := fLen_ok hT hr (h.ev x) o.type #[t] rfl
      exact pur (by simp [execOp, ho, resolve, invoke, builtin, h1]) h2 h3 h4
    · rename_i x t ha ht
      have e1 : args = #[x] := Array.ext' ha
      have e2 : ts = #[t] := Array.ext' ht
      subst e1 e2
      obtain ⟨v, h1, h2, h3, h4⟩ := fCap_ok hT hr (h.ev x) o.type #[t] rfl
      exact pur (by simp [execOp, ho, resolve, invoke, builtin, h1]) h2 h3 h4
    · rename_i xs _
      obtain ⟨v, h1, h2, h3, h4⟩ := fMax_ok (P := P) hr (vs := args.toList.map a.eval) (by simp) (fun i p v hp hv => by
        rw [List.getElem?_map, Option.map_eq_some_iff] at hp hv
        obtain ⟨x, hx, rfl⟩ := hp
        obtain ⟨y, hy, rfl⟩ := hv
        rw [hy] at hx
        injection hx with hx
        subst hx
        exact h.ev _) ts o.type
      have e : (args.toList.map a.eval).toArray = args.map a.eval := Array.ext' (by simp)
      rw [e] at h1
      simp only [if_true] at h1
      exact pur (by simp [execOp, ho, resolve, invoke, builtin, h1]) h2 h3 h4
    · rename_i xs _
      obtain ⟨v, h1, h2, h3, h4⟩ := fMax_ok (P := P) hr (vs := args.toList.map a.eval) (by simp) (fun i p v hp hv => by
        rw [List.getElem?_map, Option.map_eq_some_iff] at hp hv
        obtain ⟨x, hx, rfl⟩ := hp
        obtain ⟨y, hy, rfl⟩ := hv
        rw [hy] at hx
        injection hx with hx
        subst hx
        exact h.ev _) ts o.type
      have e : (args.toList.map a.eval).toArray = args.map a.eval := Array.ext' (by simp)
      rw [e] at h1
      simp only [if_false, Bool.false_eq_true] at h1
      exact pur (by simp [execOp, ho, resolve, invoke, builtin, h1]) h2 h3 h4
    · rename_i s x t tx ha ht
      have e1 : args = #[s, x] := Array.ext' ha
      have e2 : ts = #[t, tx] := Array.ext' ht
      subst e1 e2
      obtain ⟨v, w', m', h1, h2⟩ := fAppend_ok (ty := o.type) hT h hst hr hg (h.ev s) (h.ev x) hd hc huc
      exact ⟨_, v, w', m', by simp [execOp, ho, resolve, invoke, builtin, h1], .inl rfl, h2⟩
    · rename_i s x t tx ha ht
      have e1 : args = #[s, x] := Array.ext' ha
      have e2 : ts = #[t, tx] := Array.ext' ht
      subst e1 e2
      obtain ⟨v, w', h1, h2⟩ := fCopy_ok (ty := o.type) (u := u) hT h hst hr hg (h.ev s) (h.ev x) hd
      exact ⟨_, v, w', m, by simp [execOp, ho, resolve, invoke, builtin, h1], .inl rfl, h2⟩
    · cases hr
  · cases hr

/-- A call of a function, by contract. -/
theorem call_step {f : FuncId} (h : SimW B A a w F m) {st : St} (hst : ∀ b k, st b = some k → A.st b = some k) {o : Oper} {fo : Operand} {args : Array Operand} {ts : Array TypeId} (ho : o.op = .call { callee := .value fo, args := args, argTypes := ts })
    {first cap : List PV} (hf : ev A.get fo = .fn (.func f) first cap) {co : CallO} (hd : A.fits o.dst) (hc : ∀ b, c ≤ b → b < c + 8 → ¬ A.used b ∧ u b)
    (hs : FnX P f co.args co.st0 co.res co.st1) (hg : (fCall st c co (first ++ args.toList.map (ev A.get) ++ cap)).g) {K : Act → World → Prop} {Q : Exit → Act → World → Prop}
    (hK : ∀ v w' F' m', SimW B (((A.eff (fCall st c co (first ++ args.toList.map (ev A.get) ++ cap)).dels (fCall st c co (first ++ args.toList.map (ev A.get) ++ cap)).puts).use u).put o.dst (fCall st c co (first ++ args.toList.map (ev A.get) ++ cap)).v) (a.put o.dst v) w' F' m' → K (a.put o.dst v) w') :
    o.wp P a w K Q := by
  obtain ⟨vs, us, hfv, hn, hk, h1, h2⟩ := (hf ▸ h.ev fo).fn_inv
  have hargs : ∀ (i : Nat) (p : PV) (v : Value), (first ++ args.toList.map (ev A.get) ++ cap)[i]? = some p → (vs ++ args.map a.eval ++ us)[i]? = some v → Rep F w m p v := by
    intro i p v hp hv
    by_cases c1 : i < first.length
    · rw [List.append_assoc, List.getElem?_append_left c1] at hp
      rw [Array.append_assoc, Array.getElem?_append_left (by omega)] at hv
      exact h1 i p v hp hv
    · rw [List.append_assoc, List.getElem?_append_right (by omega)] at hp
      rw [Array.append_assoc, Array.getElem?_append_right (by omega)] at hv
      rw [hn] at hv
      generalize i - first.length = j at *
      by_cases c2 : j < args.size
      · rw [List.getElem?_append_left (by simpa using c2)] at hp
        rw [Array.getElem?_append_left (by simpa using c2)] at hv
        rw [List.getElem?_map, Option.map_eq_some_iff] at hp
        rw [Array.getElem?_map, Option.map_eq_some_iff] at hv
        obtain ⟨x, hx, rfl⟩ := hp
        obtain ⟨y, hy, rfl⟩ := hv
        rw [Array.getElem?_toList, hy] at hx
        injection hx with hx
        subst hx
        exact h.ev _
      · rw [List.getElem?_append_right (by simpa using c2)] at hp
        rw [Array.getElem?_append_right (by simpa using c2)] at hv
        simp at hp hv
        exact h2 _ p v hp hv
  have hsz : (vs ++ args.map a.eval ++ us).size = (first ++ args.toList.map (ev A.get) ++ cap).length := by simp [hn, hk]
  rcases hs with hs | hs
  · obtain ⟨fn, hfn, hname, hbody⟩ := hs.1
    have hrun : (execOp a.eval o).run P w = .ok (.enter f (vs ++ args.map a.eval ++ us)) w := by
      simp only [execOp, ho, resolve, Sem.run_bind, hfv, Deferred.ofValue, Sem.run_pure, Result.andThen_ok, invoke, callFunc, run_program, hfn, hname, hbody, if_false, Bool.false_eq_true]
    unfold Oper.wp
    rw [hrun, Oper.upon_enter]
    refine (call_ok h hst (o := co) (ps := first ++ args.toList.map (ev A.get) ++ cap) hsz hargs hd hc hs hg).mono ?_
    rintro e w' ⟨v, F', m', rfl, hsim⟩
    exact hK v w' F' m' hsim
  · obtain ⟨v, w', F', m', h3, h4⟩ := entry_ok h hst (o := co) (ps := first ++ args.toList.map (ev A.get) ++ cap) hsz hargs hd hc hs hg
    have hrun : (execOp a.eval o).run P w = .ok (.value v) w' := by
      simp only [execOp, ho, resolve, Sem.run_bind, hfv, Deferred.ofValue, Sem.run_pure, Result.andThen_ok, invoke, h3]
    unfold Oper.wp
    rw [hrun, Oper.upon_value]
    exact hK v w' F' m' h4
end
end Go.Proofs.YtoifmpiikopelaaFw
