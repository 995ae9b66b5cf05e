/-
  An abstract walk, part D2: '==' between structs and arrays of numbers, truth values and strings; bytes as a string.
-/
import Derived.Test.YtoifmpiikopelaaFwE
import Derived.Laws.StructEq
import Derived.ChangeKeysEq
namespace Go.Proofs.YtoifmpiikopelaaFw
open Go
set_option linter.unusedVariables false
set_option linter.unusedSimpArgs false

/-- Equal, cell by cell. -/
def eqLeaf : PV → PV → Bool
  | .int _ a, .int _ b => a == b
  | .bool a, .bool b => a == b
  | .str a, .str b => a.toList == b.toList
  | _, _ => false
def eqCells : List PV → List PV → Bool
  | [], _ => true
  | _, [] => true
  | x :: xs, y :: ys => eqLeaf x y && eqCells xs ys
/-- Cells of like kinds, of these types' leaves. -/
def likeLeaf : PV → PV → Prop
  | .int k _, .int j _ => k = j
  | .bool _, .bool _ => True
  | .str _, .str _ => True
  | _, _ => False
def likeCells : List PV → List PV → Prop
  | [], [] => True
  | x :: xs, y :: ys => likeLeaf x y ∧ likeCells xs ys
  | _, _ => False

theorem likeCells_get : ∀ {xs ys : List PV}, likeCells xs ys → xs.length = ys.length ∧ ∀ (i : Nat) (x y : PV), xs[i]? = some x → ys[i]? = some y → likeLeaf x y
  | [], [], _ => ⟨rfl, by simp⟩
  | x :: xs, y :: ys, h => by
    obtain ⟨h1, h2⟩ := likeCells_get h.2
    refine ⟨by simp [h1], fun i a b ha hb => ?_⟩
    cases i with
    | zero => simp at ha hb; subst ha hb; exact h.1
    | succ i => simp at ha hb; exact h2 i a b ha hb
  | [], _ :: _, h => h.elim
  | _ :: _, [], h => h.elim

theorem eqCells_append : ∀ (a b c d : List PV), a.length = b.length → eqCells (a ++ c) (b ++ d) = (eqCells a b && eqCells c d)
  | [], [], c, d, _ => by simp [eqCells]
  | x :: a, y :: b, c, d, h => by simp only [List.cons_append, eqCells, eqCells_append a b c d (by simpa using h), Bool.and_assoc]

section
variable {P : Program} {F : Nat → Prop} {w : World} {m : Ids}

theorem run_isAgg' {t : TypeId} {k : Nat} {d : Nat} (h : plainN P d t = some k) (w : World) : (isAgg t).run P w = .ok (aggB P t) w := by
  cases d with
  | zero => simp [plainN] at h
  | succ d =>
    unfold plainN at h
    cases hu : P.underlying t with
    | none => simp [hu] at h
    | some de =>
      simp only [isAgg, Sem.run_bind, run_underlying hu, Result.andThen_ok, aggB, hu]
      clear h hu
      cases de <;> rfl

/-- What a part of cells stands for. -/
theorem part_plain {t : TypeId} {k d : Nat} (h : plainN P d t = some k) (hs : (P.info? t).map (·.size) = some k) {vs : Array Value} {cs : List PV} (hr : RepL F w m cs vs.toList) {o : Nat} (ho : o + k ≤ cs.length) :
    ∃ v, (part t vs o).run P w = .ok v w ∧ ((aggB P t = true ∧ ∃ us, v = .agg us ∧ RepL F w m ((cs.drop o).take k) us.toList) ∨ (aggB P t = false ∧ k = 1 ∧ Rep F w m (cs.getD o .any) v)) := by
  by_cases ha : aggB P t = true
  · have hsz : (sizeOf t).run P w = .ok k w := by
      cases hi : P.info? t with
      | none => simp [hi] at hs
      | some i => simp [hi] at hs; simp [sizeOf, typeInfo, hi, hs]
    refine ⟨.agg (vs.extract o (o + k)), by simp [part, run_isAgg' h, ha, hsz], .inl ⟨ha, _, rfl, ?_⟩⟩
    have := hr.sub o k
    have e : (vs.toList.drop o).take k = (vs.extract o (o + k)).toList := by simp [List.extract_eq_take_drop]
    rwa [e] at this
  · have hk : k = 1 := by
      cases d with
      | zero => simp [plainN] at h
      | succ d =>
        unfold plainN at h
        unfold aggB at ha
        split at h
        · exact (Option.some.inj h).symm
        · exact (Option.some.inj h).symm
        · exact (Option.some.inj h).symm
        · rename_i e; rw [e] at ha; simp at ha
        · rename_i e; rw [e] at ha; simp at ha
        · cases h
    obtain ⟨v, hv, h1, h2⟩ := hr.get (i := o) (by omega)
    have hv' : vs[o]? = some v := by simpa using hv
    exact ⟨v, by simp [part, run_isAgg' h, ha, hv'], .inr ⟨by simpa using ha, hk, h2⟩⟩

theorem eqCells_take_drop {xs ys : List PV} {o k n : Nat} (hx : o + k + n = xs.length) (hy : xs.length = ys.length) : eqCells (xs.drop o) (ys.drop o) = (eqCells ((xs.drop o).take k) ((ys.drop o).take k) && eqCells (xs.drop (o + k)) (ys.drop (o + k))) := by
  have h1 : xs.drop o = (xs.drop o).take k ++ xs.drop (o + k) := by rw [← List.drop_drop, List.take_append_drop]
  have h2 : ys.drop o = (ys.drop o).take k ++ ys.drop (o + k) := by rw [← List.drop_drop, List.take_append_drop]
  conv => lhs; rw [h1, h2]
  exact eqCells_append _ _ _ _ (by simp [hy])

theorem like_sub {xs ys : List PV} (h : likeCells xs ys) : ∀ (o k : Nat), likeCells ((xs.drop o).take k) ((ys.drop o).take k) := by
  intro o k
  obtain ⟨h1, h2⟩ := likeCells_get h
  have key : ∀ (a b : List PV), a.length = b.length → (∀ (i : Nat) (x y : PV), a[i]? = some x → b[i]? = some y → likeLeaf x y) → likeCells a b := by
    intro a
    induction a with
    | nil => intro b hl _; cases b with
      | nil => trivial
      | cons => simp at hl
    | cons x a ih => intro b hl hh; cases b with
      | nil => simp at hl
      | cons y b => exact ⟨hh 0 x y rfl rfl, ih b (by simpa using hl) fun i x y hx hy => hh (i + 1) x y hx hy⟩
  refine key _ _ (by simp [h1]) fun i x y hx hy => ?_
  rw [List.getElem?_take] at hx hy
  split at hx
  · rename_i hi
    rw [if_pos hi] at hy
    rw [List.getElem?_drop] at hx hy
    exact h2 _ x y hx hy
  · cases hx

theorem leaf_eq {t : TypeId} {d dd k : Nat} (h : plainN P (d + 1) t = some k) (ha : aggB P t = false) {x y : PV} (hl : likeLeaf x y) {vx vy : Value} (hx : Rep F w m x vx) (hy : Rep F w m y vy)
    (hkind : (∃ b, x = .bool b) ∧ P.underlying t = some .bool ∨ (∃ j n, x = .int j n) ∧ (∃ j, P.underlying t = some (.int j)) ∨ (∃ s, x = .str s) ∧ P.underlying t = some .string) :
    (Op.equalIn (dd + 1) t vx vy).run P w = .ok (eqLeaf x y) w := by
  rcases hkind with ⟨⟨b, rfl⟩, hu⟩ | ⟨⟨j, n, rfl⟩, jj, hu⟩ | ⟨⟨s, rfl⟩, hu⟩
  · cases y <;> simp [likeLeaf] at hl
    rw [hx.bool_inv, hy.bool_inv]
    simp [Op.equalIn, run_underlying hu, eqLeaf]
  · cases y <;> simp [likeLeaf] at hl
    subst hl
    rw [hx.int_inv, hy.int_inv]
    simp [Op.equalIn, run_underlying hu, eqLeaf]
  · cases y <;> simp [likeLeaf] at hl
    rw [hx.str_inv, hy.str_inv]
    simp only [Op.equalIn, Sem.run_bind, run_underlying hu, Result.andThen_ok, Sem.run_pure, eqLeaf, beq_toListBytes]

def ofKind : TK → PV → Prop
  | .bool, .bool _ => True
  | .int _, .int _ _ => True
  | .str, .str _ => True
  | _, _ => False

def ofKinds : List TK → List PV → Prop
  | [], [] => True
  | k :: ks, p :: ps => ofKind k p ∧ ofKinds ks ps
  | _, _ => False

theorem ofKinds_append : ∀ {a b : List TK} {xs : List PV}, ofKinds (a ++ b) xs → ofKinds a (xs.take a.length) ∧ ofKinds b (xs.drop a.length)
  | [], b, xs, h => ⟨by cases xs <;> trivial, by simpa using h⟩
  | k :: a, b, [], h => h.elim
  | k :: a, b, x :: xs, h => by
    obtain ⟨h1, h2⟩ := ofKinds_append (a := a) (b := b) h.2
    exact ⟨⟨h.1, h1⟩, h2⟩

theorem ofKinds_len : ∀ {a : List TK} {xs : List PV}, ofKinds a xs → xs.length = a.length
  | [], [], _ => rfl
  | k :: a, x :: xs, h => by simp [ofKinds_len h.2]
  | [], _ :: _, h => h.elim
  | _ :: _, [], h => h.elim

theorem kinds_len : ∀ (d : Nat) (t : TypeId) (k : Nat), plainN P d t = some k → (kindsN P d t).length = k := by
  intro d
  induction d with
  | zero => intro t k h; simp [plainN] at h
  | succ d ihd =>
    intro t k h
    unfold plainN at h
    unfold kindsN
    cases hu : P.underlying t with
    | none => simp [hu] at h
    | some de =>
      rw [hu] at h
      cases de with
      | bool => simpa using h
      | int k => simpa using h
      | string => simpa using h
      | struct fs =>
        simp only [] at h ⊢
        split at h
        · cases h
        · have : ∀ (l : List Field) (o n : Nat), fieldsN (plainN P d) (fun t => (P.info? t).map (·.size)) l o = some n → (l.flatMap fun f => kindsN P d f.type).length + o = n := by
            intro l
            induction l with
            | nil => intro o n h; simp [fieldsN] at h; simpa using h
            | cons g l ih3 =>
              intro o n h
              simp only [fieldsN] at h
              split at h
              · rename_i kg hkg
                split at h
                · have := ih3 _ _ h
                  rw [List.flatMap_cons, List.length_append, ihd _ _ hkg]
                  omega
                · cases h
              · cases h
          have := this _ _ _ h
          simpa using this
      | array n e =>
        simp only [] at h ⊢
        cases hke : plainN P d e with
        | none => simp [hke] at h
        | some ke =>
          simp only [hke] at h
          split at h
          · simp only [Option.some.injEq] at h
            simp [ihd _ _ hke, h]
          · cases h
      | _ => simp at h

theorem equal_plain : ∀ (d : Nat) (t : TypeId) (k dd : Nat), plainN P d t = some k → d ≤ dd → ∀ (xs ys : List PV) (vx vy : Value), xs.length = k → likeCells xs ys → ofKinds (kindsN P d t) xs →
    ((aggB P t = true ∧ ∃ us vs, vx = .agg us ∧ vy = .agg vs ∧ RepL F w m xs us.toList ∧ RepL F w m ys vs.toList) ∨ (aggB P t = false ∧ Rep F w m (xs.getD 0 .any) vx ∧ Rep F w m (ys.getD 0 .any) vy)) →
    (Op.equalIn dd t vx vy).run P w = .ok (eqCells xs ys) w
  | 0, t, k, dd, h, _, _, _, _, _, _, _, _, _ => by simp [plainN] at h
  | d + 1, t, k, 0, h, hd, _, _, _, _, _, _, _, _ => by omega
  | d + 1, t, k, dd + 1, h, hd, xs, ys, vx, vy, hl, hlike, hkinds, hv => by
    obtain ⟨hlen, hget⟩ := likeCells_get hlike
    have leafCase : aggB P t = false → k = 1 → ((∃ b, xs.getD 0 .any = .bool b) ∧ P.underlying t = some .bool ∨ (∃ j n, xs.getD 0 .any = .int j n) ∧ (∃ j, P.underlying t = some (.int j)) ∨ (∃ s, xs.getD 0 .any = .str s) ∧ P.underlying t = some .string) →
        (Op.equalIn (dd + 1) t vx vy).run P w = .ok (eqCells xs ys) w := by
      intro ha hk1 hkk
      rcases hv with ⟨h1, _⟩ | ⟨_, h1, h2⟩
      · rw [ha] at h1; cases h1
      · obtain ⟨x, rfl⟩ : ∃ x, xs = [x] := by
          match xs, hl.trans hk1 with
          | [x], _ => exact ⟨x, rfl⟩
        obtain ⟨y, rfl⟩ : ∃ y, ys = [y] := by
          match ys, hlen.symm with
          | [y], _ => exact ⟨y, rfl⟩
        have e : eqCells [x] [y] = eqLeaf x y := by simp [eqCells]
        rw [e]
        exact leaf_eq h ha hlike.1 h1 h2 hkk
    have h' := h
    unfold plainN at h'
    unfold kindsN at hkinds
    cases hu : P.underlying t with
    | none => simp [hu] at h'
    | some de =>
      rw [hu] at h' hkinds
      cases de with
      | bool =>
        simp at h'
        refine leafCase (by simp [aggB, hu]) h'.symm (.inl ⟨?_, hu⟩)
        match xs, hkinds with
        | [.bool b], _ => exact ⟨b, rfl⟩
      | int j =>
        simp at h'
        refine leafCase (by simp [aggB, hu]) h'.symm (.inr (.inl ⟨?_, j, hu⟩))
        match xs, hkinds with
        | [.int j n], _ => exact ⟨j, n, rfl⟩
      | string =>
        simp at h'
        refine leafCase (by simp [aggB, hu]) h'.symm (.inr (.inr ⟨?_, hu⟩))
        match xs, hkinds with
        | [.str s], _ => exact ⟨s, rfl⟩
      | struct fs =>
        simp only [] at h' hkinds
        split at h'
        · cases h'
        · rename_i hst
          have hagg : aggB P t = true := by simp [aggB, hu]
          rcases hv with ⟨_, us, vs, rfl, rfl, hrx, hry⟩ | ⟨h1, _⟩
          · have hf : P.fieldsOf t = fs := by simp [Program.fieldsOf, hu]
            rw [run_equalIn_struct (P := P) w dd t us vs (by rw [hf]; exact hu) (by simpa using hst), hf]
            have key : ∀ (l : List Field) (o n : Nat), fieldsN (plainN P d) (fun t => (P.info? t).map (·.size)) l o = some n → n = xs.length → o ≤ n → ofKinds (l.flatMap fun f => kindsN P d f.type) (xs.drop o) →
                (Op.eqFields dd us vs l).run P w = .ok (eqCells (xs.drop o) (ys.drop o)) w := by
              intro l
              induction l with
              | nil =>
                intro o n hn hnx hon _
                simp [fieldsN] at hn
                subst hn
                rw [hnx, List.drop_length]
                simp [Op.eqFields, eqCells]
              | cons f l ih =>
                intro o n hn hnx hon hks
                simp only [fieldsN] at hn
                split at hn
                · rename_i kf hkf
                  split at hn
                  · rename_i hc
                    obtain ⟨rfl, hname, hsz⟩ := hc
                    have hmono : ∀ (l : List Field) (o n : Nat), fieldsN (plainN P d) (fun t => (P.info? t).map (·.size)) l o = some n → o ≤ n := by
                      intro l
                      induction l with
                      | nil => intro o n h; simp [fieldsN] at h; omega
                      | cons g l ih2 =>
                        intro o n h
                        simp only [fieldsN] at h
                        split at h
                        · split at h
                          · have := ih2 _ _ h; omega
                          · cases h
                        · cases h
                    have hle := hmono _ _ _ hn
                    obtain ⟨a, ha, hra⟩ := part_plain (F := F) (m := m) hkf hsz hrx (o := f.offset) (by omega)
                    obtain ⟨b, hb, hrb⟩ := part_plain (F := F) (m := m) hkf hsz hry (o := f.offset) (by rw [← hlen]; omega)
                    rw [List.flatMap_cons] at hks
                    obtain ⟨hk1, hk2⟩ := ofKinds_append hks
                    have hkl : (kindsN P d f.type).length = kf := by
                      exact kinds_len d f.type kf hkf
                    rw [hkl] at hk1 hk2
                    have hrec := equal_plain d f.type kf dd hkf (by omega) ((xs.drop f.offset).take kf) ((ys.drop f.offset).take kf) a b (by simp; omega) (like_sub hlike _ _) hk1 (by
                      rcases hra with ⟨q1, ua, rfl, q2⟩ | ⟨q1, q0, q2⟩ <;> rcases hrb with ⟨p1, ub, rfl, p2⟩ | ⟨p1, p0, p2⟩
                      · exact .inl ⟨q1, _, _, rfl, rfl, q2, p2⟩
                      · rw [q1] at p1; cases p1
                      · rw [q1] at p1; cases p1
                      · refine .inr ⟨q1, ?_, ?_⟩
                        · have : ((xs.drop f.offset).take kf).getD 0 .any = xs.getD f.offset .any := by
                            simp only [List.getD_eq_getElem?_getD, List.getElem?_take, if_pos (show 0 < kf by omega), List.getElem?_drop, Nat.add_zero]
                          rw [this]; exact q2
                        · have : ((ys.drop f.offset).take kf).getD 0 .any = ys.getD f.offset .any := by
                            simp only [List.getD_eq_getElem?_getD, List.getElem?_take, if_pos (show 0 < kf by omega), List.getElem?_drop, Nat.add_zero]
                          rw [this]; exact p2)
                    have hnext := ih (f.offset + kf) n hn hnx (by omega) (by rw [← List.drop_drop]; exact hk2)
                    have hn' : f.name ≠ "_" := by simpa using hname
                    simp only [Op.eqFields, if_pos hn', Sem.run_bind, ha, hb, hrec, Result.andThen_ok]
                    rw [eqCells_take_drop (o := f.offset) (k := kf) (n := xs.length - (f.offset + kf)) (by omega) hlen]
                    cases eqCells ((xs.drop f.offset).take kf) ((ys.drop f.offset).take kf) with
                    | false => simp
                    | true => simpa using hnext
                  · cases hn
                · cases hn
            have := key fs.toList 0 k h' hl.symm (by omega) (by simpa using hkinds)
            simpa using this
          · rw [hagg] at h1; cases h1
      | array n e =>
        simp only [] at h' hkinds
        cases hke : plainN P d e with
        | none => simp [hke] at h'
        | some ke =>
          simp only [hke] at h'
          split at h'
          · rename_i hsz
            have hn : n * ke = k := by simpa using h'
            have hagg : aggB P t = true := by simp [aggB, hu]
            rcases hv with ⟨_, us, vs, rfl, rfl, hrx, hry⟩ | ⟨h1, _⟩
            · cases hi : P.info? e with
              | none => simp [hi] at hsz
              | some i =>
                have hce : P.cellsOf e = ke := by simp [hi] at hsz; simp [Program.cellsOf, hi, hsz]
                rw [run_equalIn_array w dd us vs hu hi, hce, List.range_eq_range']
                have key : ∀ (c o : Nat), o + c = n → ofKinds (List.replicate c (kindsN P d e)).flatten (xs.drop (o * ke)) → (Op.eqItems dd e ke us vs (List.range' o c)).run P w = .ok (eqCells (xs.drop (o * ke)) (ys.drop (o * ke))) w := by
                  intro c
                  induction c with
                  | zero =>
                    intro o ho _
                    have : xs.drop (o * ke) = [] := List.drop_eq_nil_of_le (by rw [hl, ← hn]; exact Nat.mul_le_mul_right _ (by omega))
                    rw [this]
                    simp [Op.eqItems, eqCells]
                  | succ c ih =>
                    intro o ho hks
                    have hle : o * ke + ke ≤ n * ke := by rw [← Nat.succ_mul]; exact Nat.mul_le_mul_right _ (by omega)
                    obtain ⟨a, ha, hra⟩ := part_plain (F := F) (m := m) hke hsz hrx (o := o * ke) (by omega)
                    obtain ⟨b, hb, hrb⟩ := part_plain (F := F) (m := m) hke hsz hry (o := o * ke) (by omega)
                    rw [List.replicate_succ, List.flatten_cons] at hks
                    obtain ⟨hk1, hk2⟩ := ofKinds_append hks
                    rw [kinds_len d e ke hke] at hk1 hk2
                    have hrec := equal_plain d e ke dd hke (by omega) ((xs.drop (o * ke)).take ke) ((ys.drop (o * ke)).take ke) a b (by simp; omega) (like_sub hlike _ _) hk1 (by
                      rcases hra with ⟨q1, ua, rfl, q2⟩ | ⟨q1, q0, q2⟩ <;> rcases hrb with ⟨p1, ub, rfl, p2⟩ | ⟨p1, p0, p2⟩
                      · exact .inl ⟨q1, _, _, rfl, rfl, q2, p2⟩
                      · rw [q1] at p1; cases p1
                      · rw [q1] at p1; cases p1
                      · refine .inr ⟨q1, ?_, ?_⟩
                        · have : ((xs.drop (o * ke)).take ke).getD 0 .any = xs.getD (o * ke) .any := by
                            simp only [List.getD_eq_getElem?_getD, List.getElem?_take, if_pos (show 0 < ke by omega), List.getElem?_drop, Nat.add_zero]
                          rw [this]; exact q2
                        · have : ((ys.drop (o * ke)).take ke).getD 0 .any = ys.getD (o * ke) .any := by
                            simp only [List.getD_eq_getElem?_getD, List.getElem?_take, if_pos (show 0 < ke by omega), List.getElem?_drop, Nat.add_zero]
                          rw [this]; exact p2)
                    have hnext := ih (o + 1) (by omega) (by rw [Nat.succ_mul, ← List.drop_drop]; exact hk2)
                    rw [Nat.succ_mul] at hnext
                    simp only [List.range'_succ, Op.eqItems, Sem.run_bind, ha, hb, hrec, Result.andThen_ok]
                    rw [eqCells_take_drop (o := o * ke) (k := ke) (n := xs.length - (o * ke + ke)) (by omega) hlen]
                    cases eqCells ((xs.drop (o * ke)).take ke) ((ys.drop (o * ke)).take ke) with
                    | false => simp
                    | true => simpa using hnext
                have := key n 0 (by omega) (by simpa using hkinds)
                simpa using this
            · rw [hagg] at h1; cases h1
          · cases h'
      | _ => simp at h'

/-- '==' by the table's kinds. -/
def fEqA (ti : TI) (x y : PV) : Option (Prop × Bool) :=
  match ti.kinds, x, y with
  | k :: ks, .agg xs, .agg ys => some (ti.k ≠ .other ∧ ofKinds (k :: ks) xs ∧ likeCells xs ys, eqCells xs ys)
  | _, _, _ => none

theorem fEqA_ok {T : Tab} (hT : TabOk P T) {t : TypeId} {x y : PV} {g : Prop} {b : Bool} (h : fEqA (T t) x y = some (g, b)) (hg : g) {vx vy : Value} (hx : Rep F w m x vx) (hy : Rep F w m y vy) :
    (∀ op, op = .eql ∨ op = .neq → ∀ xo yo, (eqGuard op t xo yo vx vy).run P w = .ok () w) ∧ (binOp .eql t vx vy).run P w = .ok (.bool b) w ∧ (binOp .neq t vx vy).run P w = .ok (.bool !b) w := by
  unfold fEqA at h
  split at h
  · rename_i k ks xs ys hk
    simp only [Option.some.injEq, Prod.mk.injEq] at h
    obtain ⟨rfl, rfl⟩ := h
    obtain ⟨hne, h1, h2⟩ := hg
    obtain ⟨p1, p2, p3⟩ := (hT t hne).plain (by rw [hk]; simp)
    obtain ⟨us, rfl, q1, q2, q3⟩ := hx.agg_inv
    obtain ⟨vs, rfl, r1, r2, r3⟩ := hy.agg_inv
    rw [hk] at p2
    have hagg : aggB P t = true := p3.2
    have hl : xs.length = (T t).size := by rw [ofKinds_len h1, ← p2, kinds_len 8 t _ p1]
    have main := equal_plain (F := F) (m := m) (w := w) 8 t (T t).size 10000 p1 (by omega) xs ys (.agg us) (.agg vs) hl h2 (by rw [p2]; exact h1) (.inl ⟨hagg, us, vs, rfl, rfl, agg_repL q1 q2 q3, agg_repL r1 r2 r3⟩)
    have main' : (Op.equal t (.agg us) (.agg vs)).run P w = .ok (eqCells xs ys) w := main
    refine ⟨?_, ?_, ?_⟩
    · rintro op (rfl | rfl) xo yo <;> simp [eqGuard, p3.1]
    · simp only [binOp, Sem.run_bind, main', Result.andThen_ok, Sem.run_pure]
    · simp only [binOp, Sem.run_bind, main', Result.andThen_ok, Sem.run_pure]
  · cases h

end
end Go.Proofs.YtoifmpiikopelaaFw
