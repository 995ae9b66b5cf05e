/-
  An abstract walk, part F: slices of slices, nil checks, comparisons by type.
-/
import Derived.Test.YtoifmpiikopelaaFwD2
namespace Go.Proofs.YtoifmpiikopelaaFw
open Go
set_option linter.unusedVariables false
set_option linter.unusedSimpArgs false

section
variable {P : Program} {F : Nat → Prop} {w : World} {m : Ids} {T : Tab}

theorem run_bound {k : IntKind} {n : Int} {y : Nat} (code : BoundsCode) (h : 0 ≤ n ∧ n ≤ y) : (Instr.sliceBound (.int k n) y code).run P w = .ok n.toNat w := by
  simp [Instr.sliceBound, asIntOf, h]

/-- The bounds, of numbers within. -/
theorem run_bounds (isS : Bool) (len cap : Nat) (lo hi mx : Option (IntKind × Int)) (hc : len ≤ cap) (hmx : mx.isSome = true → hi.isSome = true)
    (h0 : 0 ≤ (lo.map (·.2)).getD 0) (h1 : (lo.map (·.2)).getD 0 ≤ (hi.map (·.2)).getD (len : Int)) (h2 : (hi.map (·.2)).getD (len : Int) ≤ len) (h3 : ∀ m, mx.map (·.2) = some m → m = (hi.map (·.2)).getD (len : Int)) :
    (Instr.sliceBounds isS len cap (lo.map fun x => .int x.1 x.2) (hi.map fun x => .int x.1 x.2) (mx.map fun x => .int x.1 x.2)).run P w =
      .ok (((lo.map (·.2)).getD (0 : Int)).toNat, ((hi.map (·.2)).getD (len : Int)).toNat, if mx.isSome then ((hi.map (·.2)).getD (len : Int)).toNat else cap) w := by
  cases mx with
  | none =>
    cases hi with
    | none =>
      cases lo with
      | none => simp [Instr.sliceBounds]
      | some l =>
        simp at h0 h1
        simp [Instr.sliceBounds, run_bound (k := l.1) (n := l.2) (y := len) _ ⟨h0, by omega⟩]
    | some h =>
      simp at h2
      cases lo with
      | none =>
        simp at h1
        simp [Instr.sliceBounds, run_bound (k := h.1) (n := h.2) (y := cap) _ ⟨h1, by omega⟩]
      | some l =>
        simp at h0 h1
        simp [Instr.sliceBounds, run_bound (k := h.1) (n := h.2) (y := cap) _ ⟨by omega, by omega⟩, run_bound (k := l.1) (n := l.2) (y := h.2.toNat) _ ⟨h0, by omega⟩]
  | some mm =>
    cases hi with
    | none => simp at hmx
    | some h =>
      simp at h2
      have h3 := h3 mm.2 rfl
      simp at h3
      cases lo with
      | none =>
        simp at h1
        simp [Instr.sliceBounds, run_bound (k := mm.1) (n := mm.2) (y := cap) _ ⟨by omega, by omega⟩, run_bound (k := h.1) (n := h.2) (y := mm.2.toNat) _ ⟨h1, by omega⟩]
        omega
      | some l =>
        simp at h0 h1
        simp [Instr.sliceBounds, run_bound (k := mm.1) (n := mm.2) (y := cap) _ ⟨by omega, by omega⟩, run_bound (k := h.1) (n := h.2) (y := mm.2.toNat) _ ⟨by omega, by omega⟩, run_bound (k := l.1) (n := l.2) (y := h.2.toNat) _ ⟨h0, by omega⟩]
        omega

/-- An optional number, as an abstract operand and as the model's. -/
theorem optI_ok {B : Base} {A : AF} {a : Act} (h : SimW B A a w F m) {x : Option Operand} {n : Option Int} (hx : optI A.get x = some n) :
    ∃ y : Option (IntKind × Int), x.map a.eval = y.map (fun z => .int z.1 z.2) ∧ y.map (·.2) = n := by
  cases x with
  | none => simp [optI] at hx; subst hx; exact ⟨none, rfl, rfl⟩
  | some x =>
    simp only [optI, asI] at hx
    have hr := h.ev x
    cases he : Go.Proofs.YtoifmpiikopelaaFw.ev A.get x with
    | int k i =>
      rw [he] at hx hr
      simp at hx
      subst hx
      exact ⟨some (k, i), by simp [hr.int_inv], rfl⟩
    | _ => simp [he] at hx

theorem fSlice_ok (hT : TabOk P T) {t : TypeId} {x : PV} {lo hi mx : Option (IntKind × Int)} {r : R} (h : fSlice T t x (lo.map (·.2)) (hi.map (·.2)) (mx.map (·.2)) = some r) (hg : r.g) {vx : Value} (hx : Rep F w m x vx) :
    ∃ v, (Instr.sliceAt t vx (lo.map fun x => .int x.1 x.2) (hi.map fun x => .int x.1 x.2) (mx.map fun x => .int x.1 x.2)).run P w = .ok v w ∧ Rep F w m r.v v ∧ r.dels = [] ∧ r.puts = [] := by
  unfold fSlice at h
  split at h
  · rename_i e tt s es hk
    have hu := und_slice hT hk
    cases h
    obtain ⟨h1, hs0, h2, h3, h4, h5⟩ := hg
    have hx := hx.sl_inv
    cases hx with
    | sl _ _ _ a cap val hl ht hs hb hm hc =>
      generalize hL : (lo.map (·.2)).getD 0 = l at *
      generalize hH : (hi.map (·.2)).getD (es.length : Int) = hh at *
      have hbd := run_bounds (P := P) (w := w) true es.length cap lo hi mx hl (fun hs => by
        cases mx with
        | none => simp at hs
        | some mm => have := (h5 mm.2 rfl).2; simpa using this) (by rw [hL]; exact h2) (by rw [hL, hH]; exact h3) (by rw [hH]; exact h4) (fun m hm => by rw [hH]; exact (h5 m hm).1)
      rw [hL, hH] at hbd
      have hlen : ((es.drop l.toNat).take (hh.toNat - l.toNat)).length = hh.toNat - l.toNat := by simp; omega
      refine ⟨.slice (if (if mx.isSome then hh.toNat else cap) = l.toNat then a else a.map (·.add (l.toNat * s))) (hh.toNat - l.toNat) ((if mx.isSome then hh.toNat else cap) - l.toNat), ?_, ?_, rfl, rfl⟩
      · simp [Instr.sliceAt, Instr.slice, run_underlying hu, hbd, run_sizeOf hT h1, hs0]
      · have : hh.toNat - l.toNat = ((es.drop l.toNat).take (hh.toNat - l.toNat)).length := hlen.symm
        rw [show Value.slice _ (hh.toNat - l.toNat) _ = Value.slice (if (if mx.isSome then hh.toNat else cap) = l.toNat then a else a.map (·.add (l.toNat * s))) ((es.drop l.toNat).take (hh.toNat - l.toNat)).length ((if mx.isSome then hh.toNat else cap) - l.toNat) by rw [← this]]
        refine .fz (.sl _ _ _ _ _ (fun i j => val (l.toNat + i) j) ?_ ?_ ?_ ?_ ?_ ?_)
        · rw [hlen]; split <;> omega
        · intro hq
          rw [hlen]
          have : mx.isSome = true := by
            cases mx with
            | none => cases hq
            | some _ => rfl
          simp [this]
        · intro el hel
          exact hs el (List.mem_of_mem_drop (List.mem_of_mem_take hel))
        · rw [hlen]; omega
        · intro i j hi' hj
          rw [hlen] at hi'
          obtain ⟨b, o, rfl, hF, hcell, hone⟩ := hm (l.toNat + i) j (by omega) hj
          refine ⟨b, o + l.toNat * s, ?_, hF, ?_, hone⟩
          · rw [if_neg]
            · simp [add_none]
            · split <;> omega
          · rw [← hcell, Nat.add_mul]; simp [Nat.add_assoc]
        · intro i j el c hi' hj
          rw [List.getElem?_take] at hi'
          split at hi'
          · rw [List.getElem?_drop] at hi'
            exact hc _ j el c hi' hj
          · cases hi'
  · rename_i e b s off len hk
    have hu := und_slice hT hk
    cases h
    obtain ⟨h1, hs0, h2, h3, h4, h5⟩ := hg
    cases hx with
    | fz hx => cases hx
    | own _ _ _ _ cap a' hl hb hc =>
      generalize hL : (lo.map (·.2)).getD 0 = l at *
      generalize hH : (hi.map (·.2)).getD (len : Int) = hh at *
      have hbd := run_bounds (P := P) (w := w) true len cap lo hi mx hl (fun hs => by
        cases mx with
        | none => simp at hs
        | some mm => have := (h5 mm.2 rfl).2; simpa using this) (by rw [hL]; exact h2) (by rw [hL, hH]; exact h3) (by rw [hH]; exact h4) (fun m hm => by rw [hH]; exact (h5 m hm).1)
      rw [hL, hH] at hbd
      obtain ⟨nc, hnc⟩ : ∃ nc, (if mx.isSome then hh.toNat else cap) = nc := ⟨_, rfl⟩
      have hnc1 : nc ≤ cap := by rw [← hnc]; split <;> omega
      have hnc2 : hh.toNat ≤ nc := by rw [← hnc]; split <;> omega
      refine ⟨.slice (if nc = l.toNat then a' else a'.map (·.add (l.toNat * s))) (hh.toNat - l.toNat) (nc - l.toNat), ?_, ?_, rfl, rfl⟩
      · simp [Instr.sliceAt, Instr.slice, run_underlying hu, hbd, run_sizeOf hT h1, hs0, hnc]
      · have key : nc - l.toNat ≠ 0 → off + l.toNat + (nc - l.toNat) ≤ off + cap ∧ cap ≠ 0 ∧ nc ≠ l.toNat := by omega
        refine .own _ _ _ _ _ _ (by omega) (by omega) fun h0 => ?_
        obtain ⟨k1, k2, k3⟩ := key h0
        obtain ⟨a, c, e', fr, h6, h7, rfl, h8, h9⟩ := hc k2
        refine ⟨a, c, e', fr, h6, h7, ?_, h8, ?_⟩
        · rw [if_neg k3]
          simp [add_none, Nat.add_mul, Nat.add_assoc]
        · exact Nat.le_trans (Nat.add_le_add_left (Nat.mul_le_mul_right _ k1) _) h9
  · rename_i e b s off len cap hk
    have hu := und_slice hT hk
    obtain ⟨a', rfl, hl, hb, hc⟩ := hx.ownc_inv
    split at h
    · rename_i h' e1 e2 e3
      cases h
      obtain ⟨h1, hs0, h2, h3⟩ := hg
      cases lo with
      | some _ => simp at e1
      | none =>
      cases mx with
      | some _ => simp at e3
      | none =>
      cases hi with
      | none => simp at e2
      | some hh =>
      simp at e2
      subst e2
      have hbd : (Instr.sliceBounds true len cap none (some (.int hh.1 hh.2)) none).run P w = .ok (0, hh.2.toNat, cap) w := by
        simp [Instr.sliceBounds, run_bound (k := hh.1) (n := hh.2) (y := cap) _ ⟨h2, h3⟩]
      refine ⟨.slice a' hh.2.toNat cap, ?_, ?_, rfl, rfl⟩
      · simp [Instr.sliceAt, Instr.slice, run_underlying hu, hbd, run_sizeOf hT h1, hs0]
        cases a' <;> simp [Addr.add]
      · exact .ownc _ _ _ _ _ _ (by omega) hb hc
    · rename_i l e1 e2 e3
      cases h
      obtain ⟨h1, hs0, h2, h3⟩ := hg
      cases hi with
      | some _ => simp at e2
      | none =>
      cases mx with
      | some _ => simp at e3
      | none =>
      cases lo with
      | none => simp at e1
      | some ll =>
      simp at e1
      subst e1
      have hbd : (Instr.sliceBounds true len cap (some (.int ll.1 ll.2)) none none).run P w = .ok (ll.2.toNat, len, cap) w := by
        simp [Instr.sliceBounds, run_bound (k := ll.1) (n := ll.2) (y := len) _ ⟨h2, h3⟩]
      refine ⟨.slice (if cap = ll.2.toNat then a' else a'.map (·.add (ll.2.toNat * s))) (len - ll.2.toNat) (cap - ll.2.toNat), ?_, ?_, rfl, rfl⟩
      · simp [Instr.sliceAt, Instr.slice, run_underlying hu, hbd, run_sizeOf hT h1, hs0]
      · have key : cap - ll.2.toNat ≠ 0 → off + ll.2.toNat + (cap - ll.2.toNat) ≤ off + cap ∧ cap ≠ 0 ∧ cap ≠ ll.2.toNat := by omega
        refine .own _ _ _ _ _ _ (by omega) (by omega) fun h0 => ?_
        obtain ⟨k1, k2, k3⟩ := key h0
        obtain ⟨a, c, e', fr, h6, h7, rfl, h8, h9⟩ := hc k2
        refine ⟨a, c, e', fr, h6, h7, ?_, h8, ?_⟩
        · rw [if_neg k3]
          simp [add_none, Nat.add_mul, Nat.add_assoc]
        · exact Nat.le_trans (Nat.add_le_add_left (Nat.mul_le_mul_right _ k1) _) h9
    · cases h
  · rename_i s hk
    have hu := und_str hT hk
    cases h
    obtain ⟨h2, h3, h4, h5⟩ := hg
    have h5' : mx = none := by cases mx <;> simp_all
    subst h5'
    have := hx.str_inv; subst this
    generalize hL : (lo.map (·.2)).getD 0 = l at *
    generalize hH : (hi.map (·.2)).getD (s.size : Int) = hh at *
    have hbd := run_bounds (P := P) (w := w) false s.size s.size lo hi none (Nat.le_refl _) (by simp) (by rw [hL]; exact h2) (by rw [hL, hH]; exact h3) (by rw [hH]; exact h4) (by simp)
    rw [hL, hH] at hbd
    simp at hbd
    exact ⟨_, by simp [Instr.sliceAt, Instr.slice, run_underlying hu, hbd], .fz (.str _), rfl, rfl⟩
  · cases h

theorem fNil_ok {x : PV} {r : R} (h : fNil x = some r) (hx' : Value) (hx : Rep F w m x hx') (o : Oper) (y : Operand) (ho : o.op = .nilCheck y) (a : Act) (hy : a.eval y = hx') :
    (execOp a.eval o).run P w = .ok (.value hx') w ∧ Rep F w m r.v hx' ∧ r.dels = [] ∧ r.puts = [] := by
  unfold fNil at h
  split at h <;> first | cases h | skip
  · refine ⟨?_, hx, rfl, rfl⟩
    cases hx with
    | fz hx => cases hx
    | ptr _ _ a hb hp => simp [execOp, ho, hy]
  · refine ⟨?_, hx, rfl, rfl⟩
    cases hx with
    | fz hx => cases hx
    | rp _ _ _ _ a hb hp => simp [execOp, ho, hy]
  · refine ⟨?_, hx, rfl, rfl⟩
    have hx := hx.pf_inv
    cases hx with
    | pf => simp [execOp, ho, hy]
  · refine ⟨?_, hx, rfl, rfl⟩
    obtain ⟨vs, us, rfl, _⟩ := hx.fn_inv
    simp [execOp, ho, hy]

theorem equal_d : ∃ d, ∀ t x y, Op.equal t x y = Op.equalIn (d + 1) t x y := ⟨9999, fun _ _ _ => rfl⟩

set_option maxHeartbeats 2000000 in
theorem fEq_ok (hT : TabOk P T) {k : TK} {x y v : PV} (h : fEq k x y = some v) {t : TypeId} (hk : (T t).k = k) {vx vy : Value} (hx : Rep F w m x vx) (hy : Rep F w m y vy) :
    ∃ b : Bool, v = .bool b ∧ (Op.equal t vx vy).run P w = .ok b w ∧ (∀ op, op = .eql ∨ op = .neq → ∀ xo yo, (eqGuard op t xo yo vx vy).run P w = .ok () w) ∧
      (binOp .eql t vx vy).run P w = .ok (.bool b) w ∧ (binOp .neq t vx vy).run P w = .ok (.bool !b) w := by
  obtain ⟨dd, hdd⟩ := equal_d
  unfold fEq at h
  split at h <;> first | cases h | skip
  · rename_i a b
    have h1 := hx.bool_inv; have h2 := hy.bool_inv; subst h1 h2
    obtain ⟨d, h1, h2⟩ := und_of hT hk (by simp)
    cases d <;> simp [descOf] at h2
    refine ⟨a == b, rfl, ?_, ?_, ?_, ?_⟩
    · simp [hdd, Op.equalIn, run_underlying h1]
    · rintro op (rfl | rfl) xo yo <;> simp [eqGuard]
    all_goals simp [binOp, hdd, Op.equalIn, run_underlying h1]
  all_goals
    obtain ⟨d, h1, h2⟩ := und_of hT hk (by simp)
    cases d <;> simp [descOf] at h2
  · have h3 := hx.nilp_inv; have h4 := hy.nilp_inv; subst h3 h4
    refine ⟨true, rfl, ?_, ?_, ?_, ?_⟩
    · simp [hdd, Op.equalIn, run_underlying h1]
    · rintro op (rfl | rfl) xo yo <;> simp [eqGuard]
    all_goals simp [binOp, hdd, Op.equalIn, run_underlying h1]
  · have h4 := hy.nilp_inv; subst h4
    cases hx with
    | fz hx => cases hx
    | ptr _ _ a hb hp =>
      refine ⟨false, rfl, ?_, ?_, ?_, ?_⟩
      · simp [hdd, Op.equalIn, run_underlying h1]
      · rintro op (rfl | rfl) xo yo <;> simp [eqGuard]
      all_goals simp [binOp, hdd, Op.equalIn, run_underlying h1]
  · have h4 := hy.nilp_inv; subst h4
    cases hx with
    | fz hx => cases hx
    | rp _ _ _ _ a hb hp =>
      refine ⟨false, rfl, ?_, ?_, ?_, ?_⟩
      · simp [hdd, Op.equalIn, run_underlying h1]
      · rintro op (rfl | rfl) xo yo <;> simp [eqGuard]
      all_goals simp [binOp, hdd, Op.equalIn, run_underlying h1]
  · have h4 := hx.nilp_inv; subst h4
    cases hy with
    | fz hy => cases hy
    | ptr _ _ a hb hp =>
      refine ⟨false, rfl, ?_, ?_, ?_, ?_⟩
      · simp [hdd, Op.equalIn, run_underlying h1]
      · rintro op (rfl | rfl) xo yo <;> simp [eqGuard]
      all_goals simp [binOp, hdd, Op.equalIn, run_underlying h1]
  · have h3 : vx = .nilFunc := by cases hx with | fz hx => cases hx; rfl
    have h4 : vy = .nilFunc := by cases hy with | fz hy => cases hy; rfl
    subst h3 h4
    refine ⟨true, rfl, ?_, ?_, ?_, ?_⟩
    · simp [hdd, Op.equalIn, run_underlying h1]
    · rintro op (rfl | rfl) xo yo <;> simp [eqGuard]
    all_goals simp [binOp, hdd, Op.equalIn, run_underlying h1]
  · obtain ⟨vs, us, rfl, _⟩ := hx.fn_inv
    have h4 : vy = .nilFunc := by cases hy with | fz hy => cases hy; rfl
    subst h4
    refine ⟨false, rfl, ?_, ?_, ?_, ?_⟩
    · simp [hdd, Op.equalIn, run_underlying h1]
    · rintro op (rfl | rfl) xo yo <;> simp [eqGuard]
    all_goals simp [binOp, hdd, Op.equalIn, run_underlying h1]

end
end Go.Proofs.YtoifmpiikopelaaFw
