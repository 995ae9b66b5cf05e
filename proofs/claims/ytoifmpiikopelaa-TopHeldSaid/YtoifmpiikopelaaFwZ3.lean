/-
  An abstract walk, part Z3: a round whose body may leave the loop; the statement itself.
-/
import Derived.Test.YtoifmpiikopelaaFwZ2
namespace Go.Proofs.YtoifmpiikopelaaFw
open Go
set_option linter.unusedVariables false
set_option linter.unusedSimpArgs false

def roundS1 (p0 : Nat) (x0 : PV) (caps : List (Nat × Nat × Nat)) (st0 : List (Nat × Blk)) (n : Nat) : AS := { sl := (p0, x0) :: caps.map (fun x => (x.1, .ptr x.2.1 x.2.2)), st := st0, nx := st0.length, n := n }
/-- Where a round is to end. -/
def endAt (jump : Option Code) (K : AS → Prop) : Post :=
  match jump with
  | none => { n := K, r := fun _ => False }
  | some .ret => { n := fun _ => False, r := K }
  | some (.exit id) => { n := fun _ => False, r := fun _ => False, x := [(id, K)] }
  | some _ => { n := fun _ => False, r := fun _ => False }

section
variable {P : Program} {B B' : Base} {T : Tab} {Q Q' : Post} {s : AS} {l : Nat} {rec : Loop}

theorem lk_caps {caps : List (Nat × Nat × Nat)} {t : Nat} {p : PV} (h : lk (caps.map (fun x => (x.1, PV.ptr x.2.1 x.2.2))) t = some p) : ∃ x ∈ caps, x.1 = t ∧ p = .ptr x.2.1 x.2.2 := by
  have := lk_mem h
  obtain ⟨x, hx, e⟩ := List.mem_map.1 this
  cases e
  exact ⟨x, hx, rfl, rfl⟩

theorem yj_of {K : List (Option Addr)} {jump : Option Code} {co : CallO} {p0 : Nat} {x0 : PV} {caps : List (Nat × Nat × Nat)} {n : Nat} (hst : rec.state = .ready) (hpe : rec.pending = none) (hps : rec.params = #[p0]) (hn : rec.tmps.size = n) (h0 : p0 < n)
    (hcaps : ∀ x ∈ caps, x.1 ≠ p0 ∧ ∃ a : Addr, K[x.2.1]? = some (some a) ∧ a.spot = none ∧ rec.tmps[x.1]? = some (.pointer (some ⟨a.block, a.off + x.2.2, none⟩)))
    (hco : co.args = [x0]) (hres : co.res = .bool jump.isNone)
    (h : ∀ B : Base, Lent B co.st0.length → AWpR P B l rec.assign { n := fun s1 => ∀ B1 : Base, Lent B1 co.st0.length → AWpR P B1 l rec.body (endAt jump fun s2 => storeEnd s2 (co.st0.length + 8) (.bool jump.isNone) co.st1) s1, r := fun _ => False } (roundS1 p0 x0 caps co.st0 n)) : YJ P l rec K jump co := by
  intro B vs hB hK hi
  have hvs : vs.size = 1 := by rw [hi.size, hco]; rfl
  have hlt : l < B.w0.heap.size := (Array.getElem?_eq_some_iff.1 hB.at_).1
  obtain ⟨v0, rfl⟩ : ∃ v0, vs = #[v0] := by
    match vs, hvs with
    | ⟨[v0]⟩, _ => exact ⟨v0, rfl⟩
  refine ⟨_, _, _, _, run_yield hB.at_ (by rw [hps]; rfl), roundIn_of_wpIn trivial ?_⟩
  have hsim : SimW B (roundS1 p0 x0 caps co.st0 n).f { tmps := (rec.params.zip #[v0]).foldl (fun tmps (t, a) => tmps.setIfInBounds t a) rec.tmps, defers := [] } B.w0 B.F0 B.m0 := by
    rw [hps]
    refine ⟨hi.ds.symm, by simp [roundS1, AS.f, hn], fun t => ?_, hi.blk, fun b k x hb hx => ⟨(hi.own b k x hb hx).1, .inr (hi.own b k x hb hx).2⟩, hi.apart, hi.ids, fun x hx => ⟨(hi.fz x hx).1, .inl hx⟩, Grow.refl _ _ _, ⟨rfl, rfl, rfl, Nat.le_refl _, fun _ _ _ => rfl⟩⟩
    show Rep _ _ _ (getPV (lk (roundS1 p0 x0 caps co.st0 n).sl t)) _
    have e : ((#[p0].zip #[v0]).foldl (fun tmps (t, a) => tmps.setIfInBounds t a) rec.tmps) = rec.tmps.setIfInBounds p0 v0 := by simp
    simp only [e, roundS1, lk, Array.getD_eq_getD_getElem?, Array.getElem?_setIfInBounds]
    have r0 := hi.arg 0 x0 v0 (by rw [hco]; rfl) rfl
    by_cases e0 : p0 = t
    · subst e0
      rw [if_pos rfl, if_pos rfl, if_pos (by omega)]
      exact r0
    · rw [if_neg e0, if_neg e0]
      cases hc : lk (caps.map (fun x => (x.1, PV.ptr x.2.1 x.2.2))) t with
      | none => exact .any _
      | some p =>
        obtain ⟨x, hx, rfl, rfl⟩ := lk_caps hc
        obtain ⟨_, a, q1, q2, q3⟩ := hcaps x hx
        rw [q3]
        exact .ptr _ _ a (hK _ a q1) q2
  refine wpIn_mono (h B (fun b x hb => hi.ids b (by rw [hb]; simp)) _ _ ⟨_, _, hsim⟩) ?_
  rintro e a1 w1 ⟨s1, he, F1, m1, hs1⟩
  cases e with
  | normal =>
    obtain ⟨q1, q2, q3⟩ := hs1.ready hB
    have lnk1 := hs1.lnk
    refine ⟨_, run_beginRound q1 hst, ?_⟩
    have hl1 : l < w1.heap.size := (Array.getElem?_eq_some_iff.1 q1).1
    have hre := hs1.re [] (w1 := w1.putObj l (.loop { rec with state := .busy })) (by rw [World.putObj_size]; exact Nat.le_refl _) (fun x ⟨c, e, fr, hx⟩ => World.putObj_heap_other (fun e => by subst e; rw [q1] at hx; cases hx)) (fun x hx => World.putObj_heap_other (fun e => by subst e; exact q2 hx))
    have had : a1.defers = [] := by rw [hs1.defers, hi.ds]
    have ha1 : ({ a1 with defers := [] } : Act) = a1 := by cases a1; simp at had; subst had; rfl
    rw [ha1] at hre
    have hno : ¬ owned s1.f m1 l := fun ⟨b, k, y, r1, r2, r3⟩ => q3 b k y r1 r2 r3
    have fin : ∀ (s2 : AS) (a2 : Act) (w3 : World), (storeEnd s2 (co.st0.length + 8) (.bool jump.isNone) co.st1) → Sim (rebase B (w1.putObj l (.loop { rec with state := .busy })) F1 (owned s1.f m1) []) s2.f a2 w3 →
        ∃ v w', (Instr.endRound l jump).run P w3 = .ok v w' ∧ ∃ v' F m, Ending.returned v = .returned v' ∧ Done (pokeB B l (.loop (recJ rec jump))) co.st0.length co.res co.st1 v' w' F m := by
      rintro s2 a2 w3 he2 ⟨F2, m2, hs2⟩
      have hbusy : w3.heap[l]? = some (.loop { rec with state := .busy }) := by
        rw [hs2.wr.block l (by show l < (w1.putObj l _).heap.size; rw [World.putObj_size]; exact hl1) hno]
        exact World.putObj_heap_same hl1
      have hl3 : l < w3.heap.size := (Array.getElem?_eq_some_iff.1 hbusy).1
      refine ⟨_, _, run_endRound jump hbusy, .bool jump.isNone, ?_⟩
      have e4 : (({ ({ rec with state := LoopState.busy } : Loop) with state := if jump.isNone then LoopState.ready else LoopState.done, pending := jump }) : Loop) = recJ rec jump := by
        cases jump with
        | none => cases rec; simp at hst hpe; subst hst hpe; rfl
        | some j => rfl
      rw [e4]
      generalize ho' : recJ rec jump = rec'
      have hF2 : ¬ F2 l := fun hx => by
        rcases (hs2.fz l hx).2 with r | r | r
        · exact q2 r
        · have : (w1.putObj l (.loop { rec with state := LoopState.busy })).heap.size ≤ l := r
          rw [World.putObj_size] at this; omega
        · exact hno r
      have hne : ∀ x, x ≠ l → (w3.putObj l (.loop rec')).heap[x]? = w3.heap[x]? := fun x hx => World.putObj_heap_other hx
      have hne0 : ∀ x, x ≠ l → (B.w0.putObj l (.loop rec')).heap[x]? = B.w0.heap[x]? := fun x hx => World.putObj_heap_other hx
      have hsz0 : (pokeB B l (.loop rec')).w0.heap.size = B.w0.heap.size := World.putObj_size
      have hown2 : ∀ x, owned s2.f m2 x → x ≠ l := fun x hx e => by
        obtain ⟨c, t, _, q⟩ := owned_cells hs2 hx
        rw [e, hbusy] at q; cases q
      let mm : Ids := fun b => if b < co.st0.length + 8 then m2 b else none
      have hmm : ∀ b, b < co.st0.length + 8 → mm b = m2 b := fun b hb => if_pos hb
      have hids : ∀ b, B.m0 b ≠ none → b < co.st0.length := hi.ids
      have bo : ∀ x, (w1.heap.size ≤ x ∨ owned s1.f m1 x) → B.w0.heap.size ≤ x ∨ B.bor x := fun x hx => by
        rcases hx with hx | hx
        · have := lnk1.wr.size; exact .inl (by omega)
        · exact (lnk1.own x hx).2
      have bo' : ∀ x, ((w1.putObj l (.loop { rec with state := LoopState.busy })).heap.size ≤ x ∨ owned s1.f m1 x) → B.w0.heap.size ≤ x ∨ B.bor x := fun x hx => bo x (by rw [World.putObj_size] at hx; exact hx)
      have gF : Grow F2 w3 m2 F2 (w3.putObj l (.loop rec')) m2 := ⟨fun _ h => h, fun x hx => hne x (fun e => hF2 (e ▸ hx)), fun _ _ h => h, fun x c e fr hx => ⟨c, fr, by rw [hne x (fun e => by subst e; rw [hbusy] at hx; cases hx)]; exact hx, rfl⟩⟩
      refine ⟨F2, mm, rfl, ⟨by rw [hres]; exact .fz (.bool _), fun b k hb => ?_, fun b k x hb hx => ?_, fun b b' k k' x x' hb hb' hneq hx hx' => ?_, fun b hb => ?_, fun x hx => ?_, ⟨fun x hx => ?_, fun x hx => ?_, fun b x hb => ?_, fun x c e fr hx => ?_⟩, ?_⟩⟩
      · obtain ⟨p1, p2, p3, _⟩ := storeEnd_lk he2 b k hb
        obtain ⟨ao, r1, r2⟩ := hs2.blk b k p1
        refine ⟨ao, by rw [hmm b p2]; exact r1, ?_⟩
        have r3 : BlkOk F2 (w3.putObj l (.loop rec')) m2 ao k := r2.mono gF fun y hy => hne _ (hown2 _ ⟨b, k, y, p1, by rw [r1, hy], rfl⟩)
        rw [← Blk.ren_id k] at r3
        exact r3.unren (S := (· < co.st0.length + 8)) hmm p3
      · obtain ⟨p1, p2, p3, _⟩ := storeEnd_lk he2 b k hb
        rw [hmm b p2] at hx
        rw [hsz0]
        exact ⟨(hs2.own b k x p1 hx).1, bo' _ (hs2.own b k x p1 hx).2⟩
      · obtain ⟨p1, p2, p3, _⟩ := storeEnd_lk he2 b k hb
        obtain ⟨p1', p2', p3', _⟩ := storeEnd_lk he2 b' k' hb'
        rw [hmm b p2] at hx
        rw [hmm b' p2'] at hx'
        exact hs2.apart b b' k k' x x' p1 p1' hneq hx hx'
      · exact Classical.byContradiction fun e => hb (if_neg e)
      · rw [hsz0]
        refine ⟨by rw [World.putObj_size]; exact (hs2.fz x hx).1, ?_⟩
        rcases (hs2.fz x hx).2 with r | r
        · exact (lnk1.fz x r).2
        · exact .inr (bo' x r)
      · exact hs2.gr.sub x (lnk1.sub x hx)
      · have hxl : x ≠ l := fun e => q2 (e ▸ lnk1.sub x hx)
        show _ = (B.w0.putObj l (.loop rec')).heap[x]?
        rw [hne x hxl, hne0 x hxl, hs2.gr.same x (lnk1.sub x hx)]
        show (w1.putObj l (.loop { rec with state := LoopState.busy })).heap[x]? = _
        rw [World.putObj_heap_other hxl]
        exact lnk1.same x hx
      · have hb0 : b < co.st0.length := hids b (by
          have : B.m0 b = some x := hb
          rw [this]; simp)
        rw [hmm b (by omega)]
        exact hs2.gr.ids b x hb
      · have hxl : x ≠ l := fun e => by
          subst e
          have hx' : (B.w0.putObj x (.loop rec')).heap[x]? = _ := hx
          rw [World.putObj_heap_same hlt] at hx'; cases hx'
        have hx' : (B.w0.putObj l (.loop rec')).heap[x]? = some (Obj.cells c e fr) := hx
        rw [hne0 x hxl] at hx'
        obtain ⟨c', fr', r1, r2⟩ := lnk1.size x c e fr hx'
        obtain ⟨c'', fr'', r3, r4⟩ := hs2.gr.size x c' e fr' (by show (w1.putObj l (.loop { rec with state := LoopState.busy })).heap[x]? = _; rw [World.putObj_heap_other hxl]; exact r1)
        exact ⟨c'', fr'', by rw [hne x hxl]; exact r3, r4.trans r2⟩
      · have k1 := lnk1.wr
        have k2 := hs2.wr
        refine ⟨k2.os.trans k1.os, k2.tape.trans k1.tape, k2.output.trans k1.output, ?_, fun x hx hb => ?_⟩
        · rw [World.putObj_size, hsz0]
          have := k2.size
          have e5 : (w1.putObj l (.loop { rec with state := LoopState.busy })).heap.size = w1.heap.size := World.putObj_size
          have := k1.size
          have e6 : (rebase B (w1.putObj l (.loop { rec with state := LoopState.busy })) F1 (owned s1.f m1) []).w0.heap.size = w1.heap.size := e5
          omega
        · rw [hsz0] at hx
          show _ = (B.w0.putObj l (.loop rec')).heap[x]?
          by_cases hxl : x = l
          · subst hxl
            rw [World.putObj_heap_same hl3, World.putObj_heap_same hlt]
          · rw [hne x hxl, hne0 x hxl, ← k1.block x hx hb]
            rw [k2.block x (by show x < (w1.putObj l _).heap.size; rw [World.putObj_size]; have := k1.size; omega) (fun ho => ?_)]
            · exact World.putObj_heap_other hxl
            · rcases (lnk1.own x ho).2 with r | r
              · omega
              · exact hb r
    refine wpIn_mono (he _ (fun b x hb => hi.ids b (by rw [show B.m0 b = some x from hb]; simp)) _ _ ⟨_, _, hre⟩) ?_
    rintro e a2 w3 ⟨s2, he2, hs2⟩
    clear he h hre hsim
    cases jump with
    | none =>
      cases e with
      | normal => exact fin s2 a2 w3 he2 hs2
      | ret => exact he2.elim
      | exit id => exact he2.elim
      | _ => exact he2.elim
    | some j =>
      cases j with
      | ret =>
        cases e with
        | normal => exact he2.elim
        | ret => exact fin s2 a2 w3 he2 hs2
        | exit id => exact he2.elim
        | _ => exact he2.elim
      | exit id' =>
        cases e with
        | normal => exact he2.elim
        | ret => exact he2.elim
        | exit id =>
          by_cases e : id' = id
          · subst e
            simp only [endAt, Post.at, lk, if_true] at he2
            exact fin s2 a2 w3 he2 hs2
          · simp only [endAt, Post.at, lk, if_neg e] at he2
        | _ => exact he2.elim
      | _ =>
        cases e with
        | normal => exact he2.elim
        | ret => exact he2.elim
        | exit id => exact he2.elim
        | _ => exact he2.elim
  | ret => exact he.elim
  | exit id => exact he.elim
  | _ => exact he.elim

/-- The statement: how it goes on by the jump that waits. -/
def afterK (P : Program) (B' : Base) (id : Nat) (c3 : Code) (E : AS → Prop) (jump : Option Code) (s : AS) : Prop :=
  match jump with
  | none => AWp P B' c3 { n := E, r := E } s
  | some (.exit id') => id' = id ∧ AWp P B' c3 { n := E, r := E } s
  | some .ret => E s
  | some _ => False

theorem range_wp1 {s : AS} {n0 : Nat} {E : AS → Prop} {g : Operand} {gf : FuncId} {cap : List PV} {p0 : Nat} {assign body c3 : Code} {id : Nat} {ι : Type} {co : ι → CallO} {x0 : ι → PV} {jmp : ι → Option Code} {caps : List (Nat × Nat × Nat)} {r : List Nat} {kc : Nat} {cg : Nat → CallO} {jump : Option Code} (hB : Lent B n0) (hds : B.ds = [])
    (hg : ev s.get g = .fn (.func gf) [] cap) (hp0 : p0 < s.n) (hkc : kc ≤ r.length)
    (hcaps : ∀ x ∈ caps, x.1 ≠ p0 ∧ x.2.1 < kc ∧ s.get x.1 = .ptr (r.getD x.2.1 0) x.2.2)
    (hco : ∀ i, (co i).args = [x0 i] ∧ (co i).res = .bool (jmp i).isNone)
    (hRound : ∀ (l : Nat) (i : ι) (B : Base), Lent B (co i).st0.length → AWpR P B l assign { n := fun s1 => ∀ B1 : Base, Lent B1 (co i).st0.length → AWpR P B1 l body (endAt (jmp i) fun s2 => storeEnd s2 ((co i).st0.length + 8) (.bool (jmp i).isNone) (co i).st1) s1, r := fun _ => False } (roundS1 p0 (x0 i) caps (co i).st0 s.n))
    (hG : ∀ l rec K, K.length = kc → (∀ i, YJ P l rec K (jmp i) (co i)) → FnJ P l rec K jump gf (cg l).args (cg l).st0 (cg l).res (cg l).st1)
    (hr : ∀ l, (cg l).r = r)
    (hcall : ∀ l, (fCall (lk s.st) s.nx (cg l) (.fn (.yield l) [] [] :: cap)).g)
    (h3 : ∀ (l : Nat) (B' : Base), Lent B' n0 → afterK P B' id c3 E jump (s.app none (fCall (lk s.st) s.nx (cg l) (.fn (.yield l) [] [] :: cap)))) :
    ∀ a w, Sim B s.f a w → (Code.block id (.rangeFunc g #[p0] assign body)).wp P (Exit.then (c3.wp P (RawEnd B E)) (RawEnd B E)) a w := by
  rintro a w ⟨F, m, h⟩
  obtain ⟨vs, us, hfv, hn, hk, _, hcap⟩ := (hg ▸ h.ev g).fn_inv
  have hvs : vs = #[] := Array.eq_empty_of_size_eq_zero (by simpa using hn)
  subst hvs
  refine wp_block ((wpIn_wide (n := 0)).1 (wpIn_rangeFunc ?_))
  intro fn _
  generalize hrec : ({ state := .ready, pending := none, fn := fn, tmps := a.tmps, params := #[p0], assign := assign, body := body, defers := w.heap.size } : Loop) = rec
  generalize hl : w.heap.size + 1 = l
  generalize hw1 : (w.alloc (.deferred (some []))).alloc (.loop rec) = w1
  have hsz1 : w1.heap.size = w.heap.size + 2 := by rw [← hw1]; simp
  have hatl : w1.heap[l]? = some (.loop rec) := by
    rw [← hw1, ← hl]
    have e : ((w.alloc (.deferred (some []))).alloc (.loop rec)).heap = (w.heap.push (.deferred (some []))).push (.loop rec) := rfl
    rw [e, Array.getElem?_push, if_pos (by simp)]
  have hatD : w1.heap[w.heap.size]? = some (.deferred (some [])) := by
    rw [← hw1]
    have e : ((w.alloc (.deferred (some []))).alloc (.loop rec)).heap = (w.heap.push (.deferred (some []))).push (.loop rec) := rfl
    rw [e, Array.getElem?_push, if_neg (by simp), Array.getElem?_push, if_pos rfl]
  have hold : ∀ x, x < w.heap.size → w1.heap[x]? = w.heap[x]? := fun x hx => by
    rw [← hw1, alloc_other _ _ (by simp; omega), alloc_other _ _ hx]
  have hlnk1 : Lnk B w1 F (owned s.f m) := by rw [← hw1]; exact (h.lnk.alloc _).alloc _
  have had : a.defers = [] := by rw [h.defers, hds]
  have ha0 : ({ a with defers := [] } : Act) = a := by cases a; simp at had; subst had; rfl
  have hre := h.re [] (w1 := w1) (by omega) (fun x ⟨c, e, fr, hx⟩ => hold x (Array.getElem?_eq_some_iff.1 hx).1) (fun x hx => hold x (h.fz x hx).1)
  rw [ha0] at hre
  have hFl : ¬ F l := fun hx => by have := (h.fz l hx).1; omega
  have hFD : ¬ F w.heap.size := fun hx => by have := (h.fz _ hx).1; omega
  have hol : ¬ owned s.f m l := fun hx => by
    obtain ⟨c, e, _, q⟩ := owned_cells hre hx
    rw [hatl] at q; cases q
  have hoD : ¬ owned s.f m w.heap.size := fun hx => by
    obtain ⟨c, e, _, q⟩ := owned_cells hre hx
    rw [hatD] at q; cases q
  have hready : Ready (rebase B w1 F (owned s.f m) []) l rec := ⟨hatl, hFl, hol⟩
  generalize hKd : ((r.take kc).map fun b => (m b).join) = K
  have hKl : K.length = kc := by rw [← hKd]; simp; omega
  have hKat : ∀ j, j < kc → K[j]? = some ((m (r.getD j 0)).join) := fun j hj => by
    rw [← hKd, List.getElem?_map, List.getElem?_take, if_pos hj, List.getD, List.getElem?_eq_getElem (by omega)]
    rfl
  have hcaps' : ∀ x ∈ caps, x.1 ≠ p0 ∧ ∃ ad : Addr, K[x.2.1]? = some (some ad) ∧ ad.spot = none ∧ rec.tmps[x.1]? = some (.pointer (some ⟨ad.block, ad.off + x.2.2, none⟩)) := fun x hx => by
    obtain ⟨h1, h2, h3⟩ := hcaps x hx
    refine ⟨h1, ?_⟩
    have hrp := h.slot x.1
    have e : s.f.get x.1 = .ptr (r.getD x.2.1 0) x.2.2 := h3
    rw [e] at hrp
    generalize hv : a.tmps.getD x.1 undef = v at hrp
    cases hrp with
    | fz hh => cases hh
    | ptr _ _ ad hb hp =>
      refine ⟨ad, by rw [hKat _ h2, hb]; rfl, hp, ?_⟩
      rw [← hrec]
      rw [Array.getD_eq_getD_getElem?] at hv
      cases hq : a.tmps[x.1]? with
      | none => rw [hq] at hv; simp [undef] at hv
      | some v' => rw [hq] at hv; simp at hv; rw [hv]
  have hfn := hG l rec K hKl fun i => yj_of (n := s.n) (by rw [← hrec]) (by rw [← hrec]) (by rw [← hrec]) (by rw [← hrec]; exact h.size) hp0 hcaps' (hco i).1 (hco i).2 (by rw [← hrec]; exact hRound l i)
  refine ⟨l, [markD w.heap.size], w1, { target := .fn (.func gf) us, args := #[.func (.yield l) #[] #[]] }, w1, gf, #[.func (.yield l) #[] #[]] ++ us, w1, ?_, ?_, fun _ _ => trivial, ?_, fun e => by simp [Fence.wide] at e, callsIn_wide.2 ?_⟩
  · have := run_enterLoop_outer (P := P) (w := w) fn a.tmps #[p0] assign body
    rw [hrec, hw1, hl] at this
    exact this
  · simp only [resolve, Sem.run_bind, hfv, Deferred.ofValue, Sem.run_pure, Result.andThen_ok]
    simp [go_sem]
  · obtain ⟨fn', q1, q2, q3⟩ := hfn.1
    simp only [Sem.run_bind, Sem.run_pure, Result.andThen_ok, invoke, callFunc, run_program, q1, q2, q3, if_false, Bool.false_eq_true]
    try simp
  have hfresh : ∀ b, s.nx ≤ b → b < s.nx + 8 → ¬ s.f.used b ∧ rng s.nx b := fun b h1 h2 => ⟨fun hq => by have : b < s.nx := hq; omega, h1, h2⟩
  have hpk := hre.pokeB hready (recJ rec jump)
  have hatl2 : (w1.putObj l (.loop (recJ rec jump))).heap[l]? = some (.loop (recJ rec jump)) := World.putObj_heap_same (by omega)
  have hne2 : ∀ x, x ≠ l → (w1.putObj l (.loop (recJ rec jump))).heap[x]? = w1.heap[x]? := fun x hx => World.putObj_heap_other hx
  generalize hw2 : w1.putObj l (.loop (recJ rec jump)) = w2 at hpk hatl2 hne2
  have hsz2 : w2.heap.size = w1.heap.size := by rw [← hw2]; exact World.putObj_size
  have hBl0 : B.w0.heap.size ≤ l := by have := h.wr.size; omega
  have hlnk2 : Lnk B w2 F (owned s.f m) := by rw [← hw2]; exact hlnk1.poke hBl0 hFl
  have hbase : Go.Proofs.YtoifmpiikopelaaFw.pokeB (rebase B w1 F (owned s.f m) []) l (.loop (recJ rec jump)) = rebase B w2 F (owned s.f m) [] := by
    unfold Go.Proofs.YtoifmpiikopelaaFw.pokeB rebase
    rw [← hw2]
  rw [hbase] at hpk
  have hready2 : Ready (rebase B w2 F (owned s.f m) []) l (recJ rec jump) := ⟨hatl2, hFl, hol⟩
  have key := call_gen hpk (st := lk s.st) (fun b k hb => hb) (o := cg l) (ps := .fn (.yield l) [] [] :: cap) (vs := #[.func (.yield l) #[] #[]] ++ us) (by simp [hk]; omega) (fun i p v hp hv => by
      cases i with
      | zero =>
        have hv' : some (Value.func (.yield l) #[] #[]) = some v := by rw [← hv, Array.getElem?_append_left (by simp)]; rfl
        cases hv'
        rw [List.getElem?_cons_zero] at hp
        cases hp
        exact .fz (.fn _)
      | succ i =>
        rw [List.getElem?_cons_succ] at hp
        rw [Array.getElem?_append_right (by simp)] at hv
        simp at hv
        have hne3 : ∀ x, x < w.heap.size → w2.heap[x]? = w.heap[x]? := fun x hx => by rw [hne2 x (by omega), hold x hx]
        exact (hcap i p v hp hv).mono ⟨fun _ h => h, fun x hx => hne3 x (h.fz x hx).1, fun _ _ h => h, fun x c e fr hx => ⟨c, fr, by rw [hne3 x (Array.getElem?_eq_some_iff.1 hx).1]; exact hx, rfl⟩⟩)
    (d := none) (c := s.nx) (u := rng s.nx) (by intro t ht; cases ht) hfresh (X := Calls P gf (#[.func (.yield l) #[] #[]] ++ us) w1) (fun _ _ hr hc => hc.mono hr)
    (fun B' e hF hb hm0 init => by
      have hF' : ¬ B'.F0 l := fun hx => by
        rcases hF l hx with hx | ⟨b, k, y, q1, q2, q3⟩
        · exact hFl hx
        · exact hol ⟨b, k, y, q1, q2, q3⟩
      have hb' : ¬ B'.bor l := fun hx => by
        obtain ⟨b, k, y, q1, q2, q3⟩ := hb l hx
        exact hol ⟨b, k, y, q1, q2, q3⟩
      have hkn : Known { B' with w0 := w1 } K := fun j ad hj => by
        have hjl : j < kc := by rw [← hKl]; exact (List.getElem?_eq_some_iff.1 hj).1
        rw [hKat j hjl] at hj
        have hjr : j < (cg l).r.length := by rw [hr l]; omega
        show B'.m0 j = _
        rw [hm0 j hjr]
        have : (cg l).ren s.nx j = r.getD j 0 := by
          simp only [CallO.ren]
          rw [if_pos hjr, hr l]
        rw [this]
        cases hq : m (r.getD j 0) with
        | none => rw [hq] at hj; cases hj
        | some x => rw [hq] at hj; cases hj; rfl
      have := hfn.2 { B' with w0 := w1 } _ ⟨hatl, hF', hb'⟩ hkn (init.unpoke (e.trans hw2.symm) hatl hF' hb')
      have e2 : Go.Proofs.YtoifmpiikopelaaFw.pokeB { B' with w0 := w1 } l (.loop (recJ rec jump)) = B' := by
        unfold Go.Proofs.YtoifmpiikopelaaFw.pokeB
        show ({ B' with w0 := w1.putObj l (.loop (recJ rec jump)) } : Base) = B'
        rw [hw2, ← e]
      rw [e2] at this
      exact this) (hcall l)
  refine key.mono ?_
  rintro e w3 ⟨v, F3, m3, rfl, hs3⟩
  have hs3' : SimW (rebase B w2 F (owned s.f m) []) (s.app none (fCall (lk s.st) s.nx (cg l) (.fn (.yield l) [] [] :: cap))).f a w3 F3 m3 := hs3.toApp
  obtain ⟨q1, q2, q3⟩ := hs3'.ready hready2
  have hD3 : w3.heap[w.heap.size]? = some (.deferred (some [])) := by
    rw [hs3'.wr.block w.heap.size (by show w.heap.size < w2.heap.size; omega) hoD]
    show w2.heap[w.heap.size]? = _
    rw [hne2 _ (by omega)]; exact hatD
  have hF3D : ¬ F3 w.heap.size := fun hx => by
    rcases (hs3'.fz _ hx).2 with r | r | r
    · exact hFD r
    · have : w2.heap.size ≤ w.heap.size := r; omega
    · exact hoD r
  have hsr : (recJ rec jump).state ≠ .busy := by
    rw [← hrec]
    cases jump <;> simp [recJ]
  have hpe : (recJ rec jump).pending = jump := by
    rw [← hrec]
    cases jump <;> simp [recJ]
  have hend := run_endLoop (P := P) q1 hsr
  generalize hw4 : w3.putObj l (.loop { recJ rec jump with state := .exhausted }) = w4 at hend
  rw [hpe] at hend
  refine ⟨jump, w4, hend, ?_⟩
  have hun := hs3'.un hlnk2
  have hlnk3 : Lnk { B with ds := [] } w3 F3 (owned (s.app none (fCall (lk s.st) s.nx (cg l) (.fn (.yield l) [] [] :: cap))).f m3) := hun.lnk
  have hBD : B.w0.heap.size ≤ w.heap.size := h.wr.size
  have hlnk4 := hlnk3.poke (l := l) (o := .loop { recJ rec jump with state := .exhausted }) hBl0 q2
  have hre4 := hs3'.re [markD w.heap.size] (w1 := w3.putObj l (.loop { recJ rec jump with state := .exhausted })) (by rw [World.putObj_size]; exact Nat.le_refl _) (fun x ⟨c, e, fr, hx⟩ => World.putObj_heap_other fun e' => by subst e'; rw [q1] at hx; cases hx) (fun x hx => World.putObj_heap_other fun e => q2 (e ▸ hx))
  rw [hw4] at hlnk4 hre4
  have ho3D : ¬ owned (s.app none (fCall (lk s.st) s.nx (cg l) (.fn (.yield l) [] [] :: cap))).f m3 w.heap.size := fun hx => by
    obtain ⟨c, e, _, q⟩ := owned_cells hs3' hx
    rw [hD3] at q; cases q
  have hne : w.heap.size ≠ l := by omega
  have hlt3 : w.heap.size < w3.heap.size := (Array.getElem?_eq_some_iff.1 hD3).1
  have hD4 : w4.heap[w.heap.size]? = some (.deferred (some [])) := by rw [← hw4, World.putObj_heap_other hne]; exact hD3
  have hs4 : w4.heap.size = w3.heap.size := by rw [← hw4]; exact World.putObj_size
  have had2 : ({ a with defers := [markD w.heap.size] ++ a.defers } : Act) = { a with defers := [markD w.heap.size] } := by rw [had]; rfl
  rw [had2]
  have rest : AWp P (rebase { B with ds := [] } w4 F3 (owned (s.app none (fCall (lk s.st) s.nx (cg l) (.fn (.yield l) [] [] :: cap))).f m3) [markD w.heap.size]) c3 { n := E, r := E } (s.app none (fCall (lk s.st) s.nx (cg l) (.fn (.yield l) [] [] :: cap))) →
      c3.wp P (RawEnd B E) { a with defers := [markD w.heap.size] } w4 := fun h3 => by
    refine wp_mono (h3 _ _ ⟨F3, m3, hre4⟩) ?_
    rintro e a5 w5 ⟨s5, he5, F5, m5, hs5⟩
    have h5 := hs5.un hlnk4
    have hD5 : w5.heap[w.heap.size]? = some (.deferred (some [])) := by
      rw [hs5.wr.block w.heap.size (by show w.heap.size < w4.heap.size; omega) ho3D]
      exact hD4
    have hF5D : ¬ F5 w.heap.size := fun hx => by
      rcases (hs5.fz _ hx).2 with r | r | r
      · exact hF3D r
      · have : w4.heap.size ≤ w.heap.size := r
        omega
      · exact ho3D r
    cases e with
    | normal => exact ⟨.inl rfl, s5, F5, m5, he5, .inr ⟨_, h5, hD5, hBD, hF5D⟩⟩
    | ret => exact ⟨.inr rfl, s5, F5, m5, he5, .inr ⟨_, h5, hD5, hBD, hF5D⟩⟩
    | exit id => exact he5.elim
    | _ => exact he5.elim
  have hAf := h3 l (rebase { B with ds := [] } w4 F3 (owned (s.app none (fCall (lk s.st) s.nx (cg l) (.fn (.yield l) [] [] :: cap))).f m3) [markD w.heap.size]) hB
  cases jump with
  | none => exact rest hAf
  | some j =>
    cases j with
    | ret =>
      refine wpIn_ret ?_
      exact ⟨.inr rfl, _, F3, m3, hAf, .inr ⟨_, hre4.un hlnk4, hD4, hBD, hF3D⟩⟩
    | exit id' =>
      refine wpIn_exit ?_
      obtain ⟨rfl, hAf⟩ := hAf
      simp only [Exit.inBlock, if_true]
      exact rest hAf
    | _ => exact hAf.elim
end
end Go.Proofs.YtoifmpiikopelaaFw
