/-
  An abstract walk, part J: slices that are built or made.
-/
import Derived.Test.YtoifmpiikopelaaFwI
namespace Go.Proofs.YtoifmpiikopelaaFw
open Go
set_option linter.unusedVariables false
set_option linter.unusedSimpArgs false

section
variable {P : Program} {B : Base} {A : AF} {a : Act} {w : World} {F : Nat → Prop} {m : Ids} {T : Tab} {d : Option Tmp} {u : Nat → Prop} {c : Nat}

theorem zeroRow_length (z : List PV) : ∀ n, (zeroRow z n).length = n * z.length
  | 0 => by simp [zeroRow]
  | n + 1 => by simp [zeroRow, zeroRow_length z n, Nat.succ_mul]; omega

theorem zeroRow_get (z : List PV) : ∀ n i, i < n * z.length → (zeroRow z n)[i]? = z[i % z.length]?
  | 0, i, h => by simp at h
  | n + 1, i, h => by
    simp only [zeroRow]
    by_cases hi : i < z.length
    · rw [List.getElem?_append_left hi, Nat.mod_eq_of_lt hi]
    · rw [List.getElem?_append_right (by omega), zeroRow_get z n (i - z.length) (by rw [Nat.succ_mul] at h; omega)]
      congr 1
      conv => rhs; rw [show i = (i - z.length) + z.length by omega]
      exact (Nat.add_mod_right _ _).symm

theorem zeros_cells {zs : Array Value} {z : List PV} (h : zerosB zs.toList z = true) (n k : Nat) (hk : k ≤ n * z.length) (hz : 0 < z.length) :
    ∀ i, i < k → ∃ v p, ((Array.range k).map (fun i => zs[i % zs.size]!))[i]? = some v ∧ z[i % z.length]? = some p ∧ v.oneCell' = true ∧ ∀ F w m, Rep F w m p v := by
  intro i hi
  obtain ⟨h1, h2⟩ := zerosB_rep h
  have hsz : zs.size = z.length := by simpa using h1
  have hm : i % z.length < z.length := Nat.mod_lt _ hz
  refine ⟨zs[i % z.length], z[i % z.length], ?_, List.getElem?_eq_getElem hm, ?_⟩
  · simp [hi, hsz, hm]
  · have := h2 (i % z.length) z[i % z.length] zs[i % z.length] (List.getElem?_eq_getElem hm) (by simp [hsz, hm])
    exact ⟨this.1, fun F w m => .fz (this.2 F w)⟩

theorem zeroRow_repL {zs : Array Value} {z : List PV} (h : zerosB zs.toList z = true) (n : Nat) (hz : 0 < z.length) : RepL F w m (zeroRow z n) ((Array.range (n * z.length)).map (fun i => zs[i % zs.size]!)).toList := by
  refine ⟨by simp [zeroRow_length], fun i p v hp hv => ?_⟩
  have hi : i < n * z.length := by rw [← zeroRow_length]; exact (List.getElem?_eq_some_iff.1 hp).1
  obtain ⟨v', p', h1, h2, h3, h4⟩ := zeros_cells h n (n * z.length) (Nat.le_refl _) hz i hi
  rw [zeroRow_get z n i hi, h2] at hp
  have hv' : ((Array.range (n * z.length)).map (fun i => zs[i % zs.size]!))[i]? = some v := by rw [Array.getElem?_toList] at hv; exact hv
  rw [h1] at hv'
  cases hp
  cases hv'
  exact ⟨h3, h4 F w m⟩

theorem chunks_length (s : Nat) : ∀ (n : Nat) (l : List PV), (chunks s n l).length = n
  | 0, _ => rfl
  | n + 1, l => by simp [chunks, chunks_length s n]

theorem chunks_get (s : Nat) : ∀ (n : Nat) (l : List PV) (i : Nat), i < n → (chunks s n l)[i]? = some ((l.drop (i * s)).take s)
  | 0, _, _, h => by omega
  | n + 1, l, 0, _ => by simp [chunks]
  | n + 1, l, i + 1, h => by
    simp only [chunks, List.getElem?_cons_succ]
    rw [chunks_get s n _ i (by omega), List.drop_drop, Nat.succ_mul, Nat.add_comm]

theorem own_new {w : World} {vs : Array Value} {e : TypeId} {s n k : Nat} (hk : n ≤ k) (hn : n ≤ 2 ^ 47) (hs : k * s ≤ vs.size) :
    Rep F { w with heap := w.heap.push (.cells vs e) } (updI m c (some ⟨w.heap.size, 0, none⟩)) (.own c s 0 n) (.slice (some ⟨w.heap.size, 0, none⟩) n k) :=
  .own c s 0 n k _ hk hn fun _ => ⟨⟨w.heap.size, 0, none⟩, vs, e, (0, 0), by simp [updI], rfl, by simp, by simp, by simpa using hs⟩

theorem fBuildSlice_ok (hT : TabOk P T) (h : SimW B A a w F m) {t : TypeId} {n : Nat} {parts : Array (Nat × Operand)} {r : R} (hr : fBuildSlice T c t n (parts.toList.map fun x => (x.1, ev A.get x.2)) = some r) (hg : r.g)
    (hd : A.fits d) (hc : ¬ A.used c) (huc : u c) :
    ∃ v w' m', (Instr.buildSlice t n (parts.map fun (x : Nat × Operand) => (x.1, a.eval x.2))).run P w = .ok v w' ∧ SimW B (((A.eff r.dels r.puts).use u).put d r.v) (a.put d v) w' F m' := by
  unfold fBuildSlice at hr
  split at hr
  · rename_i e hk
    have hu := und_slice hT hk
    split at hr
    · rename_i cs g hf
      cases hr
      obtain ⟨hg, hke, h0, hlim⟩ := hg
      obtain ⟨i, z, hi, hs, hb, hz, hzz, hzs, _⟩ := (hT e hke).info
      have hzl : (T e).zero.length = (T e).size := by rw [← hzs, ← (zerosB_rep hzz).1]; simp
      have hzr := zeroRow_repL (F := F) (w := w) (m := m) hzz n (by omega)
      have hlen : (cs : List PV).length = n * (T e).size ∧ True := by
        refine ⟨?_, trivial⟩
        have key : ∀ (place : Nat → Option (Nat × Nat)) (parts : List (Nat × PV)) (cells out : List PV) (g : Prop), fFill place cells parts = some (out, g) → g → out.length = cells.length := by
          intro place parts
          induction parts with
          | nil => intro cells out g h _; simp [fFill] at h; rw [h.1]
          | cons x parts ih =>
            intro cells out g h hg
            obtain ⟨i, p⟩ := x
            simp only [fFill] at h
            cases hp : place i with
            | none => simp [hp] at h
            | some os =>
              simp only [hp] at h
              cases hf : fFill place (splice cells os.1 p.cells) parts with
              | none => simp [hf] at h
              | some og =>
                simp only [hf, Option.some.injEq, Prod.mk.injEq] at h
                obtain ⟨rfl, rfl⟩ := h
                obtain ⟨_, h2, h3, h4⟩ := hg
                rw [ih _ _ _ hf h4, splice_length (by omega)]
        rw [key _ _ _ _ _ hf hg, zeroRow_length, hzl]
      obtain ⟨us, hfu, hru⟩ := fFill_ok _ (parts.map fun (x : Nat × Operand) => (x.1, a.eval x.2)).toList _ _ cs g hf hg hzr (by simp) (parts_rep h parts)
      have hus : us.size = n * (T e).size := by rw [← hlen.1, ← hru.1]; simp
      have hrun : (Instr.buildSlice t n (parts.map fun (x : Nat × Operand) => (x.1, a.eval x.2))).run P w = .ok (.slice (some ⟨w.heap.size, 0, none⟩) n n) { w with heap := w.heap.push (.cells us e) } := by
        have h1 : ¬ (n * (T e).size > 2 ^ 24) := by omega
        rw [hzl] at hfu
        simp only [Instr.buildSlice, Sem.run_bind, run_underlying hu, Result.andThen_ok, run_sizeOf hT hke]
        rw [if_neg h1]
        by_cases hn : n * (T e).size = 0
        · have hn0 : n = 0 := by rcases Nat.mul_eq_zero.1 hn with h | h <;> omega
          subst hn0
          have e0 : ∀ f : Nat → Value, (Array.range 0).map f = #[] := fun f => by simp
          simp only [Nat.zero_mul, if_true, Sem.run_pure, Sem.run_bind, Result.andThen_ok, e0] at hfu ⊢
          rw [hfu]
          simp [newRow]
        · rw [if_neg hn]
          simp only [Sem.run_bind, zeroValue, typeInfo, run_program, Result.andThen_ok, hi, Sem.run_pure, hz, hfu]
          simp [newRow]
      have hgr := h.grow hc (.cells us e) (some ⟨w.heap.size, 0, none⟩)
      have h47 : n ≤ 2 ^ 47 := by
        have : n ≤ n * (T e).size := Nat.le_mul_of_pos_right _ h0
        omega
      refine ⟨_, _, _, hrun, h.new hd hc huc (own_new (Nat.le_refl n) h47 (by omega)) ⟨?_, by rw [chunks_length]; exact h47, .inr ⟨w.heap.size, 0, us, e, (0, 0), rfl, by simp, frOk.zero _, by rw [chunks_length]; omega, fun i j el p hi hj => ?_⟩⟩⟩
      · intro el hel
        obtain ⟨i, hi, e1⟩ := List.mem_iff_getElem.1 hel
        have hi' : i < n := by rw [chunks_length] at hi; exact hi
        have := chunks_get (T e).size n cs i hi'
        rw [List.getElem?_eq_getElem hi, e1] at this
        cases this
        have : i * (T e).size + (T e).size ≤ n * (T e).size := by rw [← Nat.succ_mul]; exact Nat.mul_le_mul_right _ hi'
        simp [hlen.1]; omega
      · have hi' : i < n := by have := (List.getElem?_eq_some_iff.1 hi).1; rwa [chunks_length] at this
        rw [chunks_get _ _ _ _ hi'] at hi
        cases hi
        rw [List.getElem?_take] at hj
        split at hj
        · rename_i hjs
          rw [List.getElem?_drop] at hj
          have hlt := (List.getElem?_eq_some_iff.1 hj).1
          have hlt' : i * (T e).size + j < us.size := by rw [hus, ← hlen.1]; exact hlt
          refine ⟨us[i * (T e).size + j], by simp [hlt'], ?_⟩
          have := hru.2 (i * (T e).size + j) p us[i * (T e).size + j] hj (by simp [hlt'])
          exact ⟨this.1, this.2.mono hgr⟩
        · cases hj
    · cases hr
  · cases hr

theorem fMake_ok (hT : TabOk P T) (h : SimW B A a w F m) {t : TypeId} {x y : PV} {r : R} (hr : fMake T c t x y = some r) (hg : r.g) {vx vy : Value} (hx : Rep F w m x vx) (hy : Rep F w m y vy)
    (hd : A.fits d) (hc : ¬ A.used c) (huc : u c) :
    ∃ v w' m', (Instr.makeSlice t vx vy).run P w = .ok v w' ∧ SimW B (((A.eff r.dels r.puts).use u).put d r.v) (a.put d v) w' F m' := by
  unfold fMake at hr
  split at hr
  · rename_i e n k hk
    have hu := und_slice hT hk
    cases hr
    obtain ⟨hke, h0, hn, hnk, hbytes, hk47⟩ := hg
    have h1 := hx.int_inv; have h2 := hy.int_inv; subst h1 h2
    obtain ⟨i, z, hi, hs, hb, hz, hzz, hzs, _⟩ := (hT e hke).info
    have hzl : (T e).zero.length = (T e).size := by rw [← hzs, ← (zerosB_rep hzz).1]; simp
    obtain ⟨k', rfl⟩ := Int.eq_ofNat_of_zero_le (show 0 ≤ k by omega)
    obtain ⟨n', rfl⟩ := Int.eq_ofNat_of_zero_le hn
    have wn : ∀ q : Nat, q ≤ 2 ^ 47 → IntKind.i64.wrap (q : Int) = q := fun q hq => by
      simp [IntKind.wrap, IntKind.bits, IntKind.signed]
      omega
    have hk' : k' ≤ 2 ^ 47 := by omega
    have hn' : n' ≤ k' := by omega
    have hb48 : ¬ ((i.bytes : Int) * (k' : Int) > 2 ^ 48) := by
      rw [hb, Int.mul_comm]
      have : ((k' * (T e).bytes : Nat) : Int) ≤ 2 ^ 47 := by rw [Int.natCast_mul]; exact hbytes
      rw [Int.natCast_mul] at this
      omega
    have hrun : (Instr.makeSlice t (.int .i64 n') (.int .i64 k')).run P w = .ok (.slice (some ⟨w.heap.size, 0, none⟩) n' k') { w with heap := w.heap.push (.cells ((Array.range (k' * (T e).size)).map (fun i => z.cells[i % z.cells.size]!)) e) } := by
      simp only [Instr.makeSlice, Sem.run_bind, run_underlying hu, Result.andThen_ok, asInt, asIntOf, Sem.run_pure, typeInfo, run_program, hi, wn k' hk', wn n' (by omega)]
      have c1 : ((k' : Int) < 0) = False := by simp
      have c2 : ((n' : Int) < 0) = False := by simp
      have c3 : ((n' : Int) > (k' : Int)) = False := by simp; omega
      have c4 : (decide ((i.bytes : Int) * (k' : Int) > 2 ^ 48)) = false := decide_eq_false hb48
      rw [if_neg (by simp [c4]; omega)]
      simp only [Sem.run_bind, run_askRoom, Result.andThen_ok, run_sizeOf hT hke, Int.toNat_natCast]
      by_cases h00 : k' * (T e).size = 0
      · have e0 : ∀ f : Nat → Value, (Array.range 0).map f = #[] := fun f => by simp
        rw [if_pos h00, h00]
        simp only [e0]
        simp [newRow]
      · rw [if_neg h00]
        simp [zeroValue, typeInfo, hi, hz, newRow]
    have hgr := h.grow hc (.cells ((Array.range (k' * (T e).size)).map (fun i => z.cells[i % z.cells.size]!)) e) (some ⟨w.heap.size, 0, none⟩)
    refine ⟨_, _, _, hrun, h.new hd hc huc ?_ ⟨?_, by simp; omega, .inr ⟨w.heap.size, 0, _, e, _, rfl, by simp; rfl, frOk.zero _, ?_, fun i' j el p hi' hj => ?_⟩⟩⟩
    · have := own_new (F := F) (m := m) (c := c) (w := w) (e := e) (vs := (Array.range (k' * (T e).size)).map (fun i => z.cells[i % z.cells.size]!)) (s := (T e).size) hn' (by omega) (by simp)
      simpa using this
    · intro el hel
      obtain ⟨_, rfl⟩ := List.mem_replicate.1 hel
      exact hzl
    · simp
      exact Nat.mul_le_mul_right _ hn'
    · have hin : i' < n' := by have := (List.getElem?_eq_some_iff.1 hi').1; simpa using this
      have : el = (T e).zero := by
        have := List.mem_of_getElem? hi'
        exact (List.mem_replicate.1 this).2
      subst this
      have hjs : j < (T e).size := by rw [← hzl]; exact (List.getElem?_eq_some_iff.1 hj).1
      have hle : i' * (T e).size + (T e).size ≤ k' * (T e).size := by rw [← Nat.succ_mul]; exact Nat.mul_le_mul_right _ (by omega)
      obtain ⟨v, p', q1, q2, q3, q4⟩ := zeros_cells hzz k' (k' * (T e).size) (by rw [hzl]; exact Nat.le_refl _) (by omega) (i' * (T e).size + j) (by omega)
      rw [hzl, show (i' * (T e).size + j) % (T e).size = j by rw [Nat.add_comm, Nat.add_mul_mod_self_right]; exact Nat.mod_eq_of_lt hjs] at q2
      rw [hj] at q2
      cases q2
      exact ⟨v, by rw [Nat.zero_add]; exact q1, q3, q4 _ _ _⟩
  · cases hr

theorem fMakeC_ok (hT : TabOk P T) (h : SimW B A a w F m) {t : TypeId} {x y : PV} {r : R} (hr : fMakeC T c t x y = some r) (hg : r.g) {vx vy : Value} (hx : Rep F w m x vx) (hy : Rep F w m y vy)
    (hd : A.fits d) (hc : ¬ A.used c) (huc : u c) :
    ∃ v w' m', (Instr.makeSlice t vx vy).run P w = .ok v w' ∧ SimW B (((A.eff r.dels r.puts).use u).put d r.v) (a.put d v) w' F m' := by
  unfold fMakeC at hr
  split at hr
  · rename_i e n k hk
    have hu := und_slice hT hk
    cases hr
    obtain ⟨hke, h0, hn, hnk, hbytes, hk47⟩ := hg
    have h1 := hx.int_inv; have h2 := hy.int_inv; subst h1 h2
    obtain ⟨i, z, hi, hs, hb, hz, hzz, hzs, _⟩ := (hT e hke).info
    have hzl : (T e).zero.length = (T e).size := by rw [← hzs, ← (zerosB_rep hzz).1]; simp
    obtain ⟨k', rfl⟩ := Int.eq_ofNat_of_zero_le (show 0 ≤ k by omega)
    obtain ⟨n', rfl⟩ := Int.eq_ofNat_of_zero_le hn
    have wn : ∀ q : Nat, q ≤ 2 ^ 47 → IntKind.i64.wrap (q : Int) = q := fun q hq => by
      simp [IntKind.wrap, IntKind.bits, IntKind.signed]
      omega
    have hk' : k' ≤ 2 ^ 47 := by omega
    have hn' : n' ≤ k' := by omega
    have hb48 : ¬ ((i.bytes : Int) * (k' : Int) > 2 ^ 48) := by
      rw [hb, Int.mul_comm]
      have : ((k' * (T e).bytes : Nat) : Int) ≤ 2 ^ 47 := by rw [Int.natCast_mul]; exact hbytes
      rw [Int.natCast_mul] at this
      omega
    have hrun : (Instr.makeSlice t (.int .i64 n') (.int .i64 k')).run P w = .ok (.slice (some ⟨w.heap.size, 0, none⟩) n' k') { w with heap := w.heap.push (.cells ((Array.range (k' * (T e).size)).map (fun i => z.cells[i % z.cells.size]!)) e) } := by
      simp only [Instr.makeSlice, Sem.run_bind, run_underlying hu, Result.andThen_ok, asInt, asIntOf, Sem.run_pure, typeInfo, run_program, hi, wn k' hk', wn n' (by omega)]
      have c1 : ((k' : Int) < 0) = False := by simp
      have c2 : ((n' : Int) < 0) = False := by simp
      have c3 : ((n' : Int) > (k' : Int)) = False := by simp; omega
      have c4 : (decide ((i.bytes : Int) * (k' : Int) > 2 ^ 48)) = false := decide_eq_false hb48
      rw [if_neg (by simp [c4]; omega)]
      simp only [Sem.run_bind, run_askRoom, Result.andThen_ok, run_sizeOf hT hke, Int.toNat_natCast]
      by_cases h00 : k' * (T e).size = 0
      · have e0 : ∀ f : Nat → Value, (Array.range 0).map f = #[] := fun f => by simp
        rw [if_pos h00, h00]
        simp only [e0]
        simp [newRow]
      · rw [if_neg h00]
        simp [zeroValue, typeInfo, hi, hz, newRow]
    have hgr := h.grow hc (.cells ((Array.range (k' * (T e).size)).map (fun i => z.cells[i % z.cells.size]!)) e) (some ⟨w.heap.size, 0, none⟩)
    refine ⟨_, _, _, hrun, h.new hd hc huc ?_ ⟨?_, by simp; omega, .inr ⟨w.heap.size, 0, _, e, _, rfl, by simp; rfl, frOk.zero _, ?_, fun i' j el p hi' hj => ?_⟩⟩⟩
    · exact .ownc c (T e).size 0 n' k' _ hn' hk' fun _ => ⟨⟨w.heap.size, 0, none⟩, (Array.range (k' * (T e).size)).map (fun i => z.cells[i % z.cells.size]!), e, (0, 0), by simp [updI], rfl, by simp, by simp, by simp⟩
    · intro el hel
      obtain ⟨_, rfl⟩ := List.mem_replicate.1 hel
      exact hzl
    · simp
    · have hin : i' < k' := by have := (List.getElem?_eq_some_iff.1 hi').1; simpa using this
      have : el = (T e).zero := by
        have := List.mem_of_getElem? hi'
        exact (List.mem_replicate.1 this).2
      subst this
      have hjs : j < (T e).size := by rw [← hzl]; exact (List.getElem?_eq_some_iff.1 hj).1
      have hle : i' * (T e).size + (T e).size ≤ k' * (T e).size := by rw [← Nat.succ_mul]; exact Nat.mul_le_mul_right _ (by omega)
      obtain ⟨v, p', q1, q2, q3, q4⟩ := zeros_cells hzz k' (k' * (T e).size) (by rw [hzl]; exact Nat.le_refl _) (by omega) (i' * (T e).size + j) (by omega)
      rw [hzl, show (i' * (T e).size + j) % (T e).size = j by rw [Nat.add_comm, Nat.add_mul_mod_self_right]; exact Nat.mod_eq_of_lt hjs] at q2
      rw [hj] at q2
      cases q2
      exact ⟨v, by rw [Nat.zero_add]; exact q1, q3, q4 _ _ _⟩
  · cases hr

end
end Go.Proofs.YtoifmpiikopelaaFw
