/-
  An abstract walk, part U: what comes in, read as abstract values, by the shape of its type; a law's row of its contract.
-/
import Derived.Test.YtoifmpiikopelaaFwT
import Derived.WalkKit
import Derived.ProofKit
import Derived.OpenShut
import Derived.ShutString
import Derived.ChangeOld
import Derived.ChangeSlices
import Derived.Below
import Derived.SizedLaws
import Derived.Carry
namespace Go.Proofs.YtoifmpiikopelaaFw
open Go Go.ChangeShapes Go.WideShapes Go.RowKit
set_option linter.unusedVariables false
set_option linter.unusedSimpArgs false

/-- Cells that read so, in the world as it came. -/
def RFL (W : World) (ps : List PV) (cs : List Value) : Prop :=
  cs.length = ps.length ∧ ∀ (i : Nat) (c : PV) (v : Value), ps[i]? = some c → cs[i]? = some v → v.oneCell' = true ∧ RF (fun x => x < W.heap.size) W c v

theorem RFL.append {W : World} {ps qs : List PV} {cs ds : List Value} (h : RFL W ps cs) (k : RFL W qs ds) : RFL W (ps ++ qs) (cs ++ ds) := by
  refine ⟨by simp [h.1, k.1], fun i c v hc hv => ?_⟩
  by_cases hi : i < ps.length
  · rw [List.getElem?_append_left hi] at hc
    rw [List.getElem?_append_left (by rw [h.1]; exact hi)] at hv
    exact h.2 i c v hc hv
  · rw [List.getElem?_append_right (by omega)] at hc
    rw [List.getElem?_append_right (by rw [h.1]; omega), h.1] at hv
    exact k.2 _ c v hc hv

theorem RFL.one {W : World} {p : PV} {v : Value} (hp : v.oneCell' = true) (h : RF (fun x => x < W.heap.size) W p v) : RFL W [p] [v] :=
  ⟨rfl, fun i c u hc hu => by cases i with
    | zero => simp at hc hu; subst hc hu; exact ⟨hp, h⟩
    | succ i => simp at hc⟩

/-- What reads at the type t is told by 'enc' of a datum that is as 'ok' says. -/
def Opens (P : Program) (t : TypeId) (n : Nat) {α : Type} (enc : α → List PV) (ok : α → Prop) : Prop :=
  P.cellsOf t = n ∧ (∀ y, (enc y).length = n) ∧
  ∀ (H : Type) (en : TypeId × Value → H) (W : World) (fuel : Nat) (cs : List Value) (x : DataW H × List MemPlace),
    DataW.trod en P W 0 (fun _ => true) true fuel t cs = some x → (∀ n ∈ x.1.weights P t, n ≤ reachBytes) → ∃ y : α, RFL W (enc y) cs ∧ ok y

theorem opens_int {P : Program} {t : TypeId} {k : IntKind} (ht : P.underlying t = some (.int k)) (hc : P.cellsOf t = 1) : Opens P t 1 (fun n : Int => [.int k n]) (fun x => (Lit.int k x).wf = true) := by
  refine ⟨hc, fun _ => rfl, fun H enc W fuel cs x h _ => ?_⟩
  obtain ⟨n, rfl, _, hw⟩ := DataW.trod_int ht h
  exact ⟨n, .one rfl (.int _ _), hw⟩
theorem opens_bool {P : Program} {t : TypeId} (ht : P.underlying t = some .bool) (hc : P.cellsOf t = 1) : Opens P t 1 (fun b : Bool => [.bool b]) (fun _ => True) := by
  refine ⟨hc, fun _ => rfl, fun H enc W fuel cs x h _ => ?_⟩
  obtain ⟨b, rfl, _⟩ := DataW.trod_bool ht h
  exact ⟨b, .one rfl (.bool _), trivial⟩
theorem opens_string {P : Program} {t : TypeId} (ht : P.underlying t = some .string) (hc : P.cellsOf t = 1) : Opens P t 1 (fun s : ByteArray => [.str s]) (fun s => s.size ≤ 140737488351232) := by
  refine ⟨hc, fun _ => rfl, fun H enc W fuel cs x h hw => ?_⟩
  obtain ⟨s, rfl, rfl, _⟩ := DataW.trod_string ht h
  refine ⟨s, .one rfl (.str _), ?_⟩
  have h1 := hw s.data.toList.length (by simp [DataW.weights])
  rw [Array.length_toList] at h1
  exact h1

theorem weightsAll_mem {H : Type} {P : Program} {e : TypeId} : ∀ {ds : List (DataW H)} {d : DataW H}, d ∈ ds → ∀ n ∈ d.weights P e, n ∈ DataW.weightsAll P e ds
  | [], _, h, _, _ => by simp at h
  | a :: r, d, h, n, hn => by
    simp only [DataW.weightsAll, List.mem_append]
    rcases List.mem_cons.1 h with rfl | h
    · exact .inl hn
    · exact .inr (weightsAll_mem h n hn)

theorem pick_list {α : Type} {p : Nat → α → Prop} : ∀ (n : Nat), (∀ i, i < n → ∃ y, p i y) → ∃ l : List α, l.length = n ∧ ∀ i y, l[i]? = some y → p i y
  | 0, _ => ⟨[], rfl, fun i y h => by simp at h⟩
  | n + 1, h => by
    obtain ⟨l, hl, hp⟩ := pick_list n (fun i hi => h i (by omega))
    obtain ⟨y, hy⟩ := h n (by omega)
    refine ⟨l ++ [y], by simp [hl], fun i z hz => ?_⟩
    rcases Nat.lt_or_ge i l.length with hi | hi
    · rw [List.getElem?_append_left hi] at hz
      exact hp i z hz
    · rw [List.getElem?_append_right hi] at hz
      have h0 : i - l.length = 0 := by
        rcases Nat.eq_zero_or_pos (i - l.length) with h0 | h0
        · exact h0
        · rw [List.getElem?_eq_none (by simp; omega)] at hz
          cases hz
      rw [h0] at hz
      simp at hz
      subst hz
      have : i = n := by omega
      subst this
      exact hy

theorem add_add (a : Addr) (j i : Nat) : (a.add j).add i = a.add (j + i) := by
  rcases Nat.eq_zero_or_pos j with rfl | hj
  · simp [Addr.add]
  rcases Nat.eq_zero_or_pos i with rfl | hi
  · simp [Addr.add]
  have h1 : j ≠ 0 := by omega
  have h2 : i ≠ 0 := by omega
  have h3 : j + i ≠ 0 := by omega
  simp [Addr.add, h1, h2, h3, Nat.add_assoc]

theorem cell_lt {W : World} {a : Addr} {v : Value} (h : W.cell? a = some v) : a.block < W.heap.size ∧ a.spot = none := by
  unfold World.cell? at h
  split at h
  · rename_i e
    split at h
    · cases h
    · rename_i hs
      exact ⟨(Array.getElem?_eq_some_iff.1 e).1, by cases hq : a.spot <;> simp_all⟩
  · cases h

theorem opens_slice {P : Program} {t e : TypeId} {α : Type} {n : Nat} {enc : α → List PV} {ok : α → Prop} {B : Nat} (ht : P.underlying t = some (.slice e)) (hc : P.cellsOf t = 1) (hB : P.bytesOf e = B) (hB0 : 0 < B) (hn : 0 < n) (he : Opens P e n enc ok) :
    Opens P t 1 (fun l : List α => [.sl false n (l.map enc)]) (fun l => l.length * B ≤ 140737488351232 ∧ l.length ≤ 140737488351232 ∧ ∀ x ∈ l, ok x) := by
  obtain ⟨hce, hel, he⟩ := he
  refine ⟨hc, fun _ => rfl, fun H en W fuel cs x h hw => ?_⟩
  rcases DataW.trod_slice ht h with ⟨rfl, rfl⟩ | ⟨a, len, cap, elems, rest, m, _, rfl, rfl, _, hl, hm, hlen, hel', _, _⟩
  · exact ⟨[], .one rfl (.sl _ _ [] none 0 (fun _ _ => default) (by simp) (by simp) (by simp) (by simp) (by simp) (by simp)), by simp, by simp, by simp⟩
  · have hmem : ∀ y ∈ elems, ∀ k ∈ y.1.weights P e, k ≤ reachBytes := fun y hy k hk => hw k (by
      simp only [DataW.weights, ht, List.mem_cons, List.mem_append]
      exact .inr (.inl (weightsAll_mem (List.mem_map_of_mem hy) k hk)))
    have each : ∀ i, i < len → ∃ y : α, ok y ∧ ∃ c, c.length = n ∧ RFL W (enc y) c ∧ ∀ j u, c[j]? = some u → W.cell? (a.add (i * n + j)) = some u := by
      intro i hi
      have h1 := hel' i hi
      rw [List.getElem?_eq_getElem (by omega : i < elems.length), Option.bind_eq_some_iff] at h1
      obtain ⟨c, hcs, hy⟩ := h1
      obtain ⟨y, hK, hok⟩ := he H en W m c _ hy (hmem _ (List.getElem_mem _))
      obtain ⟨_, hcl, hcc⟩ := World.cells?_some hcs
      rw [hce] at hcl hcc
      refine ⟨y, hok, c, hcl, hK, fun j u hu => ?_⟩
      have hj : j < n := by
        have := (List.getElem?_eq_some_iff.1 hu).1
        omega
      rw [← add_add, hcc j hj, hu]
    obtain ⟨l, hll, hp⟩ := pick_list len each
    have hz := hw ((elems.length + rest.length) * P.bytesOf e) (by simp [DataW.weights, ht])
    have hl47 : len ≤ 140737488351232 := by
      rw [hB] at hz
      have h2 : elems.length + rest.length ≤ (elems.length + rest.length) * B := Nat.le_mul_of_pos_right _ hB0
      have h3 : reachBytes = 140737488351232 := rfl
      omega
    refine ⟨l, .one rfl ?_, ?_, by omega, fun x hx => ?_⟩
    · have e1 : (l.map enc).length = len := by simp [hll]
      rw [show Value.slice (some a) len cap = Value.slice (some a) (l.map enc).length cap by rw [e1]]
      refine .sl _ _ _ _ _ (fun i j => (W.cell? (a.add (i * n + j))).getD undef) (by omega) (by simp) (fun e he => ?_) (by omega) (fun i j hi hj => ?_) fun i j el c hi hj => ?_
      · obtain ⟨y, _, rfl⟩ := List.mem_map.1 he
        exact hel y
      · rw [e1] at hi
        obtain ⟨_, c, h1, h2, h3⟩ := hp i _ (List.getElem?_eq_getElem (by omega : i < l.length))
        have hu : c[j]? = some (c[j]'(by omega)) := List.getElem?_eq_getElem (by omega)
        have h4 := h3 j _ hu
        have hadd : a.spot = none → a.add (i * n + j) = ⟨a.block, a.off + i * n + j, none⟩ := fun hs => by
          obtain ⟨b, o, sp⟩ := a
          simp at hs
          subst hs
          rw [add_none, Nat.add_assoc]
        have hsp : a.spot = none := by
          obtain ⟨_, c0, q1, q2, q3⟩ := hp 0 _ (List.getElem?_eq_getElem (by omega : 0 < l.length))
          have := q3 0 _ (List.getElem?_eq_getElem (by omega : 0 < c0.length))
          have := (cell_lt this).2
          simpa [Addr.add] using this
        refine ⟨a.block, a.off, ?_, ?_, ?_, ?_⟩
        · rw [← hsp]
        · have := (cell_lt h4).1
          rw [hadd hsp] at this
          exact this
        · rw [← hadd hsp, h4]; rfl
        · rw [h4]
          exact (h2.2 j _ _ (List.getElem?_eq_getElem (by rw [hel]; exact hj)) hu).1
      · rw [List.getElem?_map, Option.map_eq_some_iff] at hi
        obtain ⟨y, hy, rfl⟩ := hi
        obtain ⟨_, c', h1, h2, h3⟩ := hp i y hy
        have hjn : j < n := by have := (List.getElem?_eq_some_iff.1 hj).1; rwa [hel] at this
        have hu : c'[j]? = some (c'[j]'(by omega)) := List.getElem?_eq_getElem (by omega)
        have h4 := h3 j _ hu
        show RF _ W c ((W.cell? (a.add (i * n + j))).getD undef)
        rw [h4]
        exact (h2.2 j c _ hj hu).2
    · rw [hB] at hz
      have h2 : l.length * B ≤ (elems.length + rest.length) * B := Nat.mul_le_mul_right _ (by omega)
      exact Nat.le_trans h2 hz
    · obtain ⟨i, hi⟩ := List.getElem?_of_mem hx
      exact (hp i x hi).1

/-- The fields of a struct, from a cell on. -/
def OpensF (P : Program) (fs : List Field) (off n : Nat) {α : Type} (enc : α → List PV) (ok : α → Prop) : Prop :=
  (∀ y, (enc y).length = n) ∧
  ∀ (H : Type) (en : TypeId × Value → H) (W : World) (m : Nat) (cs : List Value) (xs : List (DataW H × List MemPlace)),
    xs.length = fs.length → (∀ (i : Nat) (f : Field), fs[i]? = some f → DataW.trod en P W 0 (fun _ => true) true m f.type ((cs.drop f.offset).take (P.cellsOf f.type)) = xs[i]?) →
    (∀ k ∈ DataW.weightsEach P (fs.map (·.type)) (xs.map (·.1)), k ≤ reachBytes) → cs.length = off + n → ∃ y : α, RFL W (enc y) (cs.drop off) ∧ ok y

theorem opensF_one {P : Program} {f : Field} {off n : Nat} {α : Type} {enc : α → List PV} {ok : α → Prop} (ho : f.offset = off) (h : Opens P f.type n enc ok) : OpensF P [f] off n enc ok := by
  refine ⟨h.2.1, fun H en W m cs xs hl hx hw hc => ?_⟩
  match xs, hl with
  | [x], _ =>
    have h1 := hx 0 f rfl
    simp only [List.getElem?_cons_zero] at h1
    rw [ho, h.1, List.take_of_length_le (by rw [List.length_drop]; omega)] at h1
    exact h.2.2 H en W m _ x h1 (fun k hk => hw k (by simpa [DataW.weightsEach] using hk))
theorem opensF_cons {P : Program} {f : Field} {fs : List Field} {off n k : Nat} {α β : Type} {a : α → List PV} {b : β → List PV} {oka : α → Prop} {okb : β → Prop} (ho : f.offset = off) (h : Opens P f.type n a oka) (hr : OpensF P fs (off + n) k b okb) :
    OpensF P (f :: fs) off (n + k) (fun p : α × β => a p.1 ++ b p.2) (fun p => oka p.1 ∧ okb p.2) := by
  refine ⟨fun y => by rw [List.length_append, h.2.1, hr.1], fun H en W m cs xs hl hx hw hc => ?_⟩
  match xs, hl with
  | x :: xs, hl =>
    have h1 := hx 0 f rfl
    simp only [List.getElem?_cons_zero] at h1
    rw [ho, h.1] at h1
    obtain ⟨y, hy, hoky⟩ := h.2.2 H en W m _ x h1 (fun k hk => hw k (by simp only [List.map_cons, DataW.weightsEach, List.mem_append]; exact .inl hk))
    obtain ⟨z, hz, hokz⟩ := hr.2 H en W m cs xs (by simpa using hl) (fun i g hg => by simpa using hx (i + 1) g (by simpa using hg)) (fun k hk => hw k (by simp only [List.map_cons, DataW.weightsEach, List.mem_append]; exact .inr hk))
      (by rw [hc, Nat.add_assoc])
    refine ⟨(y, z), ?_, hoky, hokz⟩
    have := hy.append hz
    rwa [← List.drop_drop, List.take_append_drop] at this
theorem opens_struct {P : Program} {t : TypeId} {fs : Array Field} {α β : Type} {n : Nat} {enc : α → List PV} {ok : α → Prop} (ht : P.underlying t = some (.struct fs)) (hc : P.cellsOf t = n) (hf : OpensF P fs.toList 0 n enc ok) (f : β → α) (g : α → β) (hfg : ∀ x, f (g x) = x) :
    Opens P t n (fun y => enc (f y)) (fun y => ok (f y)) := by
  refine ⟨hc, fun y => hf.1 _, fun H en W fuel cs x h hw => ?_⟩
  obtain ⟨xs, m, _, rfl, hl, hlen, hx⟩ := DataW.trod_struct ht h
  obtain ⟨y, hy, hok⟩ := hf.2 H en W m cs xs (by simpa using hlen) (fun i f hi => hx i f (by simpa using hi)) (fun k hk => hw k (by simpa [DataW.weights, ht] using hk)) (by rw [hl, hc, Nat.zero_add])
  exact ⟨g y, by show RFL W (enc (f (g y))) cs; rw [hfg]; exact hy, by show ok (f (g y)); rw [hfg]; exact hok⟩

/-- The same, of another coding that comes to the same cells, and conditions that follow. -/
theorem Opens.conv {P : Program} {t : TypeId} {n : Nat} {α : Type} {enc enc' : α → List PV} {ok ok' : α → Prop} (h : Opens P t n enc ok) (he : ∀ y, enc' y = enc y) (ho : ∀ y, ok y → ok' y) : Opens P t n enc' ok' :=
  ⟨h.1, fun y => by rw [he]; exact h.2.1 y, fun H en W fuel cs x hx hw => let ⟨y, h1, h2⟩ := h.2.2 H en W fuel cs x hx hw; ⟨y, by rw [he]; exact h1, ho y h2⟩⟩

/-- An argument, opened. -/
theorem opens_arg {P : Program} {H : Type} {en : TypeId × Value → H} {W : World} {t : TypeId} {v : Value} {dd : DataW H} {ps : List MemPlace} {α : Type} {n : Nat} {enc : α → List PV} {ok : α → Prop} {ts : List TypeId} {ds : List (DataW H)} {j : Nat}
    (ho : Opens P t n enc ok) (hsz : (DataW.weightsEach P ts ds).all (· ≤ reachBytes) = true) (ht : ts[j]? = some t) (hd : ds[j]? = some dd)
    (h : DataW.Trod en P W 0 (fun _ => true) true t v dd ps) : ∃ y : α, RFL W (enc y) v.cells.toList ∧ ok y := by
  obtain ⟨fuel, hf⟩ := h
  exact ho.2.2 H en W fuel _ _ hf (fun n hn => by simpa using List.all_eq_true.1 hsz n (DataW.weights_mem_each ht hd n hn))

theorem rf_agg {W : World} {ps : List PV} {cs : Array Value} (h : RFL W ps cs.toList) : RF (fun x => x < W.heap.size) W (.agg ps) (.agg cs) :=
  .agg ps cs (by simpa using h.1) (fun i v hv => by
    have hi : i < ps.length := by rw [← h.1]; have := (Array.getElem?_eq_some_iff.1 hv).1; simpa using this
    exact (h.2 i ps[i] v (List.getElem?_eq_getElem hi) (by simpa using hv)).1) fun i c v hc hv => (h.2 i c v hc (by simpa using hv)).2
theorem rf_cell {W : World} {p : PV} {v : Value} (h : RFL W [p] v.cells.toList) (hv : v.cells = #[v]) : RF (fun x => x < W.heap.size) W p v := by
  rw [hv] at h
  exact (h.2 0 p v rfl rfl).2

/-- A law's call, of its contract. -/
theorem law_calls {P : Program} {f : FuncId} {args : List PV} (h : FnS P f args [] (.bool true) []) (W : World) (vs : Array Value) (hn : vs.size = args.length)
    (hr : ∀ (i : Nat) (p : PV) (v : Value), args[i]? = some p → vs[i]? = some v → RF (fun x => x < W.heap.size) W p v) :
    Calls P f vs W fun e w' => e = .returned (.bool true) ∧ Below W.heap.size W w' := by
  have hi : Init { w0 := W, F0 := fun x => x < W.heap.size, m0 := fun _ => none, bor := fun _ => False, ds := [] } args [] vs := by
    refine ⟨rfl, hn, fun i p v hp hv => .fz (hr i p v hp hv), ?_, ?_, ?_, fun b hb => (hb rfl).elim, fun x hx => ⟨hx, fun h => h⟩⟩
    · intro b k hb; cases hb
    · intro b k x hb; cases hb
    · intro b b' k k' x x' hb; cases hb
  refine (h.2 _ vs hi).mono ?_
  rintro e w' ⟨v, F, m, rfl, dn⟩
  refine ⟨by rw [dn.res.bool_inv], ⟨dn.kept.os, dn.kept.tape, dn.kept.output, dn.kept.size, fun k hk => dn.kept.block k hk fun h => h⟩⟩
end Go.Proofs.YtoifmpiikopelaaFw
