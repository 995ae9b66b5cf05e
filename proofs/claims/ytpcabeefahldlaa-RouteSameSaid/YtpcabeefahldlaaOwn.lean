/-
  What comes in reads as the printed kinds tell it: one lemma for each kind of type (whole numbers, bools, strings, slices, structs), put together by the shape of a type. Conditions: none beyond the row's own (what is read before the call takes at most its reach).
-/
import Derived.Test.YtpcabeefahldlaaWSized
import Derived.Test.YtpcabeefahldlaaWMore
import Derived.ShutString
import Derived.OpenShut
import Derived.ProofKit
namespace Go.Proofs.YtpcabeefahldlaaOwn
open Go.ChangeShapes Go.WideShapes Go.RowKit Go.Proofs.YtpcabeefahldlaaW.PrintWords
set_option linter.unusedVariables false
set_option linter.unusedSimpArgs false

/-- What reads at the type t is of the kind d, and each part is as 'ok' says. -/
def Opens (P : Program) (t : TypeId) {α : Type} (d : Kd α) (ok : α → Prop) : Prop :=
  P.cellsOf t = d.sz ∧
  ∀ (H : Type) (enc : TypeId × Value → H) (W : World) (fuel : Nat) (cs : List Value) (x : DataW H × List MemPlace),
    DataW.trod enc P W 0 (fun _ => true) true fuel t cs = some x → (∀ n ∈ x.1.weights P t, n ≤ reachBytes) → ∃ y : α, d.K W y cs ∧ ok y

theorem opens_int {P : Program} {t : TypeId} {k : IntKind} (ht : P.underlying t = some (.int k)) (hc : P.cellsOf t = 1) : Opens P t (Kd.int k) (fun x => (Lit.int k x).wf = true) := by
  refine ⟨hc, fun H enc W fuel cs x h _ => ?_⟩
  obtain ⟨n, rfl, _, hw⟩ := DataW.trod_int ht h
  exact ⟨n, rfl, hw⟩
theorem opens_bool {P : Program} {t : TypeId} (ht : P.underlying t = some .bool) (hc : P.cellsOf t = 1) : Opens P t Kd.bool (fun _ => True) := by
  refine ⟨hc, fun H enc W fuel cs x h _ => ?_⟩
  obtain ⟨b, rfl, _⟩ := DataW.trod_bool ht h
  exact ⟨b, rfl, trivial⟩
theorem opens_string {P : Program} {t : TypeId} (ht : P.underlying t = some .string) (hc : P.cellsOf t = 1) : Opens P t Kd.string (fun s => s.size ≤ 140737488351232) := by
  refine ⟨hc, fun H enc W fuel cs x h hw => ?_⟩
  obtain ⟨s, rfl, rfl, _⟩ := DataW.trod_string ht h
  refine ⟨s, rfl, ?_⟩
  have h1 := hw s.data.toList.length (by simp [DataW.weights])
  rw [Array.length_toList] at h1
  exact h1

theorem weightsAll_mem {H : Type} {P : Program} {e : TypeId} : ∀ {ds : List (DataW H)} {d : DataW H}, d ∈ ds → ∀ n ∈ d.weights P e, n ∈ DataW.weightsAll P e ds
  | [], _, h, _, _ => by simp at h
  | a :: r, d, h, n, hn => by
    simp only [DataW.weightsAll, List.mem_append]
    rcases List.mem_cons.1 h with rfl | h
    · exact .inl hn
    · exact .inr (weightsAll_mem h n hn)

theorem pick_list {α : Type} {p : Nat → α → Prop} : ∀ (n : Nat), (∀ i, i < n → ∃ y, p i y) → ∃ l : List α, l.length = n ∧ ∀ i y, l[i]? = some y → p i y
  | 0, _ => ⟨[], rfl, fun i y h => by simp at h⟩
  | n + 1, h => by
    obtain ⟨l, hl, hp⟩ := pick_list n (fun i hi => h i (by omega))
    obtain ⟨y, hy⟩ := h n (by omega)
    refine ⟨l ++ [y], by simp [hl], fun i z hz => ?_⟩
    rcases Nat.lt_or_ge i l.length with hi | hi
    · rw [List.getElem?_append_left hi] at hz
      exact hp i z hz
    · rw [List.getElem?_append_right hi] at hz
      have h0 : i - l.length = 0 := by
        rcases Nat.eq_zero_or_pos (i - l.length) with h0 | h0
        · exact h0
        · rw [List.getElem?_eq_none (by simp; omega)] at hz
          cases hz
      rw [h0] at hz
      simp at hz
      subst hz
      have : i = n := by omega
      subst this
      exact hy

theorem add_add (a : Addr) (j i : Nat) : (a.add j).add i = a.add (j + i) := by
  rcases Nat.eq_zero_or_pos j with rfl | hj
  · simp [Addr.add]
  rcases Nat.eq_zero_or_pos i with rfl | hi
  · simp [Addr.add]
  have h1 : j ≠ 0 := by omega
  have h2 : i ≠ 0 := by omega
  have h3 : j + i ≠ 0 := by omega
  simp [Addr.add, h1, h2, h3, Nat.add_assoc]

theorem opens_slice {P : Program} {t e : TypeId} {α : Type} {d : Kd α} {ok : α → Prop} {B : Nat} (ht : P.underlying t = some (.slice e)) (hc : P.cellsOf t = 1) (hB : P.bytesOf e = B) (he : Opens P e d ok) :
    Opens P t (Kd.slice e d) (fun l => l.length * B ≤ 140737488351232 ∧ l.length ≤ maxLen ∧ ∀ x ∈ l, ok x) := by
  obtain ⟨hce, he⟩ := he
  refine ⟨hc, fun H enc W fuel cs x h hw => ?_⟩
  rcases DataW.trod_slice ht h with ⟨rfl, rfl⟩ | ⟨a, len, cap, elems, rest, n, _, rfl, rfl, _, hl, hm, hlen, hel, _, _⟩
  · exact ⟨[], ⟨none, 0, rfl, Nat.le_refl _, Kd.C_nil d W⟩, by simp, by simp, by simp⟩
  · have hmem : ∀ y ∈ elems, ∀ k ∈ y.1.weights P e, k ≤ reachBytes := fun y hy k hk => hw k (by
      simp only [DataW.weights, ht, List.mem_cons, List.mem_append]
      exact .inr (.inl (weightsAll_mem (List.mem_map_of_mem hy) k hk)))
    have each : ∀ i, i < len → ∃ y : α, ok y ∧ ∃ c, c.length = d.sz ∧ d.K W y c ∧ ∀ j u, c[j]? = some u → W.cell? (a.add (i * d.sz + j)) = some u := by
      intro i hi
      have h1 := hel i hi
      rw [List.getElem?_eq_getElem (by omega : i < elems.length), Option.bind_eq_some_iff] at h1
      obtain ⟨c, hcs, hy⟩ := h1
      obtain ⟨y, hK, hok⟩ := he H enc W n c _ hy (hmem _ (List.getElem_mem _))
      obtain ⟨_, hcl, hcc⟩ := World.cells?_some hcs
      rw [hce] at hcl hcc
      refine ⟨y, hok, c, hcl, hK, fun j u hu => ?_⟩
      have hj : j < d.sz := by
        have := (List.getElem?_eq_some_iff.1 hu).1
        omega
      rw [← add_add, hcc j hj, hu]
    obtain ⟨l, hll, hp⟩ := pick_list len each
    have hz := hw ((elems.length + rest.length) * P.bytesOf e) (by simp [DataW.weights, ht])
    refine ⟨l, ⟨some a, cap, by rw [hll], by omega, rfl, ?_, fun _ => ⟨a, rfl, fun j y hy => ?_⟩⟩, ?_, ?_, fun x hx => ?_⟩
    · simp only [maxLen] at hm
      omega
    · obtain ⟨_, c, h1, h2, h3⟩ := hp j y hy
      exact ⟨c, h1, h2, h3⟩
    · rw [hB] at hz
      have h2 : l.length * B ≤ (elems.length + rest.length) * B := Nat.mul_le_mul_right _ (by omega)
      exact Nat.le_trans h2 hz
    · omega
    · obtain ⟨i, hi⟩ := List.getElem?_of_mem hx
      exact (hp i x hi).1

/-- The fields of a struct, from a cell on. -/
def OpensF (P : Program) (fs : List Field) (off : Nat) {α : Type} (d : Kd α) (ok : α → Prop) : Prop :=
  ∀ (H : Type) (enc : TypeId × Value → H) (W : World) (n : Nat) (cs : List Value) (xs : List (DataW H × List MemPlace)),
    xs.length = fs.length → (∀ (i : Nat) (f : Field), fs[i]? = some f → DataW.trod enc P W 0 (fun _ => true) true n f.type ((cs.drop f.offset).take (P.cellsOf f.type)) = xs[i]?) →
    (∀ k ∈ DataW.weightsEach P (fs.map (·.type)) (xs.map (·.1)), k ≤ reachBytes) → cs.length = off + d.sz → ∃ y : α, d.K W y (cs.drop off) ∧ ok y

theorem opensF_one {P : Program} {f : Field} {off : Nat} {α : Type} {d : Kd α} {ok : α → Prop} (ho : f.offset = off) (h : Opens P f.type d ok) : OpensF P [f] off d ok := by
  intro H enc W n cs xs hl hx hw hc
  match xs, hl with
  | [x], _ =>
    have h1 := hx 0 f rfl
    simp only [List.getElem?_cons_zero] at h1
    rw [ho, h.1, List.take_of_length_le (by rw [List.length_drop]; omega)] at h1
    exact h.2 H enc W n _ x h1 (fun k hk => hw k (by simpa [DataW.weightsEach] using hk))
theorem opensF_cons {P : Program} {f : Field} {fs : List Field} {off : Nat} {α β : Type} {a : Kd α} {b : Kd β} {oka : α → Prop} {okb : β → Prop} (ho : f.offset = off) (h : Opens P f.type a oka) (hr : OpensF P fs (off + a.sz) b okb) :
    OpensF P (f :: fs) off (Kd.pair a b) (fun p => oka p.1 ∧ okb p.2) := by
  intro H enc W n cs xs hl hx hw hc
  match xs, hl with
  | x :: xs, hl =>
    have h1 := hx 0 f rfl
    simp only [List.getElem?_cons_zero] at h1
    rw [ho, h.1] at h1
    obtain ⟨y, hy, hoky⟩ := h.2 H enc W n _ x h1 (fun k hk => hw k (by simp only [List.map_cons, DataW.weightsEach, List.mem_append]; exact .inl hk))
    obtain ⟨z, hz, hokz⟩ := hr H enc W n cs xs (by simpa using hl) (fun i g hg => by simpa using hx (i + 1) g (by simpa using hg)) (fun k hk => hw k (by simp only [List.map_cons, DataW.weightsEach, List.mem_append]; exact .inr hk))
      (by rw [hc]; show off + (a.sz + b.sz) = _; omega)
    exact ⟨(y, z), ⟨_, _, by rw [← List.drop_drop, List.take_append_drop], hy, hz⟩, hoky, hokz⟩
theorem opens_struct {P : Program} {t : TypeId} {fs : Array Field} {α β : Type} {d : Kd α} {ok : α → Prop} (ht : P.underlying t = some (.struct fs)) (hc : P.cellsOf t = d.sz) (hf : OpensF P fs.toList 0 d ok) (f : β → α) (g : α → β) (hfg : ∀ x, f (g x) = x) :
    Opens P t (Kd.iso d f) (fun y => ok (f y)) := by
  refine ⟨hc, fun H enc W fuel cs x h hw => ?_⟩
  obtain ⟨xs, n, _, rfl, hl, hlen, hx⟩ := DataW.trod_struct ht h
  obtain ⟨y, hy, hok⟩ := hf H enc W n cs xs (by simpa using hlen) (fun i f hi => hx i f (by simpa using hi)) (fun k hk => hw k (by simpa [DataW.weights, ht] using hk)) (by rw [hl, hc, Nat.zero_add])
  exact ⟨g y, by show d.K W (f (g y)) cs; rw [hfg]; exact hy, by show ok (f (g y)); rw [hfg]; exact hok⟩

/-- An argument, opened. -/
theorem opens_arg {P : Program} {H : Type} {enc : TypeId × Value → H} {W : World} {t : TypeId} {v : Value} {dd : DataW H} {ps : List MemPlace} {α : Type} {d : Kd α} {ok : α → Prop} {ts : List TypeId} {ds : List (DataW H)} {j : Nat}
    (ho : Opens P t d ok) (hsz : (DataW.weightsEach P ts ds).all (· ≤ reachBytes) = true) (ht : ts[j]? = some t) (hd : ds[j]? = some dd)
    (h : DataW.Trod enc P W 0 (fun _ => true) true t v dd ps) : ∃ y : α, d.K W y v.cells.toList ∧ ok y := by
  obtain ⟨fuel, hf⟩ := h
  exact ho.2 H enc W fuel _ _ hf (fun n hn => by simpa using List.all_eq_true.1 hsz n (DataW.weights_mem_each ht hd n hn))
theorem agg_of {cs : Array Value} {l : List Value} (h : cs.toList = l) : cs = l.toArray := by
  rw [← h]
end Go.Proofs.YtpcabeefahldlaaOwn
