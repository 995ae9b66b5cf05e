/-
  An abstract walk, part L2: bytes as a string; copy.
-/
import Derived.Test.YtoifmpiikopelaaFwL
namespace Go.Proofs.YtoifmpiikopelaaFw
open Go
set_option linter.unusedVariables false
set_option linter.unusedSimpArgs false

def leafByte : List PV → UInt8
  | [.int _ n] => UInt8.ofNat n.toNat
  | _ => 0
def isByte : List PV → Prop
  | [.int .u8 _] => True
  | _ => False
def bytesOf (es : List (List PV)) : ByteArray := ⟨(es.map leafByte).toArray⟩

def fConvB (T : Tab) (st : St) (src dst : TypeId) (x : PV) : Option R :=
  match fConv T src dst x with
  | some r => some r
  | none => match (T src).k, (T dst).k, rowOf st x with
    | .slice e, .str, some (s, es, g) => match (T e).k with
      | .int .u8 => some { g := g ∧ ∀ e ∈ es, isByte e, v := .str (bytesOf es) }
      | _ => none
    | _, _, _ => none

section
variable {P : Program} {B : Base} {A : AF} {a : Act} {w : World} {F : Nat → Prop} {m : Ids} {T : Tab} {d : Option Tmp} {u : Nat → Prop} {c : Nat}

theorem forIn_bytes (l : List Value) (s : ByteArray) (h : ∀ v ∈ l, ∃ n, v = .int .u8 n) :
    (forIn l s (fun c s => match c with | .int .u8 n => pure (ForInStep.yield (s.push (UInt8.ofNat n.toNat))) | _ => do let r ← stuck "bytesToString: byte expected"; pure (ForInStep.done r)) : Sem ByteArray).run P w =
      .ok (l.foldl (fun s c => match c with | .int _ n => s.push (UInt8.ofNat n.toNat) | _ => s) s) w := by
  induction l generalizing s with
  | nil => simp
  | cons v l ih =>
    obtain ⟨n, rfl⟩ := h v (by simp)
    simp only [List.forIn_cons, Sem.run_bind, Sem.run_pure, Result.andThen_ok, List.foldl_cons]
    exact ih _ fun v hv => h v (by simp [hv])

theorem fold_bytes : ∀ (l : List Value) (s : ByteArray), l.foldl (fun s c => match c with | .int _ n => s.push (UInt8.ofNat n.toNat) | _ => s) s =
    ⟨s.data ++ (l.filterMap fun c => match c with | .int _ n => some (UInt8.ofNat n.toNat) | _ => none).toArray⟩
  | [], s => by simp
  | v :: l, s => by
    rw [List.foldl_cons, fold_bytes l]
    cases v <;> simp [ByteArray.push]

theorem fConvB_ok (hT : TabOk P T) (h : SimW B A a w F m) {st : St} (hst : ∀ b k, st b = some k → A.st b = some k) {src dst : TypeId} {x : PV} {r : R} (hr : fConvB T st src dst x = some r) (hg : r.g) {vx : Value} (hx : Rep F w m x vx) :
    ∃ v, (convert src dst vx).run P w = .ok v w ∧ Rep F w m r.v v ∧ r.dels = [] ∧ r.puts = [] := by
  unfold fConvB at hr
  split at hr
  · rename_i r' h'
    cases hr
    exact fConv_ok hT h' hx
  · split at hr
    · rename_i e s es g hk1 hk2 hro
      split at hr
      · rename_i hk3
        cases hr
        obtain ⟨hg, hb⟩ := hg
        obtain ⟨ao, cap, vs, rfl, hcap, hl47, hrow, hcell⟩ := rowOf_ok h hst hro hg hx
        have hu1 := und_slice hT hk1
        have hu2 := und_str hT hk2
        have hu3 := und_int hT hk3
        refine ⟨.string (bytesOf es), ?_, .fz (.str _), rfl, rfl⟩
        have hs : es = [] ∨ s = 1 := by
          cases es with
          | nil => exact .inl rfl
          | cons e es =>
            right
            have h1 := hrow.2.1 e (by simp)
            have h2 := hb e (by simp)
            match e, h2 with
            | [.int .u8 n], _ => exact h1.symm
        have hlen : vs.length = es.length := by
          rcases hs with rfl | rfl
          · simpa using hrow.1
          · simpa using hrow.1
        have hvs : ∀ (i : Nat) (v : Value), vs[i]? = some v → ∃ n, v = .int .u8 n ∧ es[i]? = some [.int .u8 n] := by
          intro i v hv
          have hi : i < es.length := by rw [← hlen]; exact (List.getElem?_eq_some_iff.1 hv).1
          have hs1 : s = 1 := by rcases hs with rfl | rfl; simp at hi; rfl
          subst hs1
          have h2 := hb es[i] (List.getElem_mem hi)
          have h3 := hrow.2.2.2 i 0
          generalize hel : es[i] = el at *
          match el, h2 with
          | [.int .u8 n], _ =>
            obtain ⟨v', q1, q2⟩ := h3 [.int .u8 n] (.int .u8 n) (by rw [List.getElem?_eq_getElem hi, hel]) rfl
            rw [Nat.mul_one, Nat.add_zero] at q1
            rw [q1] at hv
            cases hv
            exact ⟨n, q2.int_inv, by rw [List.getElem?_eq_getElem hi, hel]⟩
        have hbytes : vs.filterMap (fun c => match c with | .int _ n => some (UInt8.ofNat n.toNat) | _ => none) = es.map leafByte := by
          have key : ∀ (vs : List Value) (es : List (List PV)), vs.length = es.length → (∀ (i : Nat) (v : Value), vs[i]? = some v → ∃ n, v = .int .u8 n ∧ es[i]? = some [.int .u8 n]) → vs.filterMap (fun c => match c with | .int _ n => some (UInt8.ofNat n.toNat) | _ => none) = es.map leafByte := by
            intro vs
            induction vs with
            | nil => intro es hl _; cases es with
              | nil => rfl
              | cons => simp at hl
            | cons v vs ih => intro es hl hh; cases es with
              | nil => simp at hl
              | cons e es =>
                obtain ⟨n, rfl, he⟩ := hh 0 v rfl
                simp at he
                subst he
                rw [List.filterMap_cons, List.map_cons, ih es (by simpa using hl) fun i v hv => hh (i + 1) v hv]
                rfl
          exact key vs es hlen hvs
        cases ao with
        | none =>
          have : vs = [] := by
            apply Classical.byContradiction
            intro hne
            obtain ⟨_, _, h1, _⟩ := hcell hne
            cases h1
          subst this
          have : es = [] := by simpa using hlen.symm
          subst this
          simp [convert, run_underlying hu1, run_underlying hu2, run_underlying hu3, Conv.bytesToString, bytesOf]
          rfl
        | some ad =>
          have hload : (loadCells ad es.length).run P w = .ok vs.toArray w := by
            rw [← hlen]
            refine run_loadCells_list w ad vs fun j v hj => ?_
            obtain ⟨b, o, h1, h2⟩ := hcell (by rintro rfl; simp at hj)
            cases h1
            rw [add_none]
            exact h2 j v hj
          have hall : ∀ v ∈ vs, ∃ n, v = .int .u8 n := fun v hv => by
            obtain ⟨i, hi⟩ := List.getElem?_of_mem hv
            obtain ⟨n, h1, _⟩ := hvs i v hi
            exact ⟨n, h1⟩
          have hfor := forIn_bytes (P := P) (w := w) vs ByteArray.empty hall
          have hfold := fold_bytes vs ByteArray.empty
          have hres : (⟨ByteArray.empty.data ++ (vs.filterMap fun c => match c with | .int _ n => some (UInt8.ofNat n.toNat) | _ => none).toArray⟩ : ByteArray) = bytesOf es := by
            rw [hbytes]
            show (⟨#[] ++ (es.map leafByte).toArray⟩ : ByteArray) = _
            simp [bytesOf]
          have hconv : (Conv.bytesToString (.slice (some ad) es.length cap)).run P w = .ok (.string (bytesOf es)) w := by
            unfold Conv.bytesToString
            simp only [Sem.run_bind, hload, Result.andThen_ok]
            rw [← Array.forIn_toList]
            rw [hfold, hres] at hfor
            erw [hfor]
            rfl
          simp only [convert, Sem.run_bind, run_underlying hu1, run_underlying hu2, run_underlying hu3, Result.andThen_ok]
          exact hconv
      · cases hr
    · cases hr

end
end Go.Proofs.YtoifmpiikopelaaFw
