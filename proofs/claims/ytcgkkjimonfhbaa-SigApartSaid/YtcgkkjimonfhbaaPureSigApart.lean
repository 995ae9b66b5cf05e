/-
  The plain law of SigApart: what the printed text answers is true. Conditions: the numbers are ints, the rows read.
-/
import Derived.Test.YtcgkkjimonfhbaaPx11
import Derived.Test.YtcgkkjimonfhbaaPlainA
namespace Go.Proofs.Ytcgkkjimonfhbaa.Pure
open Go.RowKit Go.Proofs.YtcgkkjimonfhbaaOwn Go.Proofs.Ytcgkkjimonfhbaa.P Go.Proofs.YtcgkkjimonfhbaaW.PrintWords Go.Proofs.YtcgkkjimonfhbaaW.PrintLast Go.Proofs.YtcgkkjimonfhbaaW.PrintMore
set_option linter.unusedVariables false
set_option linter.unusedSimpArgs false

theorem two_apart (bytes : Int) (s t : S23) : apartS bytes [s, t] (List.replicate 64 false) = true ↔ rgt bytes s = true ∧ rgt bytes t = true ∧ disjS s t := by
  rw [apart_zero]
  simp [and_assoc]
theorem disj_symm {s t : S23} (h : disjS s t) : disjS t s := fun p hp hq => h p hq hp
theorem apart_swap (bytes : Int) (s t : S23) (h : apartS bytes [s, t] (List.replicate 64 false) = false) : apartS bytes [t, s] (List.replicate 64 false) = false := by
  cases e : apartS bytes [t, s] (List.replicate 64 false) with
  | false => rfl
  | true =>
    obtain ⟨h1, h2, h3⟩ := (two_apart bytes t s).1 e
    have := (two_apart bytes s t).2 ⟨h2, h1, disj_symm h3⟩
    rw [h] at this; cases this
theorem put_both (n m : Int) (ps qs : List Int) {b : List Int} (hb : wfB b) (hp : ∀ p ∈ ps, 0 ≤ p ∧ p < 8 * b.length) (hq : ∀ p ∈ qs, 0 ≤ p ∧ p < 8 * b.length) (hn : ps.Nodup) (hm : qs.Nodup) (hd : ∀ p ∈ ps, p ∉ qs) :
    (∀ (j : Nat) (h : j < ps.length), bitA (putL m qs 0 (putL n ps 0 b)) ps[j] = nb n j) ∧ (∀ (j : Nat) (h : j < qs.length), bitA (putL m qs 0 (putL n ps 0 b)) qs[j] = nb m j) ∧ (∀ a, 0 ≤ a → a ∉ ps → a ∉ qs → bitA (putL m qs 0 (putL n ps 0 b)) a = bitA b a) := by
  have hw := putL_wf n ps 0 hb
  have hq' : ∀ p ∈ qs, 0 ≤ p ∧ p < 8 * ((putL n ps 0 b).length : Int) := by rw [putL_len]; exact hq
  refine ⟨fun j h => ?_, fun j h => ?_, fun a ha h1 h2 => ?_⟩
  · have hj := List.getElem_mem h
    rw [putL_other m qs 0 hw hq' _ (hp _ hj).1 (hd _ hj), putL_bit n ps 0 hb hp hn j h, Nat.zero_add]
  · rw [putL_bit m qs 0 hw hq' hm j h, Nat.zero_add]
  · rw [putL_other m qs 0 hw hq' a ha h2, putL_other n ps 0 hb hp a ha h1]
theorem put_swap (n m : Int) (ps qs : List Int) {b : List Int} (hb : wfB b) (hp : ∀ p ∈ ps, 0 ≤ p ∧ p < 8 * b.length) (hq : ∀ p ∈ qs, 0 ≤ p ∧ p < 8 * b.length) (hn : ps.Nodup) (hm : qs.Nodup) (hd : ∀ p ∈ ps, p ∉ qs) :
    putL m qs 0 (putL n ps 0 b) = putL n ps 0 (putL m qs 0 b) := by
  obtain ⟨a1, a2, a3⟩ := put_both n m ps qs hb hp hq hn hm hd
  obtain ⟨b1, b2, b3⟩ := put_both m n qs ps hb hq hp hm hn (fun p hp hq => hd p hq hp)
  refine row_ext (putL_wf _ _ _ (putL_wf _ _ _ hb)) (putL_wf _ _ _ (putL_wf _ _ _ hb)) (by simp only [putL_len]) (fun a ha _ => ?_)
  by_cases h1 : a ∈ ps
  · obtain ⟨j, hj, rfl⟩ := List.getElem_of_mem h1
    rw [a1 j hj, b2 j hj]
  · by_cases h2 : a ∈ qs
    · obtain ⟨j, hj, rfl⟩ := List.getElem_of_mem h2
      rw [a2 j hj, b1 j hj]
    · rw [a3 a ha h1 h2, b3 a ha h2 h1]

theorem SigApart : ∀ (y0 : S39) (y1 : List Int) (y2 : S40), (ok39 y0) → ((y1.length * 1 ≤ 140737488351232 ∧ y1.length ≤ maxLen ∧ ∀ z0 ∈ y1, (Lit.int .u8 z0).wf = true)) → (ok40 y2) → ∃ k, phaetonlaw15_SigApart.f k y0.f0.f0 y0.f0.f1 y0.f0.f2 y0.f0.f3 y0.f0.f4 y0.f0.f5 y0.f1.f0 y0.f1.f1 y0.f1.f2 y0.f1.f3 y0.f1.f4 y0.f1.f5 y1 y2.f0 y2.f1 = some true := by
  intro y0 y1 y2 h0 h1 h2
  obtain ⟨⟨st, ln, big, sgn, mul, add⟩, ⟨st', ln', big', sgn', mul', add'⟩⟩ := y0
  obtain ⟨n, m⟩ := y2
  dsimp only
  refine ⟨200, ?_⟩
  unfold phaetonlaw15_SigApart.f
  have hb : wfB (y1.take 8) := wf_take (wf_of h1.2.2) _
  have hl : (y1.take 8).length ≤ 8 := by rw [List.length_take]; omega
  rw [head_true _ (by omega), Option.bind_some, fData, Option.bind_some]
  generalize y1.take 8 = b at *
  have hA : ∀ s t : S23, sig_Apart.f [s, t] (b.length : Int) = some (apartS b.length [s, t] (List.replicate 64 false)) := fun s t => by unfold sig_Apart.f; rw [if_pos (by simp)]
  rw [hA, Option.bind_some, hA, Option.bind_some]
  cases hap : apartS b.length [⟨st, ln, big, sgn, mul, add⟩, ⟨st', ln', big', sgn', mul', add'⟩] (List.replicate 64 false) with
  | false => rw [if_neg (by decide), apart_swap _ _ _ hap, if_neg (by decide)]
  | true =>
    obtain ⟨r1, r2, hd⟩ := (two_apart _ _ _).1 hap
    have R1 := rightS_iff.1 r1
    have R2 := rightS_iff.1 r2
    dsimp only at R1 R2
    have hr1 : rightS st ln big sgn mul add b.length = true := r1
    have hr2 : rightS st' ln' big' sgn' mul' add' b.length = true := r2
    have hln : 1 ≤ ln ∧ ln ≤ 32 := ⟨R1.l1, R1.l32⟩
    have hln' : 1 ≤ ln' ∧ ln' ≤ 32 := ⟨R2.l1, R2.l32⟩
    rw [if_pos rfl, fPut _ _ _ _ _ _ _ _ _ hb (by omega), Option.bind_some, fPut _ _ _ _ _ _ _ _ _ hb (by omega), Option.bind_some]
    have yes : ∀ (st ln : Int) (big sgn : Bool) (mul add n : Int) (c : List Int), c.length = b.length → rightS st ln big sgn mul add b.length = true → fitsS ln sgn n = true → putS c st ln big sgn mul add n = (putL n (plS st ln big) 0 c, true) := fun st ln big sgn mul add n c hc h hf => by unfold putS; rw [hc, if_pos h, if_pos hf]
    have no : ∀ (st ln : Int) (big sgn : Bool) (mul add n : Int), rightS st ln big sgn mul add b.length = true → fitsS ln sgn n = false → putS b st ln big sgn mul add n = ([], false) := fun st ln big sgn mul add n h hf => by unfold putS; rw [if_pos h, if_neg (by rw [hf]; decide)]
    cases hf : fitsS ln sgn n with
    | false => rw [no _ _ _ _ _ _ _ hr1 hf, if_neg (by decide), phaetonlaw15_SigApart.j0, if_pos rfl]
    | true =>
      rw [yes _ _ _ _ _ _ _ b rfl hr1 hf, if_pos rfl]
      cases hg : fitsS ln' sgn' m with
      | false => rw [no _ _ _ _ _ _ _ hr2 hg, phaetonlaw15_SigApart.j0]; exact if_pos rfl
      | true =>
        rw [yes _ _ _ _ _ _ _ b rfl hr2 hg, phaetonlaw15_SigApart.j0]
        dsimp only
        rw [if_neg (by decide)]
        have wc := putL_wf n (plS st ln big) 0 hb
        have wd := putL_wf m (plS st' ln' big') 0 hb
        have lc := putL_len n (plS st ln big) 0 b
        have ld := putL_len m (plS st' ln' big') 0 b
        have hpl := plS_len st ln big
        have hpl' := plS_len st' ln' big'
        have hnd := plS_nodup st ln big R1.s0
        have hnd' := plS_nodup st' ln' big' R2.s0
        have hdj : ∀ p ∈ plS st ln big, p ∉ plS st' ln' big' := fun p hp hq => hd p (plS_mem.1 hp) (plS_mem.1 hq)
        obtain ⟨a1, a2, a3⟩ := put_both n m (plS st ln big) (plS st' ln' big') hb (plS_in R1) (plS_in R2) hnd hnd' hdj
        have hsw := put_swap n m (plS st ln big) (plS st' ln' big') hb (plS_in R1) (plS_in R2) hnd hnd' hdj
        have wx := putL_wf m (plS st' ln' big') 0 wc
        have lx := putL_len m (plS st' ln' big') 0 (putL n (plS st ln big) 0 b)
        have hgl : ∀ (ps : List Int) (j : Nat) (hj : j < ps.length), ps.getD j 0 = ps[j] := fun ps j hj => by rw [List.getD_eq_getElem?_getD, List.getElem?_eq_getElem hj]; rfl
        rw [fPut _ _ _ _ _ _ _ _ _ wc (by omega), Option.bind_some, fPut _ _ _ _ _ _ _ _ _ wd (by omega), Option.bind_some, yes _ _ _ _ _ _ _ _ lc hr2 hg, yes _ _ _ _ _ _ _ _ ld hr1 hf]
        dsimp only
        rw [← hsw]
        generalize putL m (plS st' ln' big') 0 (putL n (plS st ln big) 0 b) = x at *
        have g1 : gotS x st ln big sgn mul add = (n, true) := by
          unfold gotS
          rw [lx, lc, if_pos hr1, accN_of n _ _ ln.toNat (fun j hj => by rw [hgl _ j (by omega), a1 j (by omega)]), sign_of hln sgn n hf]
        have g2 : gotS x st' ln' big' sgn' mul' add' = (m, true) := by
          unfold gotS
          rw [lx, lc, if_pos hr2, accN_of m _ _ ln'.toNat (fun j hj => by rw [hgl _ j (by omega), a2 j (by omega)]), sign_of hln' sgn' m hg]
        rw [fGet _ _ _ _ _ _ _ wx, Option.bind_some, fGet _ _ _ _ _ _ _ wx, Option.bind_some, g1, g2, if_pos rfl, if_pos rfl, fBytes _ _ _ (by omega) (by omega), Option.bind_some]
        simp

end Go.Proofs.Ytcgkkjimonfhbaa.Pure
