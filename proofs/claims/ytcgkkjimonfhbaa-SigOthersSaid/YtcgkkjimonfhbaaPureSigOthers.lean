/-
  The plain law of SigOthers: what the printed text answers is true. Conditions: the numbers are ints, the rows read.
-/
import Derived.Test.YtcgkkjimonfhbaaPx22
import Derived.Test.YtcgkkjimonfhbaaPlainF
namespace Go.Proofs.Ytcgkkjimonfhbaa.Pure
open Go.RowKit Go.Proofs.YtcgkkjimonfhbaaOwn Go.Proofs.Ytcgkkjimonfhbaa.P Go.Proofs.YtcgkkjimonfhbaaW.PrintWords Go.Proofs.YtcgkkjimonfhbaaW.PrintLast Go.Proofs.YtcgkkjimonfhbaaW.PrintMore
set_option linter.unusedVariables false
set_option linter.unusedSimpArgs false

theorem xor_nat (x y : Fin 256) : Go.bits .xor .u8 (x.val : Int) (y.val : Int) = ((x.val ^^^ y.val : Nat) : Int) ∧ x.val ^^^ y.val < 256 := by
  have hlt : x.val ^^^ y.val < 256 := Nat.xor_lt_two_pow (n := 8) x.isLt y.isLt
  refine ⟨?_, hlt⟩
  show IntKind.u8.wrap ((BitVec.ofInt 8 (x.val : Int) ^^^ BitVec.ofInt 8 (y.val : Int)).toNat : Int) = _
  rw [BitVec.ofInt_natCast, BitVec.ofInt_natCast, BitVec.toNat_xor, BitVec.toNat_ofNat, BitVec.toNat_ofNat, Nat.mod_eq_of_lt (show x.val < 2 ^ 8 from x.isLt), Nat.mod_eq_of_lt (show y.val < 2 ^ 8 from y.isLt)]
  have h : ∀ z : Fin 256, IntKind.u8.wrap (z.val : Int) = (z.val : Int) := by decide +kernel
  exact h ⟨_, hlt⟩
theorem xor_bit (x y : Fin 256) (j : Fin 8) (h : (x.val : Int) / 2 ^ j.val % 2 = (y.val : Int) / 2 ^ j.val % 2) : Go.bits .and .u8 (shr .u8 (Go.bits .xor .u8 (x.val : Int) (y.val : Int)) (j.val : Int)) 1 = 0 := by
  obtain ⟨e, hlt⟩ := xor_nat x y
  have hs : ∀ z : Int, shr .u8 z (j.val : Int) = z / 2 ^ j.val := fun z => by
    unfold shr; rw [Int.toNat_natCast, show min j.val (IntKind.u8).bits = j.val from Nat.min_eq_left (by have := j.isLt; show j.val ≤ 8; omega)]
  have hb := byte_bit ⟨x.val ^^^ y.val, hlt⟩ j
  rw [e, hs, hb]
  have hc : ∀ z : Nat, ((z : Int) / 2 ^ j.val % 2) = ((z / 2 ^ j.val % 2 : Nat) : Int) := fun z => by push_cast; rfl
  rw [hc, hc] at h
  rw [hc]
  have h2 : x.val / 2 ^ j.val % 2 = y.val / 2 ^ j.val % 2 := by exact_mod_cast h
  have ht : (x.val ^^^ y.val).testBit j.val = false := by
    rw [Nat.testBit_xor, Nat.testBit_eq_decide_div_mod_eq, Nat.testBit_eq_decide_div_mod_eq, h2]; simp
  rw [Nat.testBit_eq_decide_div_mod_eq, decide_eq_false_iff_not] at ht
  have h01 := Nat.mod_two_eq_zero_or_one ((x.val ^^^ y.val) / 2 ^ j.val)
  show ((((x.val ^^^ y.val) / 2 ^ j.val % 2 : Nat) : Int)) = 0
  omega
theorem others_l0 (b c : List Int) (hb : wfB b) (hc : wfB c) (hl : c.length = b.length) (hl8 : b.length ≤ 8) (up : Bool) (ps : List Int) (hp : ps.length ≤ 32) (hs : ∀ a : Int, 0 ≤ a → a ∉ ps → bitA c a = bitA b a) : ∀ (k i : Nat), i ≤ 8 * b.length → 8 * b.length - i + 40 < k → phaetonlaw15_SigOthers.l0 k b up c ps (i : Int) = some up
  | 0, _, _, h => by omega
  | k + 1, i, hi, h => by
    rw [phaetonlaw15_SigOthers.l0, wr (8 * (b.length : Int)) (by omega)]
    by_cases e : i < 8 * b.length
    · have IH := others_l0 b c hb hc hl hl8 up ps hp hs k (i + 1) (by omega) (by omega)
      rw [if_pos (by omega), fIn _ _ _ (by omega) (by omega), Option.bind_some, wr1 i (by omega), Int.tdiv_eq_ediv_of_nonneg (by omega), Int.tmod_eq_emod_of_nonneg (by omega), wr ((i : Int) / 8) (by omega)]
      by_cases m : (i : Int) ∈ ps
      · rw [decide_eq_true m, if_pos rfl, IH]
      · rw [decide_eq_false m, if_neg (by decide), if_pos (by omega), if_pos (by omega), if_pos (by omega), if_pos (by omega)]
        have hh := hs i (by omega) m
        unfold bitA at hh
        obtain ⟨x, hx⟩ := of_byte (rd_in hc ((i : Int) / 8))
        obtain ⟨y, hy⟩ := of_byte (rd_in hb ((i : Int) / 8))
        have hj : (((⟨((i : Int) % 8).toNat, by omega⟩ : Fin 8).val : Nat) : Int) = (i : Int) % 8 := by simp; omega
        rw [hx, hy] at hh ⊢
        have hxb := xor_bit x y ⟨((i : Int) % 8).toNat, by omega⟩ hh
        rw [hj] at hxb
        rw [hxb, if_neg (by decide), IH]
    · rw [if_neg (by omega)]

theorem SigOthers : ∀ (y0 : S23) (y1 : List Int) (y2 : Int), (ok23 y0) → ((y1.length * 1 ≤ 140737488351232 ∧ y1.length ≤ maxLen ∧ ∀ z0 ∈ y1, (Lit.int .u8 z0).wf = true)) → ((Lit.int .i64 y2).wf = true) → ∃ k, phaetonlaw15_SigOthers.f k y0.f0 y0.f1 y0.f2 y0.f3 y0.f4 y0.f5 y1 y2 = some true := by
  intro y0 y1 y2 h0 h1 h2
  obtain ⟨st, ln, big, sgn, mul, add⟩ := y0
  dsimp only
  refine ⟨300, ?_⟩
  unfold phaetonlaw15_SigOthers.f
  have hb : wfB (y1.take 8) := wf_take (wf_of h1.2.2) _
  have hl : (y1.take 8).length ≤ 8 := by rw [List.length_take]; omega
  rw [head_true _ (by omega), Option.bind_some, fData, Option.bind_some, Option.bind_some]
  generalize y1.take 8 = b at *
  rw [if_pos (by rw [List.length_nil]; omega), fPut _ _ _ _ _ _ _ _ _ hb (by omega), Option.bind_some, List.nil_append, fBytes _ _ _ (by omega) (by omega), Option.bind_some, decide_eq_true rfl, if_pos rfl]
  have no : putS b st ln big sgn mul add y2 = ([], false) → (if (putS b st ln big sgn mul add y2).2 = true then phaetonlaw15_SigOthers.j0 300 b true (putS b st ln big sgn mul add y2).1 (putS b st ln big sgn mul add y2).2 false st ln big sgn mul add else phaetonlaw15_SigOthers.j0 300 b true (putS b st ln big sgn mul add y2).1 (putS b st ln big sgn mul add y2).2 (decide (((putS b st ln big sgn mul add y2).1.length : Int) > 0)) st ln big sgn mul add) = some true := by
    intro h
    rw [h]
    dsimp only
    rw [if_neg (by decide), phaetonlaw15_SigOthers.j0, if_neg (by decide), if_neg (by decide)]
  cases h : rightS st ln big sgn mul add b.length with
  | false => exact no (by unfold putS; rw [if_neg (by rw [h]; decide)])
  | true =>
    cases hf : fitsS ln sgn y2 with
    | false => exact no (by unfold putS; rw [if_pos h, if_neg (by rw [hf]; decide)])
    | true =>
      have hR := rightS_iff.1 h
      have hq : putS b st ln big sgn mul add y2 = (putL y2 (plS st ln big) 0 b, true) := by unfold putS; rw [if_pos h, if_pos hf]
      have hw := putL_wf y2 (plS st ln big) 0 hb
      have hlen := putL_len y2 (plS st ln big) 0 b
      have hpl := plS_len st ln big
      rw [hq]
      dsimp only
      rw [if_pos rfl, phaetonlaw15_SigOthers.j0, if_neg (by decide), if_pos rfl, fRPlaces _ _ _ _ _ _ _ (by omega), Option.bind_some, placesS_yes (right_eight h), if_pos (by omega)]
      exact others_l0 b _ hb hw hlen hl true _ (by have := hR.l32; omega) (fun a ha hn => putL_other y2 _ 0 hb (plS_in hR) a ha hn) 299 0 (by omega) (by omega)

end Go.Proofs.Ytcgkkjimonfhbaa.Pure
