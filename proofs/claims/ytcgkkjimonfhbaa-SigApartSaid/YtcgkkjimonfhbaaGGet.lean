/-
  sig.Get by hand: a number out of bytes. No condition.
-/
import Derived.IntWalk
import Derived.Deep.LoopGhost
import Derived.Test.YtcgkkjimonfhbaaPx3
import Derived.Test.YtcgkkjimonfhbaaGPlaces
namespace Go.Proofs.Ytcgkkjimonfhbaa.P
open Go.RowKit Go.Shelf Go.Proofs.YtcgkkjimonfhbaaW.PrintWords Go.Proofs.YtcgkkjimonfhbaaW.PrintLast Go.Proofs.YtcgkkjimonfhbaaW.PrintMore
attribute [local go_sem] Oper.semAt_some
set_option linter.unusedVariables false
set_option linter.unusedSimpArgs false

/-- The least and the greatest number that fits. -/
def endsS (ln : Int) (sgn : Bool) : Int × Int := if sgn = true then (wrap64 (Int.tdiv (wrap64 (-(shl .i64 1 ln))) 2), wrap64 ((wrap64 (Int.tdiv (shl .i64 1 ln) 2)) - 1)) else (0, wrap64 ((shl .i64 1 ln) - 1))
theorem ends_some (st ln : Int) (big sgn : Bool) (mul add : Int) (h : 0 ≤ ln) : sig_ends.f st ln big sgn mul add = some (endsS ln sgn) := by
  unfold sig_ends.f endsS
  rw [if_pos h]
  cases sgn
  · rw [if_neg (by decide), if_neg (by decide)]
  · rw [if_pos rfl, if_pos rfl]
/-- The number with its sign. -/
def signS (ln : Int) (sgn : Bool) (n : Int) : Int := if n > (endsS ln sgn).2 then wrap64 (n - shl .i64 1 ln) else n
/-- The bit at a place; the first so many places' number. -/
def bitS (b : List Int) (a : Int) : Int := Go.bits .and .u8 (rd b (a / 8) / 2 ^ (a % 8).toNat) 1
def accK (b ps : List Int) : Nat → Int
  | 0 => 0
  | k + 1 => Go.bits .or .i64 (accK b ps k) (wrap64 (wrap64 (bitS b (ps.getD k 0)) * 2 ^ k))
def getS (b : List Int) (st ln : Int) (big sgn : Bool) (mul add : Int) : Int × Bool :=
  if rightS st ln big sgn mul add b.length = true then (signS ln sgn (accK b (placesS st ln big sgn mul add) ln.toNat), true) else (0, false)
def sig_Get.f (l0 : List Int) (a1_0 : Int) (a1_1 : Int) (a1_2 : Bool) (a1_3 : Bool) (a1_4 : Int) (a1_5 : Int) : Option (Int × Bool) := some (getS l0 a1_0 a1_1 a1_2 a1_3 a1_4 a1_5)

theorem shl_pow (ln : Nat) (hln : ln ≤ 32) : shl .i64 1 (ln : Int) = wrap64 (2 ^ ln) := by
  have h := shl_small (k := .i64) (x := 1) (y := (ln : Int)) rfl (by have : IntKind.bits .i64 = 64 := rfl; omega)
  rw [Int.one_mul, Int.toNat_natCast] at h
  rw [← h, i64_w]

theorem sign_calls (st : Int) (ln : Nat) (hln : ln ≤ 32) (big sgn : Bool) (mul add n : Int) (B : Nat) (w : World) (hB : w.heap[B]? = some (.cells (sigC st ln big sgn mul add) 23 (0, 0))) :
    Calls Try.prog 31 #[.int .i64 n, .pointer (some ⟨B, 0, none⟩)] w fun e w' => e = .returned (.int .i64 (signS ln sgn n)) ∧ Below w.heap.size w w' := by
  have hu23 := Try.underlying23
  obtain ⟨lo, hi, he⟩ : ∃ lo hi, endsS ln sgn = (lo, hi) := ⟨_, _, rfl⟩
  have HF := Aside0.mk (show sig_ends.f st ln big sgn mul add = some (lo, hi) by rw [ends_some st ln big sgn mul add (by omega), he])
  have q0 : w.cell? ⟨B, 0, none⟩ = some (.int .i64 st) := (blk_cell hB 0).trans rfl
  have q1 : w.cell? ⟨B, 1, none⟩ = some (.int .i64 ln) := (blk_cell hB 1).trans rfl
  have q2 : w.cell? ⟨B, 2, none⟩ = some (.bool big) := (blk_cell hB 2).trans rfl
  have q3 : w.cell? ⟨B, 3, none⟩ = some (.bool sgn) := (blk_cell hB 3).trans rfl
  have q4 : w.cell? ⟨B, 4, none⟩ = some (.int .i64 mul) := (blk_cell hB 4).trans rfl
  have q5 : w.cell? ⟨B, 5, none⟩ = some (.int .i64 add) := (blk_cell hB 5).trans rfl
  have HS := Aside0.mk hB
  clear hB
  have hl0 : (0 : Int) ≤ ln := by omega
  have hs := Aside0.mk (shl_pow ln hln)
  by_cases c : hi < n
  · have c' := eq_true c
    have hr := Aside0.mk (show signS ln sgn n = wrap64 (n - shl .i64 1 ln) by rw [signS, he]; exact if_pos c)
    clear he c
    go_enter Try.func31, Try.ntmps31
    go_wp2_with (go_at_call 32; refine (sig_ends.calls st ln big sgn mul add _ _ _ HF.out).mono ?_; rintro e w1 ⟨rfl, hb⟩; have hb1 := Aside0.mk hb; have x1 : w1.cell? ⟨B, 1, none⟩ = some (.int .i64 ln) := (blk_cell (blk_below HS.out hb) 1).trans rfl; clear hb)
    go_ret
    refine ⟨?_, hb1.out⟩
    rw [hr.out, hs.out]
    rfl
  · have c' : decide (hi < n) = false := decide_eq_false c
    have hr := Aside0.mk (show signS ln sgn n = n by rw [signS, he]; exact if_neg c)
    clear he c
    go_enter Try.func31, Try.ntmps31
    go_wp2_with (go_at_call 32; refine (sig_ends.calls st ln big sgn mul add _ _ _ HF.out).mono ?_; rintro e w1 ⟨rfl, hb⟩; have hb1 := Aside0.mk hb; clear hb)
    go_ret
    exact ⟨by rw [hr.out]; rfl, hb1.out⟩
theorem right_facts {st ln : Int} {big sgn : Bool} {mul add bytes : Int} (h : rightS st ln big sgn mul add bytes = true) : 0 ≤ bytes ∧ bytes ≤ 8 ∧ 1 ≤ ln ∧ ln ≤ 32 ∧ 0 ≤ st ∧ st < 8 * bytes ∧ ∀ a ∈ placesK big st ln.toNat, a < 8 * bytes := by
  unfold rightS at h
  simp only [Bool.and_eq_true, decide_eq_true_eq, List.all_eq_true] at h
  exact ⟨h.1, h.2.1, h.2.2.1, h.2.2.2.1, h.2.2.2.2.1, h.2.2.2.2.2.1, h.2.2.2.2.2.2.1⟩
theorem right_eight {st ln : Int} {big sgn : Bool} {mul add bytes : Int} (h : rightS st ln big sgn mul add bytes = true) : rightS st ln big sgn mul add 8 = true := by
  have hf := right_facts h
  unfold rightS at h ⊢
  simp only [Bool.and_eq_true, decide_eq_true_eq, List.all_eq_true] at h ⊢
  refine ⟨by omega, by omega, by omega, by omega, by omega, by omega, fun a ha => ?_, h.2.2.2.2.2.2.2⟩
  have := h.2.2.2.2.2.2.1 a ha
  omega
theorem places_mem {st ln : Int} {big sgn : Bool} {mul add bytes : Int} (h : rightS st ln big sgn mul add bytes = true) : (placesS st ln big sgn mul add).length = ln.toNat ∧ ∀ a ∈ placesS st ln big sgn mul add, 0 ≤ a ∧ a < 8 * bytes := by
  have hf := right_facts h
  have h8 := right_eight h
  unfold placesS
  rw [if_pos h8]
  have hm : ∀ a ∈ placesK big st ln.toNat, 0 ≤ a ∧ a < 8 * bytes := fun a ha => ⟨by
    unfold placesK at ha
    obtain ⟨k, _, rfl⟩ := List.mem_map.1 ha
    exact (atK_range big st (by omega) k).1, hf.2.2.2.2.2.2 a ha⟩
  split
  · exact ⟨by rw [List.length_reverse, placesK_len], fun a ha => hm a (List.mem_reverse.1 ha)⟩
  · exact ⟨placesK_len _ _ _, hm⟩

theorem get_no (A0 : Option Addr) (c0 : Nat) (l0 : List Int) (st ln : Int) (big sgn : Bool) (mul add : Int) (w : World) (h : rightS st ln big sgn mul add l0.length = false) :
    Calls Try.prog 14 #[.slice A0 l0.length c0, .agg #[.int .i64 st, .int .i64 ln, .bool big, .bool sgn, .int .i64 mul, .int .i64 add]] w fun e w' => e = .returned (.tuple #[.int .i64 0, .bool false]) ∧ Below w.heap.size w w' := by
  have hu23 := Try.underlying23
  have HF := Aside0.mk (show sig_Right.f st ln big sgn mul add l0.length = some false by rw [sig_Right.f, h])
  clear h
  go_enter Try.func14, Try.ntmps14
  go_wp2_with (go_at_call 16; refine (sig_Right.calls st ln big sgn mul add l0.length false _ HF.out).mono ?_; rintro e w1 ⟨rfl, hb⟩; have HB1 := Aside0.mk ((below_alloc (Below.refl _ w) (.cells #[.int .i64 st, .int .i64 ln, .bool big, .bool sgn, .int .i64 mul, .int .i64 add] 23)).trans (hb.mono (by simp))); clear hb)
  go_ret2
  exact ⟨rfl, HB1.out⟩

set_option maxRecDepth 100000 in
set_option maxHeartbeats 4000000 in
theorem get_yes (A0 : Option Addr) (c0 : Nat) (l0 : List Int) (st : Int) (ln : Nat) (big sgn : Bool) (mul add : Int) (w : World) (hr0 : Kd.C (Kd.int .u8) w A0 l0.length l0) (h : rightS st ln big sgn mul add l0.length = true) :
    Calls Try.prog 14 #[.slice A0 l0.length c0, .agg #[.int .i64 st, .int .i64 ln, .bool big, .bool sgn, .int .i64 mul, .int .i64 add]] w fun e w' => e = .returned (.tuple #[.int .i64 (signS ln sgn (accK l0 (placesS st ln big sgn mul add) ln)), .bool true]) ∧ Below w.heap.size w w' := by
  have hu23 := Try.underlying23
  have HF := Aside0.mk (show sig_Right.f st ln big sgn mul add l0.length = some true by rw [sig_Right.f, h])
  have hf := right_facts h
  obtain ⟨hpl, hpm⟩ := places_mem h
  obtain ⟨ps, hps⟩ : ∃ ps, placesS st ln big sgn mul add = ps := ⟨_, rfl⟩
  have HP := Aside0.mk (show sig_Places.f st ln big sgn mul add = some ps by rw [sig_Places.f, hps])
  rw [hps] at hpl hpm ⊢
  rw [Int.toNat_natCast] at hpl
  have hln : ln ≤ 32 := by omega
  have hl8 : l0.length ≤ 8 := by omega
  have HPM := Aside0.mk hpm
  have HC := Aside0.mk hr0
  clear h hf hps hpm hr0
  go_enter Try.func14, Try.ntmps14
  go_wp2_with (first | (go_at_call 16; refine (sig_Right.calls st ln big sgn mul add l0.length true _ HF.out).mono ?_; rintro e w1 ⟨rfl, hb⟩; have hs0 := blk_below (blk_new w (.cells #[.int .i64 st, .int .i64 ln, .bool big, .bool sgn, .int .i64 mul, .int .i64 add] 23)) hb; have HB1 := Aside0.mk ((below_alloc (Below.refl _ w) (.cells #[.int .i64 st, .int .i64 ln, .bool big, .bool sgn, .int .i64 mul, .int .i64 add] 23)).trans (hb.mono (by simp))); have x0 : w1.cell? ⟨w.heap.size, 0, none⟩ = some (.int .i64 st) := (blk_cell hs0 0).trans rfl; have x1 : w1.cell? ⟨w.heap.size, 1, none⟩ = some (.int .i64 ln) := (blk_cell hs0 1).trans rfl; have x2 : w1.cell? ⟨w.heap.size, 2, none⟩ = some (.bool big) := (blk_cell hs0 2).trans rfl; have x3 : w1.cell? ⟨w.heap.size, 3, none⟩ = some (.bool sgn) := (blk_cell hs0 3).trans rfl; have x4 : w1.cell? ⟨w.heap.size, 4, none⟩ = some (.int .i64 mul) := (blk_cell hs0 4).trans rfl; have x5 : w1.cell? ⟨w.heap.size, 5, none⟩ = some (.int .i64 add) := (blk_cell hs0 5).trans rfl; have HS0 := Aside0.mk hs0; clear hs0 hb) | (go_at_call 19; refine (sig_Places.calls st ln big sgn mul add ps _ HP.out).mono ?_; rintro e w2 ⟨v0, rfl, hrow, hb⟩; have HS2 := Aside0.mk (blk_below HS0.out hb); have HB2 := Aside0.mk (HB1.out.trans (hb.mono HB1.out.size)); have HROW := Aside0.mk hrow; obtain ⟨A, cap, hv⟩ := Kd.R_slice hrow; subst hv; clear hrow hb x0 x1 x2 x3 x4 x5))
  go_loopg [6, 18] ln (fun gg s6 s18 wr => ∃ k : Nat, k + gg = ln ∧ s6 = .int .i64 (accK l0 ps k) ∧ s18 = .int .i64 k ∧ Aside0 (wr.heap[w.heap.size]? = some (.cells (sigC st ln big sgn mul add) 23 (0, 0))) ∧ Aside0 (Below w.heap.size w wr) ∧ Aside0 (Kd.R (Kd.int .i64) 3 wr w.heap.size (fun _ => True) (.slice A ln cap) ps))
  case atStart => exact ⟨0, by omega, rfl, rfl, HS2, HB2, ⟨by have h_ := Kd.R_lower HROW.out HB1.out.size; rw [← hpl]; exact h_⟩⟩
  case round =>
    obtain ⟨k, hk, rfl, rfl, BS, BB, BR⟩ := hrel
    by_cases hlt : k < ln
    · have hz : (k : Int) < (ln : Int) := by omega
      have hkz : (0 : Int) ≤ (k : Int) := by omega
      obtain ⟨ad, e1, hx⟩ := Kd.at_int (Kd.R_reads' BR.out).2.2 (k : Int) hkz (by omega)
      cases e1
      have hmem : rd ps k ∈ ps := by
        unfold rd
        rw [Int.toNat_natCast, List.getD_eq_getElem?_getD, List.getElem?_eq_getElem (by omega)]
        exact List.getElem_mem _
      have hpk := HPM.out _ hmem
      have HA := Aside0.mk (show accK l0 ps (k + 1) = Go.bits .or .i64 (accK l0 ps k) (wrap64 (wrap64 (bitS l0 (rd ps k)) * 2 ^ k)) by rw [accK, rd, Int.toNat_natCast])
      obtain ⟨n, hn⟩ : ∃ n, accK l0 ps k = n := ⟨_, rfl⟩
      obtain ⟨a, ha⟩ : ∃ a, rd ps k = a := ⟨_, rfl⟩
      rw [ha] at hx hpk HA
      rw [Int.toNat_natCast] at hx
      rw [hn] at HA ⊢
      clear hmem hn ha
      have a0 : 0 ≤ a := hpk.1
      have a1 : a < 1000 := by omega
      have j0 : 0 ≤ a / 8 := by omega
      have j1 : a / 8 < (l0.length : Int) := by omega
      obtain ⟨ad2, e2, hy⟩ := Kd.at_int HC.out (a / 8) j0 j1
      cases e2
      have hy2 := (BB.out.cell (World.block_lt_of_cell? w _ hy)).trans hy
      have HX := Aside0.mk (show bitS l0 a = Go.bits .and .u8 (rd l0 (a / 8) / 2 ^ (a % 8).toNat) 1 from rfl)
      obtain ⟨x, hx8⟩ : ∃ x, rd l0 (a / 8) = x := ⟨_, rfl⟩
      rw [hx8] at hy2 HX
      clear hy hx8 hpk
      go_wp2
      go_roundg (ln - (k + 1))
      case measure => omega
      case rel => exact ⟨k + 1, by omega, by rw [HA.out, HX.out], by go_num, BS, BB, BR⟩
    · have hz : ¬ (k : Int) < (ln : Int) := by omega
      obtain rfl : k = ln := by omega
      go_wp2_with (go_at_call 31; refine (sign_calls st k hln big sgn mul add _ w.heap.size _ BS.out).mono ?_; rintro e w3 ⟨rfl, hb⟩; have HB3 := Aside0.mk (BB.out.trans (hb.mono BB.out.size)); clear hb)
      go_ret2
      exact ⟨rfl, HB3.out⟩

theorem sig_Get.calls (A0 : Option Addr) (c0 : Nat) (l0 : List Int) (a1_0 : Int) (a1_1 : Int) (a1_2 : Bool) (a1_3 : Bool) (a1_4 : Int) (a1_5 : Int) (r1 : Int) (r2 : Bool) (w : World) (hr0 : Kd.C (Kd.int .u8) w A0 l0.length l0) (hc0 : l0.length ≤ c0) (h : sig_Get.f l0 a1_0 a1_1 a1_2 a1_3 a1_4 a1_5 = some (r1, r2)) :
    Calls Try.prog 14 #[.slice A0 l0.length c0, .agg #[.int .i64 a1_0, .int .i64 a1_1, .bool a1_2, .bool a1_3, .int .i64 a1_4, .int .i64 a1_5]] w fun e w' => e = .returned (.tuple #[.int .i64 r1, .bool r2]) ∧ Below w.heap.size w w' := by
  have hr : getS l0 a1_0 a1_1 a1_2 a1_3 a1_4 a1_5 = (r1, r2) := by simpa [sig_Get.f] using h
  clear h
  unfold getS at hr
  cases c : rightS a1_0 a1_1 a1_2 a1_3 a1_4 a1_5 l0.length with
  | false =>
    rw [c, if_neg (by decide)] at hr
    cases hr
    exact get_no A0 c0 l0 a1_0 a1_1 a1_2 a1_3 a1_4 a1_5 w c
  | true =>
    rw [c, if_pos rfl] at hr
    have hf := right_facts c
    obtain ⟨ln, rfl⟩ : ∃ ln : Nat, a1_1 = ln := ⟨a1_1.toNat, by omega⟩
    rw [Int.toNat_natCast] at hr
    cases hr
    exact get_yes A0 c0 l0 a1_0 ln a1_2 a1_3 a1_4 a1_5 w hr0 c
end Go.Proofs.Ytcgkkjimonfhbaa.P
