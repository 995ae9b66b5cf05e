/-
  filter.Any by hand: some filter of a list takes a frame, or there is none. The closure that it hands to slices.ContainsFunc, and that function, are walked here. Conditions: the list and the frame's data read.
-/
import Derived.Test.YtcbcgfeliainaaaPx3
import Derived.Deep.LoopGhost
import Derived.Shelf.Abstract
namespace Go.Proofs.Ytcbcgfeliainaaa.P
open Go.Shelf Go.RowKit Go.Proofs.YtcbcgfeliainaaaW.PrintWords Go.Proofs.YtcbcgfeliainaaaW.PrintLast Go.Proofs.YtcbcgfeliainaaaW.PrintMore
set_option linter.unusedVariables false
set_option linter.unusedSimpArgs false

def takesP (b0 : Bool) (b1 : Int) (f : S23) : Bool := b0 == f.f0 && (Go.bits .and .i64 b1 f.f1 == f.f2)
def filter_Any.f (l0 : List S23) (a1_0 : Bool) (a1_1 : Int) (a1_2 : Bool) (a1_3 : Int) (l1_4 : List Int) : Option (Bool) := some (l0.isEmpty || l0.any (takesP a1_0 a1_1))

/-- The closure, in whatever later world. -/
theorem any_pred (B : Nat) (b0 : Bool) (b1 : Int) (b2 : Bool) (b3 : Int) (A : Option Addr) (c : Nat) (l : List Int) (w : World) (hB : B < w.heap.size) (hc : l.length ≤ c) (hr : Kd.C (Kd.int .u8) w A l.length l)
    (h0 : w.cell? ⟨B, 0, none⟩ = some (.bool b0)) (h1 : w.cell? ⟨B, 1, none⟩ = some (.int .i64 b1)) (h2 : w.cell? ⟨B, 2, none⟩ = some (.bool b2)) (h3 : w.cell? ⟨B, 3, none⟩ = some (.int .i64 b3)) (h4 : w.cell? ⟨B, 4, none⟩ = some (.slice A l.length c))
    (W : World) (x : S23) (hb : Below w.heap.size w W) :
    Calls Try.prog 25 #[.agg #[.bool x.f0, .int .i64 x.f1, .int .i64 x.f2], .pointer (some ⟨B, 0, none⟩)] W fun e w' => e = .returned (.bool (takesP b0 b1 x)) ∧ Below W.heap.size W w' := by
  have hBW : B < W.heap.size := Nat.lt_of_lt_of_le hB hb.size
  have hne : B ≠ W.heap.size := by omega
  have g0 := (hb.cell (p := ⟨B, 0, none⟩) hB).trans h0
  have g1 := (hb.cell (p := ⟨B, 1, none⟩) hB).trans h1
  have g2 := (hb.cell (p := ⟨B, 2, none⟩) hB).trans h2
  have g3 := (hb.cell (p := ⟨B, 3, none⟩) hB).trans h3
  have g4 := (hb.cell (p := ⟨B, 4, none⟩) hB).trans h4
  have HR := Aside0.mk (Kd.C_below (Kd.C_below hr hb) (below_alloc (Below.refl _ W) (.cells #[.bool x.f0, .int .i64 x.f1, .int .i64 x.f2] 23)))
  have HC := Aside0.mk hc
  clear h0 h1 h2 h3 h4 hr hc hb
  go_enter Try.func25, Try.ntmps25
  have ht : filter_Takes.f x.f0 x.f1 x.f2 b0 b1 b2 b3 l = some (takesP b0 b1 x) := rfl
  go_wp2_with (go_at_call 15; refine (filter_Takes.calls x.f0 x.f1 x.f2 b0 b1 b2 b3 A c l _ _ HR.out HC.out ht).mono ?_; rintro e w' ⟨rfl, hb⟩)
  go_ret
  exact ⟨rfl, (below_alloc (Below.refl _ W) _).trans (hb.mono (by simp))⟩

/-- slices.IndexFunc over filters: where the first one lies of which p holds; -1 if there is none. -/
theorem idx_calls (A : Option Addr) (c : Nat) (l : List S23) (lb : Array Value) (p : S23 → Bool) (w : World) (hr : Kd.C k23 w A l.length l) (hc : l.length ≤ c)
    (hp : ∀ (W : World) (x : S23), Below w.heap.size w W → Calls Try.prog 25 (#[.agg #[.bool x.f0, .int .i64 x.f1, .int .i64 x.f2]] ++ lb) W fun e w' => e = .returned (.bool (p x)) ∧ Below W.heap.size W w') :
    Calls Try.prog 27 #[.slice A l.length c, .func (.func 25) #[] lb] w fun e w' => (∃ i : Int, e = .returned (.int .i64 i) ∧ decide (0 ≤ i) = l.any p) ∧ Below w.heap.size w w' := by
  have eg : ∀ args w, (callFunc 25 args).run Try.prog w = .ok (.enter 25 args) w := enters_of Try.func25 (by kernel_rfl) rfl
  have hu23 := Try.underlying23
  have HR := Aside0.mk hr
  have HP := Aside0.mk hp
  have hm : l.length ≤ 9223372036854775807 := hr.2.1
  clear hr hp
  go_enter Try.func27, Try.ntmps27
  go_wp2
  go_loopg [5, 8] l.length (fun gg _ s8 wr => ∃ kk : Nat, kk ≤ l.length ∧ l.length - kk ≤ gg ∧ s8 = .int .i64 kk ∧ Aside0 (Below w.heap.size w wr) ∧ Aside0 (∀ x ∈ l.take kk, p x = false))
  case atStart => exact ⟨0, Nat.zero_le _, by omega, rfl, ⟨Below.refl _ w⟩, ⟨by simp⟩⟩
  case round =>
    obtain ⟨kk, hkk, hg, rfl, BW, AL⟩ := hrel
    by_cases hlt : kk < l.length
    · have hltz : (kk : Int) < (l.length : Int) := by omega
      obtain ⟨ad, e0, hx0, hx1, hx2⟩ := at_T23 HR.out (kk : Int) (by omega) hltz
      cases e0
      simp only [Int.toNat_natCast] at hx0 hx1 hx2
      replace hx0 := (BW.out.cell (World.block_lt_of_cell? w _ hx0)).trans hx0
      replace hx1 := (BW.out.cell (World.block_lt_of_cell? w _ hx1)).trans hx1
      replace hx2 := (BW.out.cell (World.block_lt_of_cell? w _ hx2)).trans hx2
      have hcall := HP.out wr (rd_T23 l kk) BW.out
      have HT : Aside0 (l.take (kk + 1) = l.take kk ++ [rd_T23 l kk]) := ⟨by
        rw [List.take_succ_eq_append_getElem hlt]
        simp [rd_T23, List.getD_eq_getElem?_getD, List.getElem?_eq_getElem hlt]⟩
      have HM : Aside0 (rd_T23 l kk ∈ l) := ⟨by simp [rd_T23, List.getD_eq_getElem?_getD, List.getElem?_eq_getElem hlt]⟩
      cases hq : p (rd_T23 l kk) with
      | true =>
        rw [hq] at hcall
        have HQ := Aside0.mk hq
        have HCALL := Aside0.mk hcall
        clear hq hcall
        go_wp2_with (go_at_fn 25; refine HCALL.out.mono ?_; rintro e w' ⟨rfl, hb'⟩)
        go_ret
        refine ⟨⟨_, rfl, ?_⟩, below_step BW.out hb'⟩
        rw [List.any_eq_true.2 ⟨_, HM.out, HQ.out⟩]
        simp
      | false =>
        rw [hq] at hcall
        have HQ := Aside0.mk hq
        have HCALL := Aside0.mk hcall
        clear hq hcall
        go_wp2_with (go_at_fn 25; refine HCALL.out.mono ?_; rintro e w' ⟨rfl, hb'⟩)
        go_roundg (l.length - (kk + 1))
        case measure => omega
        case rel => exact ⟨kk + 1, by omega, by omega, by go_num, ⟨below_step BW.out hb'⟩, ⟨fun x hx => by
          rw [HT.out] at hx
          rcases List.mem_append.1 hx with hx | hx
          · exact AL.out x hx
          · rw [List.mem_singleton.1 hx]; exact HQ.out⟩⟩
    · have hltz : ¬ (kk : Int) < (l.length : Int) := by omega
      have hk : kk = l.length := by omega
      subst hk
      go_wp2
      go_ret
      refine ⟨⟨_, rfl, ?_⟩, BW.out⟩
      have h1 := AL.out
      rw [List.take_length] at h1
      rw [List.any_eq_false.2 (fun x hx => by rw [h1 x hx]; simp)]
      simp

/-- slices.ContainsFunc over filters. -/
theorem contains_calls (A : Option Addr) (c : Nat) (l : List S23) (lb : Array Value) (p : S23 → Bool) (w : World) (hr : Kd.C k23 w A l.length l) (hc : l.length ≤ c)
    (hp : ∀ (W : World) (x : S23), Below w.heap.size w W → Calls Try.prog 25 (#[.agg #[.bool x.f0, .int .i64 x.f1, .int .i64 x.f2]] ++ lb) W fun e w' => e = .returned (.bool (p x)) ∧ Below W.heap.size W w') :
    Calls Try.prog 26 #[.slice A l.length c, .func (.func 25) #[] lb] w fun e w' => e = .returned (.bool (l.any p)) ∧ Below w.heap.size w w' := by
  have HI := Aside0.mk (idx_calls A c l lb p w hr hc hp)
  clear hr hp
  go_enter Try.func26, Try.ntmps26
  go_wp2_with (go_at_call 27; refine HI.out.mono ?_; rintro e w' ⟨⟨i, rfl, hi⟩, hb'⟩; have HD := Aside0.mk hi; clear hi)
  go_ret
  exact ⟨by rw [← HD.out]; rfl, hb'⟩

theorem filter_Any.calls (A0 : Option Addr) (c0 : Nat) (l0 : List S23) (a1_0 : Bool) (a1_1 : Int) (a1_2 : Bool) (a1_3 : Int) (A1_4 : Option Addr) (c1_4 : Nat) (l1_4 : List Int) (r : Bool) (w : World)
    (hr0 : Kd.C k23 w A0 l0.length l0) (hc0 : l0.length ≤ c0) (hr1_4 : Kd.C (Kd.int .u8) w A1_4 l1_4.length l1_4) (hc1_4 : l1_4.length ≤ c1_4) (h : filter_Any.f l0 a1_0 a1_1 a1_2 a1_3 l1_4 = some r) :
    Calls Try.prog 17 #[.slice A0 l0.length c0, .agg #[.bool a1_0, .int .i64 a1_1, .bool a1_2, .int .i64 a1_3, .slice A1_4 l1_4.length c1_4]] w fun e w' => e = .returned (.bool r) ∧ Below w.heap.size w w' := by
  have hre : r = (l0.isEmpty || l0.any (takesP a1_0 a1_1)) := by simpa [filter_Any.f] using h.symm
  subst hre
  clear h
  have hb1 := below_alloc (Below.refl _ w) (.cells #[.bool a1_0, .int .i64 a1_1, .bool a1_2, .int .i64 a1_3, .slice A1_4 l1_4.length c1_4] 27)
  have HCON := Aside0.mk (contains_calls A0 c0 l0 #[.pointer (some ⟨w.heap.size, 0, none⟩)] (takesP a1_0 a1_1) _ (Kd.C_below hr0 hb1) hc0
    (fun W x hb => any_pred w.heap.size a1_0 a1_1 a1_2 a1_3 A1_4 c1_4 l1_4 _ (by simp) hc1_4 (Kd.C_below hr1_4 hb1) (by simp) (by simp) (by simp) (by simp) (by simp) W x hb))
  have HB1 := Aside0.mk hb1
  have hm : l0.length ≤ 9223372036854775807 := hr0.2.1
  clear hr0 hr1_4 hb1
  cases l0 with
  | nil =>
    go_enter Try.func17, Try.ntmps17
    go_wp2
    go_ret
    exact ⟨rfl, HB1.out⟩
  | cons x l =>
    have h0 : ((((x :: l).length : Nat) : Int) == 0) = false := by simp; omega
    go_enter Try.func17, Try.ntmps17
    go_wp2_with (go_at_call 26; refine HCON.out.mono ?_; rintro e w' ⟨rfl, hb'⟩)
    go_ret
    exact ⟨rfl, HB1.out.trans (hb'.mono (by simp))⟩
end Go.Proofs.Ytcbcgfeliainaaa.P
