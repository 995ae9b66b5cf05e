/-
  phaetonref12.Same by hand: the same hops? Conditions: both rows read.
-/
import Derived.Test.YtpcabeefahldlaaPx4
import Derived.Deep.LoopGhost
import Derived.Deep.QuietTactic
import Derived.BigQuiet
import Derived.StillTailTactics
namespace Go.Proofs.Ytpcabeefahldlaa.P
open Go.RowKit Go.Proofs.YtpcabeefahldlaaW.PrintWords Go.Proofs.YtpcabeefahldlaaW.PrintLast Go.Proofs.YtpcabeefahldlaaW.PrintMore
set_option linter.unusedVariables false
set_option linter.unusedSimpArgs false

def sameF (f g : S25) : Bool := (phaetonref04_Same.f f.f0 f.f1 f.f2 f.f3 f.f4 g.f0 g.f1 g.f2 g.f3 g.f4).getD false
theorem sameF_f (f g : S25) : phaetonref04_Same.f f.f0 f.f1 f.f2 f.f3 f.f4 g.f0 g.f1 g.f2 g.f3 g.f4 = some (sameF f g) := by
  unfold sameF phaetonref04_Same.f phaetonref01_SameBytes.f
  split
  · split
    · split
      · split <;> rfl
      · rfl
    · rfl
  · rfl
def sameH (a b : S38) : Bool := a.f0 == b.f0 && sameF a.f1 b.f1
/-- All from a place on. -/
def sameFrom (l0 l1 : List S38) (i : Nat) : Bool := ((List.range l0.length).drop i).all (fun j => sameH (rd_T38 l0 j) (rd_T38 l1 j))
def phaetonref12_Same.f (l0 : List (S38)) (l1 : List (S38)) : Option (Bool) := some (decide (l0.length = l1.length) && sameFrom l0 l1 0)
theorem sameFrom_step (l0 l1 : List S38) (i : Nat) (h : i < l0.length) : sameFrom l0 l1 i = (sameH (rd_T38 l0 i) (rd_T38 l1 i) && sameFrom l0 l1 (i + 1)) := by
  unfold sameFrom
  rw [List.drop_eq_getElem_cons (by simpa using h), List.all_cons]
  simp
theorem sameFrom_end (l0 l1 : List S38) (i : Nat) (h : l0.length ≤ i) : sameFrom l0 l1 i = true := by
  unfold sameFrom
  rw [List.drop_eq_nil_of_le (by simpa using h)]; rfl
/-- The whole is what is left, where all ahead are alike. -/
theorem same_ne (A0 : Option Addr) (c0 : Nat) (l0 : List (S38)) (A1 : Option Addr) (c1 : Nat) (l1 : List (S38)) (w : World) (h : ¬ l0.length = l1.length) :
    Calls Try.prog 17 #[.slice A0 l0.length c0, .slice A1 l1.length c1] w fun e w' => e = .returned (.bool false) ∧ Below w.heap.size w w' := by
  have h1 : (((l0.length : Nat) : Int) != ((l1.length : Nat) : Int)) = true := by simp; omega
  have h2 : (l0.length == l1.length) = false := by simpa using h
  have h3 : (l0.length != l1.length) = true := by simpa using h
  go_enter Try.func17, Try.ntmps17
  go_wp2
  go_ret
  exact ⟨rfl, Below.refl _ _⟩
set_option maxHeartbeats 4000000 in
theorem same_eq (A0 : Option Addr) (c0 : Nat) (l0 : List (S38)) (A1 : Option Addr) (c1 : Nat) (l1 : List (S38)) (r : Bool) (w : World) (hr0 : Kd.C k38 w A0 l0.length l0) (hc0 : l0.length ≤ c0) (hr1 : Kd.C k38 w A1 l1.length l1) (hc1 : l1.length ≤ c1) (h : l1.length = l0.length) (hr : sameFrom l0 l1 0 = r) :
    Calls Try.prog 17 #[.slice A0 l0.length c0, .slice A1 l1.length c1] w fun e w' => e = .returned (.bool r) ∧ Below w.heap.size w w' := by
  have hm : l0.length ≤ 9223372036854775807 := hr0.2.1
  have HR0 := Aside0.mk hr0
  have HR1 := Aside0.mk hr1
  have HE := Aside0.mk h
  have HS := Aside0.mk hr
  rw [h]
  clear hr0 hr1 h hr
  go_enter Try.func17, Try.ntmps17
  go_wp2
  go_loopg [5] l0.length (fun gg s5 wr => ∃ kk : Nat, kk + gg = l0.length ∧ s5 = .int .i64 kk ∧ Aside0 (Below w.heap.size w wr) ∧ Aside0 (sameFrom l0 l1 kk = r))
  case atStart => exact ⟨0, by omega, rfl, ⟨Below.refl _ w⟩, HS⟩
  case round =>
    obtain ⟨kk, hk, rfl, BW, SF⟩ := hrel
    by_cases hlt : kk < l0.length
    · have hltz : (kk : Int) < (l0.length : Int) := by omega
      obtain ⟨ad, A5, c5, e0, hx0, hx1, hx2, hx3, hx4, hx5, hl5, hC5⟩ := at_T38 HR0.out (kk : Int) (by omega) hltz
      obtain ⟨ad', A5', c5', e0', hy0, hy1, hy2, hy3, hy4, hy5, hl5', hC5'⟩ := at_T38 HR1.out (kk : Int) (by omega) (by have := HE.out; omega)
      cases e0
      cases e0'
      simp only [Int.toNat_natCast] at hx0 hx1 hx2 hx3 hx4 hx5 hy0 hy1 hy2 hy3 hy4 hy5
      replace hx0 := (BW.out.cell (World.block_lt_of_cell? w _ hx0)).trans hx0
      replace hx1 := (BW.out.cell (World.block_lt_of_cell? w _ hx1)).trans hx1
      replace hx2 := (BW.out.cell (World.block_lt_of_cell? w _ hx2)).trans hx2
      replace hx3 := (BW.out.cell (World.block_lt_of_cell? w _ hx3)).trans hx3
      replace hx4 := (BW.out.cell (World.block_lt_of_cell? w _ hx4)).trans hx4
      replace hx5 := (BW.out.cell (World.block_lt_of_cell? w _ hx5)).trans hx5
      replace hy0 := (BW.out.cell (World.block_lt_of_cell? w _ hy0)).trans hy0
      replace hy1 := (BW.out.cell (World.block_lt_of_cell? w _ hy1)).trans hy1
      replace hy2 := (BW.out.cell (World.block_lt_of_cell? w _ hy2)).trans hy2
      replace hy3 := (BW.out.cell (World.block_lt_of_cell? w _ hy3)).trans hy3
      replace hy4 := (BW.out.cell (World.block_lt_of_cell? w _ hy4)).trans hy4
      replace hy5 := (BW.out.cell (World.block_lt_of_cell? w _ hy5)).trans hy5
      have hst := SF.out
      rw [sameFrom_step _ _ _ hlt] at hst
      have HST := Aside0.mk hst
      have HL5 := Aside0.mk hl5
      have HL5' := Aside0.mk hl5'
      have HC5 := Aside0.mk (Kd.C_below hC5 BW.out)
      have HC5' := Aside0.mk (Kd.C_below hC5' BW.out)
      clear hst SF hl5 hl5' hC5 hC5'
      by_cases ht : (rd_T38 l0 kk).f0 = (rd_T38 l1 kk).f0
      · have hb1 : ((rd_T38 l0 kk).f0 != (rd_T38 l1 kk).f0) = false := by simpa using ht
        have HT := Aside0.mk ht
        clear ht
        cases hs : sameF (rd_T38 l0 kk).f1 (rd_T38 l1 kk).f1 with
        | true =>
          have HQ := Aside0.mk (show phaetonref04_Same.f _ _ _ _ _ _ _ _ _ _ = some true by rw [sameF_f (rd_T38 l0 kk).f1 (rd_T38 l1 kk).f1, hs])
          have HN := Aside0.mk (show sameFrom l0 l1 (kk + 1) = r by have h_ := HST.out; rw [show sameH (rd_T38 l0 kk) (rd_T38 l1 kk) = true by unfold sameH; rw [hs, HT.out]; simp, Bool.true_and] at h_; exact h_)
          clear hs
          go_wp2
          go_still_tail 22, (by kernel_rfl)
          change wpList _ _ _ _ _ wr.drew
          go_wp2_with (go_at_call 22; refine (phaetonref04_Same.calls (rd_T38 l0 kk).f1.f0 (rd_T38 l0 kk).f1.f1 (rd_T38 l0 kk).f1.f2 (rd_T38 l0 kk).f1.f3 A5 c5 (rd_T38 l0 kk).f1.f4 (rd_T38 l1 kk).f1.f0 (rd_T38 l1 kk).f1.f1 (rd_T38 l1 kk).f1.f2 (rd_T38 l1 kk).f1.f3 A5' c5' (rd_T38 l1 kk).f1.f4 true _ (Kd.C_drew HC5.out) HL5.out (Kd.C_drew HC5'.out) HL5'.out HQ.out).mono ?_; rintro e w1 ⟨rfl, hb⟩; have HB := Aside0.mk (below_step (below_drew1 BW.out) hb); clear hb)
          go_roundg (l0.length - (kk + 1))
          case measure => omega
          case rel => exact ⟨kk + 1, by omega, by go_num, HB, HN⟩
        | false =>
          have HQ := Aside0.mk (show phaetonref04_Same.f _ _ _ _ _ _ _ _ _ _ = some false by rw [sameF_f (rd_T38 l0 kk).f1 (rd_T38 l1 kk).f1, hs])
          have HN := Aside0.mk (show r = false by have h_ := HST.out; rw [show sameH (rd_T38 l0 kk) (rd_T38 l1 kk) = false by unfold sameH; rw [hs]; simp, Bool.false_and] at h_; exact h_.symm)
          clear hs
          go_wp2
          go_still_tail 22, (by kernel_rfl)
          change wpList _ _ _ _ _ wr.drew
          go_wp2_with (go_at_call 22; refine (phaetonref04_Same.calls (rd_T38 l0 kk).f1.f0 (rd_T38 l0 kk).f1.f1 (rd_T38 l0 kk).f1.f2 (rd_T38 l0 kk).f1.f3 A5 c5 (rd_T38 l0 kk).f1.f4 (rd_T38 l1 kk).f1.f0 (rd_T38 l1 kk).f1.f1 (rd_T38 l1 kk).f1.f2 (rd_T38 l1 kk).f1.f3 A5' c5' (rd_T38 l1 kk).f1.f4 false _ (Kd.C_drew HC5.out) HL5.out (Kd.C_drew HC5'.out) HL5'.out HQ.out).mono ?_; rintro e w1 ⟨rfl, hb⟩; have HB := Aside0.mk (below_step (below_drew1 BW.out) hb); clear hb)
          go_ret
          exact ⟨by rw [HN.out]; rfl, HB.out⟩
      · have hb1 : ((rd_T38 l0 kk).f0 != (rd_T38 l1 kk).f0) = true := by simpa using ht
        have HN := Aside0.mk (show r = false by have h_ := HST.out; rw [show sameH (rd_T38 l0 kk) (rd_T38 l1 kk) = false by unfold sameH; simp [ht], Bool.false_and] at h_; exact h_.symm)
        clear ht
        go_wp2
        go_quiet (fail)
        go_wp2
        go_ret
        exact ⟨by rw [HN.out]; rfl, pw_below_drewN BW.out _⟩
    · have hz : ¬ (kk : Int) < (l0.length : Int) := by omega
      have HN := Aside0.mk (show r = true by rw [← SF.out, sameFrom_end _ _ _ (by omega)])
      go_wp2
      go_ret
      exact ⟨by rw [HN.out]; rfl, BW.out⟩
theorem phaetonref12_Same.calls (A0 : Option Addr) (c0 : Nat) (l0 : List (S38)) (A1 : Option Addr) (c1 : Nat) (l1 : List (S38)) (r : Bool) (w : World) (hr0 : Kd.C k38 w A0 l0.length l0) (hc0 : l0.length ≤ c0) (hr1 : Kd.C k38 w A1 l1.length l1) (hc1 : l1.length ≤ c1) (h : phaetonref12_Same.f l0 l1 = some r) :
    Calls Try.prog 17 #[.slice A0 l0.length c0, .slice A1 l1.length c1] w fun e w' => e = .returned (.bool r) ∧ Below w.heap.size w w' := by
  unfold phaetonref12_Same.f at h
  simp only [Option.some.injEq] at h
  by_cases c : l0.length = l1.length
  · rw [decide_eq_true c, Bool.true_and] at h
    exact same_eq A0 c0 l0 A1 c1 l1 r w hr0 hc0 hr1 hc1 c.symm h
  · rw [decide_eq_false c, Bool.false_and] at h
    subst h
    exact same_ne A0 c0 l0 A1 c1 l1 w c
end Go.Proofs.Ytpcabeefahldlaa.P
