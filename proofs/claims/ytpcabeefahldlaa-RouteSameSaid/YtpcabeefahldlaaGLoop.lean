/-
  route.Loopless by hand: can no frame come back? Conditions: the routes read.
-/
import Derived.Test.YtpcabeefahldlaaPx3
import Derived.ChangeKeysEq
import Derived.Deep.LoopGhost
import Derived.StillTailTactics
import Derived.Deep.CutBlock
import Derived.Shelf.Abstract
namespace Go.Proofs.Ytpcabeefahldlaa.P
open Go.Shelf Go.RowKit Go.Proofs.YtpcabeefahldlaaW.PrintWords Go.Proofs.YtpcabeefahldlaaW.PrintLast Go.Proofs.YtpcabeefahldlaaW.PrintMore
attribute [local go_sem] max2_int min2_int max_two min_two
set_option linter.unusedVariables false
set_option linter.unusedSimpArgs false

theorem eqA54 (d : Nat) (w : World) (x0 y0 x1 y1 x2 y2 x3 y3 : Int) :
    (Op.equalIn (d + 2) 54 (.agg #[.int .i64 x0, .int .i64 x1, .int .i64 x2, .int .i64 x3]) (.agg #[.int .i64 y0, .int .i64 y1, .int .i64 y2, .int .i64 y3])).run Try.prog w = .ok (x0 == y0 && (x1 == y1 && (x2 == y2 && (x3 == y3)))) w := by
  obtain ⟨i, hi⟩ : ∃ i, Try.prog.info? 3 = some i := ⟨_, by rfl⟩
  rw [run_equalIn_array w (d + 1) _ _ Try.underlying54 hi]
  have hc : Try.prog.cellsOf 3 = 1 := by kernel_rfl
  rw [hc]
  have hl : List.range 4 = [0, 1, 2, 3] := rfl
  rw [hl]
  have P1 : ∀ (a b c e : Int) (j : Nat) (v : Value), #[Value.int .i64 a, .int .i64 b, .int .i64 c, .int .i64 e][j]? = some v → (part 3 #[.int .i64 a, .int .i64 b, .int .i64 c, .int .i64 e] j).run Try.prog w = .ok v w := by
    intro a b c e j v hv
    unfold part
    go_simp
  have E1 : ∀ x y : Int, (Op.equalIn (d + 1) 3 (.int .i64 x) (.int .i64 y)).run Try.prog w = .ok (x == y) w := by intro x y; go_simp
  have m0 : ∀ a b c e : Int, (part 3 #[.int .i64 a, .int .i64 b, .int .i64 c, .int .i64 e] 0).run Try.prog w = .ok (.int .i64 a) w := fun a b c e => P1 a b c e 0 _ rfl
  have m1 : ∀ a b c e : Int, (part 3 #[.int .i64 a, .int .i64 b, .int .i64 c, .int .i64 e] 1).run Try.prog w = .ok (.int .i64 b) w := fun a b c e => P1 a b c e 1 _ rfl
  have m2 : ∀ a b c e : Int, (part 3 #[.int .i64 a, .int .i64 b, .int .i64 c, .int .i64 e] 2).run Try.prog w = .ok (.int .i64 c) w := fun a b c e => P1 a b c e 2 _ rfl
  have m3 : ∀ a b c e : Int, (part 3 #[.int .i64 a, .int .i64 b, .int .i64 c, .int .i64 e] 3).run Try.prog w = .ok (.int .i64 e) w := fun a b c e => P1 a b c e 3 _ rfl
  have S : ∀ (j : Nat) (js : List Nat) (a b c e a' b' c' e' x y : Int), (part 3 #[.int .i64 a, .int .i64 b, .int .i64 c, .int .i64 e] j).run Try.prog w = .ok (.int .i64 x) w → (part 3 #[.int .i64 a', .int .i64 b', .int .i64 c', .int .i64 e'] j).run Try.prog w = .ok (.int .i64 y) w → ∀ r : Bool, (Op.eqItems (d + 1) 3 1 #[.int .i64 a, .int .i64 b, .int .i64 c, .int .i64 e] #[.int .i64 a', .int .i64 b', .int .i64 c', .int .i64 e'] js).run Try.prog w = .ok r w → (Op.eqItems (d + 1) 3 1 #[.int .i64 a, .int .i64 b, .int .i64 c, .int .i64 e] #[.int .i64 a', .int .i64 b', .int .i64 c', .int .i64 e'] (j :: js)).run Try.prog w = .ok (x == y && r) w := by
    intro j js a b c e a' b' c' e' x y h1 h2 r h3
    simp only [Op.eqItems, Sem.run_bind, Nat.mul_one, h1, h2, Result.andThen_ok, E1]
    cases x == y
    · simp
    · simpa using h3
  have Z : (Op.eqItems (d + 1) 3 1 #[.int .i64 x0, .int .i64 x1, .int .i64 x2, .int .i64 x3] #[.int .i64 y0, .int .i64 y1, .int .i64 y2, .int .i64 y3] []).run Try.prog w = .ok true w := by simp [Op.eqItems]
  have r3 := S 3 [] _ _ _ _ _ _ _ _ _ _ (m3 x0 x1 x2 x3) (m3 y0 y1 y2 y3) _ Z
  have r2 := S 2 [3] _ _ _ _ _ _ _ _ _ _ (m2 x0 x1 x2 x3) (m2 y0 y1 y2 y3) _ r3
  have r1 := S 1 [2, 3] _ _ _ _ _ _ _ _ _ _ (m1 x0 x1 x2 x3) (m1 y0 y1 y2 y3) _ r2
  have r0 := S 0 [1, 2, 3] _ _ _ _ _ _ _ _ _ _ (m0 x0 x1 x2 x3) (m0 y0 y1 y2 y3) _ r1
  rw [Bool.and_true] at r0
  exact r0

attribute [local go_sem high] eqA54
/-- The heights of the buses, as four cells. -/
def hv (h : Nat → Int) : Array Value := #[.int .i64 (h 0), .int .i64 (h 1), .int .i64 (h 2), .int .i64 (h 3)]
def relax (h : Nat → Int) (r : S45) : Nat → Int := fun j => if j = r.f1.toNat then mx (h r.f1.toNat) (wrap64 (h r.f0.toNat + 1)) else h j
def sweep (h : Nat → Int) (l : List S45) : Nat → Int := l.foldl relax h
def same4 (g h : Nat → Int) : Bool := g 0 == h 0 && (g 1 == h 1 && (g 2 == h 2 && (g 3 == h 3)))
def sweeps : Nat → (Nat → Int) → List S45 → (Nat → Int)
  | 0, h, _ => h
  | n + 1, h, l => if same4 h (sweep h l) = true then sweep h l else sweeps n (sweep h l) l
theorem sweeps_succ (n : Nat) (h : Nat → Int) (l : List S45) : sweeps (n + 1) h l = if same4 h (sweep h l) = true then sweep h l else sweeps n (sweep h l) l := rfl
def loopB (l : List S45) (n : Int) : Bool := same4 (sweeps n.toNat (fun _ => 0) l) (sweep (sweeps n.toNat (fun _ => 0) l) l)

def route_Loopless.f (k : Nat) (l0 : List (S45)) (a1 : Int) : Option (Bool) := (route_Right.f k l0 a1).bind fun t => some (t && loopB l0 a1)
theorem route_Loopless.mono : ∀ a0 a1 k, LeO (route_Loopless.f k a0 a1) (route_Loopless.f (k + 1) a0 a1) := by
  intro a0 a1 k r h
  unfold route_Loopless.f at h ⊢
  obtain ⟨t, h1, h2⟩ := Option.bind_eq_some_iff.mp h
  exact Option.bind_eq_some_iff.mpr ⟨t, route_Right.mono _ _ _ _ h1, h2⟩

/-- What right routes are, for the walk: both ends lie among four buses. -/
def ends4 (l : List S45) : Prop := ∀ r ∈ l, 0 ≤ r.f0 ∧ r.f0 < 4 ∧ 0 ≤ r.f1 ∧ r.f1 < 4

theorem right_l0 (l : List S45) (a1 : Int) (hl : l.length ≤ 9223372036854775807) : ∀ (k i : Nat), route_Right.l0 k a1 l (l.length : Int) (i : Int) = some true → ∀ j, i ≤ j → (hj : j < l.length) → 0 ≤ l[j].f0 ∧ l[j].f0 < a1 ∧ 0 ≤ l[j].f1 ∧ l[j].f1 < a1
  | 0, _, h => by simp [route_Right.l0] at h
  | k + 1, i, h => by
    intro j hij hj
    have hi : i < l.length := by omega
    have hrd : rd_T45 l (i : Int) = l[i] := by simp [rd_T45, List.getD_eq_getElem?_getD, List.getElem?_eq_getElem hi]
    have hw : wrap64 ((i : Int) + 1) = ((i + 1 : Nat) : Int) := by unfold wrap64; omega
    unfold route_Right.l0 at h
    rw [if_pos (by omega), if_pos (by omega), if_pos (by omega), hrd, hw] at h
    split at h
    · simp at h
    split at h
    · simp at h
    split at h
    · simp at h
    split at h
    · simp at h
    split at h
    · simp at h
    obtain ⟨t1, -, h⟩ := Option.bind_eq_some_iff.mp h
    split at h
    · obtain ⟨t2, -, h⟩ := Option.bind_eq_some_iff.mp h
      split at h
      · rcases Nat.lt_or_ge i j with hlt | hge
        · exact right_l0 l a1 hl k (i + 1) h j hlt hj
        · have : i = j := by omega
          subst this
          omega
      · simp at h
    · simp at h
theorem right_ends (k : Nat) (l : List S45) (a1 : Int) (hl : l.length ≤ 9223372036854775807) (h : route_Right.f k l a1 = some true) : ends4 l ∧ 0 ≤ a1 ∧ a1 ≤ 4 := by
  have J : ∀ b, route_Right.j0 k l a1 b = some true → ∀ j, (hj : j < l.length) → 0 ≤ l[j].f0 ∧ l[j].f0 < a1 ∧ 0 ≤ l[j].f1 ∧ l[j].f1 < a1 := by
    intro b hb j hj
    cases k with
    | zero => simp [route_Right.j0] at hb
    | succ k =>
      unfold route_Right.j0 at hb
      cases b
      · simp only [Bool.false_eq_true, if_false] at hb
        exact right_l0 l a1 hl k 0 hb j (Nat.zero_le _) hj
      · simp at hb
  have N : route_Right.j0 k l a1 true = some true → False := by
    intro hb
    cases k with
    | zero => simp [route_Right.j0] at hb
    | succ k => simp [route_Right.j0] at hb
  unfold route_Right.f at h
  split at h
  · exact absurd h (fun h => N h)
  split at h
  · exact absurd h (fun h => N h)
  refine ⟨fun r hr => ?_, by omega, by omega⟩
  obtain ⟨j, hj, rfl⟩ := List.getElem_of_mem hr
  have := J _ h j hj
  omega

set_option maxHeartbeats 8000000 in
theorem route_Loopless.calls (k : Nat) (A0 : Option Addr) (c0 : Nat) (l0 : List (S45)) (a1 : Int) (r : Bool) (w : World) (hr0 : Kd.C k45 w A0 l0.length l0) (hc0 : l0.length ≤ c0) (h : route_Loopless.f k l0 a1 = some r) :
    Calls Try.prog 14 #[.slice A0 l0.length c0, .int .i64 a1] w fun e w' => e = .returned (.bool r) ∧ Below w.heap.size w w' := by
  have HR0 := Aside0.mk hr0
  have HC0 := Aside0.mk hc0
  clear hr0 hc0
  obtain ⟨t, h1, h2⟩ := Option.bind_eq_some_iff.mp h
  clear h
  have hr : (t && loopB l0 a1) = r := by simpa using h2
  clear h2
  have HF := Aside0.mk h1
  clear h1
  cases t with
  | false =>
    have : r = false := by simpa using hr.symm
    subst this
    clear hr
    go_enter Try.func14, Try.ntmps14
    go_wp2
    go_step3
    go_wp2_with (go_at_call 12; refine (route_Right.calls k A0 c0 l0 a1 false _ HR0.out HC0.out HF.out).mono ?_; rintro e w1 ⟨rfl, hb⟩; have HB := Aside0.mk hb; clear hb)
    rw [Exit.noGoto_ret]
    go_ret
    exact ⟨rfl, HB.out⟩
  | true =>
    have hr' : loopB l0 a1 = r := by simpa using hr
    clear hr
    have HL := Aside0.mk hr'
    clear hr'
    have E4 : Aside0 (ends4 l0 ∧ 0 ≤ a1 ∧ a1 ≤ 4) := ⟨right_ends k l0 a1 HR0.out.2.1 HF.out⟩
    go_enter Try.func14, Try.ntmps14
    go_wp2
    go_step3
    go_wp2_with (go_at_call 12; refine (route_Right.calls k A0 c0 l0 a1 true _ HR0.out HC0.out HF.out).mono ?_; rintro e w1 ⟨rfl, hb⟩; have HB := Aside0.mk hb; clear hb)
    go_step3
    go_upto_block 0 with (fail)
    obtain ⟨g, hg⟩ : ∃ g, g = w1.heap.size := ⟨_, rfl⟩
    have HG := Aside0.mk hg
    have HN := Aside0.mk (show (w1.alloc (.cells #[.int .i64 0, .int .i64 0, .int .i64 0, .int .i64 0] 54)).heap[g]? = some (.cells (hv fun _ => 0) 54 (0, 0)) by rw [hg]; exact blk_new _ _)
    have HB1 := Aside0.mk (below_alloc (Below.refl w1.heap.size w1) (.cells #[.int .i64 0, .int .i64 0, .int .i64 0, .int .i64 0] 54))
    rw [← hg]
    clear hg
    go_cut [17] (fun s17 wr => Aside0 (Below w1.heap.size w1 wr) ∧ ∃ h : Nat → Int, Aside0 (wr.heap[g]? = some (.cells (hv h) 54 (0, 0))) ∧ Aside0 (h = sweeps a1.toNat (fun _ => 0) l0))
    case first =>
      go_wp2_with (fail)
      go_loopg [17] a1.toNat (fun gg s17 wr => ∃ kk : Nat, (kk : Int) + gg = a1 ∧ s17 = .int .i64 kk ∧ Aside0 (Below w1.heap.size w1 wr) ∧ ∃ h : Nat → Int, Aside0 (wr.heap[g]? = some (.cells (hv h) 54 (0, 0))) ∧ Aside0 (sweeps gg h l0 = sweeps a1.toNat (fun _ => 0) l0))
      case atStart => exact ⟨0, by have := E4.out; omega, rfl, HB1, fun _ => 0, HN, ⟨rfl⟩⟩
      case round =>
        obtain ⟨kk, hk, rfl, BW, h, HC, HS⟩ := hrel
        by_cases hlt : (kk : Int) < a1
        · have q0 : wr.cell? ⟨g, 0, none⟩ = some (.int .i64 (h 0)) := (blk_cell HC.out 0).trans rfl
          have q1 : wr.cell? ⟨g, 1, none⟩ = some (.int .i64 (h 1)) := (blk_cell HC.out 1).trans rfl
          have q2 : wr.cell? ⟨g, 2, none⟩ = some (.int .i64 (h 2)) := (blk_cell HC.out 2).trans rfl
          have q3 : wr.cell? ⟨g, 3, none⟩ = some (.int .i64 (h 3)) := (blk_cell HC.out 3).trans rfl
          obtain ⟨gm, rfl⟩ : ∃ gm, gk = gm + 1 := ⟨gk - 1, by omega⟩
          go_wp2
          obtain ⟨gw, hgw⟩ : ∃ gw, gw = wr.heap.size := ⟨_, rfl⟩
          have HGL : Aside0 (g < wr.heap.size) := ⟨blk_lt HC.out⟩
          have HW0 := Aside0.mk (show (wr.alloc (.cells #[.int .i64 (h 0), .int .i64 (h 1), .int .i64 (h 2), .int .i64 (h 3)] 54)).heap[gw]? = some (.cells (hv h) 54 (0, 0)) by rw [hgw]; exact blk_new _ _)
          have HC0 := Aside0.mk (blk_alloc HC.out (.cells #[.int .i64 (h 0), .int .i64 (h 1), .int .i64 (h 2), .int .i64 (h 3)] 54))
          have HB0 := Aside0.mk (below_alloc BW.out (.cells #[.int .i64 (h 0), .int .i64 (h 1), .int .i64 (h 2), .int .i64 (h 3)] 54))
          have GN : Aside0 (gw ≠ g) := ⟨by rw [hgw]; exact Nat.ne_of_gt HGL.out⟩
          rw [← hgw]
          clear hgw q0 q1 q2 q3
          go_loopg [22] l0.length (fun gi s22 ws => ∃ ii : Nat, ii + gi = l0.length ∧ s22 = .int .i64 ii ∧ Aside0 (Below w1.heap.size w1 ws) ∧ Aside0 (ws.heap[gw]? = some (.cells (hv h) 54 (0, 0))) ∧ ∃ h' : Nat → Int, Aside0 (ws.heap[g]? = some (.cells (hv h') 54 (0, 0))) ∧ Aside0 (sweep h' (l0.drop ii) = sweep h l0))
          case atStart => exact ⟨0, by omega, rfl, HB0, HW0, h, HC0, ⟨rfl⟩⟩
          case round =>
            obtain ⟨ii, hi, rfl, BS, HWS, h', HC', HS'⟩ := hrel
            by_cases hil : ii < l0.length
            · have hltz : (ii : Int) < (l0.length : Int) := by omega
              have hm9 : l0.length ≤ 9223372036854775807 := HR0.out.2.1
              obtain ⟨ad, e0, hx0, hx1, hx2, hx3, hx4, hx5⟩ := at_T45 HR0.out (ii : Int) (by omega) hltz
              cases e0
              simp only [Int.toNat_natCast] at hx0 hx1 hx2 hx3 hx4 hx5
              have hbw := HB.out.trans (BS.out.mono HB.out.size)
              replace hx0 := (hbw.cell (World.block_lt_of_cell? w _ hx0)).trans hx0
              replace hx1 := (hbw.cell (World.block_lt_of_cell? w _ hx1)).trans hx1
              replace hx2 := (hbw.cell (World.block_lt_of_cell? w _ hx2)).trans hx2
              replace hx3 := (hbw.cell (World.block_lt_of_cell? w _ hx3)).trans hx3
              replace hx4 := (hbw.cell (World.block_lt_of_cell? w _ hx4)).trans hx4
              replace hx5 := (hbw.cell (World.block_lt_of_cell? w _ hx5)).trans hx5
              clear hbw
              have HD := Aside0.mk (show l0.drop ii = rd_T45 l0 ii :: l0.drop (ii + 1) by rw [List.drop_eq_getElem_cons hil]; simp [rd_T45, List.getD_eq_getElem?_getD, List.getElem?_eq_getElem hil])
              have hm := E4.out.1 (rd_T45 l0 ii) (by simp [rd_T45, List.getD_eq_getElem?_getD, List.getElem?_eq_getElem hil])
              generalize hX : rd_T45 l0 ii = X at *
              obtain ⟨F, T, ⟨X1, X2, X3⟩, X4⟩ := X
              dsimp only at *
              obtain ⟨F0, F4, T0, T4⟩ := hm
              go_wp2
              obtain ⟨gx, hgx⟩ : ∃ gx, gx = wr.heap.size := ⟨_, rfl⟩
              have NX := Aside0.mk (show (wr.alloc (.cells #[.int .i64 F, .int .i64 T, .bool X1, .int .i64 X2, .int .i64 X3, .int .i64 X4] 45)).heap[gx]? = some (.cells #[.int .i64 F, .int .i64 T, .bool X1, .int .i64 X2, .int .i64 X3, .int .i64 X4] 45 (0, 0)) by rw [hgx]; exact blk_new _ _)
              have NC := Aside0.mk (blk_alloc HC'.out (.cells #[.int .i64 F, .int .i64 T, .bool X1, .int .i64 X2, .int .i64 X3, .int .i64 X4] 45))
              have NW := Aside0.mk (blk_alloc HWS.out (.cells #[.int .i64 F, .int .i64 T, .bool X1, .int .i64 X2, .int .i64 X3, .int .i64 X4] 45))
              have NB := Aside0.mk (below_alloc BS.out (.cells #[.int .i64 F, .int .i64 T, .bool X1, .int .i64 X2, .int .i64 X3, .int .i64 X4] 45))
              rw [← hgx]
              clear hgx hx0 hx1 hx2 hx3 hx4 hx5 BS HWS HC'
              generalize wr.alloc (.cells #[.int .i64 F, .int .i64 T, .bool X1, .int .i64 X2, .int .i64 X3, .int .i64 X4] 45) = w5 at NX NC NW NB ⊢
              have f0 : w5.cell? ⟨gx, 0, none⟩ = some (.int .i64 F) := (blk_cell NX.out 0).trans rfl
              have f1 : w5.cell? ⟨gx, 1, none⟩ = some (.int .i64 T) := (blk_cell NX.out 1).trans rfl
              have q0 : w5.cell? ⟨g, 0, none⟩ = some (.int .i64 (h' 0)) := (blk_cell NC.out 0).trans rfl
              have q1 : w5.cell? ⟨g, 1, none⟩ = some (.int .i64 (h' 1)) := (blk_cell NC.out 1).trans rfl
              have q2 : w5.cell? ⟨g, 2, none⟩ = some (.int .i64 (h' 2)) := (blk_cell NC.out 2).trans rfl
              have q3 : w5.cell? ⟨g, 3, none⟩ = some (.int .i64 (h' 3)) := (blk_cell NC.out 3).trans rfl
              obtain ⟨j, hj⟩ : ∃ j, mx (h' T.toNat) (wrap64 (h' F.toNat + 1)) = j := ⟨_, rfl⟩
              have HJ := Aside0.mk hj
              have hj_ : (if h' T.toNat < IntKind.i64.wrap (h' F.toNat + 1) then IntKind.i64.wrap (h' F.toNat + 1) else h' T.toNat) = j := by rw [i64_w]; exact hj
              clear hj
              rcases (show F = 0 ∨ F = 1 ∨ F = 2 ∨ F = 3 by omega) with rfl | rfl | rfl | rfl <;> rcases (show T = 0 ∨ T = 1 ∨ T = 2 ∨ T = 3 by omega) with rfl | rfl | rfl | rfl <;> (
                simp only [Int.toNat_zero, show (1 : Int).toNat = 1 from rfl, show (2 : Int).toNat = 2 from rfl, show (3 : Int).toNat = 3 from rfl] at hj_
                go_still_tail 13, (by kernel_rfl)
                change wpList _ _ _ _ _ w5.drew
                have MC := Aside0.mk (blk_drew NC.out)
                have MW := Aside0.mk (blk_drew NW.out)
                have MB := Aside0.mk (below_drew1 NB.out)
                clear f0 f1 q0 q1 q2 q3 NX NC NW NB
                generalize w5.drew = w6 at MC MW MB ⊢
                have z0 := blk_frozen MC.out 0
                have z1 := blk_frozen MC.out 1
                have z2 := blk_frozen MC.out 2
                have z3 := blk_frozen MC.out 3
                have q0 : w6.cell? ⟨g, 0, none⟩ = some (.int .i64 (h' 0)) := (blk_cell MC.out 0).trans rfl
                have q1 : w6.cell? ⟨g, 1, none⟩ = some (.int .i64 (h' 1)) := (blk_cell MC.out 1).trans rfl
                have q2 : w6.cell? ⟨g, 2, none⟩ = some (.int .i64 (h' 2)) := (blk_cell MC.out 2).trans rfl
                have q3 : w6.cell? ⟨g, 3, none⟩ = some (.int .i64 (h' 3)) := (blk_cell MC.out 3).trans rfl
                try rw [hj_]
                go_wp2
                go_roundg (l0.length - (ii + 1))
                case measure => omega
                case rel =>
                  refine ⟨ii + 1, by omega, by go_num, ⟨below_set MB.out (Nat.le_of_eq HG.out.symm)⟩, ⟨blk_far MW.out GN.out _⟩, relax h' _, ⟨?_⟩, ⟨by rw [← HS'.out, HD.out]; rfl⟩⟩
                  first | exact blk_put (cs := hv h') MC.out 0 (.int .i64 j) (by rw [← HJ.out]; rfl) | exact blk_put (cs := hv h') MC.out 1 (.int .i64 j) (by rw [← HJ.out]; rfl) | exact blk_put (cs := hv h') MC.out 2 (.int .i64 j) (by rw [← HJ.out]; rfl) | exact blk_put (cs := hv h') MC.out 3 (.int .i64 j) (by rw [← HJ.out]; rfl))
            · have he : ii = l0.length := by omega
              subst he
              have hh : h' = sweep h l0 := by have := HS'.out; rw [List.drop_length] at this; exact this
              have q0 : wr.cell? ⟨g, 0, none⟩ = some (.int .i64 (h' 0)) := (blk_cell HC'.out 0).trans rfl
              have q1 : wr.cell? ⟨g, 1, none⟩ = some (.int .i64 (h' 1)) := (blk_cell HC'.out 1).trans rfl
              have q2 : wr.cell? ⟨g, 2, none⟩ = some (.int .i64 (h' 2)) := (blk_cell HC'.out 2).trans rfl
              have q3 : wr.cell? ⟨g, 3, none⟩ = some (.int .i64 (h' 3)) := (blk_cell HC'.out 3).trans rfl
              have p0 : wr.cell? ⟨gw, 0, none⟩ = some (.int .i64 (h 0)) := (blk_cell HWS.out 0).trans rfl
              have p1 : wr.cell? ⟨gw, 1, none⟩ = some (.int .i64 (h 1)) := (blk_cell HWS.out 1).trans rfl
              have p2 : wr.cell? ⟨gw, 2, none⟩ = some (.int .i64 (h 2)) := (blk_cell HWS.out 2).trans rfl
              have p3 : wr.cell? ⟨gw, 3, none⟩ = some (.int .i64 (h 3)) := (blk_cell HWS.out 3).trans rfl
              have hz : ¬ (l0.length : Int) < (l0.length : Int) := by omega
              cases hs : same4 h h' with
              | true =>
                have hsu : (h 0 == h' 0 && (h 1 == h' 1 && (h 2 == h' 2 && (h 3 == h' 3)))) = true := hs
                have HQ := Aside0.mk hs
                have HH := Aside0.mk hh
                clear hs hh
                go_wp2
                go_meet
                case rel => exact ⟨BS, h', HC', ⟨by have h1_ := HS.out; rw [sweeps_succ] at h1_; rw [← HH.out, if_pos HQ.out] at h1_; exact h1_⟩⟩
              | false =>
                have hsu : (h 0 == h' 0 && (h 1 == h' 1 && (h 2 == h' 2 && (h 3 == h' 3)))) = false := hs
                have HQ := Aside0.mk hs
                have HH := Aside0.mk hh
                clear hs hh
                have ha4 : a1 ≤ 4 := E4.out.2.2
                go_wp2
                go_roundg gm
                case measure => omega
                case rel => exact ⟨kk + 1, by omega, by go_num, BS, h', HC', ⟨by have h1_ := HS.out; rw [sweeps_succ] at h1_; rw [← HH.out, if_neg (by rw [HQ.out]; decide)] at h1_; exact h1_⟩⟩
        · have hz : ¬ (kk : Int) < a1 := hlt
          go_wp2
          go_meet
          case rel => exact ⟨BW, h, HC, ⟨by have h0_ : gk = 0 := by omega
                                            have h1_ := HS.out; rw [h0_] at h1_; exact h1_⟩⟩
    case rest =>
      obtain ⟨BW, h, HC, HS⟩ := hcut
      have q0 : wc.cell? ⟨g, 0, none⟩ = some (.int .i64 (h 0)) := (blk_cell HC.out 0).trans rfl
      have q1 : wc.cell? ⟨g, 1, none⟩ = some (.int .i64 (h 1)) := (blk_cell HC.out 1).trans rfl
      have q2 : wc.cell? ⟨g, 2, none⟩ = some (.int .i64 (h 2)) := (blk_cell HC.out 2).trans rfl
      have q3 : wc.cell? ⟨g, 3, none⟩ = some (.int .i64 (h 3)) := (blk_cell HC.out 3).trans rfl
      go_wp2
      obtain ⟨gw, hgw⟩ : ∃ gw, gw = wc.heap.size := ⟨_, rfl⟩
      have HGL : Aside0 (g < wc.heap.size) := ⟨blk_lt HC.out⟩
      have HW0 := Aside0.mk (show (wc.alloc (.cells #[.int .i64 (h 0), .int .i64 (h 1), .int .i64 (h 2), .int .i64 (h 3)] 54)).heap[gw]? = some (.cells (hv h) 54 (0, 0)) by rw [hgw]; exact blk_new _ _)
      have HC0 := Aside0.mk (blk_alloc HC.out (.cells #[.int .i64 (h 0), .int .i64 (h 1), .int .i64 (h 2), .int .i64 (h 3)] 54))
      have HB0 := Aside0.mk (below_alloc BW.out (.cells #[.int .i64 (h 0), .int .i64 (h 1), .int .i64 (h 2), .int .i64 (h 3)] 54))
      have GN : Aside0 (gw ≠ g) := ⟨by rw [hgw]; exact Nat.ne_of_gt HGL.out⟩
      rw [← hgw]
      clear hgw q0 q1 q2 q3
      go_loopg [47] l0.length (fun gi s22 ws => ∃ ii : Nat, ii + gi = l0.length ∧ s22 = .int .i64 ii ∧ Aside0 (Below w1.heap.size w1 ws) ∧ Aside0 (ws.heap[gw]? = some (.cells (hv h) 54 (0, 0))) ∧ ∃ h' : Nat → Int, Aside0 (ws.heap[g]? = some (.cells (hv h') 54 (0, 0))) ∧ Aside0 (sweep h' (l0.drop ii) = sweep h l0))
      case atStart => exact ⟨0, by omega, rfl, HB0, HW0, h, HC0, ⟨rfl⟩⟩
      case round =>
        obtain ⟨ii, hi, rfl, BS, HWS, h', HC', HS'⟩ := hrel
        by_cases hil : ii < l0.length
        · have hltz : (ii : Int) < (l0.length : Int) := by omega
          have hm9 : l0.length ≤ 9223372036854775807 := HR0.out.2.1
          obtain ⟨ad, e0, hx0, hx1, hx2, hx3, hx4, hx5⟩ := at_T45 HR0.out (ii : Int) (by omega) hltz
          cases e0
          simp only [Int.toNat_natCast] at hx0 hx1 hx2 hx3 hx4 hx5
          have hbw := HB.out.trans (BS.out.mono HB.out.size)
          replace hx0 := (hbw.cell (World.block_lt_of_cell? w _ hx0)).trans hx0
          replace hx1 := (hbw.cell (World.block_lt_of_cell? w _ hx1)).trans hx1
          replace hx2 := (hbw.cell (World.block_lt_of_cell? w _ hx2)).trans hx2
          replace hx3 := (hbw.cell (World.block_lt_of_cell? w _ hx3)).trans hx3
          replace hx4 := (hbw.cell (World.block_lt_of_cell? w _ hx4)).trans hx4
          replace hx5 := (hbw.cell (World.block_lt_of_cell? w _ hx5)).trans hx5
          clear hbw
          have HD := Aside0.mk (show l0.drop ii = rd_T45 l0 ii :: l0.drop (ii + 1) by rw [List.drop_eq_getElem_cons hil]; simp [rd_T45, List.getD_eq_getElem?_getD, List.getElem?_eq_getElem hil])
          have hm := E4.out.1 (rd_T45 l0 ii) (by simp [rd_T45, List.getD_eq_getElem?_getD, List.getElem?_eq_getElem hil])
          generalize hX : rd_T45 l0 ii = X at *
          obtain ⟨F, T, ⟨X1, X2, X3⟩, X4⟩ := X
          dsimp only at *
          obtain ⟨F0, F4, T0, T4⟩ := hm
          go_wp2
          obtain ⟨gx, hgx⟩ : ∃ gx, gx = wr.heap.size := ⟨_, rfl⟩
          have NX := Aside0.mk (show (wr.alloc (.cells #[.int .i64 F, .int .i64 T, .bool X1, .int .i64 X2, .int .i64 X3, .int .i64 X4] 45)).heap[gx]? = some (.cells #[.int .i64 F, .int .i64 T, .bool X1, .int .i64 X2, .int .i64 X3, .int .i64 X4] 45 (0, 0)) by rw [hgx]; exact blk_new _ _)
          have NC := Aside0.mk (blk_alloc HC'.out (.cells #[.int .i64 F, .int .i64 T, .bool X1, .int .i64 X2, .int .i64 X3, .int .i64 X4] 45))
          have NW := Aside0.mk (blk_alloc HWS.out (.cells #[.int .i64 F, .int .i64 T, .bool X1, .int .i64 X2, .int .i64 X3, .int .i64 X4] 45))
          have NB := Aside0.mk (below_alloc BS.out (.cells #[.int .i64 F, .int .i64 T, .bool X1, .int .i64 X2, .int .i64 X3, .int .i64 X4] 45))
          rw [← hgx]
          clear hgx hx0 hx1 hx2 hx3 hx4 hx5 BS HWS HC'
          generalize wr.alloc (.cells #[.int .i64 F, .int .i64 T, .bool X1, .int .i64 X2, .int .i64 X3, .int .i64 X4] 45) = w5 at NX NC NW NB ⊢
          have f0 : w5.cell? ⟨gx, 0, none⟩ = some (.int .i64 F) := (blk_cell NX.out 0).trans rfl
          have f1 : w5.cell? ⟨gx, 1, none⟩ = some (.int .i64 T) := (blk_cell NX.out 1).trans rfl
          have q0 : w5.cell? ⟨g, 0, none⟩ = some (.int .i64 (h' 0)) := (blk_cell NC.out 0).trans rfl
          have q1 : w5.cell? ⟨g, 1, none⟩ = some (.int .i64 (h' 1)) := (blk_cell NC.out 1).trans rfl
          have q2 : w5.cell? ⟨g, 2, none⟩ = some (.int .i64 (h' 2)) := (blk_cell NC.out 2).trans rfl
          have q3 : w5.cell? ⟨g, 3, none⟩ = some (.int .i64 (h' 3)) := (blk_cell NC.out 3).trans rfl
          obtain ⟨j, hj⟩ : ∃ j, mx (h' T.toNat) (wrap64 (h' F.toNat + 1)) = j := ⟨_, rfl⟩
          have HJ := Aside0.mk hj
          have hj_ : (if h' T.toNat < IntKind.i64.wrap (h' F.toNat + 1) then IntKind.i64.wrap (h' F.toNat + 1) else h' T.toNat) = j := by rw [i64_w]; exact hj
          clear hj
          rcases (show F = 0 ∨ F = 1 ∨ F = 2 ∨ F = 3 by omega) with rfl | rfl | rfl | rfl <;> rcases (show T = 0 ∨ T = 1 ∨ T = 2 ∨ T = 3 by omega) with rfl | rfl | rfl | rfl <;> (
            simp only [Int.toNat_zero, show (1 : Int).toNat = 1 from rfl, show (2 : Int).toNat = 2 from rfl, show (3 : Int).toNat = 3 from rfl] at hj_
            go_still_tail 13, (by kernel_rfl)
            change wpList _ _ _ _ _ w5.drew
            have MC := Aside0.mk (blk_drew NC.out)
            have MW := Aside0.mk (blk_drew NW.out)
            have MB := Aside0.mk (below_drew1 NB.out)
            clear f0 f1 q0 q1 q2 q3 NX NC NW NB
            generalize w5.drew = w6 at MC MW MB ⊢
            have z0 := blk_frozen MC.out 0
            have z1 := blk_frozen MC.out 1
            have z2 := blk_frozen MC.out 2
            have z3 := blk_frozen MC.out 3
            have q0 : w6.cell? ⟨g, 0, none⟩ = some (.int .i64 (h' 0)) := (blk_cell MC.out 0).trans rfl
            have q1 : w6.cell? ⟨g, 1, none⟩ = some (.int .i64 (h' 1)) := (blk_cell MC.out 1).trans rfl
            have q2 : w6.cell? ⟨g, 2, none⟩ = some (.int .i64 (h' 2)) := (blk_cell MC.out 2).trans rfl
            have q3 : w6.cell? ⟨g, 3, none⟩ = some (.int .i64 (h' 3)) := (blk_cell MC.out 3).trans rfl
            try rw [hj_]
            go_wp2
            go_roundg (l0.length - (ii + 1))
            case measure => omega
            case rel =>
              refine ⟨ii + 1, by omega, by go_num, ⟨below_set MB.out (Nat.le_of_eq HG.out.symm)⟩, ⟨blk_far MW.out GN.out _⟩, relax h' _, ⟨?_⟩, ⟨by rw [← HS'.out, HD.out]; rfl⟩⟩
              first | exact blk_put (cs := hv h') MC.out 0 (.int .i64 j) (by rw [← HJ.out]; rfl) | exact blk_put (cs := hv h') MC.out 1 (.int .i64 j) (by rw [← HJ.out]; rfl) | exact blk_put (cs := hv h') MC.out 2 (.int .i64 j) (by rw [← HJ.out]; rfl) | exact blk_put (cs := hv h') MC.out 3 (.int .i64 j) (by rw [← HJ.out]; rfl))
        · have he : ii = l0.length := by omega
          subst he
          have hh : h' = sweep h l0 := by have := HS'.out; rw [List.drop_length] at this; exact this
          have q0 : wr.cell? ⟨g, 0, none⟩ = some (.int .i64 (h' 0)) := (blk_cell HC'.out 0).trans rfl
          have q1 : wr.cell? ⟨g, 1, none⟩ = some (.int .i64 (h' 1)) := (blk_cell HC'.out 1).trans rfl
          have q2 : wr.cell? ⟨g, 2, none⟩ = some (.int .i64 (h' 2)) := (blk_cell HC'.out 2).trans rfl
          have q3 : wr.cell? ⟨g, 3, none⟩ = some (.int .i64 (h' 3)) := (blk_cell HC'.out 3).trans rfl
          have p0 : wr.cell? ⟨gw, 0, none⟩ = some (.int .i64 (h 0)) := (blk_cell HWS.out 0).trans rfl
          have p1 : wr.cell? ⟨gw, 1, none⟩ = some (.int .i64 (h 1)) := (blk_cell HWS.out 1).trans rfl
          have p2 : wr.cell? ⟨gw, 2, none⟩ = some (.int .i64 (h 2)) := (blk_cell HWS.out 2).trans rfl
          have p3 : wr.cell? ⟨gw, 3, none⟩ = some (.int .i64 (h 3)) := (blk_cell HWS.out 3).trans rfl
          have hz : ¬ (l0.length : Int) < (l0.length : Int) := by omega
          have hr_ : (h 0 == h' 0 && (h 1 == h' 1 && (h 2 == h' 2 && (h 3 == h' 3)))) = r := by rw [← HL.out, loopB, ← HS.out, ← hh]; rfl
          have HQ := Aside0.mk hr_
          clear hr_ hh
          go_wp2
          go_ret
          exact ⟨by rw [HQ.out]; rfl, HB.out.trans (BS.out.mono HB.out.size)⟩
end Go.Proofs.Ytpcabeefahldlaa.P
