/-
  The plain law of RouteOrder: routes have no loop just if there is an order of the buses in which each of them goes on.
-/
import Derived.Test.YtpcabeefahldlaaPx13
import Derived.Test.YtpcabeefahldlaaCut
namespace Go.Proofs.Ytpcabeefahldlaa.Pure
open Go.RowKit Go.Proofs.Ytpcabeefahldlaa.P Go.Proofs.YtpcabeefahldlaaOwn Go.Proofs.YtpcabeefahldlaaW.PrintWords Go.Proofs.YtpcabeefahldlaaW.PrintLast Go.Proofs.YtpcabeefahldlaaW.PrintMore
set_option linter.unusedVariables false
set_option linter.unusedSimpArgs false

/-- The n-th row of four numbers. -/
def row4 (n : Nat) : List Int := [((n % 4 : Nat) : Int), ((n / 4 % 4 : Nat) : Int), ((n / 16 % 4 : Nat) : Int), ((n / 64 : Nat) : Int)]
theorem row4_eq : ∀ n : Fin 256, [Go.bits .and .i64 ((n.val : Nat) : Int) 3, Go.bits .and .i64 (((n.val : Nat) : Int) / 4) 3, Go.bits .and .i64 (((n.val : Nat) : Int) / 16) 3, ((n.val : Nat) : Int) / 64] = row4 n.val := by decide +kernel
def unlike (p : List Int) : Bool := !(rd p 0 == rd p 1) && (!(rd p 0 == rd p 2) && (!(rd p 0 == rd p 3) && (!(rd p 1 == rd p 2) && (!(rd p 1 == rd p 3) && (!(rd p 2 == rd p 3))))))
def up (p : List Int) (r : S45) : Bool := decide (rd p r.f0 < rd p r.f1)
def good (l : List S45) (n : Nat) : Bool := unlike (row4 n) && l.all (up (row4 n))
def anyB (l : List S45) (n : Nat) : Bool := (List.range n).any (good l)
theorem anyB_succ (l : List S45) (n : Nat) : anyB l (n + 1) = (anyB l n || good l n) := by simp [anyB, List.range_succ]

theorem order_l1 (l : List S45) (hl : l.length ≤ 1000) (hr : inR l 4) (b : Bool) (n : Nat) (p : List Int) (hp : p.length = 4) (hn : n < 256) (B : Nat) : ∀ (k i : Nat) (x : Bool), i ≤ l.length → B + (l.length - i) < k → (∀ k', B ≤ k' → phaetonlaw12_RouteOrder.l0 k' l true (b || (x && (l.drop i).all (up p))) ((n : Int) + 1) = some true) → phaetonlaw12_RouteOrder.l1 k l true b (n : Int) p x (i : Int) = some true
  | 0, _, _, _, h, _ => by omega
  | k + 1, i, x, hi, h, H => by
    have hw : wrap64 ((n : Int) + 1) = (n : Int) + 1 := wr _ (by omega)
    unfold phaetonlaw12_RouteOrder.l1
    rw [hw]
    have E : x = false ∨ i = l.length → (if b = true then (phaetonlaw12_RouteOrder.l0 k l true true ((n : Int) + 1)) else (phaetonlaw12_RouteOrder.l0 k l true x ((n : Int) + 1))) = some true := by
      intro hx
      have := H k (by omega)
      cases b with
      | true => simpa using this
      | false =>
        rcases hx with rfl | rfl
        · simpa using this
        · simpa using this
    by_cases c : i < l.length
    · rw [if_pos (by omega)]
      cases x with
      | false => simp only [Bool.false_eq_true, if_false]; exact E (.inl rfl)
      | true =>
        have hm := hr _ (List.getElem_mem c)
        simp only [if_true]
        rw [rd45 l i c, if_pos (by omega), if_pos hm.1, if_pos (by rw [hp]; exact hm.2.1), if_pos hm.2.2.1, if_pos (by rw [hp]; exact hm.2.2.2), wr1 i (by omega)]
        refine order_l1 l hl hr b n p hp hn B k (i + 1) _ (by omega) (by omega) (fun k' hk' => ?_)
        have := H k' hk'
        rw [List.drop_eq_getElem_cons c, List.all_cons, Bool.true_and] at this
        exact this
    · rw [if_neg (by omega)]
      exact E (.inr (by omega))
theorem order_l0 (l : List S45) (hl : l.length ≤ 16) (hr : inR l 4) (hR : rightL l 4 = true) (hany : loopB l 4 = anyB l 256) : ∀ (d n : Nat), n + d = 256 → ∀ k, d * 30 + 30 ≤ k → phaetonlaw12_RouteOrder.l0 k l true (anyB l n) (n : Int) = some true
  | 0, n, hd, k, hk => by
    obtain ⟨k, rfl⟩ : ∃ j, k = j + 1 := ⟨k - 1, by omega⟩
    have hn : n = 256 := by omega
    subst hn
    unfold phaetonlaw12_RouteOrder.l0
    rw [if_neg (by omega), fRight _ _ _ (by omega), Option.bind_some, hR, if_pos rfl, fLoop _ _ _ (by omega), Option.bind_some, hR, Bool.true_and]
    rw [show (loopB l 4 == anyB l 256) = true by rw [hany]; simp, if_pos rfl]
  | d + 1, n, hd, k, hk => by
    obtain ⟨k, rfl⟩ : ∃ j, k = j + 1 + 1 := ⟨k - 2, by omega⟩
    unfold phaetonlaw12_RouteOrder.l0
    have e := row4_eq ⟨n, by omega⟩
    dsimp only at e
    rw [if_pos (by omega), e, Option.bind_some]
    have hp : (row4 n).length = 4 := rfl
    rw [hp]
    have G : ∀ x : Bool, x = unlike (row4 n) → phaetonlaw12_RouteOrder.j1 (k + 1) l true (anyB l n) (n : Int) (row4 n) x = some true := by
      intro x hx
      rw [phaetonlaw12_RouteOrder.j1]
      refine order_l1 l (by omega) hr (anyB l n) n (row4 n) rfl (by omega) (d * 30 + 30) k 0 x (by omega) (by omega) (fun k' hk' => ?_)
      have := order_l0 l hl hr hR hany d (n + 1) (by omega) k' hk'
      rw [anyB_succ] at this
      rw [hx]
      exact this
    simp only [if_pos (show (0 : Int) < ((4 : Nat) : Int) by decide), if_pos (show (1 : Int) < ((4 : Nat) : Int) by decide), if_pos (show (2 : Int) < ((4 : Nat) : Int) by decide), if_pos (show (3 : Int) < ((4 : Nat) : Int) by decide)]
    generalize hq : row4 n = q at *
    have U : unlike q = (!(rd q 0 == rd q 1) && (!(rd q 0 == rd q 2) && (!(rd q 0 == rd q 3) && (!(rd q 1 == rd q 2) && (!(rd q 1 == rd q 3) && (!(rd q 2 == rd q 3))))))) := rfl
    by_cases c1 : rd q 0 = rd q 1
    · rw [if_pos c1]; exact G _ (by rw [U, c1]; simp)
    rw [if_neg c1]
    by_cases c2 : rd q 0 = rd q 2
    · rw [if_pos c2]; exact G _ (by rw [U, c2]; simp)
    rw [if_neg c2]
    by_cases c3 : rd q 0 = rd q 3
    · rw [if_pos c3]; exact G _ (by rw [U, c3]; simp)
    rw [if_neg c3]
    by_cases c4 : rd q 1 = rd q 2
    · rw [if_pos c4]; exact G _ (by rw [U, c4]; simp)
    rw [if_neg c4]
    by_cases c5 : rd q 1 = rd q 3
    · rw [if_pos c5]; exact G _ (by rw [U, c5]; simp)
    rw [if_neg c5]
    exact G _ (by rw [U, beq_eq_false_iff_ne.mpr c1, beq_eq_false_iff_ne.mpr c2, beq_eq_false_iff_ne.mpr c3, beq_eq_false_iff_ne.mpr c4, beq_eq_false_iff_ne.mpr c5]; rfl)

/-- How many buses stand ahead, of two alike the lower one. -/
def ord4 (p : Nat → Int) (v : Nat) : Nat := (if p 0 < p v ∨ p 0 = p v ∧ 0 < v then 1 else 0) + (if p 1 < p v ∨ p 1 = p v ∧ 1 < v then 1 else 0) + (if p 2 < p v ∨ p 2 = p v ∧ 2 < v then 1 else 0) + (if p 3 < p v ∨ p 3 = p v ∧ 3 < v then 1 else 0)
theorem ord4_lt {p : Nat → Int} {f t : Nat} (hf : f < 4) (ht : t < 4) (h : p f < p t ∨ p f = p t ∧ f < t) : ord4 p f < ord4 p t := by
  have mono : ∀ u, (if p u < p f ∨ p u = p f ∧ u < f then 1 else 0) ≤ (if p u < p t ∨ p u = p t ∧ u < t then 1 else 0) := by
    intro u
    split
    · rw [if_pos (by omega)]; exact Nat.le_refl _
    · split <;> omega
  have s0 : (if p f < p f ∨ p f = p f ∧ f < f then 1 else 0) = 0 := by rw [if_neg (by omega)]
  have s1 : (if p f < p t ∨ p f = p t ∧ f < t then 1 else 0) = 1 := by rw [if_pos h]
  have m0 := mono 0
  have m1 := mono 1
  have m2 := mono 2
  have m3 := mono 3
  unfold ord4
  rcases (show f = 0 ∨ f = 1 ∨ f = 2 ∨ f = 3 by omega) with rfl | rfl | rfl | rfl <;> omega
theorem ord4_le (p : Nat → Int) (v : Nat) (hv : v < 4) : ord4 p v < 4 := by
  have b : ∀ u, (if p u < p v ∨ p u = p v ∧ u < v then 1 else 0) ≤ 1 := by intro u; split <;> omega
  have s0 : (if p v < p v ∨ p v = p v ∧ v < v then 1 else 0) = 0 := by rw [if_neg (by omega)]
  have m0 := b 0
  have m1 := b 1
  have m2 := b 2
  have m3 := b 3
  unfold ord4
  rcases (show v = 0 ∨ v = 1 ∨ v = 2 ∨ v = 3 by omega) with rfl | rfl | rfl | rfl <;> omega
theorem ord4_ne {p : Nat → Int} {f t : Nat} (hf : f < 4) (ht : t < 4) (h : f ≠ t) : ord4 p f ≠ ord4 p t := by
  rcases (show (p f < p t ∨ p f = p t ∧ f < t) ∨ (p t < p f ∨ p t = p f ∧ t < f) by omega) with h | h
  · have := ord4_lt hf ht h; omega
  · have := ord4_lt ht hf h; omega
theorem row4_rd (a b c d : Nat) (ha : a < 4) (hb : b < 4) (hc : c < 4) (hd : d < 4) : row4 (a + 4 * b + 16 * c + 64 * d) = [(a : Int), (b : Int), (c : Int), (d : Int)] := by
  unfold row4
  rw [show (a + 4 * b + 16 * c + 64 * d) % 4 = a by omega, show (a + 4 * b + 16 * c + 64 * d) / 4 % 4 = b by omega, show (a + 4 * b + 16 * c + 64 * d) / 16 % 4 = c by omega, show (a + 4 * b + 16 * c + 64 * d) / 64 = d by omega]
theorem any_iff (l : List S45) (hl : l.length ≤ 16) (hr : inR l 4) : loopB l 4 = anyB l 256 := by
  rw [Bool.eq_iff_iff]
  have I := loopB_iff (n := 4) hr (by omega) (by omega)
  rw [show ((4 : Nat) : Int) = 4 from rfl] at I
  rw [I]
  unfold anyB
  rw [List.any_eq_true]
  constructor
  · rintro ⟨p, hp⟩
    refine ⟨ord4 p 0 + 4 * ord4 p 1 + 16 * ord4 p 2 + 64 * ord4 p 3, ?_, ?_⟩
    · have h0 := ord4_le p 0 (by omega)
      have h1 := ord4_le p 1 (by omega)
      have h2 := ord4_le p 2 (by omega)
      have h3 := ord4_le p 3 (by omega)
      rw [List.mem_range]; omega
    · unfold good
      rw [row4_rd _ _ _ _ (ord4_le p 0 (by omega)) (ord4_le p 1 (by omega)) (ord4_le p 2 (by omega)) (ord4_le p 3 (by omega))]
      have R : ∀ v : Nat, v < 4 → rd [(ord4 p 0 : Int), (ord4 p 1 : Int), (ord4 p 2 : Int), (ord4 p 3 : Int)] (v : Int) = (ord4 p v : Int) := by
        intro v hv
        rcases (show v = 0 ∨ v = 1 ∨ v = 2 ∨ v = 3 by omega) with rfl | rfl | rfl | rfl <;> rfl
      have N : ∀ a b : Nat, a < 4 → b < 4 → a ≠ b → (rd [(ord4 p 0 : Int), (ord4 p 1 : Int), (ord4 p 2 : Int), (ord4 p 3 : Int)] (a : Int) == rd [(ord4 p 0 : Int), (ord4 p 1 : Int), (ord4 p 2 : Int), (ord4 p 3 : Int)] (b : Int)) = false := by
        intro a b ha hb h
        rw [R a ha, R b hb, beq_eq_false_iff_ne]
        have := ord4_ne (p := p) ha hb h
        omega
      have n01 := N 0 1 (by omega) (by omega) (by omega)
      have n02 := N 0 2 (by omega) (by omega) (by omega)
      have n03 := N 0 3 (by omega) (by omega) (by omega)
      have n12 := N 1 2 (by omega) (by omega) (by omega)
      have n13 := N 1 3 (by omega) (by omega) (by omega)
      have n23 := N 2 3 (by omega) (by omega) (by omega)
      rw [Bool.and_eq_true]
      refine ⟨?_, ?_⟩
      · unfold unlike
        rw [show (0 : Int) = ((0 : Nat) : Int) from rfl, show (1 : Int) = ((1 : Nat) : Int) from rfl, show (2 : Int) = ((2 : Nat) : Int) from rfl, show (3 : Int) = ((3 : Nat) : Int) from rfl]
        rw [N 0 1 (by omega) (by omega) (by omega), N 0 2 (by omega) (by omega) (by omega), N 0 3 (by omega) (by omega) (by omega), N 1 2 (by omega) (by omega) (by omega), N 1 3 (by omega) (by omega) (by omega), N 2 3 (by omega) (by omega) (by omega)]
        rfl
      · rw [List.all_eq_true]
        intro r hr'
        have h4 := hr r hr'
        have e0 : r.f0 = ((r.f0.toNat : Nat) : Int) := by omega
        have e1 : r.f1 = ((r.f1.toNat : Nat) : Int) := by omega
        unfold up
        rw [e0, e1, R _ (by omega), R _ (by omega)]
        have := ord4_lt (f := r.f0.toNat) (t := r.f1.toNat) (by omega) (by omega) (.inl (hp r hr'))
        exact decide_eq_true (by omega)
  · rintro ⟨n, _, hg⟩
    unfold good at hg
    rw [Bool.and_eq_true, List.all_eq_true] at hg
    refine ⟨fun v => rd (row4 n) (v : Int), fun r hr' => ?_⟩
    have h4 := hr r hr'
    have := hg.2 r hr'
    unfold up at this
    have e0 : ((r.f0.toNat : Nat) : Int) = r.f0 := by omega
    have e1 : ((r.f1.toNat : Nat) : Int) = r.f1 := by omega
    show rd (row4 n) ((r.f0.toNat : Nat) : Int) < rd (row4 n) ((r.f1.toNat : Nat) : Int)
    rw [e0, e1]
    exact of_decide_eq_true this

theorem RouteOrder : ∀ (y0 : List (S45)), ((y0.length * 48 ≤ 140737488351232 ∧ y0.length ≤ maxLen ∧ ∀ z0 ∈ y0, ok45 z0)) → ∃ k, phaetonlaw12_RouteOrder.f k y0 = some true := by
  intro l ⟨hl0, hl1, hl2⟩
  obtain ⟨k, hk⟩ : ∃ k, k = 20000 := ⟨_, rfl⟩
  refine ⟨k, ?_⟩
  have hc : phaetonlaw12_Cut.f k l 16 = some (cutL (l.take 16)) := fCut k 16 l (by omega) (by omega) (by omega)
  have hcr := cutL_right (l := l.take 16) (fun r hr => hl2 r (List.mem_of_mem_take hr))
  have hcl : (cutL (l.take 16)).length ≤ 16 := Nat.le_trans (cutL_len _) (by rw [List.length_take]; omega)
  have hr := rightL_of hcr (by omega)
  have hin : inR (cutL (l.take 16)) 4 := all_in (n := 4) hcr
  unfold phaetonlaw12_RouteOrder.f
  rw [head_true k (by omega), Option.bind_some, hc, Option.bind_some]
  exact order_l0 _ hcl hin hr (any_iff _ hcl hin) 256 0 (by omega) k (by omega)

end Go.Proofs.Ytpcabeefahldlaa.Pure
