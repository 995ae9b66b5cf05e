/-
  Nothing goes round: how what waits goes on.
-/
import Derived.Test.YtcpfkcipnkeokaaPD
namespace Go.Proofs.YtcpfkcipnkeokaaFw
open Go Go.Proofs
set_option linter.unusedVariables false
set_option linter.unusedSimpArgs false

theorem loopless_hts {l : List Route} (h : loopless l 4 = true) : ∃ k : Int → Int, hts l k := by
  unfold loopless at h
  simp only [Bool.and_eq_true] at h
  obtain ⟨h1, h2⟩ := h
  obtain ⟨_, _, hl, hr⟩ := right_of h1
  have hin : inR l 4 := by
    intro r hm
    have := hr r hm
    unfold routeR at this
    simp at this
    omega
  have h3 : noBack l 4 = true := by rw [noBack_loop]; exact h2
  rw [noBack_iff hin (by decide) (by omega)] at h3
  obtain ⟨p, hp⟩ := (loopB_iff hin (by decide) (by omega)).1 h3
  refine ⟨fun v => rank p 4 v.toNat, fun v => rank_le p 4 _ (by decide), fun r hm => ?_⟩
  have h4 := hin r hm
  exact rank_lt (by omega) (by decide) (hp r hm)

def waitL (g : Gate) : List Hop := (g.out.getD 0 []).map (Hop.mk 0) ++ (g.out.getD 1 []).map (Hop.mk 1) ++ (g.out.getD 2 []).map (Hop.mk 2) ++ (g.out.getD 3 []).map (Hop.mk 3)
theorem count_mk (i : Int) (x : Hop) : ∀ l : List Frame, (l.map (Hop.mk i)).count x = if x.to = i then l.count x.frame else 0
  | [] => by simp
  | f :: l => by
    rw [List.map_cons, List.count_cons, count_mk i x l, List.count_cons]
    obtain ⟨t, y⟩ := x
    by_cases h : t = i
    · subst h
      by_cases h2 : f = y
      · subst h2; simp
      · simp [h2]
    · have h' : ¬ i = t := fun e => h e.symm
      simp [h, h']
theorem wait_count (g : Gate) (x : Hop) : (waitL g).count x = (if x.to = 0 then (g.out.getD 0 []).count x.frame else 0) + (if x.to = 1 then (g.out.getD 1 []).count x.frame else 0) + (if x.to = 2 then (g.out.getD 2 []).count x.frame else 0) + (if x.to = 3 then (g.out.getD 3 []).count x.frame else 0) := by
  unfold waitL
  rw [List.count_append, List.count_append, List.count_append, count_mk, count_mk, count_mk, count_mk]
theorem wait_len (g : Gate) : (waitL g).length = (g.out.getD 0 []).length + (g.out.getD 1 []).length + (g.out.getD 2 []).length + (g.out.getD 3 []).length := by
  unfold waitL; simp; omega
theorem stepIn_room {g : Gate} (hc : g.cap = 64) (h : Hop) {a : Nat} (ha : h.to = a) (hr : (g.out.getD a []).length < 64) : stepIn g h = { g with out := chg (addF h) g.out h.to } := by
  unfold stepIn
  rw [if_pos]
  rw [ha, Int.toNat_natCast, hc]
  simp only [decide_eq_true_eq]; omega
theorem step_wait {g : Gate} (ho : g.out.length = 4) (hc : g.cap = 64) (h : Hop) (h0 : 0 ≤ h.to) (h4 : h.to < 4) (hw : (waitL g).length < 64) : (waitL (stepIn g h)).Perm (h :: waitL g) := by
  obtain ⟨a, ha⟩ := Int.eq_ofNat_of_zero_le h0
  rw [wait_len] at hw
  have hcase : a = 0 ∨ a = 1 ∨ a = 2 ∨ a = 3 := by omega
  have hr : (g.out.getD a []).length < 64 := by rcases hcase with rfl | rfl | rfl | rfl <;> omega
  rw [stepIn_room hc h ha hr, List.perm_iff_count]
  intro x
  obtain ⟨t, y⟩ := h
  simp only at ha
  subst ha
  rw [wait_count, List.count_cons, wait_count]
  simp only
  rw [chg_getD _ _ _ _ (by omega), chg_getD _ _ _ _ (by omega), chg_getD _ _ _ _ (by omega), chg_getD _ _ _ _ (by omega)]
  have e : ((Hop.mk (a : Int) y == x) = true) ↔ ((a : Int) = x.to ∧ y = x.frame) := by
    rw [beq_iff_eq]
    constructor
    · rintro rfl; exact ⟨rfl, rfl⟩
    · rintro ⟨e1, e2⟩; cases x; simp_all
  have ca : ∀ l : List Frame, (addF ⟨(a : Int), y⟩ l).count x.frame = l.count x.frame + if y = x.frame then 1 else 0 := fun l => by
    unfold addF
    rw [List.count_append, List.count_singleton]
    congr 1
    by_cases q : y = x.frame <;> simp [q]
  have cq : ∀ i : Nat, (if x.to = (i : Int) then (if (i : Int) = (a : Int) then addF ⟨(a : Int), y⟩ (g.out.getD i []) else g.out.getD i []).count x.frame else 0) =
      (if x.to = (i : Int) then (g.out.getD i []).count x.frame else 0) + if i = a ∧ (a : Int) = x.to ∧ y = x.frame then 1 else 0 := by
    intro i
    by_cases q1 : x.to = (i : Int)
    · rw [if_pos q1, if_pos q1]
      by_cases q2 : i = a
      · subst q2
        rw [if_pos rfl, ca]
        congr 1
        by_cases q3 : y = x.frame <;> simp [q3, q1]
      · rw [if_neg (by omega), if_neg (fun h => q2 h.1), Nat.add_zero]
    · rw [if_neg q1, if_neg q1, if_neg (fun h => q1 (by rw [← h.2.1, h.1]))]
  have c0 := cq 0
  have c1 := cq 1
  have c2 := cq 2
  have c3 := cq 3
  rw [show ((0 : Nat) : Int) = 0 from rfl] at c0
  rw [show ((1 : Nat) : Int) = 1 from rfl] at c1
  rw [show ((2 : Nat) : Int) = 2 from rfl] at c2
  rw [show ((3 : Nat) : Int) = 3 from rfl] at c3
  rw [show ((0 : Nat) : Int) = 0 from rfl, show ((1 : Nat) : Int) = 1 from rfl, show ((2 : Nat) : Int) = 2 from rfl, show ((3 : Nat) : Int) = 3 from rfl, c0, c1, c2, c3]
  clear cq c0 c1 c2 c3 ca hr hw
  by_cases P : (a : Int) = x.to ∧ y = x.frame
  · rw [if_pos (e.2 P)]
    simp only [P, and_true, and_self]
    rcases hcase with rfl | rfl | rfl | rfl <;> simp <;> omega
  · have n0 : ∀ i : Nat, ¬ (i = a ∧ (a : Int) = x.to ∧ y = x.frame) := fun i h => P h.2
    rw [if_neg (fun h => P (e.1 h)), if_neg (n0 0), if_neg (n0 1), if_neg (n0 2), if_neg (n0 3)]
    omega
theorem fold_wait : ∀ (H : List Hop) (g : Gate), g.out.length = 4 → g.cap = 64 → (∀ h ∈ H, 0 ≤ h.to ∧ h.to < 4) → (waitL g).length + H.length ≤ 64 → (waitL (H.foldl stepIn g)).Perm (waitL g ++ H)
  | [], g, _, _, _, _ => by rw [List.append_nil]; exact .refl _
  | h :: H, g, ho, hc, hh, hw => by
    simp only [List.length_cons] at hw
    obtain ⟨h0, h4⟩ := hh h (by simp)
    have h1 := step_wait ho hc h h0 h4 (by omega)
    have h2 := fold_wait H (stepIn g h) (by rw [stepIn_len]; exact ho) (by unfold stepIn; split <;> exact hc) (fun x hx => hh x (by simp [hx])) (by rw [h1.length_eq]; simp only [List.length_cons]; omega)
    rw [List.foldl_cons]
    refine h2.trans ?_
    refine (h1.append_right H).trans ?_
    rw [List.cons_append]
    exact List.perm_middle.symm
theorem done_wait {g : Gate} (ho : g.out.length = 4) {b : Nat} (hh : has g b = true) : b < 4 ∧ (waitL g).Perm (⟨b, (next g b).1⟩ :: waitL (doneG g b)) := by
  have hb : b < 4 ∧ 0 < (g.out.getD b []).length := by
    unfold has at hh
    rw [Int.toNat_natCast] at hh
    simp only [Bool.and_eq_true, decide_eq_true_eq] at hh
    omega
  refine ⟨hb.1, ?_⟩
  have hn : (next g b).1 = (g.out.getD b []).getD 0 zeroF := by unfold next; rw [if_pos hh, Int.toNat_natCast]
  rw [hn]
  have hd : ∀ k, k < 4 → (doneG g b).out.getD k [] = if k = b then (g.out.getD k []).drop 1 else g.out.getD k [] := by
    intro k hk
    unfold doneG
    rw [if_pos hh]
    simp only
    rw [chg_getD _ _ _ _ (by omega)]
    by_cases e : k = b
    · rw [if_pos e, if_pos (by omega)]; rfl
    · rw [if_neg e, if_neg (by omega)]
  have hcons : g.out.getD b [] = (g.out.getD b []).getD 0 zeroF :: (g.out.getD b []).drop 1 := by
    cases hx : g.out.getD b [] with
    | nil => rw [hx] at hb; simp at hb
    | cons a l => rfl
  generalize (g.out.getD b []).getD 0 zeroF = y at *
  have d0 := hd 0 (by decide)
  have d1 := hd 1 (by decide)
  have d2 := hd 2 (by decide)
  have d3 := hd 3 (by decide)
  have : b = 0 ∨ b = 1 ∨ b = 2 ∨ b = 3 := by omega
  unfold waitL
  rw [d0, d1, d2, d3]
  rcases this with rfl | rfl | rfl | rfl
  · simp only [if_true, Nat.reduceEqDiff, if_false]
    rw [hcons]
    exact .refl _
  · simp only [if_true, Nat.reduceEqDiff, if_false]
    rw [hcons]
    simp only [List.map_cons, List.append_assoc, List.cons_append, List.drop_succ_cons, List.drop_zero]
    exact List.perm_middle
  · simp only [if_true, Nat.reduceEqDiff, if_false]
    rw [hcons]
    simp only [List.map_cons, List.append_assoc, List.cons_append, List.drop_succ_cons, List.drop_zero]
    rw [← List.append_assoc, ← List.append_assoc]
    exact List.perm_middle
  · simp only [if_true, Nat.reduceEqDiff, if_false]
    rw [hcons]
    simp only [List.map_cons, List.append_assoc, List.cons_append, List.drop_succ_cons, List.drop_zero]
    rw [← List.append_assoc, ← List.append_assoc, ← List.append_assoc, ← List.append_assoc]
    exact List.perm_middle
def unseen (want : List Hop) (seen : List Bool) : List Hop := (want.zip seen).filterMap fun p => if p.2 then none else some p.1
theorem unseen_mem : ∀ (want : List Hop) (seen : List Bool) (x : Hop), x ∈ unseen want seen → ∃ i, ∃ h : i < want.length, ∃ h' : i < seen.length, seen[i] = false ∧ want[i] = x
  | [], _, x, h => by simp [unseen] at h
  | _ :: _, [], x, h => by simp [unseen] at h
  | a :: want, s :: seen, x, h => by
    unfold unseen at h
    rw [List.zip_cons_cons, List.filterMap_cons] at h
    cases s with
    | true =>
      simp only [if_true] at h
      obtain ⟨i, h1, h2, h3, h4⟩ := unseen_mem want seen x h
      exact ⟨i + 1, by simpa using h1, by simpa using h2, by simpa using h3, by simpa using h4⟩
    | false =>
      simp only [if_false, Bool.false_eq_true, List.mem_cons] at h
      rcases h with rfl | h
      · exact ⟨0, by simp, by simp, rfl, rfl⟩
      · obtain ⟨i, h1, h2, h3, h4⟩ := unseen_mem want seen x h
        exact ⟨i + 1, by simpa using h1, by simpa using h2, by simpa using h3, by simpa using h4⟩
theorem unseen_set : ∀ (want : List Hop) (seen : List Bool) (i : Nat) (h : i < want.length) (h' : i < seen.length), seen[i] = false → (unseen want seen).Perm (want[i] :: unseen want (seen.set i true))
  | [], _, i, h, _, _ => by simp at h
  | _ :: _, [], i, _, h', _ => by simp at h'
  | a :: want, s :: seen, 0, h, h', hs => by
    simp only [List.getElem_cons_zero] at hs
    subst hs
    exact .refl _
  | a :: want, s :: seen, i + 1, h, h', hs => by
    simp only [List.length_cons, Nat.add_lt_add_iff_right] at h h'
    have := unseen_set want seen i h h' (by simpa using hs)
    unfold unseen at *
    rw [List.set_cons_succ, List.zip_cons_cons, List.zip_cons_cons, List.filterMap_cons, List.filterMap_cons]
    cases s with
    | true => exact this
    | false =>
      simp only [if_false, Bool.false_eq_true, List.getElem_cons_succ]
      exact (this.cons a).trans (.swap _ _ _)
theorem unseen_all : ∀ (want : List Hop), unseen want (List.replicate want.length false) = want
  | [] => rfl
  | a :: want => by
    unfold unseen
    rw [List.length_cons, List.replicate_succ, List.zip_cons_cons, List.filterMap_cons]
    exact congrArg (a :: ·) (unseen_all want)
/-- What is unseen is what waits, and what becomes of it. -/
def Goes (l : List Route) (want : List Hop) (seen : List Bool) (g : Gate) : Prop := (unseen want seen).Perm ((waitL g).flatMap fun h => h :: deep l 4 h)
theorem goes_wait {l : List Route} {want : List Hop} {seen : List Bool} {g : Gate} (h : Goes l want seen g) : (waitL g).length ≤ (unseen want seen).length := by
  rw [h.length_eq]
  generalize waitL g = W
  induction W with
  | nil => simp
  | cons a W ih => rw [List.flatMap_cons, List.length_append]; simp only [List.length_cons]; omega
theorem goes_next {l : List Route} {k : Int → Int} (hk : hts l k) {want : List Hop} {seen : List Bool} {g : Gate} (h : Goes l want seen g) (ho : g.out.length = 4) (hc : g.cap = 64) (hr : g.routes = l) (hl : ∀ r ∈ l, 0 ≤ r.to ∧ r.to < 4) (hw : (unseen want seen).length ≤ 33) {b : Nat} (hh : has g b = true)
    {i : Nat} (h1 : i < want.length) (h2 : i < seen.length) (h3 : seen[i] = false) (h4 : want[i] = ⟨b, (next g b).1⟩) : Goes l want (seen.set i true) (inG (doneG g b) b (next g b).1) := by
  obtain ⟨hb, hd⟩ := done_wait ho hh
  have hu := unseen_set want seen i h1 h2 h3
  have hg := goes_wait h
  rw [h4] at hu
  generalize hx : (⟨(b : Int), (next g b).1⟩ : Hop) = x at *
  have e1 : (x :: unseen want (seen.set i true)).Perm (x :: ((hp l x).flatMap (fun h => h :: deep l 4 h) ++ (waitL (doneG g b)).flatMap fun h => h :: deep l 4 h)) := by
    refine (hu.symm.trans (h.trans (hd.flatMap_right _))).trans ?_
    rw [List.flatMap_cons, deep_eq hk x, List.cons_append]
  have e2 := (List.perm_cons x).1 e1
  have hgo : (doneG g b).out.length = 4 := by unfold doneG; rw [if_pos hh]; exact (chg_len _ _ _).trans ho
  have hgc : (doneG g b).cap = 64 := by unfold doneG; split <;> exact hc
  have hin : inG (doneG g b) b (next g b).1 = (hp l x).foldl stepIn (doneG g b) := by
    unfold inG hp
    rw [doneG_routes, hr, ← hx]
  have hlen : (waitL (doneG g b)).length + (hp l x).length ≤ 64 := by
    have q := e2.length_eq
    have q1 := hu.length_eq
    have q2 : ∀ S : List Hop, S.length ≤ (S.flatMap fun h => h :: deep l 4 h).length := by
      intro S
      induction S with
      | nil => simp
      | cons a W ih => rw [List.flatMap_cons, List.length_append]; simp only [List.length_cons]; omega
    have q3 := q2 (waitL (doneG g b))
    have q4 := q2 (hp l x)
    rw [List.length_append] at q
    simp only [List.length_cons] at q1
    omega
  have hto : ∀ y ∈ hp l x, 0 ≤ y.to ∧ y.to < 4 := by
    intro y hy
    obtain ⟨r, hrm, _, e⟩ := hop_of hy
    rw [e]; exact hl r hrm
  have hf := fold_wait (hp l x) (doneG g b) hgo hgc hto hlen
  unfold Goes
  rw [hin]
  refine e2.trans (List.perm_append_comm.trans ?_)
  rw [← List.flatMap_append]
  exact (hf.symm.flatMap_right _)
theorem goes_first {l : List Route} {g : Gate} (hw : waitL g = []) (ho : g.out.length = 4) (hc : g.cap = 64) (hr : g.routes = l) (hl : ∀ r ∈ l, 0 ≤ r.to ∧ r.to < 4) (h8 : l.length ≤ 8) (b : Int) (f : Frame) : Goes l (lev l 5 (hp l ⟨b, f⟩)) (List.replicate (lev l 5 (hp l ⟨b, f⟩)).length false) (inG g b f) := by
  unfold Goes
  rw [unseen_all]
  have hin : inG g b f = (hp l ⟨b, f⟩).foldl stepIn g := by unfold inG hp; rw [hr]
  have hto : ∀ y ∈ hp l ⟨b, f⟩, 0 ≤ y.to ∧ y.to < 4 := by
    intro y hy
    obtain ⟨r, hrm, _, e⟩ := hop_of hy
    rw [e]; exact hl r hrm
  have hn := hops_len l b f
  have hf := fold_wait (hp l ⟨b, f⟩) g ho hc hto (by rw [hw]; unfold hp; simp only [List.length_nil]; omega)
  rw [hw, List.nil_append] at hf
  rw [hin]
  exact (lev_perm l 4 _).symm.trans (hf.symm.flatMap_right _)
/-- Where something waits a bus is found; where none does nothing waits. -/
theorem none_wait {g : Gate} (ho : g.out.length = 4) (h : ∀ j : Nat, j < 4 → has g j = false) : waitL g = [] := by
  have : ∀ j, j < 4 → g.out.getD j [] = [] := fun j hj => by
    have := h j hj
    unfold has at this
    rw [Int.toNat_natCast] at this
    simp only [Bool.and_eq_false_iff, decide_eq_false_iff_not] at this
    exact List.eq_nil_of_length_eq_zero (by omega)
  unfold waitL
  rw [this 0 (by decide), this 1 (by decide), this 2 (by decide), this 3 (by decide)]
  rfl
theorem waits_wait (g : Gate) (ho : g.out.length = 4) : waits g = (waitL g).length := by
  rw [wait_len]
  unfold waits
  match hh : g.out, ho with
  | [a, b, c, d], _ =>
    simp [List.getD]
theorem head_wait {g : Gate} (ho : g.out.length = 4) {b : Nat} (hh : has g b = true) : (⟨b, (next g b).1⟩ : Hop) ∈ waitL g := (done_wait ho hh).2.symm.subset (by simp)
theorem goes_found {l : List Route} {want : List Hop} {seen : List Bool} {g : Gate} (h : Goes l want seen g) (ho : g.out.length = 4) {b : Nat} (hh : has g b = true) : ∃ i, ∃ h1 : i < want.length, ∃ h2 : i < seen.length, seen[i] = false ∧ want[i] = ⟨b, (next g b).1⟩ := by
  refine unseen_mem want seen _ (h.symm.subset ?_)
  exact List.mem_flatMap.2 ⟨_, head_wait ho hh, by simp⟩
end Go.Proofs.YtcpfkcipnkeokaaFw
