/-
  Plain mathematics of the layer 'schedule': jobs moved; a further job; the rules. No program in sight.
-/
import Derived.Test.YtheioedggjbphaaSdP
set_option linter.unusedVariables false
namespace Sc
/-! ### moved -/
def mvJ (n : Int) (j : Jb) : Jb := ⟨j.ready + n, j.due + n, j.pieces, j.prio⟩
def mvS (n : Int) (s : Sn) : Sn := ⟨s.slot + n, s.job, s.piece⟩
theorem jat_mv {J : List Jb} {n : Int} {i : Nat} (h : i < J.length) : jat (J.map (mvJ n)) i = mvJ n (jat J i) := by
  rw [jat_get (by rw [List.length_map]; exact h), List.getElem_map, jat_get h]
theorem le_mv {J : List Jb} {n : Int} {a b : Nat} (ha : a < J.length) (hb : b < J.length) : le (J.map (mvJ n)) a b ↔ le J a b := by
  rw [le_iff, le_iff, jat_mv ha, jat_mv hb]
  unfold mvJ
  dsimp only
  omega
theorem wts_mv {J : List Jb} {n f t : Int} {c : List Nat} {i : Nat} (h : i < J.length) : wts (J.map (mvJ n)) (f + n) (t + n) c i = wts J f t c i := by
  unfold wts rdy
  rw [jat_mv h, decide_eq_decide]
  unfold mvJ
  dsimp only
  omega
theorem best_mv (J : List Jb) (n f t : Int) (c : List Nat) : best (J.map (mvJ n)) (f + n) (t + n) c = best J f t c := by
  cases e : best J f t c with
  | none =>
    rw [best_none] at e ⊢
    intro x hx
    rw [List.length_map] at hx
    rw [wts_mv hx]
    exact e x hx
  | some b =>
    rw [best_some] at e ⊢
    obtain ⟨h1, h2, h3⟩ := e
    refine ⟨by rw [List.length_map]; exact h1, by rw [wts_mv h1]; exact h2, fun x hx hw => ?_⟩
    rw [List.length_map] at hx
    rw [wts_mv hx] at hw
    exact (le_mv h1 hx).2 (h3 x hx hw)
theorem planS_mv (J : List Jb) (n f : Int) : ∀ k, planS (J.map (mvJ n)) (f + n) k = ((planS J f k).1, (planS J f k).2.map (mvS n))
  | 0 => by simp [planS]
  | k + 1 => by
    show pstep (J.map (mvJ n)) (f + n) (planS (J.map (mvJ n)) (f + n) k) (f + n + k) = _
    rw [planS_mv J n f k, show f + n + (k : Int) = f + k + n by omega]
    have hb := best_mv J n f (f + k) (planS J f k).1
    show _ = ((pstep J f (planS J f k) (f + k)).1, (pstep J f (planS J f k) (f + k)).2.map (mvS n))
    cases e : best J f (f + k) (planS J f k).1 with
    | none =>
      rw [e] at hb
      rw [pstep_none e, pstep_none (s := ((planS J f k).1, (planS J f k).2.map (mvS n))) hb]
    | some b =>
      rw [e] at hb
      rw [pstep_some e, pstep_some (s := ((planS J f k).1, (planS J f k).2.map (mvS n))) hb]
      simp [mvS]
theorem out_stay {J : List Jb} {f : Int} {k : Nat} (h : ∀ m, k ≤ m → asg J f m = none) : ∀ d, (planS J f (k + d)).2 = (planS J f k).2
  | 0 => rfl
  | d + 1 => by
    have := out_no (h (k + d) (by omega))
    rw [← Nat.add_assoc, this]
    exact out_stay h d
theorem plan_mv {J : List Jb} {n f : Int} (hn : 0 ≤ n) (hv : ∀ j ∈ J.map (mvJ n), jobB j = true) : planF (J.map (mvJ n)) (f + n) = (planF J f).map (mvS n) := by
  unfold planF
  rw [planS_mv]
  dsimp only
  congr 1
  obtain ⟨d, hd⟩ : ∃ d, (400 - f).toNat = (400 - (f + n)).toNat + d := ⟨(400 - f).toNat - (400 - (f + n)).toNat, by omega⟩
  rw [hd]
  refine (out_stay (fun m hm => ?_) d).symm
  cases e : asg J f m with
  | none => rfl
  | some b =>
    obtain ⟨h1, h2, h3, h4⟩ := asg_some e
    have := (jobB_iff.1 (hv (mvJ n (jat J b)) (List.mem_map.2 ⟨jat J b, by rw [jat_get h1]; exact List.getElem_mem h1, rfl⟩))).2.2.1
    unfold mvJ at this
    dsimp only at this
    omega
/-! ### a further job -/
theorem jat_app {J : List Jb} {j : Jb} {i : Nat} (h : i < J.length) : jat (J ++ [j]) i = jat J i := by
  rw [jat_get (by simp; omega), jat_get h, List.getElem_append_left h]
theorem jat_last (J : List Jb) (j : Jb) : jat (J ++ [j]) J.length = j := by
  rw [jat_get (by simp)]
  simp
theorem le_app {J : List Jb} {j : Jb} {a b : Nat} (ha : a < J.length) (hb : b < J.length) : le (J ++ [j]) a b ↔ le J a b := by
  rw [le_iff, le_iff, jat_app ha, jat_app hb]
/-- what stands before the further job -/
def fore (J : List Jb) (j : Jb) (i : Nat) : Prop := i < J.length ∧ le (J ++ [j]) i J.length
theorem fore_iff {J : List Jb} {j : Jb} {i : Nat} (h : i < J.length) : fore J j i ↔ ¬ (j.due < (jat J i).due ∨ (jat J i).due = j.due ∧ (jat J i).prio < j.prio) := by
  unfold fore
  rw [le_iff, jat_last, jat_app h]
  omega
theorem fore_down {J : List Jb} {j : Jb} {a b : Nat} (h : fore J j b) (ha : a < J.length) (hab : le (J ++ [j]) a b) : fore J j a := ⟨ha, (le_tot _).tr hab h.2⟩
theorem asg_app {J : List Jb} {j : Jb} {f : Int} {m : Nat} (hc : ∀ i, fore J j i → cntS J f m i = cntS (J ++ [j]) f m i) {i : Nat} (hi : fore J j i) : asg J f m = some i ↔ asg (J ++ [j]) f m = some i := by
  have hl : (J ++ [j]).length = J.length + 1 := by simp
  have hr : ∀ x, x < J.length → rdy (J ++ [j]) f x = rdy J f x := fun x hx => by unfold rdy; rw [jat_app hx]
  constructor
  · intro h
    obtain ⟨h1, h2, h3, h4⟩ := asg_some h
    obtain ⟨b, hb, hle⟩ := asg_wait (J := J ++ [j]) (f := f) (m := m) (x := i) (by omega) (by rw [hr i h1]; exact h2) (by rw [jat_app h1]; exact h3) (by rw [jat_app h1, ← hc i hi]; exact h4)
    obtain ⟨b1, b2, b3, b4⟩ := asg_some hb
    by_cases e : b = J.length
    · subst e
      have := le_anti hle hi.2
      omega
    · have hbJ : b < J.length := by omega
      have hf := fore_down hi hbJ hle
      have := asg_le h hbJ (by rw [← hr b hbJ]; exact b2) (by rw [← jat_app (j := j) hbJ]; exact b3) (by rw [← jat_app (j := j) hbJ, hc b hf]; exact b4)
      rw [hb, le_anti this ((le_app hbJ h1).1 hle)]
  · intro h
    have h1 := hi.1
    obtain ⟨_, h2, h3, h4⟩ := asg_some h
    rw [hr i h1] at h2
    rw [jat_app h1] at h3 h4
    rw [← hc i hi] at h4
    obtain ⟨b, hb, hle⟩ := asg_wait (J := J) (f := f) (m := m) h1 h2 h3 h4
    obtain ⟨b1, b2, b3, b4⟩ := asg_some hb
    have hf := fore_down hi b1 ((le_app b1 h1).2 hle)
    have := asg_le h (x := b) (by omega) (by rw [hr b b1]; exact b2) (by rw [jat_app b1]; exact b3) (by rw [jat_app b1, ← hc b hf]; exact b4)
    rw [hb, le_anti ((le_app h1 b1).1 this) hle]
theorem cnt_app {J : List Jb} {j : Jb} {f : Int} : ∀ m i, fore J j i → cntS J f m i = cntS (J ++ [j]) f m i
  | 0, i, _ => by rw [cntS_zero, cntS_zero]
  | m + 1, i, hi => by
    have ih := fun i (hi : fore J j i) => cnt_app (J := J) (j := j) (f := f) m i hi
    by_cases e : asg J f m = some i
    · rw [cntS_yes e, cntS_yes ((asg_app ih hi).1 e), ih i hi]
    · rw [cntS_no e, cntS_no (fun h => e ((asg_app ih hi).2 h)), ih i hi]
theorem done_step (J : List Jb) (f : Int) (k i : Nat) : doneF (planS J f (k + 1)).2 i = doneF (planS J f k).2 i ++ (if asg J f k = some i then [f + (k : Int)] else []) := by
  cases e : asg J f k with
  | none => rw [out_no e]; simp
  | some b =>
    rw [out_yes e]
    unfold doneF
    rw [List.filter_append, List.map_append]
    congr 1
    by_cases h : b = i
    · subst h; simp
    · rw [if_neg (by simpa using h), List.filter_cons, if_neg (by simp; omega)]; rfl
theorem later_law {J : List Jb} {j : Jb} {f : Int} {i : Nat} (hi : fore J j i) : doneF (planF (J ++ [j]) f) i = doneF (planF J f) i := by
  unfold planF
  generalize (400 - f).toNat = k
  induction k with
  | zero => rfl
  | succ k ih =>
    rw [done_step, done_step, ih]
    have := asg_app (f := f) (m := k) (fun i hi => cnt_app k i hi) hi
    by_cases e : asg J f k = some i
    · rw [if_pos e, if_pos (this.1 e)]
    · rw [if_neg e, if_neg (fun h => e (this.2 h))]
/-! ### the rules -/
theorem out_more (J : List Jb) (f : Int) (m : Nat) : ∀ d, ∃ r, (planS J f (m + d)).2 = (planS J f m).2 ++ r ∧ ∀ s ∈ r, f + (m : Int) ≤ s.slot
  | 0 => ⟨[], by simp, fun s h => by cases h⟩
  | d + 1 => by
    obtain ⟨r, h1, h2⟩ := out_more J f m d
    rw [← Nat.add_assoc]
    cases e : asg J f (m + d) with
    | none => rw [out_no e]; exact ⟨r, h1, h2⟩
    | some b =>
      rw [out_yes e, h1]
      refine ⟨r ++ [_], by rw [List.append_assoc], fun s hs => ?_⟩
      rw [List.mem_append, List.mem_singleton] at hs
      rcases hs with hs | rfl
      · exact h2 s hs
      · dsimp only; omega
theorem rule_some {J : List Jb} {f : Int} {m b : Nat} (hm : m < KK f) (h : asg J f m = some b) : (planF J f)[(planS J f m).2.length]? = some ⟨f + m, b, cntS J f m b⟩ := by
  obtain ⟨d, hd⟩ : ∃ d, KK f = m + 1 + d := ⟨KK f - (m + 1), by omega⟩
  obtain ⟨r, h1, _⟩ := out_more J f (m + 1) d
  show (planS J f (KK f)).2[_]? = _
  rw [hd, h1, out_yes h, List.append_assoc, List.getElem?_append_right (Nat.le_refl _), Nat.sub_self]
  rfl
theorem rule_none {J : List Jb} {f : Int} {m : Nat} (hm : m < KK f) (h : asg J f m = none) {s : Sn} (hs : (planF J f)[(planS J f m).2.length]? = some s) : s.slot ≠ f + m := by
  obtain ⟨d, hd⟩ : ∃ d, KK f = m + 1 + d := ⟨KK f - (m + 1), by omega⟩
  obtain ⟨r, h1, h2⟩ := out_more J f (m + 1) d
  change (planS J f (KK f)).2[_]? = _ at hs
  rw [hd, h1, out_no h, List.getElem?_append_right (Nat.le_refl _), Nat.sub_self] at hs
  have := h2 s (List.mem_of_getElem? hs)
  omega
theorem rule_idle {J : List Jb} {f : Int} {m : Nat} (h : asg J f m = none) {i : Nat} (hi : i < J.length) : f + (m : Int) < (jat J i).ready ∨ (jat J i).due < f + (m : Int) ∨ (jat J i).pieces - (cntS J f m i : Int) ≤ 0 := by
  by_cases e : rdy J f i ≤ f + m ∧ f + m ≤ (jat J i).due ∧ (cntS J f m i : Int) < (jat J i).pieces
  · obtain ⟨b, hb, _⟩ := asg_wait hi e.1 e.2.1 e.2.2
    rw [h] at hb; cases hb
  · unfold rdy at e
    omega
/-- what is left of each job -/
def leftL (J : List Jb) (f : Int) (m : Nat) : List Int := (List.range J.length).map (fun i => (jat J i).pieces - (cntS J f m i : Int))
theorem left_len (J : List Jb) (f : Int) (m : Nat) : (leftL J f m).length = J.length := by unfold leftL; simp
theorem left_get {J : List Jb} {f : Int} {m i : Nat} (h : i < J.length) : (leftL J f m)[i]? = some ((jat J i).pieces - (cntS J f m i : Int)) := by unfold leftL; rw [List.getElem?_map, List.getElem?_range h]; rfl
theorem left_no {J : List Jb} {f : Int} {m : Nat} (h : asg J f m = none) : leftL J f (m + 1) = leftL J f m := by
  unfold leftL
  apply List.map_congr_left
  intro i _
  rw [cntS_no (by rw [h]; simp)]
theorem left_yes {J : List Jb} {f : Int} {m b : Nat} (h : asg J f m = some b) : leftL J f (m + 1) = (leftL J f m).set b ((jat J b).pieces - (cntS J f m b : Int) - 1) := by
  have hb := (asg_some h).1
  apply List.ext_getElem?
  intro i
  by_cases hi : i < J.length
  · rw [left_get hi, List.getElem?_set, left_len, left_get hi]
    by_cases e : b = i
    · subst e
      rw [if_pos rfl, if_pos hb, cntS_yes h]
      congr 1
      omega
    · rw [if_neg e, cntS_no (by rw [h]; simpa using e)]
  · rw [List.getElem?_eq_none (by rw [left_len]; omega), List.getElem?_eq_none (by rw [List.length_set, left_len]; omega)]
theorem left_zero (J : List Jb) (f : Int) : leftL J f 0 = J.map Jb.pieces := by
  have : J.map Jb.pieces = ((List.range J.length).map (jat J)).map Jb.pieces := by rw [map_jat]
  rw [this, List.map_map]
  unfold leftL
  apply List.map_congr_left
  intro i _
  rw [cntS_zero]
  show (jat J i).pieces - ((0 : Nat) : Int) = (jat J i).pieces
  omega
end Sc
