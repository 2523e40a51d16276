/-
  Plain mathematics of the layer 'schedule': what a plan sends in each slot; what is late by it. No program in sight.
-/
import Derived.Test.YtheioedggjbphaaScO
import Derived.Test.YtheioedggjbphaaScR
set_option linter.unusedVariables false
namespace Sc
/-- the job that has a slot -/
def asg (J : List Jb) (f : Int) (m : Nat) : Option Nat := best J f (f + m) (planS J f m).1
def cntS (J : List Jb) (f : Int) (m i : Nat) : Nat := at_ (planS J f m).1 i
theorem planS_clen (J : List Jb) (f : Int) : ∀ k, (planS J f k).1.length = J.length
  | 0 => by simp [planS]
  | k + 1 => by
    have ih := planS_clen J f k
    show (pstep J f (planS J f k) (f + k)).1.length = _
    cases hb : best J f (f + k) (planS J f k).1 with
    | none => rw [pstep_none hb]; exact ih
    | some b => rw [pstep_some hb]; simpa using ih
theorem asg_some {J : List Jb} {f : Int} {m b : Nat} (h : asg J f m = some b) : b < J.length ∧ rdy J f b ≤ f + m ∧ f + m ≤ (jat J b).due ∧ (cntS J f m b : Int) < (jat J b).pieces := by
  obtain ⟨h1, h2, h3⟩ := best_some.1 h
  unfold wts at h2
  simp only [decide_eq_true_eq] at h2
  exact ⟨h1, h2.1, h2.2.1, h2.2.2⟩
theorem asg_le {J : List Jb} {f : Int} {m b x : Nat} (h : asg J f m = some b) (hx : x < J.length) (h1 : rdy J f x ≤ f + m) (h2 : f + m ≤ (jat J x).due) (h3 : (cntS J f m x : Int) < (jat J x).pieces) : le J b x :=
  (best_some.1 h).2.2 x hx (by unfold wts; simp only [decide_eq_true_eq]; exact ⟨h1, h2, h3⟩)
theorem asg_wait {J : List Jb} {f : Int} {m x : Nat} (hx : x < J.length) (h1 : rdy J f x ≤ f + m) (h2 : f + m ≤ (jat J x).due) (h3 : (cntS J f m x : Int) < (jat J x).pieces) : ∃ b, asg J f m = some b ∧ le J b x := by
  cases e : asg J f m with
  | none =>
    have := best_none.1 e x hx
    unfold wts at this
    simp only [decide_eq_false_iff_not] at this
    exact absurd ⟨h1, h2, h3⟩ this
  | some b => exact ⟨b, rfl, asg_le e hx h1 h2 h3⟩
theorem cntS_zero (J : List Jb) (f : Int) (i : Nat) : cntS J f 0 i = 0 := at_repl _ _
theorem cntS_yes {J : List Jb} {f : Int} {m i : Nat} (h : asg J f m = some i) : cntS J f (m + 1) i = cntS J f m i + 1 := by
  show at_ (pstep J f (planS J f m) (f + m)).1 i = _
  rw [pstep_some (b := i) h]
  dsimp only
  rw [at_set (by rw [planS_clen]; exact (asg_some h).1), if_pos rfl]
  rfl
theorem cntS_no {J : List Jb} {f : Int} {m i : Nat} (h : asg J f m ≠ some i) : cntS J f (m + 1) i = cntS J f m i := by
  show at_ (pstep J f (planS J f m) (f + m)).1 i = _
  cases hb : asg J f m with
  | none => rw [pstep_none hb]; rfl
  | some b =>
    rw [pstep_some (b := b) hb]
    dsimp only
    rw [at_set (by rw [planS_clen]; exact (asg_some hb).1), if_neg (fun e => h (by rw [hb, e]))]
    rfl
theorem cntS_step (J : List Jb) (f : Int) (m i : Nat) : cntS J f m i ≤ cntS J f (m + 1) i := by
  by_cases h : asg J f m = some i
  · rw [cntS_yes h]; omega
  · rw [cntS_no h]; omega
theorem cntS_mono {J : List Jb} {f : Int} {i m k : Nat} (h : m ≤ k) : cntS J f m i ≤ cntS J f k i := by
  obtain ⟨d, rfl⟩ := Nat.exists_eq_add_of_le h
  clear h
  induction d with
  | zero => exact Nat.le_refl _
  | succ d ih => exact Nat.le_trans ih (cntS_step J f (m + d) i)
theorem cntS_lt {J : List Jb} {f : Int} {i m k : Nat} (h : asg J f m = some i) (hk : m < k) : cntS J f m i < cntS J f k i := by
  have h1 := cntS_yes h
  have h2 := cntS_mono (J := J) (f := f) (i := i) (show m + 1 ≤ k from hk)
  omega
theorem cntS_ex {J : List Jb} {f : Int} {i p : Nat} : ∀ {k : Nat}, p < cntS J f k i → ∃ m, m < k ∧ asg J f m = some i ∧ cntS J f m i = p
  | 0, h => by rw [cntS_zero] at h; omega
  | k + 1, h => by
    by_cases e : asg J f k = some i
    · by_cases e2 : p < cntS J f k i
      · obtain ⟨m, h1, h2⟩ := cntS_ex e2
        exact ⟨m, by omega, h2⟩
      · rw [cntS_yes e] at h
        exact ⟨k, by omega, e, by omega⟩
    · rw [cntS_no e] at h
      obtain ⟨m, h1, h2⟩ := cntS_ex h
      exact ⟨m, by omega, h2⟩
theorem cntS_le {J : List Jb} (hv : ∀ j ∈ J, jobB j = true) (f : Int) (m : Nat) {i : Nat} (hi : i < J.length) : (cntS J f m i : Int) ≤ (jat J i).pieces := (planS_ci hv f m).le i hi
theorem out_yes {J : List Jb} {f : Int} {m b : Nat} (h : asg J f m = some b) : (planS J f (m + 1)).2 = (planS J f m).2 ++ [⟨f + m, b, cntS J f m b⟩] := by
  show (pstep J f (planS J f m) (f + m)).2 = _
  rw [pstep_some (b := b) h]
  rfl
theorem out_no {J : List Jb} {f : Int} {m : Nat} (h : asg J f m = none) : (planS J f (m + 1)).2 = (planS J f m).2 := by
  show (pstep J f (planS J f m) (f + m)).2 = _
  rw [pstep_none h]
theorem mem_out {J : List Jb} {f : Int} {s : Sn} : ∀ {k : Nat}, s ∈ (planS J f k).2 ↔ ∃ m b, m < k ∧ asg J f m = some b ∧ s = ⟨f + m, b, cntS J f m b⟩
  | 0 => ⟨fun h => (by cases h), fun ⟨m, b, h, _⟩ => absurd h (Nat.not_lt_zero _)⟩
  | k + 1 => by
    cases e : asg J f k with
    | none =>
      rw [out_no e, mem_out]
      constructor
      · rintro ⟨m, b, h1, h2⟩; exact ⟨m, b, by omega, h2⟩
      · rintro ⟨m, b, h1, h2, h3⟩
        by_cases hm : m = k
        · subst hm; rw [e] at h2; cases h2
        · exact ⟨m, b, by omega, h2, h3⟩
    | some c =>
      rw [out_yes e, List.mem_append, mem_out, List.mem_singleton]
      constructor
      · rintro (⟨m, b, h1, h2⟩ | rfl)
        · exact ⟨m, b, by omega, h2⟩
        · exact ⟨k, c, Nat.lt_succ_self _, e, rfl⟩
      · rintro ⟨m, b, h1, h2, h3⟩
        by_cases hm : m = k
        · subst hm
          rw [e] at h2; cases h2
          exact .inr h3
        · exact .inl ⟨m, b, by omega, h2, h3⟩
theorem rise_iff {l : List Sn} : ∀ {last : Int}, rise last l = true ↔ ((∀ s ∈ l, last < s.slot ∧ s.slot < 400) ∧ l.Pairwise (fun a b => a.slot < b.slot)) := by
  induction l with
  | nil => intro last; simp [rise]
  | cons s l ih =>
    intro last
    unfold rise
    rw [Bool.and_eq_true, ih, decide_eq_true_eq, List.pairwise_cons]
    constructor
    · rintro ⟨h1, h2, h3⟩
      refine ⟨fun x hx => ?_, fun x hx => (h2 x hx).1, h3⟩
      rcases List.mem_cons.1 hx with rfl | hx
      · exact h1
      · have := h2 x hx; omega
    · rintro ⟨h1, h2, h3⟩
      exact ⟨h1 s List.mem_cons_self, fun x hx => ⟨h2 x hx, (h1 x (List.mem_cons_of_mem _ hx)).2⟩, h3⟩
theorem out_up (J : List Jb) (f : Int) : ∀ k, (planS J f k).2.Pairwise (fun a b => a.slot < b.slot)
  | 0 => List.Pairwise.nil
  | k + 1 => by
    cases e : asg J f k with
    | none => rw [out_no e]; exact out_up J f k
    | some c =>
      rw [out_yes e, List.pairwise_append]
      refine ⟨out_up J f k, List.pairwise_singleton _ _, fun x hx y hy => ?_⟩
      rw [List.mem_singleton] at hy
      subst hy
      obtain ⟨m, b, h1, h2, rfl⟩ := mem_out.1 hx
      show f + (m : Int) < f + (k : Int)
      omega
theorem plan_rise {J : List Jb} {f : Int} (h0 : 0 ≤ f) : riseB (planF J f) = true := by
  refine rise_iff.2 ⟨fun s hs => ?_, out_up J f _⟩
  obtain ⟨m, b, h1, h2, rfl⟩ := mem_out.1 hs
  dsimp only
  omega
theorem plan_names {J : List Jb} {f : Int} (h0 : 0 ≤ f) : namesB J (planF J f) = true := by
  unfold namesB
  rw [plan_rise h0, Bool.true_and, List.all_eq_true]
  intro s hs
  obtain ⟨m, b, h1, h2, rfl⟩ := mem_out.1 hs
  obtain ⟨a1, a2, a3, a4⟩ := asg_some h2
  unfold nameB
  simp only [decide_eq_true_eq, Int.toNat_natCast]
  omega
/-- how many slots a plan may have -/
def KK (f : Int) : Nat := (400 - f).toNat
theorem got_plan {J : List Jb} {f : Int} {i p : Nat} : gotF J (planF J f) i p = true ↔ p < cntS J f (KK f) i := by
  unfold gotF
  rw [List.any_eq_true]
  constructor
  · rintro ⟨s, hs, h⟩
    obtain ⟨m, b, h1, h2, rfl⟩ := mem_out.1 hs
    simp only [Bool.and_eq_true, decide_eq_true_eq] at h
    obtain ⟨_, h3, h4⟩ := h
    have e1 : b = i := by omega
    subst e1
    have := cntS_lt h2 h1
    unfold KK
    omega
  · intro h
    obtain ⟨m, h1, h2, h3⟩ := cntS_ex h
    refine ⟨_, mem_out.2 ⟨m, i, h1, h2, rfl⟩, ?_⟩
    obtain ⟨a1, a2, a3, a4⟩ := asg_some h2
    have : (jat J i).ready ≤ f + m := by unfold rdy at a2; omega
    simp [inT, h3, this, a3]
theorem lateB_no {J : List Jb} {l : List Sn} {i : Nat} : lateB J l i = false ↔ ∀ p : Nat, (p : Int) < (jat J i).pieces → gotF J l i p = true := by
  unfold lateB
  rw [List.any_eq_false]
  constructor
  · intro h p hp
    have := h p (List.mem_range.2 (by omega))
    simpa using this
  · intro h p hp
    rw [h p (by have := List.mem_range.1 hp; omega)]
    simp
theorem lateB_plan {J : List Jb} {f : Int} {i : Nat} : lateB J (planF J f) i = false ↔ (jat J i).pieces ≤ (cntS J f (KK f) i : Int) := by
  rw [lateB_no]
  constructor
  · intro h
    by_cases e : (jat J i).pieces ≤ (cntS J f (KK f) i : Int)
    · exact e
    · have := got_plan.1 (h (cntS J f (KK f) i) (by omega)); omega
  · intro h p hp
    exact got_plan.2 (by omega)
theorem late_nil {J : List Jb} {l : List Sn} : lateF J l = [] ↔ ∀ i, i < J.length → lateB J l i = false := by
  unfold lateF
  rw [List.map_eq_nil_iff, List.filter_eq_nil_iff]
  exact ⟨fun h i hi => by simpa using h i (List.mem_range.2 hi), fun h i hi => by rw [h i (List.mem_range.1 hi)]; simp⟩
theorem pair_ne {J : List Jb} {f : Int} {m m' b : Nat} (h : asg J f m = some b) (h' : asg J f m' = some b) (e : cntS J f m b = cntS J f m' b) : m = m' := by
  rcases Nat.lt_trichotomy m m' with h1 | h1 | h1
  · have := cntS_lt h h1; omega
  · exact h1
  · have := cntS_lt h' h1; omega
theorem plan_check {J : List Jb} {f : Int} : checkB J (planF J f) = true := by
  refine check_yes fun k hk => ?_
  have hm := List.getElem_mem hk
  obtain ⟨m, b, h1, h2, h3⟩ := mem_out.1 hm
  rw [okAt_at hk (i := b) (p := cntS J f m b) (by rw [h3]) (by rw [h3])]
  obtain ⟨a1, a2, a3, a4⟩ := asg_some h2
  have hin : inT J (planF J f)[k] = true := by
    have : (jat J b).ready ≤ f + m := by unfold rdy at a2; omega
    rw [h3]; simp [inT, this, a3]
  rw [hin, Bool.true_and, Bool.not_eq_true']
  unfold gotF
  rw [List.any_eq_false]
  intro s hs hc
  simp only [Bool.and_eq_true, decide_eq_true_eq] at hc
  obtain ⟨_, hc1, hc2⟩ := hc
  obtain ⟨m', b', g1, g2, g3⟩ := mem_out.1 (List.mem_of_mem_take hs)
  rw [g3] at hc1 hc2
  dsimp only at hc1 hc2
  have e1 : b' = b := by omega
  subst e1
  have e2 := pair_ne h2 g2 (by omega)
  subst e2
  have hup := out_up J f (400 - f).toNat
  have hlt : ∀ s ∈ (planF J f).take k, s.slot < (planF J f)[k].slot := by
    intro s hs
    obtain ⟨i, hi, rfl⟩ := List.mem_iff_getElem.1 hs
    rw [List.length_take] at hi
    rw [List.getElem_take]
    exact (List.pairwise_iff_getElem.1 hup) i k (by have h9 := (Nat.lt_min.1 hi).2; exact h9) hk (Nat.lt_min.1 hi).1
  have := hlt s hs
  rw [g3, h3] at this
  exact absurd this (Int.lt_irrefl _)
end Sc
