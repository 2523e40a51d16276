/-
  Plain mathematics of the layer 'schedule': the job that is due first first is late only where an interval is overloaded. No program in sight.
-/
import Derived.Test.YtheioedggjbphaaScX
set_option linter.unusedVariables false
namespace Sc
theorem nodup_sub {α : Type} [DecidableEq α] : ∀ (xs l : List α), xs.Nodup → (∀ x ∈ xs, x ∈ l) → xs.length ≤ l.length
  | [], l, _, _ => Nat.zero_le _
  | x :: xs, l, hn, hs => by
    rw [List.nodup_cons] at hn
    have hx := hs x List.mem_cons_self
    have ih := nodup_sub xs (l.erase x) hn.2 (fun y hy => (List.mem_erase_of_ne (show y ≠ x from fun e => hn.1 (by rw [← e]; exact hy))).2 (hs y (List.mem_cons_of_mem _ hy)))
    have hl := List.length_erase_of_mem hx
    have hp := List.length_pos_of_mem hx
    rw [List.length_cons]
    omega
theorem map_jat (J : List Jb) : (List.range J.length).map (jat J) = J := by
  apply List.ext_getElem
  · simp
  · intro i h1 h2
    rw [List.getElem_map, List.getElem_range, jat_get h2]
/-- the pieces of some jobs -/
def prsL (J : List Jb) (L : List Nat) : List (Nat × Nat) := L.flatMap (fun i => (List.range (jat J i).pieces.toNat).map (fun p => (i, p)))
def prs (J : List Jb) (q : Nat → Bool) : List (Nat × Nat) := prsL J ((List.range J.length).filter q)
theorem prs_mem {J : List Jb} {q : Nat → Bool} {i p : Nat} : (i, p) ∈ prs J q ↔ i < J.length ∧ q i = true ∧ (p : Int) < (jat J i).pieces := by
  unfold prs prsL
  rw [List.mem_flatMap]
  constructor
  · rintro ⟨k, hk, h⟩
    rw [List.mem_map] at h
    obtain ⟨p', hp, e⟩ := h
    cases e
    rw [List.mem_filter, List.mem_range] at hk
    rw [List.mem_range] at hp
    exact ⟨hk.1, hk.2, by omega⟩
  · rintro ⟨h1, h2, h3⟩
    exact ⟨i, List.mem_filter.2 ⟨List.mem_range.2 h1, h2⟩, List.mem_map.2 ⟨p, List.mem_range.2 (by omega), rfl⟩⟩
theorem prs_nodup (J : List Jb) (q : Nat → Bool) : (prs J q).Nodup := by
  unfold prs prsL List.Nodup
  rw [List.pairwise_flatMap]
  refine ⟨fun i _ => ?_, ?_⟩
  · rw [List.pairwise_map]
    exact List.nodup_range.imp (fun h e => h (by cases e; rfl))
  · refine (List.nodup_range.filter q).imp (fun h x hx y hy e => h ?_)
    rw [List.mem_map] at hx hy
    obtain ⟨_, _, rfl⟩ := hx
    obtain ⟨_, _, rfl⟩ := hy
    cases e; rfl
theorem sum_len {J : List Jb} {Q : Jb → Bool} : ∀ L : List Nat, (∀ i ∈ L, 0 ≤ (jat J i).pieces) → sumP ((L.map (jat J)).filter Q) = ((prsL J (L.filter (fun i => Q (jat J i)))).length : Int)
  | [], _ => rfl
  | i :: L, h => by
    have ih := sum_len (Q := Q) L (fun x hx => h x (List.mem_cons_of_mem _ hx))
    have h0 := h i List.mem_cons_self
    rw [List.map_cons, sumP_filter_cons, ih, List.filter_cons]
    by_cases e : Q (jat J i) = true
    · rw [if_pos e, if_pos e]
      unfold prsL
      rw [List.flatMap_cons, List.length_append, List.length_map, List.length_range]
      omega
    · rw [if_neg e, if_neg e]
      omega
theorem pieces_nn {J : List Jb} (hv : ∀ j ∈ J, jobB j = true) {i : Nat} (hi : i < J.length) : 1 ≤ (jat J i).pieces := by
  rw [jat_get hi]
  exact (jobB_iff.1 (hv _ (List.getElem_mem hi))).2.2.2.1
theorem job_facts {J : List Jb} (hv : ∀ j ∈ J, jobB j = true) {i : Nat} (hi : i < J.length) : 0 ≤ (jat J i).ready ∧ (jat J i).ready ≤ (jat J i).due ∧ (jat J i).due < 400 ∧ 1 ≤ (jat J i).pieces := by
  rw [jat_get hi]
  have := jobB_iff.1 (hv _ (List.getElem_mem hi))
  omega
def qab (J : List Jb) (f a b : Int) (i : Nat) : Bool := decide (a ≤ rdy J f i ∧ (jat J i).due ≤ b)
theorem load_len {J : List Jb} (hv : ∀ j ∈ J, jobB j = true) (f a b : Int) : loadP f a b J = ((prs J (qab J f a b)).length : Int) := by
  have := sum_len (J := J) (Q := fun j => decide (a ≤ max j.ready f ∧ j.due ≤ b)) (List.range J.length) (fun i hi => by have := pieces_nn hv (List.mem_range.1 hi); omega)
  rw [map_jat] at this
  unfold loadP
  rw [this]
  rfl
/-- a plan by which no job is late finds no interval overloaded -/
theorem no_over {J : List Jb} {l : List Sn} {f a b : Int} (hv : ∀ j ∈ J, jobB j = true) (hn : namesB J l = true) (hf : ∀ s ∈ l, f ≤ s.slot) (hl : ∀ i, i < J.length → lateB J l i = false) (hab : a ≤ b + 1) : ¬ over J f a b := by
  unfold over
  rw [load_len hv]
  have hr : l.Pairwise (fun a b => a.slot < b.slot) := (rise_iff.1 (show rise (-1) l = true by unfold namesB riseB at hn; rw [Bool.and_eq_true] at hn; exact hn.1)).2
  obtain ⟨ls, hls⟩ : ∃ ls, l.filter (fun s => decide (a ≤ s.slot ∧ s.slot ≤ b)) = ls := ⟨_, rfl⟩
  have h1 : (prs J (qab J f a b)).length ≤ (ls.map (fun s => (s.job.toNat, s.piece.toNat))).length := by
    refine nodup_sub _ _ (prs_nodup _ _) ?_
    rintro ⟨i, p⟩ hp
    obtain ⟨g1, g2, g3⟩ := prs_mem.1 hp
    have hg := lateB_no.1 (hl i g1) p g3
    unfold gotF at hg
    rw [List.any_eq_true] at hg
    obtain ⟨s, hs, hc⟩ := hg
    simp only [Bool.and_eq_true, decide_eq_true_eq] at hc
    obtain ⟨c1, c2, c3⟩ := hc
    have hfs := hf s hs
    unfold inT at c1
    simp only [decide_eq_true_eq] at c1
    rw [c2, Int.toNat_natCast] at c1
    unfold qab rdy at g2
    simp only [decide_eq_true_eq] at g2
    refine List.mem_map.2 ⟨s, ?_, by rw [c2, c3]; rfl⟩
    rw [← hls, List.mem_filter]
    refine ⟨hs, ?_⟩
    simp only [decide_eq_true_eq]
    omega
  have h2 : (ls.map Sn.slot).length ≤ ((List.range (b - a + 1).toNat).map (fun d : Nat => a + (d : Int))).length := by
    refine nodup_sub _ _ ?_ ?_
    · unfold List.Nodup
      rw [List.pairwise_map, ← hls]
      exact (hr.filter _).imp (fun h e => by omega)
    · intro x hx
      obtain ⟨s, hs, rfl⟩ := List.mem_map.1 hx
      rw [← hls, List.mem_filter] at hs
      have := hs.2
      simp only [decide_eq_true_eq] at this
      exact List.mem_map.2 ⟨(s.slot - a).toNat, List.mem_range.2 (by omega), by omega⟩
  rw [List.length_map] at h1 h2
  rw [List.length_map, List.length_range] at h2
  omega
theorem last_bad (P : Nat → Prop) : ∀ n : Nat, ∃ a, a ≤ n ∧ (∀ m, a ≤ m → m < n → P m) ∧ (a = 0 ∨ ∃ k, a = k + 1 ∧ ¬ P k)
  | 0 => ⟨0, Nat.le_refl _, fun m _ h => absurd h (Nat.not_lt_zero _), .inl rfl⟩
  | n + 1 => by
    by_cases h : P n
    · obtain ⟨a, h1, h2, h3⟩ := last_bad P n
      refine ⟨a, by omega, fun m hm hn => ?_, h3⟩
      by_cases e : m = n
      · rw [e]; exact h
      · exact h2 m hm (by omega)
    · exact ⟨n + 1, Nat.le_refl _, fun m h1 h2 => by omega, .inr ⟨n, rfl, h⟩⟩
/-- a late job: an interval that is overloaded -/
theorem edf_over {J : List Jb} {f : Int} (hv : ∀ j ∈ J, jobB j = true) (h0 : 0 ≤ f) {i : Nat} (hi : i < J.length) (hd : f ≤ (jat J i).due) (hlate : (cntS J f (KK f) i : Int) < (jat J i).pieces) :
    ∃ a b, f ≤ a ∧ a ≤ b ∧ b < 400 ∧ over J f a b := by
  obtain ⟨j1, j2, j3, j4⟩ := job_facts hv hi
  have hr1 : f ≤ rdy J f i := by unfold rdy; omega
  have hr2 : rdy J f i ≤ (jat J i).due := by unfold rdy; omega
  obtain ⟨mr, hmr⟩ : ∃ m : Nat, f + m = rdy J f i := ⟨(rdy J f i - f).toNat, by omega⟩
  obtain ⟨mb, hmb⟩ : ∃ m : Nat, f + m = (jat J i).due := ⟨((jat J i).due - f).toNat, by omega⟩
  have hKb : mb < KK f := by unfold KK; omega
  obtain ⟨ma, a1, a2, a3⟩ := last_bad (fun m => ∃ j, asg J f m = some j ∧ (jat J j).due ≤ (jat J i).due) mr
  have hgood : ∀ m, ma ≤ m → m ≤ mb → ∃ j, asg J f m = some j ∧ (jat J j).due ≤ (jat J i).due := by
    intro m h1 h2
    by_cases e : m < mr
    · exact a2 m h1 e
    · obtain ⟨j, h3, h4⟩ := asg_wait (J := J) (f := f) (m := m) hi (by omega) (by omega) (by
        have := cntS_mono (J := J) (f := f) (i := i) (show m ≤ KK f by omega)
        omega)
      exact ⟨j, h3, by rw [le_iff] at h4; omega⟩
  have hrd : ∀ m j, ma ≤ m → m ≤ mb → asg J f m = some j → (jat J j).due ≤ (jat J i).due → f + (ma : Int) ≤ rdy J f j := by
    intro m j h1 h2 h3 h4
    rcases a3 with rfl | ⟨k, rfl, hk⟩
    · unfold rdy; omega
    · by_cases e : f + ((k + 1 : Nat) : Int) ≤ rdy J f j
      · exact e
      · obtain ⟨b1, b2, b3, b4⟩ := asg_some h3
        obtain ⟨c, c1, c2⟩ := asg_wait (J := J) (f := f) (m := k) b1 (by omega) (by omega) (by
          have := cntS_mono (J := J) (f := f) (i := j) (show k ≤ m by omega)
          omega)
        exact absurd ⟨c, c1, by rw [le_iff] at c2; omega⟩ hk
  refine ⟨f + ma, (jat J i).due, by omega, by omega, j3, ?_⟩
  unfold over
  rw [load_len hv]
  have hi0 : (i, ((jat J i).pieces - 1).toNat) ∈ prs J (qab J f (f + ma) (jat J i).due) := by
    refine prs_mem.2 ⟨hi, ?_, by omega⟩
    unfold qab
    simp only [decide_eq_true_eq]
    omega
  obtain ⟨g, hg⟩ : ∃ g : Nat → Nat, ∀ m, ma ≤ m → m ≤ mb → asg J f m = some (g m) ∧ (jat J (g m)).due ≤ (jat J i).due :=
    ⟨fun m => (asg J f m).getD 0, fun m h1 h2 => by
      obtain ⟨j, e1, e2⟩ := hgood m h1 h2
      have e3 : (asg J f m).getD 0 = j := by rw [e1]; rfl
      dsimp only
      rw [e3]
      exact ⟨e1, e2⟩⟩
  have h1 : ((i, ((jat J i).pieces - 1).toNat) :: (List.range (mb + 1 - ma)).map (fun d => (g (ma + d), cntS J f (ma + d) (g (ma + d))))).length ≤ (prs J (qab J f (f + ma) (jat J i).due)).length := by
    refine nodup_sub _ _ ?_ ?_
    · rw [List.nodup_cons]
      refine ⟨fun h => ?_, ?_⟩
      · obtain ⟨d, hd1, hd2⟩ := List.mem_map.1 h
        rw [List.mem_range] at hd1
        obtain ⟨e1, e2⟩ := hg (ma + d) (by omega) (by omega)
        simp only [Prod.mk.injEq] at hd2
        obtain ⟨d1, d2⟩ := hd2
        rw [d1] at e1 d2
        have := cntS_lt e1 (show ma + d < KK f by omega)
        omega
      · unfold List.Nodup
        rw [List.pairwise_map]
        refine List.Pairwise.imp_of_mem ?_ (List.nodup_range (n := mb + 1 - ma))
        intro x y hx hy hne e
        rw [List.mem_range] at hx hy
        simp only [Prod.mk.injEq] at e
        obtain ⟨e1, e2⟩ := e
        have p1 := (hg (ma + x) (by omega) (by omega)).1
        have p2 := (hg (ma + y) (by omega) (by omega)).1
        rw [← e1] at p2 e2
        have := pair_ne p1 p2 e2
        omega
    · rintro ⟨j, p⟩ hx
      rcases List.mem_cons.1 hx with e | hx
      · rw [e]; exact hi0
      · obtain ⟨d, hd1, hd2⟩ := List.mem_map.1 hx
        rw [List.mem_range] at hd1
        simp only [Prod.mk.injEq] at hd2
        obtain ⟨rfl, rfl⟩ := hd2
        obtain ⟨e1, e2⟩ := hg (ma + d) (by omega) (by omega)
        have hq := hrd (ma + d) _ (by omega) (by omega) e1 e2
        obtain ⟨b1, b2, b3, b4⟩ := asg_some e1
        refine prs_mem.2 ⟨b1, ?_, b4⟩
        unfold qab
        simp only [decide_eq_true_eq]
        exact ⟨hq, e2⟩
  rw [List.length_cons, List.length_map, List.length_range] at h1
  omega
theorem plan_from {J : List Jb} {f : Int} : ∀ s ∈ planF J f, f ≤ s.slot := by
  intro s hs
  obtain ⟨m, b, h1, h2, rfl⟩ := mem_out.1 hs
  dsimp only
  omega
/-- no job is late by some plan: none by the job that is due first first -/
theorem best_law {J : List Jb} {f : Int} {l : List Sn} (hv : ∀ j ∈ J, jobB j = true) (h0 : 0 ≤ f) (hn : namesB J l = true) (hf : ∀ s ∈ l, f ≤ s.slot) (hl : lateF J l = []) : lateF J (planF J f) = [] := by
  rw [late_nil] at hl ⊢
  intro i hi
  rw [lateB_plan]
  by_cases e : (jat J i).pieces ≤ (cntS J f (KK f) i : Int)
  · exact e
  · exfalso
    obtain ⟨j1, j2, j3, j4⟩ := job_facts hv hi
    by_cases hd : f ≤ (jat J i).due
    · obtain ⟨a, b, c1, c2, c3, c4⟩ := edf_over hv h0 hi hd (by omega)
      exact no_over hv hn hf hl (by omega) c4
    · have hg := lateB_no.1 (hl i hi) 0 (by omega)
      unfold gotF at hg
      rw [List.any_eq_true] at hg
      obtain ⟨s, hs, hc⟩ := hg
      simp only [Bool.and_eq_true, decide_eq_true_eq] at hc
      obtain ⟨c1, c2, c3⟩ := hc
      unfold inT at c1
      simp only [decide_eq_true_eq] at c1
      rw [c2, Int.toNat_natCast] at c1
      have := hf s hs
      omega
/-- some job is late by the job that is due first first exactly if an interval is overloaded -/
theorem proof_law {J : List Jb} {f : Int} (hv : ∀ j ∈ J, jobB j = true) (h0 : 0 ≤ f) (hd : ∀ i, i < J.length → f ≤ (jat J i).due) : lateF J (planF J f) ≠ [] ↔ ∃ a b, f ≤ a ∧ a ≤ b ∧ b < 400 ∧ over J f a b := by
  constructor
  · intro h
    by_cases hx : ∃ i, i < J.length ∧ lateB J (planF J f) i = true
    · obtain ⟨i, hi, hl⟩ := hx
      refine edf_over hv h0 hi (hd i hi) ?_
      by_cases e : (jat J i).pieces ≤ (cntS J f (KK f) i : Int)
      · rw [lateB_plan.2 e] at hl; cases hl
      · omega
    · exact absurd (late_nil.2 fun i hi => Bool.eq_false_iff.2 fun e => hx ⟨i, hi, e⟩) h
  · rintro ⟨a, b, c1, c2, c3, c4⟩ h
    exact no_over hv (plan_names h0) plan_from (late_nil.1 h) (by omega) c4
end Sc
