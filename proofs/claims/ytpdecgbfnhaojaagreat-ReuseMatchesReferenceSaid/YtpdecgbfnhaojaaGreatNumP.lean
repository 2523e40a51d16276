/-
  Plain law of a row more; the walk of 'NumberRoom'.
-/
import Derived.Test.YtpdecgbfnhaojaaGreatNumO
namespace Go.Proofs.YtpdecgbfnhaojaaGreat
open Go.RowKit Nb Sk Go.Sort

/-- Take, where it takes -/
theorem take_cases (l : List Us) (st kd now free : Int) :
    (∃ e, take l st kd now free = ([], zeroN, e) ∧ e ≠ 0) ∨
    (∃ x, take l st kd now free = (l ++ [⟨x, now, free⟩], x, 0) ∧ next l st kd now = (x, 0) ∧ asked l st kd now = 0 ∧ now < free ∧ tm free = true ∧ l.length < 200 ∧ ∃ r, frees l st kd now = x :: r) := by
  by_cases h1 : (next l st kd now).2 = 1 ∨ free ≤ now ∨ tm free = false
  · left; exact ⟨1, take_arg rfl h1, by simp⟩
  · by_cases h2 : 200 ≤ l.length
    · left; exact ⟨2, take_limit rfl h1 h2, by simp⟩
    · by_cases h3 : (next l st kd now).2 = 0
      · right
        refine ⟨(next l st kd now).1, take_ok rfl h1 h2 h3, ?_, ?_⟩
        · rw [← h3]
        · simp only [not_or, Int.not_le, Bool.not_eq_false] at h1
          by_cases ha : asked l st kd now = 0
          · refine ⟨ha, h1.2.1, h1.2.2, by omega, ?_⟩
            cases hf : frees l st kd now with
            | nil => rw [next_none ha hf] at h3; simp at h3
            | cons x r => rw [next_some ha hf]; exact ⟨r, rfl⟩
          · rw [next_err ha] at h3; exact absurd h3 ha
      · left; exact ⟨_, take_err rfl h1 h2 h3, h3⟩

theorem frees_mem {l : List Us} {st kd now : Int} {x : Nm} {r : List Nm} (h : RowsOk l) (hf : frees l st kd now = x :: r) : x.st = st ∧ x.kd = kd ∧ 1 ≤ x.nu ∧ x.nu ≤ 99 ∧ used l x now = false := by
  have hm : x ∈ frees l st kd now := by rw [hf]; simp
  unfold frees at hm
  rw [List.mem_filter] at hm
  obtain ⟨h1, h2⟩ := hm
  obtain ⟨n, hn, rfl⟩ := List.mem_map.1 h1
  have hn' := (turn_perm (lastNu_range h st kd)).mem_iff.1 hn
  obtain ⟨i, hi, rfl⟩ := List.mem_map.1 hn'
  have := List.mem_range.1 hi
  exact ⟨rfl, rfl, by dsimp only; omega, by dsimp only; omega, by simpa using h2⟩

/-- the rows with one more are valid -/
theorem more_rows {l : List Us} (h : RowsOk l) {x : Nm} {now free : Int} (hlen : l.length < 200) (hx : okN x = true) (hnow : tm now = true) (hf : now < free) (hfree : tm free = true) (hlast : ∀ u, l.getLast? = some u → u.fr ≤ now)
    (hu : used l x now = false) : RowsOk (l ++ [⟨x, now, free⟩]) := by
  have hn := tm_iff.1 hnow
  have hfr := tm_iff.1 hfree
  have hall : ∀ u ∈ l, u.fr ≤ now := by
    intro u hu'
    cases hl : l.getLast? with
    | none => rw [List.getLast?_eq_none_iff] at hl; subst hl; cases hu'
    | some v =>
      have hv := hlast v hl
      have hne : l ≠ [] := by rintro rfl; cases hu'
      rw [List.getLast?_eq_some_getLast hne] at hl
      obtain ⟨i, hi, rfl⟩ := List.getElem_of_mem hu'
      have hv2 : v = l[l.length - 1]'(by have := List.length_pos_iff.2 hne; omega) := by
        rw [← Option.some.inj hl, List.getLast_eq_getElem]
      rcases Nat.lt_or_ge i (l.length - 1) with h3 | h3
      · have := List.pairwise_iff_getElem.1 h.mono i (l.length - 1) hi (by omega) h3
        rw [hv2] at hv
        omega
      · have : i = l.length - 1 := by omega
        subst this
        rw [hv2] at hv
        exact hv
  refine ⟨by simp; omega, ?_, ?_, ?_⟩
  · intro u hu'
    rcases List.mem_append.1 hu' with h1 | h1
    · exact h.ok u h1
    · simp at h1; subst h1; exact ⟨hx, hn.1, hf, hfr.2⟩
  · rw [List.pairwise_append]
    refine ⟨h.mono, by simp, ?_⟩
    intro a ha b hb
    simp at hb; subst hb
    exact hall a ha
  · rw [List.pairwise_append]
    refine ⟨h.disj, by simp, ?_⟩
    intro a ha b hb hab
    simp at hb; subst hb
    dsimp only at hab ⊢
    unfold used at hu
    rw [List.any_eq_false] at hu
    have := hu a ha
    simp only [hab, decide_true, Bool.true_and] at this
    have h2 : ¬ (a.fr ≤ now ∧ now < a.fe) := fun h' => this (cov_iff.2 h')
    have := hall a ha
    omega

theorem filter_less {α : Type} [DecidableEq α] (p : α → Bool) (a : α) : ∀ l : List α, l.Nodup → a ∈ l → p a = true → (l.filter fun y => p y && decide (y ≠ a)).length + 1 = (l.filter p).length
  | [], _, h, _ => by cases h
  | b :: l, hn, h, hp => by
    obtain ⟨hb, hn'⟩ := List.nodup_cons.1 hn
    by_cases hba : b = a
    · subst hba
      rw [List.filter_cons_of_neg (by simp), List.filter_cons_of_pos hp, List.length_cons]
      congr 2
      refine List.filter_congr fun y hy => ?_
      have : y ≠ b := by rintro rfl; exact hb hy
      simp [this]
    · have ha : a ∈ l := by rcases List.mem_cons.1 h with h | h; · exact absurd h.symm hba
                            · exact h
      have ih := filter_less p a l hn' ha hp
      by_cases hpb : p b = true
      · rw [List.filter_cons_of_pos (by simp [hpb, hba]), List.filter_cons_of_pos hpb, List.length_cons, List.length_cons]; omega
      · rw [List.filter_cons_of_neg (by simp [hpb]), List.filter_cons_of_neg hpb]; exact ih

theorem allNu_nodup : allNu.Nodup := by
  have : decide allNu.Nodup = true := by kernel_rfl
  exact of_decide_eq_true this

theorem more_freeN {l : List Us} {st kd now free y : Int} (h1 : 1 ≤ y ∧ y ≤ 99) (hu : used l ⟨st, kd, y⟩ now = false) (hf : now < free) :
    freeN (l ++ [⟨⟨st, kd, y⟩, now, free⟩]) st kd now + 1 = freeN l st kd now := by
  unfold freeN
  rw [← filter_less (fun x => !used l ⟨st, kd, x⟩ now) y allNu allNu_nodup (List.mem_map.2 ⟨(y - 1).toNat, by simp; omega, by omega⟩) (by simp [hu])]
  congr 2
  refine List.filter_congr fun x _ => ?_
  rw [used_snoc]
  have hc : cov ⟨⟨st, kd, y⟩, now, free⟩ now = true := cov_iff.2 ⟨by dsimp only; omega, by dsimp only; omega⟩
  by_cases hxy : x = y
  · subst hxy; simp [hc]
  · have : ¬ ((⟨st, kd, y⟩ : Nm) = ⟨st, kd, x⟩) := by intro e; simp only [Nm.mk.injEq] at e; exact hxy e.2.2.symm
    simp [this, hxy]

theorem more_other {l : List Us} {st kd now free y k2 : Int} (hk : k2 ≠ kd) : freeN (l ++ [⟨⟨st, kd, y⟩, now, free⟩]) st k2 now = freeN l st k2 now := by
  unfold freeN
  congr 1
  refine List.filter_congr fun x _ => ?_
  rw [used_snoc]
  have : ¬ ((⟨st, kd, y⟩ : Nm) = ⟨st, k2, x⟩) := by intro e; simp only [Nm.mk.injEq] at e; exact hk e.2.1.symm
  simp [this]

/-- what Room returns, by numbers in their own order -/
theorem room_freeN {l : List Us} {st kd now : Int} : room l st kd now = if asked l st kd now = 0 then ((freeN l st kd now : Int), 0) else (0, asked l st kd now) := by
  by_cases ha : asked l st kd now = 0
  · rw [if_pos ha, room_ok ha, frees_len (rows_iff.1 (asked_zero ha).1)]
  · rw [if_neg ha, room_err ha]

theorem more_asked {l : List Us} {st kd now free : Int} {x : Nm} (ha : asked l st kd now = 0) (hr : RowsOk (l ++ [⟨x, now, free⟩])) (k2 : Int) : asked (l ++ [⟨x, now, free⟩]) st k2 now = asked l st k2 now := by
  obtain ⟨h1, h2, h3, h4⟩ := asked_zero ha
  by_cases hk : okN ⟨st, k2, 1⟩ = true
  · rw [asked_rest (rows_iff.2 hr) hk h3, asked_rest h1 hk h3]
    have e1 : (l ++ [(⟨x, now, free⟩ : Us)]).getLast? = some ⟨x, now, free⟩ := by simp
    rw [e1]
    dsimp only
    rw [if_neg (by omega)]
    cases hl : l.getLast? with
    | none => rfl
    | some v => dsimp only; rw [if_neg (by have := h4 v hl; omega)]
  · have hk' : okN ⟨st, k2, 1⟩ = false := by simpa using hk
    rw [asked_one (.inr (.inl hk')), asked_one (.inr (.inl hk'))]
end Go.Proofs.YtpdecgbfnhaojaaGreat
