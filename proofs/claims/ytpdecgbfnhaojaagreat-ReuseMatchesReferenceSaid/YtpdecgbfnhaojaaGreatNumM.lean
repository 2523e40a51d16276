/-
  The walk of 'NumberInTurn'.
-/
import Derived.Test.YtpdecgbfnhaojaaGreatNumK
namespace Go.Proofs.YtpdecgbfnhaojaaGreat
open Go.RowKit Nb Sk Go.Sort

theorem fre_cases (st kd last : Int) (us : List Bool) (k : Nat) :
    (fre st kd last us k = [] ∧ ∀ j : Nat, j < k → us[(nth last (j + 1)).toNat]? ≠ some false) ∨
    (∃ s r, s < k ∧ fre st kd last us k = ⟨st, kd, nth last (s + 1)⟩ :: r ∧ ∀ j : Nat, j < s → us[(nth last (j + 1)).toNat]? ≠ some false) := by
  induction k with
  | zero => left; exact ⟨rfl, fun j hj => by omega⟩
  | succ k ih =>
    rcases ih with ⟨h1, h2⟩ | ⟨s, r, hs, h1, h2⟩
    · by_cases h3 : us[(nth last (k + 1)).toNat]? = some false
      · right; exact ⟨k, [], by omega, by rw [fre, h1, if_pos h3]; rfl, h2⟩
      · left
        refine ⟨by rw [fre, h1, if_neg h3]; rfl, fun j hj => ?_⟩
        rcases Nat.lt_or_ge j k with h4 | h4
        · exact h2 j h4
        · obtain rfl : j = k := by omega
          exact h3
    · right; exact ⟨s, _, by omega, by rw [fre, h1]; rfl, h2⟩

/-- a name in use is one that Who finds -/
theorem used_who {l : List Us} {n : Nm} {t : Int} (hr : rows l = true) (hn : okN n = true) (ht : tm t = true) (hu : used l n t = true) : ∃ i : Nat, who l n t = ((i : Int), 0) := by
  rcases who_cases l n t with ⟨_, hb⟩ | ⟨_, _, hno⟩ | ⟨_, i, _, h, _⟩
  · simp [sureBad, hr, hn, ht] at hb
  · exfalso
    obtain ⟨u, hu1, hu2⟩ := List.any_eq_true.1 hu
    have := hno u hu1
    simp only [Bool.and_eq_true, decide_eq_true_eq] at hu2
    have h2 := cov_iff.1 hu2.2
    rw [meets_iff.2 ⟨hu2.1, h2.1, h2.2⟩] at this
    cases this
  · exact ⟨i, h⟩

/-- what Next tells -/
theorem next_cases (l : List Us) (st kd now : Int) :
    (∃ e, next l st kd now = (zeroN, e) ∧ e ≠ 0 ∧ e ≠ 17) ∨
    (next l st kd now = (zeroN, 17) ∧ ∀ j : Nat, j < 99 → ∃ i : Nat, who l ⟨st, kd, nth (lastNu l st kd) (j + 1)⟩ now = ((i : Int), 0)) ∨
    (∃ s : Nat, s < 99 ∧ next l st kd now = (⟨st, kd, nth (lastNu l st kd) (s + 1)⟩, 0) ∧ ∀ j : Nat, j < s → ∃ i : Nat, who l ⟨st, kd, nth (lastNu l st kd) (j + 1)⟩ now = ((i : Int), 0)) := by
  by_cases ha : asked l st kd now = 0
  · right
    obtain ⟨h1, h2, h3, _⟩ := asked_zero ha
    have hrg := lastNu_range (rows_iff.1 h1) st kd
    have h2' := okN_iff.1 h2
    dsimp only at h2'
    have hw : ∀ j : Nat, (usedL l st kd now)[(nth (lastNu l st kd) (j + 1)).toNat]? ≠ some false → ∃ i : Nat, who l ⟨st, kd, nth (lastNu l st kd) (j + 1)⟩ now = ((i : Int), 0) := by
      intro j hj
      have hn1 : 1 ≤ nth (lastNu l st kd) (j + 1) ∧ nth (lastNu l st kd) (j + 1) ≤ 99 := by simp only [nth]; omega
      obtain ⟨m, hm⟩ : ∃ m : Nat, nth (lastNu l st kd) (j + 1) = m := ⟨(nth (lastNu l st kd) (j + 1)).toNat, by omega⟩
      rw [hm] at hj hn1 ⊢
      refine used_who h1 (okN_iff.2 ⟨h2'.1, h2'.2.1, h2'.2.2.1, h2'.2.2.2.1, hn1.1, hn1.2⟩) h3 ?_
      rw [show ((m : Int)).toNat = m by omega, List.getElem?_eq_getElem (by rw [usedL_length]; omega), usedL_get] at hj
      simpa using hj
    rcases fre_cases st kd (lastNu l st kd) (usedL l st kd now) 99 with ⟨h5, h6⟩ | ⟨s, r, hs, h5, h6⟩
    · left
      rw [fre_frees] at h5
      exact ⟨next_none ha h5, fun j hj => hw j (h6 j hj)⟩
    · right
      rw [fre_frees] at h5
      exact ⟨s, hs, next_some ha h5, fun j hj => hw j (h6 j hj)⟩
  · left
    refine ⟨_, next_err ha, ha, ?_⟩
    unfold asked
    split
    · omega
    · cases l.getLast? with
      | none => simp
      | some u => dsimp only; split <;> omega

theorem asked_small (l : List Us) (st kd now : Int) : asked l st kd now ≤ 13 := by
  unfold asked
  split
  · omega
  · cases l.getLast? with
    | none => simp
    | some u => dsimp only; split <;> omega

theorem next_valid {l : List Us} {st kd now : Int} {x : Nm × Int} (h : next l st kd now = x) (h2 : x.2 = 0 ∨ x.2 = 17) : 0 ≤ lastNu l st kd ∧ lastNu l st kd ≤ 99 := by
  by_cases ha : asked l st kd now = 0
  · exact lastNu_range (rows_iff.1 (asked_zero ha).1) st kd
  · exfalso
    rcases next_cases l st kd now with ⟨e, hn, h0, h17⟩ | ⟨hn, _⟩ | ⟨s, _, hn, _⟩
    · rw [hn] at h; subst h; simp at h2; omega
    · rw [next_err ha] at hn; simp at hn; rcases Int.lt_or_le 17 0 with h | h <;> (have := asked_small l st kd now; omega)
    · rw [next_err ha] at hn; simp at hn; exact ha hn.2

end Go.Proofs.YtpdecgbfnhaojaaGreat
