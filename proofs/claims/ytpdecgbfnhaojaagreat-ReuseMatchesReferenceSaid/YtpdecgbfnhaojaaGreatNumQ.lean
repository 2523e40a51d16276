/-
  The walk of 'NumberRoom'.
-/
import Derived.Test.YtpdecgbfnhaojaaGreatNumP
namespace Go.Proofs.YtpdecgbfnhaojaaGreat
open Go.RowKit Nb Sk Go.Sort

theorem freeN_le (l : List Us) (st kd now : Int) : freeN l st kd now ≤ 99 := by
  have := List.length_filter_le (fun x => !used l ⟨st, kd, x⟩ now) allNu
  unfold freeN
  exact Nat.le_trans this (by simp [allNu])

/-- Next beside Room -/
theorem next_room (l : List Us) (st kd now : Int) :
    (∃ q, asked l st kd now = q ∧ q ≠ 0 ∧ next l st kd now = (zeroN, q) ∧ room l st kd now = (0, q)) ∨
    (asked l st kd now = 0 ∧ next l st kd now = (zeroN, 17) ∧ room l st kd now = (0, 0) ∧ freeN l st kd now = 0) ∨
    (∃ x r, asked l st kd now = 0 ∧ next l st kd now = (x, 0) ∧ frees l st kd now = x :: r ∧ room l st kd now = ((freeN l st kd now : Int), 0) ∧ 0 < freeN l st kd now) := by
  by_cases ha : asked l st kd now = 0
  · right
    have hr := rows_iff.1 (asked_zero ha).1
    have hl := frees_len (st := st) (kd := kd) (now := now) hr
    cases hf : frees l st kd now with
    | nil =>
      left
      rw [hf] at hl
      refine ⟨ha, next_none ha hf, ?_, by simpa using hl.symm⟩
      rw [room_ok ha, hf]; rfl
    | cons x r =>
      right
      rw [hf] at hl
      refine ⟨x, r, ha, next_some ha hf, rfl, ?_, by simp at hl; omega⟩
      rw [room_ok ha, hf, ← hl]
  · left; exact ⟨_, rfl, ha, next_err ha, room_err ha⟩
end Go.Proofs.YtpdecgbfnhaojaaGreat
