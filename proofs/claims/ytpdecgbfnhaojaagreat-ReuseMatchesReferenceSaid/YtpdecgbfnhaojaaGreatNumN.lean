/-
  The walk of 'NumberApart'.
-/
import Derived.Test.YtpdecgbfnhaojaaGreatNumM
namespace Go.Proofs.YtpdecgbfnhaojaaGreat
open Go.RowKit Nb Sk Go.Sort

/-- the rows of a station and a kind -/
def isOwn (st kd : Int) (u : Us) : Bool := decide (u.nm.st = st ∧ u.nm.kd = kd)
def ownOf (l : List Us) (st kd : Int) : List Us := l.filter (isOwn st kd)

theorem own_rows {l : List Us} (h : RowsOk l) (st kd : Int) : RowsOk (ownOf l st kd) :=
  ⟨Nat.le_trans (List.length_filter_le _ _) h.len, fun u hu => h.ok u ((List.mem_filter.1 hu).1), h.mono.filter _, h.disj.filter _⟩

theorem own_last (st kd : Int) (l : List Us) : lastNu (ownOf l st kd) st kd = lastNu l st kd := by
  have key : ∀ (l : List Us) (n : Int), (l.filter (isOwn st kd)).foldl (fun n u => if u.nm.st = st ∧ u.nm.kd = kd then u.nm.nu else n) n = l.foldl (fun n u => if u.nm.st = st ∧ u.nm.kd = kd then u.nm.nu else n) n := by
    intro l
    induction l with
    | nil => intro n; rfl
    | cons u l ih =>
      intro n
      by_cases h : u.nm.st = st ∧ u.nm.kd = kd
      · rw [List.filter_cons_of_pos (by simp [isOwn, h]), List.foldl_cons, List.foldl_cons, ih]
      · rw [List.filter_cons_of_neg (by simp [isOwn]; intro a; exact fun b => h ⟨a, b⟩), List.foldl_cons, if_neg h, ih]
  exact key l 0

theorem own_used (l : List Us) (st kd x t : Int) : used (ownOf l st kd) ⟨st, kd, x⟩ t = used l ⟨st, kd, x⟩ t := by
  unfold used ownOf
  rw [List.any_filter]
  congr 1
  funext u
  by_cases h : u.nm = ⟨st, kd, x⟩
  · simp [h, isOwn]
  · simp [h]

theorem own_frees (l : List Us) (st kd now : Int) : frees (ownOf l st kd) st kd now = frees l st kd now := by
  unfold frees
  rw [own_last]
  refine List.filter_congr fun n hn => ?_
  obtain ⟨x, _, rfl⟩ := List.mem_map.1 hn
  rw [own_used]

theorem own_asked {l : List Us} {st kd now : Int} (h : RowsOk l) (h13 : asked l st kd now ≠ 13) : asked (ownOf l st kd) st kd now = asked l st kd now := by
  have hr := rows_iff.2 h
  have hr' := rows_iff.2 (own_rows h st kd)
  by_cases h1 : okN ⟨st, kd, 1⟩ = true
  · by_cases h2 : tm now = true
    · rw [asked_rest hr h1 h2] at h13
      rw [asked_rest hr h1 h2, asked_rest hr' h1 h2]
      have hall : ∀ u ∈ l, ¬ now < u.fr := by
        intro u hu
        cases hl : l.getLast? with
        | none => rw [List.getLast?_eq_none_iff] at hl; subst hl; cases hu
        | some v =>
          rw [hl] at h13
          dsimp only at h13
          have hv : ¬ now < v.fr := by intro h; rw [if_pos h] at h13; exact h13 rfl
          have hne : l ≠ [] := by rintro rfl; cases hu
          rw [List.getLast?_eq_some_getLast hne] at hl
          obtain ⟨i, hi, rfl⟩ := List.getElem_of_mem hu
          have hv2 : v = l[l.length - 1]'(by have := List.length_pos_iff.2 hne; omega) := by
            rw [← Option.some.inj hl, List.getLast_eq_getElem]
          rcases Nat.lt_or_ge i (l.length - 1) with h3 | h3
          · have := List.pairwise_iff_getElem.1 h.mono i (l.length - 1) hi (by omega) h3
            rw [hv2] at hv
            omega
          · have : i = l.length - 1 := by omega
            subst this
            rw [hv2] at hv
            exact hv
      have e : ∀ (m : List Us), (∀ u ∈ m, ¬ now < u.fr) → (match m.getLast? with | some u => if now < u.fr then (13 : Int) else 0 | none => 0) = 0 := by
        intro m hm
        cases hl : m.getLast? with
        | none => rfl
        | some v => dsimp only; rw [if_neg (hm v (List.mem_of_getLast? hl))]
      exact (e _ (fun u hu => hall u (List.mem_filter.1 hu).1)).trans (e l hall).symm
    · have h2' : tm now = false := by simpa using h2
      rw [asked_one (.inr (.inr h2')), asked_one (.inr (.inr h2'))]
  · have h1' : okN ⟨st, kd, 1⟩ = false := by simpa using h1
    rw [asked_one (.inr (.inl h1')), asked_one (.inr (.inl h1'))]

theorem own_next {l : List Us} {st kd now : Int} (h : RowsOk l) (h13 : asked l st kd now ≠ 13) : next (ownOf l st kd) st kd now = next l st kd now ∧ room (ownOf l st kd) st kd now = room l st kd now := by
  unfold next room
  rw [own_asked h h13, own_frees]
  exact ⟨rfl, rfl⟩

theorem own_snoc (l : List Us) (u : Us) (st kd : Int) : ownOf (l ++ [u]) st kd = if u.nm.st = st ∧ u.nm.kd = kd then ownOf l st kd ++ [u] else ownOf l st kd := by
  unfold ownOf
  rw [List.filter_append]
  by_cases h : u.nm.st = st ∧ u.nm.kd = kd
  · rw [if_pos h, List.filter_cons_of_pos (by simp [isOwn, h])]; rfl
  · rw [if_neg h, List.filter_cons_of_neg (by simp [isOwn]; intro a; exact fun b => h ⟨a, b⟩)]; simp
theorem next_err13 {l : List Us} {st kd now : Int} (h : asked l st kd now = 13) : next l st kd now = (zeroN, 13) ∧ room l st kd now = (0, 13) := by
  have h0 : asked l st kd now ≠ 0 := by rw [h]; simp
  exact ⟨by rw [next_err h0, h], by rw [room_err h0, h]⟩

theorem next_no13 {l : List Us} {st kd now : Int} (h : asked l st kd now ≠ 13) : (next l st kd now).2 ≠ 13 := by
  by_cases h0 : asked l st kd now = 0
  · cases hf : frees l st kd now with
    | nil => rw [next_none h0 hf]; simp
    | cons x r => rw [next_some h0 hf]; simp
  · rw [next_err h0]; exact h

end Go.Proofs.YtpdecgbfnhaojaaGreat
