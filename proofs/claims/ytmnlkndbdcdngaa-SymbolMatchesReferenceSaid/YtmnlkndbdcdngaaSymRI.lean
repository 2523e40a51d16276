/-
  The reference's Join, in plain Lean: symbol by symbol.
-/
import Derived.Test.YtmnlkndbdcdngaaSymRH
namespace Sb
open Go.Proofs.Ytmnlkndbdcdngaa (merge_nil merge_end merge_lt merge_gt merge_ne merge_eq map_snoc)

/-- the marks from a symbol on -/
def from_ (l : List Mk) (n : Int) : List Mk := l.filter fun m => decide (n ≤ m.sy)
theorem from_none {l : List Mk} {n : Int} (h : lookM l n = none) : from_ l n = from_ l (n + 1) := by
  have hn := lookM_none h
  unfold from_
  apply List.filter_congr
  intro x hx
  have := hn x hx
  by_cases h1 : n ≤ x.sy <;> by_cases h2 : n + 1 ≤ x.sy <;> simp [h1, h2] <;> omega
theorem from_some : ∀ {l : List Mk} {n : Int} {m : Mk}, l.Pairwise (fun a b => a.sy < b.sy) → lookM l n = some m → from_ l n = m :: from_ l (n + 1)
  | [], _, _, _, h => by simp [lookM] at h
  | x :: l, n, m, hp, h => by
    have hp' := List.pairwise_cons.1 hp
    by_cases hx : x.sy = n
    · have hm : x = m := by
        unfold lookM at h
        rw [List.find?_cons_of_pos (by simpa using hx)] at h
        exact Option.some.inj h
      subst hm
      have h1 : ∀ y ∈ l, n < y.sy := fun y hy => by have := hp'.1 y hy; omega
      unfold from_
      rw [List.filter_cons_of_pos (by simp; omega), List.filter_cons_of_neg (by simp; omega)]
      congr 1
      apply List.filter_congr
      intro y hy
      have := h1 y hy
      simp; omega
    · have h2 : lookM l n = some m := by
        unfold lookM at h ⊢
        rwa [List.find?_cons_of_neg (by simpa using hx)] at h
      have h3 := from_some hp'.2 h2
      obtain ⟨hm, hms⟩ := lookM_some h2
      have := hp'.1 m hm
      unfold from_ at h3 ⊢
      rw [List.filter_cons_of_neg (by simp; omega), List.filter_cons_of_neg (by simp; omega)]
      exact h3
theorem from_lt {l : List Mk} {n : Int} : ∀ x ∈ from_ l (n + 1), n < x.sy := by
  intro x hx
  have := (List.mem_filter.1 hx).2
  simp at this
  omega
theorem from_all {l : List Mk} (h : VOk l) : from_ l 0 = l := by
  unfold from_
  rw [List.filter_eq_self]
  intro x hx
  have := okM_iff.1 (h.ok x hx)
  simp; omega
theorem from_end {l : List Mk} (h : VOk l) : from_ l 1000 = [] := by
  unfold from_
  rw [List.filter_eq_nil_iff]
  intro x hx
  have := okM_iff.1 (h.ok x hx)
  simp; omega
theorem merge_left {x : Mk} {xs ys : List Mk} (h : ∀ y ∈ ys, x.sy < y.sy) : merge (x :: xs) ys = (merge xs ys).map (x :: ·) := by
  cases ys with
  | nil => rw [merge_end, merge_end]; rfl
  | cons y ys => exact merge_lt (h y (by simp))
theorem merge_right {y : Mk} {xs ys : List Mk} (h : ∀ x ∈ xs, y.sy < x.sy) : merge xs (y :: ys) = (merge xs ys).map (y :: ·) := by
  cases xs with
  | nil => rw [merge_nil, merge_nil]; rfl
  | cons x xs => exact merge_gt (h x (by simp))
/-- one symbol -/
theorem merge_at {a b : List Mk} (ha : VOk a) (hb : VOk b) (n : Int) : merge (from_ a n) (from_ b n) = match lookM a n, lookM b n with
    | none, none => merge (from_ a (n + 1)) (from_ b (n + 1))
    | some x, none => (merge (from_ a (n + 1)) (from_ b (n + 1))).map (x :: ·)
    | none, some y => (merge (from_ a (n + 1)) (from_ b (n + 1))).map (y :: ·)
    | some x, some y => if x.kd ≠ y.kd then none else (merge (from_ a (n + 1)) (from_ b (n + 1))).map ((if y.cl ≤ x.cl then x else y) :: ·) := by
  cases h1 : lookM a n with
  | none =>
    cases h2 : lookM b n with
    | none => simp only [from_none h1, from_none h2]
    | some y =>
      simp only []
      rw [from_none h1, from_some hb.inc h2, merge_right (fun x hx => by have := from_lt x hx; rw [(lookM_some h2).2]; exact this)]
  | some x =>
    cases h2 : lookM b n with
    | none =>
      simp only []
      rw [from_none h2, from_some ha.inc h1, merge_left (fun y hy => by have := from_lt y hy; rw [(lookM_some h1).2]; exact this)]
    | some y =>
      simp only []
      have e1 := (lookM_some h1).2
      have e2 := (lookM_some h2).2
      rw [from_some ha.inc h1, from_some hb.inc h2]
      by_cases hk : x.kd = y.kd
      · rw [if_neg (by simp [hk]), merge_eq (by omega) hk]
        have hz : (⟨x.sy, x.kd, max x.cl y.cl⟩ : Mk) = if y.cl ≤ x.cl then x else y := by
          obtain ⟨x0, x1, x2⟩ := x
          obtain ⟨y0, y1, y2⟩ := y
          dsimp only at *
          subst hk
          split
          · rw [Int.max_eq_left (by omega)]
          · rw [Int.max_eq_right (by omega)]; simp; omega
        rw [hz]
      · rw [if_pos hk, merge_ne (by omega) hk]
end Sb
