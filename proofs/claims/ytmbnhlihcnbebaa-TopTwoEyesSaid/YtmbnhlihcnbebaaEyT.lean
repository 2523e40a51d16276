/-
  Plain laws of the layer 'eyes': what Replay does, act by act. No program in sight.
-/
import Derived.Test.YtmbnhlihcnbebaaEyJ
set_option linter.unusedVariables false
namespace Ey
theorem actS_err {L : List Dg} {a : Ac} (h : (actS L a).2 ≠ 0) : (actS L a).1 = L := by
  unfold actS at h ⊢
  split
  · rfl
  · rename_i h0
    rw [if_neg h0] at h
    split at h <;> exact absurd rfl h
/-- what comes of an act behind a state of Replay -/
def ce (s : RS) (a : Ac) : Int := if 200 ≤ s.came.length then 2 else if validA a = false then 1 else if a.time < s.last then 13 else (actS s.L a).2
/-- the last time behind it -/
def la (s : RS) (a : Ac) : Int := if 200 ≤ s.came.length ∨ validA a = false ∨ a.time < s.last then s.last else a.time
theorem rstep_eq (s : RS) (a : Ac) : rstep s a = ⟨if ce s a = 0 then (actS s.L a).1 else s.L, la s a, s.came ++ [ce s a]⟩ := by
  by_cases h1 : 200 ≤ s.came.length
  · simp [rstep, ce, la, h1]
  by_cases h2 : validA a = false
  · simp [rstep, ce, la, h1, h2]
  by_cases h3 : a.time < s.last
  · simp [rstep, ce, la, h1, h2, h3]
  · simp only [rstep, ce, la, if_neg h1, if_neg h2, if_neg h3]
    rw [if_neg (show ¬ (200 ≤ s.came.length ∨ validA a = false ∨ a.time < s.last) from fun h => h.elim h1 (fun h => h.elim h2 h3))]
    by_cases hq : (actS s.L a).2 = 0
    · rw [if_pos hq]
    · rw [if_neg hq, actS_err hq]
theorem la_le (s : RS) (a : Ac) : s.last ≤ la s a := by
  unfold la
  split
  · exact Int.le_refl _
  · rename_i h; omega
theorem ce_ok {s : RS} {a : Ac} (h : ce s a = 0) : s.came.length < 200 ∧ validA a = true ∧ s.last ≤ a.time ∧ (actS s.L a).2 = 0 := by
  unfold ce at h
  split at h
  · cases h
  · split at h
    · cases h
    · split at h
      · cases h
      · rename_i h1 h2 h3
        exact ⟨by omega, by simpa using h2, by omega, h⟩
theorem ce_mk {s : RS} {a : Ac} (h1 : s.came.length < 200) (h2 : validA a = true) (h3 : s.last ≤ a.time) : ce s a = (actS s.L a).2 := by
  unfold ce
  rw [if_neg (by omega), if_neg (by simp [h2]), if_neg (by omega)]
theorem la_mk {s : RS} {a : Ac} (h1 : s.came.length < 200) (h2 : validA a = true) (h3 : s.last ≤ a.time) : la s a = a.time := by
  unfold la
  rw [if_neg]
  rintro (h | h | h)
  · omega
  · rw [h2] at h; cases h
  · omega
theorem replS_nil : replS [] = ⟨[], 0, []⟩ := rfl
theorem replS_snoc (l : List Ac) (a : Ac) : replS (l ++ [a]) = rstep (replS l) a := by
  unfold replS
  rw [List.foldl_append]
  rfl
theorem came_take (l : List Ac) (k : Nat) (hk : k ≤ l.length) : (replS (l.take k)).came = (replS l).came.take k := by
  suffices ∀ (m : List Ac) (s : RS), (m.foldl rstep s).came.take s.came.length = s.came by
    have h := this (l.drop k) (replS (l.take k))
    unfold replS at h
    rw [← List.foldl_append, List.take_append_drop] at h
    have h2 := replS_came (l.take k)
    unfold replS at h2
    rw [h2, List.length_take_of_le hk] at h
    exact h.symm
  intro m
  induction m with
  | nil => intro s; simp
  | cons a m ih =>
    intro s
    rw [List.foldl_cons]
    have h := ih (rstep s a)
    have h3 : (rstep s a).came = s.came ++ [ce s a] := by rw [rstep_eq]
    rw [h3] at h
    have h2 := congrArg (List.take s.came.length) h
    rw [List.take_take, List.length_append, Nat.min_eq_left (Nat.le_add_right _ _), List.take_left] at h2
    exact h2
theorem came_at (l : List Ac) (k : Nat) (hk : k < l.length) (h : k < (replS l).came.length) : (replS l).came[k] = ce (replS (l.take k)) l[k] := by
  have h1 := came_take l (k + 1) hk
  rw [replS_succ hk, rstep_eq] at h1
  have h2 := replS_came (l.take k)
  rw [List.length_take_of_le (Nat.le_of_lt hk)] at h2
  have h3 : ((replS (l.take k)).came ++ [ce (replS (l.take k)) l[k]])[k]? = ((replS l).came.take (k + 1))[k]? := congrArg (fun x : List Int => x[k]?) h1
  rw [List.getElem?_append_right (by omega), h2, Nat.sub_self, List.getElem?_take, if_pos (Nat.lt_succ_self k), List.getElem?_eq_getElem h] at h3
  exact (Option.some.inj h3).symm

/-! ### without the acts that have an error -/
def gstep (p : RS × List Ac) (a : Ac) : RS × List Ac := (rstep p.1 a, if ce p.1 a = 0 then p.2 ++ [a] else p.2)
/-- the acts without an error -/
def goodS (l : List Ac) : List Ac := (l.foldl gstep (⟨[], 0, []⟩, [])).2
theorem good_fst (l : List Ac) : (l.foldl gstep (⟨[], 0, []⟩, [])).1 = replS l := by
  unfold replS
  suffices ∀ p : RS × List Ac, (l.foldl gstep p).1 = l.foldl rstep p.1 from this _
  induction l with
  | nil => intro p; rfl
  | cons a l ih => intro p; rw [List.foldl_cons, List.foldl_cons, ih]; rfl
theorem good_succ {l : List Ac} {k : Nat} (hk : k < l.length) (h : k < (replS l).came.length) : goodS (l.take (k + 1)) = if (replS l).came[k] = 0 then goodS (l.take k) ++ [l[k]] else goodS (l.take k) := by
  rw [came_at l k hk h]
  unfold goodS
  rw [List.take_add_one, List.getElem?_eq_getElem hk, Option.toList_some, List.foldl_append, List.foldl_cons, List.foldl_nil]
  have h := good_fst (l.take k)
  generalize (l.take k).foldl gstep (⟨[], 0, []⟩, []) = p at *
  unfold gstep
  rw [← h]
theorem good_len (l : List Ac) : (goodS l).length ≤ l.length := by
  unfold goodS
  suffices ∀ p : RS × List Ac, (l.foldl gstep p).2.length ≤ p.2.length + l.length by simpa using this (⟨[], 0, []⟩, [])
  induction l with
  | nil => intro p; exact Nat.le_refl _
  | cons a l ih =>
    intro p
    rw [List.foldl_cons]
    refine Nat.le_trans (ih _) ?_
    unfold gstep
    dsimp only
    split <;> simp only [List.length_append, List.length_cons, List.length_nil] <;> omega
theorem good_rep (l : List Ac) : (replS (goodS l)).L = (replS l).L ∧ (∀ x ∈ (replS (goodS l)).came, x = 0) := by
  have key : ∀ (l : List Ac) (p : RS × List Ac), ((replS p.2).L = p.1.L ∧ (replS p.2).last ≤ p.1.last ∧ (replS p.2).came.length ≤ p.1.came.length ∧ ∀ x ∈ (replS p.2).came, x = 0) →
      ((replS (l.foldl gstep p).2).L = (l.foldl gstep p).1.L ∧ (replS (l.foldl gstep p).2).last ≤ (l.foldl gstep p).1.last ∧ (replS (l.foldl gstep p).2).came.length ≤ (l.foldl gstep p).1.came.length ∧ ∀ x ∈ (replS (l.foldl gstep p).2).came, x = 0) := by
    intro l
    induction l with
    | nil => intro p h; exact h
    | cons a l ih =>
      intro p h
      rw [List.foldl_cons]
      refine ih _ ?_
      obtain ⟨h1, h2, h3, h4⟩ := h
      unfold gstep
      dsimp only
      have hl := la_le p.1 a
      by_cases hc : ce p.1 a = 0
      · rw [if_pos hc, replS_snoc]
        obtain ⟨c1, c2, c3, c4⟩ := ce_ok hc
        have e1 : ce (replS p.2) a = 0 := by rw [ce_mk (by omega) c2 (by omega), h1]; exact c4
        rw [rstep_eq, rstep_eq, if_pos hc, if_pos e1, la_mk (by omega) c2 (by omega), la_mk (by omega) c2 (by omega)]
        refine ⟨by rw [h1], Int.le_refl _, by simpa using h3, fun x hx => ?_⟩
        rcases List.mem_append.1 hx with hx | hx
        · exact h4 x hx
        · simp at hx; rw [hx, e1]
      · rw [if_neg hc, rstep_eq, if_neg hc]
        exact ⟨h1, by dsimp only; omega, by simp; omega, h4⟩
  have := key l (⟨[], 0, []⟩, []) ⟨rfl, Int.le_refl _, Nat.le_refl _, fun x hx => by simp [replS_nil] at hx⟩
  rw [good_fst] at this
  exact ⟨this.1, this.2.2.2⟩
end Ey
