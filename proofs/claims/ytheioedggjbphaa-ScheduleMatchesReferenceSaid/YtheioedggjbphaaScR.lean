/-
  Plain mathematics of the layer 'schedule': how many pieces have to be sent in an interval. No program in sight.
-/
import Derived.Test.YtheioedggjbphaaScP
set_option linter.unusedVariables false
namespace Sc
def sumP (l : List Jb) : Int := (l.map Jb.pieces).foldr (· + ·) 0
/-- the pieces that begin at a and have to be sent up to b -/
def cnt (f b : Int) (l : List Jb) (a : Int) : Int := sumP (l.filter (fun j => decide (j.due ≤ b ∧ max j.ready f = a)))
def loadP (f a b : Int) (l : List Jb) : Int := sumP (l.filter (fun j => decide (a ≤ max j.ready f ∧ j.due ≤ b)))
def over (J : List Jb) (f a b : Int) : Prop := b - a + 1 < loadP f a b J
theorem sumP_append (l m : List Jb) : sumP (l ++ m) = sumP l + sumP m := by
  unfold sumP
  induction l with
  | nil => simp
  | cons j l ih => simp only [List.cons_append, List.map_cons, List.foldr_cons, ih]; omega
theorem sumP_bound {l : List Jb} (h : ∀ j ∈ l, jobB j = true) : 0 ≤ sumP l ∧ sumP l ≤ 32 * l.length := by
  unfold sumP
  induction l with
  | nil => simp
  | cons j l ih =>
    have h1 := ih (fun x hx => h x (List.mem_cons_of_mem _ hx))
    have h2 := jobB_iff.1 (h j List.mem_cons_self)
    simp only [List.map_cons, List.foldr_cons, List.length_cons]
    omega
theorem cnt_bound {f b a : Int} {l : List Jb} (h : ∀ j ∈ l, jobB j = true) : 0 ≤ cnt f b l a ∧ cnt f b l a ≤ 32 * l.length := by
  have h1 := sumP_bound (l := l.filter (fun j => decide (j.due ≤ b ∧ max j.ready f = a))) (fun j hj => h j (List.mem_filter.1 hj).1)
  have := List.length_filter_le (fun j : Jb => decide (j.due ≤ b ∧ max j.ready f = a)) l
  unfold cnt
  omega
theorem load_bound {f b a : Int} {l : List Jb} (h : ∀ j ∈ l, jobB j = true) : 0 ≤ loadP f a b l ∧ loadP f a b l ≤ 32 * l.length := by
  have h1 := sumP_bound (l := l.filter (fun j => decide (a ≤ max j.ready f ∧ j.due ≤ b))) (fun j hj => h j (List.mem_filter.1 hj).1)
  have := List.length_filter_le (fun j : Jb => decide (a ≤ max j.ready f ∧ j.due ≤ b)) l
  unfold loadP
  omega
theorem cnt_yes {f b : Int} {l : List Jb} {k : Nat} (h : k < l.length) (hd : l[k].due ≤ b) (a : Int) : cnt f b (l.take (k + 1)) a = cnt f b (l.take k) a + (if max l[k].ready f = a then l[k].pieces else 0) := by
  unfold cnt
  rw [List.take_add_one, List.getElem?_eq_getElem h, Option.toList_some, List.filter_append, sumP_append]
  congr 1
  by_cases e : max l[k].ready f = a
  · simp [hd, e, sumP]
  · simp [e, sumP]
theorem cnt_no {f b : Int} {l : List Jb} {k : Nat} (h : k < l.length) (hd : ¬ l[k].due ≤ b) (a : Int) : cnt f b (l.take (k + 1)) a = cnt f b (l.take k) a := by
  unfold cnt
  rw [List.take_add_one, List.getElem?_eq_getElem h, Option.toList_some, List.filter_append, sumP_append]
  simp [hd, sumP]
theorem sumP_filter_cons (p : Jb → Bool) (j : Jb) (l : List Jb) : sumP ((j :: l).filter p) = (if p j = true then j.pieces else 0) + sumP (l.filter p) := by
  rw [List.filter_cons]
  split
  · rfl
  · simp
theorem load_step (f a b : Int) : ∀ l : List Jb, loadP f a b l = loadP f (a + 1) b l + cnt f b l a
  | [] => rfl
  | j :: l => by
    have ih := load_step f a b l
    unfold loadP cnt at ih ⊢
    rw [sumP_filter_cons, sumP_filter_cons, sumP_filter_cons, ih]
    simp only [decide_eq_true_eq]
    by_cases h1 : j.due ≤ b
    · by_cases h2 : a ≤ max j.ready f
      · by_cases h3 : max j.ready f = a
        · rw [if_pos ⟨h2, h1⟩, if_neg (fun h => by have := h.1; omega), if_pos ⟨h1, h3⟩]; omega
        · rw [if_pos ⟨h2, h1⟩, if_pos ⟨by omega, h1⟩, if_neg (fun h => h3 h.2)]; omega
      · rw [if_neg (fun h => h2 h.1), if_neg (fun h => by have := h.1; omega), if_neg (fun h => by have := h.2; omega)]; omega
    · rw [if_neg (fun h => h1 h.2), if_neg (fun h => h1 h.2), if_neg (fun h => h1 h.1)]; omega
theorem load_zero {f b : Int} {l : List Jb} (h : ∀ j ∈ l, jobB j = true) (hd : ∀ j ∈ l, f ≤ j.due) : loadP f (b + 1) b l = 0 := by
  unfold loadP
  rw [List.filter_eq_nil_iff.2 (fun j hj => by
    have h1 := jobB_iff.1 (h j hj)
    have h2 := hd j hj
    simp only [decide_eq_true_eq]
    omega)]
  rfl
/-- the begins of each slot -/
def bg (f b : Int) (l : List Jb) : List Int := (List.range 400).map (fun a : Nat => cnt f b l a)
theorem bg_len (f b : Int) (l : List Jb) : (bg f b l).length = 400 := by unfold bg; simp
theorem bg_get {f b : Int} {l : List Jb} {a : Nat} (h : a < 400) : (bg f b l)[a]? = some (cnt f b l a) := by unfold bg; rw [List.getElem?_map, List.getElem?_range h]; rfl
theorem bg_nil (f b : Int) : bg f b [] = List.replicate 400 0 := by
  unfold bg
  refine List.eq_replicate_iff.2 ⟨by rw [List.length_map, List.length_range], fun x hx => ?_⟩
  obtain ⟨a, _, rfl⟩ := List.mem_map.1 hx
  rfl
theorem bg_no {f b : Int} {l : List Jb} {k : Nat} (h : k < l.length) (hd : ¬ l[k].due ≤ b) : bg f b (l.take (k + 1)) = bg f b (l.take k) := by
  unfold bg
  congr 1
  funext a
  exact cnt_no h hd a
theorem bg_yes {f b : Int} {l : List Jb} {k m : Nat} (h : k < l.length) (hd : l[k].due ≤ b) (hm : max l[k].ready f = m) (hm4 : m < 400) : bg f b (l.take (k + 1)) = (bg f b (l.take k)).set m (cnt f b (l.take k) m + l[k].pieces) := by
  apply List.ext_getElem?
  intro i
  by_cases hi : i < 400
  · rw [bg_get hi, List.getElem?_set, bg_get hi, bg_len, cnt_yes h hd]
    by_cases e : m = i
    · subst e; rw [if_pos rfl, if_pos hm4, if_pos hm]
    · rw [if_neg e, if_neg (by rw [hm]; omega), Int.add_zero]
  · rw [List.getElem?_eq_none (by rw [bg_len]; omega), List.getElem?_eq_none (by rw [List.length_set, bg_len]; omega)]
/-- what Core returns -/
def CoreSp (J : List Jb) (f lo hi err : Int) : Prop :=
  if validJ J = true ∧ slotB f = true then
    (if ∃ j ∈ J, j.due < f then lo = 0 ∧ hi = 0 ∧ err = 6
     else (err = 0 ∧ f ≤ lo ∧ lo ≤ hi ∧ hi < 400 ∧ over J f lo hi ∧ ∀ a b, f ≤ a → a ≤ b → b < 400 → (b < hi ∨ b = hi ∧ lo < a) → ¬ over J f a b) ∨
          (err = 4 ∧ lo = 0 ∧ hi = 0 ∧ ∀ a b, f ≤ a → a ≤ b → b < 400 → ¬ over J f a b))
  else lo = 0 ∧ hi = 0 ∧ err = 1
end Sc
