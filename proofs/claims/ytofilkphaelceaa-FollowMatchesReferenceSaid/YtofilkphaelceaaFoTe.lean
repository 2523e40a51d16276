/-
  Plain laws of the layer 'follow': the exchanges, one after the other. No program in sight.
-/
import Derived.Test.YtofilkphaelceaaFoTp
set_option linter.unusedVariables false
namespace Fo
theorem firstD_get {l : List Int} {k : Nat} (h : firstD l = some k) : ∃ (hk : k + 1 < l.length), l[k + 1] < l[k] := by
  unfold firstD at h
  have h1 := List.find?_some h
  have h2 := List.mem_range.1 (List.mem_of_find?_eq_some h)
  have hk : k + 1 < l.length := by omega
  refine ⟨hk, ?_⟩
  rw [decide_eq_true_eq, List.getD_eq_getElem?_getD, List.getD_eq_getElem?_getD, List.getElem?_eq_getElem hk, List.getElem?_eq_getElem (by omega)] at h1
  exact h1
theorem adj_le : ∀ (l : List Int), (∀ (i : Nat) (h : i + 1 < l.length), l[i] ≤ l[i + 1]) → l.Pairwise (· ≤ ·)
  | [], _ => .nil
  | [_], _ => by simp
  | a :: b :: l, h => by
    have ih := adj_le (b :: l) (fun i hi => by have := h (i + 1) (by simpa using hi); simpa using this)
    have hab : a ≤ b := by have := h 0 (by simp); simpa using this
    refine .cons ?_ ih
    intro c hc
    rcases List.mem_cons.1 hc with rfl | hc
    · exact hab
    · have := (List.pairwise_cons.1 ih).1 c hc
      omega
theorem firstD_all {l : List Int} (h : firstD l = none) : l.Pairwise (· ≤ ·) := by
  refine adj_le l fun i hi => ?_
  unfold firstD at h
  have := List.find?_eq_none.1 h i (List.mem_range.2 (by omega))
  rw [List.getD_eq_getElem?_getD, List.getD_eq_getElem?_getD, List.getElem?_eq_getElem hi, List.getElem?_eq_getElem (by omega)] at this
  simp at this
  exact this
theorem inv_sorted : ∀ {l : List Int}, l.Pairwise (· ≤ ·) → inv l = 0
  | [], _ => rfl
  | a :: l, h => by
    obtain ⟨h1, h2⟩ := List.pairwise_cons.1 h
    unfold inv
    rw [inv_sorted h2, Nat.add_zero, List.length_eq_zero_iff, List.filter_eq_nil_iff]
    intro b hb
    have := h1 b hb
    simp; omega
theorem inv_snoc (x : Int) : ∀ l : List Int, inv (l ++ [x]) = inv l + (l.filter fun b => decide (x < b)).length
  | [] => by simp [inv]
  | a :: l => by
    have ih := inv_snoc x l
    simp only [List.cons_append, inv, List.filter_append, List.length_append, List.filter_cons, ih]
    by_cases h : x < a <;> simp [h] <;> omega
theorem exN_len : ∀ (f : Nat) (l : List Int), inv l = f → (exN f l).length = f
  | 0, _, _ => rfl
  | f + 1, l, h => by
    unfold exN
    cases hf : firstD l with
    | none => rw [inv_sorted (firstD_all hf)] at h; omega
    | some k =>
      obtain ⟨hk, hlt⟩ := firstD_get hf
      have := inv_swp k l hk hlt
      show (exN f (swapAt l k)).length + 1 = f + 1
      rw [swapAt_eq k l hk, exN_len f _ (by omega)]
theorem exchF_len (o : List Int) : (exchF o).length = inv o := exN_len _ _ rfl
/-- after j of the exchanges -/
structure ExRun (l : List St) (o : List Int) (j : Nat) (cur : List Int) : Prop where
  perm : cur.Perm o
  ok : PermP l cur
  rest : (exchF o).drop j = exN (inv cur) cur
theorem ExRun.start {l : List St} {o : List Int} (h : PermP l o) : ExRun l o 0 o := ⟨.refl _, h, rfl⟩
theorem ExRun.step {l : List St} (hv : VOk l) {o cur : List Int} {j : Nat} (h : ExRun l o j cur) (hj : j < (exchF o).length) :
    ∃ (k : Nat) (hk : k + 1 < cur.length), (exchF o)[j] = (k : Int) ∧ cur[k + 1] < cur[k] ∧ ExRun l o (j + 1) (swp k cur) ∧ (missF l [] cur[k]).contains cur[k + 1] = false := by
  have hr := h.rest
  rw [List.drop_eq_getElem_cons hj] at hr
  cases hi : inv cur with
  | zero => rw [hi] at hr; simp [exN] at hr; omega
  | succ f =>
    rw [hi] at hr
    unfold exN at hr
    cases hf : firstD cur with
    | none => rw [hf] at hr; simp at hr; omega
    | some k =>
      rw [hf] at hr
      obtain ⟨hk, hlt⟩ := firstD_get hf
      simp only [List.cons.injEq] at hr
      obtain ⟨h1, h2⟩ := hr
      have hinv := inv_swp k cur hk hlt
      obtain ⟨s1, s2⟩ := swp_split k cur hk
      have hok : PermP l (cur.take k ++ cur[k] :: cur[k + 1] :: cur.drop (k + 2)) := by rw [← s1]; exact h.ok
      refine ⟨k, hk, h1, hlt, ⟨(swp_perm k cur).trans h.perm, ?_, ?_⟩, ?_⟩
      · rw [s2]
        exact (swap_iff hv hok).2 (fun hr => by have := (hr.lt hv).1; omega)
      · rw [h2, swapAt_eq k cur hk, show inv (swp k cur) = f by omega]
      · rw [List.contains_eq_mem, decide_eq_false_iff_not, miss_iff hv]
        intro hr
        have hm := hok.ahead hv hr _ _ rfl
        have hnd := hok.nodup
        rw [List.nodup_append] at hnd
        exact hnd.2.2 _ hm cur[k + 1] (List.mem_cons_of_mem _ List.mem_cons_self) rfl
theorem ExRun.end_ {l : List St} {o cur : List Int} {j : Nat} (h : ExRun l o j cur) (hj : (exchF o).length ≤ j) : cur.Pairwise (· ≤ ·) := by
  have hr := h.rest
  rw [List.drop_eq_nil_of_le hj] at hr
  have := exN_len _ cur rfl
  rw [← hr] at this
  cases hf : firstD cur with
  | none => exact firstD_all hf
  | some k =>
    obtain ⟨hk, hlt⟩ := firstD_get hf
    have hinv := inv_swp k cur hk hlt
    simp at this
    omega
end Fo
