/-
  Plain laws of the layer 'eyes': what was told at a time does not depend on acts behind it. No program in sight.
-/
import Derived.Test.YtmbnhlihcnbebaaEyT
import Derived.Test.YtmbnhlihcnbebaaEyM
set_option linter.unusedVariables false
namespace Ey
theorem validL_take {l : List Ac} (k : Nat) (h : validL l = true) : validL (l.take k) = true := by
  unfold validL at h ⊢
  simp only [Bool.and_eq_true, decide_eq_true_eq, List.all_eq_true] at h ⊢
  exact ⟨⟨Nat.le_trans (List.length_take_le' _ _) h.1.1, fun a ha => h.1.2 a (List.mem_of_mem_take ha)⟩, h.2.sublist (List.take_sublist _ _)⟩
theorem until_eq (l : List Ac) (t : Int) : untilL l t = l.take (untilL l t).length := List.prefix_iff_eq_take.1 (List.takeWhile_prefix _)
theorem until_take : ∀ {l : List Ac} {t : Int} {n : Nat}, (untilL l t).length ≤ n → untilL (l.take n) t = untilL l t
  | [], _, _, _ => by simp
  | a :: l, t, 0, h => by
    have h1 : untilL (a :: l) t = [] := List.eq_nil_of_length_eq_zero (Nat.le_zero.1 h)
    rw [h1]; rfl
  | a :: l, t, n + 1, h => by
    unfold untilL at h ⊢
    rw [List.take_succ_cons, List.takeWhile_cons, List.takeWhile_cons]
    rw [List.takeWhile_cons] at h
    split
    · rename_i hc
      rw [if_pos hc] at h
      congr 1
      exact until_take (Nat.le_of_succ_le_succ (by rw [List.length_cons] at h; exact h))
    · rfl
theorem until_lt : ∀ {l : List Ac} {t : Int} {k : Nat} (h : k < (untilL l t).length) (hk : k < l.length), l[k].time ≤ t
  | [], _, _, h, hk => absurd hk (Nat.not_lt_zero _)
  | a :: l, t, k, h, hk => by
    unfold untilL at h
    rw [List.takeWhile_cons] at h
    split at h
    · rename_i hc
      cases k with
      | zero => simpa using hc
      | succ k => exact until_lt (k := k) (Nat.lt_of_succ_lt_succ (by rw [List.length_cons] at h; exact h)) (Nat.lt_of_succ_lt_succ hk)
    · exact absurd h (Nat.not_lt_zero _)
theorem until_ge : ∀ {l : List Ac} {t : Int} {k : Nat} (h : k = (untilL l t).length) (hk : k < l.length), t < l[k].time
  | [], _, _, h, hk => absurd hk (Nat.not_lt_zero _)
  | a :: l, t, k, h, hk => by
    unfold untilL at h
    rw [List.takeWhile_cons] at h
    split at h
    · rename_i hc
      subst h
      rw [List.length_cons] at hk
      simp only [List.length_cons, List.getElem_cons_succ]
      exact until_ge rfl _
    · rename_i hc
      subst h
      simpa using hc
theorem validA_time {a : Ac} (h : validA a = true) : 0 ≤ a.time := by
  unfold validA at h
  simp only [Bool.and_eq_true] at h
  have := h.1.2
  unfold timeB at this
  simp at this
  exact this.1
/-- on valid lists Replay does every act -/
theorem rep_valid {l : List Ac} (h : validL l = true) : (replS l).L = stS l := by
  obtain ⟨h1, h2, h3⟩ := validL_iff.1 h
  have key : ∀ k, k ≤ l.length → (replS (l.take k)).L = stS (l.take k) ∧ ∀ t, 0 ≤ t → (∀ a ∈ l.take k, a.time ≤ t) → (replS (l.take k)).last ≤ t := by
    intro k
    induction k with
    | zero => intro _; exact ⟨rfl, fun t ht _ => ht⟩
    | succ k ih =>
      intro hk
      obtain ⟨e1, e2⟩ := ih (by omega)
      have hv := h2 _ (List.getElem_mem hk)
      have hc := replS_came (l.take k)
      rw [List.length_take_of_le (by omega)] at hc
      have hl : (replS (l.take k)).last ≤ l[k].time := e2 _ (validA_time hv) fun a ha => by
        obtain ⟨j, hj, rfl⟩ := List.getElem_of_mem ha
        rw [List.length_take_of_le (by omega)] at hj
        rw [List.getElem_take]
        exact List.pairwise_iff_getElem.1 h3 j k (by omega) hk hj
      have hce := ce_mk (s := replS (l.take k)) (by omega) hv hl
      have hla := la_mk (s := replS (l.take k)) (by omega) hv hl
      rw [replS_succ hk, rstep_eq, hla]
      refine ⟨?_, fun t _ ht => ht _ (by rw [List.take_add_one, List.getElem?_eq_getElem hk]; exact List.mem_append_right _ (List.mem_singleton.2 rfl))⟩
      rw [show stS (l.take (k + 1)) = (actS (stS (l.take k)) l[k]).1 by rw [List.take_add_one, List.getElem?_eq_getElem hk, Option.toList_some, stS_snoc]]
      dsimp only
      rw [hce, ← e1]
      by_cases hq : (actS (replS (l.take k)).L l[k]).2 = 0
      · rw [if_pos hq]
      · rw [if_neg hq, actS_err hq]
  have := (key l.length (Nat.le_refl _)).1
  rwa [List.take_length] at this
theorem hist_early {l : List Ac} {t : Int} {n : Nat} (hv : validL l = true) (ht : timeB t = true) (hn : (untilL l t).length ≤ n) : atR (l.take n) t = (stS (untilL l t), 0) := by
  rw [atR_ok (validL_take n hv) ht, until_take hn]
theorem hist_now {l : List Ac} {t : Int} (hv : validL l = true) : (replS (l.take (untilL l t).length)).L = stS (untilL l t) := by
  rw [← until_eq]
  exact rep_valid (by rw [until_eq]; exact validL_take _ hv)
end Ey
