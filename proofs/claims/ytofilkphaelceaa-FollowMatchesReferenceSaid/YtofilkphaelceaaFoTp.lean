/-
  Plain laws of the layer 'follow': neighbours exchanged. No program in sight.
-/
import Derived.Test.YtofilkphaelceaaFoT
import Derived.Test.YtofilkphaelceaaFoO
set_option linter.unusedVariables false
namespace Fo
section
variable {l : List St} {o p q : List Int} {x y : Int}
/-- two neighbours of a permitted order can be exchanged if the latter does not follow on the former -/
theorem swap_iff (hv : VOk l) (h : PermP l (p ++ x :: y :: q)) : PermP l (p ++ y :: x :: q) ↔ ¬ Rch l [] y x := by
  have hnd := h.nodup
  rw [List.nodup_append] at hnd
  obtain ⟨n1, n2, n3⟩ := hnd
  have hxp : x ∉ p := fun e => n3 x e x (by simp) rfl
  have hyp : y ∉ p := fun e => n3 y e y (by simp) rfl
  have hxy : x ≠ y := by
    have := (List.nodup_cons.1 n2).1
    intro e; apply this; simp [e]
  constructor
  · intro h2 hr
    exact hxp (h2.ahead hv hr p (x :: q) rfl)
  · intro hr
    have hx := h.at_
    have hy : nxt l (p ++ [x]) y = true := by
      have h2 : PermP l ((p ++ [x]) ++ y :: q) := by simpa using h
      exact h2.at_
    obtain ⟨s, hs, _, hsa⟩ := (nxt_iff hv).1 hy
    obtain ⟨t, ht, _, hta⟩ := (nxt_iff hv).1 hx
    have h1 : nxt l p y = true := (nxt_iff hv).2 ⟨s, hs, hyp, fun a ha => by
      rcases List.mem_append.1 (hsa a ha) with h3 | h3
      · exact h3
      · simp at h3; subst h3; exact absurd (.one hs ha rfl) hr⟩
    have h2 : nxt l (p ++ [y]) x = true := (nxt_iff hv).2 ⟨t, ht, by simp [hxp, hxy], fun a ha => List.mem_append_left _ (hta a ha)⟩
    have hp : PermP l p := h.pre
    have hpy := permP_snoc.2 ⟨permP_snoc.2 ⟨hp, h1⟩, h2⟩
    have h4 : PermP l ((p ++ [x] ++ [y]) ++ q) := by simpa using h
    have := h4.cont (r := p ++ [y] ++ [x]) (fun z => by simp [or_comm, or_assoc]) hpy
    simpa using this
theorem swp_split : ∀ (j : Nat) (o : List Int) (h : j + 1 < o.length), o = o.take j ++ o[j] :: o[j + 1] :: o.drop (j + 2) ∧ swp j o = o.take j ++ o[j + 1] :: o[j] :: o.drop (j + 2)
  | 0, a :: b :: r, _ => by simp [swp]
  | j + 1, a :: r, h => by
    obtain ⟨h1, h2⟩ := swp_split j r (by simpa using h)
    constructor
    · simp only [List.take_succ_cons, List.cons_append, List.drop_succ_cons, List.getElem_cons_succ]
      rw [← h1]
    · simp only [swp, List.take_succ_cons, List.cons_append, List.drop_succ_cons, List.getElem_cons_succ]
      rw [h2]
theorem swp_set (j : Nat) (o : List Int) (h : j + 1 < o.length) : (o.set j o[j + 1]).set (j + 1) o[j] = swp j o := by
  rw [← swapAt_eq j o h]
  unfold swapAt
  rw [List.getD_eq_getElem?_getD, List.getD_eq_getElem?_getD, List.getElem?_eq_getElem h, List.getElem?_eq_getElem (by omega)]
  rfl
theorem bes_mem (hv : VOk l) {a b : Int} : (a, b) ∈ besP l l.length ↔ ((∃ s ∈ l, s.n = a) ∧ (∃ s ∈ l, s.n = b) ∧ a < b ∧ ¬ Rch l [] b a) := by
  unfold besP
  rw [List.mem_flatMap]
  constructor
  · rintro ⟨i, hi, hm⟩
    have hi := List.mem_range.1 hi
    unfold besRow at hm
    rw [List.getElem?_eq_getElem hi] at hm
    unfold besQ at hm
    simp only [List.mem_map, List.mem_filter, Prod.mk.injEq, Bool.not_eq_true'] at hm
    obtain ⟨t, ⟨ht, hr⟩, rfl, rfl⟩ := hm
    obtain ⟨k, hk, rfl⟩ := List.getElem_of_mem ht
    rw [List.length_drop] at hk
    rw [List.getElem_drop] at hr ⊢
    refine ⟨⟨_, List.getElem_mem _, rfl⟩, ⟨_, List.getElem_mem _, rfl⟩, List.pairwise_iff_getElem.1 hv.inc i (i + 1 + k) hi (by omega) (by omega), fun e => ?_⟩
    rw [(ahd_iff hv).2 e] at hr
    cases hr
  · rintro ⟨⟨s, hs, rfl⟩, ⟨t, ht, rfl⟩, hlt, hr⟩
    obtain ⟨i, hi, rfl⟩ := List.getElem_of_mem hs
    obtain ⟨k, hk, rfl⟩ := List.getElem_of_mem ht
    have hik : i < k := by
      rcases Nat.lt_trichotomy i k with h | h | h
      · exact h
      · subst h; omega
      · have := List.pairwise_iff_getElem.1 hv.inc k i hk hi h; omega
    refine ⟨i, List.mem_range.2 hi, ?_⟩
    unfold besRow
    rw [List.getElem?_eq_getElem hi]
    unfold besQ
    refine List.mem_map.2 ⟨l[k], List.mem_filter.2 ⟨?_, ?_⟩, rfl⟩
    · rw [List.mem_iff_getElem]
      exact ⟨k - (i + 1), by rw [List.length_drop]; omega, by rw [List.getElem_drop]; congr 1; omega⟩
    · cases hc : ahd l l[k].n l[i].n with
      | false => rfl
      | true => exact absurd ((ahd_iff hv).1 hc) hr
/-- neighbours of a permitted order can be exchanged exactly if they are beside each other -/
theorem swap_beside (hv : VOk l) (h : PermP l (p ++ x :: y :: q)) : (min x y, max x y) ∈ besP l l.length ↔ PermP l (p ++ y :: x :: q) := by
  rw [swap_iff hv h, bes_mem hv]
  have hx := h.mem (x := x) (by simp)
  have hy := h.mem (x := y) (by simp)
  have hnd := h.nodup
  rw [List.nodup_append] at hnd
  obtain ⟨n1, n2, n3⟩ := hnd
  have hyp : y ∉ p := fun e => n3 y e y (by simp) rfl
  have hxy : x ≠ y := by
    have := (List.nodup_cons.1 n2).1
    intro e; apply this; simp [e]
  rcases Int.lt_or_gt_of_ne hxy with hlt | hlt
  · rw [Int.min_eq_left (by omega), Int.max_eq_right (by omega)]
    exact ⟨fun h => h.2.2.2, fun h => ⟨hx, hy, hlt, h⟩⟩
  · rw [Int.min_eq_right (by omega), Int.max_eq_left (by omega)]
    constructor
    · intro _ hr
      have := (hr.lt hv).1
      omega
    · intro _
      exact ⟨hy, hx, hlt, fun hr => hyp (h.ahead hv hr p (y :: q) rfl)⟩
end
end Fo
