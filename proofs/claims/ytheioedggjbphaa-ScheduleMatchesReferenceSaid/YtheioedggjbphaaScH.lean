/-
  Plain mathematics of a heap of indices: what 'up' and 'down' keep. No program in sight.
-/
import Derived.Test.YtheioedggjbphaaKit
set_option linter.unusedVariables false
namespace Sc
def at_ (L : List Nat) (k : Nat) : Nat := L.getD k 0
theorem at_get {L : List Nat} {k : Nat} (h : k < L.length) : at_ L k = L[k] := by unfold at_; rw [List.getD_eq_getElem?_getD, List.getElem?_eq_getElem h]; rfl
def swp (L : List Nat) (i j : Nat) : List Nat := (L.set i (at_ L j)).set j (at_ L i)
theorem swp_len (L : List Nat) (i j : Nat) : (swp L i j).length = L.length := by unfold swp; simp
theorem at_swp {L : List Nat} {i j : Nat} (hi : i < L.length) (hj : j < L.length) (k : Nat) : at_ (swp L i j) k = if k = j then at_ L i else if k = i then at_ L j else at_ L k := by
  unfold swp
  by_cases h : k = j
  · subst h
    rw [if_pos rfl]
    show ((L.set i (at_ L k)).set k (at_ L i)).getD k 0 = _
    rw [List.getD_eq_getElem?_getD, List.getElem?_set_self (by simpa using hj)]
    rfl
  · rw [if_neg h]
    show ((L.set i (at_ L j)).set j (at_ L i)).getD k 0 = _
    rw [List.getD_eq_getElem?_getD, List.getElem?_set_ne (Ne.symm h)]
    by_cases h2 : k = i
    · subst h2
      rw [if_pos rfl, List.getElem?_set_self hi]
      rfl
    · rw [if_neg h2, List.getElem?_set_ne (Ne.symm h2)]
      rfl
theorem swp_perm {L : List Nat} {i j : Nat} (hi : i < L.length) (hj : j < L.length) : (swp L i j).Perm L := by
  unfold swp
  rw [at_get hi, at_get hj]
  exact List.set_set_perm hi hj
/-- an order that is total and transitive -/
structure Tot (le : Nat → Nat → Prop) : Prop where
  tot : ∀ a b, le a b ∨ le b a
  tr : ∀ {a b c}, le a b → le b c → le a c
section
variable {le : Nat → Nat → Prop}
def Heap (le : Nat → Nat → Prop) (L : List Nat) (n : Nat) : Prop := ∀ k, 0 < k → k < n → le (at_ L ((k - 1) / 2)) (at_ L k)
theorem Heap.first (T : Tot le) {L : List Nat} {n : Nat} (h : Heap le L n) : ∀ k, k < n → le (at_ L 0) (at_ L k) := by
  intro k
  induction k using Nat.strongRecOn with
  | _ k ih =>
    intro hk
    rcases Nat.eq_zero_or_pos k with rfl | h0
    · exact (T.tot _ _).elim id id
    · exact T.tr (ih ((k - 1) / 2) (by omega) (by omega)) (h k h0 hk)
structure UpInv (le : Nat → Nat → Prop) (L : List Nat) (n j : Nat) : Prop where
  lt : j < n
  len : n ≤ L.length
  a : ∀ k, 0 < k → k < n → k ≠ j → le (at_ L ((k - 1) / 2)) (at_ L k)
  b : 0 < j → ∀ c, 0 < c → c < n → (c - 1) / 2 = j → le (at_ L ((j - 1) / 2)) (at_ L c)
theorem up_start {L : List Nat} (h : Heap le L L.length) (x : Nat) : UpInv le (L ++ [x]) (L.length + 1) L.length := by
  have hat : ∀ k, k < L.length → at_ (L ++ [x]) k = at_ L k := fun k hk => by
    rw [at_get hk, at_get (by simp; omega), List.getElem_append_left hk]
  refine ⟨by omega, by simp, fun k h0 hk hne => ?_, fun h0 c _ hc e => by omega⟩
  rw [hat k (by omega), hat _ (by omega)]
  exact h k h0 (by omega)
theorem UpInv.stop {L : List Nat} {n j : Nat} (h : UpInv le L n j) (hs : j = 0 ∨ le (at_ L ((j - 1) / 2)) (at_ L j)) : Heap le L n := by
  intro k h0 hk
  by_cases hkj : k = j
  · subst hkj
    rcases hs with hs | hs
    · omega
    · exact hs
  · exact h.a k h0 hk hkj
theorem UpInv.step (T : Tot le) {L : List Nat} {n j : Nat} (h : UpInv le L n j) (h0 : 0 < j) (hs : le (at_ L j) (at_ L ((j - 1) / 2))) : UpInv le (swp L ((j - 1) / 2) j) n ((j - 1) / 2) := by
  have hlt := h.lt
  have hlen := h.len
  obtain ⟨p, hp⟩ : ∃ p, (j - 1) / 2 = p := ⟨_, rfl⟩
  have hb := h.b h0
  rw [hp] at hs hb ⊢
  have hpj : p < j := by omega
  refine ⟨by omega, by rw [swp_len]; exact hlen, fun k k0 hk hne => ?_, fun p0 c c0 hc e => ?_⟩
  · rw [at_swp (by omega) (by omega), at_swp (by omega) (by omega)]
    by_cases hkj : k = j
    · rw [hkj, hp, if_neg (by omega), if_pos rfl, if_pos rfl]; exact hs
    · rw [if_neg hkj, if_neg hne]
      by_cases h1 : (k - 1) / 2 = j
      · rw [if_pos h1]; exact hb k k0 hk h1
      · rw [if_neg h1]
        have := h.a k k0 hk hkj
        by_cases h2 : (k - 1) / 2 = p
        · rw [if_pos h2]; rw [h2] at this; exact T.tr hs this
        · rw [if_neg h2]; exact this
  · rw [at_swp (by omega) (by omega), at_swp (by omega) (by omega)]
    have hpp := h.a p p0 (by omega) (by omega)
    rw [if_neg (show ¬ (p - 1) / 2 = j by omega), if_neg (show ¬ (p - 1) / 2 = p by omega)]
    by_cases hcj : c = j
    · rw [if_pos hcj]; exact hpp
    · rw [if_neg hcj, if_neg (by omega)]
      have := h.a c c0 hc hcj
      rw [e] at this
      exact T.tr hpp this
structure DownInv (le : Nat → Nat → Prop) (L : List Nat) (n i : Nat) : Prop where
  len : n ≤ L.length
  a : ∀ k, 0 < k → k < n → (k - 1) / 2 ≠ i → le (at_ L ((k - 1) / 2)) (at_ L k)
  b : 0 < i → ∀ c, 0 < c → c < n → (c - 1) / 2 = i → le (at_ L ((i - 1) / 2)) (at_ L c)
theorem down_start {L : List Nat} {n : Nat} (h : Heap le L (n + 1)) (hl : L.length = n + 1) : DownInv le (swp L 0 n) n 0 := by
  refine ⟨by rw [swp_len]; omega, fun k k0 hk hne => ?_, fun h0 => by omega⟩
  rw [at_swp (by omega) (by omega), at_swp (by omega) (by omega), if_neg (by omega), if_neg hne, if_neg (by omega), if_neg (by omega)]
  exact h k k0 (by omega)
theorem DownInv.stop0 {L : List Nat} {n i : Nat} (h : DownInv le L n i) (hs : n ≤ 2 * i + 1) : Heap le L n := fun k k0 hk => h.a k k0 hk (by omega)
theorem DownInv.stop (T : Tot le) {L : List Nat} {n i j : Nat} (h : DownInv le L n i) (hj : j = 2 * i + 1 ∨ j = 2 * i + 2) (hm : ∀ c, (c - 1) / 2 = i → 0 < c → c < n → le (at_ L j) (at_ L c)) (hs : le (at_ L i) (at_ L j)) : Heap le L n := by
  intro k k0 hk
  by_cases e : (k - 1) / 2 = i
  · rw [e]; exact T.tr hs (hm k e k0 hk)
  · exact h.a k k0 hk e
theorem DownInv.step (T : Tot le) {L : List Nat} {n i j : Nat} (h : DownInv le L n i) (hj : j = 2 * i + 1 ∨ j = 2 * i + 2) (hjn : j < n) (hm : ∀ c, (c - 1) / 2 = i → 0 < c → c < n → le (at_ L j) (at_ L c)) (hs : le (at_ L j) (at_ L i)) : DownInv le (swp L i j) n j := by
  have hlen := h.len
  have hji : (j - 1) / 2 = i := by omega
  refine ⟨by rw [swp_len]; exact hlen, fun k k0 hk hne => ?_, fun _ c c0 hc e => ?_⟩
  · rw [at_swp (by omega) (by omega), at_swp (by omega) (by omega), if_neg hne]
    by_cases h1 : (k - 1) / 2 = i
    · rw [if_pos h1]
      by_cases h2 : k = j
      · rw [if_pos h2]; exact hs
      · rw [if_neg h2, if_neg (by omega)]; exact hm k h1 k0 hk
    · rw [if_neg h1, if_neg (show ¬ k = j by rintro rfl; exact h1 hji)]
      by_cases h2 : k = i
      · subst h2
        rw [if_pos rfl]
        exact h.b k0 j (by omega) hjn hji
      · rw [if_neg h2]; exact h.a k k0 hk h1
  · rw [at_swp (by omega) (by omega), at_swp (by omega) (by omega), hji, if_neg (by omega), if_pos rfl, if_neg (by omega), if_neg (by omega)]
    have := h.a c c0 hc (by omega)
    rw [e] at this
    exact this
end
end Sc
