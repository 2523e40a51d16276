/-
  Plain laws of Who and Sure; the walk of 'NumberWho'.
-/
import Derived.Test.YtpdecgbfnhaojaaGreatNumI
namespace Go.Proofs.YtpdecgbfnhaojaaGreat
open Go.RowKit Nb Sk Go.Sort

theorem sl_drew {w : World} {k : Nat} {enc : Us → List Value} {ao : Option Addr} {n cap : Nat} {l : List Us} (h : Sl w k enc ao n cap l) : Sl w.drew k enc ao n cap l := h.below ((Below.refl _ _).drew)

theorem bad_fst {l : List Us} {n : Nm} {lo hi : Int} : (sure l n lo hi).2 = 1 ↔ sureBad l n lo hi = true := by
  constructor
  · intro h
    by_cases hb : sureBad l n lo hi = true
    · exact hb
    · exfalso
      have hb' : sureBad l n lo hi = false := by simpa using hb
      unfold sureBad at hb'
      unfold sure at h
      rw [if_neg (by rw [hb']; simp)] at h
      split at h
      · simp at h
      · split at h <;> simp at h
  · intro h; rw [sure_bad h]

/-- what Sure returns, where what is asked is valid -/
theorem sure_cases {l : List Us} {n : Nm} {lo hi : Int} (h : sureBad l n lo hi = false) :
    (sure l n lo hi = (0, 4) ∧ ∀ u ∈ l, meets n lo hi u = false) ∨
    (∃ i, ∃ h : i < l.length, meets n lo hi l[i] = true ∧ (∀ j (hj : j < l.length), j < i → meets n lo hi l[j] = false) ∧
      ((sure l n lo hi = (0, 5) ∧ ∃ j, ∃ hj : j < l.length, i < j ∧ meets n lo hi l[j] = true) ∨ (sure l n lo hi = ((i : Int), 0) ∧ ∀ j (hj : j < l.length), i < j → meets n lo hi l[j] = false))) := by
  unfold sureBad at h
  unfold sure
  rw [if_neg (by rw [h]; simp)]
  cases hf : l.findIdx? (meets n lo hi) with
  | none =>
    left
    refine ⟨rfl, ?_⟩
    rw [List.findIdx?_eq_none_iff] at hf
    exact hf
  | some i =>
    right
    obtain ⟨hi0, hm, hn⟩ := List.findIdx?_eq_some_iff_getElem.1 hf
    refine ⟨i, hi0, hm, fun j hj hji => by have := hn j hji; simpa using this, ?_⟩
    by_cases ha : (l.drop (i + 1)).any (meets n lo hi) = true
    · left
      refine ⟨by simp [ha], ?_⟩
      obtain ⟨u, hu, hmu⟩ := List.any_eq_true.1 ha
      obtain ⟨k, hk, rfl⟩ := List.getElem_of_mem hu
      have hk' : i + 1 + k < l.length := by simp at hk; omega
      exact ⟨i + 1 + k, hk', by omega, by simpa using hmu⟩
    · right
      have ha' : (l.drop (i + 1)).any (meets n lo hi) = false := by simpa using ha
      refine ⟨by simp [ha'], fun j hj hij => ?_⟩
      rw [List.any_eq_false] at ha'
      have := ha' (l[j]) (by
        rw [List.mem_iff_getElem]
        exact ⟨j - (i + 1), by simp; omega, by simp [show i + 1 + (j - (i + 1)) = j by omega]⟩)
      simpa using this

theorem not_bad {l : List Us} {n : Nm} {lo hi : Int} (h : sureBad l n lo hi = false) : rows l = true ∧ okN n = true ∧ tm lo = true ∧ tm hi = true ∧ lo ≤ hi := by
  unfold sureBad at h
  simp only [Bool.or_eq_false_iff, Bool.not_eq_false', decide_eq_false_iff_not, Int.not_lt] at h
  exact ⟨h.1.1.1.1, h.1.1.1.2, h.1.1.2, h.1.2, h.2⟩

/-- at one time at most one row has a name -/
theorem only_one {l : List Us} (h : RowsOk l) {n : Nm} {t : Int} {i j : Nat} (hi : i < l.length) (hj : j < l.length) (h1 : meets n t t l[i] = true) (h2 : meets n t t l[j] = true) : i = j := by
  rw [meets_iff] at h1 h2
  have key : ∀ a b : Nat, ∀ (ha : a < l.length) (hb : b < l.length), a < b → l[a].nm = n → l[b].nm = n → t < l[a].fe → l[b].fr ≤ t → False := by
    intro a b ha hb hab e1 e2 h3 h4
    have := List.pairwise_iff_getElem.1 h.disj a b ha hb hab (by rw [e1, e2])
    omega
  rcases Nat.lt_trichotomy i j with h | h | h
  · exact (key i j hi hj h h1.1 h2.1 h1.2.2 h2.2.1).elim
  · exact h
  · exact (key j i hj hi h h2.1 h1.1 h2.2.2 h1.2.1).elim

/-- what Who returns -/
theorem who_cases (l : List Us) (n : Nm) (t : Int) :
    (who l n t = (0, 1) ∧ sureBad l n t t = true) ∨
    (sureBad l n t t = false ∧ who l n t = (0, 4) ∧ ∀ u ∈ l, meets n t t u = false) ∨
    (sureBad l n t t = false ∧ ∃ i : Nat, i < l.length ∧ who l n t = ((i : Int), 0) ∧ ∀ j (hj : j < l.length), meets n t t l[j] = true ↔ j = i) := by
  unfold who
  by_cases hb : sureBad l n t t = true
  · left; exact ⟨sure_bad hb, hb⟩
  · right
    have hb' : sureBad l n t t = false := by simpa using hb
    have hro := rows_iff.1 (not_bad hb').1
    rcases sure_cases hb' with ⟨h1, h2⟩ | ⟨i, hi, hm, hlow, h5⟩
    · left; exact ⟨hb', h1, h2⟩
    · right
      rcases h5 with ⟨_, j, hj, hij, hmj⟩ | ⟨h6, h7⟩
      · exact absurd (only_one hro hi hj hm hmj) (by omega)
      · refine ⟨hb', i, hi, h6, fun j hj => ⟨fun h => only_one hro hj hi h hm, fun h => by subst h; exact hm⟩⟩

/-- who has a name at a time of a span is what Sure returns, unless there are two -/
theorem sure_who {l : List Us} {n : Nm} {t lo hi : Int} {i : Nat} (h : i < l.length) (hm : meets n t t l[i] = true) (h1 : lo ≤ t) (h2 : t ≤ hi) (hb : sureBad l n lo hi = false) : (sure l n lo hi).2 = 5 ∨ sure l n lo hi = ((i : Int), 0) := by
  have hm' : meets n lo hi l[i] = true := by
    rw [meets_iff] at hm ⊢
    exact ⟨hm.1, by omega, by omega⟩
  rcases sure_cases hb with ⟨_, h4⟩ | ⟨k, hk, hmk, hlow, h5⟩
  · have := h4 _ (List.getElem_mem h); rw [hm'] at this; cases this
  · rcases h5 with ⟨h6, _⟩ | ⟨h6, h7⟩
    · left; rw [h6]
    · right
      rcases Nat.lt_trichotomy i k with h8 | h8 | h8
      · have := hlow i h h8; rw [hm'] at this; cases this
      · subst h8; exact h6
      · have := h7 i h h8; rw [hm'] at this; cases this

end Go.Proofs.YtpdecgbfnhaojaaGreat
