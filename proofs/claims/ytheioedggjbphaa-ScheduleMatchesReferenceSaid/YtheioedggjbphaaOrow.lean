/-
  Rows of one's own whose elements are structs: cells read, cells and elements written. No program in sight.
-/
import Derived.Laws.OwnMore
import Derived.Deep.MidRow
import Derived.Maps.AppendAt
import Derived.Test.YtheioedggjbphaaApp
set_option linter.unusedVariables false
namespace Sk
open Go Go.RowKit
section
variable {α : Type} {enc : α → List Value} {k : Nat} {w w' : World} {base e g n cap : Nat} {ys : List α}
/-- cells set in turn -/
def setAll (xs : List Value) : Nat → List Value → List Value
  | _, [] => xs
  | o, v :: r => setAll (xs.set o v) (o + 1) r
theorem setAll_mid : ∀ (vs P E Q : List Value), vs.length = E.length → setAll (P ++ (E ++ Q)) P.length vs = P ++ (vs ++ Q)
  | [], P, E, Q, h => by
    obtain rfl : E = [] := List.eq_nil_of_length_eq_zero h.symm
    rfl
  | v :: vs, P, [], Q, h => by simp at h
  | v :: vs, P, e :: E, Q, h => by
    have ih := setAll_mid vs (P ++ [v]) E Q (by simpa using h)
    have e1 : (P ++ (e :: E ++ Q)).set P.length v = P ++ [v] ++ (E ++ Q) := by
      rw [List.set_append_right _ _ (Nat.le_refl _), Nat.sub_self, List.cons_append, List.set_cons_zero, List.append_assoc]; rfl
    unfold setAll
    rw [e1]
    rw [List.length_append, List.length_singleton] at ih
    rw [ih, List.append_assoc]; rfl
theorem set_mid (P E Q : List Value) (i : Nat) (h : i < E.length) (u : Value) : (P ++ (E ++ Q)).set (P.length + i) u = P ++ (E.set i u ++ Q) := by
  rw [List.set_append_right _ _ (Nat.le_add_right _ _), Nat.add_sub_cancel_left, List.set_append_left _ _ h]
theorem flat_parts (ys : List α) (j : Nat) (hj : j < ys.length) : ys.flatMap enc = (ys.take j).flatMap enc ++ (enc ys[j] ++ (ys.drop (j + 1)).flatMap enc) := by
  have h := List.take_append_drop j ys
  rw [List.drop_eq_getElem_cons hj] at h
  conv => lhs; rw [← h]
  rw [List.flatMap_append, List.flatMap_cons]
theorem flat_parts2 (ys : List α) (j : Nat) (hj : j < ys.length) (a : α) : (ys.set j a).flatMap enc = (ys.take j).flatMap enc ++ (enc a ++ (ys.drop (j + 1)).flatMap enc) := by
  rw [flat_parts (ys.set j a) j (by simpa using hj)]
  congr 1
  · rw [List.take_set_of_le (Nat.le_refl _)]
  · rw [List.getElem_set_self, List.drop_set_of_lt (Nat.lt_succ_self _)]
theorem OwnL.len (h : OwnL w base e k enc (.slice (some ⟨g, 0, none⟩) n cap) ys) : ys.length = n := by
  rcases h.2 with ⟨h', _⟩ | ⟨g', cap', cur, h', _⟩
  · simp at h'
  · simp only [Value.slice.injEq] at h'; omega
theorem OwnL.form' {v : Value} (h : OwnL w base e k enc v ys) (hn : 0 < ys.length) : ∃ g cap, v = .slice (some ⟨g, 0, none⟩) ys.length cap ∧ base ≤ g ∧ g < w.heap.size := by
  rcases h.2 with ⟨_, h0⟩ | ⟨g, cap, cur, hv, hb, hg, _⟩
  · omega
  · exact ⟨g, cap, hv, hb, (Array.getElem?_eq_some_iff.1 hg).1⟩
theorem OwnL.slG (hk : ∀ x, (enc x).length = k) (h : OwnL w base e k enc (.slice (some ⟨g, 0, none⟩) n cap) ys) : Sl w k enc (some ⟨g, 0, none⟩) n cap ys := by
  have hn := h.len
  obtain ⟨ao, c, e, hs⟩ := h.sl hk
  simp only [Value.slice.injEq] at e
  obtain ⟨rfl, rfl, rfl⟩ := e
  exact hs
theorem OwnL.cellG (hk : ∀ x, (enc x).length = k) (h : OwnL w base e k enc (.slice (some ⟨g, 0, none⟩) n cap) ys) {j i : Nat} {a : α} {u : Value} (ha : ys[j]? = some a) (hu : (enc a)[i]? = some u) : w.cell? ⟨g, j * k + i, none⟩ = some u := by
  obtain ⟨hj, rfl⟩ := List.getElem?_eq_some_iff.1 ha
  have hi : i < k := by rw [← hk ys[j]]; exact (List.getElem?_eq_some_iff.1 hu).1
  obtain rfl := h.len
  have hlt : j * k + i < ys.length * k := by
    have : (j + 1) * k ≤ ys.length * k := Nat.mul_le_mul_right k hj
    rw [Nat.succ_mul] at this; omega
  rw [World.ownsRow.cellAt h (j * k + i) hlt, flat_get hk ys j i hj hi, hu]
theorem OwnL.frozenG (h : OwnL w base e k enc (.slice (some ⟨g, 0, none⟩) n cap) ys) (j : Nat) : w.frozen? ⟨g, j, none⟩ = false := by
  obtain rfl := h.len
  exact World.ownsRow.frozenAt h j
theorem OwnL.setG (hk : ∀ x, (enc x).length = k) (h : OwnL w base e k enc (.slice (some ⟨g, 0, none⟩) n cap) ys) {j i : Nat} (hj : j < ys.length) (hi : i < k) {u : Value} {a : α} (ha : enc a = (enc ys[j]).set i u) :
    OwnL (w.setCell ⟨g, j * k + i, none⟩ u) base e k enc (.slice (some ⟨g, 0, none⟩) n cap) (ys.set j a) ∧ w.grownBy (w.setCell ⟨g, j * k + i, none⟩ u) (some g) := by
  obtain rfl := h.len
  have hs := World.ownsRow.stored h (j * k + i) u
  refine ⟨?_, hs.2⟩
  have e1 : (ys.flatMap enc).set (j * k + i) u = (ys.set j a).flatMap enc := by
    have hl : ((ys.take j).flatMap enc).length = j * k := by rw [flat_len hk, List.length_take_of_le (by omega)]
    rw [flat_parts ys j hj, flat_parts2 ys j hj a, ← hl, set_mid _ _ _ _ (by rw [hk]; exact hi), ha]
  unfold OwnL
  rw [List.length_set, ← e1]
  exact hs.1
theorem owns_cells : ∀ (vs : List Value) (o : Nat) (w : World) (xs : List Value), w.ownsRow base e k (.slice (some ⟨g, 0, none⟩) n cap) n xs → (w.setCells g o vs).ownsRow base e k (.slice (some ⟨g, 0, none⟩) n cap) n (setAll xs o vs) ∧ w.grownBy (w.setCells g o vs) (some g)
  | [], o, w, xs, h => ⟨h, ⟨rfl, rfl, rfl, Nat.le_refl _, fun _ _ _ => rfl⟩⟩
  | v :: vs, o, w, xs, h => by
    have h1 := World.ownsRow.stored h o v
    have h2 := owns_cells vs (o + 1) _ _ h1.1
    refine ⟨h2.1, ?_⟩
    exact h1.2.trans h2.2
theorem OwnL.putG (hk : ∀ x, (enc x).length = k) (h : OwnL w base e k enc (.slice (some ⟨g, 0, none⟩) n cap) ys) {j : Nat} (hj : j < ys.length) (a : α) :
    OwnL (w.setCells g (j * k) (enc a)) base e k enc (.slice (some ⟨g, 0, none⟩) n cap) (ys.set j a) ∧ w.grownBy (w.setCells g (j * k) (enc a)) (some g) := by
  obtain rfl := h.len
  have hs := owns_cells (enc a) (j * k) w _ h
  refine ⟨?_, hs.2⟩
  have e1 : setAll (ys.flatMap enc) (j * k) (enc a) = (ys.set j a).flatMap enc := by
    have hl : ((ys.take j).flatMap enc).length = j * k := by rw [flat_len hk, List.length_take_of_le (by omega)]
    rw [flat_parts ys j hj, flat_parts2 ys j hj a, ← hl, setAll_mid _ _ _ _ (by rw [hk, hk])]
  unfold OwnL
  rw [List.length_set, ← e1]
  exact hs.1
theorem OwnL.thereG (hk : ∀ x, (enc x).length = k) (h : OwnL w base e k enc (.slice (some ⟨g, 0, none⟩) n cap) ys) {j : Nat} (hj : j < ys.length) : w.there g (j * k) k := fun i hi => by
  refine ⟨?_, h.frozenG _⟩
  have hu : (enc ys[j])[i]? = some ((enc ys[j])[i]'(by rw [hk]; exact hi)) := List.getElem?_eq_getElem _
  rw [h.cellG hk (List.getElem?_eq_getElem hj) hu]; rfl
end
end Sk
