/-
  The library's sort of integers, at a slice of the call's own.
-/
import Derived.Test.YtheioedggjbphaaSdH
import Derived.Test.YtheioedggjbphaaReuSh
import Derived.Sort.OwnSortedInts
set_option linter.unusedVariables false
namespace Go.Proofs.Ytheioedggjbphaa
open Go.RowKit Sc Sk Go.Sort
theorem flat_cI2 : ∀ l : List Int, l.flatMap cI = l.map (Value.int .i64)
  | [] => rfl
  | x :: l => by rw [List.flatMap_cons, flat_cI2 l]; rfl
theorem srtI_len (l : List Int) : (srtI l).length = l.length := (List.mergeSort_perm l _).length_eq
theorem sort_own : SortOk := by
  intro w base v ys h hl
  unfold OwnL at h ⊢
  rw [flat_cI2] at h
  rw [flat_cI2, srtI_len]
  rcases h.2 with ⟨rfl, h0⟩ | ⟨g, cap, cur, rfl, hbg, hgg, hle, hmax, hsz, htake⟩
  · obtain rfl := List.eq_nil_of_length_eq_zero h0
    refine (Try.slices_Sort_int_none none 0 w).mono ?_
    rintro e w' ⟨he, rfl⟩
    exact ⟨he, by rw [show srtI [] = [] from by unfold srtI; simp]; exact h, ⟨rfl, rfl, rfl, Nat.le_refl _, fun _ _ _ => rfl⟩⟩
  · have hH := holds_of_blockI hgg (ss := ys) (by rw [Nat.mul_one] at htake; exact htake)
    refine (Try.slices_Sort_int g 0 cap ys w hH (Array.getElem?_eq_some_iff.1 hgg).1 (by omega)).mono ?_
    rintro e w' ⟨he, n, os, rfl⟩
    exact ⟨he, ownsRow_sortedI (ss := ys) (ts := srtI ys) (srtI_len ys) hbg hgg hle hmax hsz, grownBy_sortedI _⟩
end Go.Proofs.Ytheioedggjbphaa
