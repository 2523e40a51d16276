/-
  The library's sort of integers, at a slice of the call's own.
-/
import Derived.Test.YtofilkphaelceaaFoQ
import Derived.Test.YtofilkphaelceaaReuSh
import Derived.Sort.OwnSortedInts
set_option linter.unusedVariables false
namespace Go.Proofs.Ytofilkphaelceaa
open Go.RowKit Fo Sk Go.Sort
theorem sort_own : SortOk := by
  intro w base v ys h hl
  unfold OwnL at h ⊢
  rw [flat_cI] at h
  rw [flat_cI, srt_len]
  rcases h.2 with ⟨rfl, h0⟩ | ⟨g, cap, cur, rfl, hbg, hgg, hle, hmax, hsz, htake⟩
  · obtain rfl := List.eq_nil_of_length_eq_zero h0
    refine (Try.slices_Sort_int_none none 0 w).mono ?_
    rintro e w' ⟨he, rfl⟩
    exact ⟨he, by rw [show srt [] = [] from by unfold srt; simp]; exact h, ⟨rfl, rfl, rfl, Nat.le_refl _, fun _ _ _ => rfl⟩⟩
  · have hH := holds_of_blockI hgg (ss := ys) (by rw [Nat.mul_one] at htake; exact htake)
    refine (Try.slices_Sort_int g 0 cap ys w hH (Array.getElem?_eq_some_iff.1 hgg).1 (by omega)).mono ?_
    rintro e w' ⟨he, n, os, rfl⟩
    exact ⟨he, ownsRow_sortedI (ss := ys) (ts := srt ys) (srt_len ys) hbg hgg hle hmax hsz, grownBy_sortedI _⟩
end Go.Proofs.Ytofilkphaelceaa
