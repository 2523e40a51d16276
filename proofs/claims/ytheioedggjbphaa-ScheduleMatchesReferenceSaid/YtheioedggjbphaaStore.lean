/-
  Stores of a whole struct into a block of the call's own. No program in sight.
-/
import Derived.Test.YtheioedggjbphaaKit
namespace Sk
open Go Go.RowKit
section
variable (w : World) (X : Nat)
theorem store1 (v0 : Value) : ∃ W, w.setCell ⟨X, 0, none⟩ v0 = W ∧ (∀ B, B ≤ X → Below B w W) ∧ (∀ T u0, Box w X T [u0] → Box W X T [v0]) ∧ (∀ b T cs, b ≠ X → Box w b T cs → Box W b T cs) :=
  ⟨_, rfl, fun B h => (Below.refl B w).setCell (p := ⟨X, 0, none⟩) h _, fun _ _ h => h.set 0 v0, fun _ _ _ hb h => h.other hb⟩
theorem store2 (v0 v1 : Value) : ∃ W, (w.setCell ⟨X, 0, none⟩ v0).setCell ⟨X, 1, none⟩ v1 = W ∧ (∀ B, B ≤ X → Below B w W) ∧ (∀ T u0 u1, Box w X T [u0, u1] → Box W X T [v0, v1]) ∧ (∀ b T cs, b ≠ X → Box w b T cs → Box W b T cs) :=
  ⟨_, rfl, fun B h => ((Below.refl B w).setCell (p := ⟨X, 0, none⟩) h _).setCell (p := ⟨X, 1, none⟩) h _, fun _ _ _ h => (h.set 0 v0).set 1 v1, fun _ _ _ hb h => (h.other hb).other hb⟩
theorem store3 (v0 v1 v2 : Value) : ∃ W, ((w.setCell ⟨X, 0, none⟩ v0).setCell ⟨X, 1, none⟩ v1).setCell ⟨X, 2, none⟩ v2 = W ∧ (∀ B, B ≤ X → Below B w W) ∧ (∀ T u0 u1 u2, Box w X T [u0, u1, u2] → Box W X T [v0, v1, v2]) ∧
    (∀ b T cs, b ≠ X → Box w b T cs → Box W b T cs) :=
  ⟨_, rfl, fun B h => (((Below.refl B w).setCell (p := ⟨X, 0, none⟩) h _).setCell (p := ⟨X, 1, none⟩) h _).setCell (p := ⟨X, 2, none⟩) h _, fun _ _ _ _ h => ((h.set 0 v0).set 1 v1).set 2 v2, fun _ _ _ hb h => ((h.other hb).other hb).other hb⟩
end
/-- a slice that lay there before a block that is stored to -/
theorem Sl.old {α : Type} {k : Nat} {enc : α → List Value} {w w' : World} {ao : Option Addr} {n cap : Nat} {l : List α} (h : Sl w k enc ao n cap l) (hb : Below w.heap.size w w') : Sl w' k enc ao n cap l := h.below hb
end Sk
