/-
  Two rows of one's own that lie apart: the one stays when the other grows. No program in sight.
-/
import Derived.Test.YtheioedggjbphaaLie
set_option linter.unusedVariables false
namespace Sk
open Go Go.RowKit
/-- no block of the one is a block of the other -/
def Apart (u v : Value) : Prop := ∀ g, u.ownBlock = some g → v.ownBlock ≠ some g
theorem Apart.symm {u v : Value} (h : Apart u v) : Apart v u := fun g h1 h2 => h g h2 h1
theorem OwnL.far {α : Type} {enc : α → List Value} {w w' : World} {base e size : Nat} {u v : Value} {ys : List α} (h : OwnL w base e size enc v ys) (hg : w.grownBy w' u.ownBlock) (ha : Apart v u) : OwnL w' base e size enc v ys :=
  World.ownsRow.kept h hg (by
    cases hv : v.ownBlock with
    | none => exact .inl rfl
    | some g => exact .inr fun e => ha g hv e.symm)
theorem Apart.lie {w : World} {g n cap : Nat} {u v : Value} (h : Apart u v) (hl : ∀ k, v.ownBlock = some k → k < w.heap.size) (hg : u.ownBlock = some g ∨ g = w.heap.size) : Apart (.slice (some ⟨g, 0, none⟩) n cap) v := fun k hk hv => by
  simp [Value.ownBlock] at hk
  subst hk
  rcases hg with hg | hg
  · exact h g hg hv
  · have := hl g hv; omega
theorem apart_nil (v : Value) : Apart (.slice none 0 0) v := fun g h => by simp [Value.ownBlock] at h
/-- a row that was made later lies apart -/
theorem Apart.later {α β : Type} {enc : α → List Value} {enc' : β → List Value} {w w' : World} {base e size base' e' size' : Nat} {u v : Value} {ys : List α} {zs : List β} (h : OwnL w base e size enc v ys) (h' : OwnL w' base' e' size' enc' u zs) (hb : w.heap.size ≤ base') : Apart u v := fun g h1 h2 => by
  have := (World.ownsRow.lt h g h2).2
  have := (World.ownsRow.lt h' g h1).1
  omega
end Sk
