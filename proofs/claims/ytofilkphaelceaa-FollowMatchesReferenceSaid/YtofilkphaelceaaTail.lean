/-
  's[j:]' as one fact, wherever the capacity ends. No program in sight.
-/
import Derived.Laws.Slices
import Derived.Test.YtofilkphaelceaaKit
namespace Sk
open Go Go.RowKit

theorem slice_tail {α : Type} {P : Program} {t : TypeId} {w : World} {k : Nat} {enc : α → List Value} {ao : Option Addr} {n cap : Nat} {l : List α} (ht : P.underlying t = some (.slice (P.elem t))) (hs : ∀ W, (Go.sizeOf (P.elem t)).run P W = .ok k W)
    (h : Sl w k enc ao n cap l) (j : Nat) (hj : j ≤ n) :
    ∃ ao', (∀ W, (Instr.sliceAt t (.slice ao n cap) (some (.int .i64 (j : Int))) none none).run P W = .ok (.slice ao' (n - j) (cap - j)) W) ∧ Sl w k enc ao' (n - j) (cap - j) (l.drop j) := by
  have hl := h.len
  refine ⟨if cap = j then ao else ao.map (·.add (j * k)), fun W => ?_, ?_⟩
  · rw [run_sliceAt_slice W t _ _ _ _ ht, run_slice_l W t ao n cap ht .i64 (j : Int) (by omega) (by omega), hs]
    simp [Result.andThen, sliced]
  · refine h.drop (n := j) (by omega) (by omega) rfl ?_ ?_
    · split
      · exact id
      · cases ao <;> simp
    · intro b off e hlt
      rw [if_neg (by omega), e]
      simp [Addr.add]
end Sk
