/-
  A struct stored as a whole into a block. No program in sight.
-/
import Derived.Laws.Tables
import Derived.Laws.CopyOwn
import Derived.Test.YtheioedggjbphaaKit
namespace Sk
open Go Go.RowKit
theorem wpList_store_box {P : Program} {ops : Array Oper} {rest : List Oper} {o : Oper} {a : Act} {w : World} {Q : Exit → Act → World → Prop} (hgd : o.guard = none) (ty : TypeId) (x y : Operand) (ho : o.op = .store ty x y)
    (g T : Nat) (old cs : List Value) (hx : a.eval x = .pointer (some ⟨g, 0, none⟩)) (hy : a.eval y = .agg cs.toArray) (hb : Box w g T old) (hi : (P.info? ty).map (·.size) = some cs.length) (hold : old.length = cs.length)
    (h1 : cs.all (·.oneCell') = true)
    (h : ∀ W', Box W' g T cs → (∀ B, B ≤ g → Below B w W') → (∀ b T' ds, b ≠ g → Box w b T' ds → Box W' b T' ds) → W'.heap.size = w.heap.size → wpList P ops Q rest (a.put o.dst undef) W') : wpList P ops Q (o :: rest) a w := by
  refine wpList_plain hgd fun K hK => wp_store_row ty x y ho g cs.toArray hx hy T old.toArray hb (by simpa using hi) (by simpa using hold) (by simpa using h1) ?_
  refine hK _ _ (h _ (setRow_heap w g old.toArray cs.toArray T (0, 0) hb) (fun B hB => below_setRow (Below.refl _ _) hB _) (fun b T' ds hne hbx => ?_) (by simp))
  unfold Box at hbx ⊢
  rw [setRow_other _ _ _ _ hne]
  exact hbx
end Sk
