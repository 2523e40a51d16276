/-
  Small laws for ranges over functions: what a body keeps, boxes, the function's return. No program in sight.
-/
import Derived.RangeFuncNested
import Derived.RangeFuncBound
import Derived.RangeFuncCalls
import Derived.RangeFuncLeaves
import Derived.OwnWalkIn
import Derived.TacticsInMore
import Derived.LoopNIn
import Derived.LoopIn
import Derived.Test.YtheioedggjbphaaMixIn
import Derived.Test.YtheioedggjbphaaKit
namespace Sk
open Go Go.RowKit

/-- these blocks lie as they lay -/
def Same (bs : List Nat) (W W' : World) : Prop := ∀ b ∈ bs, W'.heap[b]? = W.heap[b]?
theorem same_t {bs : List Nat} {A B C : World} (h : Same bs A B) (k : Same bs B C) : Same bs A C := fun b hb => (k b hb).trans (h b hb)
theorem same_b {bs : List Nat} {w : World} (hbs : ∀ b ∈ bs, b < w.heap.size) (W : World) (l : Nat) (o o' : Obj) (hl : w.heap.size ≤ l) (_ : W.heap[l]? = some o) (_ : o.isCells = false) (_ : o.isWalk = false) : Same bs W (W.putObj l o') :=
  fun b hb => World.putObj_heap_other (by have := hbs b hb; omega)
theorem Same.refl (bs : List Nat) (W : World) : Same bs W W := fun _ _ => rfl
theorem Same.box {bs : List Nat} {W W' : World} (h : Same bs W W') {b T : Nat} {cs : List Value} (hb : b ∈ bs) (hx : Box W b T cs) : Box W' b T cs := (h b hb).trans hx
theorem Same.alloc {bs : List Nat} {W : World} (o : Obj) (h : ∀ b ∈ bs, b < W.heap.size) : Same bs W (W.alloc o) := fun b hb => Below.heap_alloc W o b (h b hb)
theorem Same.setCell {bs : List Nat} {W W' : World} {b' j : Nat} {v : Value} (hs : Same bs W W') (h : ∀ b ∈ bs, b ≠ b') : Same bs W (W'.setCell ⟨b', j, none⟩ v) := fun b hb => (Below.heap_setCell W' ⟨b', j, none⟩ v b (h b hb)).trans (hs b hb)
theorem Same.below {bs : List Nat} {W W' W'' : World} (hs : Same bs W W') (hb : Below W'.heap.size W' W'') (h : ∀ b ∈ bs, b < W'.heap.size) : Same bs W W'' := fun b hb' => (hb.block b (h b hb')).trans (hs b hb')

theorem ownFrom_size {β : Type} (C k : Nat) : OwnFrom C (fun (_ : β) W => k ≤ W.heap.size) := fun _ _ _ _ hs hg _ => Nat.le_trans hs hg.size

theorem grown_drew (W : World) : W.grownBy W.drew none := ⟨rfl, rfl, rfl, Nat.le_refl _, fun _ _ _ => rfl⟩

theorem box_own {β : Type} (C B T : Nat) (f : β → List Value) : OwnFrom C (fun s W => Box W B T (f s)) := fun s X Y row hs hg hrow => by
  refine (hg.block B hs.lt (fun e => ?_)).trans hs
  obtain ⟨_, o, ho, hc⟩ := hrow B e.symm
  rw [show X.heap[B]? = _ from hs] at ho; cases ho; cases hc
theorem Box.putObj {w : World} {b T D : Nat} {cs : List Value} (h : Box w b T cs) {o o' : Obj} (hD : w.heap[D]? = some o) (hc : o.isCells = false) : Box (w.putObj D o') b T cs :=
  (World.putObj_heap_other (by rintro rfl; rw [show w.heap[b]? = _ from h] at hD; cases hD; cases hc)).trans h

section
variable {F : Fence} {n : Nat} {P : Program} {fn : Func} {R : Ending → World → Prop} {a : Act} {w : World} {v : Value}
/-- the return of a function with a range over a function in it: no such loop met -/
theorem marks_ret0 (hr : (results fn a.tmps).run P w = .ok v w) (hd : a.defers = []) (hR : R (.returned v) w) : bodyPostM F n P fn R .ret a w := by
  show LeavesInM F n P fn a.tmps R a.defers .returning w
  rw [hd]
  exact ⟨v, hr, hR⟩
/-- .. one such loop met -/
theorem marks_ret1 {D : Nat} (hK : w.heap[D]? = some (.deferred (some []))) (hd : a.defers = [{ target := .collected D, args := #[] }]) (hr : (results fn a.tmps).run P (w.putObj D (.deferred none)) = .ok v (w.putObj D (.deferred none)))
    (hR : R (.returned v) (w.putObj D (.deferred none))) : bodyPostM F n P fn R .ret a w := by
  show LeavesInM F n P fn a.tmps R a.defers .returning w
  rw [hd]
  exact ⟨by simp, .inl ⟨_, _, rfl, run_takeDeferred hK, v, hr, hR⟩⟩
end
end Sk
