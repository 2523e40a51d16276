/-
  append over slices that read as lists, with the place of the new slice. No program in sight.
-/
import Derived.Deep.AppendLies
import Derived.Test.YtheioedggjbphaaApp
import Derived.Laws.Slices
namespace Sk
open Go Go.RowKit
section
variable {α : Type} {enc : α → List Value} {P : Program} {w : World} {ops : Array Oper} {rest : List Oper} {o : Oper} {a : Act} {Q : Exit → Act → World → Prop}
/-- 'append(ys, l...)', l not empty: the new slice lies in the old block or in the one that is made now -/
theorem wpList_append_lie (hgd : o.guard = none) (s x : Operand) (t : TypeId) (ho : o.op = .call { callee := .builtin .append, args := #[s, x], argTypes := #[t, t] })
    (base : Nat) (e : TypeId) (i : TypeInfo) (z : Value) (size bytes : Nat) (ht : P.underlying t = some (.slice e)) (hi : P.info? e = some i) (hz : i.zero = some z)
    (hsize : i.size = size) (hby : i.bytes = bytes) (hzs : z.cells.size = size) (hsz : 0 < size) (hk : ∀ x, (enc x).length = size) (h1 : ∀ x, ∀ u ∈ enc x, u.oneCell' = true)
    (v : Value) (ys : List α) (hs : a.eval s = v) (hown : OwnL w base e size enc v ys) (ao : Option Addr) (m c : Nat) (l : List α) (hx : a.eval x = .slice ao m c) (hsl : Sl w size enc ao m c l) (hm0 : 0 < m)
    (h63 : ys.length + m ≤ maxLen) (hbytes : (ys.length + m) * bytes ≤ 140737488355328) (hbase : base ≤ w.heap.size)
    (h : ∀ g cap w', OwnL w' base e size enc (.slice (some ⟨g, 0, none⟩) (ys.length + m) cap) (ys ++ l) → (∀ B, B ≤ base → Below B w w') → w.grownBy w' v.ownBlock → (v.ownBlock = some g ∨ g = w.heap.size) → g < w'.heap.size →
      wpList P ops Q rest (a.put o.dst (.slice (some ⟨g, 0, none⟩) (ys.length + m) cap)) w') : wpList P ops Q (o :: rest) a w := by
  have hm := hsl.len
  subst hm
  cases ao with
  | none =>
    have hc := hsl.none rfl
    subst hc
    have := hsl.le
    omega
  | some ad =>
    refine wpList_append_lies w hgd s x t ho base e i z size bytes ht hi hz hsize hby hzs hsz v ys.length (ys.flatMap enc) hs hown ad l.length c (l.flatMap enc) hx (flat_len hk l) ?_ ?_ hm0 h63 hbytes hbase _ rfl ?_
    · intro j u hj
      have hl : l ≠ [] := by rintro rfl; simp at hj
      obtain ⟨b, off, e1, _, _⟩ := hsl.at_ hl
      simp only [Option.some.injEq] at e1
      subst e1
      exact hsl.flat hk rfl j u hj
    · intro u hu
      obtain ⟨y, _, hy⟩ := List.mem_flatMap.1 hu
      exact h1 y u hy
    · intro g cap w' h2 h3 h4 h5
      refine h g cap w' ?_ (fun B hB => below_grown hown hB (Nat.le_trans hB hbase) h3) h3 h4 h5
      unfold OwnL
      rw [List.length_append, List.flatMap_append]
      exact h2
end
/-- 's[:j]' as one fact -/
theorem slice_head {α : Type} {P : Program} {t : TypeId} {k : Nat} {enc : α → List Value} {w : World} {ao : Option Addr} {n cap : Nat} {l : List α} (ht : P.underlying t = some (.slice (P.elem t))) (hs : ∀ W, (Go.sizeOf (P.elem t)).run P W = .ok k W)
    (h : Sl w k enc ao n cap l) (j : Nat) (hj : j ≤ n) : ∀ W, (Instr.sliceAt t (.slice ao n cap) none (some (.int .i64 (j : Int))) none).run P W = .ok (.slice ao j cap) W := by
  intro W
  have := h.le
  have := h.len
  rw [run_sliceAt_slice W t _ _ _ _ ht, run_slice_h W t ao n cap ht .i64 (j : Int) (by omega) (by omega), hs]
  cases ao <;> simp [Result.andThen, sliced, Addr.add]
end Sk
