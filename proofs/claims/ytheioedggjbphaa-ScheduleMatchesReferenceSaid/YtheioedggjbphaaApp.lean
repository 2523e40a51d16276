/-
  append, over slices that read as lists: the first one the call's own, the second one any. No program in sight.
-/
import Derived.Laws.AppendOwnNone
import Derived.Test.YtheioedggjbphaaOwn
import Derived.Test.YtheioedggjbphaaMore
namespace Sk
open Go Go.RowKit

/-- a slice that the call owns, with the elements ys -/
def OwnL {α : Type} (w : World) (base e size : Nat) (enc : α → List Value) (v : Value) (ys : List α) : Prop := w.ownsRow base e size v ys.length (ys.flatMap enc)

section
variable {α : Type} {enc : α → List Value} {w w' : World} {base e size : Nat} {v : Value} {ys : List α}
theorem OwnL.nil : OwnL w base e size enc (.slice none 0 0) [] := World.ownsRow_nil _ _ _ _
theorem OwnL.made (h : base ≤ w.heap.size) : OwnL (w.alloc (.cells #[] e)) base e size enc (.slice (some ⟨w.heap.size, 0, none⟩) 0 0) [] := World.ownsRow_made w #[] 0 h (Nat.zero_le _) (by simp)
theorem OwnL.alloc (h : OwnL w base e size enc v ys) (o : Obj) : OwnL (w.alloc o) base e size enc v ys := World.ownsRow.alloc h o
theorem OwnL.below (h : OwnL w base e size enc v ys) (hb : Below w.heap.size w w') : OwnL w' base e size enc v ys := owns_below h hb
theorem OwnL.mono (h : OwnL w base e size enc v ys) {base' : Nat} (hb : base' ≤ base) : OwnL w base' e size enc v ys := owns_mono h hb
theorem OwnL.setCell (h : OwnL w base e size enc v ys) {b j : Nat} {x : Value} (hb : b < base) : OwnL (w.setCell ⟨b, j, none⟩ x) base e size enc v ys := owns_setCell h hb
theorem OwnL.drew (h : OwnL w base e size enc v ys) : OwnL w.drew base e size enc v ys := h.below (Below.refl _ _).drew
theorem OwnL.sl (hk : ∀ x, (enc x).length = size) (h : OwnL w base e size enc v ys) : ∃ ao cap, v = .slice ao ys.length cap ∧ Sl w size enc ao ys.length cap ys := by
  obtain ⟨ao, cap, h1, h2, _⟩ := Sl.of_owns hk h rfl
  exact ⟨ao, cap, h1, h2⟩
end

section
variable {α : Type} {enc : α → List Value} {P : Program} {w : World} {ops : Array Oper} {rest : List Oper} {o : Oper} {a : Act} {Q : Exit → Act → World → Prop}
/-- 'append(ys, l...)' -/
theorem wpList_append_sl (hgd : o.guard = none) (s x : Operand) (t : TypeId) (ho : o.op = .call { callee := .builtin .append, args := #[s, x], argTypes := #[t, t] })
    (base : Nat) (e : TypeId) (i : TypeInfo) (z : Value) (size bytes : Nat) (ht : P.underlying t = some (.slice e)) (hi : P.info? e = some i) (hz : i.zero = some z)
    (hsize : i.size = size) (hby : i.bytes = bytes) (hzs : z.cells.size = size) (hsz : 0 < size) (hk : ∀ x, (enc x).length = size) (h1 : ∀ x, ∀ u ∈ enc x, u.oneCell' = true)
    (v : Value) (ys : List α) (hs : a.eval s = v) (hown : OwnL w base e size enc v ys) (ao : Option Addr) (m c : Nat) (l : List α) (hx : a.eval x = .slice ao m c) (hsl : Sl w size enc ao m c l)
    (h63 : ys.length + m ≤ maxLen) (hbytes : (ys.length + m) * bytes ≤ 140737488355328) (hbase : base ≤ w.heap.size)
    (h : ∀ v' w', OwnL w' base e size enc v' (ys ++ l) → (∀ B, B ≤ base → Below B w w') → w.grownBy w' v.ownBlock → wpList P ops Q rest (a.put o.dst v') w') : wpList P ops Q (o :: rest) a w := by
  have hm := hsl.len
  subst hm
  cases ao with
  | none =>
    have hc := hsl.none rfl
    subst hc
    have h0 : l = [] := List.eq_nil_of_length_eq_zero (by have := hsl.le; omega)
    subst h0
    refine wpList_append_own_none hgd s x t ho base e i size ht hi v ys.length (ys.flatMap enc) hs hown hx ?_
    exact h v w (by rw [List.append_nil]; exact hown) (fun B _ => Below.refl _ _) ⟨rfl, rfl, rfl, Nat.le_refl _, fun _ _ _ => rfl⟩
  | some ad =>
    refine wpList_append_own _ hgd s x t ho base e i z size bytes ht hi hz hsize hby hzs hsz v ys.length (ys.flatMap enc) hs hown ad l.length c (l.flatMap enc) hx (flat_len hk l) ?_ ?_ h63 hbytes hbase ?_
    · intro j u hj
      have hl : l ≠ [] := by rintro rfl; simp at hj
      obtain ⟨b, off, e1, _, _⟩ := hsl.at_ hl
      simp only [Option.some.injEq] at e1
      subst e1
      exact hsl.flat hk rfl j u hj
    · intro u hu
      obtain ⟨y, _, hy⟩ := List.mem_flatMap.1 hu
      exact h1 y u hy
    · intro v' w' h2 h3 _
      refine h v' w' ?_ (fun B hB => below_grown hown hB (Nat.le_trans hB hbase) h3) h3
      unfold OwnL
      rw [List.length_append, List.flatMap_append]
      exact h2
end
/-- a block that is not the row's own stays -/
theorem Box.grown {w w' : World} {b T : Nat} {cs : List Value} (h : Box w b T cs) {row : Option Nat} (hg : w.grownBy w' row) (hne : some b ≠ row) : Box w' b T cs := (hg.block b h.lt hne).trans h
theorem Sl.one {α : Type} {enc : α → List Value} {w : World} {b T k : Nat} {x : α} (hk : ∀ x, (enc x).length = k) (h : Box w b T (enc x)) : Sl w k enc (some ⟨b, 0, Option.none⟩) 1 1 [x] :=
  Sl.lit (l := [x]) hk (by simpa using h) (by simp [maxLen])
end Sk
