/-
  append within a round of a range over a function; owned slices as invariants of such a range. No program in sight.
-/
import Derived.Test.YtheioedggjbphaaApp
import Derived.Test.YtheioedggjbphaaRange
namespace Sk
open Go Go.RowKit

section
variable {α : Type} {enc : α → List Value}
/-- 'append(ys, l...)', fenced; l's address is there -/
theorem wpListIn_append_sl {F : Fence} {nF : Nat} {P : Program} {w : World} {ops : Array Oper} {rest : List Oper} {o : Oper} {a : Act} {Q : Exit → Act → World → Prop}
    (hgd : o.guard = none) (s x : Operand) (t : TypeId) (ho : o.op = .call { callee := .builtin .append, args := #[s, x], argTypes := #[t, t] })
    (base : Nat) (e : TypeId) (i : TypeInfo) (z : Value) (size bytes : Nat) (ht : P.underlying t = some (.slice e)) (hi : P.info? e = some i) (hz : i.zero = some z)
    (hsize : i.size = size) (hby : i.bytes = bytes) (hzs : z.cells.size = size) (hsz : 0 < size) (hk : ∀ x, (enc x).length = size) (h1 : ∀ x, ∀ u ∈ enc x, u.oneCell' = true)
    (v : Value) (ys : List α) (hs : a.eval s = v) (hown : OwnL w base e size enc v ys) (ad : Addr) (m c : Nat) (l : List α) (hx : a.eval x = .slice (some ad) m c) (hsl : Sl w size enc (some ad) m c l)
    (h63 : ys.length + m ≤ maxLen) (hbytes : (ys.length + m) * bytes ≤ 140737488355328) (hbase : base ≤ w.heap.size)
    (h : ∀ v' w', OwnL w' base e size enc v' (ys ++ l) → (∀ B, B ≤ base → Below B w w') → w.grownBy w' v.ownBlock → wpListIn F nF P ops Q rest (a.put o.dst v') w') : wpListIn F nF P ops Q (o :: rest) a w := by
  have hm := hsl.len
  subst hm
  refine wpListIn_append_own _ hgd s x t ho base e i z size bytes ht hi hz hsize hby hzs hsz v ys.length (ys.flatMap enc) hs hown ad l.length c (l.flatMap enc) hx (flat_len hk l) ?_ ?_ h63 hbytes hbase ?_
  · intro j u hj
    have hl : l ≠ [] := by rintro rfl; simp at hj
    obtain ⟨b, off, e1, _, _⟩ := hsl.at_ hl
    simp only [Option.some.injEq] at e1
    subst e1
    exact hsl.flat hk rfl j u hj
  · intro u hu
    obtain ⟨y, _, hy⟩ := List.mem_flatMap.1 hu
    exact h1 y u hy
  · intro v' w' h2 h3 _
    refine h v' w' ?_ (fun B hB => below_grown hown hB (Nat.le_trans hB hbase) h3) h3
    unfold OwnL
    rw [List.length_append, List.flatMap_append]
    exact h2

/-- an owned slice stays where no cells turn -/
theorem OwnL.grown {w w' : World} {base e size : Nat} {v : Value} {ys : List α} {row : Option Nat} (h : OwnL w base e size enc v ys) (hg : w.grownBy w' row) (hrow : ∀ r, row = some r → ∃ o : Obj, w.heap[r]? = some o ∧ o.isCells = false) : OwnL w' base e size enc v ys := by
  unfold OwnL at h ⊢
  refine ⟨h.1, ?_⟩
  rcases h.2 with hn | ⟨g, cap, cur, rfl, hbg, hgg, rest⟩
  · exact .inl hn
  · refine .inr ⟨g, cap, cur, rfl, hbg, (hg.block g (Array.getElem?_eq_some_iff.1 hgg).1 (fun e => ?_)).trans hgg, rest⟩
    obtain ⟨o, ho, hc⟩ := hrow g e.symm
    rw [hgg] at ho; cases ho; cases hc
theorem ownL_own {β : Type} (C base e size : Nat) (v : β → Value) (f : β → List α) : OwnFrom C (fun s W => OwnL W base e size enc (v s) (f s)) := fun _ _ _ _ hs hg hrow => hs.grown hg (fun r h => (hrow r h).2)
/-- the own row's block lies behind its base -/
theorem OwnL.row {w : World} {base e size : Nat} {v : Value} {ys : List α} (h : OwnL w base e size enc v ys) : ∀ j, v.ownBlock = some j → base ≤ j ∧ j < w.heap.size ∧ ∃ o : Obj, w.heap[j]? = some o ∧ o.isCells = true := by
  intro j hj
  rcases h.2 with ⟨rfl, _⟩ | ⟨g, cap, cur, rfl, hbg, hgg, _⟩
  · cases hj
  · simp [Value.ownBlock] at hj
    subst hj
    exact ⟨hbg, (Array.getElem?_eq_some_iff.1 hgg).1, _, hgg, rfl⟩
end
theorem Same.grown {bs : List Nat} {W W' W'' : World} {row : Option Nat} (hs : Same bs W W') (hg : W'.grownBy W'' row) (hlt : ∀ b ∈ bs, b < W'.heap.size) (hne : ∀ b ∈ bs, some b ≠ row) : Same bs W W'' := fun b hb => (hg.block b (hlt b hb) (hne b hb)).trans (hs b hb)
end Sk
