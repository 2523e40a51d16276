/-
  Maps as sets: what a map[int]bool of the call's own holds, read as a test.
-/
import Derived.Maps.OwnSet
import Derived.Maps.OwnOps
import Derived.Maps.RangeWalk
import Derived.Maps.Views
import Derived.Test.YtofilkphaelceaaProg
import Derived.Test.YtofilkphaelceaaKit
set_option linter.unusedVariables false
namespace Go.Proofs.Ytofilkphaelceaa
open Go Go.RowKit Sk

/-- an int64 -/
def I64 (x : Int) : Prop := (Lit.int .i64 x).wf = true
theorem i64_of {x : Int} (h1 : -9223372036854775808 ≤ x) (h2 : x ≤ 9223372036854775807) : I64 x := by
  unfold I64
  simp only [Lit.wf, Bool.and_eq_true, decide_eq_true_eq]
  exact ⟨h1, h2⟩
theorem lawI : Maps.Keyed Try.prog 3 := Maps.int_keyed Try.underlying3
theorem zeroB (w : World) : (zeroValue 4).run Try.prog w = .ok (.bool false) w := by kernel_rfl
theorem keyI {x : Int} (h : I64 x) : keyOf Try.prog 3 (.int .i64 x) = some (.int .i64 x) := Maps.keyOf_int_mk Try.underlying3 h

theorem plainElem_bool_inv {H : Type} {v : Value} {z : DataW H × List MemPlace} (h : plainElem Try.prog 4 v = some z) : ∃ x, v = .bool x ∧ z = (.lit (.bool x), []) := by
  unfold plainElem at h
  rw [Try.underlying4] at h
  cases v <;> simp at h
  exact ⟨_, rfl, h.symm⟩

/-- block b is a map of at most n entries, the set of the numbers with S -/
def SetOf (w : World) (b n : Nat) (S : Int → Bool) : Prop :=
  ∃ D : DataW Unit, w.ownsMap Try.prog 3 (plainElem Try.prog 4) b n D ∧ (∀ x, I64 x → Maps.has D (.int .i64 x) = S x) ∧ ∀ x, I64 x → D.atKey (.int .i64 x) (.lit (.bool false)) = .lit (.bool (S x))

theorem SetOf.made (w : World) : SetOf (w.alloc (.map #[] 0)) w.heap.size 0 (fun _ => false) :=
  ⟨.map [], World.ownsMap_made _ _ _ _, fun x _ => rfl, fun x _ => rfl⟩
section
variable {w w' : World} {b n : Nat} {S : Int → Bool}
theorem SetOf.lt (h : SetOf w b n S) : b < w.heap.size := by obtain ⟨D, h, _⟩ := h; exact h.lt
theorem SetOf.mono (h : SetOf w b n S) {n' : Nat} (hn : n ≤ n') : SetOf w b n' S := by obtain ⟨D, h, r⟩ := h; exact ⟨D, h.mono hn, r⟩
theorem SetOf.kept {row : Option Nat} (h : SetOf w b n S) (hg : w.grownBy w' row) (hne : some b ≠ row) : SetOf w' b n S := by obtain ⟨D, h, r⟩ := h; exact ⟨D, h.kept hg hne, r⟩
theorem SetOf.below (h : SetOf w b n S) (hb : Below w.heap.size w w') : SetOf w' b n S := by
  have hlt := h.lt
  obtain ⟨D, ⟨es, clock, h1, h2⟩, r⟩ := h
  exact ⟨D, ⟨es, clock, (hb.block b hlt).trans h1, h2⟩, r⟩
theorem SetOf.alloc (h : SetOf w b n S) (o : Obj) : SetOf (w.alloc o) b n S := by obtain ⟨D, h, r⟩ := h; exact ⟨D, h.alloc o, r⟩
theorem SetOf.drew (h : SetOf w b n S) : SetOf w.drew b n S := h
theorem SetOf.setCell (h : SetOf w b n S) {a : Addr} (ha : b ≠ a.block) (u : Value) : SetOf (w.setCell a u) b n S := by obtain ⟨D, h, r⟩ := h; exact ⟨D, h.setCell ha u, r⟩
theorem SetOf.congr (h : SetOf w b n S) {S' : Int → Bool} (e : ∀ x, I64 x → S x = S' x) : SetOf w b n S' := by
  obtain ⟨D, h, r1, r2⟩ := h
  exact ⟨D, h, fun x hx => by rw [r1 x hx, e x hx], fun x hx => by rw [r2 x hx, e x hx]⟩
/-- the look-up, as an equation for the walk -/
theorem SetOf.look (h : SetOf w b n S) {x : Int} (hx : I64 x) {v : Bool} (hv : S x = v) : (Instr.lookup 52 (.map (some b)) (.int .i64 x) false).run Try.prog w = .ok (.bool v) w := by
  obtain ⟨D, h, _, r⟩ := h
  obtain ⟨u, ps, hrun, hu⟩ := h.lookup lawI Try.underlying52 (zeroB w) (plainElem_bool Try.underlying4 false) (keyI hx)
  rw [r x hx] at hu
  obtain ⟨y, rfl, hy⟩ := plainElem_bool_inv hu
  simp only [Prod.mk.injEq, DataW.lit.injEq, Lit.bool.injEq] at hy
  rw [← hy.1, hv] at hrun
  exact hrun
end

theorem kli (x : Int) : WideAt.IsKeyLit (.int .i64 x) := trivial
theorem has_put {D : DataW Unit} (hD : Maps.IsMap D) (x y : Int) : Maps.has (D.put (.int .i64 x) (.lit (.bool true))) (.int .i64 y) = (Maps.has D (.int .i64 y) || y == x) := by
  by_cases h : y = x
  · subst h
    rw [Maps.has_put_same hD (kli _)]
    simp
  · rw [Maps.has_put_other (by simp; omega)]
    simp [h]

section
variable {P : Program} {w : World} {ops : Array Oper} {rest : List Oper} {o : Oper} {a : Act} {Q : Exit → Act → World → Prop}
/-- 's[x] = true' -/
theorem wpList_put_set (hg : o.guard = none) (m x v : Operand) (hop : o.op = Op.mapUpdate 52 m x v) (b n : Nat) (S : Int → Bool)
    (hm : a.eval m = .map (some b)) (h : SetOf w b n S) (hn : n < maxLen) (y : Int) (hx : a.eval x = .int .i64 y) (hv : a.eval v = .bool true) (hy : I64 y)
    (hK : ∀ w', SetOf w' b (n + 1) (fun z => S z || z == y) → w.grownBy w' (some b) → wpList Try.prog ops Q rest (a.put o.dst undef) w') :
    wpList Try.prog ops Q (o :: rest) a w := by
  obtain ⟨D, h1, h2, h3⟩ := h
  have hD := h1.isMap
  refine wpList_mapUpdate_own w hg m x v 52 hop 3 4 lawI Try.underlying52 _ b n D hm h1 hn _ _ _ hx hv (keyI hy) _ [] (plainElem_bool Try.underlying4 true) ?_
  intro w' h4 h5
  refine hK w' ⟨_, h4, fun z hz => by rw [has_put hD, h2 z hz], fun z hz => ?_⟩ h5
  by_cases e : z = y
  · subst e
    rw [Maps.atKey_put_same hD (kli _)]
    simp
  · rw [Maps.atKey_put_other (by simp; omega), h3 z hz]
    simp [e]
end
end Go.Proofs.Ytofilkphaelceaa
