/-
  Walks of the layer 'eyes': rows of one's own of acts and errors.
-/
import Derived.Test.YtmbnhlihcnbebaaEyQ
import Derived.Test.YtmbnhlihcnbebaaOrow
set_option linter.unusedVariables false
namespace Ey
def ac0 : Ac := ⟨0, 0, 0, 0, bx0⟩
end Ey
namespace Go.Proofs.Ytmbnhlihcnbebaa
open Go Go.RowKit Ey Sk Go.Sort
theorem cA_one : ∀ x, ∀ u ∈ cA x, u.oneCell' = true := by intro x u hu; simp [cA] at hu; rcases hu with rfl | rfl | rfl | rfl | rfl | rfl | rfl | rfl <;> rfl
theorem info_act : (Try.prog.info? 37).map (fun i => (i.zero, i.size, i.bytes)) = some (some (eA ac0), 8, 64) := by kernel_rfl
theorem size_act : (Try.prog.info? 37).map (·.size) = some 8 := by kernel_rfl
theorem cA_all (a : Ac) : (cA a).toArray.all (·.oneCell') = true := all_oneCell_toArray (cA_one a)
section
variable {w w' : World} {base g n cap T : Nat}
theorem OwnL.cellI {ys : List Int} (h : OwnL w base T 1 cI (.slice (some ⟨g, 0, none⟩) n cap) ys) {j : Nat} {x : Int} (hx : ys[j]? = some x) : w.cell? ⟨g, j, none⟩ = some (.int .i64 x) := by
  have := h.cellG cI_len hx (i := 0) rfl
  rwa [Nat.mul_one, Nat.add_zero] at this
theorem OwnL.setI {ys : List Int} (h : OwnL w base T 1 cI (.slice (some ⟨g, 0, none⟩) n cap) ys) {j : Nat} (hj : j < ys.length) (x : Int) : OwnL (w.setCell ⟨g, j, none⟩ (.int .i64 x)) base T 1 cI (.slice (some ⟨g, 0, none⟩) n cap) (ys.set j x) ∧ w.grownBy (w.setCell ⟨g, j, none⟩ (.int .i64 x)) (some g) := by
  have := h.setG cI_len hj (i := 0) (by decide) (u := .int .i64 x) (a := x) rfl
  rwa [Nat.mul_one, Nat.add_zero] at this
theorem OwnL.cellsA {ys : List Ac} (h : OwnL w base T 8 cA (.slice (some ⟨g, 0, none⟩) n cap) ys) {j : Nat} {a : Ac} (hx : ys[j]? = some a) :
    w.cell? ⟨g, j * 8, none⟩ = some (.int .i64 a.kind) ∧ w.cell? ⟨g, j * 8 + 1, none⟩ = some (.int .i64 a.danger) ∧ w.cell? ⟨g, j * 8 + 2, none⟩ = some (.int .i64 a.person) ∧ w.cell? ⟨g, j * 8 + 3, none⟩ = some (.int .i64 a.time) ∧
    w.cell? ⟨g, j * 8 + 4, none⟩ = some (.int .i64 a.area.a) ∧ w.cell? ⟨g, j * 8 + 5, none⟩ = some (.int .i64 a.area.b) ∧ w.cell? ⟨g, j * 8 + 6, none⟩ = some (.int .i64 a.area.c) ∧ w.cell? ⟨g, j * 8 + 7, none⟩ = some (.int .i64 a.area.d) :=
  ⟨h.cellG cA_len hx (i := 0) rfl, h.cellG cA_len hx (i := 1) rfl, h.cellG cA_len hx (i := 2) rfl, h.cellG cA_len hx (i := 3) rfl, h.cellG cA_len hx (i := 4) rfl, h.cellG cA_len hx (i := 5) rfl, h.cellG cA_len hx (i := 6) rfl, h.cellG cA_len hx (i := 7) rfl⟩
end
end Go.Proofs.Ytmbnhlihcnbebaa
