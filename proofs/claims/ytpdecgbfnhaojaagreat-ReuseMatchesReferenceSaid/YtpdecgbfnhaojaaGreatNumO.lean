/-
  Plain law: how many numbers are free does not depend on where the turn begins (a closed fact over 100 beginnings: 90 s).
-/
import Derived.Test.YtpdecgbfnhaojaaGreatNumN
namespace Go.Proofs.YtpdecgbfnhaojaaGreat
open Go.RowKit Nb Sk Go.Sort

def allNu : List Int := (List.range 99).map fun (i : Nat) => (i : Int) + 1
theorem turn_perm_all : ((List.range 100).all fun (k : Nat) => (turn (k : Int)).isPerm allNu) = true := by kernel_rfl
theorem turn_perm {last : Int} (h : 0 ≤ last ∧ last ≤ 99) : (turn last).Perm allNu := by
  obtain ⟨k, rfl⟩ : ∃ k : Nat, last = k := ⟨last.toNat, by omega⟩
  have := List.all_eq_true.1 turn_perm_all k (by simp; omega)
  exact List.isPerm_iff.1 this

/-- how many numbers are free, in their own order -/
def freeN (l : List Us) (st kd now : Int) : Nat := (allNu.filter fun x => !used l ⟨st, kd, x⟩ now).length
theorem frees_len {l : List Us} {st kd now : Int} (h : RowsOk l) : (frees l st kd now).length = freeN l st kd now := by
  unfold frees freeN
  rw [List.filter_map, List.length_map]
  exact ((turn_perm (lastNu_range h st kd)).filter _).length_eq
end Go.Proofs.YtpdecgbfnhaojaaGreat
