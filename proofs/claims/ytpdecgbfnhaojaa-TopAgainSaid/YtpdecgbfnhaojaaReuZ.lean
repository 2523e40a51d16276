/-
  Elements of arguments: requests.
-/
import Derived.Test.YtpdecgbfnhaojaaReuS
import Derived.Test.YtpdecgbfnhaojaaReuU
set_option linter.unusedVariables false
namespace Go.Proofs.Ytpdecgbfnhaojaa
open Go.RowKit Nb Sk Ck
section
variable {H : Type} {enc : TypeId × Value → H} {w : World} {base : Nat} {spare : Nat → Bool} {held : Bool}
theorem el_ask : ∀ cs, Typed enc Try.prog w base spare held [.int .i64, .int .i64, .int .i64] cs → ∃ u : A3, cs = cA u ∧ True := by
  intro cs h
  obtain ⟨a, b, c, rfl, _⟩ := Typed.i3 h
  exact ⟨(a, b, c), rfl, trivial⟩
end
end Go.Proofs.Ytpdecgbfnhaojaa
