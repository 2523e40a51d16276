/-
  Elements of arguments: clocks, rows.
-/
import Derived.Test.YtpdecgbfnhaojaaGreatFrame
import Derived.Test.YtpdecgbfnhaojaaGreatNumS
import Derived.Test.YtpdecgbfnhaojaaGreatClkA
set_option linter.unusedVariables false
namespace Go.Proofs.YtpdecgbfnhaojaaGreat
open Go.RowKit Nb Sk Ck
section
variable {H : Type} {enc : TypeId × Value → H} {w : World} {base : Nat} {spare : Nat → Bool} {held : Bool}
theorem el_clock : ∀ cs, Typed enc Tryz.prog w base spare held [.int .i64, .int .i64, .int .i64, .int .i64] cs → ∃ u : Clk, cs = cC u ∧ True := by
  intro cs h
  obtain ⟨a, b, c, d, rfl, _⟩ := Typed.i4 h
  exact ⟨⟨a, b, c, d⟩, rfl, trivial⟩
end
end Go.Proofs.YtpdecgbfnhaojaaGreat
