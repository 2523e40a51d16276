/-
  An element of the rows, opened.
-/
import Derived.Test.YtpdecgbfnhaojaaFrame
import Derived.Test.YtpdecgbfnhaojaaNumA
namespace Go.Proofs.Ytpdecgbfnhaojaa
open Go.RowKit Nb Sk

theorem el_used {H : Type} {enc : TypeId × Value → H} {w : World} {base : Nat} {spare : Nat → Bool} {held : Bool} : ∀ cs, Typed enc Try.prog w base spare held [.int .i64, .int .i64, .int .i64, .int .i64, .int .i64] cs → ∃ u : Us, cs = cU u ∧ True := by
  intro cs h
  obtain ⟨a, b, c, d, e, rfl, _⟩ := Typed.i5 h
  exact ⟨⟨⟨a, b, c⟩, d, e⟩, rfl, trivial⟩
end Go.Proofs.Ytpdecgbfnhaojaa
