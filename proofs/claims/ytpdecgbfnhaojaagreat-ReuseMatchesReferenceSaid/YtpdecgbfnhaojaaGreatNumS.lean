/-
  An element of the rows, opened.
-/
import Derived.Test.YtpdecgbfnhaojaaGreatFrame
import Derived.Test.YtpdecgbfnhaojaaGreatNumA
namespace Go.Proofs.YtpdecgbfnhaojaaGreat
open Go.RowKit Nb Sk

theorem el_used {H : Type} {enc : TypeId × Value → H} {w : World} {base : Nat} {spare : Nat → Bool} {held : Bool} : ∀ cs, Typed enc Tryz.prog w base spare held [.int .i64, .int .i64, .int .i64, .int .i64, .int .i64] cs → ∃ u : Us, cs = cU u ∧ True := by
  intro cs h
  obtain ⟨a, b, c, d, e, rfl, _⟩ := Typed.i5 h
  exact ⟨⟨⟨a, b, c⟩, d, e⟩, rfl, trivial⟩
end Go.Proofs.YtpdecgbfnhaojaaGreat
