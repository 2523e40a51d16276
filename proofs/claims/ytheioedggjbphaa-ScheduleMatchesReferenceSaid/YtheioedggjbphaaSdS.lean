/-
  Jobs, what is sent, integers as arguments, opened.
-/
import Derived.Test.YtheioedggjbphaaFrame
import Derived.Test.YtheioedggjbphaaScA
namespace Go.Proofs.Ytheioedggjbphaa
open Go.RowKit Sc Sk
set_option linter.unusedVariables false
section
variable {H : Type} {enc : TypeId × Value → H} {w : World} {base : Nat} {spare : Nat → Bool} {held : Bool}
theorem el_job : ∀ cs, Typed enc Try.prog w base spare held [.int .i64, .int .i64, .int .i64, .int .i64] cs → ∃ u : Jb, cs = cJ u ∧ True := by
  intro cs h
  obtain ⟨a, b, c, d, rfl, h1, h2, h3, h4⟩ := Typed.i4 h
  exact ⟨⟨a, b, c, d⟩, rfl, trivial⟩
theorem el_sent : ∀ cs, Typed enc Try.prog w base spare held [.int .i64, .int .i64, .int .i64] cs → ∃ u : Sn, cs = cS u ∧ True := by
  intro cs h
  obtain ⟨a, b, c, rfl, h1, h2, h3⟩ := Typed.i3 h
  exact ⟨⟨a, b, c⟩, rfl, trivial⟩
end
end Go.Proofs.Ytheioedggjbphaa
