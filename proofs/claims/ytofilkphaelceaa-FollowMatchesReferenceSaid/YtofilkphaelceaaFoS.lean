/-
  Steps and integers as arguments, opened.
-/
import Derived.Test.YtofilkphaelceaaFrame
import Derived.Test.YtofilkphaelceaaFoA
namespace Go.Proofs.Ytofilkphaelceaa
open Go.RowKit Fo Sk
set_option linter.unusedVariables false

section
variable {H : Type} {enc : TypeId × Value → H} {w : World} {base : Nat} {spare : Nat → Bool} {held : Bool}
theorem el_int : ∀ cs, Typed enc Try.prog w base spare held [.int .i64] cs → ∃ u : Int, cs = cI u ∧ I64 u := by
  intro cs h
  cases h with | cons h0 h => cases h; obtain ⟨a, rfl, hw⟩ := h0; exact ⟨a, rfl, hw⟩
theorem el_step : ∀ cs, Typed enc Try.prog w base spare held [.int .i64, .sl 23] cs → ∃ u : St, cs = cS u ∧ StOk w u := by
  intro cs h
  cases h with | cons h0 h => cases h with | cons h1 h => cases h; obtain ⟨a, rfl, _⟩ := h0; obtain ⟨n, x, hx⟩ := h1; obtain ⟨ao, len, cap, l, rfl, hs, hq⟩ := sl_open (dd := 4) (ks := [.int .i64]) (k := 1) Try.underlying23 (by kernel_rfl) (by decide) (by kernel_rfl) rfl el_int hx; exact ⟨⟨a, ao, len, cap, l⟩, rfl, hs, hq⟩
end
end Go.Proofs.Ytofilkphaelceaa
