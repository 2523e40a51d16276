/-
  Acts and dangers as arguments, opened.
-/
import Derived.Test.YtmbnhlihcnbebaaFrame
import Derived.Test.YtmbnhlihcnbebaaEyA
namespace Go.Proofs.Ytmbnhlihcnbebaa
open Go.RowKit Ey Sk
set_option linter.unusedVariables false

section
variable {H : Type} {enc : TypeId × Value → H} {w : World} {base : Nat} {spare : Nat → Bool} {held : Bool}
theorem el_act : ∀ cs, Typed enc Try.prog w base spare held [.int .i64, .int .i64, .int .i64, .int .i64, .int .i64, .int .i64, .int .i64, .int .i64] cs → ∃ u : Ac, cs = cA u ∧ True := by
  intro cs h
  cases h with | cons h0 h => cases h with | cons h1 h => cases h with | cons h2 h => cases h with | cons h3 h => cases h with | cons h4 h => cases h with | cons h5 h => cases h with | cons h6 h => cases h with | cons h7 h => cases h; obtain ⟨a, rfl, _⟩ := h0; obtain ⟨b, rfl, _⟩ := h1; obtain ⟨c, rfl, _⟩ := h2; obtain ⟨d, rfl, _⟩ := h3; obtain ⟨e, rfl, _⟩ := h4; obtain ⟨f, rfl, _⟩ := h5; obtain ⟨g, rfl, _⟩ := h6; obtain ⟨i, rfl, _⟩ := h7; exact ⟨⟨a, b, c, d, ⟨e, f, g, i⟩⟩, rfl, trivial⟩
theorem el_dg : ∀ cs, Typed enc Try.prog w base spare held [.int .i64, .bool, .int .i64, .int .i64, .int .i64, .int .i64, .int .i64, .bool, .int .i64, .int .i64, .int .i64, .int .i64] cs → ∃ u : Dg, cs = cD u ∧ True := by
  intro cs h
  cases h with | cons h0 h => cases h with | cons h1 h => cases h with | cons h2 h => cases h with | cons h3 h => cases h with | cons h4 h => cases h with | cons h5 h => cases h with | cons h6 h => cases h with | cons h7 h => cases h with | cons h8 h => cases h with | cons h9 h => cases h with | cons h10 h => cases h with | cons h11 h => cases h; obtain ⟨a0, rfl, _⟩ := h0; obtain ⟨a1, rfl⟩ := h1; obtain ⟨a2, rfl, _⟩ := h2; obtain ⟨a3, rfl, _⟩ := h3; obtain ⟨a4, rfl, _⟩ := h4; obtain ⟨a5, rfl, _⟩ := h5; obtain ⟨a6, rfl, _⟩ := h6; obtain ⟨a7, rfl⟩ := h7; obtain ⟨a8, rfl, _⟩ := h8; obtain ⟨a9, rfl, _⟩ := h9; obtain ⟨a10, rfl, _⟩ := h10; obtain ⟨a11, rfl, _⟩ := h11; exact ⟨⟨a0, a1, ⟨a2, a3, a4, a5⟩, a6, a7, ⟨a8, a9, a10, a11⟩⟩, rfl, trivial⟩
set_option maxRecDepth 100000 in
theorem arg_act {r : Reach} {b0 : Nat} {v : Value} {d : DataW H} {p : List MemPlace} (hv : Value.okWide Try.prog w r b0 37 v) (h : DataW.Trod enc Try.prog w base spare held 37 v d p) :
    ∃ a : Ac, v = eA a ∧ True := by
  obtain ⟨cs, rfl, ht⟩ := arg_agg (dd := 4) (ks := [.int .i64, .int .i64, .int .i64, .int .i64, .int .i64, .int .i64, .int .i64, .int .i64]) Try.underlying37 (by kernel_rfl) (by kernel_rfl) hv h
  obtain ⟨u, rfl, hu⟩ := el_act cs ht
  exact ⟨u, rfl, trivial⟩
end
end Go.Proofs.Ytmbnhlihcnbebaa
