/-
  A book as an argument, opened.
-/
import Derived.Test.YtmnlkndbdcdngaaFrame
import Derived.Test.YtmnlkndbdcdngaaSymH
namespace Go.Proofs.Ytmnlkndbdcdngaa
open Go.RowKit Sb Sk
set_option linter.unusedVariables false

section
variable {H : Type} {enc : TypeId × Value → H} {w : World} {base : Nat} {spare : Nat → Bool} {held : Bool}
theorem el_mark : ∀ cs, Typed enc Try.prog w base spare held [.int .i64, .int .i64, .int .i64] cs → ∃ u : Mk, cs = cM u ∧ True := by
  intro cs h
  obtain ⟨a, b, c, rfl, _⟩ := Typed.i3 h
  exact ⟨⟨a, b, c⟩, rfl, trivial⟩
theorem el_book : ∀ cs, Typed enc Try.prog w base spare held [.int .i64, .sl 22] cs → ∃ u : Bk, cs = cB u ∧ BkOk w u := by
  intro cs h
  cases h with | cons h0 h => cases h with | cons h1 h => cases h; obtain ⟨a, rfl, _⟩ := h0; obtain ⟨n, x, hx⟩ := h1; obtain ⟨ao, len, cap, l, rfl, hs, _⟩ := sl_open (dd := 4) (ks := [.int .i64, .int .i64, .int .i64]) (k := 3) Try.underlying22 (by kernel_rfl) (by decide) (by kernel_rfl) rfl el_mark hx; exact ⟨⟨a, ao, len, cap, l⟩, rfl, hs⟩
theorem arg_book {r : Reach} {b0 : Nat} {v : Value} {d : DataW H} {p : List MemPlace} (hv : Value.okWide Try.prog w r b0 24 v) (h : DataW.Trod enc Try.prog w base spare held 24 v d p) :
    ∃ of ao n cap ms, v = .agg #[.int .i64 of, .slice ao n cap] ∧ Sl w 3 cM ao n cap ms := by
  obtain ⟨cs, rfl, ht⟩ := arg_agg (dd := 4) (ks := [.int .i64, .sl 22]) Try.underlying24 (by kernel_rfl) (by kernel_rfl) hv h
  obtain ⟨u, rfl, hu⟩ := el_book cs ht
  exact ⟨u.of, u.ao, u.n, u.cap, u.ms, rfl, hu⟩
end
end Go.Proofs.Ytmnlkndbdcdngaa
