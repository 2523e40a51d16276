/-
  A book as an argument: how many bytes its marks take (the form's own reach).
-/
import Derived.SizedLaws
import Derived.ChangeSame
import Derived.Test.YtmnlkndbdcdngaaSymS
namespace Go.Proofs.Ytmnlkndbdcdngaa
open Go.RowKit Sb Sk

theorem book_fields : ∃ f0 f1 : Field, Try.prog.underlying 24 = some (.struct #[f0, f1]) ∧ f1.type = 22 ∧ f1.offset = 1 ∧ Try.prog.cellsOf f1.type = 1 := ⟨_, _, Try.underlying24, rfl, rfl, by kernel_rfl⟩
theorem bytes_mark : Try.prog.bytesOf 29 = 24 := by kernel_rfl

theorem book_bytes {H : Type} {enc : TypeId × Value → H} {w : World} {base : Nat} {spare : Nat → Bool} {held : Bool} {of : Int} {ao : Option Addr} {n cap : Nat} {d : DataW H} {p : List MemPlace}
    (h : DataW.Trod enc Try.prog w base spare held 24 (.agg #[.int .i64 of, .slice ao n cap]) d p) (hw : ∀ x ∈ d.weights Try.prog 24, x ≤ reachBytes) : n * 24 ≤ reachBytes := by
  obtain ⟨f0, f1, hu, ht, ho, hc⟩ := book_fields
  obtain ⟨fu, hfu⟩ := h
  obtain ⟨y0, y1, m, hx, _, _, h1⟩ := Go.ChangeShapes.trod_struct2 hu hfu
  rw [ho, hc, ht] at h1
  rw [ht] at hc
  obtain ⟨rfl, _⟩ := Prod.mk.inj hx
  have h1' : DataW.trod enc Try.prog w base spare held m 22 [.slice ao n cap] = some y1 := h1
  rcases DataW.trod_slice Try.underlying22 h1' with ⟨h0, _⟩ | ⟨a, len, cap', elems, rest, k, _, h2, h3, _, _, _, h4, _⟩
  · simp only [List.cons.injEq, Value.slice.injEq, and_true] at h0
    obtain ⟨_, rfl, _⟩ := h0
    simp
  · simp only [List.cons.injEq, Value.slice.injEq, and_true] at h2
    obtain ⟨_, rfl, _⟩ := h2
    have := hw ((elems.length + rest.length) * 24) (by
      rw [DataW.weights, hu]
      simp only [List.map_cons, List.map_nil, DataW.weightsEach, List.mem_append]
      right; left
      rw [h3, ht, DataW.weights, Try.underlying22]
      simp only [List.length_map, bytes_mark]
      exact List.mem_cons_self)
    omega
end Go.Proofs.Ytmnlkndbdcdngaa
