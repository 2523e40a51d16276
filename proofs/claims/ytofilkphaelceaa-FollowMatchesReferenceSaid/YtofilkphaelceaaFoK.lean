/-
  Walks of the layer 'follow': the iterator over what comes before a step.
-/
import Derived.Shelf.Abstract
import Derived.Deep.LoopGhost
import Derived.Deep.Cut
import Derived.Test.YtofilkphaelceaaFoH
import Derived.Test.YtofilkphaelceaaFoY
import Derived.Test.YtofilkphaelceaaQue
import Derived.Test.YtofilkphaelceaaRall
import Derived.Laws.Slices
set_option linter.unusedVariables false
namespace Go.Proofs.Ytofilkphaelceaa
open Go Go.RowKit Fo Sk Go.Sort Go.Shelf

/-- all memory but one block stays (records of loops aside) -/
structure KpBut (bm : Nat) (A B : World) : Prop where
  low : Below bm A B
  same : ∀ (k : Nat) (o : Obj), k ≠ bm → A.heap[k]? = some o → (o.isCells = true ∨ o.isWalk = true) → B.heap[k]? = some o
theorem KpBut.trans {bm : Nat} {A B C : World} (h : KpBut bm A B) (k : KpBut bm B C) : KpBut bm A C := ⟨h.low.trans k.low, fun i o hi ho hc => k.same i o hi (h.same i o hi ho hc) hc⟩
theorem KpBut.put {bm : Nat} (W : World) (l : Nat) (o o' : Obj) (hl : bm < l) (h : W.heap[l]? = some o) (hc : o.isCells = false) (hw : o.isWalk = false) : KpBut bm W (W.putObj l o') :=
  ⟨(Below.refl bm W).grown (grownBy_putObj' W l o') (by have := (Array.getElem?_eq_some_iff.1 h).1; omega) (fun k e => by cases e; omega), fun k o2 hk ho hcw => by
    by_cases hkl : k = l
    · subst hkl
      rw [h] at ho; cases ho
      rcases hcw with h1 | h1
      · rw [hc] at h1; cases h1
      · rw [hw] at h1; cases h1
    · rw [World.putObj_heap_other hkl]; exact ho⟩
theorem KpBut.of_grown {bm : Nat} {A B : World} (h : A.grownBy B (some bm)) (hb : bm < A.heap.size) : KpBut bm A B :=
  ⟨⟨h.os, h.tape, h.output, h.size, fun k hk => h.block k (by omega) (by simp; omega)⟩, fun k o hk ho _ => (h.block k (Array.getElem?_eq_some_iff.1 ho).1 (by simpa using hk)).trans ho⟩
theorem KpBut.box {bm : Nat} {A B : World} (h : KpBut bm A B) {b T : Nat} {cs : List Value} (hb : Box A b T cs) (hne : b ≠ bm) : Box B b T cs := h.same b _ hne hb (.inl rfl)
theorem KpBut.set {bm : Nat} {A B : World} (h : KpBut bm A B) {b n : Nat} {S : Int → Bool} (hb : SetOf A b n S) (hne : b ≠ bm) : SetOf B b n S := by
  obtain ⟨D, ⟨es, clock, h1, h2⟩, r⟩ := hb
  exact ⟨D, ⟨es, clock, h.same b _ hne h1 (.inr rfl), h2⟩, r⟩
theorem KpBut.que {bm : Nat} {A B : World} (h : KpBut bm A B) {base e : Nat} {v : Value} {q : List Int} (hq : QOwn A base e v q) (hne : bm < base) : QOwn B base e v q := by
  obtain ⟨g, o, cap, rfl, h1, h2, h3, h4, h5⟩ := hq
  refine ⟨g, o, cap, rfl, h1, h2, h3, Nat.lt_of_lt_of_le h4 h.low.size, fun hc => ?_⟩
  obtain ⟨cur, hgg, r⟩ := h5 hc
  exact ⟨cur, h.same g _ (by omega) hgg (.inl rfl), r⟩
theorem que_past {w w' : World} {base e b : Nat} {v : Value} {q : List Int} (h : QOwn w base e v q) (hg : w.grownBy w' (some b)) (hb : b < base) : QOwn w' base e v q :=
  h.kept hg (fun k hk e => by have := (h.lt k hk).1; simp at e; omega)

theorem sliceAt1 (w : World) (g o n cap : Nat) (hn : 1 ≤ n) (hc : n ≤ cap) : (Instr.sliceAt 23 (.slice (some ⟨g, o, none⟩) n cap) (some (.int .i64 1)) none none).run Try.prog w = .ok (.slice (some (if cap = 1 then ⟨g, o, none⟩ else ⟨g, o + 1, none⟩)) (n - 1) (cap - 1)) w := by
  have ht : Try.prog.underlying 23 = some (.slice (Try.prog.elem 23)) := by kernel_rfl
  have hs : (Go.sizeOf (Try.prog.elem 23)).run Try.prog w = .ok 1 w := by kernel_rfl
  rw [run_sliceAt_slice w 23 _ _ _ _ ht, run_slice_l w 23 (some ⟨g, o, none⟩) n cap ht .i64 1 (by omega) (by omega), hs]
  simp only [Result.andThen, sliced]
  by_cases hc1 : cap = 1
  · subst hc1
    simp
  · have : ¬ cap - 1 = 0 := by omega
    simp [hc1, Addr.add_lit]
end Go.Proofs.Ytofilkphaelceaa
