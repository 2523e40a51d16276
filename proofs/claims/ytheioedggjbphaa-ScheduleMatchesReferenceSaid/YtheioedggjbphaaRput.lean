/-
  A range over a function whose iterator writes nothing, and whose rounds always go on and may own rows. No program in sight.
-/
import Derived.Test.YtheioedggjbphaaRall
namespace Sk
open Go Go.RowKit
/-- what such an iterator does: it hands over the elements of a list with S, one after the other -/
def SeqPut {α : Type} (F : Fence) (n : Nat) (P : Program) (g : Nat) (lb : Array Value) (encs : α → Array Value) (Px : α → Prop) (Kp : World → World → Prop) (S : List α → Prop) (N : Nat) (w : World) : Prop :=
  ∀ (l : Nat) (J : List α → World → Prop) (W : World), Below w.heap.size w W →
    (∀ pre x W1, Px x → J pre W1 → pre.length < N → YieldAt F (n - 1) P l (encs x) W1 fun e W' => e = .returned (.bool true) ∧ J (pre ++ [x]) W' ∧ Kp W1 W') →
    J [] W → CallsIn F n P g (#[.func (.yield l) #[] #[]] ++ lb) W fun e W' => (∃ v, e = .returned v) ∧ ∃ xs, S xs ∧ J xs W'

variable {F : Fence} {n : Nat} {P : Program}

theorem wpIn_rangeFunc_put {α : Type} {g : Operand} {ps : Array Tmp} {assign body : Code} {Q : Exit → Act → World → Prop} {a : Act} {w : World}
    (hro : F.round = none) (h1 : 1 ≤ n) {gf : Nat} {lb : Array Value} (hg : a.eval g = .func (.func gf) #[] lb) (hFg : F.fn gf) (eg : ∀ args w, (callFunc gf args).run P w = .ok (.enter gf args) w)
    {encs : α → Array Value} {Px : α → Prop} {Kp : World → World → Prop} {S : List α → Prop} {N : Nat} {w0 : World} (hseq : SeqPut F (n - 1) P gf lb encs Px Kp S N w0)
    (hKt : ∀ {A B C : World}, Kp A B → Kp B C → Kp A C) (hKb : ∀ (W : World) (l : Nat) (o o' : Obj), w.heap.size ≤ l → W.heap[l]? = some o → o.isCells = false → o.isWalk = false → Kp W (W.putObj l o')) (hb0 : Below w0.heap.size w0 w) (hps : ∀ x, (encs x).size = ps.size)
    (I : List α → World → Prop) (hI : OwnFrom w.heap.size I) (h0 : I [] w) (a₁ : α → Act)
    (hassign : ∀ (l : Nat) (x : α) (W : World) (K : Act → World → Prop), K (a₁ x) W →
      assign.wpIn (F.inRound l) (n - 1 - 1) P (Exit.then K (fun _ _ _ => False)) { tmps := (ps.zip (encs x)).foldl (fun t (p, v) => t.setIfInBounds p v) a.tmps, defers := [] } W)
    (hbody : ∀ (l : Nat) (pre : List α) (x : α) (W : World), Px x → I pre W → pre.length < N → body.wpIn (F.inRound l) (n - 1 - 1) P (goesOn w.heap.size Kp I (pre ++ [x]) W) (a₁ x) W)
    (hdone : ∀ (D : Nat) (xs : List α) (W : World), w.heap.size ≤ D → S xs → I xs W → W.heap[D]? = some (.deferred (some [])) → Q .normal { a with defers := { target := .collected D, args := #[] } :: a.defers } W) :
    (Code.rangeFunc g ps assign body).wpIn F n P Q a w := by
  refine wpIn_rangeFunc fun fn hfn => ?_
  rw [hro]
  let ld : LoopState → Loop := fun st => { state := st, pending := none, fn, tmps := a.tmps, params := ps, assign, body, defers := w.heap.size }
  let L := w.heap.size + 1
  obtain ⟨V, hV⟩ : ∃ V, (w.alloc (.deferred (some []))).alloc (.loop (ld .ready)) = V := ⟨_, rfl⟩
  have vsize : V.heap.size = w.heap.size + 2 := by rw [← hV]; simp
  have vL : V.heap[L]? = some (.loop (ld .ready)) := by
    rw [← hV]
    have := World.alloc_heap_new (w.alloc (.deferred (some []))) (.loop (ld .ready))
    rwa [World.size_alloc] at this
  have vD : V.heap[w.heap.size]? = some (.deferred (some [])) := by
    rw [← hV]
    exact (Below.heap_alloc _ _ _ (by simp)).trans (World.alloc_heap_new w _)
  have vb : Below w.heap.size w V := by rw [← hV]; exact grew2 (Below.refl _ _)
  have vI : I [] V := hI _ _ _ none h0 ⟨vb.os, vb.tape, vb.output, vb.size, fun i hi _ => vb.block i hi⟩ (fun r e => by cases e)
  have puts : ∀ (W : World) (o' : Obj) (s : List α), I s W → (∃ o : Obj, W.heap[L]? = some o ∧ o.isCells = false) → I s (W.putObj L o') := fun W o' s hs hl =>
    hI _ _ _ (some L) hs (grownBy_putObj' W L o') (fun r e => by cases e; exact ⟨Nat.le_succ _, hl⟩)
  refine ⟨L, [{ target := .collected w.heap.size, args := #[] }], V, { target := .fn (.func gf) lb, args := #[.func (.yield L) #[] #[]] }, V, gf, #[.func (.yield L) #[] #[]] ++ lb, V, ?_, ?_, ?_, ?_, fun _ => h1, ?_⟩
  · rw [← hV]; exact run_enterLoop_outer _ _ _ _ _
  · simp only [resolve, hg]
    simp [go_sem]
  · intro f' hf'; simp [Target.leads] at hf'; subst hf'; exact hFg
  · simp [invoke, go_sem, eg]
  · refine (hseq L (fun pre W => I pre W ∧ W.heap[L]? = some (.loop (ld .ready)) ∧ W.heap[w.heap.size]? = some (.deferred (some []))) V (hb0.trans (vb.mono hb0.size)) ?_ ⟨vI, vL, vD⟩).mono ?_
    · rintro pre x W hpx ⟨hi, hl, hk⟩ hlen
      have hlt : L < W.heap.size := (Array.getElem?_eq_some_iff.1 hl).1
      have hy := run_yield (P := P) (args := encs x) hl (hps x)
      refine ⟨fn, _, assign, body, hy, roundIn_of_wpIn hfn (hassign _ x W _ ⟨_, run_beginRound hl rfl, ?_⟩)⟩
      have bl : (W.putObj L (.loop (ld .busy))).heap[L]? = some (.loop (ld .busy)) := World.putObj_heap_same hlt
      have bk : (W.putObj L (.loop (ld .busy))).heap[w.heap.size]? = some (.deferred (some [])) := (World.putObj_heap_other (by omega)).trans hk
      have k1 : Kp W (W.putObj L (.loop (ld .busy))) := hKb _ _ _ _ (Nat.le_succ _) hl rfl rfl
      refine wpIn_mono (hbody _ pre x _ hpx (puts W _ _ hi ⟨_, hl, rfl⟩) hlen) ?_
      rintro e a3 W3 hp
      cases e <;> first | exact hp.elim | skip
      obtain ⟨kf, k2, hi3⟩ := hp
      have l3 : W3.heap[L]? = some (.loop (ld .busy)) := kf.same L _ (Nat.le_succ _) bl rfl
      have d3 := kf.same _ _ (Nat.le_refl _) bk rfl
      have lt3 : L < W3.heap.size := (Array.getElem?_eq_some_iff.1 l3).1
      exact ⟨_, _, run_endRound (P := P) none l3, rfl, ⟨puts W3 _ _ hi3 ⟨_, l3, rfl⟩, World.putObj_heap_same lt3, (World.putObj_heap_other (by omega)).trans d3⟩, hKt (hKt k1 k2) (hKb _ _ _ _ (Nat.le_succ _) l3 rfl rfl)⟩
    · rintro e W2 ⟨⟨v, rfl⟩, xs, hS, hi, hl, hk⟩
      have hlt : L < W2.heap.size := (Array.getElem?_eq_some_iff.1 hl).1
      exact ⟨none, _, run_endLoop (P := P) hl (by simp [ld]), hdone _ xs _ (Nat.le_refl _) hS (puts W2 _ _ hi ⟨_, hl, rfl⟩) ((World.putObj_heap_other (by omega)).trans hk)⟩
end Sk
