/-
  Slices that a call owns (it made them), read as lists. No program in sight.
-/
import Derived.OwnWalk
import Derived.Test.YtheioedggjbphaaKit
namespace Sk
open Go Go.RowKit

/-- a slice beside nil -/
theorem slice_eq_nil {P : Program} {t e : TypeId} (h : P.underlying t = some (.slice e)) (ao : Option Addr) (n cap : Nat) (w : World) : (binOp .eql t (.slice ao n cap) (.slice none 0 0)).run P w = .ok (.bool ao.isNone) w := by
  have h3 : ∀ d, (Op.equalIn (d + 1) t (.slice ao n cap) (.slice none 0 0)).run P w = .ok ao.isNone w := fun d => by
    cases ao <;> simp [Op.equalIn, run_underlying h]
  have h2 : (Op.equal t (.slice ao n cap) (.slice none 0 0)).run P w = .ok ao.isNone w := h3 9999
  simp [binOp, h2, Result.andThen]

theorem owns_below {w w' : World} {base e size : Nat} {v : Value} {n : Nat} {xs : List Value} (h : w.ownsRow base e size v n xs) (hb : Below w.heap.size w w') : w'.ownsRow base e size v n xs := by
  refine ⟨h.1, ?_⟩
  rcases h.2 with hn | ⟨g, cap, cur, rfl, hbg, hgg, rest⟩
  · exact .inl hn
  · exact .inr ⟨g, cap, cur, rfl, hbg, (hb.block g (Array.getElem?_eq_some_iff.1 hgg).1).trans hgg, rest⟩
theorem owns_mono {w : World} {base base' e size : Nat} {v : Value} {n : Nat} {xs : List Value} (h : w.ownsRow base e size v n xs) (hb : base' ≤ base) : w.ownsRow base' e size v n xs := by
  refine ⟨h.1, ?_⟩
  rcases h.2 with hn | ⟨g, cap, cur, rfl, hbg, rest⟩
  · exact .inl hn
  · exact .inr ⟨g, cap, cur, rfl, Nat.le_trans hb hbg, rest⟩

theorem owns_setCell {w : World} {base e size : Nat} {v : Value} {n : Nat} {xs : List Value} (h : w.ownsRow base e size v n xs) {b j : Nat} {x : Value} (hb : b < base) : (w.setCell ⟨b, j, none⟩ x).ownsRow base e size v n xs := by
  refine ⟨h.1, ?_⟩
  rcases h.2 with hn | ⟨g, cap, cur, rfl, hbg, hgg, rest⟩
  · exact .inl hn
  · exact .inr ⟨g, cap, cur, rfl, hbg, (Below.heap_setCell w ⟨b, j, none⟩ x g (by dsimp only; omega)).trans hgg, rest⟩
theorem cells_new (w : World) (cs : List Value) (T : Nat) : ∀ j u, cs[j]? = some u → (w.alloc (.cells cs.toArray T)).cell? ((⟨w.heap.size, 0, none⟩ : Addr).add j) = some u := by
  intro j u hj
  rw [Addr.add_lit]
  exact cells_alloc w cs T j u hj

/-- a step that turns only the row that the call owns -/
theorem below_grown {w w' : World} {B base e size : Nat} {v : Value} {n : Nat} {xs : List Value} (h : w.ownsRow base e size v n xs) (hB : B ≤ base) (hs : B ≤ w.heap.size) (hg : w.grownBy w' v.ownBlock) : Below B w w' := by
  refine (Below.refl B w).grown hg hs fun k hk => ?_
  have := (h.lt k hk).1
  omega

section
variable {α : Type} {enc : α → List Value} {k : Nat}
theorem flat_len (hk : ∀ x, (enc x).length = k) : ∀ l : List α, (l.flatMap enc).length = l.length * k
  | [] => by simp
  | x :: l => by rw [List.flatMap_cons, List.length_append, hk, flat_len hk l, List.length_cons]; rw [Nat.add_mul]; omega
theorem flat_get (hk : ∀ x, (enc x).length = k) : ∀ (l : List α) (i j : Nat) (h : i < l.length), j < k → (l.flatMap enc)[i * k + j]? = (enc l[i])[j]?
  | [], i, _, h, _ => by simp at h
  | x :: l, 0, j, _, hj => by
    rw [List.flatMap_cons, List.getElem?_append_left (by rw [hk]; omega)]; simp
  | x :: l, i + 1, j, h, hj => by
    rw [List.flatMap_cons, List.getElem?_append_right (by rw [hk, Nat.add_mul]; omega), hk]
    have := flat_get hk l i j (by simpa using h) hj
    rw [show (i + 1) * k + j - k = i * k + j by rw [Nat.add_mul]; omega]
    simpa using this

theorem Sl.of_owns {w : World} {base e : Nat} {v : Value} {n : Nat} {l : List α} (hk : ∀ x, (enc x).length = k) (h : w.ownsRow base e k v n (l.flatMap enc)) (hn : l.length = n) :
    ∃ ao cap, v = .slice ao n cap ∧ Sl w k enc ao n cap l ∧ (ao = Option.none → n = 0) := by
  subst hn
  rcases h.2 with ⟨rfl, h0⟩ | ⟨g, cap, cur, rfl, hbg, hgg, hle, hmax, hsz, htake⟩
  · obtain rfl := List.eq_nil_of_length_eq_zero h0
    exact ⟨Option.none, 0, rfl, Sl.nil, fun _ => rfl⟩
  · refine ⟨some ⟨g, 0, Option.none⟩, cap, rfl, ⟨rfl, hle, hmax, by simp, fun hl => ⟨g, 0, rfl, (Array.getElem?_eq_some_iff.1 hgg).1, ?_⟩⟩, by simp⟩
    intro i hi j u hj
    have hjk : j < k := by rw [← hk l[i]]; exact (List.getElem?_eq_some_iff.1 hj).1
    rw [← flat_get hk l i j hi hjk, ← htake, List.getElem?_take] at hj
    split at hj
    · rw [cell_of_row w g (0 + i * k + j) cur e (0, 0) hgg, Nat.zero_add]
      simpa using hj
    · cases hj

/-- a slice literal -/
theorem Sl.lit {w : World} {b T : Nat} {l : List α} (hk : ∀ x, (enc x).length = k) (h : Box w b T (l.flatMap enc)) (hm : l.length ≤ maxLen) : Sl w k enc (some ⟨b, 0, Option.none⟩) l.length l.length l :=
  ⟨rfl, Nat.le_refl _, hm, by simp, fun _ => ⟨b, 0, rfl, h.lt, fun i hi j u hj => by
    have hjk : j < k := by rw [← hk l[i]]; exact (List.getElem?_eq_some_iff.1 hj).1
    rw [Nat.zero_add]
    exact h.cell (by rw [flat_get hk l i j hi hjk]; exact hj)⟩⟩

/-- the cells behind a slice's address, for an append -/
theorem Sl.flat {w : World} {ao : Option Addr} {n cap : Nat} {l : List α} (hk : ∀ x, (enc x).length = k) (h : Sl w k enc ao n cap l) {b off : Nat} (ha : ao = some ⟨b, off, Option.none⟩) :
    ∀ j u, (l.flatMap enc)[j]? = some u → w.cell? ((⟨b, off, Option.none⟩ : Addr).add j) = some u := by
  intro j u hj
  have hlt := (List.getElem?_eq_some_iff.1 hj).1
  rw [flat_len hk] at hlt
  have hl : l ≠ [] := by rintro rfl; simp at hlt
  have hk0 : 0 < k := by rcases Nat.eq_zero_or_pos k with h | h; · simp [h] at hlt
                         · exact h
  obtain ⟨b', off', e, hb, hrow⟩ := h.at_ hl
  rw [ha] at e
  simp only [Option.some.injEq, Addr.mk.injEq] at e
  obtain ⟨rfl, rfl, _⟩ := e
  have hi : j / k < l.length := Nat.div_lt_of_lt_mul (by rw [Nat.mul_comm]; exact hlt)
  have hjk : j % k < k := Nat.mod_lt _ hk0
  have hd : j / k * k + j % k = j := by rw [Nat.mul_comm]; exact Nat.div_add_mod j k
  have := hrow (j / k) hi (j % k) u (by rw [← flat_get hk l (j / k) (j % k) hi hjk, hd]; exact hj)
  rw [Addr.add_lit]
  rwa [Nat.add_assoc, hd] at this
end
end Sk
