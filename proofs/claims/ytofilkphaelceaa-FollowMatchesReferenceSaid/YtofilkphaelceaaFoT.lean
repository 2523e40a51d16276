/-
  Plain laws of the layer 'follow': permitted orders, what is ready, what comes before. No program in sight.
-/
import Derived.Test.YtofilkphaelceaaFoZ
import Derived.Test.YtofilkphaelceaaFoQ
import Derived.Test.YtofilkphaelceaaFoI
set_option linter.unusedVariables false
namespace Fo
/-- each number of an order is permitted at its place -/
def PermP (l : List St) (o : List Int) : Prop := ∀ i, i < o.length → permAt l o i = true
/-- can the step of a number come next -/
def nxt (l : List St) (o : List Int) (x : Int) : Bool := match findS l x with | none => false | some s => !o.contains x && s.af.all o.contains
section
variable {l : List St} {o p q r : List Int} {x y : Int}
theorem permF_iff : permF l o = -1 ↔ PermP l o := by
  unfold permF
  cases hf : (List.range o.length).find? (fun i => !permAt l o i) with
  | none =>
    simp only [true_iff]
    intro i hi
    have := List.find?_eq_none.1 hf i (List.mem_range.2 hi)
    simpa using this
  | some i =>
    constructor
    · intro h
      have : (i : Int) = -1 := h
      omega
    · intro h
      have h1 := List.find?_some hf
      have h2 := List.mem_of_find?_eq_some hf
      have := h i (List.mem_range.1 h2)
      simp [this] at h1
theorem permAt_app {i : Nat} (h : i < o.length) : permAt l (o ++ r) i = permAt l o i := by
  unfold permAt
  rw [List.getElem?_append_left h, List.take_append_of_le_length (by omega)]
theorem permAt_end : permAt l (o ++ x :: r) o.length = nxt l o x := by
  unfold permAt nxt
  rw [List.getElem?_append_right (Nat.le_refl _), Nat.sub_self, List.take_append_of_le_length (Nat.le_refl _), List.take_length]
  rfl
theorem PermP.nil : PermP l [] := fun i h => absurd h (Nat.not_lt_zero _)
theorem PermP.pre (h : PermP l (o ++ r)) : PermP l o := fun i hi => by
  rw [← permAt_app (r := r) hi]
  exact h i (by rw [List.length_append]; omega)
theorem permP_snoc : PermP l (o ++ [x]) ↔ PermP l o ∧ nxt l o x = true := by
  constructor
  · intro h
    refine ⟨h.pre, ?_⟩
    rw [← permAt_end (r := [])]
    exact h _ (by simp)
  · rintro ⟨h1, h2⟩ i hi
    rcases Nat.lt_or_ge i o.length with h | h
    · rw [permAt_app h]; exact h1 i h
    · obtain rfl : i = o.length := by simp at hi; omega
      rw [permAt_end]; exact h2
theorem PermP.at_ (h : PermP l (p ++ x :: q)) : nxt l p x = true := by
  have : PermP l ((p ++ [x]) ++ q) := by simpa using h
  exact (permP_snoc.1 this.pre).2
theorem nxt_iff (hv : VOk l) : nxt l o x = true ↔ ∃ s, findS l x = some s ∧ x ∉ o ∧ ∀ a ∈ s.af, a ∈ o := by
  unfold nxt
  cases hf : findS l x with
  | none => simp
  | some s => simp [List.all_eq_true]
theorem nxt_congr (h : ∀ y, y ∈ p ↔ y ∈ q) : nxt l p x = nxt l q x := by
  have hc : ∀ y, p.contains y = q.contains y := fun y => by rw [List.contains_eq_mem, List.contains_eq_mem]; exact decide_eq_decide.2 (h y)
  unfold nxt
  split
  · rfl
  · rw [hc, show p.contains = q.contains from funext hc]
theorem PermP.cont (hm : ∀ y, y ∈ p ↔ y ∈ r) (h : PermP l (p ++ q)) (hr : PermP l r) : PermP l (r ++ q) := by
  induction q generalizing p r with
  | nil => simpa using hr
  | cons x q ih =>
    have h' : PermP l ((p ++ [x]) ++ q) := by simpa using h
    have h1 := permP_snoc.1 h'.pre
    have := ih (p := p ++ [x]) (r := r ++ [x]) (fun y => by simp [hm]) h' (permP_snoc.2 ⟨hr, by rw [← nxt_congr hm]; exact h1.2⟩)
    simpa using this
theorem ready_has (hv : VOk l) : (readyF l o).contains x = nxt l o x := by
  rw [Bool.eq_iff_iff, nxt_iff hv, List.contains_eq_mem, decide_eq_true_eq]
  unfold readyF
  simp only [List.mem_map, List.mem_filter, Bool.and_eq_true, Bool.not_eq_true', List.contains_eq_mem, decide_eq_false_iff_not, List.all_eq_true, decide_eq_true_eq]
  constructor
  · rintro ⟨s, ⟨hs, h1, h2⟩, rfl⟩
    obtain ⟨k, hk, rfl⟩ := List.getElem_of_mem hs
    exact ⟨_, find_mem hv hk, h1, h2⟩
  · rintro ⟨s, hf, h1, h2⟩
    obtain ⟨hs, rfl⟩ := find_some hf
    exact ⟨s, ⟨hs, h1, h2⟩, rfl⟩
theorem PermP.mem (h : PermP l o) (hx : x ∈ o) : ∃ s ∈ l, s.n = x := by
  obtain ⟨p, q, rfl⟩ := List.append_of_mem hx
  have := h.at_
  unfold nxt at this
  split at this
  · cases this
  · rename_i s hf
    exact ⟨s, (find_some hf).1, (find_some hf).2⟩
theorem PermP.nodup (h : PermP l o) : o.Nodup := perm_nodup (permF_iff.2 h)
/-- what comes before a number of a permitted order stands in front of it -/
theorem PermP.ahead (hv : VOk l) (h : PermP l o) {a : Int} (hr : Rch l [] x a) : ∀ p q, o = p ++ x :: q → a ∈ p := by
  have one : ∀ p q x a s, o = p ++ x :: q → findS l x = some s → a ∈ s.af → a ∈ p := by
    rintro p q x a s rfl hf ha
    obtain ⟨s', hf', _, h3⟩ := (nxt_iff hv).1 h.at_
    rw [hf] at hf'
    cases hf'
    exact h3 a ha
  induction hr with
  | one hf ha hd => exact fun p q e => one p q _ _ _ e hf ha
  | more _ hf ha hd ih =>
    intro p q e
    obtain ⟨p1, p2, e2⟩ := List.append_of_mem (ih p q e)
    have := one p1 (p2 ++ x :: q) _ _ _ (by rw [e, e2]; simp) hf ha
    rw [e2]
    exact List.mem_append_left _ this
theorem PermP.closed (hv : VOk l) (h : PermP l o) {a : Int} (hx : x ∈ o) (hr : Rch l [] x a) : a ∈ o := by
  obtain ⟨p, q, rfl⟩ := List.append_of_mem hx
  exact List.mem_append_left _ (h.ahead hv hr p q rfl)
end
end Fo
namespace Go.Proofs.Ytofilkphaelceaa
open Go Go.RowKit Fo Sk Go.Sort
section
variable {l : List St} {o p q r : List Int} {x y : Int}
theorem permF_snoc (h : PermP l o) : permF l (o ++ [x]) = if nxt l o x = true then -1 else (o.length : Int) := by
  split
  · rename_i hn; exact permF_iff.2 (permP_snoc.2 ⟨h, hn⟩)
  · rename_i hn
    refine permF_at (by simp) (fun j hj hjk => ?_) ?_
    · rw [permAt_app hjk]; exact h j hjk
    · rw [permAt_end]; simpa using hn
theorem srt_rise (h : o.Nodup) : (srt o).Pairwise (· < ·) := by
  have hn : (srt o).Nodup := (List.mergeSort_perm o _).nodup_iff.2 h
  have hs := srt_sorted o
  refine (hs.and hn).imp ?_
  rintro a b ⟨h1, h2⟩
  omega
theorem done_srt (hv : VOk l) (hn : o.Nodup) (hm : ∀ x ∈ o, 1 ≤ x ∧ x ≤ 10000) (hl : o.length ≤ 200) : isDone (srt o) = true :=
  isDone_iff.2 ⟨by rw [srt_len]; exact hl, srt_rise hn, fun x hx => hm x (srt_mem.1 hx)⟩
theorem PermP.num (hv : VOk l) (h : PermP l o) : ∀ x ∈ o, 1 ≤ x ∧ x ≤ 10000 := fun x hx => by
  obtain ⟨s, hs, rfl⟩ := h.mem hx
  exact hv.num s hs
end
end Go.Proofs.Ytofilkphaelceaa
