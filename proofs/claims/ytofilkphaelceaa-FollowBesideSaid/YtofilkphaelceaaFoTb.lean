/-
  Plain laws of the layer 'follow': two steps beside each other. No program in sight.
-/
import Derived.Test.YtofilkphaelceaaFoTm
set_option linter.unusedVariables false
namespace Fo
section
variable {l : List St} {M : List Int} {a b : Int}
/-- a rising list of numbers of steps, closed against what comes before: permitted -/
theorem closed_perm (hv : VOk l) (hM : M.Pairwise (· < ·)) (hc : ∀ x ∈ M, ∃ s, findS l x = some s ∧ ∀ a ∈ s.af, a ∈ M) : PermP l M := by
  have key : ∀ i, i ≤ M.length → PermP l (M.take i) := by
    intro i
    induction i with
    | zero => intro _; rw [List.take_zero]; exact PermP.nil
    | succ i ih =>
      intro hi
      have hi' : i < M.length := by omega
      rw [List.take_add_one, List.getElem?_eq_getElem hi', Option.toList_some]
      refine permP_snoc.2 ⟨ih (by omega), ?_⟩
      obtain ⟨s, hf, hs⟩ := hc _ (List.getElem_mem hi')
      refine (nxt_iff hv).2 ⟨s, hf, ?_, fun a ha => ?_⟩
      · intro h1
        obtain ⟨j, hj, he⟩ := List.getElem_of_mem h1
        rw [List.length_take] at hj
        rw [List.getElem_take] at he
        have := List.pairwise_iff_getElem.1 hM j i (by omega) hi' (by omega)
        omega
      · refine take_lt hM hi' (hs a ha) ?_
        have := (af_lt hv (find_some hf).1 ha).1
        rw [(find_some hf).2] at this
        exact this
  have := key M.length (Nat.le_refl _)
  rwa [List.take_length] at this
/-- what the law gathers: p, and more of q, each once -/
structure Gath (p z ys : List Int) : Prop where
  nd : ys.Nodup
  mem : ∀ x, x ∈ ys ↔ x ∈ p ∨ x ∈ z
theorem Gath.start {p : List Int} (h : p.Nodup) : Gath p [] p := ⟨h, fun x => by simp⟩
theorem Gath.put {p z ys : List Int} {x : Int} (h : Gath p z ys) (hx : ys.contains x = false) : Gath p (z ++ [x]) (ys ++ [x]) := by
  rw [List.contains_eq_mem, decide_eq_false_iff_not] at hx
  refine ⟨List.nodup_append.2 ⟨h.nd, by simp, fun a ha b hb => by simp at hb; subst hb; exact fun e => hx (e ▸ ha)⟩, fun y => ?_⟩
  rw [List.mem_append, h.mem, List.mem_append, or_assoc]
theorem Gath.skip {p z ys : List Int} {x : Int} (h : Gath p z ys) (hx : ys.contains x = true) : Gath p (z ++ [x]) ys := by
  rw [List.contains_eq_mem, decide_eq_true_eq] at hx
  refine ⟨h.nd, fun y => ?_⟩
  rw [h.mem, List.mem_append, ← or_assoc]
  constructor
  · exact .inl
  · rintro (h1 | h1)
    · exact h1
    · simp at h1; subst h1; exact (h.mem _).1 hx
theorem Gath.len {p z ys : List Int} (h : Gath p z ys) (hp : ∀ x ∈ p, ∃ s ∈ l, s.n = x) (hz : ∀ x ∈ z, ∃ s ∈ l, s.n = x) : ys.length ≤ l.length := by
  refine Nat.le_trans (nodup_len ys (l.map St.n) h.nd fun x hx => ?_) (by rw [List.length_map]; exact Nat.le_refl _)
  rw [List.mem_map]
  rcases (h.mem x).1 hx with h1 | h1
  · exact hp _ h1
  · exact hz _ h1
/-- two steps, neither before the other, behind all that comes before them -/
theorem both_perm (hv : VOk l) {Z : List Int} (hZ : Z.Pairwise (· < ·)) (hm : ∀ y, y ∈ Z ↔ (Rch l [] a y ∨ Rch l [] b y)) {s t : St} (hs : findS l a = some s) (ht : findS l b = some t) (hne : a ≠ b) (h1 : ¬ Rch l [] a b) (h2 : ¬ Rch l [] b a) :
    PermP l (Z ++ [a, b]) := by
  have hP : PermP l Z := closed_perm hv hZ fun x hx => by
    rcases (hm x).1 hx with hr | hr
    · obtain ⟨_, ⟨u, hu, rfl⟩, _⟩ := hr.lt hv
      obtain ⟨k, hk, rfl⟩ := List.getElem_of_mem hu
      exact ⟨_, find_mem hv hk, fun c hc => (hm c).2 (.inl (.more hr (find_mem hv hk) hc rfl))⟩
    · obtain ⟨_, ⟨u, hu, rfl⟩, _⟩ := hr.lt hv
      obtain ⟨k, hk, rfl⟩ := List.getElem_of_mem hu
      exact ⟨_, find_mem hv hk, fun c hc => (hm c).2 (.inr (.more hr (find_mem hv hk) hc rfl))⟩
  have self : ∀ x, ¬ Rch l [] x x := fun x h => by have := (h.lt hv).1; omega
  have ha : a ∉ Z := fun h => by
    rcases (hm a).1 h with h | h
    · exact self a h
    · exact h2 h
  have hb : b ∉ Z := fun h => by
    rcases (hm b).1 h with h | h
    · exact h1 h
    · exact self b h
  have e : Z ++ [a, b] = (Z ++ [a]) ++ [b] := by simp
  rw [e]
  refine permP_snoc.2 ⟨permP_snoc.2 ⟨hP, (nxt_iff hv).2 ⟨s, hs, ha, fun c hc => (hm c).2 (.inl (.one hs hc rfl))⟩⟩, (nxt_iff hv).2 ⟨t, ht, ?_, fun c hc => List.mem_append_left _ ((hm c).2 (.inr (.one ht hc rfl)))⟩⟩
  rw [List.mem_append]
  rintro (h | h)
  · exact hb h
  · simp at h; exact hne h.symm
end
end Fo
namespace Go.Proofs.Ytofilkphaelceaa
open Go Go.RowKit Fo Sk Go.Sort
/-- two steps of a list, by their indices -/
theorem two_ex {l : List St} (hv : valid l = true) (hl : l.length ≤ 30) {A B : Nat} (hA : A < l.length) (hB : B < l.length) (hAB : A < B) :
    ∃ p q : List Int, ∃ be : Bool, besR l = (besP l l.length, 0) ∧ missR l [] l[A].n = (p, 0) ∧ missR l [] l[B].n = (q, 0) ∧ (besP l l.length).contains (l[A].n, l[B].n) = be ∧ p.length ≤ 30 ∧ q.length ≤ 30 ∧ p.Nodup ∧ (∀ x ∈ p, ∃ s ∈ l, s.n = x) ∧ (∀ x ∈ q, ∃ s ∈ l, s.n = x) ∧
      (be = true → ∀ ys, Gath p q ys → permR l (srt ys ++ [l[A].n, l[B].n]) = (-1, 0) ∧ permR l (srt ys ++ [l[B].n, l[A].n]) = (-1, 0)) ∧
      (be = false → ∀ o : List Int, o.length ≤ 30 → permR l o = (-1, 0) → ∀ k (h : k < o.length), o[k] = l[B].n → ∃ j, j < k ∧ o[j]? = some l[A].n) := by
  have hok := vok hv
  have hlt := List.pairwise_iff_getElem.1 hok.inc A B hA hB hAB
  have hfa := find_mem hok hA
  have hfb := find_mem hok hB
  have hml : ∀ n, (missF l [] n).length ≤ 30 := fun n => Nat.le_trans (by unfold missF; rw [List.length_map]; exact List.length_filter_le _ _) hl
  have hnum : ∀ n, ∀ x ∈ missF l [] n, ∃ s ∈ l, s.n = x := fun n x hx => (((miss_iff hok [] n x).1 hx).lt hok).2.1
  have hab : ¬ Rch l [] l[A].n l[B].n := fun h => by have := (h.lt hok).1; omega
  refine ⟨_, _, _, besR_ok hv, missR_ok hv (by rfl) hfa, missR_ok hv (by rfl) hfb, rfl, hml _, hml _, (filt_inc hok _).imp (fun h => by omega), hnum _, hnum _, fun hbe ys hg => ?_, fun hbe o ho hp k hk he => ?_⟩
  · rw [List.contains_eq_mem, decide_eq_true_eq] at hbe
    have hba := ((bes_mem hok).1 hbe).2.2.2
    have hm : ∀ y, y ∈ srt ys ↔ (Rch l [] l[A].n y ∨ Rch l [] l[B].n y) := fun y => by rw [srt_mem, hg.mem, miss_iff hok, miss_iff hok]
    have hz := srt_rise hg.nd
    have hlen := hg.len (l := l) (hnum _) (hnum _)
    exact ⟨permR_of hv (by simp [srt_len]; omega) (both_perm hok hz hm hfa hfb (by omega) hab hba), permR_of hv (by simp [srt_len]; omega) (both_perm hok hz (fun y => by rw [hm y, or_comm]) hfb hfa (by omega) hba hab)⟩
  · have hr : Rch l [] l[B].n l[A].n := by
      rw [List.contains_eq_mem, decide_eq_false_iff_not] at hbe
      exact Classical.byContradiction fun h => hbe ((bes_mem hok).2 ⟨⟨_, List.getElem_mem _, rfl⟩, ⟨_, List.getElem_mem _, rfl⟩, hlt, h⟩)
    obtain ⟨_, hP⟩ := perm_ok (by omega) hp
    exact PermP.first hok hP hr hk he
end Go.Proofs.Ytofilkphaelceaa
