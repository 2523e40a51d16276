/-
  Walks of the layer 'schedule': the jobs in the order in which they are asked.
-/
import Derived.Test.YtheioedggjbphaaScQ
set_option linter.unusedVariables false
namespace Sc
/-- asked before -/
def bef (J : List Jb) (x y : Nat) : Prop := (jat J y).prio < (jat J x).prio ∨ (jat J y).prio = (jat J x).prio ∧ x < y
theorem bef_tr {J : List Jb} {x y z : Nat} (h : bef J x y) (k : bef J y z) : bef J x z := by unfold bef at *; omega
def Srt (J : List Jb) (q : List Nat) (m : Nat) : Prop := ∀ a b, a < b → b < m → bef J (at_ q a) (at_ q b)
/-- the inner loop of the insertion -/
structure InsI (J : List Jb) (q : List Nat) (i j : Nat) : Prop where
  ji : j ≤ i
  il : i < q.length
  perm : q.Perm (List.range q.length)
  srt : ∀ a b, a < b → b ≤ i → a ≠ j → b ≠ j → bef J (at_ q a) (at_ q b)
  beh : ∀ b, j < b → b ≤ i → bef J (at_ q j) (at_ q b)
  idx : ∀ a, a ≤ i → a ≠ j → at_ q a < at_ q j
  rest : ∀ b, i < b → b < q.length → at_ q b = b
/-- the outer one -/
structure OutI (J : List Jb) (q : List Nat) (i : Nat) : Prop where
  perm : q.Perm (List.range q.length)
  srt : Srt J q i
  low : ∀ a, a < i → a < q.length → at_ q a < i
  rest : ∀ b, i ≤ b → b < q.length → at_ q b = b
theorem InsI.start {J : List Jb} {q : List Nat} {i : Nat} (h : OutI J q i) (hi : i < q.length) : InsI J q i i :=
  ⟨Nat.le_refl _, hi, h.perm, fun a b h1 h2 h3 h4 => h.srt a b h1 (by omega), fun b h1 h2 => by omega, fun a h1 h2 => by rw [h.rest i (Nat.le_refl _) hi]; exact h.low a (by omega) (by omega), fun b h1 h2 => h.rest b (by omega) h2⟩
theorem InsI.step {J : List Jb} {q : List Nat} {i j : Nat} (h : InsI J q i (j + 1)) (hp : (jat J (at_ q j)).prio < (jat J (at_ q (j + 1))).prio) : InsI J (swp q (j + 1) j) i j := by
  have h1 := h.ji
  have h2 := h.il
  have hs : ∀ k, at_ (swp q (j + 1) j) k = if k = j then at_ q (j + 1) else if k = j + 1 then at_ q j else at_ q k := at_swp (by omega) (by omega)
  refine ⟨by omega, by rw [swp_len]; exact h2, by rw [swp_len]; exact (swp_perm (by omega) (by omega)).trans h.perm, fun a b hab hbi ha hb => ?_, fun b hjb hbi => ?_, fun a hai ha => ?_, fun b hib hb => ?_⟩
  · rw [hs, hs, if_neg ha, if_neg hb]
    by_cases ha1 : a = j + 1
    · rw [if_pos ha1, if_neg (by omega)]; exact h.srt j b (by omega) hbi (by omega) (by omega)
    · rw [if_neg ha1]
      by_cases hb1 : b = j + 1
      · rw [if_pos hb1]; exact h.srt a j (by omega) (by omega) ha1 (by omega)
      · rw [if_neg hb1]; exact h.srt a b hab hbi ha1 hb1
  · rw [hs, hs, if_pos rfl, if_neg (by omega)]
    by_cases hb1 : b = j + 1
    · rw [if_pos hb1]; exact .inl hp
    · rw [if_neg hb1]; exact h.beh b (by omega) hbi
  · rw [hs, hs, if_pos rfl, if_neg ha]
    by_cases ha1 : a = j + 1
    · rw [if_pos ha1]; exact h.idx j (by omega) (by omega)
    · rw [if_neg ha1]; exact h.idx a hai ha1
  · rw [swp_len] at hb
    rw [hs, if_neg (by omega), if_neg (by omega)]
    exact h.rest b hib hb
theorem InsI.stop {J : List Jb} {q : List Nat} {i j : Nat} (h : InsI J q i j) (hs : j = 0 ∨ ∃ k, j = k + 1 ∧ ¬ (jat J (at_ q k)).prio < (jat J (at_ q j)).prio) : OutI J q (i + 1) := by
  have h1 := h.ji
  have h2 := h.il
  have hb : ∀ a, a < j → bef J (at_ q a) (at_ q j) := by
    intro a ha
    rcases hs with hs | ⟨k, rfl, hs⟩
    · omega
    · have hk : bef J (at_ q k) (at_ q (k + 1)) := by have := h.idx k (by omega) (by omega); unfold bef; omega
      by_cases e : a = k
      · rw [e]; exact hk
      · exact bef_tr (h.srt a k (by omega) (by omega) (by omega) (by omega)) hk
  have hj : at_ q j ≤ i := by
    have hm : at_ q j ∈ List.range q.length := h.perm.mem_iff.1 (by rw [at_get (by omega)]; exact List.getElem_mem _)
    rw [List.mem_range] at hm
    by_cases e : at_ q j ≤ i
    · exact e
    · have h3 := h.rest (at_ q j) (by omega) hm
      have hnd : q.Nodup := h.perm.nodup_iff.2 List.nodup_range
      rw [at_get (show j < q.length by omega)] at h3 e hm
      rw [at_get hm] at h3
      have := (List.getElem_inj hnd).1 h3
      omega
  refine ⟨h.perm, fun a b hab hbi => ?_, fun a ha hal => ?_, fun b hb1 hb2 => h.rest b (by omega) hb2⟩
  · by_cases ha : a = j
    · rw [ha]; exact h.beh b (by omega) (by omega)
    · by_cases hbj : b = j
      · rw [hbj]; exact hb a (by omega)
      · exact h.srt a b hab (by omega) ha hbj
  · by_cases e : a = j
    · rw [e]; omega
    · have := h.idx a (by omega) e; omega
theorem OutI.start (J : List Jb) {n : Nat} {q : List Nat} (hq : q = List.range n) (hn : 0 < n) : OutI J q 1 := by
  subst hq
  have hr : ∀ b, b < n → at_ (List.range n) b = b := fun b hb => by rw [at_get (by simpa using hb)]; simp
  refine ⟨by simp, fun a b h1 h2 => by omega, fun a h1 h2 => ?_, fun b h1 h2 => hr b (by simpa using h2)⟩
  rw [hr a (by simpa using h2)]; exact h1
/-- the order in which jobs are asked -/
def AskL (J : List Jb) (q : List Nat) : Prop := q.Perm (List.range J.length) ∧ Srt J q q.length
end Sc
