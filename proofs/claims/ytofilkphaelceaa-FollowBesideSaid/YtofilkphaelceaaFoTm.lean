/-
  Plain laws of the layer 'follow': what is missing for a step. No program in sight.
-/
import Derived.Test.YtofilkphaelceaaFoLp
import Derived.Test.YtofilkphaelceaaFoN
set_option linter.unusedVariables false
namespace Fo
section
variable {l : List St} {o D M : List Int} {x t : Int}
theorem Rch.any (h : Rch l D t x) : Rch l [] t x := by
  induction h with
  | one hf ha _ => exact .one hf ha rfl
  | more _ hf ha _ ih => exact .more ih hf ha rfl
theorem take_lt {M : List Int} (hM : M.Pairwise (· < ·)) {i : Nat} (hi : i < M.length) {a : Int} (ha : a ∈ M) (hlt : a < M[i]) : a ∈ M.take i := by
  obtain ⟨j, hj, rfl⟩ := List.getElem_of_mem ha
  have hji : j < i := by
    rcases Nat.lt_trichotomy j i with h | h | h
    · exact h
    · subst h; omega
    · have := List.pairwise_iff_getElem.1 hM i j hi hj h; omega
  exact List.mem_take_iff_getElem.2 ⟨j, by omega, rfl⟩
/-- the numbers that are missing, behind the order, in rising order: permitted; and then the step itself -/
theorem miss_perm (hv : VOk l) (ho : PermP l o) (hD : ∀ y, y ∈ D ↔ y ∈ o) (hM : M.Pairwise (· < ·)) (hm : ∀ y, y ∈ M ↔ Rch l D t y) : PermP l (o ++ M) := by
  have key : ∀ i, i ≤ M.length → PermP l (o ++ M.take i) := by
    intro i
    induction i with
    | zero => intro _; rw [List.take_zero, List.append_nil]; exact ho
    | succ i ih =>
      intro hi
      have hi' : i < M.length := by omega
      rw [List.take_add_one, List.getElem?_eq_getElem hi', Option.toList_some, ← List.append_assoc]
      refine permP_snoc.2 ⟨ih (by omega), ?_⟩
      have hr := (hm _).1 (List.getElem_mem hi')
      obtain ⟨_, ⟨s, hs, hsn⟩, hnd⟩ := hr.lt hv
      obtain ⟨k, hk, rfl⟩ := List.getElem_of_mem hs
      have hf : findS l M[i] = some l[k] := hsn ▸ find_mem hv hk
      refine (nxt_iff hv).2 ⟨_, hf, ?_, fun a ha => ?_⟩
      · rw [List.mem_append]
        rintro (h1 | h1)
        · rw [List.contains_eq_mem, decide_eq_false_iff_not] at hnd
          exact hnd ((hD _).2 h1)
        · obtain ⟨j, hj, he⟩ := List.getElem_of_mem h1
          rw [List.length_take] at hj
          rw [List.getElem_take] at he
          have := List.pairwise_iff_getElem.1 hM j i (by omega) hi' (by omega)
          omega
      · rw [List.mem_append]
        cases hc : D.contains a with
        | true => rw [List.contains_eq_mem, decide_eq_true_eq] at hc; exact .inl ((hD _).1 hc)
        | false =>
          refine .inr (take_lt hM hi' ((hm _).2 (.more hr hf ha hc)) ?_)
          have := (af_lt hv (find_some hf).1 ha).1
          rw [(find_some hf).2] at this
          exact this
  have := key M.length (Nat.le_refl _)
  rwa [List.take_length] at this
theorem miss_next (hv : VOk l) (hD : ∀ y, y ∈ D ↔ y ∈ o) (hm : ∀ y, y ∈ M ↔ Rch l D t y) (ht : t ∉ o) {s : St} (hf : findS l t = some s) : nxt l (o ++ M) t = true := by
  refine (nxt_iff hv).2 ⟨s, hf, ?_, fun a ha => ?_⟩
  · rw [List.mem_append]
    rintro (h | h)
    · exact ht h
    · have := (((hm _).1 h).lt hv).1; omega
  · rw [List.mem_append]
    cases hc : D.contains a with
    | true => rw [List.contains_eq_mem, decide_eq_true_eq] at hc; exact .inl ((hD _).1 hc)
    | false => exact .inr ((hm _).2 (.one hf ha hc))
theorem PermP.first (hv : VOk l) {A : List Int} (h : PermP l A) {m : Int} (hr : Rch l [] t m) {q : Nat} (hq : q < A.length) (he : A[q] = t) : ∃ j, j < q ∧ A[j]? = some m := by
  have hs : A = A.take q ++ t :: A.drop (q + 1) := by
    rw [← he, ← List.drop_eq_getElem_cons hq, List.take_append_drop]
  obtain ⟨j, hj, e⟩ := List.getElem_of_mem (h.ahead hv hr _ _ hs)
  rw [List.length_take] at hj
  rw [List.getElem_take] at e
  exact ⟨j, by omega, by rw [List.getElem?_eq_getElem (by omega), e]⟩
end
end Fo
namespace Go.Proofs.Ytofilkphaelceaa
open Go Go.RowKit Fo Sk Go.Sort
theorem miss_ex {l : List St} {o : List Int} {t : Int} {M : List Int} (hl : l.length ≤ 30) (ho : o.length ≤ 30) (hp : permR l o = (-1, 0)) (hm : missR l (srt o) t = (M, 0)) (ht : o.contains t = false) :
    M.length ≤ 30 ∧ ∃ r, readyR l (srt (o ++ M)) = (r, 0) ∧ r.contains t = true ∧ permR l (o ++ M ++ [t]) = (-1, 0) ∧
      (∀ more : List Int, more.length ≤ 30 → permR l (o ++ more) = (-1, 0) → (o ++ more).contains t = true → ∀ m ∈ M, (o ++ more).contains m = true ∧ ∀ q (h : q < (o ++ more).length), (o ++ more)[q] = t → ∃ j, j < q ∧ (o ++ more)[j]? = some m) := by
  obtain ⟨hv, hP⟩ := perm_ok (by omega) hp
  have hok := vok hv
  have hdn : isDone (srt o) = true := done_srt hok (PermP.nodup hP) (PermP.num hok hP) (by omega)
  rw [List.contains_eq_mem, decide_eq_false_iff_not] at ht
  cases hf : findS l t with
  | none => rw [missR_none hv hdn hf] at hm; simp at hm
  | some s =>
    rw [missR_ok hv hdn hf] at hm
    obtain rfl := (Prod.mk.inj hm).1
    have hML : (missF l (srt o) t).length ≤ 30 := Nat.le_trans (by unfold missF; rw [List.length_map]; exact List.length_filter_le _ _) hl
    have hmm : ∀ y, y ∈ missF l (srt o) t ↔ Rch l (srt o) t y := fun y => miss_iff hok _ _ _
    have hMi : (missF l (srt o) t).Pairwise (· < ·) := filt_inc hok _
    generalize missF l (srt o) t = M at *
    have hPM := miss_perm hok hP (fun y => srt_mem) hMi hmm
    have hN := miss_next hok (fun y => srt_mem) hmm ht hf
    have hd2 : isDone (srt (o ++ M)) = true := done_srt hok (PermP.nodup hPM) (PermP.num hok hPM) (by simp; omega)
    refine ⟨hML, _, readyR_ok hv hd2, ?_, permR_of hv (by simp; omega) (permP_snoc.2 ⟨hPM, hN⟩), fun more hmore hp2 ht2 m hmM => ?_⟩
    · rw [ready_has hok, nxt_congr (q := o ++ M) (fun y => srt_mem)]
      exact hN
    · obtain ⟨_, hPA⟩ := perm_ok (by simp; omega) hp2
      have hr := ((hmm m).1 hmM).any
      rw [List.contains_eq_mem, decide_eq_true_eq] at ht2
      refine ⟨?_, fun q hq he => hPA.first hok hr hq he⟩
      rw [List.contains_eq_mem, decide_eq_true_eq]
      exact hPA.closed hok ht2 hr
end Go.Proofs.Ytofilkphaelceaa
