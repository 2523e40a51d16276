/-
  The examples of chapter 32: what they come to. No program in sight.
-/
import Derived.Test.YtheioedggjbphaaScY
set_option linter.unusedVariables false
namespace Sc
theorem srtN_eq {l l' : List Nat} (h : l.Perm l') (hs : l'.Pairwise (· ≤ ·)) : srtN l = l' := by
  refine List.Perm.eq_of_pairwise (le := fun x y : Nat => x ≤ y) (fun a b _ _ h1 h2 => by omega) (srtN_sorted l) hs ?_
  exact (List.mergeSort_perm l _).trans h
theorem srt_pair {J : List Jb} {q : List Nat} (h : Srt J q q.length) : q.Pairwise (bef J) := by
  rw [List.pairwise_iff_getElem]
  intro i j hi hj hij
  have := h i j hij hj
  rwa [at_get hi, at_get hj] at this
theorem ask_uniq {J : List Jb} {q q' : List Nat} (h : AskL J q) (h' : AskL J q') : q = q' :=
  List.Perm.eq_of_pairwise (le := bef J) (fun a b _ _ h1 h2 => by unfold bef at *; omega) (srt_pair h.2) (srt_pair h'.2) (h.1.trans h'.1.symm)
theorem ask_of {J : List Jb} {q : List Nat} (h1 : q.Perm (List.range J.length)) (h2 : q.Pairwise (bef J)) : AskL J q := by
  refine ⟨h1, fun a b hab hb => ?_⟩
  rw [at_get (show a < q.length by omega), at_get hb]
  exact (List.pairwise_iff_getElem.1 h2) a b _ _ hab
def kP : List Sn := [⟨0, 0, 0⟩, ⟨1, 1, 0⟩, ⟨2, 1, 1⟩, ⟨3, 2, 0⟩, ⟨4, 0, 1⟩]
end Sc
namespace Go.Proofs.Ytheioedggjbphaa
open Go Go.RowKit Sc Sk Go.Sort
theorem k_plan : planR kJ 0 = (kP, 0) := by kernel_rfl
theorem k_late : lateR kJ kP = ([2], 0) := by kernel_rfl
theorem k_check : checkR kJ kP = (true, 0) := by kernel_rfl
theorem k_done : doneR kP 1 = ([1, 2], 0) := by kernel_rfl
theorem k_v : validJ kJ = true := by kernel_rfl
theorem k_v2 : validJ (kJ.take 2) = true := by kernel_rfl
theorem k_f1 : fits kJ 0 [2] = true := by kernel_rfl
theorem k_f2 : fits kJ 0 [0, 2] = true := by kernel_rfl
theorem k_f3 : fits kJ 0 [0, 1, 2] = false := by kernel_rfl
theorem k_adm {L : List Int} {er : Int} (h : AdmSp kJ 0 L er) : L = [0, 2] ∧ er = 0 := by
  unfold AdmSp at h
  rw [if_pos ⟨k_v, rfl⟩] at h
  obtain ⟨rfl, q, hq, rfl⟩ := h
  have h2 : AskL kJ [2, 0, 1] := ask_of (by decide) (by
    simp only [List.pairwise_cons, List.mem_cons, List.not_mem_nil, or_false, forall_eq_or_imp, forall_eq, false_implies, implies_true, and_true, List.Pairwise.nil]
    refine ⟨⟨.inl (by decide), .inl (by decide)⟩, .inl (by decide)⟩)
  rw [ask_uniq hq h2]
  have s1 : srtN ([] ++ [2]) = [2] := srtN_eq (by decide) (by decide)
  have s2 : srtN ([2] ++ [0]) = [0, 2] := srtN_eq (by decide) (by decide)
  have s3 : srtN ([0, 2] ++ [1]) = [0, 1, 2] := srtN_eq (by decide) (by decide)
  refine ⟨?_, rfl⟩
  unfold admF
  simp only [List.foldl_cons, List.foldl_nil]
  unfold admI
  rw [s1, k_f1, if_pos rfl, s2, k_f2, if_pos rfl, s3, k_f3]
  rfl
theorem k_load (a b : Int) : loadP 0 a b kJ = (if a ≤ 0 ∧ 5 ≤ b then 2 else 0) + ((if a ≤ 1 ∧ 2 ≤ b then 2 else 0) + (if a ≤ 2 ∧ 3 ≤ b then 2 else 0)) := by
  unfold loadP kJ
  rw [sumP_filter_cons, sumP_filter_cons, sumP_filter_cons]
  simp only [decide_eq_true_eq, List.filter_nil]
  rw [show sumP [] = 0 from rfl, Int.add_zero]
  rfl
theorem k_load2 (a b : Int) : loadP 0 a b (kJ.take 2) = (if a ≤ 0 ∧ 5 ≤ b then 2 else 0) + (if a ≤ 1 ∧ 2 ≤ b then 2 else 0) := by
  unfold loadP kJ
  simp only [List.take_succ_cons, List.take_zero]
  rw [sumP_filter_cons, sumP_filter_cons]
  simp only [decide_eq_true_eq, List.filter_nil]
  rw [show sumP [] = 0 from rfl, Int.add_zero]
  rfl
theorem k_core {lo hi er : Int} (h : CoreSp kJ 0 lo hi er) : lo = 1 ∧ hi = 3 ∧ er = 0 := by
  unfold CoreSp at h
  rw [if_pos ⟨k_v, rfl⟩, if_neg (by decide)] at h
  have ho : over kJ 0 1 3 := by unfold over; rw [k_load]; decide
  rcases h with ⟨h1, h2, h3, h4, h5, h6⟩ | ⟨h1, h2, h3, h4⟩
  · have h7 := fun h => h6 1 3 (by omega) (by omega) (by omega) h ho
    unfold over at h5
    rw [k_load] at h5
    split at h5 <;> split at h5 <;> split at h5 <;> omega
  · exact absurd ho (h4 1 3 (by omega) (by omega) (by omega))
theorem k_core2 {lo hi er : Int} (h : CoreSp (kJ.take 2) 0 lo hi er) : er = 4 := by
  unfold CoreSp at h
  rw [if_pos ⟨k_v2, rfl⟩, if_neg (by decide)] at h
  rcases h with ⟨h1, h2, h3, h4, h5, h6⟩ | ⟨h1, _⟩
  · unfold over at h5
    rw [k_load2] at h5
    split at h5 <;> split at h5 <;> omega
  · exact h1
end Go.Proofs.Ytheioedggjbphaa
