/-
  Plain mathematics of the layer 'schedule': what is admitted. No program in sight.
-/
import Derived.Test.YtheioedggjbphaaScZ
import Derived.Test.YtheioedggjbphaaSdP
set_option linter.unusedVariables false
namespace Sc
def befB (J : List Jb) (x y : Nat) : Bool := decide ((jat J y).prio < (jat J x).prio ∨ (jat J y).prio = (jat J x).prio ∧ x < y)
theorem befB_iff {J : List Jb} {x y : Nat} : befB J x y = true ↔ bef J x y := by unfold befB bef; rw [decide_eq_true_eq]
theorem bef_asym {J : List Jb} {x y : Nat} (h : bef J x y) (k : bef J y x) : False := by unfold bef at *; omega
theorem eq_of_rise {l k : List Nat} (hl : l.Pairwise (· < ·)) (hk : k.Pairwise (· < ·)) (h : ∀ x, x ∈ l ↔ x ∈ k) : l = k :=
  List.Perm.eq_of_pairwise (le := fun x y : Nat => x < y) (fun a b _ _ h1 h2 => by omega) hl hk ((List.perm_ext_iff_of_nodup (hl.imp (fun h => Nat.ne_of_lt h)) (hk.imp (fun h => Nat.ne_of_lt h))).2 h)
theorem srtN_rise {l : List Nat} (h : l.Nodup) : (srtN l).Pairwise (· < ·) := by
  have h1 := srtN_sorted l
  have h2 : (srtN l).Nodup := (List.mergeSort_perm l _).nodup_iff.2 h
  exact List.Pairwise.imp₂ (fun a b (h1 : a ≤ b) (h2 : a ≠ b) => Nat.lt_of_le_of_ne h1 h2) h1 h2
theorem admF_more {J : List Jb} {f : Int} {q : List Nat} {x : Nat} (h : x ∈ admF J f q) (r : List Nat) : x ∈ admF J f (q ++ r) := by
  induction r using foldl_snoc with
  | h0 => simpa using h
  | h1 r i ih =>
    rw [← List.append_assoc, admF_snoc]
    unfold admI
    split
    · rw [srtN_mem]; exact List.mem_append.2 (.inl ih)
    · exact ih
theorem admF_back {J : List Jb} {f : Int} {q r : List Nat} {x : Nat} (h : x ∈ admF J f (q ++ r)) : x ∈ admF J f q ∨ x ∈ r := by
  induction r using foldl_snoc with
  | h0 => rw [List.append_nil] at h; exact .inl h
  | h1 r i ih =>
    rw [← List.append_assoc, admF_snoc] at h
    rcases admI_mem h with h | rfl
    · exact (ih h).imp id (fun h => List.mem_append.2 (.inl h))
    · exact .inr (by simp)
theorem admF_rise {J : List Jb} {f : Int} {q : List Nat} : q.Nodup → (admF J f q).Pairwise (· < ·) := by
  induction q using foldl_snoc with
  | h0 => intro _; exact List.Pairwise.nil
  | h1 q i ih =>
    intro h
    rw [List.nodup_append] at h
    obtain ⟨h1, _, h3⟩ := h
    rw [admF_snoc]
    unfold admI
    split
    · refine srtN_rise (List.nodup_append.2 ⟨(ih h1).imp (fun h => Nat.ne_of_lt h), by simp, fun a ha b hb => ?_⟩)
      exact h3 a (admF_mem a ha) b hb
    · exact ih h1
theorem fits_nil (J : List Jb) (f : Int) : fits J f [] = true := by
  unfold fits pickJ lateF
  simp
theorem admF_fits {J : List Jb} {f : Int} {q : List Nat} : fits J f (admF J f q) = true := by
  induction q using foldl_snoc with
  | h0 => exact fits_nil J f
  | h1 q i ih =>
    rw [admF_snoc]
    unfold admI
    split
    · assumption
    · exact ih
theorem adm_law {J : List Jb} {f : Int} {q : List Nat} (h : AskL J q) {i : Nat} (hi : i < J.length) (hni : i ∉ admF J f q) :
    fits J f (srtN ((admF J f q).filter (fun x => befB J x i) ++ [i])) = false := by
  have hnd : q.Nodup := h.1.nodup_iff.2 List.nodup_range
  have hs := srt_pair h.2
  obtain ⟨pre, post, rfl⟩ := List.append_of_mem (h.1.mem_iff.2 (List.mem_range.2 hi))
  rw [List.pairwise_append] at hs
  obtain ⟨_, hs2, hs3⟩ := hs
  rw [List.pairwise_cons] at hs2
  rw [show pre ++ i :: post = (pre ++ [i]) ++ post by simp] at hnd hni ⊢
  have e : (admF J f ((pre ++ [i]) ++ post)).filter (fun x => befB J x i) = admF J f pre := by
    refine eq_of_rise ((admF_rise hnd).filter _) (admF_rise (by
      rw [List.append_assoc, List.nodup_append] at hnd
      exact hnd.1)) fun x => ?_
    rw [List.mem_filter, befB_iff]
    constructor
    · rintro ⟨h1, h2⟩
      rcases admF_back h1 with h1 | h1
      · rcases admF_back h1 with h1 | h1
        · exact h1
        · rw [List.mem_singleton] at h1
          subst h1
          exact absurd h2 (fun h => bef_asym h h)
      · exact absurd h2 (fun h => bef_asym h (hs2.1 x h1))
    · intro h1
      refine ⟨?_, hs3 x (admF_mem x h1) i List.mem_cons_self⟩
      rw [List.append_assoc]
      exact admF_more h1 _
  rw [e]
  cases hf : fits J f (srtN (admF J f pre ++ [i])) with
  | false => rfl
  | true =>
    refine absurd (admF_more (r := post) (x := i) ?_) hni
    rw [admF_snoc]
    unfold admI
    rw [if_pos hf, srtN_mem]
    simp
/-! ### a further index, put into its place -/
/-- the further index at the place k -/
def ins (l : List Nat) (n k : Nat) : List Nat := l.take k ++ n :: l.drop k
theorem ins_len {l : List Nat} {n k : Nat} (h : k ≤ l.length) : (ins l n k).length = l.length + 1 := by unfold ins; simp; omega
theorem ins_perm (l : List Nat) (n k : Nat) : (ins l n k).Perm (l ++ [n]) := by
  unfold ins
  refine List.perm_middle.trans ?_
  rw [List.take_append_drop]
  exact (List.perm_append_singleton n l).symm
theorem ins_all (l : List Nat) (n : Nat) : ins l n l.length = l ++ [n] := by unfold ins; simp
theorem ins_srt {l : List Nat} {n k : Nat} (hl : l.Pairwise (· < ·)) (h1 : ∀ x ∈ l.take k, x ≤ n) (h2 : ∀ x ∈ l.drop k, n ≤ x) : ins l n k = srtN (l ++ [n]) := by
  refine (srtN_eq (ins_perm l n k).symm ?_).symm
  unfold ins
  rw [List.pairwise_append, List.pairwise_cons]
  refine ⟨(hl.take).imp (fun h => Nat.le_of_lt h), ⟨h2, (hl.drop).imp (fun h => Nat.le_of_lt h)⟩, fun a ha b hb => ?_⟩
  rcases List.mem_cons.1 hb with rfl | hb
  · exact h1 a ha
  · exact Nat.le_trans (h1 a ha) (h2 b hb)
theorem ins_at {l : List Nat} {n k : Nat} (h : k ≤ l.length) : (ins l n k)[k]? = some n := by
  unfold ins
  rw [List.getElem?_append_right (by rw [List.length_take]; omega), List.length_take_of_le h, Nat.sub_self]
  rfl
theorem ins_bef {l : List Nat} {n k : Nat} (h : k < l.length) : (ins l n (k + 1))[k]? = some l[k] := by
  unfold ins
  rw [List.getElem?_append_left (by rw [List.length_take]; omega), List.getElem?_take_of_lt (Nat.lt_succ_self k), List.getElem?_eq_getElem h]
theorem ins_swap {l : List Nat} {n k : Nat} (h : k < l.length) : ((ins l n (k + 1)).set (k + 1) l[k]).set k n = ins l n k := by
  apply List.ext_getElem?
  intro i
  have hl1 : (l.take (k + 1)).length = k + 1 := by rw [List.length_take]; omega
  have hl2 : (l.take k).length = k := by rw [List.length_take]; omega
  unfold ins
  rw [List.getElem?_set, List.getElem?_set]
  simp only [List.length_set, List.length_append, List.length_cons, hl1, List.length_drop]
  by_cases h1 : k = i
  · subst h1
    rw [if_pos rfl, if_pos (by omega), List.getElem?_append_right (by omega), hl2, Nat.sub_self]
    rfl
  · rw [if_neg h1]
    by_cases h2 : k + 1 = i
    · subst h2
      rw [if_pos rfl, if_pos (by omega), List.getElem?_append_right (by omega), hl2, show k + 1 - k = 0 + 1 by omega, List.getElem?_cons_succ, List.getElem?_drop, List.getElem?_eq_getElem (by omega)]
      rfl
    · rw [if_neg h2]
      by_cases h3 : i < k
      · rw [List.getElem?_append_left (by omega), List.getElem?_append_left (by omega), List.getElem?_take_of_lt (by omega), List.getElem?_take_of_lt h3]
      · rw [List.getElem?_append_right (by omega), List.getElem?_append_right (by omega), hl1, hl2]
        obtain ⟨d, rfl⟩ : ∃ d, i = k + 2 + d := ⟨i - (k + 2), by omega⟩
        rw [show k + 2 + d - (k + 1) = d + 1 by omega, show k + 2 + d - k = (d + 1) + 1 by omega, List.getElem?_cons_succ, List.getElem?_cons_succ, List.getElem?_drop, List.getElem?_drop]
        congr 1
        omega
end Sc
