/-
  Plain mathematics of the layer 'schedule': the plan, the job that is due first first; and what a queue that holds all that wait tells of it. No program in sight.
-/
import Derived.Test.YtheioedggjbphaaSc
set_option linter.unusedVariables false
namespace Sc
def rdy (J : List Jb) (from_ : Int) (i : Nat) : Int := max (jat J i).ready from_
/-- what a job waits for: ready, not late, pieces left -/
def wts (J : List Jb) (from_ t : Int) (c : List Nat) (i : Nat) : Bool := decide (rdy J from_ i ≤ t ∧ t ≤ (jat J i).due ∧ (at_ c i : Int) < (jat J i).pieces)
def bestL (J : List Jb) (l : List Nat) : Option Nat := l.foldl (fun o i => match o with | none => some i | some b => if less J i b then some i else some b) none
def best (J : List Jb) (from_ t : Int) (c : List Nat) : Option Nat := bestL J ((List.range J.length).filter (wts J from_ t c))
def pstep (J : List Jb) (from_ : Int) (s : List Nat × List Sn) (t : Int) : List Nat × List Sn :=
  match best J from_ t s.1 with
  | some b => (s.1.set b (at_ s.1 b + 1), s.2 ++ [⟨t, b, at_ s.1 b⟩])
  | none => s
def planS (J : List Jb) (from_ : Int) : Nat → List Nat × List Sn
  | 0 => (List.replicate J.length 0, [])
  | k + 1 => pstep J from_ (planS J from_ k) (from_ + k)
def planF (J : List Jb) (from_ : Int) : List Sn := (planS J from_ (400 - from_).toNat).2
def planR (J : List Jb) (from_ : Int) : List Sn × Int := if validJ J && slotB from_ then (planF J from_, 0) else ([], 1)
theorem le_anti {J : List Jb} {a b : Nat} (h : le J a b) (k : le J b a) : a = b := by rw [le_iff] at *; omega
theorem bestL_aux (J : List Jb) : ∀ (l : List Nat) (o : Option Nat), (∀ b, l.foldl (fun o i => match o with | none => some i | some b => if less J i b then some i else some b) o = some b → (b ∈ l ∨ o = some b) ∧ (∀ x ∈ l, le J b x) ∧ ∀ x, o = some x → le J b x) ∧
    (l.foldl (fun o i => match o with | none => some i | some b => if less J i b then some i else some b) o = none → o = none ∧ l = [])
  | [], o => by
    refine ⟨fun b h => ⟨.inr h, fun x hx => by (cases hx), fun x hx => ?_⟩, fun h => ⟨h, rfl⟩⟩
    rw [List.foldl_nil] at h
    rw [h] at hx
    cases hx
    exact ((le_tot J).tot _ _).elim id id
  | i :: l, o => by
    rw [List.foldl_cons]
    cases o with
    | none =>
      obtain ⟨h1, h2⟩ := bestL_aux J l (some i)
      refine ⟨fun b h => ?_, fun h => by have := (h2 h).1; cases this⟩
      obtain ⟨a1, a2, a3⟩ := h1 b h
      refine ⟨.inl ?_, fun x hx => ?_, fun x hx => by cases hx⟩
      · rcases a1 with a1 | a1
        · exact List.mem_cons_of_mem _ a1
        · cases a1; exact List.mem_cons_self
      · rcases List.mem_cons.1 hx with rfl | hx
        · exact a3 _ rfl
        · exact a2 x hx
    | some b0 =>
      dsimp only
      cases hb : less J i b0 with
      | true =>
        rw [if_pos rfl]
        obtain ⟨h1, h2⟩ := bestL_aux J l (some i)
        refine ⟨fun b h => ?_, fun h => by have := (h2 h).1; cases this⟩
        obtain ⟨a1, a2, a3⟩ := h1 b h
        refine ⟨.inl ?_, fun x hx => ?_, fun x hx => ?_⟩
        · rcases a1 with a1 | a1
          · exact List.mem_cons_of_mem _ a1
          · cases a1; exact List.mem_cons_self
        · rcases List.mem_cons.1 hx with rfl | hx
          · exact a3 _ rfl
          · exact a2 x hx
        · cases hx
          exact (le_tot J).tr (a3 _ rfl) (le_of_less hb)
      | false =>
        rw [if_neg (by simp)]
        obtain ⟨h1, h2⟩ := bestL_aux J l (some b0)
        refine ⟨fun b h => ?_, fun h => by have := (h2 h).1; cases this⟩
        obtain ⟨a1, a2, a3⟩ := h1 b h
        refine ⟨?_, fun x hx => ?_, fun x hx => ?_⟩
        · rcases a1 with a1 | a1
          · exact .inl (List.mem_cons_of_mem _ a1)
          · exact .inr a1
        · rcases List.mem_cons.1 hx with rfl | hx
          · exact (le_tot J).tr (a3 _ rfl) hb
          · exact a2 x hx
        · exact a3 x hx
theorem bestL_some {J : List Jb} {l : List Nat} {b : Nat} (h : bestL J l = some b) : b ∈ l ∧ ∀ x ∈ l, le J b x := by
  obtain ⟨h1, h2, _⟩ := (bestL_aux J l none).1 b h
  exact ⟨h1.resolve_right (by simp), h2⟩
theorem bestL_none {J : List Jb} {l : List Nat} (h : bestL J l = none) : l = [] := ((bestL_aux J l none).2 h).2
theorem bestL_eq {J : List Jb} {l : List Nat} {b : Nat} (h : b ∈ l) (hm : ∀ x ∈ l, le J b x) : bestL J l = some b := by
  cases e : bestL J l with
  | none => rw [bestL_none e] at h; cases h
  | some c =>
    obtain ⟨h1, h2⟩ := bestL_some e
    rw [le_anti (h2 b h) (hm c h1)]
theorem bestL_nil {J : List Jb} {l : List Nat} (h : l = []) : bestL J l = none := by subst h; rfl
theorem best_some {J : List Jb} {from_ t : Int} {c : List Nat} {b : Nat} : best J from_ t c = some b ↔ (b < J.length ∧ wts J from_ t c b = true ∧ ∀ x, x < J.length → wts J from_ t c x = true → le J b x) := by
  constructor
  · intro h
    obtain ⟨h1, h2⟩ := bestL_some h
    rw [List.mem_filter, List.mem_range] at h1
    exact ⟨h1.1, h1.2, fun x hx hw => h2 x (List.mem_filter.2 ⟨List.mem_range.2 hx, hw⟩)⟩
  · rintro ⟨h1, h2, h3⟩
    refine bestL_eq (List.mem_filter.2 ⟨List.mem_range.2 h1, h2⟩) fun x hx => ?_
    rw [List.mem_filter, List.mem_range] at hx
    exact h3 x hx.1 hx.2
theorem best_none {J : List Jb} {from_ t : Int} {c : List Nat} : best J from_ t c = none ↔ ∀ x, x < J.length → wts J from_ t c x = false := by
  constructor
  · intro h x hx
    have := bestL_none h
    rw [List.filter_eq_nil_iff] at this
    simpa using this x (List.mem_range.2 hx)
  · intro h
    refine bestL_nil (List.filter_eq_nil_iff.2 fun x hx => ?_)
    rw [h x (List.mem_range.1 hx)]
    simp
theorem pstep_some {J : List Jb} {from_ t : Int} {s : List Nat × List Sn} {b : Nat} (h : best J from_ t s.1 = some b) : pstep J from_ s t = (s.1.set b (at_ s.1 b + 1), s.2 ++ [⟨t, b, at_ s.1 b⟩]) := by unfold pstep; rw [h]
theorem pstep_none {J : List Jb} {from_ t : Int} {s : List Nat × List Sn} (h : best J from_ t s.1 = none) : pstep J from_ s t = s := by unfold pstep; rw [h]
/-! ### counts -/
structure CI (J : List Jb) (c : List Nat) : Prop where
  len : c.length = J.length
  le : ∀ i, i < J.length → (at_ c i : Int) ≤ (jat J i).pieces
theorem at_set {c : List Nat} {b x : Nat} (hb : b < c.length) (v : Nat) : at_ (c.set b v) x = if x = b then v else at_ c x := by
  unfold at_
  rw [List.getD_eq_getElem?_getD, List.getD_eq_getElem?_getD]
  by_cases h : x = b
  · subst h; rw [if_pos rfl, List.getElem?_set_self hb]; rfl
  · rw [if_neg h, List.getElem?_set_ne (Ne.symm h)]
theorem at_repl (n i : Nat) : at_ (List.replicate n 0) i = 0 := by
  unfold at_
  rw [List.getD_eq_getElem?_getD, List.getElem?_replicate]
  split <;> rfl
theorem pstep_ci {J : List Jb} {from_ t : Int} {s : List Nat × List Sn} (h : CI J s.1) : CI J (pstep J from_ s t).1 := by
  cases hb : best J from_ t s.1 with
  | none => rw [pstep_none hb]; exact h
  | some b =>
    rw [pstep_some hb]
    obtain ⟨h1, h2, _⟩ := best_some.1 hb
    refine ⟨by simp [h.len], fun i hi => ?_⟩
    dsimp only
    rw [at_set (by rw [h.len]; exact h1)]
    unfold wts at h2
    simp at h2
    split
    · rename_i e; subst e; omega
    · exact h.le i hi
theorem planS_ci {J : List Jb} (hv : ∀ j ∈ J, jobB j = true) (from_ : Int) : ∀ k, CI J (planS J from_ k).1
  | 0 => ⟨by simp [planS], fun i hi => by
      have := (jobB_iff.1 (hv _ (List.getElem_mem hi)))
      show ((at_ (List.replicate J.length 0) i : Nat) : Int) ≤ _
      rw [at_repl, jat_get hi]
      omega⟩
  | k + 1 => pstep_ci (planS_ci hv from_ k)
theorem pstep_len {J : List Jb} {from_ t : Int} {s : List Nat × List Sn} : (pstep J from_ s t).2.length ≤ s.2.length + 1 := by
  cases hb : best J from_ t s.1 with
  | none => rw [pstep_none hb]; omega
  | some b => rw [pstep_some hb]; simp
theorem planS_len (J : List Jb) (from_ : Int) : ∀ k, (planS J from_ k).2.length ≤ k
  | 0 => Nat.le_refl _
  | k + 1 => by have := planS_len J from_ k; have := @pstep_len J from_ (from_ + k) (planS J from_ k); unfold planS; omega
/-! ### the queue -/
def dead (J : List Jb) (t : Int) (c : List Nat) (i : Nat) : Prop := (jat J i).due < t ∨ (at_ c i : Int) = (jat J i).pieces
/-- the queue holds what has come and can still wait: A: what has come -/
structure QI (J : List Jb) (A : Nat → Prop) (t : Int) (c q : List Nat) : Prop where
  nd : q.Nodup
  mem : ∀ x ∈ q, x < J.length ∧ A x
  out : ∀ x, x < J.length → A x → x ∉ q → dead J t c x
theorem nodup_len : ∀ (n : Nat) (l : List Nat), l.Nodup → (∀ x ∈ l, x < n) → l.length ≤ n
  | 0, l, _, h => by
    cases l with
    | nil => exact Nat.le_refl _
    | cons a l => exact absurd (h a List.mem_cons_self) (Nat.not_lt_zero _)
  | n + 1, l, hn, h => by
    by_cases hm : n ∈ l
    · have h1 := nodup_len n (l.erase n) (hn.erase n) (fun x hx => by
        have h2 := (List.Nodup.mem_erase_iff hn).1 hx
        have h3 := h x h2.2
        have := h2.1
        omega)
      rw [List.length_erase_of_mem hm] at h1
      omega
    · have := nodup_len n l hn (fun x hx => by
        have h3 := h x hx
        have : x ≠ n := fun e => hm (e ▸ hx)
        omega)
      omega
theorem QI.len {J : List Jb} {A : Nat → Prop} {t : Int} {c q : List Nat} (h : QI J A t c q) : q.length ≤ J.length := by
  exact nodup_len _ _ h.nd (fun x hx => (h.mem x hx).1)
theorem QI.push {J : List Jb} {A A' : Nat → Prop} {t : Int} {c q q' : List Nat} {x : Nat} (h : QI J A t c q) (hp : q'.Perm (q ++ [x])) (hx : x < J.length) (hA : ¬ A x) (hA' : ∀ y, A' y ↔ A y ∨ y = x) : QI J A' t c q' := by
  have hq : x ∉ q := fun hm => hA (h.mem x hm).2
  have hmem : ∀ y, y ∈ q' ↔ y ∈ q ∨ y = x := fun y => by rw [hp.mem_iff]; simp
  refine ⟨hp.nodup_iff.2 (List.nodup_append.2 ⟨h.nd, by simp, fun a ha b hb => ?_⟩), fun y hy => ?_, fun y hy ha hn => ?_⟩
  · obtain rfl : b = x := by simpa using hb
    rintro rfl
    exact hq ha
  · rcases (hmem y).1 hy with hy | rfl
    · exact ⟨(h.mem y hy).1, (hA' y).2 (.inl (h.mem y hy).2)⟩
    · exact ⟨hx, (hA' y).2 (.inr rfl)⟩
  · rcases (hA' y).1 ha with ha | rfl
    · exact h.out y hy ha (fun hm => hn ((hmem y).2 (.inl hm)))
    · exact absurd ((hmem y).2 (.inr rfl)) hn
theorem QI.same {J : List Jb} {A A' : Nat → Prop} {t : Int} {c q : List Nat} (h : QI J A t c q) (hA : ∀ y, y < J.length → (A' y ↔ A y)) : QI J A' t c q :=
  ⟨h.nd, fun y hy => ⟨(h.mem y hy).1, (hA y (h.mem y hy).1).2 (h.mem y hy).2⟩, fun y hy ha => h.out y hy ((hA y hy).1 ha)⟩
theorem QI.pop {J : List Jb} {A : Nat → Prop} {t : Int} {c q q' : List Nat} {x : Nat} (h : QI J A t c q) (hp : (q' ++ [x]).Perm q) (hd : dead J t c x) : QI J A t c q' := by
  have hmem : ∀ y, y ∈ q ↔ y ∈ q' ∨ y = x := fun y => by rw [← hp.mem_iff]; simp
  refine ⟨(List.nodup_append.1 (hp.nodup_iff.2 h.nd)).1, fun y hy => h.mem y ((hmem y).2 (.inl hy)), fun y hy ha hn => ?_⟩
  by_cases hyx : y = x
  · subst hyx; exact hd
  · exact h.out y hy ha (fun hm => (hmem y).1 hm |>.elim hn hyx)
/-- behind what is sent, in the next slot -/
theorem QI.next {J : List Jb} {from_ t : Int} {s : List Nat × List Sn} {q : List Nat} (hc : CI J s.1) (h : QI J (fun x => rdy J from_ x ≤ t) t s.1 q) : QI J (fun x => rdy J from_ x < t + 1) (t + 1) (pstep J from_ s t).1 q := by
  refine ⟨h.nd, fun y hy => ⟨(h.mem y hy).1, by have := (h.mem y hy).2; show _ < _; omega⟩, fun y hy ha hn => ?_⟩
  have hd := h.out y hy (by have : rdy J from_ y < t + 1 := ha; show _ ≤ _; omega) hn
  cases hb : best J from_ t s.1 with
  | none => rw [pstep_none hb]; exact hd.imp (fun h => by omega) id
  | some b =>
    rw [pstep_some hb]
    obtain ⟨h1, h2, _⟩ := best_some.1 hb
    unfold wts at h2
    simp at h2
    unfold dead at hd ⊢
    dsimp only
    rw [at_set (by rw [hc.len]; exact h1)]
    by_cases e : y = b
    · subst e; omega
    · rw [if_neg e]; exact hd.imp (fun h => by omega) id
theorem QI.first {J : List Jb} {from_ t : Int} {c q : List Nat} (hc : CI J c) (h : QI J (fun x => rdy J from_ x ≤ t) t c q) (hh : Heap (le J) q q.length) (h0 : 0 < q.length) (hd : ¬ dead J t c (at_ q 0)) : best J from_ t c = some (at_ q 0) := by
  have hm : at_ q 0 ∈ q := by rw [at_get h0]; exact List.getElem_mem h0
  obtain ⟨m1, m2⟩ := h.mem _ hm
  have hle := hc.le _ m1
  unfold dead at hd
  refine best_some.2 ⟨m1, decide_eq_true ⟨m2, by omega, by omega⟩, fun x hx hw => ?_⟩
  unfold wts at hw
  simp at hw
  by_cases hxq : x ∈ q
  · obtain ⟨k, hk, rfl⟩ := List.getElem_of_mem hxq
    rw [← at_get hk]
    exact hh.first (le_tot J) k hk
  · have := h.out x hx hw.1 hxq
    unfold dead at this
    omega
theorem QI.empty {J : List Jb} {from_ t : Int} {c q : List Nat} (h : QI J (fun x => rdy J from_ x ≤ t) t c q) (h0 : q.length = 0) : best J from_ t c = none := by
  obtain rfl := List.eq_nil_of_length_eq_zero h0
  refine best_none.2 fun x hx => ?_
  by_cases hr : rdy J from_ x ≤ t
  · have := h.out x hx hr (by simp)
    unfold dead at this
    unfold wts
    exact decide_eq_false (by omega)
  · exact decide_eq_false (fun e => hr e.1)
theorem QI.nil (J : List Jb) (from_ : Int) (c : List Nat) : QI J (fun x => rdy J from_ x < from_) from_ c [] := ⟨.nil, (fun x hx => by cases hx), fun x hx ha => by have : rdy J from_ x < from_ := ha; unfold rdy at this; omega⟩
end Sc
