/-
  Plain mathematics of the layer 'schedule': how the reference implementation comes to its answers. No program in sight.
-/
import Derived.Test.YtheioedggjbphaaSdA
import Derived.Test.YtheioedggjbphaaSdU
set_option linter.unusedVariables false
namespace Sc
/-! ### the best job -/
def bestP (J : List Jb) (f t : Int) (c : List Nat) (i : Nat) : Option Nat := bestL J ((List.range i).filter (wts J f t c))
theorem bestP_all (J : List Jb) (f t : Int) (c : List Nat) : bestP J f t c J.length = best J f t c := rfl
theorem bestP_zero (J : List Jb) (f t : Int) (c : List Nat) : bestP J f t c 0 = none := rfl
theorem bestP_no {J : List Jb} {f t : Int} {c : List Nat} {i : Nat} (h : wts J f t c i = false) : bestP J f t c (i + 1) = bestP J f t c i := by
  unfold bestP
  rw [List.range_succ, List.filter_append]
  simp [h]
theorem bestP_yes {J : List Jb} {f t : Int} {c : List Nat} {i : Nat} (h : wts J f t c i = true) : bestP J f t c (i + 1) = match bestP J f t c i with | none => some i | some b => if less J i b then some i else some b := by
  unfold bestP
  rw [List.range_succ, List.filter_append]
  rw [show [i].filter (wts J f t c) = [i] by simp [h]]
  unfold bestL
  rw [List.foldl_append]
  rfl
theorem bestP_lt {J : List Jb} {f t : Int} {c : List Nat} {i b : Nat} (h : bestP J f t c i = some b) : b < i := by
  have := (bestL_some h).1
  rw [List.mem_filter, List.mem_range] at this
  exact this.1
def oI : Option Nat → Int
  | none => -1
  | some b => b
theorem wts_ref {J : List Jb} {f t : Int} {c : List Nat} {i : Nat} (hf : f ≤ t) : wts J f t c i = decide ((jat J i).ready ≤ t ∧ t ≤ (jat J i).due ∧ (at_ c i : Int) < (jat J i).pieces) := by
  unfold wts rdy
  rw [decide_eq_decide]
  omega
/-! ### what is late -/
def cntG (J : List Jb) (l : List Sn) (i p : Nat) : Nat := ((List.range p).filter (gotF J l i)).length
theorem cntG_le (J : List Jb) (l : List Sn) (i p : Nat) : cntG J l i p ≤ p := by
  unfold cntG
  exact Nat.le_trans (List.length_filter_le _ _) (by simp)
theorem cntG_yes {J : List Jb} {l : List Sn} {i p : Nat} (h : gotF J l i p = true) : cntG J l i (p + 1) = cntG J l i p + 1 := by
  unfold cntG
  rw [List.range_succ, List.filter_append, List.length_append]
  simp [h]
theorem cntG_no {J : List Jb} {l : List Sn} {i p : Nat} (h : gotF J l i p = false) : cntG J l i (p + 1) = cntG J l i p := by
  unfold cntG
  rw [List.range_succ, List.filter_append, List.length_append]
  simp [h]
theorem late_cnt {J : List Jb} {l : List Sn} {i n : Nat} (hn : (n : Int) = (jat J i).pieces) : lateB J l i = decide (cntG J l i n < n) := by
  have e : (jat J i).pieces.toNat = n := by omega
  unfold lateB
  rw [e]
  suffices H : ∀ n : Nat, ((List.range n).any (fun p => !gotF J l i p)) = decide (cntG J l i n < n) from H n
  intro n
  induction n with
  | zero => rfl
  | succ n ih =>
    have hle := cntG_le J l i n
    rw [List.range_succ, List.any_append, ih]
    cases h : gotF J l i n with
    | true =>
      rw [cntG_yes h]
      simp [h]
    | false =>
      rw [cntG_no h]
      simp [h]
      omega
theorem got_step {J : List Jb} {l : List Sn} {k : Nat} (h : k < l.length) (i p : Nat) : gotF J (l.take (k + 1)) i p = (gotF J (l.take k) i p || (inT J l[k] && decide (l[k].job = i ∧ l[k].piece = p))) := by
  unfold gotF
  rw [List.take_add_one, List.getElem?_eq_getElem h, Option.toList_some, List.any_append]
  simp
theorem got_all (J : List Jb) (l : List Sn) (i p : Nat) : gotF J (l.take l.length) i p = gotF J l i p := by rw [List.take_length]
/-! ### the rules -/
def sameP (a b : Sn) : Bool := decide (a.job = b.job ∧ a.piece = b.piece)
def refAt (J : List Jb) (l : List Sn) (k : Nat) (h : k < l.length) (m : Nat) : Bool := inT J l[k] && !(l.take m).any (fun s => sameP s l[k])
theorem refAt_zero {J : List Jb} {l : List Sn} {k : Nat} (h : k < l.length) : refAt J l k h 0 = inT J l[k] := by unfold refAt; simp
theorem refAt_step {J : List Jb} {l : List Sn} {k m : Nat} (h : k < l.length) (hm : m < l.length) : refAt J l k h (m + 1) = (refAt J l k h m && !sameP l[m] l[k]) := by
  unfold refAt
  rw [List.take_add_one, List.getElem?_eq_getElem hm, Option.toList_some, List.any_append]
  simp [Bool.and_assoc]
theorem nn_of {l : List Sn} {J : List Jb} (hn : l.all (nameB J) = true) {k : Nat} (h : k < l.length) : 0 ≤ l[k].job ∧ l[k].job < J.length ∧ 0 ≤ l[k].piece ∧ l[k].piece < (jat J l[k].job.toNat).pieces := by
  have := List.all_eq_true.1 hn _ (List.getElem_mem h)
  unfold nameB at this
  simpa using this
theorem check_ref_no {J : List Jb} {l : List Sn} (hn : l.all (nameB J) = true) {k : Nat} (h : k < l.length) (e : refAt J l k h k = false) : checkB J l = false := by
  have h1 := nn_of hn h
  obtain ⟨i, hi⟩ : ∃ i : Nat, l[k].job = i := ⟨l[k].job.toNat, by omega⟩
  obtain ⟨p, hp⟩ : ∃ p : Nat, l[k].piece = p := ⟨l[k].piece.toNat, by omega⟩
  unfold refAt at e
  cases hin : inT J l[k] with
  | false => exact check_no h (by rw [okAt_at h hi hp, hin]; rfl)
  | true =>
    rw [hin, Bool.true_and, Bool.not_eq_false', List.any_eq_true] at e
    obtain ⟨s, hs, hc⟩ := e
    obtain ⟨m, hm, rfl⟩ := List.mem_iff_getElem.1 hs
    rw [List.length_take] at hm
    have hml : m < l.length := by omega
    rw [List.getElem_take] at hc hs
    unfold sameP at hc
    rw [decide_eq_true_eq, hi, hp] at hc
    cases hin2 : inT J l[m] with
    | false => exact check_no hml (by rw [okAt_at hml hc.1 hc.2, hin2]; rfl)
    | true =>
      refine check_no h ?_
      rw [okAt_at h hi hp, hin, Bool.true_and, Bool.not_eq_false']
      unfold gotF
      rw [List.any_eq_true]
      exact ⟨l[m], hs, by simp [hin2, hc]⟩
theorem check_ref_yes {J : List Jb} {l : List Sn} (hn : l.all (nameB J) = true) (e : ∀ k (h : k < l.length), refAt J l k h k = true) : checkB J l = true := by
  refine check_yes fun k h => ?_
  have h1 := nn_of hn h
  obtain ⟨i, hi⟩ : ∃ i : Nat, l[k].job = i := ⟨l[k].job.toNat, by omega⟩
  obtain ⟨p, hp⟩ : ∃ p : Nat, l[k].piece = p := ⟨l[k].piece.toNat, by omega⟩
  have h2 := e k h
  unfold refAt at h2
  rw [Bool.and_eq_true, Bool.not_eq_true', List.any_eq_false] at h2
  rw [okAt_at h hi hp, h2.1, Bool.true_and, Bool.not_eq_true']
  unfold gotF
  rw [List.any_eq_false]
  intro s hs hc
  refine h2.2 s hs ?_
  unfold sameP
  simp only [Bool.and_eq_true, decide_eq_true_eq] at hc ⊢
  rw [hi, hp]
  exact hc.2
theorem names_not {J : List Jb} {l : List Sn} {k : Nat} (h : k < l.length) (e : nameB J l[k] = false) : namesB J l = false := by
  unfold namesB
  rw [Bool.and_eq_false_iff]
  refine .inr (List.all_eq_false.2 ⟨l[k], List.getElem_mem h, by simp [e]⟩)
theorem names_all {J : List Jb} {l : List Sn} (hr : riseB l = true) (e : ∀ k (h : k < l.length), k < l.length → nameB J l[k] = true) : namesB J l = true := by
  unfold namesB
  rw [hr, Bool.true_and, List.all_eq_true]
  intro s hs
  obtain ⟨k, hk, rfl⟩ := List.mem_iff_getElem.1 hs
  exact e k hk hk
theorem names_rise {J : List Jb} {l : List Sn} (e : riseB l = false) : namesB J l = false := by unfold namesB; rw [e]; rfl
/-! ### an overloaded interval -/
theorem sumP_pos {l : List Jb} (h : 0 < sumP l) : l ≠ [] := by rintro rfl; exact absurd h (by decide)
theorem ext_min (g : Jb → Int) : ∀ {l : List Jb}, l ≠ [] → ∃ x ∈ l, ∀ y ∈ l, g x ≤ g y
  | [], h => absurd rfl h
  | [x], _ => ⟨x, by simp, fun y hy => by rw [List.mem_singleton] at hy; rw [hy]; omega⟩
  | x :: z :: l, _ => by
    obtain ⟨m, h1, h2⟩ := ext_min g (l := z :: l) (by simp)
    by_cases e : g x ≤ g m
    · exact ⟨x, by simp, fun y hy => by
        rcases List.mem_cons.1 hy with rfl | hy
        · omega
        · have := h2 y hy; omega⟩
    · exact ⟨m, List.mem_cons_of_mem _ h1, fun y hy => by
        rcases List.mem_cons.1 hy with rfl | hy
        · omega
        · exact h2 y hy⟩
theorem over_pair {J : List Jb} {f a b : Int} (hv : ∀ j ∈ J, jobB j = true) (hd : ∀ j ∈ J, f ≤ j.due) (hab : a ≤ b) (h : over J f a b) :
    ∃ i k, i < J.length ∧ k < J.length ∧ a ≤ max (jat J i).ready f ∧ (jat J k).due ≤ b ∧ max (jat J i).ready f ≤ (jat J k).due ∧ over J f (max (jat J i).ready f) (jat J k).due := by
  unfold over at h
  obtain ⟨S, hS⟩ : ∃ S, J.filter (fun j => decide (a ≤ max j.ready f ∧ j.due ≤ b)) = S := ⟨_, rfl⟩
  have hne : S ≠ [] := by
    refine sumP_pos ?_
    rw [← hS]
    unfold loadP at h
    omega
  have hm : ∀ j, j ∈ S ↔ j ∈ J ∧ a ≤ max j.ready f ∧ j.due ≤ b := fun j => by rw [← hS, List.mem_filter, decide_eq_true_eq]
  obtain ⟨x, hx, hxm⟩ := ext_min (fun j => max j.ready f) hne
  obtain ⟨y, hy, hym⟩ := ext_min (fun j => - j.due) hne
  obtain ⟨hxJ, hx1, hx2⟩ := (hm x).1 hx
  obtain ⟨hyJ, hy1, hy2⟩ := (hm y).1 hy
  obtain ⟨i, hi, ei⟩ := List.mem_iff_getElem.1 hxJ
  obtain ⟨k, hk, ek⟩ := List.mem_iff_getElem.1 hyJ
  have e1 : jat J i = x := by rw [jat_get hi, ei]
  have e2 : jat J k = y := by rw [jat_get hk, ek]
  have h3 := hym x hx
  have h4 := jobB_iff.1 (hv x hxJ)
  have h5 := hd x hxJ
  refine ⟨i, k, hi, hk, by rw [e1]; exact hx1, by rw [e2]; exact hy2, by rw [e1, e2]; omega, ?_⟩
  rw [e1, e2]
  have hl : loadP f (max x.ready f) y.due J = loadP f a b J := by
    unfold loadP
    congr 1
    apply List.filter_congr
    intro j hj
    rw [decide_eq_decide]
    constructor
    · rintro ⟨g1, g2⟩
      omega
    · intro g
      have g1 := hxm j ((hm j).2 ⟨hj, g⟩)
      have g2 := hym j ((hm j).2 ⟨hj, g⟩)
      omega
  unfold over
  rw [hl]
  omega
/-- the pairs seen so far: all of the jobs before i with all, and the job i with those before k -/
def seen (J : List Jb) (i k x y : Nat) : Prop := x < J.length ∧ y < J.length ∧ (x < i ∨ x = i ∧ y < k)
/-- the best interval of the pairs seen -/
def BestI (J : List Jb) (f : Int) (i k : Nat) (lo hi : Int) : Prop :=
  (lo = -1 ∧ hi = 400 ∧ ∀ x y, seen J i k x y → max (jat J x).ready f ≤ (jat J y).due → ¬ over J f (max (jat J x).ready f) (jat J y).due) ∨
  (0 ≤ lo ∧ f ≤ lo ∧ lo ≤ hi ∧ hi < 400 ∧ over J f lo hi ∧ ∀ x y, seen J i k x y → max (jat J x).ready f ≤ (jat J y).due → over J f (max (jat J x).ready f) (jat J y).due → hi < (jat J y).due ∨ hi = (jat J y).due ∧ max (jat J x).ready f ≤ lo)
theorem best_start (J : List Jb) (f : Int) : BestI J f 0 0 (-1) 400 := .inl ⟨rfl, rfl, fun x y h => by unfold seen at h; omega⟩
theorem best_row {J : List Jb} {f : Int} {i : Nat} {lo hi : Int} (h : BestI J f i J.length lo hi) : BestI J f (i + 1) 0 lo hi := by
  have hs : ∀ x y, seen J (i + 1) 0 x y → seen J i J.length x y := fun x y h => by unfold seen at *; omega
  rcases h with ⟨h1, h2, h3⟩ | ⟨h0, h1, h2, h3, h4, h5⟩
  · exact .inl ⟨h1, h2, fun x y h => h3 x y (hs x y h)⟩
  · exact .inr ⟨h0, h1, h2, h3, h4, fun x y h => h5 x y (hs x y h)⟩
theorem seen_step {J : List Jb} {i k x y : Nat} (h : seen J i (k + 1) x y) : seen J i k x y ∨ (x = i ∧ y = k) := by unfold seen at *; omega
/-- the pair (i, k) serves no better -/
theorem best_keep {J : List Jb} {f : Int} {i k : Nat} {lo hi : Int} (h : BestI J f i k lo hi) (hn : ¬ (max (jat J i).ready f ≤ (jat J k).due ∧ over J f (max (jat J i).ready f) (jat J k).due ∧ ((jat J k).due < hi ∨ (jat J k).due = hi ∧ lo < max (jat J i).ready f))) (h4 : (jat J k).due < 400) : BestI J f i (k + 1) lo hi := by
  rcases h with ⟨h1, h2, h3⟩ | ⟨g0, g1, g2, g3, g4, g5⟩
  · refine .inl ⟨h1, h2, fun x y hs hle ho => ?_⟩
    rcases seen_step hs with hs | ⟨rfl, rfl⟩
    · exact h3 x y hs hle ho
    · exact hn ⟨hle, ho, .inl (by omega)⟩
  · refine .inr ⟨g0, g1, g2, g3, g4, fun x y hs hle ho => ?_⟩
    rcases seen_step hs with hs | ⟨rfl, rfl⟩
    · exact g5 x y hs hle ho
    · by_cases e : hi < (jat J y).due
      · exact .inl e
      · have hne : ¬ ((jat J y).due < hi ∨ (jat J y).due = hi ∧ lo < max (jat J x).ready f) := fun h => hn ⟨hle, ho, h⟩
        omega
/-- it serves better -/
theorem best_take {J : List Jb} {f : Int} {i k : Nat} {lo hi : Int} (h : BestI J f i k lo hi) (hle : max (jat J i).ready f ≤ (jat J k).due) (ho : over J f (max (jat J i).ready f) (jat J k).due) (hb : (jat J k).due < hi ∨ (jat J k).due = hi ∧ lo < max (jat J i).ready f)
    (h0 : 0 ≤ (jat J i).ready) (h4 : (jat J k).due < 400) : BestI J f i (k + 1) (max (jat J i).ready f) (jat J k).due := by
  refine .inr ⟨by omega, by omega, hle, h4, ho, fun x y hs hle2 ho2 => ?_⟩
  rcases seen_step hs with hs | ⟨rfl, rfl⟩
  · rcases h with ⟨h1, h2, h3⟩ | ⟨g0, g1, g2, g3, g4, g5⟩
    · exact absurd ho2 (h3 x y hs hle2)
    · have := g5 x y hs hle2 ho2
      omega
  · omega
theorem core_ref {J : List Jb} {f lo hi : Int} (h1 : validJ J = true) (h2 : slotB f = true) (hd : ∀ j ∈ J, f ≤ j.due) (h : BestI J f J.length 0 lo hi) : (lo < 0 ∧ CoreSp J f 0 0 4) ∨ (0 ≤ lo ∧ CoreSp J f lo hi 0) := by
  have hv := (validJ_iff.1 h1).2
  have hnd : ¬ ∃ j ∈ J, j.due < f := fun ⟨j, hj, e⟩ => by have := hd j hj; omega
  have hsn : ∀ i k, i < J.length → k < J.length → seen J J.length 0 i k := fun i k hi hk => ⟨hi, hk, .inl hi⟩
  have he : ∀ lo hi er, CoreSp J f lo hi er = ((er = 0 ∧ f ≤ lo ∧ lo ≤ hi ∧ hi < 400 ∧ over J f lo hi ∧ ∀ a b, f ≤ a → a ≤ b → b < 400 → (b < hi ∨ b = hi ∧ lo < a) → ¬ over J f a b) ∨ (er = 4 ∧ lo = 0 ∧ hi = 0 ∧ ∀ a b, f ≤ a → a ≤ b → b < 400 → ¬ over J f a b)) := fun lo hi er => by
    unfold CoreSp
    rw [if_pos ⟨h1, h2⟩, if_neg hnd]
  rw [he, he]
  rcases h with ⟨g1, g2, g3⟩ | ⟨g0, g1, g2, g3, g4, g5⟩
  · refine .inl ⟨by omega, .inr ⟨rfl, rfl, rfl, fun a b _ hab _ ho => ?_⟩⟩
    obtain ⟨i, k, p1, p2, p3, p4, p5, p6⟩ := over_pair hv hd hab ho
    exact g3 i k (hsn i k p1 p2) p5 p6
  · refine .inr ⟨g0, .inl ⟨rfl, g1, g2, g3, g4, fun a b _ hab _ hl ho => ?_⟩⟩
    obtain ⟨i, k, p1, p2, p3, p4, p5, p6⟩ := over_pair hv hd hab ho
    have := g5 i k (hsn i k p1 p2) p5 p6
    omega
theorem core_due {J : List Jb} {f : Int} (h1 : validJ J = true) (h2 : slotB f = true) {k : Nat} (hk : k < J.length) (h : (jat J k).due < f) : CoreSp J f 0 0 6 := by
  unfold CoreSp
  rw [if_pos ⟨h1, h2⟩, if_pos ⟨jat J k, by rw [jat_get hk]; exact List.getElem_mem hk, h⟩]
  exact ⟨rfl, rfl, rfl⟩
theorem core_uniq {J : List Jb} {f lo hi er lo' hi' er' : Int} (h : CoreSp J f lo hi er) (h' : CoreSp J f lo' hi' er') : lo = lo' ∧ hi = hi' ∧ er = er' := by
  unfold CoreSp at h h'
  split at h
  · rename_i hvs
    rw [if_pos hvs] at h'
    split at h
    · rename_i hx
      rw [if_pos hx] at h'
      omega
    · rename_i hx
      rw [if_neg hx] at h'
      rcases h with ⟨a1, a2, a3, a4, a5, a6⟩ | ⟨a1, a2, a3, a4⟩
      · rcases h' with ⟨b1, b2, b3, b4, b5, b6⟩ | ⟨b1, b2, b3, b4⟩
        · have e1 : ¬ (hi < hi' ∨ hi = hi' ∧ lo' < lo) := fun h => b6 lo hi a2 a3 a4 h a5
          have e2 : ¬ (hi' < hi ∨ hi' = hi ∧ lo < lo') := fun h => a6 lo' hi' b2 b3 b4 h b5
          omega
        · exact absurd a5 (b4 lo hi a2 a3 a4)
      · rcases h' with ⟨b1, b2, b3, b4, b5, b6⟩ | ⟨b1, b2, b3, b4⟩
        · exact absurd b5 (a4 lo' hi' b2 b3 b4)
        · omega
  · rename_i hvs
    rw [if_neg hvs] at h'
    omega
/-! ### the order of asking -/
def askP (J : List Jb) (p : Int) (n : Nat) : List Nat := (List.range n).filter (fun i => decide ((jat J i).prio = p))
theorem askP_mem {J : List Jb} {p : Int} {n x : Nat} : x ∈ askP J p n ↔ x < n ∧ (jat J x).prio = p := by unfold askP; rw [List.mem_filter, List.mem_range, decide_eq_true_eq]
def askD (J : List Jb) (d : Nat) : List Nat := (List.range d).flatMap (fun e : Nat => askP J (9 - (e : Int)) J.length)
theorem askD_succ (J : List Jb) (d : Nat) : askD J (d + 1) = askD J d ++ askP J (9 - (d : Int)) J.length := by
  unfold askD
  rw [List.range_succ, List.flatMap_append, List.flatMap_cons, List.flatMap_nil, List.append_nil]
theorem askP_yes {J : List Jb} {p : Int} {n : Nat} (h : (jat J n).prio = p) : askP J p (n + 1) = askP J p n ++ [n] := by
  unfold askP
  rw [List.range_succ, List.filter_append]
  simp [h]
theorem askP_no {J : List Jb} {p : Int} {n : Nat} (h : (jat J n).prio ≠ p) : askP J p (n + 1) = askP J p n := by
  unfold askP
  rw [List.range_succ, List.filter_append]
  simp [h]
theorem askP_srt (J : List Jb) (p : Int) (n : Nat) : (askP J p n).Pairwise (bef J) := by
  have h : (askP J p n).Pairwise (· < ·) := List.pairwise_lt_range.filter _
  refine h.imp_of_mem ?_
  intro a b ha hb hab
  have h1 := (askP_mem.1 ha).2
  have h2 := (askP_mem.1 hb).2
  unfold bef
  omega
theorem askD_srt (J : List Jb) (d : Nat) : (askD J d).Pairwise (bef J) := by
  unfold askD
  rw [List.pairwise_flatMap]
  refine ⟨fun e _ => askP_srt J _ _, ?_⟩
  refine List.pairwise_lt_range.imp ?_
  intro a b hab x hx y hy
  have h1 := (askP_mem.1 hx).2
  have h2 := (askP_mem.1 hy).2
  unfold bef
  omega
theorem bef_nodup {J : List Jb} {l : List Nat} (h : l.Pairwise (bef J)) : l.Nodup := h.imp (fun {a b} hb e => by subst e; exact bef_asym hb hb)
theorem askD_ask {J : List Jb} (hv : ∀ j ∈ J, jobB j = true) : AskL J (askD J 10) := by
  refine ask_of ?_ (askD_srt J 10)
  refine (List.perm_ext_iff_of_nodup (bef_nodup (askD_srt J 10)) List.nodup_range).2 fun x => ?_
  unfold askD
  rw [List.mem_flatMap, List.mem_range]
  constructor
  · rintro ⟨e, _, h⟩
    exact (askP_mem.1 h).1
  · intro h
    have := jobB_iff.1 (hv _ (List.getElem_mem h))
    rw [← jat_get h] at this
    exact ⟨(9 - (jat J x).prio).toNat, List.mem_range.2 (by omega), askP_mem.2 ⟨h, by omega⟩⟩
/-- who has been asked when the jobs up to i of the priority 9 - d have been -/
def askI (J : List Jb) (d i : Nat) : List Nat := askD J d ++ askP J (9 - (d : Int)) i
theorem askI_zero (J : List Jb) (d : Nat) : askI J d 0 = askD J d := by unfold askI askP; simp
theorem askI_all (J : List Jb) (d : Nat) : askI J d J.length = askI J (d + 1) 0 := by rw [askI_zero, askD_succ]; rfl
theorem askI_yes {J : List Jb} {d i : Nat} (h : (jat J i).prio = 9 - (d : Int)) : askI J d (i + 1) = askI J d i ++ [i] := by unfold askI; rw [askP_yes h, List.append_assoc]
theorem askI_no {J : List Jb} {d i : Nat} (h : (jat J i).prio ≠ 9 - (d : Int)) : askI J d (i + 1) = askI J d i := by unfold askI; rw [askP_no h]
theorem askI_nodup (J : List Jb) (d i : Nat) : (askI J d i).Nodup := by
  refine bef_nodup (J := J) ?_
  unfold askI
  rw [List.pairwise_append]
  refine ⟨askD_srt J d, askP_srt J _ i, fun x hx y hy => ?_⟩
  unfold askD at hx
  rw [List.mem_flatMap] at hx
  obtain ⟨e, he, hx⟩ := hx
  rw [List.mem_range] at he
  have h1 := (askP_mem.1 hx).2
  have h2 := (askP_mem.1 hy).2
  unfold bef
  omega
theorem askI_lt {J : List Jb} {d i : Nat} (hi : i ≤ J.length) : ∀ x ∈ askI J d i, x < J.length := by
  intro x hx
  unfold askI at hx
  rcases List.mem_append.1 hx with h | h
  · unfold askD at h
    rw [List.mem_flatMap] at h
    obtain ⟨e, _, h⟩ := h
    exact (askP_mem.1 h).1
  · have := (askP_mem.1 h).1; omega
end Sc
