/-
  Plain mathematics of the layer 'follow': steps, what is ready, permitted, missing, beside, exchanged. No program in sight.
-/
import Derived.Test.YtofilkphaelceaaKit
set_option linter.unusedVariables false
namespace Fo
open Go

/-- a step: its number, and the slice of the numbers on which it follows, with what it holds -/
structure St where
  n : Int
  ao : Option Addr
  k : Nat
  cap : Nat
  af : List Int
  deriving Inhabited

def isNum (n : Int) : Bool := decide (1 ≤ n ∧ n ≤ 10000)
theorem isNum_iff {n : Int} : isNum n = true ↔ (1 ≤ n ∧ n ≤ 10000) := by simp [isNum]
def risesB (l : List Int) : Bool := decide (l.Pairwise (· < ·))
/-- the number of the step ahead of the one with an index, or 0 -/
def lastN (l : List St) (k : Nat) : Int := match (l.take k).getLast? with | some s => s.n | none => 0
def inN (l : List St) (x : Int) : Bool := l.any (fun s => s.n == x)
def okAt (l : List St) (k : Nat) (s : St) : Bool := isNum s.n && decide (lastN l k < s.n) && risesB s.af && s.af.all (inN (l.take k))
def valid (l : List St) : Bool := decide (l.length ≤ 200) && (List.range l.length).all (fun k => match l[k]? with | some s => okAt l k s | none => true)
def isDone (d : List Int) : Bool := decide (d.length ≤ 200) && risesB d && d.all isNum
def findS (l : List St) (n : Int) : Option St := l.find? (fun s => s.n == n)
def readyF (l : List St) (D : List Int) : List Int := (l.filter (fun s => !D.contains s.n && s.af.all D.contains)).map St.n
def readyR (l : List St) (d : List Int) : List Int × Int := if valid l && isDone d then (readyF l d, 0) else ([], 1)
def orderF (l : List St) (D : List Int) : List Int := (l.filter (fun s => !D.contains s.n)).map St.n
def orderR (l : List St) (d : List Int) : List Int × Int := if valid l && isDone d then (orderF l d, 0) else ([], 1)
/-- is the number with an index of an order permitted there -/
def permAt (l : List St) (o : List Int) (i : Nat) : Bool :=
  match o[i]? with
  | none => true
  | some n => match findS l n with
    | none => false
    | some s => !(o.take i).contains n && s.af.all (o.take i).contains
def permF (l : List St) (o : List Int) : Int := match (List.range o.length).find? (fun i => !permAt l o i) with | some i => (i : Int) | none => -1
def permR (l : List St) (o : List Int) : Int × Int := if valid l && decide (o.length ≤ 200) then (permF l o, 0) else (0, 1)
/-- the numbers that come before n, but for those that are done, and n itself: marked from the last step on -/
def markF (l : List St) (D : List Int) (n : Int) : List Int := l.foldr (fun s M => if M.contains s.n then M ++ s.af.filter (fun a => !D.contains a) else M) [n]
def missF (l : List St) (D : List Int) (n : Int) : List Int := (l.filter (fun s => s.n != n && (markF l D n).contains s.n)).map St.n
def missR (l : List St) (d : List Int) (n : Int) : List Int × Int := if valid l && isDone d then (if (findS l n).isSome then (missF l d n, 0) else ([], 4)) else ([], 1)
def besideF (l : List St) : List (Int × Int) := (List.range l.length).flatMap fun i => ((List.range l.length).filter fun k => decide (i < k) && !(missF l [] ((l[k]?.map St.n).getD 0)).contains ((l[i]?.map St.n).getD 0)).map fun k => ((l[i]?.map St.n).getD 0, (l[k]?.map St.n).getD 0)
def besideR (l : List St) : List (Int × Int) × Int := if valid l then (besideF l, 0) else ([], 1)
/-- the first index of an integer that is greater than the next one -/
def firstD (l : List Int) : Option Nat := (List.range (l.length - 1)).find? fun i => decide (l.getD (i + 1) 0 < l.getD i 0)
def swapAt (l : List Int) (i : Nat) : List Int := (l.set i (l.getD (i + 1) 0)).set (i + 1) (l.getD i 0)
def exN : Nat → List Int → List Int
  | 0, _ => []
  | f + 1, l => match firstD l with | none => [] | some i => (i : Int) :: exN f (swapAt l i)
/-- the pairs of which the former one is greater -/
def inv : List Int → Nat
  | [] => 0
  | a :: l => (l.filter fun b => decide (b < a)).length + inv l
def exchF (o : List Int) : List Int := exN (inv o) o
def exchR (l : List St) (o : List Int) : List Int × Int := if (permR l o).2 ≠ 0 then ([], (permR l o).2) else if 0 ≤ (permR l o).1 then ([], 14) else (exchF o, 0)

/-! ### valid lists -/
structure VOk (l : List St) : Prop where
  len : l.length ≤ 200
  num : ∀ s ∈ l, 1 ≤ s.n ∧ s.n ≤ 10000
  inc : l.Pairwise (fun s t => s.n < t.n)
  ris : ∀ s ∈ l, s.af.Pairwise (· < ·)
  pre : ∀ (k : Nat) (h : k < l.length), ∀ a ∈ l[k].af, ∃ (j : Nat) (hj : j < l.length), j < k ∧ l[j].n = a

theorem inN_iff {l : List St} {x : Int} : inN l x = true ↔ ∃ s ∈ l, s.n = x := by simp [inN, List.any_eq_true]
theorem inN_take {l : List St} {k : Nat} {x : Int} : inN (l.take k) x = true ↔ ∃ (j : Nat) (hj : j < l.length), j < k ∧ l[j].n = x := by
  rw [inN_iff]
  constructor
  · rintro ⟨s, hs, rfl⟩
    obtain ⟨j, hj, rfl⟩ := List.getElem_of_mem hs
    rw [List.length_take] at hj
    exact ⟨j, by omega, by omega, by rw [List.getElem_take]⟩
  · rintro ⟨j, hj, hjk, rfl⟩
    exact ⟨l[j], List.mem_take_iff_getElem.2 ⟨j, by omega, rfl⟩, rfl⟩
theorem lastN_zero (l : List St) : lastN l 0 = 0 := rfl
theorem lastN_succ {l : List St} {k : Nat} (h : k < l.length) : lastN l (k + 1) = l[k].n := by
  unfold lastN
  rw [List.take_add_one, List.getElem?_eq_getElem h, Option.toList_some, List.getLast?_concat]
theorem inN_succ {l : List St} {k : Nat} (h : k < l.length) (x : Int) : inN (l.take (k + 1)) x = (inN (l.take k) x || l[k].n == x) := by
  unfold inN
  rw [List.take_add_one, List.getElem?_eq_getElem h, List.any_append]
  simp

theorem risesB_iff {l : List Int} : risesB l = true ↔ l.Pairwise (· < ·) := by simp [risesB]
theorem pair_adj {α : Type} {f : α → Int} : ∀ (l : List α), (∀ (i : Nat) (h : i + 1 < l.length), f l[i] < f l[i + 1]) → l.Pairwise (fun a b => f a < f b)
  | [], _ => .nil
  | [_], _ => by simp
  | a :: b :: l, h => by
    have ih := pair_adj (f := f) (b :: l) (fun i hi => by have := h (i + 1) (by simpa using hi); simpa using this)
    have hab : f a < f b := by have := h 0 (by simp); simpa using this
    refine .cons ?_ ih
    intro c hc
    rcases List.mem_cons.1 hc with rfl | hc
    · exact hab
    · have := (List.pairwise_cons.1 ih).1 c hc
      omega

theorem valid_iff {l : List St} : valid l = true ↔ (l.length ≤ 200 ∧ ∀ (k : Nat) (h : k < l.length), okAt l k l[k] = true) := by
  unfold valid
  rw [Bool.and_eq_true, decide_eq_true_eq, List.all_eq_true]
  constructor
  · rintro ⟨h1, h2⟩
    refine ⟨h1, fun k h => ?_⟩
    have := h2 k (List.mem_range.2 h)
    rw [List.getElem?_eq_getElem h] at this
    exact this
  · rintro ⟨h1, h2⟩
    refine ⟨h1, fun k hk => ?_⟩
    have h := List.mem_range.1 hk
    rw [List.getElem?_eq_getElem h]
    exact h2 k h
theorem okAt_iff {l : List St} {k : Nat} {s : St} : okAt l k s = true ↔ (isNum s.n = true ∧ lastN l k < s.n ∧ risesB s.af = true ∧ s.af.all (inN (l.take k)) = true) := by simp [okAt, and_assoc]
theorem vok {l : List St} (h : valid l = true) : VOk l := by
  obtain ⟨h1, h2⟩ := valid_iff.1 h
  have h3 := fun k hk => okAt_iff.1 (h2 k hk)
  refine ⟨h1, fun s hs => ?_, ?_, fun s hs => ?_, fun k hk a ha => ?_⟩
  · obtain ⟨k, hk, rfl⟩ := List.getElem_of_mem hs
    exact isNum_iff.1 (h3 k hk).1
  · refine pair_adj l fun i hi => ?_
    have := (h3 (i + 1) hi).2.1
    rwa [lastN_succ (by omega)] at this
  · obtain ⟨k, hk, rfl⟩ := List.getElem_of_mem hs
    exact risesB_iff.1 (h3 k hk).2.2.1
  · have := List.all_eq_true.1 (h3 k hk).2.2.2 a ha
    exact inN_take.1 this
theorem find_mem {l : List St} (h : VOk l) {k : Nat} (hk : k < l.length) : findS l l[k].n = some l[k] := by
  unfold findS
  rw [List.find?_eq_some_iff_getElem]
  refine ⟨by simp, k, hk, rfl, fun j hj => ?_⟩
  have := List.pairwise_iff_getElem.1 h.inc j k (by omega) hk hj
  simp; omega
theorem find_some {l : List St} {n : Int} {s : St} (h : findS l n = some s) : s ∈ l ∧ s.n = n := ⟨List.mem_of_find?_eq_some h, by simpa using List.find?_some h⟩
theorem find_none {l : List St} {n : Int} (h : findS l n = none) : ∀ s ∈ l, s.n ≠ n := by
  intro s hs
  have := List.find?_eq_none.1 h s hs
  simpa using this
theorem isDone_iff {d : List Int} : isDone d = true ↔ (d.length ≤ 200 ∧ d.Pairwise (· < ·) ∧ ∀ x ∈ d, 1 ≤ x ∧ x ≤ 10000) := by
  simp [isDone, risesB, isNum, and_assoc]
/-- done numbers, by their ends -/
theorem done_ends {d : List Int} (h : d.Pairwise (· < ·)) (hne : d ≠ []) (h1 : 1 ≤ d.head hne) (h2 : d.getLast hne ≤ 10000) : ∀ x ∈ d, 1 ≤ x ∧ x ≤ 10000 := by
  intro x hx
  obtain ⟨i, hi, rfl⟩ := List.getElem_of_mem hx
  have hp := List.pairwise_iff_getElem.1 h
  rw [List.head_eq_getElem] at h1
  rw [List.getLast_eq_getElem] at h2
  constructor
  · rcases Nat.eq_zero_or_pos i with rfl | h0
    · exact h1
    · have := hp 0 i (by omega) hi h0; omega
  · rcases Nat.lt_or_ge i (d.length - 1) with h0 | h0
    · have := hp i (d.length - 1) hi (by omega) h0; omega
    · have : i = d.length - 1 := by omega
      subst this; exact h2
end Fo
