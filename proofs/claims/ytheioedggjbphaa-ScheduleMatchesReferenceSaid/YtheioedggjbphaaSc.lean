/-
  Plain mathematics of the layer 'schedule': jobs, what is sent, the order. No program in sight.
-/
import Derived.Test.YtheioedggjbphaaScH
set_option linter.unusedVariables false
namespace Sc
structure Jb where
  ready : Int
  due : Int
  pieces : Int
  prio : Int
  deriving DecidableEq, Inhabited
structure Sn where
  slot : Int
  job : Int
  piece : Int
  deriving DecidableEq, Inhabited
def jobB (j : Jb) : Bool := decide (0 ≤ j.ready ∧ j.ready ≤ j.due ∧ j.due < 400 ∧ 1 ≤ j.pieces ∧ j.pieces ≤ 32 ∧ 0 ≤ j.prio ∧ j.prio ≤ 9)
def validJ (l : List Jb) : Bool := decide (l.length ≤ 100) && l.all jobB
def slotB (n : Int) : Bool := decide (0 ≤ n ∧ n < 400)
theorem validJ_iff {l : List Jb} : validJ l = true ↔ (l.length ≤ 100 ∧ ∀ j ∈ l, jobB j = true) := by unfold validJ; simp
theorem jobB_iff {j : Jb} : jobB j = true ↔ (0 ≤ j.ready ∧ j.ready ≤ j.due ∧ j.due < 400 ∧ 1 ≤ j.pieces ∧ j.pieces ≤ 32 ∧ 0 ≤ j.prio ∧ j.prio ≤ 9) := by unfold jobB; simp
/-- a job by its index -/
def jat (J : List Jb) (i : Nat) : Jb := J.getD i default
theorem jat_get {J : List Jb} {i : Nat} (h : i < J.length) : jat J i = J[i] := by unfold jat; rw [List.getD_eq_getElem?_getD, List.getElem?_eq_getElem h]; rfl
/-- whether one job is sent rather than another one -/
def less (J : List Jb) (a b : Nat) : Bool := decide ((jat J a).due < (jat J b).due ∨ (jat J a).due = (jat J b).due ∧ ((jat J b).prio < (jat J a).prio ∨ (jat J b).prio = (jat J a).prio ∧ a < b))
def le (J : List Jb) (a b : Nat) : Prop := less J b a = false
theorem less_iff {J : List Jb} {a b : Nat} : less J a b = true ↔ ((jat J a).due < (jat J b).due ∨ (jat J a).due = (jat J b).due ∧ ((jat J b).prio < (jat J a).prio ∨ (jat J b).prio = (jat J a).prio ∧ a < b)) := by unfold less; simp
theorem le_iff {J : List Jb} {a b : Nat} : le J a b ↔ ((jat J a).due < (jat J b).due ∨ (jat J a).due = (jat J b).due ∧ ((jat J b).prio < (jat J a).prio ∨ (jat J b).prio = (jat J a).prio ∧ a ≤ b)) := by
  unfold le
  rw [← Bool.not_eq_true, less_iff]
  omega
theorem le_tot (J : List Jb) : Tot (le J) := ⟨fun a b => by rw [le_iff, le_iff]; omega, fun h k => by rw [le_iff] at *; omega⟩
theorem le_of_less {J : List Jb} {a b : Nat} (h : less J a b = true) : le J a b := by rw [le_iff]; rw [less_iff] at h; omega
theorem less_of {J : List Jb} {a b : Nat} (h : le J a b) (hne : a ≠ b) : less J a b = true := by rw [le_iff] at h; rw [less_iff]; omega
end Sc
