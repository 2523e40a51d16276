/-
  Walks of the layer 'schedule': the jobs that wait, as a heap of indices.
-/
import Derived.Test.YtheioedggjbphaaSc
import Derived.Test.YtheioedggjbphaaProg
import Derived.WalkKit
import Derived.WalkLawsBesides
import Derived.WalkSpells
import Derived.Lib.OthersKept
import Derived.Test.YtheioedggjbphaaPlan
import Derived.Test.YtheioedggjbphaaApp
import Derived.Test.YtheioedggjbphaaStore
set_option linter.unusedVariables false
namespace Go.Proofs.Ytheioedggjbphaa
open Go Go.RowKit Sc Sk
abbrev cJ (j : Jb) : List Value := [.int .i64 j.ready, .int .i64 j.due, .int .i64 j.pieces, .int .i64 j.prio]
abbrev eJ (j : Jb) : Value := .agg #[.int .i64 j.ready, .int .i64 j.due, .int .i64 j.pieces, .int .i64 j.prio]
abbrev cS (s : Sn) : List Value := [.int .i64 s.slot, .int .i64 s.job, .int .i64 s.piece]
abbrev eS (s : Sn) : Value := .agg #[.int .i64 s.slot, .int .i64 s.job, .int .i64 s.piece]
abbrev cN (n : Nat) : List Value := [.int .i64 n]
theorem cJ_len : ∀ x, (cJ x).length = 4 := fun _ => rfl
theorem cS_len : ∀ x, (cS x).length = 3 := fun _ => rfl
theorem cN_len : ∀ x, (cN x).length = 1 := fun _ => rfl
theorem cS_one : ∀ x, ∀ u ∈ cS x, u.oneCell' = true := by intro x u hu; simp [cS] at hu; rcases hu with rfl | rfl | rfl <;> rfl
theorem cN_one : ∀ x, ∀ u ∈ cN x, u.oneCell' = true := by intro x u hu; simp [cN] at hu; rcases hu with rfl; rfl
abbrev qw (B : Nat) : Value := .iface 77 (.pointer (some ⟨B, 0, none⟩))
theorem m_len (B : Nat) (w : World) : (callMethod (qw B) "Len" #[]).run Try.prog w = .ok (.enter 111 #[.pointer (some ⟨B, 0, none⟩)]) w := by kernel_rfl
theorem m_first (B : Nat) (w : World) : (callMethod (qw B) "First" #[]).run Try.prog w = .ok (.enter 110 #[.pointer (some ⟨B, 0, none⟩)]) w := by kernel_rfl
theorem m_pop (B : Nat) (w : World) : (callMethod (qw B) "Pop" #[]).run Try.prog w = .ok (.enter 113 #[.pointer (some ⟨B, 0, none⟩)]) w := by kernel_rfl
theorem m_less (B : Nat) (x y : Value) (w : World) : (callMethod (qw B) "Less" #[x, y]).run Try.prog w = .ok (.enter 112 #[.pointer (some ⟨B, 0, none⟩), x, y]) w := by kernel_rfl
theorem m_swap (B : Nat) (x y : Value) (w : World) : (callMethod (qw B) "Swap" #[x, y]).run Try.prog w = .ok (.enter 115 #[.pointer (some ⟨B, 0, none⟩), x, y]) w := by kernel_rfl
theorem m_push (B : Nat) (x : Value) (w : World) : (callMethod (qw B) "Push" #[x]).run Try.prog w = .ok (.enter 114 #[.pointer (some ⟨B, 0, none⟩), x]) w := by kernel_rfl
end Go.Proofs.Ytheioedggjbphaa
