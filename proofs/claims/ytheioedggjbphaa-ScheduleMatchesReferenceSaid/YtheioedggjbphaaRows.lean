/-
  No cell of these rows narrows 'for every input' (looked for: loops, veiled, ifaces, maps, wideKeys, modest, calm, conditions, laid).
  DERIVED. THE GIVEN ROWS OF THIS SEAT. 8 by the template 'for every input the law returns true; each argument reads behind the call as it read before'; 0 by the template 'total and deterministic' (their statements: YtheioedggjbphaaTotals.lean).
  GIVEN WITH THE SEED: the statements are not yours to turn. If you find one false, say at which input.
  Laid BY PROGRAM, IN A SANDBOX (cutbox-rows.mjs): the forced cells as the released guide's own fill.sh prints them over the translation 89eb8c46de623e65… (all of the seat's roots in one cut). By AI agents, Wed Nov 11 2026. No macro, syntax, notation, axiom, sorry.
-/
import Derived.Test.YtheioedggjbphaaChecked
import GoSem.Claim
import GoSem.ClaimJoined
import GoSem.ClaimMapViews
import Derived.JoinedTies
import Derived.KernelRfl
namespace Go.Proofs.Ytheioedggjbphaa
/- THE CELL 'sum', in the pinned program and in every row, IS THE sha256 OF THE DUMP (.gsa) THAT YtheioedggjbphaaProg.lean LOADS. Nothing in Lean hashes anything: it is a label: what it is worth is what the hold of that sum in a sandbox is worth. -/
noncomputable def Try.pinned : Pinned := { name := "ytheioedggjbphaa", sum := "89eb8c46de623e65ff545798e8b087e017b3735ccc9cb7efee4c4c3b9a87d143", checked := Try.checked }
namespace Rows
def none {H : Type} : Left H := { results := [], args := [] }

/-- 'seamarklaw32.ScheduleMatchesReference': WHATEVER THE INPUT: true; the input reads as it did. -/
def scheduleMatchesReferenceSpec : ChangeSpec := { name := "scheduleMatchesReference", fn := fun _ => fun
  | [d1, d2, d3, d4] => { results := [.lit (.bool true)], args := [d1, d2, d3, d4] }
  | _ => none }
def scheduleMatchesReferenceRow : OpenClaim := { program := "ytheioedggjbphaa", sum := "89eb8c46de623e65ff545798e8b087e017b3735ccc9cb7efee4c4c3b9a87d143", func := "seamark/seamarklaw32.ScheduleMatchesReference", spec := "scheduleMatchesReference", unfollowed := true, recurses := true, apart := false }
def ScheduleMatchesReferenceSaid : Prop := scheduleMatchesReferenceRow.holds Try.pinned (OpenSpec.ofChange scheduleMatchesReferenceSpec)

/-- ITS FALSE NEIGHBOUR: 'it returns false'. Refute it at one input. -/
def scheduleMatchesReferenceWrong : ChangeSpec := { name := "scheduleMatchesReference", fn := fun _ => fun
  | [d1, d2, d3, d4] => { results := [.lit (.bool false)], args := [d1, d2, d3, d4] }
  | _ => none }
def ScheduleMatchesReferenceWrongFalsely : Prop := scheduleMatchesReferenceRow.holds Try.pinned (OpenSpec.ofChange scheduleMatchesReferenceWrong)

/-- 'seamarklaw32.ScheduleRules': WHATEVER THE INPUT: true; the input reads as it did. -/
def scheduleRulesSpec : ChangeSpec := { name := "scheduleRules", fn := fun _ => fun
  | [d1, d2] => { results := [.lit (.bool true)], args := [d1, d2] }
  | _ => none }
def scheduleRulesRow : OpenClaim := { program := "ytheioedggjbphaa", sum := "89eb8c46de623e65ff545798e8b087e017b3735ccc9cb7efee4c4c3b9a87d143", func := "seamark/seamarklaw32.ScheduleRules", spec := "scheduleRules", unfollowed := true, recurses := true, apart := false }
def ScheduleRulesSaid : Prop := scheduleRulesRow.holds Try.pinned (OpenSpec.ofChange scheduleRulesSpec)

/-- ITS FALSE NEIGHBOUR: 'it returns false'. Refute it at one input. -/
def scheduleRulesWrong : ChangeSpec := { name := "scheduleRules", fn := fun _ => fun
  | [d1, d2] => { results := [.lit (.bool false)], args := [d1, d2] }
  | _ => none }
def ScheduleRulesWrongFalsely : Prop := scheduleRulesRow.holds Try.pinned (OpenSpec.ofChange scheduleRulesWrong)

/-- 'seamarklaw32.ScheduleBest': WHATEVER THE INPUT: true; the input reads as it did. -/
def scheduleBestSpec : ChangeSpec := { name := "scheduleBest", fn := fun _ => fun
  | [d1, d2, d3] => { results := [.lit (.bool true)], args := [d1, d2, d3] }
  | _ => none }
def scheduleBestRow : OpenClaim := { program := "ytheioedggjbphaa", sum := "89eb8c46de623e65ff545798e8b087e017b3735ccc9cb7efee4c4c3b9a87d143", func := "seamark/seamarklaw32.ScheduleBest", spec := "scheduleBest", unfollowed := true, recurses := true, apart := false }
def ScheduleBestSaid : Prop := scheduleBestRow.holds Try.pinned (OpenSpec.ofChange scheduleBestSpec)

/-- ITS FALSE NEIGHBOUR: 'it returns false'. Refute it at one input. -/
def scheduleBestWrong : ChangeSpec := { name := "scheduleBest", fn := fun _ => fun
  | [d1, d2, d3] => { results := [.lit (.bool false)], args := [d1, d2, d3] }
  | _ => none }
def ScheduleBestWrongFalsely : Prop := scheduleBestRow.holds Try.pinned (OpenSpec.ofChange scheduleBestWrong)

/-- 'seamarklaw32.ScheduleProof': WHATEVER THE INPUT: true; the input reads as it did. -/
def scheduleProofSpec : ChangeSpec := { name := "scheduleProof", fn := fun _ => fun
  | [d1, d2, d3, d4] => { results := [.lit (.bool true)], args := [d1, d2, d3, d4] }
  | _ => none }
def scheduleProofRow : OpenClaim := { program := "ytheioedggjbphaa", sum := "89eb8c46de623e65ff545798e8b087e017b3735ccc9cb7efee4c4c3b9a87d143", func := "seamark/seamarklaw32.ScheduleProof", spec := "scheduleProof", unfollowed := true, recurses := true, apart := false }
def ScheduleProofSaid : Prop := scheduleProofRow.holds Try.pinned (OpenSpec.ofChange scheduleProofSpec)

/-- ITS FALSE NEIGHBOUR: 'it returns false'. Refute it at one input. -/
def scheduleProofWrong : ChangeSpec := { name := "scheduleProof", fn := fun _ => fun
  | [d1, d2, d3, d4] => { results := [.lit (.bool false)], args := [d1, d2, d3, d4] }
  | _ => none }
def ScheduleProofWrongFalsely : Prop := scheduleProofRow.holds Try.pinned (OpenSpec.ofChange scheduleProofWrong)

/-- 'seamarklaw32.ScheduleLater': WHATEVER THE INPUT: true; the input reads as it did. -/
def scheduleLaterSpec : ChangeSpec := { name := "scheduleLater", fn := fun _ => fun
  | [d1, d2, d3] => { results := [.lit (.bool true)], args := [d1, d2, d3] }
  | _ => none }
def scheduleLaterRow : OpenClaim := { program := "ytheioedggjbphaa", sum := "89eb8c46de623e65ff545798e8b087e017b3735ccc9cb7efee4c4c3b9a87d143", func := "seamark/seamarklaw32.ScheduleLater", spec := "scheduleLater", unfollowed := true, recurses := true, apart := false }
def ScheduleLaterSaid : Prop := scheduleLaterRow.holds Try.pinned (OpenSpec.ofChange scheduleLaterSpec)

/-- ITS FALSE NEIGHBOUR: 'it returns false'. Refute it at one input. -/
def scheduleLaterWrong : ChangeSpec := { name := "scheduleLater", fn := fun _ => fun
  | [d1, d2, d3] => { results := [.lit (.bool false)], args := [d1, d2, d3] }
  | _ => none }
def ScheduleLaterWrongFalsely : Prop := scheduleLaterRow.holds Try.pinned (OpenSpec.ofChange scheduleLaterWrong)

/-- 'seamarklaw32.ScheduleAdmitted': WHATEVER THE INPUT: true; the input reads as it did. -/
def scheduleAdmittedSpec : ChangeSpec := { name := "scheduleAdmitted", fn := fun _ => fun
  | [d1, d2] => { results := [.lit (.bool true)], args := [d1, d2] }
  | _ => none }
def scheduleAdmittedRow : OpenClaim := { program := "ytheioedggjbphaa", sum := "89eb8c46de623e65ff545798e8b087e017b3735ccc9cb7efee4c4c3b9a87d143", func := "seamark/seamarklaw32.ScheduleAdmitted", spec := "scheduleAdmitted", unfollowed := true, recurses := true, apart := false }
def ScheduleAdmittedSaid : Prop := scheduleAdmittedRow.holds Try.pinned (OpenSpec.ofChange scheduleAdmittedSpec)

/-- ITS FALSE NEIGHBOUR: 'it returns false'. Refute it at one input. -/
def scheduleAdmittedWrong : ChangeSpec := { name := "scheduleAdmitted", fn := fun _ => fun
  | [d1, d2] => { results := [.lit (.bool false)], args := [d1, d2] }
  | _ => none }
def ScheduleAdmittedWrongFalsely : Prop := scheduleAdmittedRow.holds Try.pinned (OpenSpec.ofChange scheduleAdmittedWrong)

/-- 'seamarklaw32.ScheduleMoved': WHATEVER THE INPUT: true; the input reads as it did. -/
def scheduleMovedSpec : ChangeSpec := { name := "scheduleMoved", fn := fun _ => fun
  | [d1, d2, d3] => { results := [.lit (.bool true)], args := [d1, d2, d3] }
  | _ => none }
def scheduleMovedRow : OpenClaim := { program := "ytheioedggjbphaa", sum := "89eb8c46de623e65ff545798e8b087e017b3735ccc9cb7efee4c4c3b9a87d143", func := "seamark/seamarklaw32.ScheduleMoved", spec := "scheduleMoved", unfollowed := true, recurses := true, apart := false }
def ScheduleMovedSaid : Prop := scheduleMovedRow.holds Try.pinned (OpenSpec.ofChange scheduleMovedSpec)

/-- ITS FALSE NEIGHBOUR: 'it returns false'. Refute it at one input. -/
def scheduleMovedWrong : ChangeSpec := { name := "scheduleMoved", fn := fun _ => fun
  | [d1, d2, d3] => { results := [.lit (.bool false)], args := [d1, d2, d3] }
  | _ => none }
def ScheduleMovedWrongFalsely : Prop := scheduleMovedRow.holds Try.pinned (OpenSpec.ofChange scheduleMovedWrong)

/-- 'seamarklaw32.ScheduleLost': WHATEVER THE INPUT: true; the input reads as it did. -/
def scheduleLostSpec : ChangeSpec := { name := "scheduleLost", fn := fun _ => fun
  | [d1, d2, d3] => { results := [.lit (.bool true)], args := [d1, d2, d3] }
  | _ => none }
def scheduleLostRow : OpenClaim := { program := "ytheioedggjbphaa", sum := "89eb8c46de623e65ff545798e8b087e017b3735ccc9cb7efee4c4c3b9a87d143", func := "seamark/seamarklaw32.ScheduleLost", spec := "scheduleLost", unfollowed := true, recurses := true, apart := false }
def ScheduleLostSaid : Prop := scheduleLostRow.holds Try.pinned (OpenSpec.ofChange scheduleLostSpec)

/-- ITS FALSE NEIGHBOUR: 'it returns false'. Refute it at one input. -/
def scheduleLostWrong : ChangeSpec := { name := "scheduleLost", fn := fun _ => fun
  | [d1, d2, d3] => { results := [.lit (.bool false)], args := [d1, d2, d3] }
  | _ => none }
def ScheduleLostWrongFalsely : Prop := scheduleLostRow.holds Try.pinned (OpenSpec.ofChange scheduleLostWrong)

/- THE SECOND FORM. 'bulk': how many values and letters a reading holds, each counted each time it is reached (what is shared counts as often as it is met; a slice's spare places count too). A statement '..UptoSaid' is the law's where the arguments, and the package variables that the reading takes, are together of bulk at most 1048576: NARROWER than '..Said'. Prove '..Said' where nothing that the law and all that it calls make is longer than what came in: it says more and counts as full. Else prove '..UptoSaid'. A law counts once. -/
mutual
def uptoBulk {H : Type} : DataW H → Nat
  | .lit (.string bytes) => bytes.length + 1
  | .lit _ => 1
  | .nil => 1
  | .ptr d => uptoBulk d + 1
  | .slice elems spare => uptoBulkAll elems + uptoBulkAll spare + 1
  | .agg parts => uptoBulkAll parts + 1
  | .iface _ d => uptoBulk d + 1
  | .map entries => uptoBulkEntries entries + 1
  | .held _ => 1
def uptoBulkAll {H : Type} : List (DataW H) → Nat
  | [] => 0
  | d :: r => uptoBulk d + uptoBulkAll r
def uptoBulkEntries {H : Type} : List (Lit × DataW H) → Nat
  | [] => 0
  | x :: r => uptoBulkEntry x + uptoBulkEntries r
def uptoBulkEntry {H : Type} : Lit × DataW H → Nat
  | (.string bytes, d) => bytes.length + uptoBulk d + 1
  | (_, d) => uptoBulk d + 1
 end
def uptoSmall : (H : Type) → List (DataW H) → Bool := fun _ ds => decide (uptoBulkAll ds ≤ 1048576)
def OpenSpec.upto (s : _root_.Go.ChangeSpec) : _root_.Go.OpenSpec := { _root_.Go.OpenSpec.ofChange s with cond := some uptoSmall }

/-- 'seamarklaw32.ScheduleMatchesReference', WHERE WHAT IT READS IS OF BULK AT MOST 1048576: true; the input reads as it did. -/
def scheduleMatchesReferenceUptoRow : OpenClaim := { program := "ytheioedggjbphaa", sum := "89eb8c46de623e65ff545798e8b087e017b3735ccc9cb7efee4c4c3b9a87d143", func := "seamark/seamarklaw32.ScheduleMatchesReference", spec := "scheduleMatchesReference", unfollowed := true, recurses := true, apart := false, narrowed := true }
def ScheduleMatchesReferenceUptoSaid : Prop := scheduleMatchesReferenceUptoRow.holds Try.pinned (OpenSpec.upto scheduleMatchesReferenceSpec)

/-- 'seamarklaw32.ScheduleRules', WHERE WHAT IT READS IS OF BULK AT MOST 1048576: true; the input reads as it did. -/
def scheduleRulesUptoRow : OpenClaim := { program := "ytheioedggjbphaa", sum := "89eb8c46de623e65ff545798e8b087e017b3735ccc9cb7efee4c4c3b9a87d143", func := "seamark/seamarklaw32.ScheduleRules", spec := "scheduleRules", unfollowed := true, recurses := true, apart := false, narrowed := true }
def ScheduleRulesUptoSaid : Prop := scheduleRulesUptoRow.holds Try.pinned (OpenSpec.upto scheduleRulesSpec)

/-- 'seamarklaw32.ScheduleBest', WHERE WHAT IT READS IS OF BULK AT MOST 1048576: true; the input reads as it did. -/
def scheduleBestUptoRow : OpenClaim := { program := "ytheioedggjbphaa", sum := "89eb8c46de623e65ff545798e8b087e017b3735ccc9cb7efee4c4c3b9a87d143", func := "seamark/seamarklaw32.ScheduleBest", spec := "scheduleBest", unfollowed := true, recurses := true, apart := false, narrowed := true }
def ScheduleBestUptoSaid : Prop := scheduleBestUptoRow.holds Try.pinned (OpenSpec.upto scheduleBestSpec)

/-- 'seamarklaw32.ScheduleProof', WHERE WHAT IT READS IS OF BULK AT MOST 1048576: true; the input reads as it did. -/
def scheduleProofUptoRow : OpenClaim := { program := "ytheioedggjbphaa", sum := "89eb8c46de623e65ff545798e8b087e017b3735ccc9cb7efee4c4c3b9a87d143", func := "seamark/seamarklaw32.ScheduleProof", spec := "scheduleProof", unfollowed := true, recurses := true, apart := false, narrowed := true }
def ScheduleProofUptoSaid : Prop := scheduleProofUptoRow.holds Try.pinned (OpenSpec.upto scheduleProofSpec)

/-- 'seamarklaw32.ScheduleLater', WHERE WHAT IT READS IS OF BULK AT MOST 1048576: true; the input reads as it did. -/
def scheduleLaterUptoRow : OpenClaim := { program := "ytheioedggjbphaa", sum := "89eb8c46de623e65ff545798e8b087e017b3735ccc9cb7efee4c4c3b9a87d143", func := "seamark/seamarklaw32.ScheduleLater", spec := "scheduleLater", unfollowed := true, recurses := true, apart := false, narrowed := true }
def ScheduleLaterUptoSaid : Prop := scheduleLaterUptoRow.holds Try.pinned (OpenSpec.upto scheduleLaterSpec)

/-- 'seamarklaw32.ScheduleAdmitted', WHERE WHAT IT READS IS OF BULK AT MOST 1048576: true; the input reads as it did. -/
def scheduleAdmittedUptoRow : OpenClaim := { program := "ytheioedggjbphaa", sum := "89eb8c46de623e65ff545798e8b087e017b3735ccc9cb7efee4c4c3b9a87d143", func := "seamark/seamarklaw32.ScheduleAdmitted", spec := "scheduleAdmitted", unfollowed := true, recurses := true, apart := false, narrowed := true }
def ScheduleAdmittedUptoSaid : Prop := scheduleAdmittedUptoRow.holds Try.pinned (OpenSpec.upto scheduleAdmittedSpec)

/-- 'seamarklaw32.ScheduleMoved', WHERE WHAT IT READS IS OF BULK AT MOST 1048576: true; the input reads as it did. -/
def scheduleMovedUptoRow : OpenClaim := { program := "ytheioedggjbphaa", sum := "89eb8c46de623e65ff545798e8b087e017b3735ccc9cb7efee4c4c3b9a87d143", func := "seamark/seamarklaw32.ScheduleMoved", spec := "scheduleMoved", unfollowed := true, recurses := true, apart := false, narrowed := true }
def ScheduleMovedUptoSaid : Prop := scheduleMovedUptoRow.holds Try.pinned (OpenSpec.upto scheduleMovedSpec)

/-- 'seamarklaw32.ScheduleLost', WHERE WHAT IT READS IS OF BULK AT MOST 1048576: true; the input reads as it did. -/
def scheduleLostUptoRow : OpenClaim := { program := "ytheioedggjbphaa", sum := "89eb8c46de623e65ff545798e8b087e017b3735ccc9cb7efee4c4c3b9a87d143", func := "seamark/seamarklaw32.ScheduleLost", spec := "scheduleLost", unfollowed := true, recurses := true, apart := false, narrowed := true }
def ScheduleLostUptoSaid : Prop := scheduleLostUptoRow.holds Try.pinned (OpenSpec.upto scheduleLostSpec)

end Rows
end Go.Proofs.Ytheioedggjbphaa
