/-
  No cell of these rows narrows 'for every input' (looked for: loops, veiled, ifaces, maps, wideKeys, modest, calm, conditions, laid).
  DERIVED. THE GIVEN ROWS OF THIS SEAT. 9 by the template 'for every input the law returns true; each argument reads behind the call as it read before'; 0 by the template 'total and deterministic' (their statements: YtmbnhlihcnbebaaTotals.lean).
  GIVEN WITH THE SEED: the statements are not yours to turn. If you find one false, say at which input.
  Laid BY PROGRAM, IN A SANDBOX (cutbox-rows.mjs): the forced cells as the released guide's own fill.sh prints them over the translation 445f142c2bbf1059… (all of the seat's roots in one cut). By AI agents, Wed Nov 11 2026. No macro, syntax, notation, axiom, sorry.
-/
import Derived.Test.YtmbnhlihcnbebaaChecked
import GoSem.Claim
import GoSem.ClaimJoined
import GoSem.ClaimMapViews
import Derived.JoinedTies
import Derived.KernelRfl
namespace Go.Proofs.Ytmbnhlihcnbebaa
/- THE CELL 'sum', in the pinned program and in every row, IS THE sha256 OF THE DUMP (.gsa) THAT YtmbnhlihcnbebaaProg.lean LOADS. Nothing in Lean hashes anything: it is a label: what it is worth is what the hold of that sum in a sandbox is worth. -/
noncomputable def Try.pinned : Pinned := { name := "ytmbnhlihcnbebaa", sum := "445f142c2bbf1059f276ed316fd174d640a99d25141f94bae74a4df10f9666b7", checked := Try.checked }
namespace Rows
def none {H : Type} : Left H := { results := [], args := [] }

/-- 'seamarklaw26.EyesTwo': WHATEVER THE INPUT: true; the input reads as it did. -/
def eyesTwoSpec : ChangeSpec := { name := "eyesTwo", fn := fun _ => fun
  | [d1, d2] => { results := [.lit (.bool true)], args := [d1, d2] }
  | _ => none }
def eyesTwoRow : OpenClaim := { program := "ytmbnhlihcnbebaa", sum := "445f142c2bbf1059f276ed316fd174d640a99d25141f94bae74a4df10f9666b7", func := "seamark/seamarklaw26.EyesTwo", spec := "eyesTwo", unfollowed := true, recurses := true, apart := false }
def EyesTwoSaid : Prop := eyesTwoRow.holds Try.pinned (OpenSpec.ofChange eyesTwoSpec)

/-- ITS FALSE NEIGHBOUR: 'it returns false'. Refute it at one input. -/
def eyesTwoWrong : ChangeSpec := { name := "eyesTwo", fn := fun _ => fun
  | [d1, d2] => { results := [.lit (.bool false)], args := [d1, d2] }
  | _ => none }
def EyesTwoWrongFalsely : Prop := eyesTwoRow.holds Try.pinned (OpenSpec.ofChange eyesTwoWrong)

/-- 'seamarklaw26.EyesAlone': WHATEVER THE INPUT: true; the input reads as it did. -/
def eyesAloneSpec : ChangeSpec := { name := "eyesAlone", fn := fun _ => fun
  | [d1, d2, d3] => { results := [.lit (.bool true)], args := [d1, d2, d3] }
  | _ => none }
def eyesAloneRow : OpenClaim := { program := "ytmbnhlihcnbebaa", sum := "445f142c2bbf1059f276ed316fd174d640a99d25141f94bae74a4df10f9666b7", func := "seamark/seamarklaw26.EyesAlone", spec := "eyesAlone", unfollowed := true, recurses := true, apart := false }
def EyesAloneSaid : Prop := eyesAloneRow.holds Try.pinned (OpenSpec.ofChange eyesAloneSpec)

/-- ITS FALSE NEIGHBOUR: 'it returns false'. Refute it at one input. -/
def eyesAloneWrong : ChangeSpec := { name := "eyesAlone", fn := fun _ => fun
  | [d1, d2, d3] => { results := [.lit (.bool false)], args := [d1, d2, d3] }
  | _ => none }
def EyesAloneWrongFalsely : Prop := eyesAloneRow.holds Try.pinned (OpenSpec.ofChange eyesAloneWrong)

/-- 'seamarklaw26.EyesApart': WHATEVER THE INPUT: true; the input reads as it did. -/
def eyesApartSpec : ChangeSpec := { name := "eyesApart", fn := fun _ => fun
  | [d1, d2] => { results := [.lit (.bool true)], args := [d1, d2] }
  | _ => none }
def eyesApartRow : OpenClaim := { program := "ytmbnhlihcnbebaa", sum := "445f142c2bbf1059f276ed316fd174d640a99d25141f94bae74a4df10f9666b7", func := "seamark/seamarklaw26.EyesApart", spec := "eyesApart", unfollowed := true, recurses := true, apart := false }
def EyesApartSaid : Prop := eyesApartRow.holds Try.pinned (OpenSpec.ofChange eyesApartSpec)

/-- ITS FALSE NEIGHBOUR: 'it returns false'. Refute it at one input. -/
def eyesApartWrong : ChangeSpec := { name := "eyesApart", fn := fun _ => fun
  | [d1, d2] => { results := [.lit (.bool false)], args := [d1, d2] }
  | _ => none }
def EyesApartWrongFalsely : Prop := eyesApartRow.holds Try.pinned (OpenSpec.ofChange eyesApartWrong)

/-- 'seamarklaw26.EyesRefused': WHATEVER THE INPUT: true; the input reads as it did. -/
def eyesRefusedSpec : ChangeSpec := { name := "eyesRefused", fn := fun _ => fun
  | [d] => { results := [.lit (.bool true)], args := [d] }
  | _ => none }
def eyesRefusedRow : OpenClaim := { program := "ytmbnhlihcnbebaa", sum := "445f142c2bbf1059f276ed316fd174d640a99d25141f94bae74a4df10f9666b7", func := "seamark/seamarklaw26.EyesRefused", spec := "eyesRefused", unfollowed := true, recurses := true, apart := false }
def EyesRefusedSaid : Prop := eyesRefusedRow.holds Try.pinned (OpenSpec.ofChange eyesRefusedSpec)

/-- ITS FALSE NEIGHBOUR: 'it returns false'. Refute it at one input. -/
def eyesRefusedWrong : ChangeSpec := { name := "eyesRefused", fn := fun _ => fun
  | [d] => { results := [.lit (.bool false)], args := [d] }
  | _ => none }
def EyesRefusedWrongFalsely : Prop := eyesRefusedRow.holds Try.pinned (OpenSpec.ofChange eyesRefusedWrong)

/-- 'seamarklaw26.EyesHistory': WHATEVER THE INPUT: true; the input reads as it did. -/
def eyesHistorySpec : ChangeSpec := { name := "eyesHistory", fn := fun _ => fun
  | [d1, d2, d3] => { results := [.lit (.bool true)], args := [d1, d2, d3] }
  | _ => none }
def eyesHistoryRow : OpenClaim := { program := "ytmbnhlihcnbebaa", sum := "445f142c2bbf1059f276ed316fd174d640a99d25141f94bae74a4df10f9666b7", func := "seamark/seamarklaw26.EyesHistory", spec := "eyesHistory", unfollowed := true, recurses := true, apart := false }
def EyesHistorySaid : Prop := eyesHistoryRow.holds Try.pinned (OpenSpec.ofChange eyesHistorySpec)

/-- ITS FALSE NEIGHBOUR: 'it returns false'. Refute it at one input. -/
def eyesHistoryWrong : ChangeSpec := { name := "eyesHistory", fn := fun _ => fun
  | [d1, d2, d3] => { results := [.lit (.bool false)], args := [d1, d2, d3] }
  | _ => none }
def EyesHistoryWrongFalsely : Prop := eyesHistoryRow.holds Try.pinned (OpenSpec.ofChange eyesHistoryWrong)

/-- 'seamarklaw26.EyesMatchesReference': WHATEVER THE INPUT: true; the input reads as it did. -/
def eyesMatchesReferenceSpec : ChangeSpec := { name := "eyesMatchesReference", fn := fun _ => fun
  | [d1, d2, d3, d4, d5, d6] => { results := [.lit (.bool true)], args := [d1, d2, d3, d4, d5, d6] }
  | _ => none }
def eyesMatchesReferenceRow : OpenClaim := { program := "ytmbnhlihcnbebaa", sum := "445f142c2bbf1059f276ed316fd174d640a99d25141f94bae74a4df10f9666b7", func := "seamark/seamarklaw26.EyesMatchesReference", spec := "eyesMatchesReference", unfollowed := true, recurses := true, apart := false }
def EyesMatchesReferenceSaid : Prop := eyesMatchesReferenceRow.holds Try.pinned (OpenSpec.ofChange eyesMatchesReferenceSpec)

/-- ITS FALSE NEIGHBOUR: 'it returns false'. Refute it at one input. -/
def eyesMatchesReferenceWrong : ChangeSpec := { name := "eyesMatchesReference", fn := fun _ => fun
  | [d1, d2, d3, d4, d5, d6] => { results := [.lit (.bool false)], args := [d1, d2, d3, d4, d5, d6] }
  | _ => none }
def EyesMatchesReferenceWrongFalsely : Prop := eyesMatchesReferenceRow.holds Try.pinned (OpenSpec.ofChange eyesMatchesReferenceWrong)

/-- 'seamarklaw26.EyesStates': WHATEVER THE INPUT: true; the input reads as it did. -/
def eyesStatesSpec : ChangeSpec := { name := "eyesStates", fn := fun _ => fun
  | [d1, d2] => { results := [.lit (.bool true)], args := [d1, d2] }
  | _ => none }
def eyesStatesRow : OpenClaim := { program := "ytmbnhlihcnbebaa", sum := "445f142c2bbf1059f276ed316fd174d640a99d25141f94bae74a4df10f9666b7", func := "seamark/seamarklaw26.EyesStates", spec := "eyesStates", unfollowed := true, recurses := true, apart := false }
def EyesStatesSaid : Prop := eyesStatesRow.holds Try.pinned (OpenSpec.ofChange eyesStatesSpec)

/-- ITS FALSE NEIGHBOUR: 'it returns false'. Refute it at one input. -/
def eyesStatesWrong : ChangeSpec := { name := "eyesStates", fn := fun _ => fun
  | [d1, d2] => { results := [.lit (.bool false)], args := [d1, d2] }
  | _ => none }
def EyesStatesWrongFalsely : Prop := eyesStatesRow.holds Try.pinned (OpenSpec.ofChange eyesStatesWrong)

/-- 'seamarklaw26.EyesWithdrawn': WHATEVER THE INPUT: true; the input reads as it did. -/
def eyesWithdrawnSpec : ChangeSpec := { name := "eyesWithdrawn", fn := fun _ => fun
  | [d1, d2, d3, d4, d5] => { results := [.lit (.bool true)], args := [d1, d2, d3, d4, d5] }
  | _ => none }
def eyesWithdrawnRow : OpenClaim := { program := "ytmbnhlihcnbebaa", sum := "445f142c2bbf1059f276ed316fd174d640a99d25141f94bae74a4df10f9666b7", func := "seamark/seamarklaw26.EyesWithdrawn", spec := "eyesWithdrawn", unfollowed := true, recurses := true, apart := false }
def EyesWithdrawnSaid : Prop := eyesWithdrawnRow.holds Try.pinned (OpenSpec.ofChange eyesWithdrawnSpec)

/-- ITS FALSE NEIGHBOUR: 'it returns false'. Refute it at one input. -/
def eyesWithdrawnWrong : ChangeSpec := { name := "eyesWithdrawn", fn := fun _ => fun
  | [d1, d2, d3, d4, d5] => { results := [.lit (.bool false)], args := [d1, d2, d3, d4, d5] }
  | _ => none }
def EyesWithdrawnWrongFalsely : Prop := eyesWithdrawnRow.holds Try.pinned (OpenSpec.ofChange eyesWithdrawnWrong)

/-- 'seamarktop.TopTwoEyes': WHATEVER THE INPUT: true; the input reads as it did. -/
def topTwoEyesSpec : ChangeSpec := { name := "topTwoEyes", fn := fun _ => fun
  | [d1, d2, d3, d4] => { results := [.lit (.bool true)], args := [d1, d2, d3, d4] }
  | _ => none }
def topTwoEyesRow : OpenClaim := { program := "ytmbnhlihcnbebaa", sum := "445f142c2bbf1059f276ed316fd174d640a99d25141f94bae74a4df10f9666b7", func := "seamark/seamarktop.TopTwoEyes", spec := "topTwoEyes", unfollowed := true, recurses := true, apart := false }
def TopTwoEyesSaid : Prop := topTwoEyesRow.holds Try.pinned (OpenSpec.ofChange topTwoEyesSpec)

/-- ITS FALSE NEIGHBOUR: 'it returns false'. Refute it at one input. -/
def topTwoEyesWrong : ChangeSpec := { name := "topTwoEyes", fn := fun _ => fun
  | [d1, d2, d3, d4] => { results := [.lit (.bool false)], args := [d1, d2, d3, d4] }
  | _ => none }
def TopTwoEyesWrongFalsely : Prop := topTwoEyesRow.holds Try.pinned (OpenSpec.ofChange topTwoEyesWrong)

/- THE SECOND FORM. 'bulk': how many values and letters a reading holds, each counted each time it is reached (what is shared counts as often as it is met; a slice's spare places count too). A statement '..UptoSaid' is the law's where the arguments, and the package variables that the reading takes, are together of bulk at most 1048576: NARROWER than '..Said'. Prove '..Said' where nothing that the law and all that it calls make is longer than what came in: it says more and counts as full. Else prove '..UptoSaid'. A law counts once. -/
mutual
def uptoBulk {H : Type} : DataW H → Nat
  | .lit (.string bytes) => bytes.length + 1
  | .lit _ => 1
  | .nil => 1
  | .ptr d => uptoBulk d + 1
  | .slice elems spare => uptoBulkAll elems + uptoBulkAll spare + 1
  | .agg parts => uptoBulkAll parts + 1
  | .iface _ d => uptoBulk d + 1
  | .map entries => uptoBulkEntries entries + 1
  | .held _ => 1
def uptoBulkAll {H : Type} : List (DataW H) → Nat
  | [] => 0
  | d :: r => uptoBulk d + uptoBulkAll r
def uptoBulkEntries {H : Type} : List (Lit × DataW H) → Nat
  | [] => 0
  | x :: r => uptoBulkEntry x + uptoBulkEntries r
def uptoBulkEntry {H : Type} : Lit × DataW H → Nat
  | (.string bytes, d) => bytes.length + uptoBulk d + 1
  | (_, d) => uptoBulk d + 1
 end
def uptoSmall : (H : Type) → List (DataW H) → Bool := fun _ ds => decide (uptoBulkAll ds ≤ 1048576)
def OpenSpec.upto (s : _root_.Go.ChangeSpec) : _root_.Go.OpenSpec := { _root_.Go.OpenSpec.ofChange s with cond := some uptoSmall }

/-- 'seamarklaw26.EyesTwo', WHERE WHAT IT READS IS OF BULK AT MOST 1048576: true; the input reads as it did. -/
def eyesTwoUptoRow : OpenClaim := { program := "ytmbnhlihcnbebaa", sum := "445f142c2bbf1059f276ed316fd174d640a99d25141f94bae74a4df10f9666b7", func := "seamark/seamarklaw26.EyesTwo", spec := "eyesTwo", unfollowed := true, recurses := true, apart := false, narrowed := true }
def EyesTwoUptoSaid : Prop := eyesTwoUptoRow.holds Try.pinned (OpenSpec.upto eyesTwoSpec)

/-- 'seamarklaw26.EyesAlone', WHERE WHAT IT READS IS OF BULK AT MOST 1048576: true; the input reads as it did. -/
def eyesAloneUptoRow : OpenClaim := { program := "ytmbnhlihcnbebaa", sum := "445f142c2bbf1059f276ed316fd174d640a99d25141f94bae74a4df10f9666b7", func := "seamark/seamarklaw26.EyesAlone", spec := "eyesAlone", unfollowed := true, recurses := true, apart := false, narrowed := true }
def EyesAloneUptoSaid : Prop := eyesAloneUptoRow.holds Try.pinned (OpenSpec.upto eyesAloneSpec)

/-- 'seamarklaw26.EyesApart', WHERE WHAT IT READS IS OF BULK AT MOST 1048576: true; the input reads as it did. -/
def eyesApartUptoRow : OpenClaim := { program := "ytmbnhlihcnbebaa", sum := "445f142c2bbf1059f276ed316fd174d640a99d25141f94bae74a4df10f9666b7", func := "seamark/seamarklaw26.EyesApart", spec := "eyesApart", unfollowed := true, recurses := true, apart := false, narrowed := true }
def EyesApartUptoSaid : Prop := eyesApartUptoRow.holds Try.pinned (OpenSpec.upto eyesApartSpec)

/-- 'seamarklaw26.EyesRefused', WHERE WHAT IT READS IS OF BULK AT MOST 1048576: true; the input reads as it did. -/
def eyesRefusedUptoRow : OpenClaim := { program := "ytmbnhlihcnbebaa", sum := "445f142c2bbf1059f276ed316fd174d640a99d25141f94bae74a4df10f9666b7", func := "seamark/seamarklaw26.EyesRefused", spec := "eyesRefused", unfollowed := true, recurses := true, apart := false, narrowed := true }
def EyesRefusedUptoSaid : Prop := eyesRefusedUptoRow.holds Try.pinned (OpenSpec.upto eyesRefusedSpec)

/-- 'seamarklaw26.EyesHistory', WHERE WHAT IT READS IS OF BULK AT MOST 1048576: true; the input reads as it did. -/
def eyesHistoryUptoRow : OpenClaim := { program := "ytmbnhlihcnbebaa", sum := "445f142c2bbf1059f276ed316fd174d640a99d25141f94bae74a4df10f9666b7", func := "seamark/seamarklaw26.EyesHistory", spec := "eyesHistory", unfollowed := true, recurses := true, apart := false, narrowed := true }
def EyesHistoryUptoSaid : Prop := eyesHistoryUptoRow.holds Try.pinned (OpenSpec.upto eyesHistorySpec)

/-- 'seamarklaw26.EyesMatchesReference', WHERE WHAT IT READS IS OF BULK AT MOST 1048576: true; the input reads as it did. -/
def eyesMatchesReferenceUptoRow : OpenClaim := { program := "ytmbnhlihcnbebaa", sum := "445f142c2bbf1059f276ed316fd174d640a99d25141f94bae74a4df10f9666b7", func := "seamark/seamarklaw26.EyesMatchesReference", spec := "eyesMatchesReference", unfollowed := true, recurses := true, apart := false, narrowed := true }
def EyesMatchesReferenceUptoSaid : Prop := eyesMatchesReferenceUptoRow.holds Try.pinned (OpenSpec.upto eyesMatchesReferenceSpec)

/-- 'seamarklaw26.EyesStates', WHERE WHAT IT READS IS OF BULK AT MOST 1048576: true; the input reads as it did. -/
def eyesStatesUptoRow : OpenClaim := { program := "ytmbnhlihcnbebaa", sum := "445f142c2bbf1059f276ed316fd174d640a99d25141f94bae74a4df10f9666b7", func := "seamark/seamarklaw26.EyesStates", spec := "eyesStates", unfollowed := true, recurses := true, apart := false, narrowed := true }
def EyesStatesUptoSaid : Prop := eyesStatesUptoRow.holds Try.pinned (OpenSpec.upto eyesStatesSpec)

/-- 'seamarklaw26.EyesWithdrawn', WHERE WHAT IT READS IS OF BULK AT MOST 1048576: true; the input reads as it did. -/
def eyesWithdrawnUptoRow : OpenClaim := { program := "ytmbnhlihcnbebaa", sum := "445f142c2bbf1059f276ed316fd174d640a99d25141f94bae74a4df10f9666b7", func := "seamark/seamarklaw26.EyesWithdrawn", spec := "eyesWithdrawn", unfollowed := true, recurses := true, apart := false, narrowed := true }
def EyesWithdrawnUptoSaid : Prop := eyesWithdrawnUptoRow.holds Try.pinned (OpenSpec.upto eyesWithdrawnSpec)

/-- 'seamarktop.TopTwoEyes', WHERE WHAT IT READS IS OF BULK AT MOST 1048576: true; the input reads as it did. -/
def topTwoEyesUptoRow : OpenClaim := { program := "ytmbnhlihcnbebaa", sum := "445f142c2bbf1059f276ed316fd174d640a99d25141f94bae74a4df10f9666b7", func := "seamark/seamarktop.TopTwoEyes", spec := "topTwoEyes", unfollowed := true, recurses := true, apart := false, narrowed := true }
def TopTwoEyesUptoSaid : Prop := topTwoEyesUptoRow.holds Try.pinned (OpenSpec.upto topTwoEyesSpec)

end Rows
end Go.Proofs.Ytmbnhlihcnbebaa
