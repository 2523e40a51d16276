/-
  No cell of these rows narrows 'for every input' (looked for: loops, veiled, ifaces, maps, wideKeys, modest, calm, conditions, laid).
  DERIVED. THE GIVEN ROWS OF THIS SEAT. 8 by the template 'for every input the law returns true; each argument reads behind the call as it read before'; 0 by the template 'total and deterministic' (their statements: YtpdecgbfnhaojaaTotals.lean).
  GIVEN WITH THE SEED: the statements are not yours to turn. If you find one false, say at which input.
  Laid BY PROGRAM, IN A SANDBOX (cutbox-rows.mjs): the forced cells as the released guide's own fill.sh prints them over the translation 586087b27b43813a… (all of the seat's roots in one cut). By AI agents, Wed Nov 11 2026. No macro, syntax, notation, axiom, sorry.
-/
import Derived.Test.YtpdecgbfnhaojaaChecked
import GoSem.Claim
import GoSem.ClaimJoined
import GoSem.ClaimMapViews
import Derived.JoinedTies
import Derived.KernelRfl
namespace Go.Proofs.Ytpdecgbfnhaojaa
/- THE CELL 'sum', in the pinned program and in every row, IS THE sha256 OF THE DUMP (.gsa) THAT YtpdecgbfnhaojaaProg.lean LOADS. Nothing in Lean hashes anything: it is a label: what it is worth is what the hold of that sum in a sandbox is worth. -/
noncomputable def Try.pinned : Pinned := { name := "ytpdecgbfnhaojaa", sum := "586087b27b43813ae4530313f2e0f4365a52509d1e9c11845a76c0e8f4b03962", checked := Try.checked }
namespace Rows
def none {H : Type} : Left H := { results := [], args := [] }

/-- 'seamarklaw35.ReuseNever': WHATEVER THE INPUT: true; the input reads as it did. -/
def reuseNeverSpec : ChangeSpec := { name := "reuseNever", fn := fun _ => fun
  | [d1, d2, d3, d4, d5, d6, d7, d8] => { results := [.lit (.bool true)], args := [d1, d2, d3, d4, d5, d6, d7, d8] }
  | _ => none }
def reuseNeverRow : OpenClaim := { program := "ytpdecgbfnhaojaa", sum := "586087b27b43813ae4530313f2e0f4365a52509d1e9c11845a76c0e8f4b03962", func := "seamark/seamarklaw35.ReuseNever", spec := "reuseNever", unfollowed := true, recurses := true, apart := false }
def ReuseNeverSaid : Prop := reuseNeverRow.holds Try.pinned (OpenSpec.ofChange reuseNeverSpec)

/-- ITS FALSE NEIGHBOUR: 'it returns false'. Refute it at one input. -/
def reuseNeverWrong : ChangeSpec := { name := "reuseNever", fn := fun _ => fun
  | [d1, d2, d3, d4, d5, d6, d7, d8] => { results := [.lit (.bool false)], args := [d1, d2, d3, d4, d5, d6, d7, d8] }
  | _ => none }
def ReuseNeverWrongFalsely : Prop := reuseNeverRow.holds Try.pinned (OpenSpec.ofChange reuseNeverWrong)

/-- 'seamarklaw35.ReuseNoLater': WHATEVER THE INPUT: true; the input reads as it did. -/
def reuseNoLaterSpec : ChangeSpec := { name := "reuseNoLater", fn := fun _ => fun
  | [d1, d2, d3] => { results := [.lit (.bool true)], args := [d1, d2, d3] }
  | _ => none }
def reuseNoLaterRow : OpenClaim := { program := "ytpdecgbfnhaojaa", sum := "586087b27b43813ae4530313f2e0f4365a52509d1e9c11845a76c0e8f4b03962", func := "seamark/seamarklaw35.ReuseNoLater", spec := "reuseNoLater", unfollowed := true, recurses := true, apart := false }
def ReuseNoLaterSaid : Prop := reuseNoLaterRow.holds Try.pinned (OpenSpec.ofChange reuseNoLaterSpec)

/-- ITS FALSE NEIGHBOUR: 'it returns false'. Refute it at one input. -/
def reuseNoLaterWrong : ChangeSpec := { name := "reuseNoLater", fn := fun _ => fun
  | [d1, d2, d3] => { results := [.lit (.bool false)], args := [d1, d2, d3] }
  | _ => none }
def ReuseNoLaterWrongFalsely : Prop := reuseNoLaterRow.holds Try.pinned (OpenSpec.ofChange reuseNoLaterWrong)

/-- 'seamarklaw35.ReuseLonger': WHATEVER THE INPUT: true; the input reads as it did. -/
def reuseLongerSpec : ChangeSpec := { name := "reuseLonger", fn := fun _ => fun
  | [d1, d2, d3, d4, d5, d6] => { results := [.lit (.bool true)], args := [d1, d2, d3, d4, d5, d6] }
  | _ => none }
def reuseLongerRow : OpenClaim := { program := "ytpdecgbfnhaojaa", sum := "586087b27b43813ae4530313f2e0f4365a52509d1e9c11845a76c0e8f4b03962", func := "seamark/seamarklaw35.ReuseLonger", spec := "reuseLonger", unfollowed := true, recurses := true, apart := false }
def ReuseLongerSaid : Prop := reuseLongerRow.holds Try.pinned (OpenSpec.ofChange reuseLongerSpec)

/-- ITS FALSE NEIGHBOUR: 'it returns false'. Refute it at one input. -/
def reuseLongerWrong : ChangeSpec := { name := "reuseLonger", fn := fun _ => fun
  | [d1, d2, d3, d4, d5, d6] => { results := [.lit (.bool false)], args := [d1, d2, d3, d4, d5, d6] }
  | _ => none }
def ReuseLongerWrongFalsely : Prop := reuseLongerRow.holds Try.pinned (OpenSpec.ofChange reuseLongerWrong)

/-- 'seamarklaw35.ReuseDropped': WHATEVER THE INPUT: true; the input reads as it did. -/
def reuseDroppedSpec : ChangeSpec := { name := "reuseDropped", fn := fun _ => fun
  | [d1, d2, d3, d4, d5] => { results := [.lit (.bool true)], args := [d1, d2, d3, d4, d5] }
  | _ => none }
def reuseDroppedRow : OpenClaim := { program := "ytpdecgbfnhaojaa", sum := "586087b27b43813ae4530313f2e0f4365a52509d1e9c11845a76c0e8f4b03962", func := "seamark/seamarklaw35.ReuseDropped", spec := "reuseDropped", unfollowed := true, recurses := true, apart := false }
def ReuseDroppedSaid : Prop := reuseDroppedRow.holds Try.pinned (OpenSpec.ofChange reuseDroppedSpec)

/-- ITS FALSE NEIGHBOUR: 'it returns false'. Refute it at one input. -/
def reuseDroppedWrong : ChangeSpec := { name := "reuseDropped", fn := fun _ => fun
  | [d1, d2, d3, d4, d5] => { results := [.lit (.bool false)], args := [d1, d2, d3, d4, d5] }
  | _ => none }
def ReuseDroppedWrongFalsely : Prop := reuseDroppedRow.holds Try.pinned (OpenSpec.ofChange reuseDroppedWrong)

/-- 'seamarklaw35.ReuseWaiting': WHATEVER THE INPUT: true; the input reads as it did. -/
def reuseWaitingSpec : ChangeSpec := { name := "reuseWaiting", fn := fun _ => fun
  | [d1, d2, d3, d4, d5] => { results := [.lit (.bool true)], args := [d1, d2, d3, d4, d5] }
  | _ => none }
def reuseWaitingRow : OpenClaim := { program := "ytpdecgbfnhaojaa", sum := "586087b27b43813ae4530313f2e0f4365a52509d1e9c11845a76c0e8f4b03962", func := "seamark/seamarklaw35.ReuseWaiting", spec := "reuseWaiting", unfollowed := true, recurses := true, apart := false }
def ReuseWaitingSaid : Prop := reuseWaitingRow.holds Try.pinned (OpenSpec.ofChange reuseWaitingSpec)

/-- ITS FALSE NEIGHBOUR: 'it returns false'. Refute it at one input. -/
def reuseWaitingWrong : ChangeSpec := { name := "reuseWaiting", fn := fun _ => fun
  | [d1, d2, d3, d4, d5] => { results := [.lit (.bool false)], args := [d1, d2, d3, d4, d5] }
  | _ => none }
def ReuseWaitingWrongFalsely : Prop := reuseWaitingRow.holds Try.pinned (OpenSpec.ofChange reuseWaitingWrong)

/-- 'seamarklaw35.ReuseMeant': WHATEVER THE INPUT: true; the input reads as it did. -/
def reuseMeantSpec : ChangeSpec := { name := "reuseMeant", fn := fun _ => fun
  | [d1, d2, d3, d4, d5] => { results := [.lit (.bool true)], args := [d1, d2, d3, d4, d5] }
  | _ => none }
def reuseMeantRow : OpenClaim := { program := "ytpdecgbfnhaojaa", sum := "586087b27b43813ae4530313f2e0f4365a52509d1e9c11845a76c0e8f4b03962", func := "seamark/seamarklaw35.ReuseMeant", spec := "reuseMeant", unfollowed := true, recurses := true, apart := false }
def ReuseMeantSaid : Prop := reuseMeantRow.holds Try.pinned (OpenSpec.ofChange reuseMeantSpec)

/-- ITS FALSE NEIGHBOUR: 'it returns false'. Refute it at one input. -/
def reuseMeantWrong : ChangeSpec := { name := "reuseMeant", fn := fun _ => fun
  | [d1, d2, d3, d4, d5] => { results := [.lit (.bool false)], args := [d1, d2, d3, d4, d5] }
  | _ => none }
def ReuseMeantWrongFalsely : Prop := reuseMeantRow.holds Try.pinned (OpenSpec.ofChange reuseMeantWrong)

/-- 'seamarklaw35.ReuseBetter': WHATEVER THE INPUT: true; the input reads as it did. -/
def reuseBetterSpec : ChangeSpec := { name := "reuseBetter", fn := fun _ => fun
  | [d1, d2, d3, d4, d5] => { results := [.lit (.bool true)], args := [d1, d2, d3, d4, d5] }
  | _ => none }
def reuseBetterRow : OpenClaim := { program := "ytpdecgbfnhaojaa", sum := "586087b27b43813ae4530313f2e0f4365a52509d1e9c11845a76c0e8f4b03962", func := "seamark/seamarklaw35.ReuseBetter", spec := "reuseBetter", unfollowed := true, recurses := true, apart := false }
def ReuseBetterSaid : Prop := reuseBetterRow.holds Try.pinned (OpenSpec.ofChange reuseBetterSpec)

/-- ITS FALSE NEIGHBOUR: 'it returns false'. Refute it at one input. -/
def reuseBetterWrong : ChangeSpec := { name := "reuseBetter", fn := fun _ => fun
  | [d1, d2, d3, d4, d5] => { results := [.lit (.bool false)], args := [d1, d2, d3, d4, d5] }
  | _ => none }
def ReuseBetterWrongFalsely : Prop := reuseBetterRow.holds Try.pinned (OpenSpec.ofChange reuseBetterWrong)

/-- 'seamarktop.TopAgain': WHATEVER THE INPUT: true; the input reads as it did. -/
def topAgainSpec : ChangeSpec := { name := "topAgain", fn := fun _ => fun
  | [d1, d2, d3, d4] => { results := [.lit (.bool true)], args := [d1, d2, d3, d4] }
  | _ => none }
def topAgainRow : OpenClaim := { program := "ytpdecgbfnhaojaa", sum := "586087b27b43813ae4530313f2e0f4365a52509d1e9c11845a76c0e8f4b03962", func := "seamark/seamarktop.TopAgain", spec := "topAgain", unfollowed := true, recurses := true, apart := false }
def TopAgainSaid : Prop := topAgainRow.holds Try.pinned (OpenSpec.ofChange topAgainSpec)

/-- ITS FALSE NEIGHBOUR: 'it returns false'. Refute it at one input. -/
def topAgainWrong : ChangeSpec := { name := "topAgain", fn := fun _ => fun
  | [d1, d2, d3, d4] => { results := [.lit (.bool false)], args := [d1, d2, d3, d4] }
  | _ => none }
def TopAgainWrongFalsely : Prop := topAgainRow.holds Try.pinned (OpenSpec.ofChange topAgainWrong)

/- THE SECOND FORM. 'bulk': how many values and letters a reading holds, each counted each time it is reached (what is shared counts as often as it is met; a slice's spare places count too). A statement '..UptoSaid' is the law's where the arguments, and the package variables that the reading takes, are together of bulk at most 1048576: NARROWER than '..Said'. Prove '..Said' where nothing that the law and all that it calls make is longer than what came in: it says more and counts as full. Else prove '..UptoSaid'. A law counts once. -/
mutual
def uptoBulk {H : Type} : DataW H → Nat
  | .lit (.string bytes) => bytes.length + 1
  | .lit _ => 1
  | .nil => 1
  | .ptr d => uptoBulk d + 1
  | .slice elems spare => uptoBulkAll elems + uptoBulkAll spare + 1
  | .agg parts => uptoBulkAll parts + 1
  | .iface _ d => uptoBulk d + 1
  | .map entries => uptoBulkEntries entries + 1
  | .held _ => 1
def uptoBulkAll {H : Type} : List (DataW H) → Nat
  | [] => 0
  | d :: r => uptoBulk d + uptoBulkAll r
def uptoBulkEntries {H : Type} : List (Lit × DataW H) → Nat
  | [] => 0
  | x :: r => uptoBulkEntry x + uptoBulkEntries r
def uptoBulkEntry {H : Type} : Lit × DataW H → Nat
  | (.string bytes, d) => bytes.length + uptoBulk d + 1
  | (_, d) => uptoBulk d + 1
 end
def uptoSmall : (H : Type) → List (DataW H) → Bool := fun _ ds => decide (uptoBulkAll ds ≤ 1048576)
def OpenSpec.upto (s : _root_.Go.ChangeSpec) : _root_.Go.OpenSpec := { _root_.Go.OpenSpec.ofChange s with cond := some uptoSmall }

/-- 'seamarklaw35.ReuseNever', WHERE WHAT IT READS IS OF BULK AT MOST 1048576: true; the input reads as it did. -/
def reuseNeverUptoRow : OpenClaim := { program := "ytpdecgbfnhaojaa", sum := "586087b27b43813ae4530313f2e0f4365a52509d1e9c11845a76c0e8f4b03962", func := "seamark/seamarklaw35.ReuseNever", spec := "reuseNever", unfollowed := true, recurses := true, apart := false, narrowed := true }
def ReuseNeverUptoSaid : Prop := reuseNeverUptoRow.holds Try.pinned (OpenSpec.upto reuseNeverSpec)

/-- 'seamarklaw35.ReuseNoLater', WHERE WHAT IT READS IS OF BULK AT MOST 1048576: true; the input reads as it did. -/
def reuseNoLaterUptoRow : OpenClaim := { program := "ytpdecgbfnhaojaa", sum := "586087b27b43813ae4530313f2e0f4365a52509d1e9c11845a76c0e8f4b03962", func := "seamark/seamarklaw35.ReuseNoLater", spec := "reuseNoLater", unfollowed := true, recurses := true, apart := false, narrowed := true }
def ReuseNoLaterUptoSaid : Prop := reuseNoLaterUptoRow.holds Try.pinned (OpenSpec.upto reuseNoLaterSpec)

/-- 'seamarklaw35.ReuseLonger', WHERE WHAT IT READS IS OF BULK AT MOST 1048576: true; the input reads as it did. -/
def reuseLongerUptoRow : OpenClaim := { program := "ytpdecgbfnhaojaa", sum := "586087b27b43813ae4530313f2e0f4365a52509d1e9c11845a76c0e8f4b03962", func := "seamark/seamarklaw35.ReuseLonger", spec := "reuseLonger", unfollowed := true, recurses := true, apart := false, narrowed := true }
def ReuseLongerUptoSaid : Prop := reuseLongerUptoRow.holds Try.pinned (OpenSpec.upto reuseLongerSpec)

/-- 'seamarklaw35.ReuseDropped', WHERE WHAT IT READS IS OF BULK AT MOST 1048576: true; the input reads as it did. -/
def reuseDroppedUptoRow : OpenClaim := { program := "ytpdecgbfnhaojaa", sum := "586087b27b43813ae4530313f2e0f4365a52509d1e9c11845a76c0e8f4b03962", func := "seamark/seamarklaw35.ReuseDropped", spec := "reuseDropped", unfollowed := true, recurses := true, apart := false, narrowed := true }
def ReuseDroppedUptoSaid : Prop := reuseDroppedUptoRow.holds Try.pinned (OpenSpec.upto reuseDroppedSpec)

/-- 'seamarklaw35.ReuseWaiting', WHERE WHAT IT READS IS OF BULK AT MOST 1048576: true; the input reads as it did. -/
def reuseWaitingUptoRow : OpenClaim := { program := "ytpdecgbfnhaojaa", sum := "586087b27b43813ae4530313f2e0f4365a52509d1e9c11845a76c0e8f4b03962", func := "seamark/seamarklaw35.ReuseWaiting", spec := "reuseWaiting", unfollowed := true, recurses := true, apart := false, narrowed := true }
def ReuseWaitingUptoSaid : Prop := reuseWaitingUptoRow.holds Try.pinned (OpenSpec.upto reuseWaitingSpec)

/-- 'seamarklaw35.ReuseMeant', WHERE WHAT IT READS IS OF BULK AT MOST 1048576: true; the input reads as it did. -/
def reuseMeantUptoRow : OpenClaim := { program := "ytpdecgbfnhaojaa", sum := "586087b27b43813ae4530313f2e0f4365a52509d1e9c11845a76c0e8f4b03962", func := "seamark/seamarklaw35.ReuseMeant", spec := "reuseMeant", unfollowed := true, recurses := true, apart := false, narrowed := true }
def ReuseMeantUptoSaid : Prop := reuseMeantUptoRow.holds Try.pinned (OpenSpec.upto reuseMeantSpec)

/-- 'seamarklaw35.ReuseBetter', WHERE WHAT IT READS IS OF BULK AT MOST 1048576: true; the input reads as it did. -/
def reuseBetterUptoRow : OpenClaim := { program := "ytpdecgbfnhaojaa", sum := "586087b27b43813ae4530313f2e0f4365a52509d1e9c11845a76c0e8f4b03962", func := "seamark/seamarklaw35.ReuseBetter", spec := "reuseBetter", unfollowed := true, recurses := true, apart := false, narrowed := true }
def ReuseBetterUptoSaid : Prop := reuseBetterUptoRow.holds Try.pinned (OpenSpec.upto reuseBetterSpec)

/-- 'seamarktop.TopAgain', WHERE WHAT IT READS IS OF BULK AT MOST 1048576: true; the input reads as it did. -/
def topAgainUptoRow : OpenClaim := { program := "ytpdecgbfnhaojaa", sum := "586087b27b43813ae4530313f2e0f4365a52509d1e9c11845a76c0e8f4b03962", func := "seamark/seamarktop.TopAgain", spec := "topAgain", unfollowed := true, recurses := true, apart := false, narrowed := true }
def TopAgainUptoSaid : Prop := topAgainUptoRow.holds Try.pinned (OpenSpec.upto topAgainSpec)

end Rows
end Go.Proofs.Ytpdecgbfnhaojaa
