/-
  No cell of these rows narrows 'for every input' (looked for: loops, veiled, ifaces, maps, wideKeys, modest, calm, conditions, laid).
  DERIVED. THE GIVEN ROWS OF THIS SEAT. 8 by the template 'for every input the law returns true; each argument reads behind the call as it read before'; 0 by the template 'total and deterministic' (their statements: YtofilkphaelceaaTotals.lean).
  GIVEN WITH THE SEED: the statements are not yours to turn. If you find one false, say at which input.
  Laid BY PROGRAM, IN A SANDBOX (cutbox-rows.mjs): the forced cells as the released guide's own fill.sh prints them over the translation ad107de85f48cd9c… (all of the seat's roots in one cut). By AI agents, Wed Nov 11 2026. No macro, syntax, notation, axiom, sorry.
-/
import Derived.Test.YtofilkphaelceaaChecked
import GoSem.Claim
import GoSem.ClaimJoined
import GoSem.ClaimMapViews
import Derived.JoinedTies
import Derived.KernelRfl
namespace Go.Proofs.Ytofilkphaelceaa
/- THE CELL 'sum', in the pinned program and in every row, IS THE sha256 OF THE DUMP (.gsa) THAT YtofilkphaelceaaProg.lean LOADS. Nothing in Lean hashes anything: it is a label: what it is worth is what the hold of that sum in a sandbox is worth. -/
noncomputable def Try.pinned : Pinned := { name := "ytofilkphaelceaa", sum := "ad107de85f48cd9c50d5a09fee2ae114f4b27c9f947c9963e96f6897908b667f", checked := Try.checked }
namespace Rows
def none {H : Type} : Left H := { results := [], args := [] }

/-- 'seamarklaw18.FollowMatchesReference': WHATEVER THE INPUT: true; the input reads as it did. -/
def followMatchesReferenceSpec : ChangeSpec := { name := "followMatchesReference", fn := fun _ => fun
  | [d1, d2, d3, d4] => { results := [.lit (.bool true)], args := [d1, d2, d3, d4] }
  | _ => none }
def followMatchesReferenceRow : OpenClaim := { program := "ytofilkphaelceaa", sum := "ad107de85f48cd9c50d5a09fee2ae114f4b27c9f947c9963e96f6897908b667f", func := "seamark/seamarklaw18.FollowMatchesReference", spec := "followMatchesReference", unfollowed := true, recurses := true, apart := false }
def FollowMatchesReferenceSaid : Prop := followMatchesReferenceRow.holds Try.pinned (OpenSpec.ofChange followMatchesReferenceSpec)

/-- ITS FALSE NEIGHBOUR: 'it returns false'. Refute it at one input. -/
def followMatchesReferenceWrong : ChangeSpec := { name := "followMatchesReference", fn := fun _ => fun
  | [d1, d2, d3, d4] => { results := [.lit (.bool false)], args := [d1, d2, d3, d4] }
  | _ => none }
def FollowMatchesReferenceWrongFalsely : Prop := followMatchesReferenceRow.holds Try.pinned (OpenSpec.ofChange followMatchesReferenceWrong)

/-- 'seamarklaw18.FollowReady': WHATEVER THE INPUT: true; the input reads as it did. -/
def followReadySpec : ChangeSpec := { name := "followReady", fn := fun _ => fun
  | [d1, d2, d3] => { results := [.lit (.bool true)], args := [d1, d2, d3] }
  | _ => none }
def followReadyRow : OpenClaim := { program := "ytofilkphaelceaa", sum := "ad107de85f48cd9c50d5a09fee2ae114f4b27c9f947c9963e96f6897908b667f", func := "seamark/seamarklaw18.FollowReady", spec := "followReady", unfollowed := true, recurses := true, apart := false }
def FollowReadySaid : Prop := followReadyRow.holds Try.pinned (OpenSpec.ofChange followReadySpec)

/-- ITS FALSE NEIGHBOUR: 'it returns false'. Refute it at one input. -/
def followReadyWrong : ChangeSpec := { name := "followReady", fn := fun _ => fun
  | [d1, d2, d3] => { results := [.lit (.bool false)], args := [d1, d2, d3] }
  | _ => none }
def FollowReadyWrongFalsely : Prop := followReadyRow.holds Try.pinned (OpenSpec.ofChange followReadyWrong)

/-- 'seamarklaw18.FollowOrder': WHATEVER THE INPUT: true; the input reads as it did. -/
def followOrderSpec : ChangeSpec := { name := "followOrder", fn := fun _ => fun
  | [d1, d2] => { results := [.lit (.bool true)], args := [d1, d2] }
  | _ => none }
def followOrderRow : OpenClaim := { program := "ytofilkphaelceaa", sum := "ad107de85f48cd9c50d5a09fee2ae114f4b27c9f947c9963e96f6897908b667f", func := "seamark/seamarklaw18.FollowOrder", spec := "followOrder", unfollowed := true, recurses := true, apart := false }
def FollowOrderSaid : Prop := followOrderRow.holds Try.pinned (OpenSpec.ofChange followOrderSpec)

/-- ITS FALSE NEIGHBOUR: 'it returns false'. Refute it at one input. -/
def followOrderWrong : ChangeSpec := { name := "followOrder", fn := fun _ => fun
  | [d1, d2] => { results := [.lit (.bool false)], args := [d1, d2] }
  | _ => none }
def FollowOrderWrongFalsely : Prop := followOrderRow.holds Try.pinned (OpenSpec.ofChange followOrderWrong)

/-- 'seamarklaw18.FollowPermitted': WHATEVER THE INPUT: true; the input reads as it did. -/
def followPermittedSpec : ChangeSpec := { name := "followPermitted", fn := fun _ => fun
  | [d1, d2, d3] => { results := [.lit (.bool true)], args := [d1, d2, d3] }
  | _ => none }
def followPermittedRow : OpenClaim := { program := "ytofilkphaelceaa", sum := "ad107de85f48cd9c50d5a09fee2ae114f4b27c9f947c9963e96f6897908b667f", func := "seamark/seamarklaw18.FollowPermitted", spec := "followPermitted", unfollowed := true, recurses := true, apart := false }
def FollowPermittedSaid : Prop := followPermittedRow.holds Try.pinned (OpenSpec.ofChange followPermittedSpec)

/-- ITS FALSE NEIGHBOUR: 'it returns false'. Refute it at one input. -/
def followPermittedWrong : ChangeSpec := { name := "followPermitted", fn := fun _ => fun
  | [d1, d2, d3] => { results := [.lit (.bool false)], args := [d1, d2, d3] }
  | _ => none }
def FollowPermittedWrongFalsely : Prop := followPermittedRow.holds Try.pinned (OpenSpec.ofChange followPermittedWrong)

/-- 'seamarklaw18.FollowExchanges': WHATEVER THE INPUT: true; the input reads as it did. -/
def followExchangesSpec : ChangeSpec := { name := "followExchanges", fn := fun _ => fun
  | [d1, d2] => { results := [.lit (.bool true)], args := [d1, d2] }
  | _ => none }
def followExchangesRow : OpenClaim := { program := "ytofilkphaelceaa", sum := "ad107de85f48cd9c50d5a09fee2ae114f4b27c9f947c9963e96f6897908b667f", func := "seamark/seamarklaw18.FollowExchanges", spec := "followExchanges", unfollowed := true, recurses := true, apart := false }
def FollowExchangesSaid : Prop := followExchangesRow.holds Try.pinned (OpenSpec.ofChange followExchangesSpec)

/-- ITS FALSE NEIGHBOUR: 'it returns false'. Refute it at one input. -/
def followExchangesWrong : ChangeSpec := { name := "followExchanges", fn := fun _ => fun
  | [d1, d2] => { results := [.lit (.bool false)], args := [d1, d2] }
  | _ => none }
def FollowExchangesWrongFalsely : Prop := followExchangesRow.holds Try.pinned (OpenSpec.ofChange followExchangesWrong)

/-- 'seamarklaw18.FollowBefore': WHATEVER THE INPUT: true; the input reads as it did. -/
def followBeforeSpec : ChangeSpec := { name := "followBefore", fn := fun _ => fun
  | [d1, d2] => { results := [.lit (.bool true)], args := [d1, d2] }
  | _ => none }
def followBeforeRow : OpenClaim := { program := "ytofilkphaelceaa", sum := "ad107de85f48cd9c50d5a09fee2ae114f4b27c9f947c9963e96f6897908b667f", func := "seamark/seamarklaw18.FollowBefore", spec := "followBefore", unfollowed := true, recurses := true, apart := false }
def FollowBeforeSaid : Prop := followBeforeRow.holds Try.pinned (OpenSpec.ofChange followBeforeSpec)

/-- ITS FALSE NEIGHBOUR: 'it returns false'. Refute it at one input. -/
def followBeforeWrong : ChangeSpec := { name := "followBefore", fn := fun _ => fun
  | [d1, d2] => { results := [.lit (.bool false)], args := [d1, d2] }
  | _ => none }
def FollowBeforeWrongFalsely : Prop := followBeforeRow.holds Try.pinned (OpenSpec.ofChange followBeforeWrong)

/-- 'seamarklaw18.FollowMissing': WHATEVER THE INPUT: true; the input reads as it did. -/
def followMissingSpec : ChangeSpec := { name := "followMissing", fn := fun _ => fun
  | [d1, d2, d3, d4] => { results := [.lit (.bool true)], args := [d1, d2, d3, d4] }
  | _ => none }
def followMissingRow : OpenClaim := { program := "ytofilkphaelceaa", sum := "ad107de85f48cd9c50d5a09fee2ae114f4b27c9f947c9963e96f6897908b667f", func := "seamark/seamarklaw18.FollowMissing", spec := "followMissing", unfollowed := true, recurses := true, apart := false }
def FollowMissingSaid : Prop := followMissingRow.holds Try.pinned (OpenSpec.ofChange followMissingSpec)

/-- ITS FALSE NEIGHBOUR: 'it returns false'. Refute it at one input. -/
def followMissingWrong : ChangeSpec := { name := "followMissing", fn := fun _ => fun
  | [d1, d2, d3, d4] => { results := [.lit (.bool false)], args := [d1, d2, d3, d4] }
  | _ => none }
def FollowMissingWrongFalsely : Prop := followMissingRow.holds Try.pinned (OpenSpec.ofChange followMissingWrong)

/-- 'seamarklaw18.FollowBeside': WHATEVER THE INPUT: true; the input reads as it did. -/
def followBesideSpec : ChangeSpec := { name := "followBeside", fn := fun _ => fun
  | [d1, d2, d3, d4] => { results := [.lit (.bool true)], args := [d1, d2, d3, d4] }
  | _ => none }
def followBesideRow : OpenClaim := { program := "ytofilkphaelceaa", sum := "ad107de85f48cd9c50d5a09fee2ae114f4b27c9f947c9963e96f6897908b667f", func := "seamark/seamarklaw18.FollowBeside", spec := "followBeside", unfollowed := true, recurses := true, apart := false }
def FollowBesideSaid : Prop := followBesideRow.holds Try.pinned (OpenSpec.ofChange followBesideSpec)

/-- ITS FALSE NEIGHBOUR: 'it returns false'. Refute it at one input. -/
def followBesideWrong : ChangeSpec := { name := "followBeside", fn := fun _ => fun
  | [d1, d2, d3, d4] => { results := [.lit (.bool false)], args := [d1, d2, d3, d4] }
  | _ => none }
def FollowBesideWrongFalsely : Prop := followBesideRow.holds Try.pinned (OpenSpec.ofChange followBesideWrong)

/- THE SECOND FORM. 'bulk': how many values and letters a reading holds, each counted each time it is reached (what is shared counts as often as it is met; a slice's spare places count too). A statement '..UptoSaid' is the law's where the arguments, and the package variables that the reading takes, are together of bulk at most 1048576: NARROWER than '..Said'. Prove '..Said' where nothing that the law and all that it calls make is longer than what came in: it says more and counts as full. Else prove '..UptoSaid'. A law counts once. -/
mutual
def uptoBulk {H : Type} : DataW H → Nat
  | .lit (.string bytes) => bytes.length + 1
  | .lit _ => 1
  | .nil => 1
  | .ptr d => uptoBulk d + 1
  | .slice elems spare => uptoBulkAll elems + uptoBulkAll spare + 1
  | .agg parts => uptoBulkAll parts + 1
  | .iface _ d => uptoBulk d + 1
  | .map entries => uptoBulkEntries entries + 1
  | .held _ => 1
def uptoBulkAll {H : Type} : List (DataW H) → Nat
  | [] => 0
  | d :: r => uptoBulk d + uptoBulkAll r
def uptoBulkEntries {H : Type} : List (Lit × DataW H) → Nat
  | [] => 0
  | x :: r => uptoBulkEntry x + uptoBulkEntries r
def uptoBulkEntry {H : Type} : Lit × DataW H → Nat
  | (.string bytes, d) => bytes.length + uptoBulk d + 1
  | (_, d) => uptoBulk d + 1
 end
def uptoSmall : (H : Type) → List (DataW H) → Bool := fun _ ds => decide (uptoBulkAll ds ≤ 1048576)
def OpenSpec.upto (s : _root_.Go.ChangeSpec) : _root_.Go.OpenSpec := { _root_.Go.OpenSpec.ofChange s with cond := some uptoSmall }

/-- 'seamarklaw18.FollowMatchesReference', WHERE WHAT IT READS IS OF BULK AT MOST 1048576: true; the input reads as it did. -/
def followMatchesReferenceUptoRow : OpenClaim := { program := "ytofilkphaelceaa", sum := "ad107de85f48cd9c50d5a09fee2ae114f4b27c9f947c9963e96f6897908b667f", func := "seamark/seamarklaw18.FollowMatchesReference", spec := "followMatchesReference", unfollowed := true, recurses := true, apart := false, narrowed := true }
def FollowMatchesReferenceUptoSaid : Prop := followMatchesReferenceUptoRow.holds Try.pinned (OpenSpec.upto followMatchesReferenceSpec)

/-- 'seamarklaw18.FollowReady', WHERE WHAT IT READS IS OF BULK AT MOST 1048576: true; the input reads as it did. -/
def followReadyUptoRow : OpenClaim := { program := "ytofilkphaelceaa", sum := "ad107de85f48cd9c50d5a09fee2ae114f4b27c9f947c9963e96f6897908b667f", func := "seamark/seamarklaw18.FollowReady", spec := "followReady", unfollowed := true, recurses := true, apart := false, narrowed := true }
def FollowReadyUptoSaid : Prop := followReadyUptoRow.holds Try.pinned (OpenSpec.upto followReadySpec)

/-- 'seamarklaw18.FollowOrder', WHERE WHAT IT READS IS OF BULK AT MOST 1048576: true; the input reads as it did. -/
def followOrderUptoRow : OpenClaim := { program := "ytofilkphaelceaa", sum := "ad107de85f48cd9c50d5a09fee2ae114f4b27c9f947c9963e96f6897908b667f", func := "seamark/seamarklaw18.FollowOrder", spec := "followOrder", unfollowed := true, recurses := true, apart := false, narrowed := true }
def FollowOrderUptoSaid : Prop := followOrderUptoRow.holds Try.pinned (OpenSpec.upto followOrderSpec)

/-- 'seamarklaw18.FollowPermitted', WHERE WHAT IT READS IS OF BULK AT MOST 1048576: true; the input reads as it did. -/
def followPermittedUptoRow : OpenClaim := { program := "ytofilkphaelceaa", sum := "ad107de85f48cd9c50d5a09fee2ae114f4b27c9f947c9963e96f6897908b667f", func := "seamark/seamarklaw18.FollowPermitted", spec := "followPermitted", unfollowed := true, recurses := true, apart := false, narrowed := true }
def FollowPermittedUptoSaid : Prop := followPermittedUptoRow.holds Try.pinned (OpenSpec.upto followPermittedSpec)

/-- 'seamarklaw18.FollowExchanges', WHERE WHAT IT READS IS OF BULK AT MOST 1048576: true; the input reads as it did. -/
def followExchangesUptoRow : OpenClaim := { program := "ytofilkphaelceaa", sum := "ad107de85f48cd9c50d5a09fee2ae114f4b27c9f947c9963e96f6897908b667f", func := "seamark/seamarklaw18.FollowExchanges", spec := "followExchanges", unfollowed := true, recurses := true, apart := false, narrowed := true }
def FollowExchangesUptoSaid : Prop := followExchangesUptoRow.holds Try.pinned (OpenSpec.upto followExchangesSpec)

/-- 'seamarklaw18.FollowBefore', WHERE WHAT IT READS IS OF BULK AT MOST 1048576: true; the input reads as it did. -/
def followBeforeUptoRow : OpenClaim := { program := "ytofilkphaelceaa", sum := "ad107de85f48cd9c50d5a09fee2ae114f4b27c9f947c9963e96f6897908b667f", func := "seamark/seamarklaw18.FollowBefore", spec := "followBefore", unfollowed := true, recurses := true, apart := false, narrowed := true }
def FollowBeforeUptoSaid : Prop := followBeforeUptoRow.holds Try.pinned (OpenSpec.upto followBeforeSpec)

/-- 'seamarklaw18.FollowMissing', WHERE WHAT IT READS IS OF BULK AT MOST 1048576: true; the input reads as it did. -/
def followMissingUptoRow : OpenClaim := { program := "ytofilkphaelceaa", sum := "ad107de85f48cd9c50d5a09fee2ae114f4b27c9f947c9963e96f6897908b667f", func := "seamark/seamarklaw18.FollowMissing", spec := "followMissing", unfollowed := true, recurses := true, apart := false, narrowed := true }
def FollowMissingUptoSaid : Prop := followMissingUptoRow.holds Try.pinned (OpenSpec.upto followMissingSpec)

/-- 'seamarklaw18.FollowBeside', WHERE WHAT IT READS IS OF BULK AT MOST 1048576: true; the input reads as it did. -/
def followBesideUptoRow : OpenClaim := { program := "ytofilkphaelceaa", sum := "ad107de85f48cd9c50d5a09fee2ae114f4b27c9f947c9963e96f6897908b667f", func := "seamark/seamarklaw18.FollowBeside", spec := "followBeside", unfollowed := true, recurses := true, apart := false, narrowed := true }
def FollowBesideUptoSaid : Prop := followBesideUptoRow.holds Try.pinned (OpenSpec.upto followBesideSpec)

end Rows
end Go.Proofs.Ytofilkphaelceaa
