/-
  No cell of these rows narrows 'for every input' (looked for: loops, veiled, ifaces, maps, wideKeys, modest, calm, conditions, laid).
  DERIVED. THE GIVEN ROWS OF THIS SEAT. 8 by the template 'for every input the law returns true; each argument reads behind the call as it read before'; 0 by the template 'total and deterministic' (their statements: YtmnlkndbdcdngaaTotals.lean).
  GIVEN WITH THE SEED: the statements are not yours to turn. If you find one false, say at which input.
  Laid BY PROGRAM, IN A SANDBOX (cutbox-rows.mjs): the forced cells as the released guide's own fill.sh prints them over the translation cee99eae7564dbf1… (all of the seat's roots in one cut). By AI agents, Wed Nov 11 2026. No macro, syntax, notation, axiom, sorry.
-/
import Derived.Test.YtmnlkndbdcdngaaChecked
import GoSem.Claim
import GoSem.ClaimJoined
import GoSem.ClaimMapViews
import Derived.JoinedTies
import Derived.KernelRfl
namespace Go.Proofs.Ytmnlkndbdcdngaa
/- THE CELL 'sum', in the pinned program and in every row, IS THE sha256 OF THE DUMP (.gsa) THAT YtmnlkndbdcdngaaProg.lean LOADS. Nothing in Lean hashes anything: it is a label: what it is worth is what the hold of that sum in a sandbox is worth. -/
noncomputable def Try.pinned : Pinned := { name := "ytmnlkndbdcdngaa", sum := "cee99eae7564dbf102d19384954770b29a49c478a16111d306a61c338226d0a2", checked := Try.checked }
namespace Rows
def none {H : Type} : Left H := { results := [], args := [] }

/-- 'seamarklaw10.SymbolMatchesReference': WHATEVER THE INPUT: true; the input reads as it did. -/
def symbolMatchesReferenceSpec : ChangeSpec := { name := "symbolMatchesReference", fn := fun _ => fun
  | [d1, d2, d3, d4] => { results := [.lit (.bool true)], args := [d1, d2, d3, d4] }
  | _ => none }
def symbolMatchesReferenceRow : OpenClaim := { program := "ytmnlkndbdcdngaa", sum := "cee99eae7564dbf102d19384954770b29a49c478a16111d306a61c338226d0a2", func := "seamark/seamarklaw10.SymbolMatchesReference", spec := "symbolMatchesReference", unfollowed := true, recurses := true, apart := false }
def SymbolMatchesReferenceSaid : Prop := symbolMatchesReferenceRow.holds Try.pinned (OpenSpec.ofChange symbolMatchesReferenceSpec)

/-- ITS FALSE NEIGHBOUR: 'it returns false'. Refute it at one input. -/
def symbolMatchesReferenceWrong : ChangeSpec := { name := "symbolMatchesReference", fn := fun _ => fun
  | [d1, d2, d3, d4] => { results := [.lit (.bool false)], args := [d1, d2, d3, d4] }
  | _ => none }
def SymbolMatchesReferenceWrongFalsely : Prop := symbolMatchesReferenceRow.holds Try.pinned (OpenSpec.ofChange symbolMatchesReferenceWrong)

/-- 'seamarklaw10.SymbolNeverSafer': WHATEVER THE INPUT: true; the input reads as it did. -/
def symbolNeverSaferSpec : ChangeSpec := { name := "symbolNeverSafer", fn := fun _ => fun
  | [d1, d2, d3, d4] => { results := [.lit (.bool true)], args := [d1, d2, d3, d4] }
  | _ => none }
def symbolNeverSaferRow : OpenClaim := { program := "ytmnlkndbdcdngaa", sum := "cee99eae7564dbf102d19384954770b29a49c478a16111d306a61c338226d0a2", func := "seamark/seamarklaw10.SymbolNeverSafer", spec := "symbolNeverSafer", unfollowed := true, recurses := true, apart := false }
def SymbolNeverSaferSaid : Prop := symbolNeverSaferRow.holds Try.pinned (OpenSpec.ofChange symbolNeverSaferSpec)

/-- ITS FALSE NEIGHBOUR: 'it returns false'. Refute it at one input. -/
def symbolNeverSaferWrong : ChangeSpec := { name := "symbolNeverSafer", fn := fun _ => fun
  | [d1, d2, d3, d4] => { results := [.lit (.bool false)], args := [d1, d2, d3, d4] }
  | _ => none }
def SymbolNeverSaferWrongFalsely : Prop := symbolNeverSaferRow.holds Try.pinned (OpenSpec.ofChange symbolNeverSaferWrong)

/-- 'seamarklaw10.SymbolOwn': WHATEVER THE INPUT: true; the input reads as it did. -/
def symbolOwnSpec : ChangeSpec := { name := "symbolOwn", fn := fun _ => fun
  | [d1, d2] => { results := [.lit (.bool true)], args := [d1, d2] }
  | _ => none }
def symbolOwnRow : OpenClaim := { program := "ytmnlkndbdcdngaa", sum := "cee99eae7564dbf102d19384954770b29a49c478a16111d306a61c338226d0a2", func := "seamark/seamarklaw10.SymbolOwn", spec := "symbolOwn", unfollowed := true, recurses := true, apart := false }
def SymbolOwnSaid : Prop := symbolOwnRow.holds Try.pinned (OpenSpec.ofChange symbolOwnSpec)

/-- ITS FALSE NEIGHBOUR: 'it returns false'. Refute it at one input. -/
def symbolOwnWrong : ChangeSpec := { name := "symbolOwn", fn := fun _ => fun
  | [d1, d2] => { results := [.lit (.bool false)], args := [d1, d2] }
  | _ => none }
def SymbolOwnWrongFalsely : Prop := symbolOwnRow.holds Try.pinned (OpenSpec.ofChange symbolOwnWrong)

/-- 'seamarklaw10.SymbolChains': WHATEVER THE INPUT: true; the input reads as it did. -/
def symbolChainsSpec : ChangeSpec := { name := "symbolChains", fn := fun _ => fun
  | [d1, d2, d3, d4] => { results := [.lit (.bool true)], args := [d1, d2, d3, d4] }
  | _ => none }
def symbolChainsRow : OpenClaim := { program := "ytmnlkndbdcdngaa", sum := "cee99eae7564dbf102d19384954770b29a49c478a16111d306a61c338226d0a2", func := "seamark/seamarklaw10.SymbolChains", spec := "symbolChains", unfollowed := true, recurses := true, apart := false }
def SymbolChainsSaid : Prop := symbolChainsRow.holds Try.pinned (OpenSpec.ofChange symbolChainsSpec)

/-- ITS FALSE NEIGHBOUR: 'it returns false'. Refute it at one input. -/
def symbolChainsWrong : ChangeSpec := { name := "symbolChains", fn := fun _ => fun
  | [d1, d2, d3, d4] => { results := [.lit (.bool false)], args := [d1, d2, d3, d4] }
  | _ => none }
def SymbolChainsWrongFalsely : Prop := symbolChainsRow.holds Try.pinned (OpenSpec.ofChange symbolChainsWrong)

/-- 'seamarklaw10.SymbolOrder': WHATEVER THE INPUT: true; the input reads as it did. -/
def symbolOrderSpec : ChangeSpec := { name := "symbolOrder", fn := fun _ => fun
  | [d1, d2, d3, d4] => { results := [.lit (.bool true)], args := [d1, d2, d3, d4] }
  | _ => none }
def symbolOrderRow : OpenClaim := { program := "ytmnlkndbdcdngaa", sum := "cee99eae7564dbf102d19384954770b29a49c478a16111d306a61c338226d0a2", func := "seamark/seamarklaw10.SymbolOrder", spec := "symbolOrder", unfollowed := true, recurses := true, apart := false }
def SymbolOrderSaid : Prop := symbolOrderRow.holds Try.pinned (OpenSpec.ofChange symbolOrderSpec)

/-- ITS FALSE NEIGHBOUR: 'it returns false'. Refute it at one input. -/
def symbolOrderWrong : ChangeSpec := { name := "symbolOrder", fn := fun _ => fun
  | [d1, d2, d3, d4] => { results := [.lit (.bool false)], args := [d1, d2, d3, d4] }
  | _ => none }
def SymbolOrderWrongFalsely : Prop := symbolOrderRow.holds Try.pinned (OpenSpec.ofChange symbolOrderWrong)

/-- 'seamarklaw10.SymbolMore': WHATEVER THE INPUT: true; the input reads as it did. -/
def symbolMoreSpec : ChangeSpec := { name := "symbolMore", fn := fun _ => fun
  | [d1, d2, d3, d4] => { results := [.lit (.bool true)], args := [d1, d2, d3, d4] }
  | _ => none }
def symbolMoreRow : OpenClaim := { program := "ytmnlkndbdcdngaa", sum := "cee99eae7564dbf102d19384954770b29a49c478a16111d306a61c338226d0a2", func := "seamark/seamarklaw10.SymbolMore", spec := "symbolMore", unfollowed := true, recurses := true, apart := false }
def SymbolMoreSaid : Prop := symbolMoreRow.holds Try.pinned (OpenSpec.ofChange symbolMoreSpec)

/-- ITS FALSE NEIGHBOUR: 'it returns false'. Refute it at one input. -/
def symbolMoreWrong : ChangeSpec := { name := "symbolMore", fn := fun _ => fun
  | [d1, d2, d3, d4] => { results := [.lit (.bool false)], args := [d1, d2, d3, d4] }
  | _ => none }
def SymbolMoreWrongFalsely : Prop := symbolMoreRow.holds Try.pinned (OpenSpec.ofChange symbolMoreWrong)

/-- 'seamarklaw10.SymbolLists': WHATEVER THE INPUT: true; the input reads as it did. -/
def symbolListsSpec : ChangeSpec := { name := "symbolLists", fn := fun _ => fun
  | [d1, d2, d3] => { results := [.lit (.bool true)], args := [d1, d2, d3] }
  | _ => none }
def symbolListsRow : OpenClaim := { program := "ytmnlkndbdcdngaa", sum := "cee99eae7564dbf102d19384954770b29a49c478a16111d306a61c338226d0a2", func := "seamark/seamarklaw10.SymbolLists", spec := "symbolLists", unfollowed := true, recurses := true, apart := false }
def SymbolListsSaid : Prop := symbolListsRow.holds Try.pinned (OpenSpec.ofChange symbolListsSpec)

/-- ITS FALSE NEIGHBOUR: 'it returns false'. Refute it at one input. -/
def symbolListsWrong : ChangeSpec := { name := "symbolLists", fn := fun _ => fun
  | [d1, d2, d3] => { results := [.lit (.bool false)], args := [d1, d2, d3] }
  | _ => none }
def SymbolListsWrongFalsely : Prop := symbolListsRow.holds Try.pinned (OpenSpec.ofChange symbolListsWrong)

/-- 'seamarklaw10.SymbolJoined': WHATEVER THE INPUT: true; the input reads as it did. -/
def symbolJoinedSpec : ChangeSpec := { name := "symbolJoined", fn := fun _ => fun
  | [d1, d2, d3] => { results := [.lit (.bool true)], args := [d1, d2, d3] }
  | _ => none }
def symbolJoinedRow : OpenClaim := { program := "ytmnlkndbdcdngaa", sum := "cee99eae7564dbf102d19384954770b29a49c478a16111d306a61c338226d0a2", func := "seamark/seamarklaw10.SymbolJoined", spec := "symbolJoined", unfollowed := true, recurses := true, apart := false }
def SymbolJoinedSaid : Prop := symbolJoinedRow.holds Try.pinned (OpenSpec.ofChange symbolJoinedSpec)

/-- ITS FALSE NEIGHBOUR: 'it returns false'. Refute it at one input. -/
def symbolJoinedWrong : ChangeSpec := { name := "symbolJoined", fn := fun _ => fun
  | [d1, d2, d3] => { results := [.lit (.bool false)], args := [d1, d2, d3] }
  | _ => none }
def SymbolJoinedWrongFalsely : Prop := symbolJoinedRow.holds Try.pinned (OpenSpec.ofChange symbolJoinedWrong)

/- THE SECOND FORM. 'bulk': how many values and letters a reading holds, each counted each time it is reached (what is shared counts as often as it is met; a slice's spare places count too). A statement '..UptoSaid' is the law's where the arguments, and the package variables that the reading takes, are together of bulk at most 1048576: NARROWER than '..Said'. Prove '..Said' where nothing that the law and all that it calls make is longer than what came in: it says more and counts as full. Else prove '..UptoSaid'. A law counts once. -/
mutual
def uptoBulk {H : Type} : DataW H → Nat
  | .lit (.string bytes) => bytes.length + 1
  | .lit _ => 1
  | .nil => 1
  | .ptr d => uptoBulk d + 1
  | .slice elems spare => uptoBulkAll elems + uptoBulkAll spare + 1
  | .agg parts => uptoBulkAll parts + 1
  | .iface _ d => uptoBulk d + 1
  | .map entries => uptoBulkEntries entries + 1
  | .held _ => 1
def uptoBulkAll {H : Type} : List (DataW H) → Nat
  | [] => 0
  | d :: r => uptoBulk d + uptoBulkAll r
def uptoBulkEntries {H : Type} : List (Lit × DataW H) → Nat
  | [] => 0
  | x :: r => uptoBulkEntry x + uptoBulkEntries r
def uptoBulkEntry {H : Type} : Lit × DataW H → Nat
  | (.string bytes, d) => bytes.length + uptoBulk d + 1
  | (_, d) => uptoBulk d + 1
 end
def uptoSmall : (H : Type) → List (DataW H) → Bool := fun _ ds => decide (uptoBulkAll ds ≤ 1048576)
def OpenSpec.upto (s : _root_.Go.ChangeSpec) : _root_.Go.OpenSpec := { _root_.Go.OpenSpec.ofChange s with cond := some uptoSmall }

/-- 'seamarklaw10.SymbolMatchesReference', WHERE WHAT IT READS IS OF BULK AT MOST 1048576: true; the input reads as it did. -/
def symbolMatchesReferenceUptoRow : OpenClaim := { program := "ytmnlkndbdcdngaa", sum := "cee99eae7564dbf102d19384954770b29a49c478a16111d306a61c338226d0a2", func := "seamark/seamarklaw10.SymbolMatchesReference", spec := "symbolMatchesReference", unfollowed := true, recurses := true, apart := false, narrowed := true }
def SymbolMatchesReferenceUptoSaid : Prop := symbolMatchesReferenceUptoRow.holds Try.pinned (OpenSpec.upto symbolMatchesReferenceSpec)

/-- 'seamarklaw10.SymbolNeverSafer', WHERE WHAT IT READS IS OF BULK AT MOST 1048576: true; the input reads as it did. -/
def symbolNeverSaferUptoRow : OpenClaim := { program := "ytmnlkndbdcdngaa", sum := "cee99eae7564dbf102d19384954770b29a49c478a16111d306a61c338226d0a2", func := "seamark/seamarklaw10.SymbolNeverSafer", spec := "symbolNeverSafer", unfollowed := true, recurses := true, apart := false, narrowed := true }
def SymbolNeverSaferUptoSaid : Prop := symbolNeverSaferUptoRow.holds Try.pinned (OpenSpec.upto symbolNeverSaferSpec)

/-- 'seamarklaw10.SymbolOwn', WHERE WHAT IT READS IS OF BULK AT MOST 1048576: true; the input reads as it did. -/
def symbolOwnUptoRow : OpenClaim := { program := "ytmnlkndbdcdngaa", sum := "cee99eae7564dbf102d19384954770b29a49c478a16111d306a61c338226d0a2", func := "seamark/seamarklaw10.SymbolOwn", spec := "symbolOwn", unfollowed := true, recurses := true, apart := false, narrowed := true }
def SymbolOwnUptoSaid : Prop := symbolOwnUptoRow.holds Try.pinned (OpenSpec.upto symbolOwnSpec)

/-- 'seamarklaw10.SymbolChains', WHERE WHAT IT READS IS OF BULK AT MOST 1048576: true; the input reads as it did. -/
def symbolChainsUptoRow : OpenClaim := { program := "ytmnlkndbdcdngaa", sum := "cee99eae7564dbf102d19384954770b29a49c478a16111d306a61c338226d0a2", func := "seamark/seamarklaw10.SymbolChains", spec := "symbolChains", unfollowed := true, recurses := true, apart := false, narrowed := true }
def SymbolChainsUptoSaid : Prop := symbolChainsUptoRow.holds Try.pinned (OpenSpec.upto symbolChainsSpec)

/-- 'seamarklaw10.SymbolOrder', WHERE WHAT IT READS IS OF BULK AT MOST 1048576: true; the input reads as it did. -/
def symbolOrderUptoRow : OpenClaim := { program := "ytmnlkndbdcdngaa", sum := "cee99eae7564dbf102d19384954770b29a49c478a16111d306a61c338226d0a2", func := "seamark/seamarklaw10.SymbolOrder", spec := "symbolOrder", unfollowed := true, recurses := true, apart := false, narrowed := true }
def SymbolOrderUptoSaid : Prop := symbolOrderUptoRow.holds Try.pinned (OpenSpec.upto symbolOrderSpec)

/-- 'seamarklaw10.SymbolMore', WHERE WHAT IT READS IS OF BULK AT MOST 1048576: true; the input reads as it did. -/
def symbolMoreUptoRow : OpenClaim := { program := "ytmnlkndbdcdngaa", sum := "cee99eae7564dbf102d19384954770b29a49c478a16111d306a61c338226d0a2", func := "seamark/seamarklaw10.SymbolMore", spec := "symbolMore", unfollowed := true, recurses := true, apart := false, narrowed := true }
def SymbolMoreUptoSaid : Prop := symbolMoreUptoRow.holds Try.pinned (OpenSpec.upto symbolMoreSpec)

/-- 'seamarklaw10.SymbolLists', WHERE WHAT IT READS IS OF BULK AT MOST 1048576: true; the input reads as it did. -/
def symbolListsUptoRow : OpenClaim := { program := "ytmnlkndbdcdngaa", sum := "cee99eae7564dbf102d19384954770b29a49c478a16111d306a61c338226d0a2", func := "seamark/seamarklaw10.SymbolLists", spec := "symbolLists", unfollowed := true, recurses := true, apart := false, narrowed := true }
def SymbolListsUptoSaid : Prop := symbolListsUptoRow.holds Try.pinned (OpenSpec.upto symbolListsSpec)

/-- 'seamarklaw10.SymbolJoined', WHERE WHAT IT READS IS OF BULK AT MOST 1048576: true; the input reads as it did. -/
def symbolJoinedUptoRow : OpenClaim := { program := "ytmnlkndbdcdngaa", sum := "cee99eae7564dbf102d19384954770b29a49c478a16111d306a61c338226d0a2", func := "seamark/seamarklaw10.SymbolJoined", spec := "symbolJoined", unfollowed := true, recurses := true, apart := false, narrowed := true }
def SymbolJoinedUptoSaid : Prop := symbolJoinedUptoRow.holds Try.pinned (OpenSpec.upto symbolJoinedSpec)

end Rows
end Go.Proofs.Ytmnlkndbdcdngaa
