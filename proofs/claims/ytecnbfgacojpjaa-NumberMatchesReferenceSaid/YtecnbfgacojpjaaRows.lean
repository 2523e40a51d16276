/-
  No cell of these rows narrows 'for every input' (looked for: loops, veiled, ifaces, maps, wideKeys, modest, calm, conditions, laid).
  DERIVED. THE GIVEN ROWS OF THIS SEAT. 8 by the template 'for every input the law returns true; each argument reads behind the call as it read before'; 0 by the template 'total and deterministic' (their statements: YtecnbfgacojpjaaTotals.lean).
  GIVEN WITH THE SEED: the statements are not yours to turn. If you find one false, say at which input.
  Laid BY PROGRAM, IN A SANDBOX (cutbox-rows.mjs): the forced cells as the released guide's own fill.sh prints them over the translation 34ca98d463242853… (all of the seat's roots in one cut). By AI agents, Wed Nov 11 2026. No macro, syntax, notation, axiom, sorry.
-/
import Derived.Test.YtecnbfgacojpjaaChecked
import GoSem.Claim
import GoSem.ClaimJoined
import GoSem.ClaimMapViews
import Derived.JoinedTies
import Derived.KernelRfl
namespace Go.Proofs.Ytecnbfgacojpjaa
/- THE CELL 'sum', in the pinned program and in every row, IS THE sha256 OF THE DUMP (.gsa) THAT YtecnbfgacojpjaaProg.lean LOADS. Nothing in Lean hashes anything: it is a label: what it is worth is what the hold of that sum in a sandbox is worth. -/
noncomputable def Try.pinned : Pinned := { name := "ytecnbfgacojpjaa", sum := "34ca98d463242853b0aa88f4138ac44d301fcc18b596b28a2b7f6bb172e2b3f7", checked := Try.checked }
namespace Rows
def none {H : Type} : Left H := { results := [], args := [] }

/-- 'seamarklaw28.NumberTexts': WHATEVER THE INPUT: true; the input reads as it did. -/
def numberTextsSpec : ChangeSpec := { name := "numberTexts", fn := fun _ => fun
  | [d1, d2, d3] => { results := [.lit (.bool true)], args := [d1, d2, d3] }
  | _ => none }
def numberTextsRow : OpenClaim := { program := "ytecnbfgacojpjaa", sum := "34ca98d463242853b0aa88f4138ac44d301fcc18b596b28a2b7f6bb172e2b3f7", func := "seamark/seamarklaw28.NumberTexts", spec := "numberTexts", unfollowed := true, recurses := true, apart := false }
def NumberTextsSaid : Prop := numberTextsRow.holds Try.pinned (OpenSpec.ofChange numberTextsSpec)

/-- ITS FALSE NEIGHBOUR: 'it returns false'. Refute it at one input. -/
def numberTextsWrong : ChangeSpec := { name := "numberTexts", fn := fun _ => fun
  | [d1, d2, d3] => { results := [.lit (.bool false)], args := [d1, d2, d3] }
  | _ => none }
def NumberTextsWrongFalsely : Prop := numberTextsRow.holds Try.pinned (OpenSpec.ofChange numberTextsWrong)

/-- 'seamarklaw28.NumberInTurn': WHATEVER THE INPUT: true; the input reads as it did. -/
def numberInTurnSpec : ChangeSpec := { name := "numberInTurn", fn := fun _ => fun
  | [d1, d2, d3, d4] => { results := [.lit (.bool true)], args := [d1, d2, d3, d4] }
  | _ => none }
def numberInTurnRow : OpenClaim := { program := "ytecnbfgacojpjaa", sum := "34ca98d463242853b0aa88f4138ac44d301fcc18b596b28a2b7f6bb172e2b3f7", func := "seamark/seamarklaw28.NumberInTurn", spec := "numberInTurn", unfollowed := true, recurses := true, apart := false }
def NumberInTurnSaid : Prop := numberInTurnRow.holds Try.pinned (OpenSpec.ofChange numberInTurnSpec)

/-- ITS FALSE NEIGHBOUR: 'it returns false'. Refute it at one input. -/
def numberInTurnWrong : ChangeSpec := { name := "numberInTurn", fn := fun _ => fun
  | [d1, d2, d3, d4] => { results := [.lit (.bool false)], args := [d1, d2, d3, d4] }
  | _ => none }
def NumberInTurnWrongFalsely : Prop := numberInTurnRow.holds Try.pinned (OpenSpec.ofChange numberInTurnWrong)

/-- 'seamarklaw28.NumberWho': WHATEVER THE INPUT: true; the input reads as it did. -/
def numberWhoSpec : ChangeSpec := { name := "numberWho", fn := fun _ => fun
  | [d1, d2, d3, d4] => { results := [.lit (.bool true)], args := [d1, d2, d3, d4] }
  | _ => none }
def numberWhoRow : OpenClaim := { program := "ytecnbfgacojpjaa", sum := "34ca98d463242853b0aa88f4138ac44d301fcc18b596b28a2b7f6bb172e2b3f7", func := "seamark/seamarklaw28.NumberWho", spec := "numberWho", unfollowed := true, recurses := true, apart := false }
def NumberWhoSaid : Prop := numberWhoRow.holds Try.pinned (OpenSpec.ofChange numberWhoSpec)

/-- ITS FALSE NEIGHBOUR: 'it returns false'. Refute it at one input. -/
def numberWhoWrong : ChangeSpec := { name := "numberWho", fn := fun _ => fun
  | [d1, d2, d3, d4] => { results := [.lit (.bool false)], args := [d1, d2, d3, d4] }
  | _ => none }
def NumberWhoWrongFalsely : Prop := numberWhoRow.holds Try.pinned (OpenSpec.ofChange numberWhoWrong)

/-- 'seamarklaw28.NumberQuiet': WHATEVER THE INPUT: true; the input reads as it did. -/
def numberQuietSpec : ChangeSpec := { name := "numberQuiet", fn := fun _ => fun
  | [d1, d2, d3, d4] => { results := [.lit (.bool true)], args := [d1, d2, d3, d4] }
  | _ => none }
def numberQuietRow : OpenClaim := { program := "ytecnbfgacojpjaa", sum := "34ca98d463242853b0aa88f4138ac44d301fcc18b596b28a2b7f6bb172e2b3f7", func := "seamark/seamarklaw28.NumberQuiet", spec := "numberQuiet", unfollowed := true, recurses := true, apart := false }
def NumberQuietSaid : Prop := numberQuietRow.holds Try.pinned (OpenSpec.ofChange numberQuietSpec)

/-- ITS FALSE NEIGHBOUR: 'it returns false'. Refute it at one input. -/
def numberQuietWrong : ChangeSpec := { name := "numberQuiet", fn := fun _ => fun
  | [d1, d2, d3, d4] => { results := [.lit (.bool false)], args := [d1, d2, d3, d4] }
  | _ => none }
def NumberQuietWrongFalsely : Prop := numberQuietRow.holds Try.pinned (OpenSpec.ofChange numberQuietWrong)

/-- 'seamarklaw28.NumberApart': WHATEVER THE INPUT: true; the input reads as it did. -/
def numberApartSpec : ChangeSpec := { name := "numberApart", fn := fun _ => fun
  | [d1, d2, d3, d4] => { results := [.lit (.bool true)], args := [d1, d2, d3, d4] }
  | _ => none }
def numberApartRow : OpenClaim := { program := "ytecnbfgacojpjaa", sum := "34ca98d463242853b0aa88f4138ac44d301fcc18b596b28a2b7f6bb172e2b3f7", func := "seamark/seamarklaw28.NumberApart", spec := "numberApart", unfollowed := true, recurses := true, apart := false }
def NumberApartSaid : Prop := numberApartRow.holds Try.pinned (OpenSpec.ofChange numberApartSpec)

/-- ITS FALSE NEIGHBOUR: 'it returns false'. Refute it at one input. -/
def numberApartWrong : ChangeSpec := { name := "numberApart", fn := fun _ => fun
  | [d1, d2, d3, d4] => { results := [.lit (.bool false)], args := [d1, d2, d3, d4] }
  | _ => none }
def NumberApartWrongFalsely : Prop := numberApartRow.holds Try.pinned (OpenSpec.ofChange numberApartWrong)

/-- 'seamarklaw28.NumberMatchesReference': WHATEVER THE INPUT: true; the input reads as it did. -/
def numberMatchesReferenceSpec : ChangeSpec := { name := "numberMatchesReference", fn := fun _ => fun
  | [d1, d2, d3, d4, d5, d6] => { results := [.lit (.bool true)], args := [d1, d2, d3, d4, d5, d6] }
  | _ => none }
def numberMatchesReferenceRow : OpenClaim := { program := "ytecnbfgacojpjaa", sum := "34ca98d463242853b0aa88f4138ac44d301fcc18b596b28a2b7f6bb172e2b3f7", func := "seamark/seamarklaw28.NumberMatchesReference", spec := "numberMatchesReference", unfollowed := true, recurses := true, apart := false }
def NumberMatchesReferenceSaid : Prop := numberMatchesReferenceRow.holds Try.pinned (OpenSpec.ofChange numberMatchesReferenceSpec)

/-- ITS FALSE NEIGHBOUR: 'it returns false'. Refute it at one input. -/
def numberMatchesReferenceWrong : ChangeSpec := { name := "numberMatchesReference", fn := fun _ => fun
  | [d1, d2, d3, d4, d5, d6] => { results := [.lit (.bool false)], args := [d1, d2, d3, d4, d5, d6] }
  | _ => none }
def NumberMatchesReferenceWrongFalsely : Prop := numberMatchesReferenceRow.holds Try.pinned (OpenSpec.ofChange numberMatchesReferenceWrong)

/-- 'seamarklaw28.NumberTaken': WHATEVER THE INPUT: true; the input reads as it did. -/
def numberTakenSpec : ChangeSpec := { name := "numberTaken", fn := fun _ => fun
  | [d1, d2, d3, d4, d5] => { results := [.lit (.bool true)], args := [d1, d2, d3, d4, d5] }
  | _ => none }
def numberTakenRow : OpenClaim := { program := "ytecnbfgacojpjaa", sum := "34ca98d463242853b0aa88f4138ac44d301fcc18b596b28a2b7f6bb172e2b3f7", func := "seamark/seamarklaw28.NumberTaken", spec := "numberTaken", unfollowed := true, recurses := true, apart := false }
def NumberTakenSaid : Prop := numberTakenRow.holds Try.pinned (OpenSpec.ofChange numberTakenSpec)

/-- ITS FALSE NEIGHBOUR: 'it returns false'. Refute it at one input. -/
def numberTakenWrong : ChangeSpec := { name := "numberTaken", fn := fun _ => fun
  | [d1, d2, d3, d4, d5] => { results := [.lit (.bool false)], args := [d1, d2, d3, d4, d5] }
  | _ => none }
def NumberTakenWrongFalsely : Prop := numberTakenRow.holds Try.pinned (OpenSpec.ofChange numberTakenWrong)

/-- 'seamarklaw28.NumberRoom': WHATEVER THE INPUT: true; the input reads as it did. -/
def numberRoomSpec : ChangeSpec := { name := "numberRoom", fn := fun _ => fun
  | [d1, d2, d3, d4, d5, d6] => { results := [.lit (.bool true)], args := [d1, d2, d3, d4, d5, d6] }
  | _ => none }
def numberRoomRow : OpenClaim := { program := "ytecnbfgacojpjaa", sum := "34ca98d463242853b0aa88f4138ac44d301fcc18b596b28a2b7f6bb172e2b3f7", func := "seamark/seamarklaw28.NumberRoom", spec := "numberRoom", unfollowed := true, recurses := true, apart := false }
def NumberRoomSaid : Prop := numberRoomRow.holds Try.pinned (OpenSpec.ofChange numberRoomSpec)

/-- ITS FALSE NEIGHBOUR: 'it returns false'. Refute it at one input. -/
def numberRoomWrong : ChangeSpec := { name := "numberRoom", fn := fun _ => fun
  | [d1, d2, d3, d4, d5, d6] => { results := [.lit (.bool false)], args := [d1, d2, d3, d4, d5, d6] }
  | _ => none }
def NumberRoomWrongFalsely : Prop := numberRoomRow.holds Try.pinned (OpenSpec.ofChange numberRoomWrong)

/- THE SECOND FORM. 'bulk': how many values and letters a reading holds, each counted each time it is reached (what is shared counts as often as it is met; a slice's spare places count too). A statement '..UptoSaid' is the law's where the arguments, and the package variables that the reading takes, are together of bulk at most 1048576: NARROWER than '..Said'. Prove '..Said' where nothing that the law and all that it calls make is longer than what came in: it says more and counts as full. Else prove '..UptoSaid'. A law counts once. -/
mutual
def uptoBulk {H : Type} : DataW H → Nat
  | .lit (.string bytes) => bytes.length + 1
  | .lit _ => 1
  | .nil => 1
  | .ptr d => uptoBulk d + 1
  | .slice elems spare => uptoBulkAll elems + uptoBulkAll spare + 1
  | .agg parts => uptoBulkAll parts + 1
  | .iface _ d => uptoBulk d + 1
  | .map entries => uptoBulkEntries entries + 1
  | .held _ => 1
def uptoBulkAll {H : Type} : List (DataW H) → Nat
  | [] => 0
  | d :: r => uptoBulk d + uptoBulkAll r
def uptoBulkEntries {H : Type} : List (Lit × DataW H) → Nat
  | [] => 0
  | x :: r => uptoBulkEntry x + uptoBulkEntries r
def uptoBulkEntry {H : Type} : Lit × DataW H → Nat
  | (.string bytes, d) => bytes.length + uptoBulk d + 1
  | (_, d) => uptoBulk d + 1
 end
def uptoSmall : (H : Type) → List (DataW H) → Bool := fun _ ds => decide (uptoBulkAll ds ≤ 1048576)
def OpenSpec.upto (s : _root_.Go.ChangeSpec) : _root_.Go.OpenSpec := { _root_.Go.OpenSpec.ofChange s with cond := some uptoSmall }

/-- 'seamarklaw28.NumberTexts', WHERE WHAT IT READS IS OF BULK AT MOST 1048576: true; the input reads as it did. -/
def numberTextsUptoRow : OpenClaim := { program := "ytecnbfgacojpjaa", sum := "34ca98d463242853b0aa88f4138ac44d301fcc18b596b28a2b7f6bb172e2b3f7", func := "seamark/seamarklaw28.NumberTexts", spec := "numberTexts", unfollowed := true, recurses := true, apart := false, narrowed := true }
def NumberTextsUptoSaid : Prop := numberTextsUptoRow.holds Try.pinned (OpenSpec.upto numberTextsSpec)

/-- 'seamarklaw28.NumberInTurn', WHERE WHAT IT READS IS OF BULK AT MOST 1048576: true; the input reads as it did. -/
def numberInTurnUptoRow : OpenClaim := { program := "ytecnbfgacojpjaa", sum := "34ca98d463242853b0aa88f4138ac44d301fcc18b596b28a2b7f6bb172e2b3f7", func := "seamark/seamarklaw28.NumberInTurn", spec := "numberInTurn", unfollowed := true, recurses := true, apart := false, narrowed := true }
def NumberInTurnUptoSaid : Prop := numberInTurnUptoRow.holds Try.pinned (OpenSpec.upto numberInTurnSpec)

/-- 'seamarklaw28.NumberWho', WHERE WHAT IT READS IS OF BULK AT MOST 1048576: true; the input reads as it did. -/
def numberWhoUptoRow : OpenClaim := { program := "ytecnbfgacojpjaa", sum := "34ca98d463242853b0aa88f4138ac44d301fcc18b596b28a2b7f6bb172e2b3f7", func := "seamark/seamarklaw28.NumberWho", spec := "numberWho", unfollowed := true, recurses := true, apart := false, narrowed := true }
def NumberWhoUptoSaid : Prop := numberWhoUptoRow.holds Try.pinned (OpenSpec.upto numberWhoSpec)

/-- 'seamarklaw28.NumberQuiet', WHERE WHAT IT READS IS OF BULK AT MOST 1048576: true; the input reads as it did. -/
def numberQuietUptoRow : OpenClaim := { program := "ytecnbfgacojpjaa", sum := "34ca98d463242853b0aa88f4138ac44d301fcc18b596b28a2b7f6bb172e2b3f7", func := "seamark/seamarklaw28.NumberQuiet", spec := "numberQuiet", unfollowed := true, recurses := true, apart := false, narrowed := true }
def NumberQuietUptoSaid : Prop := numberQuietUptoRow.holds Try.pinned (OpenSpec.upto numberQuietSpec)

/-- 'seamarklaw28.NumberApart', WHERE WHAT IT READS IS OF BULK AT MOST 1048576: true; the input reads as it did. -/
def numberApartUptoRow : OpenClaim := { program := "ytecnbfgacojpjaa", sum := "34ca98d463242853b0aa88f4138ac44d301fcc18b596b28a2b7f6bb172e2b3f7", func := "seamark/seamarklaw28.NumberApart", spec := "numberApart", unfollowed := true, recurses := true, apart := false, narrowed := true }
def NumberApartUptoSaid : Prop := numberApartUptoRow.holds Try.pinned (OpenSpec.upto numberApartSpec)

/-- 'seamarklaw28.NumberMatchesReference', WHERE WHAT IT READS IS OF BULK AT MOST 1048576: true; the input reads as it did. -/
def numberMatchesReferenceUptoRow : OpenClaim := { program := "ytecnbfgacojpjaa", sum := "34ca98d463242853b0aa88f4138ac44d301fcc18b596b28a2b7f6bb172e2b3f7", func := "seamark/seamarklaw28.NumberMatchesReference", spec := "numberMatchesReference", unfollowed := true, recurses := true, apart := false, narrowed := true }
def NumberMatchesReferenceUptoSaid : Prop := numberMatchesReferenceUptoRow.holds Try.pinned (OpenSpec.upto numberMatchesReferenceSpec)

/-- 'seamarklaw28.NumberTaken', WHERE WHAT IT READS IS OF BULK AT MOST 1048576: true; the input reads as it did. -/
def numberTakenUptoRow : OpenClaim := { program := "ytecnbfgacojpjaa", sum := "34ca98d463242853b0aa88f4138ac44d301fcc18b596b28a2b7f6bb172e2b3f7", func := "seamark/seamarklaw28.NumberTaken", spec := "numberTaken", unfollowed := true, recurses := true, apart := false, narrowed := true }
def NumberTakenUptoSaid : Prop := numberTakenUptoRow.holds Try.pinned (OpenSpec.upto numberTakenSpec)

/-- 'seamarklaw28.NumberRoom', WHERE WHAT IT READS IS OF BULK AT MOST 1048576: true; the input reads as it did. -/
def numberRoomUptoRow : OpenClaim := { program := "ytecnbfgacojpjaa", sum := "34ca98d463242853b0aa88f4138ac44d301fcc18b596b28a2b7f6bb172e2b3f7", func := "seamark/seamarklaw28.NumberRoom", spec := "numberRoom", unfollowed := true, recurses := true, apart := false, narrowed := true }
def NumberRoomUptoSaid : Prop := numberRoomUptoRow.holds Try.pinned (OpenSpec.upto numberRoomSpec)

end Rows
end Go.Proofs.Ytecnbfgacojpjaa
