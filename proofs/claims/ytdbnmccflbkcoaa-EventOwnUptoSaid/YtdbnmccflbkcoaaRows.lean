/-
  No cell of these rows narrows 'for every input' (looked for: loops, veiled, ifaces, maps, wideKeys, modest, calm, conditions, laid).
  DERIVED. THE GIVEN ROWS OF THIS SEAT. 6 by the template 'for every input the law returns true; each argument reads behind the call as it read before'; 0 by the template 'total and deterministic' (their statements: YtdbnmccflbkcoaaTotals.lean).
  GIVEN WITH THE SEED: the statements are not yours to turn. If you find one false, say at which input.
  Laid BY PROGRAM, IN A SANDBOX (cutbox-rows.mjs): the forced cells as the released guide's own fill.sh prints them over the translation 5a0cbdd246130ad9… (all of the seat's roots in one cut). By AI agents, Wed Nov 11 2026. No macro, syntax, notation, axiom, sorry.
-/
import Derived.Test.YtdbnmccflbkcoaaChecked
import GoSem.Claim
import GoSem.ClaimJoined
import GoSem.ClaimMapViews
import Derived.JoinedTies
import Derived.KernelRfl
namespace Go.Proofs.Ytdbnmccflbkcoaa
/- THE CELL 'sum', in the pinned program and in every row, IS THE sha256 OF THE DUMP (.gsa) THAT YtdbnmccflbkcoaaProg.lean LOADS. Nothing in Lean hashes anything: it is a label: what it is worth is what the hold of that sum in a sandbox is worth. -/
noncomputable def Try.pinned : Pinned := { name := "ytdbnmccflbkcoaa", sum := "5a0cbdd246130ad9b0425dadc65b7b6ed295ca39fa777ef0b1b39754704d87be", checked := Try.checked }
namespace Rows
def none {H : Type} : Left H := { results := [], args := [] }

/-- 'cuecardlaw04.EventDues': WHATEVER THE INPUT: true; the input reads as it did. -/
def eventDuesSpec : ChangeSpec := { name := "eventDues", fn := fun _ => fun
  | [d1, d2] => { results := [.lit (.bool true)], args := [d1, d2] }
  | _ => none }
def eventDuesRow : OpenClaim := { program := "ytdbnmccflbkcoaa", sum := "5a0cbdd246130ad9b0425dadc65b7b6ed295ca39fa777ef0b1b39754704d87be", func := "cuecard/cuecardlaw04.EventDues", spec := "eventDues", unfollowed := true, recurses := true, apart := false }
def EventDuesSaid : Prop := eventDuesRow.holds Try.pinned (OpenSpec.ofChange eventDuesSpec)

/-- ITS FALSE NEIGHBOUR: 'it returns false'. Refute it at one input. -/
def eventDuesWrong : ChangeSpec := { name := "eventDues", fn := fun _ => fun
  | [d1, d2] => { results := [.lit (.bool false)], args := [d1, d2] }
  | _ => none }
def EventDuesWrongFalsely : Prop := eventDuesRow.holds Try.pinned (OpenSpec.ofChange eventDuesWrong)

/-- 'cuecardlaw04.EventOrder': WHATEVER THE INPUT: true; the input reads as it did. -/
def eventOrderSpec : ChangeSpec := { name := "eventOrder", fn := fun _ => fun
  | [d1, d2] => { results := [.lit (.bool true)], args := [d1, d2] }
  | _ => none }
def eventOrderRow : OpenClaim := { program := "ytdbnmccflbkcoaa", sum := "5a0cbdd246130ad9b0425dadc65b7b6ed295ca39fa777ef0b1b39754704d87be", func := "cuecard/cuecardlaw04.EventOrder", spec := "eventOrder", unfollowed := true, recurses := true, apart := false }
def EventOrderSaid : Prop := eventOrderRow.holds Try.pinned (OpenSpec.ofChange eventOrderSpec)

/-- ITS FALSE NEIGHBOUR: 'it returns false'. Refute it at one input. -/
def eventOrderWrong : ChangeSpec := { name := "eventOrder", fn := fun _ => fun
  | [d1, d2] => { results := [.lit (.bool false)], args := [d1, d2] }
  | _ => none }
def EventOrderWrongFalsely : Prop := eventOrderRow.holds Try.pinned (OpenSpec.ofChange eventOrderWrong)

/-- 'cuecardlaw04.EventParts': WHATEVER THE INPUT: true; the input reads as it did. -/
def eventPartsSpec : ChangeSpec := { name := "eventParts", fn := fun _ => fun
  | [d1, d2] => { results := [.lit (.bool true)], args := [d1, d2] }
  | _ => none }
def eventPartsRow : OpenClaim := { program := "ytdbnmccflbkcoaa", sum := "5a0cbdd246130ad9b0425dadc65b7b6ed295ca39fa777ef0b1b39754704d87be", func := "cuecard/cuecardlaw04.EventParts", spec := "eventParts", unfollowed := true, recurses := true, apart := false }
def EventPartsSaid : Prop := eventPartsRow.holds Try.pinned (OpenSpec.ofChange eventPartsSpec)

/-- ITS FALSE NEIGHBOUR: 'it returns false'. Refute it at one input. -/
def eventPartsWrong : ChangeSpec := { name := "eventParts", fn := fun _ => fun
  | [d1, d2] => { results := [.lit (.bool false)], args := [d1, d2] }
  | _ => none }
def EventPartsWrongFalsely : Prop := eventPartsRow.holds Try.pinned (OpenSpec.ofChange eventPartsWrong)

/-- 'cuecardlaw04.EventOwn': WHATEVER THE INPUT: true; the input reads as it did. -/
def eventOwnSpec : ChangeSpec := { name := "eventOwn", fn := fun _ => fun
  | [d] => { results := [.lit (.bool true)], args := [d] }
  | _ => none }
def eventOwnRow : OpenClaim := { program := "ytdbnmccflbkcoaa", sum := "5a0cbdd246130ad9b0425dadc65b7b6ed295ca39fa777ef0b1b39754704d87be", func := "cuecard/cuecardlaw04.EventOwn", spec := "eventOwn", unfollowed := true, recurses := true, apart := false }
def EventOwnSaid : Prop := eventOwnRow.holds Try.pinned (OpenSpec.ofChange eventOwnSpec)

/-- ITS FALSE NEIGHBOUR: 'it returns false'. Refute it at one input. -/
def eventOwnWrong : ChangeSpec := { name := "eventOwn", fn := fun _ => fun
  | [d] => { results := [.lit (.bool false)], args := [d] }
  | _ => none }
def EventOwnWrongFalsely : Prop := eventOwnRow.holds Try.pinned (OpenSpec.ofChange eventOwnWrong)

/-- 'cuecardlaw04.EventMerged': WHATEVER THE INPUT: true; the input reads as it did. -/
def eventMergedSpec : ChangeSpec := { name := "eventMerged", fn := fun _ => fun
  | [d] => { results := [.lit (.bool true)], args := [d] }
  | _ => none }
def eventMergedRow : OpenClaim := { program := "ytdbnmccflbkcoaa", sum := "5a0cbdd246130ad9b0425dadc65b7b6ed295ca39fa777ef0b1b39754704d87be", func := "cuecard/cuecardlaw04.EventMerged", spec := "eventMerged", unfollowed := true, recurses := true, apart := false }
def EventMergedSaid : Prop := eventMergedRow.holds Try.pinned (OpenSpec.ofChange eventMergedSpec)

/-- ITS FALSE NEIGHBOUR: 'it returns false'. Refute it at one input. -/
def eventMergedWrong : ChangeSpec := { name := "eventMerged", fn := fun _ => fun
  | [d] => { results := [.lit (.bool false)], args := [d] }
  | _ => none }
def EventMergedWrongFalsely : Prop := eventMergedRow.holds Try.pinned (OpenSpec.ofChange eventMergedWrong)

/-- 'cuecardlaw04.EventChecks': WHATEVER THE INPUT: true; the input reads as it did. -/
def eventChecksSpec : ChangeSpec := { name := "eventChecks", fn := fun _ => fun
  | [d1, d2] => { results := [.lit (.bool true)], args := [d1, d2] }
  | _ => none }
def eventChecksRow : OpenClaim := { program := "ytdbnmccflbkcoaa", sum := "5a0cbdd246130ad9b0425dadc65b7b6ed295ca39fa777ef0b1b39754704d87be", func := "cuecard/cuecardlaw04.EventChecks", spec := "eventChecks", unfollowed := true, recurses := true, apart := false }
def EventChecksSaid : Prop := eventChecksRow.holds Try.pinned (OpenSpec.ofChange eventChecksSpec)

/-- ITS FALSE NEIGHBOUR: 'it returns false'. Refute it at one input. -/
def eventChecksWrong : ChangeSpec := { name := "eventChecks", fn := fun _ => fun
  | [d1, d2] => { results := [.lit (.bool false)], args := [d1, d2] }
  | _ => none }
def EventChecksWrongFalsely : Prop := eventChecksRow.holds Try.pinned (OpenSpec.ofChange eventChecksWrong)

/- THE SECOND FORM. 'bulk': how many values and letters a reading holds, each counted each time it is reached (what is shared counts as often as it is met; a slice's spare places count too). A statement '..UptoSaid' is the law's where the arguments, and the package variables that the reading takes, are together of bulk at most 1048576: NARROWER than '..Said'. Prove '..Said' where nothing that the law and all that it calls make is longer than what came in: it says more and counts as full. Else prove '..UptoSaid'. A law counts once. -/
mutual
def uptoBulk {H : Type} : DataW H → Nat
  | .lit (.string bytes) => bytes.length + 1
  | .lit _ => 1
  | .nil => 1
  | .ptr d => uptoBulk d + 1
  | .slice elems spare => uptoBulkAll elems + uptoBulkAll spare + 1
  | .agg parts => uptoBulkAll parts + 1
  | .iface _ d => uptoBulk d + 1
  | .map entries => uptoBulkEntries entries + 1
  | .held _ => 1
def uptoBulkAll {H : Type} : List (DataW H) → Nat
  | [] => 0
  | d :: r => uptoBulk d + uptoBulkAll r
def uptoBulkEntries {H : Type} : List (Lit × DataW H) → Nat
  | [] => 0
  | x :: r => uptoBulkEntry x + uptoBulkEntries r
def uptoBulkEntry {H : Type} : Lit × DataW H → Nat
  | (.string bytes, d) => bytes.length + uptoBulk d + 1
  | (_, d) => uptoBulk d + 1
 end
def uptoSmall : (H : Type) → List (DataW H) → Bool := fun _ ds => decide (uptoBulkAll ds ≤ 1048576)
def OpenSpec.upto (s : _root_.Go.ChangeSpec) : _root_.Go.OpenSpec := { _root_.Go.OpenSpec.ofChange s with cond := some uptoSmall }

/-- 'cuecardlaw04.EventDues', WHERE WHAT IT READS IS OF BULK AT MOST 1048576: true; the input reads as it did. -/
def eventDuesUptoRow : OpenClaim := { program := "ytdbnmccflbkcoaa", sum := "5a0cbdd246130ad9b0425dadc65b7b6ed295ca39fa777ef0b1b39754704d87be", func := "cuecard/cuecardlaw04.EventDues", spec := "eventDues", unfollowed := true, recurses := true, apart := false, narrowed := true }
def EventDuesUptoSaid : Prop := eventDuesUptoRow.holds Try.pinned (OpenSpec.upto eventDuesSpec)

/-- 'cuecardlaw04.EventOrder', WHERE WHAT IT READS IS OF BULK AT MOST 1048576: true; the input reads as it did. -/
def eventOrderUptoRow : OpenClaim := { program := "ytdbnmccflbkcoaa", sum := "5a0cbdd246130ad9b0425dadc65b7b6ed295ca39fa777ef0b1b39754704d87be", func := "cuecard/cuecardlaw04.EventOrder", spec := "eventOrder", unfollowed := true, recurses := true, apart := false, narrowed := true }
def EventOrderUptoSaid : Prop := eventOrderUptoRow.holds Try.pinned (OpenSpec.upto eventOrderSpec)

/-- 'cuecardlaw04.EventParts', WHERE WHAT IT READS IS OF BULK AT MOST 1048576: true; the input reads as it did. -/
def eventPartsUptoRow : OpenClaim := { program := "ytdbnmccflbkcoaa", sum := "5a0cbdd246130ad9b0425dadc65b7b6ed295ca39fa777ef0b1b39754704d87be", func := "cuecard/cuecardlaw04.EventParts", spec := "eventParts", unfollowed := true, recurses := true, apart := false, narrowed := true }
def EventPartsUptoSaid : Prop := eventPartsUptoRow.holds Try.pinned (OpenSpec.upto eventPartsSpec)

/-- 'cuecardlaw04.EventOwn', WHERE WHAT IT READS IS OF BULK AT MOST 1048576: true; the input reads as it did. -/
def eventOwnUptoRow : OpenClaim := { program := "ytdbnmccflbkcoaa", sum := "5a0cbdd246130ad9b0425dadc65b7b6ed295ca39fa777ef0b1b39754704d87be", func := "cuecard/cuecardlaw04.EventOwn", spec := "eventOwn", unfollowed := true, recurses := true, apart := false, narrowed := true }
def EventOwnUptoSaid : Prop := eventOwnUptoRow.holds Try.pinned (OpenSpec.upto eventOwnSpec)

/-- 'cuecardlaw04.EventMerged', WHERE WHAT IT READS IS OF BULK AT MOST 1048576: true; the input reads as it did. -/
def eventMergedUptoRow : OpenClaim := { program := "ytdbnmccflbkcoaa", sum := "5a0cbdd246130ad9b0425dadc65b7b6ed295ca39fa777ef0b1b39754704d87be", func := "cuecard/cuecardlaw04.EventMerged", spec := "eventMerged", unfollowed := true, recurses := true, apart := false, narrowed := true }
def EventMergedUptoSaid : Prop := eventMergedUptoRow.holds Try.pinned (OpenSpec.upto eventMergedSpec)

/-- 'cuecardlaw04.EventChecks', WHERE WHAT IT READS IS OF BULK AT MOST 1048576: true; the input reads as it did. -/
def eventChecksUptoRow : OpenClaim := { program := "ytdbnmccflbkcoaa", sum := "5a0cbdd246130ad9b0425dadc65b7b6ed295ca39fa777ef0b1b39754704d87be", func := "cuecard/cuecardlaw04.EventChecks", spec := "eventChecks", unfollowed := true, recurses := true, apart := false, narrowed := true }
def EventChecksUptoSaid : Prop := eventChecksUptoRow.holds Try.pinned (OpenSpec.upto eventChecksSpec)

end Rows
end Go.Proofs.Ytdbnmccflbkcoaa
