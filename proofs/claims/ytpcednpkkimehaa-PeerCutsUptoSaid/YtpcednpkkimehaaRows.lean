/-
  No cell of these rows narrows 'for every input' (looked for: loops, veiled, ifaces, maps, wideKeys, modest, calm, conditions, laid).
  DERIVED. THE GIVEN ROWS OF THIS SEAT. 6 by the template 'for every input the law returns true; each argument reads behind the call as it read before'; 0 by the template 'total and deterministic' (their statements: YtpcednpkkimehaaTotals.lean).
  GIVEN WITH THE SEED: the statements are not yours to turn. If you find one false, say at which input.
  Laid BY PROGRAM, IN A SANDBOX (cutbox-rows.mjs): the forced cells as the released guide's own fill.sh prints them over the translation 4c742553d3bb2f94… (all of the seat's roots in one cut). By AI agents, Wed Nov 11 2026. No macro, syntax, notation, axiom, sorry.
-/
import Derived.Test.YtpcednpkkimehaaChecked
import GoSem.Claim
import GoSem.ClaimJoined
import GoSem.ClaimMapViews
import Derived.JoinedTies
import Derived.KernelRfl
namespace Go.Proofs.Ytpcednpkkimehaa
/- THE CELL 'sum', in the pinned program and in every row, IS THE sha256 OF THE DUMP (.gsa) THAT YtpcednpkkimehaaProg.lean LOADS. Nothing in Lean hashes anything: it is a label: what it is worth is what the hold of that sum in a sandbox is worth. -/
noncomputable def Try.pinned : Pinned := { name := "ytpcednpkkimehaa", sum := "4c742553d3bb2f9457cc638394625b057cd531b27c92df0262fa62ea89546bec", checked := Try.checked }
namespace Rows
def none {H : Type} : Left H := { results := [], args := [] }

/-- 'cuecardlaw20.PeerAll': WHATEVER THE INPUT: true; the input reads as it did. -/
def peerAllSpec : ChangeSpec := { name := "peerAll", fn := fun _ => fun
  | [d1, d2] => { results := [.lit (.bool true)], args := [d1, d2] }
  | _ => none }
def peerAllRow : OpenClaim := { program := "ytpcednpkkimehaa", sum := "4c742553d3bb2f9457cc638394625b057cd531b27c92df0262fa62ea89546bec", func := "cuecard/cuecardlaw20.PeerAll", spec := "peerAll", unfollowed := true, recurses := true, apart := false }
def PeerAllSaid : Prop := peerAllRow.holds Try.pinned (OpenSpec.ofChange peerAllSpec)

/-- ITS FALSE NEIGHBOUR: 'it returns false'. Refute it at one input. -/
def peerAllWrong : ChangeSpec := { name := "peerAll", fn := fun _ => fun
  | [d1, d2] => { results := [.lit (.bool false)], args := [d1, d2] }
  | _ => none }
def PeerAllWrongFalsely : Prop := peerAllRow.holds Try.pinned (OpenSpec.ofChange peerAllWrong)

/-- 'cuecardlaw20.PeerCuts': WHATEVER THE INPUT: true; the input reads as it did. -/
def peerCutsSpec : ChangeSpec := { name := "peerCuts", fn := fun _ => fun
  | [d1, d2] => { results := [.lit (.bool true)], args := [d1, d2] }
  | _ => none }
def peerCutsRow : OpenClaim := { program := "ytpcednpkkimehaa", sum := "4c742553d3bb2f9457cc638394625b057cd531b27c92df0262fa62ea89546bec", func := "cuecard/cuecardlaw20.PeerCuts", spec := "peerCuts", unfollowed := true, recurses := true, apart := false }
def PeerCutsSaid : Prop := peerCutsRow.holds Try.pinned (OpenSpec.ofChange peerCutsSpec)

/-- ITS FALSE NEIGHBOUR: 'it returns false'. Refute it at one input. -/
def peerCutsWrong : ChangeSpec := { name := "peerCuts", fn := fun _ => fun
  | [d1, d2] => { results := [.lit (.bool false)], args := [d1, d2] }
  | _ => none }
def PeerCutsWrongFalsely : Prop := peerCutsRow.holds Try.pinned (OpenSpec.ofChange peerCutsWrong)

/-- 'cuecardlaw20.PeerPrefix': WHATEVER THE INPUT: true; the input reads as it did. -/
def peerPrefixSpec : ChangeSpec := { name := "peerPrefix", fn := fun _ => fun
  | [d1, d2] => { results := [.lit (.bool true)], args := [d1, d2] }
  | _ => none }
def peerPrefixRow : OpenClaim := { program := "ytpcednpkkimehaa", sum := "4c742553d3bb2f9457cc638394625b057cd531b27c92df0262fa62ea89546bec", func := "cuecard/cuecardlaw20.PeerPrefix", spec := "peerPrefix", unfollowed := true, recurses := true, apart := false }
def PeerPrefixSaid : Prop := peerPrefixRow.holds Try.pinned (OpenSpec.ofChange peerPrefixSpec)

/-- ITS FALSE NEIGHBOUR: 'it returns false'. Refute it at one input. -/
def peerPrefixWrong : ChangeSpec := { name := "peerPrefix", fn := fun _ => fun
  | [d1, d2] => { results := [.lit (.bool false)], args := [d1, d2] }
  | _ => none }
def PeerPrefixWrongFalsely : Prop := peerPrefixRow.holds Try.pinned (OpenSpec.ofChange peerPrefixWrong)

/-- 'cuecardlaw20.PeerWrong': WHATEVER THE INPUT: true; the input reads as it did. -/
def peerWrongSpec : ChangeSpec := { name := "peerWrong", fn := fun _ => fun
  | [d1, d2, d3] => { results := [.lit (.bool true)], args := [d1, d2, d3] }
  | _ => none }
def peerWrongRow : OpenClaim := { program := "ytpcednpkkimehaa", sum := "4c742553d3bb2f9457cc638394625b057cd531b27c92df0262fa62ea89546bec", func := "cuecard/cuecardlaw20.PeerWrong", spec := "peerWrong", unfollowed := true, recurses := true, apart := false }
def PeerWrongSaid : Prop := peerWrongRow.holds Try.pinned (OpenSpec.ofChange peerWrongSpec)

/-- ITS FALSE NEIGHBOUR: 'it returns false'. Refute it at one input. -/
def peerWrongWrong : ChangeSpec := { name := "peerWrong", fn := fun _ => fun
  | [d1, d2, d3] => { results := [.lit (.bool false)], args := [d1, d2, d3] }
  | _ => none }
def PeerWrongWrongFalsely : Prop := peerWrongRow.holds Try.pinned (OpenSpec.ofChange peerWrongWrong)

/-- 'cuecardlaw20.PeerActs': WHATEVER THE INPUT: true; the input reads as it did. -/
def peerActsSpec : ChangeSpec := { name := "peerActs", fn := fun _ => fun
  | [d1, d2] => { results := [.lit (.bool true)], args := [d1, d2] }
  | _ => none }
def peerActsRow : OpenClaim := { program := "ytpcednpkkimehaa", sum := "4c742553d3bb2f9457cc638394625b057cd531b27c92df0262fa62ea89546bec", func := "cuecard/cuecardlaw20.PeerActs", spec := "peerActs", unfollowed := true, recurses := true, apart := false }
def PeerActsSaid : Prop := peerActsRow.holds Try.pinned (OpenSpec.ofChange peerActsSpec)

/-- ITS FALSE NEIGHBOUR: 'it returns false'. Refute it at one input. -/
def peerActsWrong : ChangeSpec := { name := "peerActs", fn := fun _ => fun
  | [d1, d2] => { results := [.lit (.bool false)], args := [d1, d2] }
  | _ => none }
def PeerActsWrongFalsely : Prop := peerActsRow.holds Try.pinned (OpenSpec.ofChange peerActsWrong)

/-- 'cuecardlaw20.PeerNone': WHATEVER THE INPUT: true; the input reads as it did. -/
def peerNoneSpec : ChangeSpec := { name := "peerNone", fn := fun _ => fun
  | [d1, d2] => { results := [.lit (.bool true)], args := [d1, d2] }
  | _ => none }
def peerNoneRow : OpenClaim := { program := "ytpcednpkkimehaa", sum := "4c742553d3bb2f9457cc638394625b057cd531b27c92df0262fa62ea89546bec", func := "cuecard/cuecardlaw20.PeerNone", spec := "peerNone", unfollowed := true, recurses := true, apart := false }
def PeerNoneSaid : Prop := peerNoneRow.holds Try.pinned (OpenSpec.ofChange peerNoneSpec)

/-- ITS FALSE NEIGHBOUR: 'it returns false'. Refute it at one input. -/
def peerNoneWrong : ChangeSpec := { name := "peerNone", fn := fun _ => fun
  | [d1, d2] => { results := [.lit (.bool false)], args := [d1, d2] }
  | _ => none }
def PeerNoneWrongFalsely : Prop := peerNoneRow.holds Try.pinned (OpenSpec.ofChange peerNoneWrong)

/- THE SECOND FORM. 'bulk': how many values and letters a reading holds, each counted each time it is reached (what is shared counts as often as it is met; a slice's spare places count too). A statement '..UptoSaid' is the law's where the arguments, and the package variables that the reading takes, are together of bulk at most 1048576: NARROWER than '..Said'. Prove '..Said' where nothing that the law and all that it calls make is longer than what came in: it says more and counts as full. Else prove '..UptoSaid'. A law counts once. -/
mutual
def uptoBulk {H : Type} : DataW H → Nat
  | .lit (.string bytes) => bytes.length + 1
  | .lit _ => 1
  | .nil => 1
  | .ptr d => uptoBulk d + 1
  | .slice elems spare => uptoBulkAll elems + uptoBulkAll spare + 1
  | .agg parts => uptoBulkAll parts + 1
  | .iface _ d => uptoBulk d + 1
  | .map entries => uptoBulkEntries entries + 1
  | .held _ => 1
def uptoBulkAll {H : Type} : List (DataW H) → Nat
  | [] => 0
  | d :: r => uptoBulk d + uptoBulkAll r
def uptoBulkEntries {H : Type} : List (Lit × DataW H) → Nat
  | [] => 0
  | x :: r => uptoBulkEntry x + uptoBulkEntries r
def uptoBulkEntry {H : Type} : Lit × DataW H → Nat
  | (.string bytes, d) => bytes.length + uptoBulk d + 1
  | (_, d) => uptoBulk d + 1
 end
def uptoSmall : (H : Type) → List (DataW H) → Bool := fun _ ds => decide (uptoBulkAll ds ≤ 1048576)
def OpenSpec.upto (s : _root_.Go.ChangeSpec) : _root_.Go.OpenSpec := { _root_.Go.OpenSpec.ofChange s with cond := some uptoSmall }

/-- 'cuecardlaw20.PeerAll', WHERE WHAT IT READS IS OF BULK AT MOST 1048576: true; the input reads as it did. -/
def peerAllUptoRow : OpenClaim := { program := "ytpcednpkkimehaa", sum := "4c742553d3bb2f9457cc638394625b057cd531b27c92df0262fa62ea89546bec", func := "cuecard/cuecardlaw20.PeerAll", spec := "peerAll", unfollowed := true, recurses := true, apart := false, narrowed := true }
def PeerAllUptoSaid : Prop := peerAllUptoRow.holds Try.pinned (OpenSpec.upto peerAllSpec)

/-- 'cuecardlaw20.PeerCuts', WHERE WHAT IT READS IS OF BULK AT MOST 1048576: true; the input reads as it did. -/
def peerCutsUptoRow : OpenClaim := { program := "ytpcednpkkimehaa", sum := "4c742553d3bb2f9457cc638394625b057cd531b27c92df0262fa62ea89546bec", func := "cuecard/cuecardlaw20.PeerCuts", spec := "peerCuts", unfollowed := true, recurses := true, apart := false, narrowed := true }
def PeerCutsUptoSaid : Prop := peerCutsUptoRow.holds Try.pinned (OpenSpec.upto peerCutsSpec)

/-- 'cuecardlaw20.PeerPrefix', WHERE WHAT IT READS IS OF BULK AT MOST 1048576: true; the input reads as it did. -/
def peerPrefixUptoRow : OpenClaim := { program := "ytpcednpkkimehaa", sum := "4c742553d3bb2f9457cc638394625b057cd531b27c92df0262fa62ea89546bec", func := "cuecard/cuecardlaw20.PeerPrefix", spec := "peerPrefix", unfollowed := true, recurses := true, apart := false, narrowed := true }
def PeerPrefixUptoSaid : Prop := peerPrefixUptoRow.holds Try.pinned (OpenSpec.upto peerPrefixSpec)

/-- 'cuecardlaw20.PeerWrong', WHERE WHAT IT READS IS OF BULK AT MOST 1048576: true; the input reads as it did. -/
def peerWrongUptoRow : OpenClaim := { program := "ytpcednpkkimehaa", sum := "4c742553d3bb2f9457cc638394625b057cd531b27c92df0262fa62ea89546bec", func := "cuecard/cuecardlaw20.PeerWrong", spec := "peerWrong", unfollowed := true, recurses := true, apart := false, narrowed := true }
def PeerWrongUptoSaid : Prop := peerWrongUptoRow.holds Try.pinned (OpenSpec.upto peerWrongSpec)

/-- 'cuecardlaw20.PeerActs', WHERE WHAT IT READS IS OF BULK AT MOST 1048576: true; the input reads as it did. -/
def peerActsUptoRow : OpenClaim := { program := "ytpcednpkkimehaa", sum := "4c742553d3bb2f9457cc638394625b057cd531b27c92df0262fa62ea89546bec", func := "cuecard/cuecardlaw20.PeerActs", spec := "peerActs", unfollowed := true, recurses := true, apart := false, narrowed := true }
def PeerActsUptoSaid : Prop := peerActsUptoRow.holds Try.pinned (OpenSpec.upto peerActsSpec)

/-- 'cuecardlaw20.PeerNone', WHERE WHAT IT READS IS OF BULK AT MOST 1048576: true; the input reads as it did. -/
def peerNoneUptoRow : OpenClaim := { program := "ytpcednpkkimehaa", sum := "4c742553d3bb2f9457cc638394625b057cd531b27c92df0262fa62ea89546bec", func := "cuecard/cuecardlaw20.PeerNone", spec := "peerNone", unfollowed := true, recurses := true, apart := false, narrowed := true }
def PeerNoneUptoSaid : Prop := peerNoneUptoRow.holds Try.pinned (OpenSpec.upto peerNoneSpec)

end Rows
end Go.Proofs.Ytpcednpkkimehaa
