/-
  No cell of these rows narrows 'for every input' (looked for: loops, veiled, ifaces, maps, wideKeys, modest, calm, conditions, laid).
  DERIVED. THE GIVEN ROWS OF THIS SEAT. 7 by the template 'for every input the law returns true; each argument reads behind the call as it read before'; 0 by the template 'total and deterministic' (their statements: YtefippbcgdfnbaaTotals.lean).
  GIVEN WITH THE SEED: the statements are not yours to turn. If you find one false, say at which input.
  Laid BY PROGRAM, IN A SANDBOX (cutbox-rows.mjs): the forced cells as the released guide's own fill.sh prints them over the translation 7c3f95f6727ddaa9… (all of the seat's roots in one cut). By AI agents, Wed Nov 11 2026. No macro, syntax, notation, axiom, sorry.
-/
import Derived.Test.YtefippbcgdfnbaaChecked
import GoSem.Claim
import GoSem.ClaimJoined
import GoSem.ClaimMapViews
import Derived.JoinedTies
import Derived.KernelRfl
namespace Go.Proofs.Ytefippbcgdfnbaa
/- THE CELL 'sum', in the pinned program and in every row, IS THE sha256 OF THE DUMP (.gsa) THAT YtefippbcgdfnbaaProg.lean LOADS. Nothing in Lean hashes anything: it is a label: what it is worth is what the hold of that sum in a sandbox is worth. -/
noncomputable def Try.pinned : Pinned := { name := "ytefippbcgdfnbaa", sum := "7c3f95f6727ddaa960ed6aa98ff6094425d51d990db8be5958a2a352e9643beb", checked := Try.checked }
namespace Rows
def none {H : Type} : Left H := { results := [], args := [] }

/-- 'cuecardlaw05.TransPuts': WHATEVER THE INPUT: true; the input reads as it did. -/
def transPutsSpec : ChangeSpec := { name := "transPuts", fn := fun _ => fun
  | [d1, d2] => { results := [.lit (.bool true)], args := [d1, d2] }
  | _ => none }
def transPutsRow : OpenClaim := { program := "ytefippbcgdfnbaa", sum := "7c3f95f6727ddaa960ed6aa98ff6094425d51d990db8be5958a2a352e9643beb", func := "cuecard/cuecardlaw05.TransPuts", spec := "transPuts", apart := false }
def TransPutsSaid : Prop := transPutsRow.holds Try.pinned (OpenSpec.ofChange transPutsSpec)

/-- ITS FALSE NEIGHBOUR: 'it returns false'. Refute it at one input. -/
def transPutsWrong : ChangeSpec := { name := "transPuts", fn := fun _ => fun
  | [d1, d2] => { results := [.lit (.bool false)], args := [d1, d2] }
  | _ => none }
def TransPutsWrongFalsely : Prop := transPutsRow.holds Try.pinned (OpenSpec.ofChange transPutsWrong)

/-- 'cuecardlaw05.TransGets': WHATEVER THE INPUT: true; the input reads as it did. -/
def transGetsSpec : ChangeSpec := { name := "transGets", fn := fun _ => fun
  | [d] => { results := [.lit (.bool true)], args := [d] }
  | _ => none }
def transGetsRow : OpenClaim := { program := "ytefippbcgdfnbaa", sum := "7c3f95f6727ddaa960ed6aa98ff6094425d51d990db8be5958a2a352e9643beb", func := "cuecard/cuecardlaw05.TransGets", spec := "transGets", apart := false }
def TransGetsSaid : Prop := transGetsRow.holds Try.pinned (OpenSpec.ofChange transGetsSpec)

/-- ITS FALSE NEIGHBOUR: 'it returns false'. Refute it at one input. -/
def transGetsWrong : ChangeSpec := { name := "transGets", fn := fun _ => fun
  | [d] => { results := [.lit (.bool false)], args := [d] }
  | _ => none }
def TransGetsWrongFalsely : Prop := transGetsRow.holds Try.pinned (OpenSpec.ofChange transGetsWrong)

/-- 'cuecardlaw05.TransBack': WHATEVER THE INPUT: true; the input reads as it did. -/
def transBackSpec : ChangeSpec := { name := "transBack", fn := fun _ => fun
  | [d1, d2] => { results := [.lit (.bool true)], args := [d1, d2] }
  | _ => none }
def transBackRow : OpenClaim := { program := "ytefippbcgdfnbaa", sum := "7c3f95f6727ddaa960ed6aa98ff6094425d51d990db8be5958a2a352e9643beb", func := "cuecard/cuecardlaw05.TransBack", spec := "transBack", apart := false }
def TransBackSaid : Prop := transBackRow.holds Try.pinned (OpenSpec.ofChange transBackSpec)

/-- ITS FALSE NEIGHBOUR: 'it returns false'. Refute it at one input. -/
def transBackWrong : ChangeSpec := { name := "transBack", fn := fun _ => fun
  | [d1, d2] => { results := [.lit (.bool false)], args := [d1, d2] }
  | _ => none }
def TransBackWrongFalsely : Prop := transBackRow.holds Try.pinned (OpenSpec.ofChange transBackWrong)

/-- 'cuecardlaw05.TransOne': WHATEVER THE INPUT: true; the input reads as it did. -/
def transOneSpec : ChangeSpec := { name := "transOne", fn := fun _ => fun
  | [d] => { results := [.lit (.bool true)], args := [d] }
  | _ => none }
def transOneRow : OpenClaim := { program := "ytefippbcgdfnbaa", sum := "7c3f95f6727ddaa960ed6aa98ff6094425d51d990db8be5958a2a352e9643beb", func := "cuecard/cuecardlaw05.TransOne", spec := "transOne", apart := false }
def TransOneSaid : Prop := transOneRow.holds Try.pinned (OpenSpec.ofChange transOneSpec)

/-- ITS FALSE NEIGHBOUR: 'it returns false'. Refute it at one input. -/
def transOneWrong : ChangeSpec := { name := "transOne", fn := fun _ => fun
  | [d] => { results := [.lit (.bool false)], args := [d] }
  | _ => none }
def TransOneWrongFalsely : Prop := transOneRow.holds Try.pinned (OpenSpec.ofChange transOneWrong)

/-- 'cuecardlaw05.TransCut': WHATEVER THE INPUT: true; the input reads as it did. -/
def transCutSpec : ChangeSpec := { name := "transCut", fn := fun _ => fun
  | [d1, d2] => { results := [.lit (.bool true)], args := [d1, d2] }
  | _ => none }
def transCutRow : OpenClaim := { program := "ytefippbcgdfnbaa", sum := "7c3f95f6727ddaa960ed6aa98ff6094425d51d990db8be5958a2a352e9643beb", func := "cuecard/cuecardlaw05.TransCut", spec := "transCut", apart := false }
def TransCutSaid : Prop := transCutRow.holds Try.pinned (OpenSpec.ofChange transCutSpec)

/-- ITS FALSE NEIGHBOUR: 'it returns false'. Refute it at one input. -/
def transCutWrong : ChangeSpec := { name := "transCut", fn := fun _ => fun
  | [d1, d2] => { results := [.lit (.bool false)], args := [d1, d2] }
  | _ => none }
def TransCutWrongFalsely : Prop := transCutRow.holds Try.pinned (OpenSpec.ofChange transCutWrong)

/-- 'cuecardlaw05.TransSpoils': WHATEVER THE INPUT: true; the input reads as it did. -/
def transSpoilsSpec : ChangeSpec := { name := "transSpoils", fn := fun _ => fun
  | [d1, d2, d3] => { results := [.lit (.bool true)], args := [d1, d2, d3] }
  | _ => none }
def transSpoilsRow : OpenClaim := { program := "ytefippbcgdfnbaa", sum := "7c3f95f6727ddaa960ed6aa98ff6094425d51d990db8be5958a2a352e9643beb", func := "cuecard/cuecardlaw05.TransSpoils", spec := "transSpoils", apart := false }
def TransSpoilsSaid : Prop := transSpoilsRow.holds Try.pinned (OpenSpec.ofChange transSpoilsSpec)

/-- ITS FALSE NEIGHBOUR: 'it returns false'. Refute it at one input. -/
def transSpoilsWrong : ChangeSpec := { name := "transSpoils", fn := fun _ => fun
  | [d1, d2, d3] => { results := [.lit (.bool false)], args := [d1, d2, d3] }
  | _ => none }
def TransSpoilsWrongFalsely : Prop := transSpoilsRow.holds Try.pinned (OpenSpec.ofChange transSpoilsWrong)

/-- 'cuecardlaw05.TransJoins': WHATEVER THE INPUT: true; the input reads as it did. -/
def transJoinsSpec : ChangeSpec := { name := "transJoins", fn := fun _ => fun
  | [d1, d2] => { results := [.lit (.bool true)], args := [d1, d2] }
  | _ => none }
def transJoinsRow : OpenClaim := { program := "ytefippbcgdfnbaa", sum := "7c3f95f6727ddaa960ed6aa98ff6094425d51d990db8be5958a2a352e9643beb", func := "cuecard/cuecardlaw05.TransJoins", spec := "transJoins", apart := false }
def TransJoinsSaid : Prop := transJoinsRow.holds Try.pinned (OpenSpec.ofChange transJoinsSpec)

/-- ITS FALSE NEIGHBOUR: 'it returns false'. Refute it at one input. -/
def transJoinsWrong : ChangeSpec := { name := "transJoins", fn := fun _ => fun
  | [d1, d2] => { results := [.lit (.bool false)], args := [d1, d2] }
  | _ => none }
def TransJoinsWrongFalsely : Prop := transJoinsRow.holds Try.pinned (OpenSpec.ofChange transJoinsWrong)

/- THE SECOND FORM. 'bulk': how many values and letters a reading holds, each counted each time it is reached (what is shared counts as often as it is met; a slice's spare places count too). A statement '..UptoSaid' is the law's where the arguments, and the package variables that the reading takes, are together of bulk at most 1048576: NARROWER than '..Said'. Prove '..Said' where nothing that the law and all that it calls make is longer than what came in: it says more and counts as full. Else prove '..UptoSaid'. A law counts once. -/
mutual
def uptoBulk {H : Type} : DataW H → Nat
  | .lit (.string bytes) => bytes.length + 1
  | .lit _ => 1
  | .nil => 1
  | .ptr d => uptoBulk d + 1
  | .slice elems spare => uptoBulkAll elems + uptoBulkAll spare + 1
  | .agg parts => uptoBulkAll parts + 1
  | .iface _ d => uptoBulk d + 1
  | .map entries => uptoBulkEntries entries + 1
  | .held _ => 1
def uptoBulkAll {H : Type} : List (DataW H) → Nat
  | [] => 0
  | d :: r => uptoBulk d + uptoBulkAll r
def uptoBulkEntries {H : Type} : List (Lit × DataW H) → Nat
  | [] => 0
  | x :: r => uptoBulkEntry x + uptoBulkEntries r
def uptoBulkEntry {H : Type} : Lit × DataW H → Nat
  | (.string bytes, d) => bytes.length + uptoBulk d + 1
  | (_, d) => uptoBulk d + 1
 end
def uptoSmall : (H : Type) → List (DataW H) → Bool := fun _ ds => decide (uptoBulkAll ds ≤ 1048576)
def OpenSpec.upto (s : _root_.Go.ChangeSpec) : _root_.Go.OpenSpec := { _root_.Go.OpenSpec.ofChange s with cond := some uptoSmall }

/-- 'cuecardlaw05.TransPuts', WHERE WHAT IT READS IS OF BULK AT MOST 1048576: true; the input reads as it did. -/
def transPutsUptoRow : OpenClaim := { program := "ytefippbcgdfnbaa", sum := "7c3f95f6727ddaa960ed6aa98ff6094425d51d990db8be5958a2a352e9643beb", func := "cuecard/cuecardlaw05.TransPuts", spec := "transPuts", apart := false, narrowed := true }
def TransPutsUptoSaid : Prop := transPutsUptoRow.holds Try.pinned (OpenSpec.upto transPutsSpec)

/-- 'cuecardlaw05.TransGets', WHERE WHAT IT READS IS OF BULK AT MOST 1048576: true; the input reads as it did. -/
def transGetsUptoRow : OpenClaim := { program := "ytefippbcgdfnbaa", sum := "7c3f95f6727ddaa960ed6aa98ff6094425d51d990db8be5958a2a352e9643beb", func := "cuecard/cuecardlaw05.TransGets", spec := "transGets", apart := false, narrowed := true }
def TransGetsUptoSaid : Prop := transGetsUptoRow.holds Try.pinned (OpenSpec.upto transGetsSpec)

/-- 'cuecardlaw05.TransBack', WHERE WHAT IT READS IS OF BULK AT MOST 1048576: true; the input reads as it did. -/
def transBackUptoRow : OpenClaim := { program := "ytefippbcgdfnbaa", sum := "7c3f95f6727ddaa960ed6aa98ff6094425d51d990db8be5958a2a352e9643beb", func := "cuecard/cuecardlaw05.TransBack", spec := "transBack", apart := false, narrowed := true }
def TransBackUptoSaid : Prop := transBackUptoRow.holds Try.pinned (OpenSpec.upto transBackSpec)

/-- 'cuecardlaw05.TransOne', WHERE WHAT IT READS IS OF BULK AT MOST 1048576: true; the input reads as it did. -/
def transOneUptoRow : OpenClaim := { program := "ytefippbcgdfnbaa", sum := "7c3f95f6727ddaa960ed6aa98ff6094425d51d990db8be5958a2a352e9643beb", func := "cuecard/cuecardlaw05.TransOne", spec := "transOne", apart := false, narrowed := true }
def TransOneUptoSaid : Prop := transOneUptoRow.holds Try.pinned (OpenSpec.upto transOneSpec)

/-- 'cuecardlaw05.TransCut', WHERE WHAT IT READS IS OF BULK AT MOST 1048576: true; the input reads as it did. -/
def transCutUptoRow : OpenClaim := { program := "ytefippbcgdfnbaa", sum := "7c3f95f6727ddaa960ed6aa98ff6094425d51d990db8be5958a2a352e9643beb", func := "cuecard/cuecardlaw05.TransCut", spec := "transCut", apart := false, narrowed := true }
def TransCutUptoSaid : Prop := transCutUptoRow.holds Try.pinned (OpenSpec.upto transCutSpec)

/-- 'cuecardlaw05.TransSpoils', WHERE WHAT IT READS IS OF BULK AT MOST 1048576: true; the input reads as it did. -/
def transSpoilsUptoRow : OpenClaim := { program := "ytefippbcgdfnbaa", sum := "7c3f95f6727ddaa960ed6aa98ff6094425d51d990db8be5958a2a352e9643beb", func := "cuecard/cuecardlaw05.TransSpoils", spec := "transSpoils", apart := false, narrowed := true }
def TransSpoilsUptoSaid : Prop := transSpoilsUptoRow.holds Try.pinned (OpenSpec.upto transSpoilsSpec)

/-- 'cuecardlaw05.TransJoins', WHERE WHAT IT READS IS OF BULK AT MOST 1048576: true; the input reads as it did. -/
def transJoinsUptoRow : OpenClaim := { program := "ytefippbcgdfnbaa", sum := "7c3f95f6727ddaa960ed6aa98ff6094425d51d990db8be5958a2a352e9643beb", func := "cuecard/cuecardlaw05.TransJoins", spec := "transJoins", apart := false, narrowed := true }
def TransJoinsUptoSaid : Prop := transJoinsUptoRow.holds Try.pinned (OpenSpec.upto transJoinsSpec)

end Rows
end Go.Proofs.Ytefippbcgdfnbaa
