import Derived.LaidMore
import Derived.Deep.DeepHandedRow
import Derived.Deep.DeepWitnessRowRef
import Derived.SevenTiedAt
import Derived.Test.YtbdknddgfmoipaaGreatDoorZR2
set_option linter.unusedVariables false
set_option linter.unusedSimpArgs false
namespace Go.Proofs.YtbdknddgfmoipaaGreatDoor.topRec
open Go.ChangeShapes Go.WideShapes Go.ChangeAt Go.RowKit
set_option linter.unusedVariables false
set_option linter.unusedSimpArgs false
/-- a world that holds the variables: what the program's own start leaves, and Go's own table -/
noncomputable def w0 (os : Os) : World :=
  { World.doorLaid Tryz.prog 87 os with heap := (World.doorLaid Tryz.prog 87 os).heap.modify 9 fun
      | .cells _ t frozen => .cells (Go.Pinned.utf8FirstZ.map fun (n : Nat) => Value.int .u8 (Int.ofNat n)).toArray t frozen
      | o => o }
noncomputable def ww (os : Os) : World := ((w0 os).forCall (fun _ _ => 0) ⟨#[], #[.int .i64 0, .slice none 0 0], []⟩).memory
set_option maxRecDepth 100000 in
theorem met1 (os : Os) : laidMet Tryz.prog (Rows.topRecordingRow.laid.filter fun x => x.2.handleName?.isNone) (ww os) := laidMet_of_run' 8 (by kernel_rfl) (by kernel_rfl)
end Go.Proofs.YtbdknddgfmoipaaGreatDoor.topRec
