import Derived.Test.YtbdknddgfmoipaaGreatDoorZR3
set_option linter.unusedVariables false
set_option linter.unusedSimpArgs false
namespace Go.Proofs.YtbdknddgfmoipaaGreatDoor.topRec
open Go.ChangeShapes Go.WideShapes Go.ChangeAt Go.RowKit
set_option linter.unusedVariables false
set_option linter.unusedSimpArgs false
set_option maxRecDepth 100000 in
theorem hr (os : Os) : (((w0 os).forCall (fun _ _ => 0) ⟨#[], #[.int .i64 0, .slice none 0 0], []⟩).heap.toList.drop Tryz.prog.globals.size).take ((begin Tryz.prog (fun _ _ => 0) default).world.heap.size - Tryz.prog.globals.size) = (begin Tryz.prog (fun _ _ => 0) default).world.heap.toList.drop Tryz.prog.globals.size := by kernel_rfl
set_option maxRecDepth 100000 in
theorem hfun (os : Os) : funcsRun Tryz.prog (ww os) 8 (List.map (fun x => x.fst) (funcsListed Rows.topRecordingRow.laid)) = some (List.map (fun x => x.snd.funcsOut) (funcsListed Rows.topRecordingRow.laid)) := by kernel_rfl
end Go.Proofs.YtbdknddgfmoipaaGreatDoor.topRec
