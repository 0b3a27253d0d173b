/-
  DERIVED. GIVEN WITH THE SEED: THE CARDS: each row of YtbdknddgfmoipaaGreatDoorRows.lean that lists a variable, with what it lists TIED to the program's text (the seventh form; the later family's looks); each row that meets fmt, with fmt's text TOLD by the authors' own Lean function (tested against real Go, not proved from fmt's source: count such statements apart). THE CARD IS WHAT COUNTS. Prove the row's statement (the work); the ties are given (YtbdknddgfmoipaaGreatDoorTie.lean); close each card by the builder's one call (the guide's Derived/Test/ToyasCard.lean, 'card_holds'). Laid BY PROGRAM, IN A SANDBOX (cutbox-door.mjs). By AI agents, Wed Nov 11 2026. No macro, syntax, notation, axiom, sorry.
-/
import Derived.Test.YtbdknddgfmoipaaGreatDoorRows
import GoSem.ClaimSeven
namespace Go.Proofs.YtbdknddgfmoipaaGreatDoor
namespace Rows

/-- THE TIED CARD OF 'cuecardtop.TopRecording'. -/
def topRecordingCard : Claim7 := { stood := { row := topRecordingRow, standIns := [], harness := (true, "e26b17dfb34475c3b6a36e82a68045e2a5f86b8a2d312a72cdd2d80180613e31"), looks := true }, kinds := [], alts := [], laidByText := true, laidKinds := [.data, .data, .data, .data, .sentinel, .sentinel, .data, .funcs, .funcs, .pinned], laidTests := true, laidLooks := .later }
def TopRecordingCardSaid : Prop := Claim7.holds Tryz.pinned (.plain (OpenSpec.ofChange topRecordingSpec)) topRecordingCard

/-- THE TIED CARD OF 'cuecardtop.TopSchedules'. -/
def topSchedulesCard : Claim7 := { stood := { row := topSchedulesRow, standIns := [], harness := (true, "e26b17dfb34475c3b6a36e82a68045e2a5f86b8a2d312a72cdd2d80180613e31"), looks := true }, kinds := [], alts := [], laidByText := true, laidKinds := [.data, .data, .data, .data, .sentinel, .sentinel, .data, .funcs, .funcs, .pinned], laidTests := true, laidLooks := .later }
def TopSchedulesCardSaid : Prop := Claim7.holds Tryz.pinned (.plain (OpenSpec.ofChange topSchedulesSpec)) topSchedulesCard

/-- THE TIED CARD OF 'cuecardtop.TopEnds'. -/
def topEndsCard : Claim7 := { stood := { row := topEndsRow, standIns := [], harness := (true, "e26b17dfb34475c3b6a36e82a68045e2a5f86b8a2d312a72cdd2d80180613e31"), looks := true }, kinds := [], alts := [], laidByText := true, laidKinds := [.data, .data, .data, .data, .sentinel, .sentinel, .data, .funcs, .funcs, .pinned], laidTests := true, laidLooks := .later }
def TopEndsCardSaid : Prop := Claim7.holds Tryz.pinned (.plain (OpenSpec.ofChange topEndsSpec)) topEndsCard

/-- THE TIED CARD OF 'cuecardtop.TopHits'. -/
def topHitsCard : Claim7 := { stood := { row := topHitsRow, standIns := [], harness := (true, "e26b17dfb34475c3b6a36e82a68045e2a5f86b8a2d312a72cdd2d80180613e31"), looks := true }, kinds := [], alts := [], laidByText := true, laidKinds := [.data, .data, .data, .data, .sentinel, .sentinel, .data, .funcs, .funcs, .pinned], laidTests := true, laidLooks := .later }
def TopHitsCardSaid : Prop := Claim7.holds Tryz.pinned (.plain (OpenSpec.ofChange topHitsSpec)) topHitsCard

/-- THE SECOND FORM's CARD OF 'cuecardtop.TopRecording'. -/
def topRecordingUptoCard : Claim7 := { stood := { row := topRecordingUptoRow, standIns := [], harness := (true, "e26b17dfb34475c3b6a36e82a68045e2a5f86b8a2d312a72cdd2d80180613e31"), looks := true }, kinds := [], alts := [], laidByText := true, laidKinds := [.data, .data, .data, .data, .sentinel, .sentinel, .data, .funcs, .funcs, .pinned], laidTests := true, laidLooks := .later }
def TopRecordingUptoCardSaid : Prop := Claim7.holds Tryz.pinned (.plain (OpenSpec.upto topRecordingSpec)) topRecordingUptoCard

/-- THE SECOND FORM's CARD OF 'cuecardtop.TopSchedules'. -/
def topSchedulesUptoCard : Claim7 := { stood := { row := topSchedulesUptoRow, standIns := [], harness := (true, "e26b17dfb34475c3b6a36e82a68045e2a5f86b8a2d312a72cdd2d80180613e31"), looks := true }, kinds := [], alts := [], laidByText := true, laidKinds := [.data, .data, .data, .data, .sentinel, .sentinel, .data, .funcs, .funcs, .pinned], laidTests := true, laidLooks := .later }
def TopSchedulesUptoCardSaid : Prop := Claim7.holds Tryz.pinned (.plain (OpenSpec.upto topSchedulesSpec)) topSchedulesUptoCard

/-- THE SECOND FORM's CARD OF 'cuecardtop.TopEnds'. -/
def topEndsUptoCard : Claim7 := { stood := { row := topEndsUptoRow, standIns := [], harness := (true, "e26b17dfb34475c3b6a36e82a68045e2a5f86b8a2d312a72cdd2d80180613e31"), looks := true }, kinds := [], alts := [], laidByText := true, laidKinds := [.data, .data, .data, .data, .sentinel, .sentinel, .data, .funcs, .funcs, .pinned], laidTests := true, laidLooks := .later }
def TopEndsUptoCardSaid : Prop := Claim7.holds Tryz.pinned (.plain (OpenSpec.upto topEndsSpec)) topEndsUptoCard

/-- THE SECOND FORM's CARD OF 'cuecardtop.TopHits'. -/
def topHitsUptoCard : Claim7 := { stood := { row := topHitsUptoRow, standIns := [], harness := (true, "e26b17dfb34475c3b6a36e82a68045e2a5f86b8a2d312a72cdd2d80180613e31"), looks := true }, kinds := [], alts := [], laidByText := true, laidKinds := [.data, .data, .data, .data, .sentinel, .sentinel, .data, .funcs, .funcs, .pinned], laidTests := true, laidLooks := .later }
def TopHitsUptoCardSaid : Prop := Claim7.holds Tryz.pinned (.plain (OpenSpec.upto topHitsSpec)) topHitsUptoCard
end Rows
end Go.Proofs.YtbdknddgfmoipaaGreatDoor
