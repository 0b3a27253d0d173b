import Derived.RangeFuncNested
import Derived.RangeFuncBound
import Derived.RangeFuncCalls
import Derived.RangeFuncLeaves
import Derived.Shelf.Abstract
import Derived.Shelf.RegionOpen
import Derived.WalkKit
import Derived.OwnWalkIn
import Derived.TacticsInMore
import Derived.LoopNIn
import Derived.LoopIn
import Derived.Maps.AppendAt
import Derived.StillTailTactics
import Derived.Lib.Hide
import Derived.Outline
import Derived.Deep.RegionWith
import Derived.Deep.RegionLaw
import Derived.Deep.AppendLies
import Derived.Test.YtokhmpchgkmbeaaQAx1
import Derived.Test.YtokhmpchgkmbeaaQAx2
import Derived.Test.YtokhmpchgkmbeaaGNew
namespace Go.Proofs.Ytokhmpchgkmbeaa.QA
open Go.RowKit Go.Shelf Go.Proofs.YtokhmpchgkmbeaaW.PrintWords Go.Proofs.YtokhmpchgkmbeaaW.PrintLast Go.Proofs.YtokhmpchgkmbeaaW.PrintMore
set_option linter.unusedVariables false
set_option linter.unusedSimpArgs false
/-! ### Reset and At, of a search and of none; Feed of none -/
set_option maxRecDepth 100000 in
set_option maxHeartbeats 1000000 in
theorem reset_int (B : Nat) (vp vb : Value) (p back : List Int) (at_ : Int) (w : World) (hs : Srch w B vp vb p back at_) (hB1 : some B ≠ vp.ownBlock) (hB2 : some B ≠ vb.ownBlock) :
    Calls Try.prog 18 #[.pointer (some ⟨B, 0, none⟩)] w fun e w' => e = .returned (.tuple #[]) ∧ Srch w' B vp vb p back 0 ∧ w.grownBy w' (some B) := by
  obtain ⟨hs2, hg2⟩ := srch_set hs hB1 hB2 0 0
  have hfz : w.frozen? ⟨B, 2, none⟩ = false := by simp [World.frozen?, hs.1]
  have hx2 : w.cell? ⟨B, 2, none⟩ = some (.int .i64 at_) := by simp [World.cell?, hs.1]
  have HS2 := Lib.hid hs2
  have HG2 := Lib.hid hg2
  clear hs2 hg2 hs
  go_enter Try.func18, Try.ntmps18
  go_wp2
  refine bodyPost_end (results_none rfl _ _ _) rfl ?_
  exact ⟨rfl, HS2.out, HG2.out⟩
set_option maxRecDepth 100000 in
set_option maxHeartbeats 1000000 in
theorem reset_none (w : World) : Calls Try.prog 18 #[.pointer none] w fun e w' => e = .returned (.tuple #[]) ∧ w' = w := by
  go_enter Try.func18, Try.ntmps18
  go_wp2
  refine bodyPost_end (results_none rfl _ _ _) rfl ?_
  exact ⟨rfl, rfl⟩
set_option maxRecDepth 100000 in
set_option maxHeartbeats 1000000 in
theorem feed_none (x : Int) (w : World) : Calls Try.prog 17 #[.pointer none, .int .i64 x] w fun e w' => e = .returned (.bool false) ∧ w' = w := by
  go_enter Try.func17, Try.ntmps17
  go_wp2
  go_ret
  exact ⟨rfl, rfl⟩
set_option maxRecDepth 100000 in
set_option maxHeartbeats 1000000 in
theorem at_none (w : World) : Calls Try.prog 25 #[.pointer none] w fun e w' => e = .returned (.int .i64 0) ∧ w' = w := by
  go_enter Try.func25, Try.ntmps25
  go_wp2
  go_ret
  exact ⟨rfl, rfl⟩
set_option maxRecDepth 100000 in
set_option maxHeartbeats 1000000 in
theorem at_int (B : Nat) (vp vb : Value) (p back : List Int) (at_ : Int) (w : World) (hs : Srch w B vp vb p back at_) :
    Calls Try.prog 25 #[.pointer (some ⟨B, 0, none⟩)] w fun e w' => e = .returned (.int .i64 at_) ∧ w' = w := by
  have hx2 : w.cell? ⟨B, 2, none⟩ = some (.int .i64 at_) := by simp [World.cell?, hs.1]
  clear hs
  go_enter Try.func25, Try.ntmps25
  go_wp2
  go_ret
  exact ⟨rfl, rfl⟩
set_option maxRecDepth 100000 in
set_option maxHeartbeats 1000000 in
theorem at_byte (B : Nat) (vp vb : Value) (p back : List Int) (at_ : Int) (w : World) (hs : w.heap[B]? = some (.cells #[vp, vb, .int .i64 at_] 55 (0, 0))) :
    Calls Try.prog 24 #[.pointer (some ⟨B, 0, none⟩)] w fun e w' => e = .returned (.int .i64 at_) ∧ w' = w := by
  have hx2 : w.cell? ⟨B, 2, none⟩ = some (.int .i64 at_) := by simp [World.cell?, hs]
  clear hs
  go_enter Try.func24, Try.ntmps24
  go_wp2
  go_ret
  exact ⟨rfl, rfl⟩
end Go.Proofs.Ytokhmpchgkmbeaa.QA
