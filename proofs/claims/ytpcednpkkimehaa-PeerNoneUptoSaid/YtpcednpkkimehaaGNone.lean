import Derived.RangeFuncNested
import Derived.RangeFuncBound
import Derived.RangeFuncCalls
import Derived.RangeFuncLeaves
import Derived.Shelf.Abstract
import Derived.Shelf.RegionOpen
import Derived.WalkKit
import Derived.OwnWalkIn
import Derived.TacticsInMore
import Derived.LoopNIn
import Derived.LoopIn
import Derived.Maps.AppendAt
import Derived.StillTailTactics
import Derived.Lib.Hide
import Derived.Lib.LazyBuf
import Derived.Outline
import Derived.Deep.RegionWith
import Derived.Deep.RegionLaw
import Derived.Deep.AppendLies
import Derived.CallsIn
import Derived.Lib.SmallJoins
import Derived.Laws.EntriesVeiled
import Derived.Deep.RegionHeld3
import Derived.BigRegion
import Derived.BigQuiet
import Derived.Test.YtpcednpkkimehaaPPl
import Derived.Test.YtpcednpkkimehaaGAlive
namespace Go.Proofs.Ytpcednpkkimehaa.QA
open Go.RowKit Go.Shelf Go.Proofs.YtpcednpkkimehaaW.PrintWords Go.Proofs.YtpcednpkkimehaaW.PrintLast Go.Proofs.YtpcednpkkimehaaW.PrintMore
attribute [local go_sem] max2_int min2_int max_two min_two max_three min_three max_four min_four   -- for this text's walks alone
set_option linter.unusedVariables false
set_option linter.unusedSimpArgs false
/-! ### no peer -/
section
variable {W : World}
set_option maxRecDepth 100000
theorem nil_Hear (A : Option Addr) (n c : Nat) : Calls Try.prog 13 #[.pointer none, .slice A n c] W fun e W' => (∃ v, e = .returned v) ∧ W' = W := by
  go_enter Try.func13, Try.ntmps13
  go_wp2
  refine bodyPost_ret (results_none rfl _ _ _) rfl ?_
  exact ⟨⟨_, rfl⟩, rfl⟩
theorem nil_Due : Calls Try.prog 15 #[.pointer none] W fun e W' => e = .returned (.int .i64 0) ∧ W' = W := by
  go_enter Try.func15, Try.ntmps15
  go_wp2
  go_ret
  exact ⟨rfl, rfl⟩
theorem nil_Peek (n : Int) : Calls Try.prog 23 #[.pointer none, .int .i64 n] W fun e W' => e = .returned (.slice none 0 0) ∧ W' = W := by
  have hmin : (if (0 : Int) < n then (0 : Int) else n) = min n 0 := by split <;> omega
  have hlt : (min n 0 < 1) = True := eq_true (by omega)
  generalize min n 0 = m at hmin hlt
  go_enter Try.func23, Try.ntmps23
  go_wp2_with (go_at_call 15; refine nil_Due.mono ?_; rintro e w' ⟨rfl, rfl⟩)
  go_ret
  exact ⟨rfl, rfl⟩
theorem nil_Say (n : Int) : Calls Try.prog 14 #[.pointer none, .int .i64 n] W fun e W' => e = .returned (.slice none 0 0) ∧ W' = W := by
  go_enter Try.func14, Try.ntmps14
  go_wp2_with (go_at_call 23; refine (nil_Peek n).mono ?_; rintro e w' ⟨rfl, rfl⟩)
  go_ret
  exact ⟨rfl, rfl⟩
theorem nil_Over : Calls Try.prog 17 #[.pointer none] W fun e W' => e = .returned (.bool false) ∧ ∃ n, W' = W.drewN n := by
  go_enter Try.func17, Try.ntmps17
  go_wp2
  go_quiet (fail)
  go_wp2
  go_ret
  exact ⟨rfl, _, rfl⟩
theorem nil_Right : Calls Try.prog 16 #[.pointer none] W fun e W' => e = .returned (.bool false) ∧ W' = W := by
  go_enter Try.func16, Try.ntmps16
  go_wp2
  go_ret
  exact ⟨rfl, rfl⟩
theorem nil_Said : Calls Try.prog 28 #[.pointer none] W fun e W' => e = .returned (.int .i64 0) ∧ W' = W := by
  go_enter Try.func28, Try.ntmps28
  go_wp2
  go_ret
  exact ⟨rfl, rfl⟩
theorem nil_Heard : Calls Try.prog 20 #[.pointer none] W fun e W' => e = .returned (.int .i64 0) ∧ W' = W := by
  go_enter Try.func20, Try.ntmps20
  go_wp2
  go_ret
  exact ⟨rfl, rfl⟩
set_option maxHeartbeats 2000000 in
theorem peerNone_walk (n : Int) (A : Option Addr) (k c : Nat) : Calls Try.prog 8 #[.int .i64 n, .slice A k c] W fun e W' => e = .returned (.bool true) ∧ Below W.heap.size W W' := by
  go_enter Try.func8, Try.ntmps8
  go_wp2_with (first
    | (go_at_call 13; refine (nil_Hear A k c).mono ?_; rintro e w' ⟨⟨v, rfl⟩, rfl⟩)
    | (go_at_call 9; refine (cuecardlaw20_aliveT _).mono ?_; rintro e w1 ⟨rfl, hB⟩)
    | (go_at_call 15; refine nil_Due.mono ?_; rintro e w' ⟨rfl, rfl⟩)
    | (go_at_call 23; refine (nil_Peek n).mono ?_; rintro e w' ⟨rfl, rfl⟩)
    | (go_at_call 14; refine (nil_Say n).mono ?_; rintro e w' ⟨rfl, rfl⟩)
    | (go_at_call 17; refine nil_Over.mono ?_; rintro e w' ⟨rfl, nd, rfl⟩)
    | (go_at_call 16; refine nil_Right.mono ?_; rintro e w' ⟨rfl, rfl⟩)
    | (go_at_call 28; refine nil_Said.mono ?_; rintro e w' ⟨rfl, rfl⟩)
    | (go_at_call 20; refine nil_Heard.mono ?_; rintro e w' ⟨rfl, rfl⟩))
  go_ret
  refine ⟨rfl, ?_⟩
  first | exact hB | exact pw_below_drewN hB _
end
end Go.Proofs.Ytpcednpkkimehaa.QA
