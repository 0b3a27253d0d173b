import Derived.RangeFuncNested
import Derived.RangeFuncBound
import Derived.RangeFuncCalls
import Derived.RangeFuncLeaves
import Derived.Shelf.Abstract
import Derived.Shelf.RegionOpen
import Derived.WalkKit
import Derived.OwnWalkIn
import Derived.TacticsInMore
import Derived.LoopNIn
import Derived.LoopIn
import Derived.Maps.AppendAt
import Derived.StillTailTactics
import Derived.Lib.Hide
import Derived.Lib.LazyBuf
import Derived.Outline
import Derived.Deep.RegionWith
import Derived.Deep.RegionLaw
import Derived.Deep.AppendLies
import Derived.CallsIn
import Derived.BigRegion
import Derived.BigQuiet
import Derived.Test.YtpcednpkkimehaaPPl
import Derived.Test.YtpcednpkkimehaaGPeer4
namespace Go.Proofs.Ytpcednpkkimehaa.QA
open Go.RowKit Go.Shelf Go.Proofs.YtpcednpkkimehaaW.PrintWords Go.Proofs.YtpcednpkkimehaaW.PrintLast Go.Proofs.YtpcednpkkimehaaW.PrintMore
attribute [local go_sem] max2_int min2_int max_two min_two max_three min_three max_four min_four   -- for this text's walks alone
set_option linter.unusedVariables false
set_option linter.unusedSimpArgs false
def Pz.over (s : Pz) (c : Pc) : Bool := c.fin && (decide (s.said = c.out.length) && decide (c.inn.length ≤ s.heard))
set_option maxRecDepth 100000 in
set_option maxHeartbeats 1000000 in
theorem peer_Right {W : World} {ok : Nat → Prop} {a : Pa} {c : Pc} {s : Pz} (h : PeAt W ok a c s) :
    Calls Try.prog 16 #[.pointer (some ⟨a.B, 0, none⟩)] W fun e W' => e = .returned (.bool s.right) ∧ Below W.heap.size W W' := by
  obtain ⟨g0, g1, g2, g3, g4, g5, g6⟩ := h.cells
  clear h g0 g1 g2 g3 g4 g5
  go_enter Try.func16, Try.ntmps16
  go_wp2
  go_ret
  exact ⟨rfl, Below.refl _ _⟩
set_option maxRecDepth 100000 in
set_option maxHeartbeats 1000000 in
theorem peer_Said {W : World} {ok : Nat → Prop} {a : Pa} {c : Pc} {s : Pz} (h : PeAt W ok a c s) :
    Calls Try.prog 28 #[.pointer (some ⟨a.B, 0, none⟩)] W fun e W' => e = .returned (.int .i64 (s.said : Int)) ∧ Below W.heap.size W W' := by
  obtain ⟨g0, g1, g2, g3, g4, g5, g6⟩ := h.cells
  clear h g0 g1 g2 g3 g5 g6
  go_enter Try.func28, Try.ntmps28
  go_wp2
  go_ret
  exact ⟨rfl, Below.refl _ _⟩
set_option maxRecDepth 100000 in
set_option maxHeartbeats 1000000 in
theorem peer_Heard {W : World} {ok : Nat → Prop} {a : Pa} {c : Pc} {s : Pz} (h : PeAt W ok a c s) :
    Calls Try.prog 20 #[.pointer (some ⟨a.B, 0, none⟩)] W fun e W' => e = .returned (.int .i64 (s.heard : Int)) ∧ Below W.heap.size W W' := by
  obtain ⟨g0, g1, g2, g3, g4, g5, g6⟩ := h.cells
  clear h g0 g1 g2 g3 g4 g6
  go_enter Try.func20, Try.ntmps20
  go_wp2
  go_ret
  exact ⟨rfl, Below.refl _ _⟩
set_option maxRecDepth 100000 in
set_option maxHeartbeats 4000000 in
theorem peer_Over {W : World} {ok : Nat → Prop} {a : Pa} {c : Pc} {s : Pz} (h : PeAt W ok a c s) :
    Calls Try.prog 17 #[.pointer (some ⟨a.B, 0, none⟩)] W fun e W' => e = .returned (.bool (s.over c)) ∧ Below W.heap.size W W' := by
  obtain ⟨g0, g1, g2, g3, g4, g5, g6⟩ := h.cells
  clear h g2 g6
  unfold Pz.over
  by_cases h1 : c.fin = true
  · rw [h1] at g3 ⊢
    by_cases h2 : s.said = c.out.length
    · have hd : ((s.said : Int) == (c.out.length : Int)) = true := beq_iff_eq.mpr (by omega)
      rw [decide_eq_true h2]
      have H2 := Lib.hid h2
      clear h1 h2
      go_enter Try.func17, Try.ntmps17
      go_wp2
      go_quiet (fail)
      go_wp2
      go_ret
      exact ⟨by simp, pw_below_drewN (Below.refl _ _) _⟩
    · have hd : ((s.said : Int) == (c.out.length : Int)) = false := beq_eq_false_iff_ne.mpr (by omega)
      have hd' : (s.said == c.out.length) = false := beq_eq_false_iff_ne.mpr h2
      rw [decide_eq_false h2]
      have H2 := Lib.hid h2
      clear h1 h2
      go_enter Try.func17, Try.ntmps17
      go_wp2
      go_quiet (fail)
      go_wp2
      go_ret
      exact ⟨by simp, pw_below_drewN (Below.refl _ _) _⟩
  · rw [Bool.not_eq_true] at h1
    rw [h1] at g3 ⊢
    clear h1
    go_enter Try.func17, Try.ntmps17
    go_wp2
    go_quiet (fail)
    go_wp2
    go_ret
    exact ⟨rfl, pw_below_drewN (Below.refl _ _) _⟩
end Go.Proofs.Ytpcednpkkimehaa.QA
