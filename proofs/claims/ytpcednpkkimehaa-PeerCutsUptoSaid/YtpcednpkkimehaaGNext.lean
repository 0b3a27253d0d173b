import Derived.RangeFuncNested
import Derived.RangeFuncBound
import Derived.RangeFuncCalls
import Derived.RangeFuncLeaves
import Derived.Shelf.Abstract
import Derived.Shelf.RegionOpen
import Derived.WalkKit
import Derived.OwnWalkIn
import Derived.TacticsInMore
import Derived.LoopNIn
import Derived.LoopIn
import Derived.Maps.AppendAt
import Derived.StillTailTactics
import Derived.Lib.Hide
import Derived.Lib.LazyBuf
import Derived.Outline
import Derived.Deep.RegionWith
import Derived.Deep.RegionLaw
import Derived.Deep.AppendLies
import Derived.CallsIn
import Derived.Lib.SmallJoins
import Derived.Laws.EntriesVeiled
import Derived.Deep.RegionHeld3
import Derived.BigRegion
import Derived.BigQuiet
import Derived.Test.YtpcednpkkimehaaPPl
import Derived.Test.YtpcednpkkimehaaGAlive
namespace Go.Proofs.Ytpcednpkkimehaa.QA
open Go.RowKit Go.Shelf Go.Proofs.YtpcednpkkimehaaW.PrintWords Go.Proofs.YtpcednpkkimehaaW.PrintLast Go.Proofs.YtpcednpkkimehaaW.PrintMore
attribute [local go_sem] max2_int min2_int max_two min_two max_three min_three max_four min_four   -- for this text's walks alone
set_option linter.unusedVariables false
set_option linter.unusedSimpArgs false
/-! ### the next bytes that a user said -/
def nxt (inn : List Int) (heard : Nat) (n : Int) : List Int := (inn.drop heard).take (max 0 (min n 1000)).toNat
set_option maxRecDepth 100000 in
set_option maxHeartbeats 1000000 in
theorem next_c (inn : List Int) (heard : Nat) (n : Int) (hi : inn.length ≤ 1048576) (hh : heard ≤ 4294967296) (A : Option Addr) (c : Nat) (ok : Nat → Prop) (W : World) (hF : Kd.F (Kd.int .u8) W ok A inn.length inn) (hc : inn.length ≤ c) :
    Calls Try.prog 19 #[.slice A inn.length c, .int .i64 heard, .int .i64 n] W fun e W' => ∃ A' c', e = .returned (.slice A' (nxt inn heard n).length c') ∧ (nxt inn heard n).length ≤ c' ∧ Kd.F (Kd.int .u8) W ok A' (nxt inn heard n).length (nxt inn heard n) ∧ W' = W := by
  obtain ⟨m, hm⟩ : ∃ m : Nat, m = (max 0 (min n 1000)).toNat := ⟨_, rfl⟩
  have hm1 : (m : Int) = max 0 (min n 1000) := by omega
  have hy : (inn.take (min inn.length (min heard inn.length + m))).drop (min heard inn.length) = nxt inn heard n := by
    unfold nxt
    rw [← hm, List.drop_take]
    rcases Nat.le_total heard inn.length with h | h
    · rw [Nat.min_eq_left h]
      rcases Nat.le_total (heard + m) inn.length with h2 | h2
      · rw [Nat.min_eq_right h2, Nat.add_sub_cancel_left]
      · rw [Nat.min_eq_left h2, List.take_of_length_le (by rw [List.length_drop]; omega), List.take_of_length_le (by rw [List.length_drop]; omega)]
    · rw [Nat.min_eq_right h, List.drop_eq_nil_of_le (Nat.le_refl _), List.drop_eq_nil_of_le h]
      simp
  obtain ⟨A', hC, hF', hO⟩ := bytes_mid (ys := nxt inn heard n) (lo := min heard inn.length) (hi := min inn.length (min heard inn.length + m)) (x := ((min inn.length (min heard inn.length + m) : Nat) : Int)) hF hc (by omega) (by omega) rfl hy
  generalize hlo : min heard inn.length = lo at hC hO hy
  generalize hhi : min inn.length (lo + m) = up at hC hy
  have e1 : (if inn.length < heard then (inn.length : Int) else (heard : Int)) = (lo : Int) := by split <;> omega
  obtain ⟨n1, hn1⟩ : ∃ n1, n1 = min n 1000 := ⟨_, rfl⟩
  have e2 : (if (1000 : Int) < n then (1000 : Int) else n) = n1 := by split <;> omega
  have e3 : (if (0 : Int) < n1 then n1 else (0 : Int)) = (m : Int) := by split <;> omega
  have e4 : (if (lo : Int) + (m : Int) < (inn.length : Int) then (lo : Int) + (m : Int) else (inn.length : Int)) = (up : Int) := by split <;> omega
  have hlo' : lo ≤ 1048576 := by omega
  have hm' : m ≤ 1000 := by omega
  generalize nxt inn heard n = ys at hC hF' hO hy ⊢
  have HF := Lib.hid hF'
  have HO := Lib.hid hO
  clear hF' hO hy hF hm hm1 hlo hhi hn1 hi hc
  go_enter Try.func19, Try.ntmps19
  go_wp2
  go_ret
  exact ⟨_, _, rfl, HO.out, HF.out, rfl⟩
end Go.Proofs.Ytpcednpkkimehaa.QA
