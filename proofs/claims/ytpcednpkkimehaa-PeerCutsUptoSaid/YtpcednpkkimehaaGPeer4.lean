import Derived.RangeFuncNested
import Derived.RangeFuncBound
import Derived.RangeFuncCalls
import Derived.RangeFuncLeaves
import Derived.Shelf.Abstract
import Derived.Shelf.RegionOpen
import Derived.WalkKit
import Derived.OwnWalkIn
import Derived.TacticsInMore
import Derived.LoopNIn
import Derived.LoopIn
import Derived.Maps.AppendAt
import Derived.StillTailTactics
import Derived.Lib.Hide
import Derived.Lib.LazyBuf
import Derived.Outline
import Derived.Deep.RegionWith
import Derived.Deep.RegionLaw
import Derived.Deep.AppendLies
import Derived.CallsIn
import Derived.BigRegion
import Derived.BigQuiet
import Derived.Test.YtpcednpkkimehaaPPl
import Derived.Test.YtpcednpkkimehaaGPeer3
namespace Go.Proofs.Ytpcednpkkimehaa.QA
open Go.RowKit Go.Shelf Go.Proofs.YtpcednpkkimehaaW.PrintWords Go.Proofs.YtpcednpkkimehaaW.PrintLast Go.Proofs.YtpcednpkkimehaaW.PrintMore
attribute [local go_sem] max2_int min2_int max_two min_two max_three min_three max_four min_four   -- for this text's walks alone
set_option linter.unusedVariables false
set_option linter.unusedSimpArgs false
/-- a quiet walk at one world is a still one -/
theorem still_of_quiet {P : Program} {ops : Array Oper} {w : World} {Q : Act → Prop} : ∀ (l : List Oper) (a : Act), wpQuiet P ops (fun w' => w' = w) Q l a → wpStill P ops w Q l a
  | [], a, h => h
  | o :: rest, a, h => by
    unfold wpQuiet at h
    unfold wpStill
    split
    · rename_i hw
      rw [if_pos hw] at h
      obtain ⟨v, h1, h2⟩ := h
      have h1 := h1 w rfl
      have h2 := still_of_quiet rest _ h2
      unfold Oper.quietAt at h1
      unfold Oper.still
      generalize (execOp a.eval o).run P w = r at *
      cases r with
      | ok n w' =>
        cases n <;> simp only [Oper.quietUpon] at h1 <;> simp only [Oper.stillUpon]
        · exact ⟨h1.1, h1.2 ▸ h2⟩
        · exact ⟨h1.1, h1.2 ▸ h2⟩
        · exact ⟨h1.1, v, h1.2, h2⟩
      | halt x w' => simp only [Oper.quietUpon] at h1
    · rename_i hw
      rw [if_neg hw] at h
      exact still_of_quiet rest _ h
def Pz.hear (s : Pz) (c : Pc) (b : List Int) : Pz := { s with heard := s.heard + b.length, right := s.right && (decide (b.length + s.heard ≤ c.inn.length) && ((strOfNums b).toList == (strOfNums ((c.inn.drop s.heard).take b.length)).toList)) }
set_option maxRecDepth 100000 in
/-- bytes.Equal turns nothing -/
theorem equal_c (A0 : Option Addr) (c0 : Nat) (l0 : List Int) (A1 : Option Addr) (c1 : Nat) (l1 : List Int) (w : World) (hr0 : Kd.C (Kd.int .u8) w A0 l0.length l0) (hr1 : Kd.C (Kd.int .u8) w A1 l1.length l1) :
    Calls Try.prog 34 #[.slice A0 l0.length c0, .slice A1 l1.length c1] w fun e w' => e = .returned (.bool ((strOfNums l0).toList == (strOfNums l1).toList)) ∧ w' = w := by
  have h0 := Kd.C_string (P := Try.prog) (A := A0) (c := c0) Try.underlying31 Try.underlying5 Try.underlying9 hr0
  have h1 := Kd.C_string (P := Try.prog) (A := A1) (c := c1) Try.underlying31 Try.underlying5 Try.underlying9 hr1
  clear hr0 hr1
  go_enter Try.func34, Try.ntmps34
  go_wp2
  go_ret
  exact ⟨rfl, rfl⟩
set_option maxRecDepth 100000 in
set_option maxHeartbeats 4000000 in
theorem peer_Hear {W : World} {ok : Nat → Prop} {a : Pa} {c : Pc} {s : Pz} (h : PeAt W ok a c s) (hi : c.inn.length ≤ 1048576) (hh : s.heard ≤ 4294967296) (A : Option Addr) (cb : Nat) (b : List Int) (hC : Kd.C (Kd.int .u8) W A b.length b) (hb : b.length ≤ 4294967296) :
    Calls Try.prog 13 #[.pointer (some ⟨a.B, 0, none⟩), .slice A b.length cb] W fun e W' => (∃ v, e = .returned v) ∧ PeAt W' ok a c (s.hear c b) ∧ W.grownBy W' (some a.B) := by
  have hlt := h.lt
  have HP := Lib.hid h
  have HC := Lib.hid hC
  have he : ∀ r, (a.cells c s).setIfInBounds 6 (.bool r) = a.cells c { s with right := r } := fun m => rfl
  have he2 : ∀ (r : Bool) (m : Nat), (a.cells c { s with right := r }).setIfInBounds 5 (.int .i64 (m : Int)) = a.cells c { s with right := r, heard := m } := fun _ _ => rfl
  -- what is left behind, the answer being r
  have HD := Lib.hid (show ∀ r : Bool, PeAt ((W.drew.setCell ⟨a.B, 6, none⟩ (.bool r)).setCell ⟨a.B, 5, none⟩ (.int .i64 ((s.heard : Int) + (b.length : Int)))) ok a c { s with right := r, heard := s.heard + b.length } ∧ W.grownBy ((W.drew.setCell ⟨a.B, 6, none⟩ (.bool r)).setCell ⟨a.B, 5, none⟩ (.int .i64 ((s.heard : Int) + (b.length : Int)))) (some a.B) from fun r => by
    obtain ⟨p1, g1⟩ := h.drew.set 6 _ _ (he r)
    obtain ⟨p2, g2⟩ := p1.set 5 _ _ (he2 r (s.heard + b.length))
    rw [Int.natCast_add] at p2 g2
    exact ⟨p2, grown_below (below_drew (Below.refl _ _)) (g1.trans g2)⟩)
  obtain ⟨g0, g1, g2, g3, g4, g5, g6⟩ := h.cells
  have f6 := h.frozen 6
  have f5 := h.frozen 5
  have q5 : ∀ r, (W.drew.setCell ⟨a.B, 6, none⟩ (.bool r)).cell? ⟨a.B, 5, none⟩ = some (.int .i64 s.heard) := fun r => (h.drew.set 6 _ _ (he r)).1.cell 5
  have r5 : ∀ r, (W.drew.setCell ⟨a.B, 6, none⟩ (.bool r)).frozen? ⟨a.B, 5, none⟩ = false := fun r => (h.drew.set 6 _ _ (he r)).1.frozen 5
  have Q5 := Lib.hid q5
  have R5 := Lib.hid r5
  clear g0 g2 g3 g4 h hC he he2 q5 r5
  unfold Pz.hear
  by_cases hr : s.right = true
  · rw [hr] at g6
    by_cases hle : b.length + s.heard ≤ c.inn.length
    · have hle' : decide ((b.length : Int) ≤ (c.inn.length : Int) - (s.heard : Int)) = true := decide_eq_true (by omega)
      rw [hr, decide_eq_true hle]
      simp only [Bool.true_and]
      obtain ⟨ys, hys⟩ : ∃ ys, ys = (c.inn.drop s.heard).take b.length := ⟨_, rfl⟩
      obtain ⟨A', hC', hF', hO'⟩ := bytes_mid (ys := ys) (lo := s.heard) (hi := s.heard + b.length) (x := (s.heard : Int) + (b.length : Int)) HP.out.fi HP.out.li (by omega) (by omega) (by omega) (by rw [hys, List.drop_take, Nat.add_sub_cancel_left])
      rw [← hys]
      have HF := Lib.hid (Kd.C_drew (Kd.F_now hF'))
      have HX := Lib.hid (Kd.C_drew HC.out)
      have hE := equal_c A cb b A' (a.ci - s.heard) ys W.drew HX.out HF.out
      generalize ((strOfNums b).toList == (strOfNums ys).toList) = r at hE ⊢
      have HE := Lib.hid hE
      clear hF' hO' hys hE
      have hcut := hC'
      go_enter Try.func13, Try.ntmps13
      go_wp2
      refine wp_region_still_tail 42 (by kernel_rfl) (by kernel_rfl) ?_
      simp only [List.take_succ_cons, List.take_zero, List.drop_succ_cons, List.drop_zero]
      refine still_of_quiet _ _ ?_
      repeat (go_big_quiet_step (fail))
      go_big_quiet_want
      go_big_quiet_op
      refine ⟨_, HE.out, ?_⟩
      go_big_quiet_on
      repeat (go_big_quiet_step (fail))
      refine wpQuiet_nil ?_
      change wpList _ _ _ _ _ W.drew
      have q5 := Q5.out r
      have r5 := R5.out r
      go_wp2
      go_end0
      exact ⟨⟨_, rfl⟩, HD.out r⟩
    · have hle' : decide ((b.length : Int) ≤ (c.inn.length : Int) - (s.heard : Int)) = false := decide_eq_false (by omega)
      rw [decide_eq_false hle]
      simp only [Bool.false_and, Bool.and_false]
      go_enter Try.func13, Try.ntmps13
      go_wp2
      refine wp_region_still_tail 42 (by kernel_rfl) (by kernel_rfl) ?_
      simp only [List.take_succ_cons, List.take_zero, List.drop_succ_cons, List.drop_zero]
      refine still_of_quiet _ _ ?_
      repeat (go_big_quiet_step (fail))
      refine wpQuiet_nil ?_
      change wpList _ _ _ _ _ W.drew
      have q5 := Q5.out false
      have r5 := R5.out false
      go_wp2
      go_end0
      exact ⟨⟨_, rfl⟩, HD.out false⟩
  · rw [Bool.not_eq_true] at hr
    rw [hr] at g6 ⊢
    simp only [Bool.false_and]
    go_enter Try.func13, Try.ntmps13
    go_wp2
    refine wp_region_still_tail 42 (by kernel_rfl) (by kernel_rfl) ?_
    simp only [List.take_succ_cons, List.take_zero, List.drop_succ_cons, List.drop_zero]
    refine still_of_quiet _ _ ?_
    repeat (go_big_quiet_step (fail))
    refine wpQuiet_nil ?_
    change wpList _ _ _ _ _ W.drew
    have q5 := Q5.out false
    have r5 := R5.out false
    go_wp2
    go_end0
    exact ⟨⟨_, rfl⟩, HD.out false⟩
end Go.Proofs.Ytpcednpkkimehaa.QA
