import Derived.RangeFuncNested
import Derived.RangeFuncBound
import Derived.RangeFuncCalls
import Derived.RangeFuncLeaves
import Derived.Shelf.Abstract
import Derived.Shelf.RegionOpen
import Derived.WalkKit
import Derived.OwnWalkIn
import Derived.TacticsInMore
import Derived.LoopNIn
import Derived.LoopIn
import Derived.Maps.AppendAt
import Derived.StillTailTactics
import Derived.Lib.Hide
import Derived.Lib.LazyBuf
import Derived.Outline
import Derived.Deep.RegionWith
import Derived.Deep.RegionLaw
import Derived.Deep.AppendLies
import Derived.CallsIn
import Derived.Test.YtpcednpkkimehaaPPl
import Derived.Test.YtpcednpkkimehaaGPeer2
namespace Go.Proofs.Ytpcednpkkimehaa.QA
open Go.RowKit Go.Shelf Go.Proofs.YtpcednpkkimehaaW.PrintWords Go.Proofs.YtpcednpkkimehaaW.PrintLast Go.Proofs.YtpcednpkkimehaaW.PrintMore
attribute [local go_sem] max2_int min2_int max_two min_two max_three min_three max_four min_four   -- for this text's walks alone
set_option linter.unusedVariables false
set_option linter.unusedSimpArgs false
def Pz.say (s : Pz) (c : Pc) (n : Int) : Pz := { s with said := s.said + (s.peek c n).length }
theorem peek_len {s : Pz} {c : Pc} (hd2 : due s.heard 0 0 c.l ≤ c.out.length) (n : Int) : (s.peek c n).length ≤ due s.heard 0 0 c.l - s.said := by
  unfold Pz.peek
  rw [List.length_take, List.length_drop]
  omega
theorem grown_below {W W1 W2 : World} {row : Option Nat} (h : Below W.heap.size W W1) (g : W1.grownBy W2 row) : W.grownBy W2 row :=
  ⟨g.os.trans h.os, g.tape.trans h.tape, g.output.trans h.output, Nat.le_trans h.size g.size, fun k hk hr => (g.block k (Nat.lt_of_lt_of_le hk h.size) hr).trans (h.block k hk)⟩
theorem below_of_grown {W W1 : World} (g : W.grownBy W1 none) : Below W.heap.size W W1 := ⟨g.os, g.tape, g.output, g.size, fun k hk => g.block k hk (by intro e; cases e)⟩
set_option maxRecDepth 100000 in
set_option maxHeartbeats 4000000 in
theorem peer_Say {W : World} {ok : Nat → Prop} {a : Pa} {c : Pc} {s : Pz} (h : PeAt W ok a c s) (hs : small c.l) (hd : s.said ≤ due s.heard 0 0 c.l) (hd2 : due s.heard 0 0 c.l ≤ c.out.length) (hd3 : c.out.length ≤ 1048576) (n : Int) :
    Calls Try.prog 14 #[.pointer (some ⟨a.B, 0, none⟩), .int .i64 n] W fun e W' => ∃ v, e = .returned v ∧ Kd.R (Kd.int .u8) 5 W' W.heap.size (fun _ => True) v (s.peek c n) ∧ PeAt W' ok a c (s.say c n) ∧ W.grownBy W' (some a.B) := by
  have hlt := h.lt
  have hn := peek_len hd2 (s := s) n
  have HP := Lib.hid h
  have HS := Lib.hid hs
  have he : ∀ m, (a.cells c s).setIfInBounds 4 (.int .i64 ((s.said + m : Nat) : Int)) = a.cells c { s with said := s.said + m } := fun m => rfl
  have HE := Lib.hid he
  unfold Pz.say
  generalize hys : s.peek c n = ys at *
  clear h hs he
  by_cases hp : 0 < ys.length
  · have hp' := eq_true hp
    have hw : IntKind.i64.wrap ((s.said : Int) + (ys.length : Int)) = ((s.said + ys.length : Nat) : Int) := by rw [i64_w]; unfold wrap64; omega
    go_enter Try.func14, Try.ntmps14
    go_wp2_with (go_at_call 23; refine (peer_Peek HP.out HS.out hd hd2 hd3 n).mono ?_; rintro e w1 ⟨v, rfl, hR, hB⟩; rw [hys] at hR; have HP1 := Lib.hid (HP.out.below hB); obtain ⟨A, cv, rfl⟩ := Kd.R_slice hR; have HR := Lib.hid hR; have HB := Lib.hid hB; obtain ⟨g0, g1, g2, g3, g4, g5, g6⟩ := HP1.out.cells; have f4 := HP1.out.frozen 4; clear hR hB g0 g1 g2 g3 g5 g6)
    go_ret
    obtain ⟨hp2, hg2⟩ := HP1.out.set 4 _ _ (HE.out ys.length)
    refine ⟨_, rfl, ?_, hp2, grown_below HB.out hg2⟩
    exact Kd.R_set HR.out HP1.out.blk (by decide) 4 _
  · have hp' := eq_false hp
    go_enter Try.func14, Try.ntmps14
    go_wp2_with (go_at_call 23; refine (peer_Peek HP.out HS.out hd hd2 hd3 n).mono ?_; rintro e w1 ⟨v, rfl, hR, hB⟩; rw [hys] at hR; have HP1 := Lib.hid (HP.out.below hB); obtain ⟨A, cv, rfl⟩ := Kd.R_slice hR; have HR := Lib.hid hR; have HB := Lib.hid hB; obtain ⟨g0, g1, g2, g3, g4, g5, g6⟩ := HP1.out.cells; have f4 := HP1.out.frozen 4; clear hR hB g0 g1 g2 g3 g5 g6)
    go_ret
    refine ⟨_, rfl, HR.out, ?_, grown_below HB.out (World.grownBy.refl _ _)⟩
    rw [show s.said + ys.length = s.said by omega]
    exact HP1.out
end Go.Proofs.Ytpcednpkkimehaa.QA
