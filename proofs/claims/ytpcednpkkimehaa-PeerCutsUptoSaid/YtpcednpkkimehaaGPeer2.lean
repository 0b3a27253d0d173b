import Derived.RangeFuncNested
import Derived.RangeFuncBound
import Derived.RangeFuncCalls
import Derived.RangeFuncLeaves
import Derived.Shelf.Abstract
import Derived.Shelf.RegionOpen
import Derived.WalkKit
import Derived.OwnWalkIn
import Derived.TacticsInMore
import Derived.LoopNIn
import Derived.LoopIn
import Derived.Maps.AppendAt
import Derived.StillTailTactics
import Derived.Lib.Hide
import Derived.Lib.LazyBuf
import Derived.Outline
import Derived.Deep.RegionWith
import Derived.Deep.RegionLaw
import Derived.Deep.AppendLies
import Derived.CallsIn
import Derived.Test.YtpcednpkkimehaaPPl
import Derived.Test.YtpcednpkkimehaaGPeer
namespace Go.Proofs.Ytpcednpkkimehaa.QA
open Go.RowKit Go.Shelf Go.Proofs.YtpcednpkkimehaaW.PrintWords Go.Proofs.YtpcednpkkimehaaW.PrintLast Go.Proofs.YtpcednpkkimehaaW.PrintMore
attribute [local go_sem] max2_int min2_int max_two min_two max_three min_three max_four min_four   -- for this text's walks alone
set_option linter.unusedVariables false
set_option linter.unusedSimpArgs false
/-- what Peek hands back -/
def Pz.peek (s : Pz) (c : Pc) (n : Int) : List Int := (c.out.drop s.said).take (min n ((due s.heard 0 0 c.l - s.said : Nat) : Int)).toNat
theorem bytes_cut (A : Option Addr) (n c : Nat) (lo hi : Nat) (x : Int) (h1 : lo ≤ hi) (h2 : hi ≤ n) (hc : n ≤ c) (hx : x = (hi : Int)) :
    ∀ W : World, (Instr.slice 31 (.slice A n c) (some (.int .i64 (lo : Int))) (some (.int .i64 x)) none).run Try.prog W = .ok (.slice (if c = lo then A else A.map (·.add lo)) (hi - lo) (c - lo)) W := by
  subst hx
  obtain ⟨i, hi0, hsz⟩ := Option.map_eq_some_iff.1 (show (Try.prog.info? 5).map (·.size) = some 1 by kernel_rfl)
  have := cut_mid (P := Try.prog) 31 5 .i64 .i64 Try.underlying31 hi0 1 hsz A n c (lo : Int) (hi : Int) (by omega) (by omega) (by omega) hc
  simpa using this
/-- a piece of bytes that are read -/
theorem bytes_mid {W : World} {ok : Nat → Prop} {A : Option Addr} {c : Nat} {xs ys : List Int} (h : Kd.F (Kd.int .u8) W ok A xs.length xs) (hc : xs.length ≤ c) {lo hi : Nat} {x : Int} (h1 : lo ≤ hi) (h2 : hi ≤ xs.length) (hx : x = (hi : Int)) (hy : (xs.take hi).drop lo = ys) :
    ∃ A', (∀ W : World, (Instr.slice 31 (.slice A xs.length c) (some (.int .i64 (lo : Int))) (some (.int .i64 x)) none).run Try.prog W = .ok (.slice A' ys.length (c - lo)) W) ∧ Kd.F (Kd.int .u8) W ok A' ys.length ys ∧ ys.length ≤ c - lo := by
  have hF := Kd.F_mid (lo := lo) (hi := hi) (c := c) h h1 h2 hc
  have hl : ys.length = hi - lo := by rw [← hy, List.length_drop, List.length_take]; omega
  rw [hy, show (Kd.int .u8).sz = 1 from rfl, Nat.mul_one] at hF
  refine ⟨_, fun W => ?_, hF, by omega⟩
  rw [hl]
  exact bytes_cut A xs.length c lo hi x h1 h2 hc hx W
theorem clone_c (A : Option Addr) (n c : Nat) (l : List Int) (w : World) (hn : l.length = n) (hC : Kd.C (Kd.int .u8) w A l.length l) (hc : n ≤ c) (hl : n ≤ 140737488355328) :
    Calls Try.prog 35 #[.slice A n c] w fun e w' => ∃ v, e = .returned v ∧ Kd.R (Kd.int .u8) 5 w' w.heap.size (fun _ => True) v l ∧ Below w.heap.size w w' := by
  subst hn
  exact bytes_Clone.calls 0 A c l l w hC hc (by unfold bytes_Clone.f; rw [if_pos hl])
set_option maxRecDepth 100000 in
set_option maxHeartbeats 4000000 in
theorem peer_Peek {W : World} {ok : Nat → Prop} {a : Pa} {c : Pc} {s : Pz} (h : PeAt W ok a c s) (hs : small c.l) (hd : s.said ≤ due s.heard 0 0 c.l) (hd2 : due s.heard 0 0 c.l ≤ c.out.length) (hd3 : c.out.length ≤ 1048576) (n : Int) :
    Calls Try.prog 23 #[.pointer (some ⟨a.B, 0, none⟩), .int .i64 n] W fun e W' => ∃ v, e = .returned v ∧ Kd.R (Kd.int .u8) 5 W' W.heap.size (fun _ => True) v (s.peek c n) ∧ Below W.heap.size W W' := by
  have hlt : s.said + (due s.heard 0 0 c.l - s.said) ≤ c.out.length := by omega
  have hn : (s.peek c n).length = (min n ((due s.heard 0 0 c.l - s.said : Nat) : Int)).toNat := by
    unfold Pz.peek
    rw [List.length_take, List.length_drop]
    omega
  have hp : (c.out.take (s.said + (s.peek c n).length)).drop s.said = s.peek c n := by
    rw [hn, List.drop_take, Nat.add_sub_cancel_left]
    rfl
  generalize hm : (min n ((due s.heard 0 0 c.l - s.said : Nat) : Int)) = m at hn
  have hml : m ≤ ((due s.heard 0 0 c.l - s.said : Nat) : Int) := by rw [← hm]; exact Int.min_le_right _ _
  have HP := Lib.hid h
  have HS := Lib.hid hs
  have HD := Lib.hid (show due s.heard 0 0 c.l ≤ 1048576 by omega)
  have hmin : (if ((due s.heard 0 0 c.l - s.said : Nat) : Int) < n then ((due s.heard 0 0 c.l - s.said : Nat) : Int) else n) = m := by rw [← hm]; split <;> omega
  generalize s.peek c n = ys at hp hn
  clear h hs hm
  have HN := Lib.hid hn
  have HY := Lib.hid hp
  have HL := Lib.hid hml
  clear hn hp hml
  by_cases h1 : m < 1
  · have h1' := eq_true h1
    go_enter Try.func23, Try.ntmps23
    go_wp2_with (go_at_call 15; refine (peer_Due HP.out HS.out hd HD.out).mono ?_; rintro e w1 ⟨rfl, hB⟩)
    go_ret
    obtain rfl : ys = [] := List.eq_nil_of_length_eq_zero (by rw [HN.out]; omega)
    exact ⟨_, rfl, Kd.R_nil _ _ _ _ _, hB⟩
  · obtain ⟨k, rfl⟩ := Int.eq_ofNat_of_zero_le (show 0 ≤ m by omega)
    have h1' := eq_false h1
    have hk : ys.length = k := HN.out
    obtain ⟨A', hC, hF, hO⟩ := bytes_mid (ys := ys) (lo := s.said) (hi := s.said + k) (x := IntKind.i64.wrap ((s.said : Int) + (k : Int))) HP.out.fo HP.out.lo (by omega) (by have := HL.out; omega) (by rw [i64_w]; unfold wrap64; have := HL.out; omega) (hk ▸ HY.out)
    have HC := Lib.hid hC
    have HF := Lib.hid (Kd.F_now hF)
    have HO := Lib.hid hO
    have HQ := Lib.hid (show ys.length ≤ 140737488355328 by have := HL.out; omega)
    clear hC hF hO hk
    go_enter Try.func23, Try.ntmps23
    go_wp2_with (go_at_call 15; refine (peer_Due HP.out HS.out hd HD.out).mono ?_; rintro e w1 ⟨rfl, hB⟩; have HP1 := Lib.hid (HP.out.below hB); obtain ⟨g0, g1, g2, g3, g4, g5, g6⟩ := HP1.out.cells)
    clear g1 g2 g3 g5 g6
    have hcut := HC.out
    have HX := Lib.hid (Kd.C_drew (Kd.C_below HF.out hB))
    go_region_with (go_at_call 35; refine (clone_c _ _ _ ys _ rfl HX.out HO.out HQ.out).mono ?_; rintro e w' ⟨v, rfl, hR, hB'⟩)
    all_goals
      go_wp2
      go_ret
      exact ⟨_, rfl, Kd.R_lower hR hB.size, ⟨hB'.os.trans hB.os, hB'.tape.trans hB.tape, hB'.output.trans hB.output, Nat.le_trans hB.size hB'.size, fun k hk => (hB'.block k (Nat.lt_of_lt_of_le hk hB.size)).trans (hB.block k hk)⟩⟩
end Go.Proofs.Ytpcednpkkimehaa.QA
