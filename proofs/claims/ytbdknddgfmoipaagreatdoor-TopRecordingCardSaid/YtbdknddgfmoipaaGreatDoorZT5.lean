import Derived.RangeFuncNested
import Derived.RangeFuncBound
import Derived.RangeFuncCalls
import Derived.RangeFuncLeaves
import Derived.Shelf.Abstract
import Derived.Shelf.RegionOpen
import Derived.WalkKit
import Derived.OwnWalkIn
import Derived.TacticsInMore
import Derived.LoopNIn
import Derived.LoopIn
import Derived.Maps.AppendAt
import Derived.StillTailTactics
import Derived.Lib.Hide
import Derived.Lib.LazyBuf
import Derived.Outline
import Derived.Deep.RegionWith
import Derived.Deep.RegionLaw
import Derived.Deep.RegionHeld3
import Derived.Deep.CutBlock
import Derived.Deep.AppendLies
import Derived.Deep.DeepCutAuto
import Derived.Lib.Bytes
import Derived.Lib.SmallJoins
import Derived.Laws.EntriesVeiled
import Derived.BigRegion
import Derived.BigQuiet
import Derived.CallsIn
import Derived.Test.YtbdknddgfmoipaaGreatDoorProg
import Derived.Test.YtbdknddgfmoipaaGreatDoorZW
import Derived.Test.YtbdknddgfmoipaaGreatDoorZT4
import Derived.Test.YtbdknddgfmoipaaGreatDoorZQ3
set_option linter.unusedVariables false
set_option linter.unusedSimpArgs false
namespace Go.Proofs.YtbdknddgfmoipaaGreatDoor.TQ
open Go.RowKit Go.Shelf Go.Proofs.YtbdknddgfmoipaaGreatDoorW.PrintWords Go.Proofs.YtbdknddgfmoipaaGreatDoorW.PrintLast Go.Proofs.YtbdknddgfmoipaaGreatDoorW.PrintMore
set_option linter.unusedVariables false
set_option linter.unusedSimpArgs false


section
variable {F F1 : List Nat} {W W0 W1 W2 W' V : World} {o o' : Lo} {s : Sz}
theorem acts_take {l : List QA.S32} {s : Sz} {j : Nat} {p : QA.S32} (hj : j < l.length) (hp : p = QA.rd_T32 l (j : Int)) : acts s (l.take (j + 1)) = (acts s (l.take j)).act p := by
  have : l.take (j + 1) = l.take j ++ [p] := by
    rw [List.take_add_one, hp]
    unfold QA.rd_T32
    simp [List.getD_eq_getElem?_getD, List.getElem?_eq_getElem hj]
  rw [this]
  unfold acts
  rw [List.foldl_append]
  rfl
theorem act4 (n t : Int) (B : List Int) : s.act ⟨4, n, t, B⟩ = s.turn 0 1 (((s.line 0).way 1).put B) := by unfold Sz.act; rw [if_pos rfl]
theorem act5 (n t : Int) (B : List Int) : s.act ⟨5, n, t, B⟩ = s.turn 0 0 (((s.line 0).way 0).drop n) := by unfold Sz.act; rw [if_neg (show ¬ (5 : Int) = 4 by decide), if_pos rfl]
theorem act6 (n t : Int) (B : List Int) : s.act ⟨6, n, t, B⟩ = s.turn 0 1 ((s.line 0).way 1).end_ := by unfold Sz.act; rw [if_neg (show ¬ (6 : Int) = 4 by decide), if_neg (show ¬ (6 : Int) = 5 by decide), if_pos rfl]
theorem act7 (n t : Int) (B : List Int) : s.act ⟨7, n, t, B⟩ = s.turn 1 0 (((s.line 1).way 0).put B) := by unfold Sz.act; rw [if_neg (show ¬ (7 : Int) = 4 by decide), if_neg (show ¬ (7 : Int) = 5 by decide), if_neg (show ¬ (7 : Int) = 6 by decide), if_pos rfl]
theorem act8 (n t : Int) (B : List Int) : s.act ⟨8, n, t, B⟩ = s.turn 1 1 (((s.line 1).way 1).drop n) := by unfold Sz.act; rw [if_neg (show ¬ (8 : Int) = 4 by decide), if_neg (show ¬ (8 : Int) = 5 by decide), if_neg (show ¬ (8 : Int) = 6 by decide), if_neg (show ¬ (8 : Int) = 7 by decide), if_pos rfl]
theorem act9 (n t : Int) (B : List Int) : s.act ⟨9, n, t, B⟩ = s.turn 1 0 ((s.line 1).way 0).end_ := by unfold Sz.act; rw [if_neg (show ¬ (9 : Int) = 4 by decide), if_neg (show ¬ (9 : Int) = 5 by decide), if_neg (show ¬ (9 : Int) = 6 by decide), if_neg (show ¬ (9 : Int) = 7 by decide), if_neg (show ¬ (9 : Int) = 8 by decide), if_pos rfl]
theorem act_step {k : Int} (h : k < 4 ∨ 9 < k) (n t : Int) (B : List Int) : s.act ⟨k, n, t, B⟩ = s.step k n t := by
  unfold Sz.act
  rw [if_neg (show ¬ k = 4 by omega), if_neg (show ¬ k = 5 by omega), if_neg (show ¬ k = 6 by omega), if_neg (show ¬ k = 7 by omega), if_neg (show ¬ k = 8 by omega), if_neg (show ¬ k = 9 by omega)]
theorem pair_cells {w : World} {G : Nat} {a b : Value} (h : w.heap[G]? = some (.cells #[a, b] 81 (0, 0))) : w.cell? ⟨G, 0, none⟩ = some a ∧ w.cell? ⟨G, 1, none⟩ = some b := ⟨(blk_cell h 0).trans rfl, (blk_cell h 1).trans rfl⟩
theorem pick_cells {w : World} {E : Nat} {a b c d : Value} (h : w.heap[E]? = some (.cells #[a, b, c, d] 32 (0, 0))) : w.cell? ⟨E, 0, none⟩ = some a ∧ w.cell? ⟨E, 1, none⟩ = some b ∧ w.cell? ⟨E, 2, none⟩ = some c ∧ w.cell? ⟨E, 3, none⟩ = some d := ⟨(blk_cell h 0).trans rfl, (blk_cell h 1).trans rfl, (blk_cell h 2).trans rfl, (blk_cell h 3).trans rfl⟩
set_option maxRecDepth 100000 in
set_option maxHeartbeats 4000000 in
theorem r_Record {m : Nat} (h1 : 1 ≤ m) (h2 : m ≤ 65536) (ho : Oth W) (hw : 1 < W.heap.size) (l : List QA.S32) (A : Option Addr) (c : Nat) (hC : Kd.C QA.k32 W A l.length l) (hc : l.length ≤ c) (hl : l.length ≤ 150)
    (hsm : ∀ x ∈ (acts (s0 m) l).r.ev, x.f2.length ≤ 140737488355328) (kE : Nat) (r1 : List Int) (hE : QA.trans_Encode.f kE (acts (s0 m) l).r.ev ((acts (s0 m) l).r.over 0) = some (r1, 0)) :
    Calls Tryz.prog 9 #[.int .i64 m, .slice A l.length c] W fun e W' => ∃ A' c', e = .returned (.tuple #[.slice A' r1.length c', .int .i64 0]) ∧ Kd.C (Kd.int .u8) W' A' r1.length r1 ∧ r1.length ≤ c' ∧ Below W.heap.size W W' := by
  have H1 := Lib.hid h1
  have H2 := Lib.hid h2
  have HO := Lib.hid ho
  have HW := Lib.hid hw
  have HC := Lib.hid hC
  have HLC := Lib.hid hc
  have HL := Lib.hid hl
  have HSM := Lib.hid hsm
  have HE := Lib.hid hE
  clear h1 h2 ho hw hC hc hl hsm hE
  go_enter Tryz.func9, Tryz.ntmps9
  go_wp2
  go_loopg [14] 3 (fun kq v14 w1 => ∃ j : Nat, v14 = .int .i64 j ∧ Aside0 (j ≤ 2 ∧ kq = 3 - j) ∧ Aside0 (Lines W W.heap.size m j w1))
  case atStart => exact ⟨0, rfl, ⟨by decide, rfl⟩, ⟨below_alloc (Below.refl _ _) _, Nat.le_refl _, _, _, World.alloc_heap_new W _, fun h => absurd h (by decide)⟩⟩
  case round =>
    obtain ⟨j, rfl, HJ, HM⟩ := hrel
    by_cases hj : j < 2
    · have hjd : decide ((j : Int) < 2) = true := decide_eq_true (by omega)
      have hwj : wrap64 ((j : Int) + 1) = ((j + 1 : Nat) : Int) := (IntWalk.i64_left _).symm.trans (by rw [IntKind.wrap_i64]; omega)
      go_wp2_with (go_at_call 24; (with_reducible refine (p_New m H1.out H2.out).mono ?_); rintro e W1 ⟨pb, b, FF, rfl, hp, hF, hpb, hb⟩; have HP := Lib.hid hp; have HF := Lib.hid hF; have HS := Lib.hid hpb; have HB := Lib.hid hb; have HM1 := Lib.hid (HM.out.below hb); obtain ⟨⟨v, hcv⟩, hfv⟩ := HM1.out.cell hj; clear hp hF hpb hb)
      go_roundg (2 - j)
      case measure => have := HJ.out; omega
      case rel => exact ⟨j + 1, by first | rfl | rw [hwj], ⟨by omega, by have := HJ.out; omega⟩, ⟨HM.out.put hj HP.out HF.out HS.out HB.out⟩⟩
    · have hjd : decide ((j : Int) < 2) = false := decide_eq_false (by omega)
      obtain rfl : j = 2 := by have := HJ.out; omega
      obtain ⟨pa, pc, g0, g1, hcall⟩ := HM.out.whole HO.out HW.out
      have HCL := Lib.hid hcall
      clear hcall
      go_upto_region 13 with (go_at_call 25; (with_reducible refine HCL.out.mono ?_); rintro e W1 ⟨o, rfl, hs, hpa, hpc, hoL, hb, hg0, hg1, hgs, hoG, v0, v1, hG, rfl, rfl⟩; have HS := Lib.hid hs; have HPA := Lib.hid hpa; have HPC := Lib.hid hpc; have HOL := Lib.hid hoL; have HB := Lib.hid hb; have HGS := Lib.hid hgs; have HOG := Lib.hid hoG; have HG := Lib.hid hG; clear hs hpa hpc hoL hb hg0 hg1 hgs hoG hG HCL g0 g1)
      go_wp2
      go_loopg [41] (l.length + 1) (fun kq v41 w1 => ∃ (j : Nat) (o' : Lo), v41 = .int .i64 j ∧ Aside0 (j ≤ l.length ∧ kq = l.length + 1 - j) ∧ Aside0 (SIs w1 o' (acts (s0 m) (l.take j))) ∧ Aside0 (Nxt o W1 o' w1))
      case atStart => exact ⟨0, o, rfl, ⟨Nat.zero_le _, rfl⟩, ⟨HS.out⟩, ⟨Nxt.refl _ _⟩⟩
      case round =>
        clear HS
        obtain ⟨j, o1, rfl, HJ, HS, HN⟩ := hrel
        have hBW : Below W.heap.size W wr := HB.out.trans (HN.out.below HB.out.size (fun k hk => by have := HOL.out k hk; omega)).1
        have HBW := Lib.hid hBW
        by_cases hj : j < l.length
        · have hjd : decide ((j : Int) < (l.length : Int)) = true := decide_eq_true (by omega)
          have hjd2 := eq_true hj
          have hwj : wrap64 ((j : Int) + 1) = ((j + 1 : Nat) : Int) := (IntWalk.i64_left _).symm.trans (by rw [IntKind.wrap_i64]; have := HL.out; omega)
          obtain ⟨ad, A3, c3, rfl, e0, e1, e2, e3, hle3, hC3⟩ := QA.at_T32 HC.out (j : Int) (by omega) (by omega)
          rw [Int.toNat_natCast] at e0 e1 e2 e3
          replace e0 := pw_cell_below HBW.out e0
          replace e1 := pw_cell_below HBW.out e1
          replace e2 := pw_cell_below HBW.out e2
          replace e3 := pw_cell_below HBW.out e3
          obtain ⟨p, hp⟩ : ∃ p, p = QA.rd_T32 l (j : Int) := ⟨_, rfl⟩
          rw [← hp] at e0 e1 e2 e3 hle3 hC3
          have HTK := Lib.hid (acts_take (s := s0 m) hj hp)
          obtain ⟨s, hs⟩ : ∃ s, s = acts (s0 m) (l.take j) := ⟨_, rfl⟩
          rw [← hs] at HTK HS
          obtain ⟨kd, n, t, B⟩ := p
          obtain ⟨nb, hnb⟩ : ∃ nb, nb = B.length := ⟨_, rfl⟩
          simp only at e0 e1 e2 e3 hle3 hC3
          rw [← hnb] at e3 hle3 hC3
          -- the pick's bytes
          have hRW : ReadsInt W .u8 A3 nb B := Kd.reads_of_C (d := (0 : Int)) (h1 := fun _ => rfl) hC3
          have hR3 : ReadsInt wr .u8 A3 nb B := hRW.below HBW.out
          have hL3 : 0 < nb → ∀ a, A3 = some a → o1.L a.block = 0 := fun h0 a ha => by
            obtain ⟨a1, ha1, hx⟩ := hRW.2.2 h0
            have h3 := lt_of_cell (hx 0 h0)
            rw [ha] at ha1
            injection ha1 with ha1
            subst ha1
            exact HN.out.zero (S := W.heap.size) (fun k hk => by have := HOL.out k hk; omega) (by simpa [Addr.add] using h3) HB.out.size
          have HR3 := Lib.hid hR3
          have HL3 := Lib.hid hL3
          have HLE := Lib.hid hle3
          have hG1 := (HN.out.heap HG.out HOG.out).1
          have HG1 := Lib.hid hG1
          clear hp hs hnb hle3 hC3 hRW hR3 hL3 hG1
          go_upto_region 16 with (fail)
          have hbE := below_alloc (Below.refl _ wr) (.cells #[.int .i64 kd, .int .i64 n, .int .i64 t, .slice A3 nb c3] 32)
          have HSV := Lib.hid (HS.out.below hbE)
          have HNV := Lib.hid (HN.out.trans (Nxt.of_below o1 hbE))
          obtain ⟨k0, k1, k2, k3⟩ := pick_cells (World.alloc_heap_new wr (.cells #[.int .i64 kd, .int .i64 n, .int .i64 t, .slice A3 nb c3] 32))
          obtain ⟨g0, g1⟩ := pair_cells ((Ch.of_below hbE []).heap HG1.out (by simp))
          have HRV := Lib.hid (HR3.out.below hbE)
          clear e0 e1 e2 e3 hbE HBW
          generalize wr.alloc (.cells #[.int .i64 kd, .int .i64 n, .int .i64 t, .slice A3 nb c3] 32) = V at HSV HNV k0 k1 k2 k3 g0 g1 HRV ⊢
          have HPB0 := Lib.hid (show o1.pb 0 = pa by rw [HN.out.pb]; exact HPA.out)
          have HPB1 := Lib.hid (show o1.pb 1 = pc by rw [HN.out.pb]; exact HPC.out)
          by_cases q4 : kd = 4
          · subst q4
            go_upto_region 21 with (fail)
            have hV := below_drew (Below.refl V.heap.size V)
            have HSD := Lib.hid (HSV.out.below hV)
            have HND := Lib.hid (HNV.out.trans (Nxt.of_below o1 hV))
            have HRD := Lib.hid (HRV.out.below hV)
            go_still_tail 6, (by kernel_rfl)
            change wpList _ _ _ _ _ V.drew
            clear k0 k1 k2 k3 g0 g1 hV
            generalize V.drew = V1 at HSD HND HRD ⊢
            have hcall := s_Write HSD.out 0 0 1 (by decide) (by decide) rfl 0 rfl A3 nb c3 B HRD.out HLE.out HL3.out
            rw [HPB0.out] at hcall
            have HCALL := Lib.hid hcall
            clear hcall
            go_wp2_with (go_at_call 27; (with_reducible refine HCALL.out.mono ?_); rintro e V2 ⟨r, o2, rfl, hr, hs, hn, hx1, hx2⟩; have HS2 := Lib.hid hs; have HN2 := Lib.hid hn; clear hs hn)
            go_roundg (l.length - j)
            case measure => have := HJ.out; omega
            case rel => exact ⟨j + 1, o2, by first | rfl | rw [hwj], ⟨by omega, by have := HJ.out; omega⟩, ⟨by rw [HTK.out, act4]; exact HS2.out⟩, ⟨HND.out.trans HN2.out⟩⟩
          by_cases q5 : kd = 5
          · subst q5
            go_upto_region 23 with (fail)
            have hV := below_drew (Below.refl V.heap.size V)
            have HSD := Lib.hid (HSV.out.below hV)
            have HND := Lib.hid (HNV.out.trans (Nxt.of_below o1 hV))
            have HRD := Lib.hid (HRV.out.below hV)
            go_still_tail 6, (by kernel_rfl)
            change wpList _ _ _ _ _ V.drew
            clear k0 k1 k2 k3 g0 g1 hV
            generalize V.drew = V1 at HSD HND HRD ⊢
            have hcall := s_Read HSD.out 0 0 (by decide) (by decide) 0 rfl n
            rw [HPB0.out] at hcall
            have HCALL := Lib.hid hcall
            clear hcall
            go_wp2_with (go_at_call 28; (with_reducible refine HCALL.out.mono ?_); rintro e V2 ⟨v, ys, o2, rfl, hys, hown, hs, hn, hx1, hx2, hx3⟩; have HS2 := Lib.hid hs; have HN2 := Lib.hid hn; clear hs hn)
            go_roundg (l.length - j)
            case measure => have := HJ.out; omega
            case rel => exact ⟨j + 1, o2, by first | rfl | rw [hwj], ⟨by omega, by have := HJ.out; omega⟩, ⟨by rw [HTK.out, act5]; exact HS2.out⟩, ⟨HND.out.trans HN2.out⟩⟩
          by_cases q6 : kd = 6
          · subst q6
            have HSD := HSV
            have HND := HNV
            have HRD := HRV
            have hcall := s_Hang HSD.out 0 0 1 (by decide) (by decide) rfl 0 rfl
            rw [HPB0.out] at hcall
            have HCALL := Lib.hid hcall
            clear hcall
            go_wp2_with (go_at_call 29; (with_reducible refine HCALL.out.mono ?_); rintro e V2 ⟨o2, rfl, hs, hn, hx1, hx2⟩; have HS2 := Lib.hid hs; have HN2 := Lib.hid hn; clear hs hn)
            go_roundg (l.length - j)
            case measure => have := HJ.out; omega
            case rel => exact ⟨j + 1, o2, by first | rfl | rw [hwj], ⟨by omega, by have := HJ.out; omega⟩, ⟨by rw [HTK.out, act6]; exact HS2.out⟩, ⟨HND.out.trans HN2.out⟩⟩
          by_cases q7 : kd = 7
          · subst q7
            go_upto_region 21 with (fail)
            have hV := below_drew (Below.refl V.heap.size V)
            have HSD := Lib.hid (HSV.out.below hV)
            have HND := Lib.hid (HNV.out.trans (Nxt.of_below o1 hV))
            have HRD := Lib.hid (HRV.out.below hV)
            go_still_tail 6, (by kernel_rfl)
            change wpList _ _ _ _ _ V.drew
            clear k0 k1 k2 k3 g0 g1 hV
            generalize V.drew = V1 at HSD HND HRD ⊢
            have hcall := s_Write HSD.out 1 1 0 (by decide) (by decide) rfl 1 rfl A3 nb c3 B HRD.out HLE.out HL3.out
            rw [HPB1.out] at hcall
            have HCALL := Lib.hid hcall
            clear hcall
            go_wp2_with (go_at_call 27; (with_reducible refine HCALL.out.mono ?_); rintro e V2 ⟨r, o2, rfl, hr, hs, hn, hx1, hx2⟩; have HS2 := Lib.hid hs; have HN2 := Lib.hid hn; clear hs hn)
            go_roundg (l.length - j)
            case measure => have := HJ.out; omega
            case rel => exact ⟨j + 1, o2, by first | rfl | rw [hwj], ⟨by omega, by have := HJ.out; omega⟩, ⟨by rw [HTK.out, act7]; exact HS2.out⟩, ⟨HND.out.trans HN2.out⟩⟩
          by_cases q8 : kd = 8
          · subst q8
            go_upto_region 23 with (fail)
            have hV := below_drew (Below.refl V.heap.size V)
            have HSD := Lib.hid (HSV.out.below hV)
            have HND := Lib.hid (HNV.out.trans (Nxt.of_below o1 hV))
            have HRD := Lib.hid (HRV.out.below hV)
            go_still_tail 6, (by kernel_rfl)
            change wpList _ _ _ _ _ V.drew
            clear k0 k1 k2 k3 g0 g1 hV
            generalize V.drew = V1 at HSD HND HRD ⊢
            have hcall := s_Read HSD.out 1 1 (by decide) (by decide) 1 rfl n
            rw [HPB1.out] at hcall
            have HCALL := Lib.hid hcall
            clear hcall
            go_wp2_with (go_at_call 28; (with_reducible refine HCALL.out.mono ?_); rintro e V2 ⟨v, ys, o2, rfl, hys, hown, hs, hn, hx1, hx2, hx3⟩; have HS2 := Lib.hid hs; have HN2 := Lib.hid hn; clear hs hn)
            go_roundg (l.length - j)
            case measure => have := HJ.out; omega
            case rel => exact ⟨j + 1, o2, by first | rfl | rw [hwj], ⟨by omega, by have := HJ.out; omega⟩, ⟨by rw [HTK.out, act8]; exact HS2.out⟩, ⟨HND.out.trans HN2.out⟩⟩
          by_cases q9 : kd = 9
          · subst q9
            have HSD := HSV
            have HND := HNV
            have HRD := HRV
            have hcall := s_Hang HSD.out 1 1 0 (by decide) (by decide) rfl 1 rfl
            rw [HPB1.out] at hcall
            have HCALL := Lib.hid hcall
            clear hcall
            go_wp2_with (go_at_call 29; (with_reducible refine HCALL.out.mono ?_); rintro e V2 ⟨o2, rfl, hs, hn, hx1, hx2⟩; have HS2 := Lib.hid hs; have HN2 := Lib.hid hn; clear hs hn)
            go_roundg (l.length - j)
            case measure => have := HJ.out; omega
            case rel => exact ⟨j + 1, o2, by first | rfl | rw [hwj], ⟨by omega, by have := HJ.out; omega⟩, ⟨by rw [HTK.out, act9]; exact HS2.out⟩, ⟨HND.out.trans HN2.out⟩⟩
          by_cases ql : kd < 4
          · have hlt := eq_true ql
            have hor : kd < 4 ∨ 9 < kd := .inl ql
            have HOR := Lib.hid hor
            clear hor q4 q5 q6 q7 q8 q9
            have hcall := r_Step HSV.out kd n t
            rw [show o1.rb = o.rb from HN.out.rb] at hcall
            have HCALL := Lib.hid hcall
            clear hcall ql
            go_wp2_with (go_at_call 26; (with_reducible refine HCALL.out.mono ?_); rintro e V2 ⟨v, o2, rfl, hs, hn⟩; have HS2 := Lib.hid hs; have HN2 := Lib.hid hn; clear hs hn)
            go_roundg (l.length - j)
            case measure => have := HJ.out; omega
            case rel => exact ⟨j + 1, o2, by first | rfl | rw [hwj], ⟨by omega, by have := HJ.out; omega⟩, ⟨by rw [HTK.out, act_step HOR.out]; exact HS2.out⟩, ⟨HNV.out.trans HN2.out⟩⟩
          · have hlt := eq_false ql
            have hgt := eq_true (show (9 : Int) < kd by omega)
            have hor : kd < 4 ∨ 9 < kd := .inr (by omega)
            have HOR := Lib.hid hor
            clear hor q4 q5 q6 q7 q8 q9
            have hcall := r_Step HSV.out kd n t
            rw [show o1.rb = o.rb from HN.out.rb] at hcall
            have HCALL := Lib.hid hcall
            clear hcall ql
            go_wp2_with (go_at_call 26; (with_reducible refine HCALL.out.mono ?_); rintro e V2 ⟨v, o2, rfl, hs, hn⟩; have HS2 := Lib.hid hs; have HN2 := Lib.hid hn; clear hs hn)
            go_roundg (l.length - j)
            case measure => have := HJ.out; omega
            case rel => exact ⟨j + 1, o2, by first | rfl | rw [hwj], ⟨by omega, by have := HJ.out; omega⟩, ⟨by rw [HTK.out, act_step HOR.out]; exact HS2.out⟩, ⟨HNV.out.trans HN2.out⟩⟩
        · have hjd : decide ((j : Int) < (l.length : Int)) = false := decide_eq_false (by omega)
          have hjd2 := eq_false hj
          have hje : j = l.length := by have := HJ.out; omega
          have hS := HS.out
          rw [hje, List.take_length] at hS
          have htr := r_Transcript hS HSM.out
          rw [show o1.rb = o.rb from HN.out.rb] at htr
          have HTR := Lib.hid htr
          clear htr hS hje
          go_wp2_with (first
            | (go_at_call 31; (with_reducible refine HTR.out.mono ?_); (rintro e V2 ⟨A2, c2, rfl, hR, hb2⟩); (obtain ⟨A2', c2', he2, hl2, hC2⟩ := Kd.R_reads hR); (injection he2 with he2a he2b he2c); (subst he2a he2c); have HB2 := Lib.hid hb2; have HCE := Lib.hid (QA.trans_Encode.calls kE A2 c2 _ _ r1 0 V2 hC2 hl2 HE.out); clear hR hb2 hl2 hC2 HTR)
            | (go_at_call 30; (with_reducible refine HCE.out.mono ?_); (rintro e V3 ⟨v0, rfl, hR3, hb3⟩); (obtain ⟨A5, c5, he5, hl5, hC5⟩ := QA.KL.R_reads hR3); subst he5; have HL5 := Lib.hid hl5; have HC5 := Lib.hid hC5; have HB3 := Lib.hid hb3; clear hR3 hb3 hl5 hC5 HCE))
          go_ret2
          exact ⟨A5, c5, rfl, HC5.out, HL5.out, below_step (below_step HBW.out HB2.out) HB3.out⟩
end

end Go.Proofs.YtbdknddgfmoipaaGreatDoor.TQ
