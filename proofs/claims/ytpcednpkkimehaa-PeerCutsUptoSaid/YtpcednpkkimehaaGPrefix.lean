import Derived.RangeFuncNested
import Derived.RangeFuncBound
import Derived.RangeFuncCalls
import Derived.RangeFuncLeaves
import Derived.Shelf.Abstract
import Derived.Shelf.RegionOpen
import Derived.WalkKit
import Derived.OwnWalkIn
import Derived.TacticsInMore
import Derived.LoopNIn
import Derived.LoopIn
import Derived.Maps.AppendAt
import Derived.StillTailTactics
import Derived.Lib.Hide
import Derived.Lib.LazyBuf
import Derived.Outline
import Derived.Deep.RegionWith
import Derived.Deep.RegionLaw
import Derived.Deep.AppendLies
import Derived.CallsIn

import Derived.Lib.Bytes
import Derived.Deep.DeepCutAuto
import Derived.Lib.SmallJoins
import Derived.Laws.EntriesVeiled
import Derived.Deep.RegionHeld3
import Derived.BigRegion
import Derived.BigQuiet
import Derived.Test.YtpcednpkkimehaaPPl
import Derived.Test.YtpcednpkkimehaaPPeer
namespace Go.Proofs.Ytpcednpkkimehaa.QA
open Go.RowKit Go.Shelf Go.Proofs.YtpcednpkkimehaaW.PrintWords Go.Proofs.YtpcednpkkimehaaW.PrintLast Go.Proofs.YtpcednpkkimehaaW.PrintMore
attribute [local go_sem] max2_int min2_int max_two min_two max_three min_three max_four min_four   -- for this text's walks alone
set_option linter.unusedVariables false
set_option linter.unusedSimpArgs false
/-! ### PeerPrefix -/
set_option maxRecDepth 100000 in
set_option maxHeartbeats 8000000 in
theorem peerPrefix_walk (l : List S40) (hl : small l) (fin : Bool) (A : Option Addr) (cl : Nat) (acts : List S42) (Aa : Option Addr) (ca : Nat) (W : World) (hC : Kd.C k40 W A l.length l) (hc : l.length ≤ cl) (hA : Kd.C k42 W Aa acts.length acts) (hca : acts.length ≤ ca) :
    Calls Try.prog 5 #[.agg #[.slice A l.length cl, .bool fin], .slice Aa acts.length ca] W fun e W' => e = .returned (.bool true) ∧ Below W.heap.size W W' := by
  have hk := refcheck_f l hl (k := 2 * l.length + 1) (Nat.le_refl _)
  rw [show (if 4096 < l.length then (10 : Int) else chk l 0) = chkN l from rfl] at hk
  have hs := small_tot hl
  have hT : TrAt (W.alloc (.cells #[.slice A l.length cl, .bool fin] 24)) W.heap.size A l.length cl fin := World.alloc_heap_new W _
  have hBW : Below W.heap.size W (W.alloc (.cells #[.slice A l.length cl, .bool fin] 24)) := (Below.refl _ W).alloc (Nat.le_refl _) _
  have hCW := Kd.C_below hC hBW
  have hAW := Kd.C_below hA hBW
  have HW := Lib.hid (show (W.alloc (.cells #[.slice A l.length cl, .bool fin] 24)).heap.size = W.heap.size + 1 by simp)
  generalize hW0 : W.alloc (.cells #[.slice A l.length cl, .bool fin] 24) = W0 at hT hBW hCW hAW HW
  have HAW := Lib.hid hAW
  have HA := Lib.hid hA
  have HC0 := Lib.hid hC
  have HK := Lib.hid hk
  have HT := Lib.hid hT
  have HC := Lib.hid hCW
  have HB := Lib.hid hBW
  have HS := Lib.hid hs
  have HW0 := Lib.hid hW0
  clear hk hT hCW hBW hs hW0 hC hA hAW
  obtain ⟨gr, hgr, hgr2⟩ := great_f l acts
  have HG := Lib.hid hgr
  clear hgr
  cases gr with
  | true =>
    clear hgr2
    go_enter Try.func5, Try.ntmps5
    go_wp2_with (fail)
    rw [HW0.out]
    refine (cuecardlaw20_aliveT W0).mono ?_
    rintro e w1 ⟨rfl, hB1⟩
    have c0 := (HT.out.below hB1).c0
    go_wp2_with (fail)
    refine (cuecardlaw20_great.calls _ A cl l Aa ca acts true _ (Kd.C_below HC.out hB1) hc (Kd.C_below HAW.out hB1) hca HG.out).mono ?_
    rintro e w2 ⟨rfl, hB2⟩
    go_wp2_with (fail)
    refine (cuecardlaw20_aliveT w2).mono ?_
    rintro e w3 ⟨rfl, hB3⟩
    go_wp2
    go_ret
    exact ⟨rfl, below_step (below_step (below_step HB.out hB1) hB2) hB3⟩
  | false =>
    obtain ⟨hacts, h60, hb100⟩ := hgr2 rfl
    have HB100 := Lib.hid hb100
    clear hgr2 hb100
    by_cases hz : chkN l = 0
    · have HN := Lib.hid (fun W => new_c l hl fin A cl W)
      have HK' := Lib.hid (hz ▸ HK.out)
      have HRO := Lib.hid (refbytes_f 0 l hl (l.length + 1) (by omega))
      have HRI := Lib.hid (refbytes_f 1 l hl (l.length + 1) (by omega))
      rw [hz] at HN
      clear HK hz
      go_enter Try.func5, Try.ntmps5
      go_wp2_with (fail)
      rw [HW0.out]
      refine (cuecardlaw20_aliveT W0).mono ?_
      rintro e w1 ⟨rfl, hB1⟩
      have c0 := (HT.out.below hB1).c0
      go_wp2_with (fail)
      refine (cuecardlaw20_great.calls _ A cl l Aa ca acts false _ (Kd.C_below HC.out hB1) hc (Kd.C_below HAW.out hB1) hca HG.out).mono ?_
      rintro e wg ⟨rfl, hBg⟩
      have hB1g := below_step hB1 hBg
      clear c0
      have c0 := (HT.out.below hB1g).c0
      go_wp2_with (fail)
      refine (cuecardref04_Check.calls _ A cl l 0 _ (Kd.C_below HC.out hB1g) hc HK'.out).mono ?_
      rintro e w2 ⟨rfl, hB2⟩
      have HB2 := Lib.hid (below_step hB1g hB2)
      have HT2 := Lib.hid (HT.out.below HB2.out)
      have HC2 := Lib.hid (Kd.C_below HC.out HB2.out)
      have HBW2 := Lib.hid (below_step HB.out HB2.out)
      clear c0 hB1 hBg hB1g hB2 HT HC HB HB2 HAW
      have c0 := HT2.out.c0
      have c1 := HT2.out.c1
      go_wp2_with (fail)
      refine (HN.out w2 HC2.out hc).mono ?_
      clear c0 c1
      rintro e w3 ⟨left, h⟩
      obtain ⟨a, rfl, hP, haB, hb3⟩ := h trivial
      clear h HN left
      have HP3 := Lib.hid hP
      have HT3 := Lib.hid (HT2.out.below hb3)
      have HC3 := Lib.hid (Kd.C_below HC2.out hb3)
      have HBW3 := Lib.hid (below_step HBW2.out hb3)
      have HaT := Lib.hid (show W.heap.size < a.B by have := (Array.getElem?_eq_some_iff.1 HT2.out).1; omega)
      have HaL := Lib.hid hP.lt
      clear hP haB hb3 HT2 HC2 HBW2
      have t3 : w3.drew.cell? ⟨W.heap.size, 0, none⟩ = some (.slice A l.length cl) := HT3.out.c0
      go_upto_region 6 with (fail)
      go_cut [7, 8] (fun s7 s8 wx => ∃ Ai ci, s7 = .string (strOfNums (way 0 l)) ∧ s8 = .slice Ai (way 1 l).length ci ∧ Kd.R (Kd.int .u8) 5 wx w3.heap.size (fun _ => True) (.slice Ai (way 1 l).length ci) (way 1 l) ∧ Below w3.heap.size w3 wx)
      case first =>
        go_region_with (first
          | (go_at_call_of 12 (Value.int IntKind.i64 0); refine (cuecardref04_Bytes.calls (l.length + 1) 0 A cl l (way 0 l) _ (Kd.C_drew HC3.out) hc HRO.out).mono ?_; rintro e w4 ⟨v, rfl, hRo, hB4⟩; have hcv := own_string (P := Try.prog) Try.underlying31 Try.underlying5 Try.underlying9 (Kd.own_of_R hRo); obtain ⟨Ao, co, rfl⟩ := Kd.R_slice hRo; have HRo := Lib.hid hRo; have HB4 := Lib.hid hB4; have t4 := pw_cell_below hB4 t3; clear hRo hB4)
          | (go_at_call_of 12 (Value.int IntKind.i64 1); refine (cuecardref04_Bytes.calls (l.length + 1) 1 A cl l (way 1 l) _ (Kd.C_below (Kd.C_drew HC3.out) HB4.out) hc HRI.out).mono ?_; rintro e w5 ⟨v, rfl, hRi, hB5⟩; have hcv5 := own_string (P := Try.prog) Try.underlying31 Try.underlying5 Try.underlying9 (Kd.own_of_R (Kd.R_below HRo.out hB5)); obtain ⟨Ai, ci, rfl⟩ := Kd.R_slice hRi; have HRi := Lib.hid hRi; have HB5 := Lib.hid hB5; have t5 := pw_cell_below hB5 t4; clear hRi hB5))
        all_goals
          go_wp2_with (fail)
          go_meet
          exact ⟨Ai, ci, rfl, rfl, Kd.R_lower HRi.out HB4.out.size, ⟨HB5.out.os.trans HB4.out.os, HB5.out.tape.trans HB4.out.tape, HB5.out.output.trans HB4.out.output, Nat.le_trans HB4.out.size HB5.out.size, fun k hk => (HB5.out.block k (Nat.lt_of_lt_of_le hk HB4.out.size)).trans (HB4.out.block k hk)⟩⟩
      case rest =>
        clear t3
        obtain ⟨Ai, ci, rfl, rfl, hRi5, hB45⟩ := hcut
        have HRi := Lib.hid hRi5
        have hci := (Kd.R_reads' hRi5).2.1
        have HFi := Lib.hid (Kd.F_mono (Kd.R_F (Kd.R_bound hRi5)) (fun k hk => (⟨hk.2.1, hk.2.2.1⟩ : w3.heap.size ≤ k ∧ k < wc.heap.size)))
        have HP5 := Lib.hid (HP3.out.below hB45)
        have HT5 := Lib.hid (HT3.out.below hB45)
        have HBW5 := Lib.hid (below_step HBW3.out hB45)
        clear hRi5 hB45 HP3 HT3 HBW3 HRi
        go_wp2_with (fail)
        go_loopw [9, 47] (fun sv i wr => ∃ (x : Nat) (s : Pz), x ≤ acts.length ∧ i = .int .i64 x ∧ sv = .string (strOfNums ((way 0 l).take s.said)) ∧ s.said ≤ due s.heard 0 0 (mrg l) ∧ s.heard ≤ x * 1000 ∧ PeAt wr (fun k => w2.heap.size ≤ k ∧ k < w3.heap.size ∧ k ≠ a.B) a (Pc.of l fin) s ∧ TrAt wr W.heap.size A l.length cl fin ∧ Kd.F (Kd.int .u8) wr (fun k => w3.heap.size ≤ k ∧ k < wc.heap.size) Ai (way 1 l).length (way 1 l) ∧ Below W.heap.size W wr)
          (fun _ i _ => acts.length - (intOf i).toNat)
        case atStart => exact ⟨0, ⟨0, 0, true⟩, Nat.zero_le _, rfl, rfl, Nat.zero_le _, Nat.zero_le _, HP5.out, HT5.out, HFi.out, HBW5.out⟩
        case round =>
          obtain ⟨x, s, hx, rfl, rfl, hsd, hsh, hPr, hTr, hFr, hBr⟩ := hrel
          have HPr := Lib.hid hPr
          have HTr := Lib.hid hTr
          have HFr := Lib.hid hFr
          have HBr := Lib.hid hBr
          have HSd := Lib.hid hsd
          have HSh := Lib.hid hsh
          clear hPr hTr hFr hBr HP5 HT5 HFi HBW5 hsd hsh
          by_cases hlt : x < acts.length
          · have hlt' := eq_true hlt
            obtain ⟨ad, A2, c2, hAe, hx0, hx1, hx2, hl2, hC2⟩ := at_T42 (Kd.C_below HA.out HBr.out) (x : Int) (by omega) (by omega)
            subst hAe
            rw [Int.toNat_natCast] at hx0 hx1 hx2
            have hmem : (rd_T42 acts (x : Int)).f2.length ≤ 100 := by
              unfold rd_T42
              rw [Int.toNat_natCast, List.getD_eq_getElem?_getD, List.getElem?_eq_getElem hlt]
              exact HB100.out _ (List.getElem_mem hlt)
            generalize rd_T42 acts (x : Int) = y at hx0 hx1 hx2 hl2 hC2 hmem
            have HC2' := Lib.hid hC2
            clear hC2
            go_upto_block 2 with (fail)
            have hbV : Below wr.heap.size wr (wr.alloc (.cells #[.int .i64 y.f0, .int .i64 y.f1, .slice A2 y.f2.length c2] 42)) := (Below.refl _ wr).alloc (Nat.le_refl _) _
            have hEV : (wr.alloc (.cells #[.int .i64 y.f0, .int .i64 y.f1, .slice A2 y.f2.length c2] 42)).heap[wr.heap.size]? = some (.cells #[.int .i64 y.f0, .int .i64 y.f1, .slice A2 y.f2.length c2] 42 (0, 0)) := World.alloc_heap_new wr _
            generalize wr.alloc (.cells #[.int .i64 y.f0, .int .i64 y.f1, .slice A2 y.f2.length c2] 42) = V at hbV hEV ⊢
            have HEV := Lib.hid hEV
            have HPv := Lib.hid (HPr.out.below hbV)
            have HTv := Lib.hid (HTr.out.below hbV)
            have HFv := Lib.hid (Kd.F_below HFr.out hbV)
            have HBv := Lib.hid (below_step HBr.out hbV)
            have HCv := Lib.hid (Kd.C_below HC2'.out hbV)
            have HaE := Lib.hid (show a.B < wr.heap.size from HPr.out.lt)
            have HD := Lib.hid (due_out (s.heard : Int) l)
            have HL := Lib.hid (show (way 0 l).length ≤ 1048576 ∧ (way 1 l).length ≤ 1048576 by have := way_le 0 l; have := way_le 1 l; have := HS.out; omega)
            have v0 : V.cell? ⟨wr.heap.size, 0, none⟩ = some (.int .i64 y.f0) := (blk_cell hEV 0).trans rfl
            have v1 : V.cell? ⟨wr.heap.size, 1, none⟩ = some (.int .i64 y.f1) := (blk_cell hEV 1).trans rfl
            have v2 : V.cell? ⟨wr.heap.size, 2, none⟩ = some (.slice A2 y.f2.length c2) := (blk_cell hEV 2).trans rfl
            clear hbV hEV HPr HTr HFr HBr HC2' hx0 hx1 hx2
            go_cut [9] (fun s9 wx => ∃ s' : Pz, s9 = .string (strOfNums ((way 0 l).take s'.said)) ∧ s'.said ≤ due s'.heard 0 0 (mrg l) ∧ s'.heard ≤ (x + 1) * 1000 ∧ PeAt wx (fun k => w2.heap.size ≤ k ∧ k < w3.heap.size ∧ k ≠ a.B) a (Pc.of l fin) s' ∧ TrAt wx W.heap.size A l.length cl fin ∧ Kd.F (Kd.int .u8) wx (fun k => w3.heap.size ≤ k ∧ k < wc.heap.size) Ai (way 1 l).length (way 1 l) ∧ Below W.heap.size W wx)
            case first =>
              by_cases k0 : y.f0 = 0
              · have k0b : (y.f0 == 0) = true := beq_iff_eq.mpr k0
                have C2 := peer_Say HPv.out (small_mrg hl) HSd.out HD.out HL.out.1 y.f1
                have hY := peek_take (Pc.of l fin) s y.f1
                have hYl := peek_len (c := Pc.of l fin) (s := s) HD.out y.f1
                unfold Pz.say at C2
                generalize s.peek (Pc.of l fin) y.f1 = ys at C2 hY hYl
                replace hY : (way 0 l).take s.said ++ ys = (way 0 l).take (s.said + ys.length) := hY
                replace hYl : ys.length ≤ due s.heard 0 0 (mrg l) - s.said := hYl
                have HY := Lib.hid hY
                have HYl := Lib.hid hYl
                have hcc := eq_false (show ¬ 9223372036854775807 < (strOfNums ((way 0 l).take s.said)).size + (strOfNums ys).size by rw [strOfNums_size, strOfNums_size, List.length_take]; have := HL.out.1; have := HD.out; omega)
                have C2' := Lib.hid C2
                clear hY hYl C2 k0
                go_wp2_with (fail)
                refine C2'.out.mono ?_
                rintro e w7 ⟨v, rfl, hR, hp7, hg7⟩
                have hcv := own_string (P := Try.prog) Try.underlying31 Try.underlying5 Try.underlying9 (Kd.own_of_R hR)
                obtain ⟨Av, cv, rfl⟩ := Kd.R_slice hR
                have HP7 := Lib.hid hp7
                have HT7 := Lib.hid (HTv.out.grown hg7 (fun e => by injection e with e; have := HaT.out; omega))
                have HF7 := Lib.hid (Kd.F_grown HFv.out hg7 (fun k hk e => by injection e with e; have := HaL.out; omega))
                have HBW7 := Lib.hid (HBv.out.grown hg7 HBv.out.size (fun k hk => by injection hk with hk; have := HaT.out; omega))
                clear hR hp7 hg7 HPv HTv HBv HFv C2'
                go_wp2_with (fail)
                go_meet
                exact ⟨_, by rw [str_append, HY.out], by have := HYl.out; have := HSd.out; show s.said + ys.length ≤ due (s.heard : Int) 0 0 (mrg l); omega, by have := HSh.out; show s.heard ≤ (x + 1) * 1000; omega, HP7.out, HT7.out, HF7.out, HBW7.out⟩
              · have k0b : (y.f0 == 0) = false := beq_eq_false_iff_ne.mpr k0
                by_cases k2 : y.f0 = 2
                · have k2b : (y.f0 == 2) = true := beq_iff_eq.mpr k2
                  have C4 := peer_Hear HPv.out HL.out.2 (show s.heard ≤ 4294967296 by have := HSh.out; omega) A2 c2 y.f2 HCv.out (by omega)
                  have HC4 := Lib.hid C4
                  clear C4 k0 k2
                  go_wp2_with (fail)
                  refine HC4.out.mono ?_
                  rintro e w7 ⟨⟨v, rfl⟩, hp7, hg7⟩
                  have HP7 := Lib.hid hp7
                  have HT7 := Lib.hid (HTv.out.grown hg7 (fun e => by injection e with e; have := HaT.out; omega))
                  have HF7 := Lib.hid (Kd.F_grown HFv.out hg7 (fun k hk e => by injection e with e; have := HaL.out; omega))
                  have HBW7 := Lib.hid (HBv.out.grown hg7 HBv.out.size (fun k hk => by injection hk with hk; have := HaT.out; omega))
                  clear hp7 hg7 HPv HTv HBv HFv HC4
                  go_wp2_with (fail)
                  go_meet
                  exact ⟨s.hear (Pc.of l fin) y.f2, rfl, Nat.le_trans HSd.out (due_mono (by show (s.heard : Int) ≤ ((s.heard + y.f2.length : Nat) : Int); omega) _ _ _), by have := HSh.out; show s.heard + y.f2.length ≤ (x + 1) * 1000; omega, HP7.out, HT7.out, HF7.out, HBW7.out⟩
                · have k2b : (y.f0 == 2) = false := beq_eq_false_iff_ne.mpr k2
                  by_cases k3 : y.f0 = 3
                  · have k3b : (y.f0 == 3) = true := beq_iff_eq.mpr k3
                    clear k0 k2 k3
                    go_wp2_with (fail)
                    have HPd := Lib.hid HPv.out.drew
                    have HFd := Lib.hid (Kd.F_below HFv.out (below_drew (Below.refl _ _)))
                    have d1 : V.drew.cell? ⟨wr.heap.size, 1, none⟩ = some (.int .i64 y.f1) := v1
                    have hnl : (nxt (way 1 l) s.heard y.f1).length ≤ 1000 := by unfold nxt; rw [List.length_take]; omega
                    have HNL := Lib.hid hnl
                    clear v0 v1 v2 hnl
                    go_region_held3 (fun w' => w'.cell? ⟨wr.heap.size, 1, none⟩ = some (.int .i64 y.f1))
                      (first | exact d1 | exact d2 | exact d3 | go_keep)
                      (first
                        | (go_at_call 20; refine (peer_Heard HPd.out).mono ?_; rintro e w7 ⟨rfl, hb7⟩; have HP7 := Lib.hid (HPd.out.below hb7); have HF7 := Lib.hid (Kd.F_below HFd.out hb7); have d2 := pw_cell_below hb7 d1; have HB7 := Lib.hid hb7; clear hb7)
                        | (go_at_call 19; refine (next_c (way 1 l) s.heard y.f1 HL.out.2 (by have := HSh.out; omega) Ai ci _ w7 HF7.out hci).mono ?_; rintro e w8 ⟨An, cn, rfl, hcn, hFn, rfl⟩; have HFn := Lib.hid hFn; have HCn := Lib.hid hcn; clear hFn hcn)
                        | (go_at_call 13; refine (peer_Hear HP7.out HL.out.2 (show s.heard ≤ 4294967296 by have := HSh.out; omega) An cn (nxt (way 1 l) s.heard y.f1) (Kd.F_now HFn.out) (by have := HNL.out; omega)).mono ?_; rintro e w9 ⟨⟨v, rfl⟩, hp9, hg9⟩; have HP9 := Lib.hid hp9; have HG9 := Lib.hid hg9; have d3 := (World.cell?_of_block (a := ⟨wr.heap.size, 1, none⟩) (w' := w9) (hg9.block wr.heap.size (World.block_lt_of_cell? _ _ d2) (fun e => by injection e with e; have := HaE.out; omega))).trans d2; clear hp9 hg9))
                    have hB7 : Below V.heap.size V w8 := ⟨HB7.out.os, HB7.out.tape, HB7.out.output, HB7.out.size, HB7.out.block⟩
                    have HT9 := Lib.hid ((HTv.out.below hB7).grown HG9.out (fun e => by injection e with e; have := HaT.out; omega))
                    have HF9 := Lib.hid (Kd.F_grown (Kd.F_below HFv.out hB7) HG9.out (fun k hk e => by injection e with e; have := HaL.out; omega))
                    have HBW9 := Lib.hid ((below_step HBv.out hB7).grown HG9.out (below_step HBv.out hB7).size (fun k hk => by injection hk with hk; have := HaT.out; omega))
                    clear hB7 d1 d2 d3 HPv HTv HFv HBv HPd HFd HF7 HB7 HG9
                    go_wp2_with (fail)
                    go_meet
                    exact ⟨s.hear (Pc.of l fin) (nxt (way 1 l) s.heard y.f1), rfl, Nat.le_trans HSd.out (due_mono (by show (s.heard : Int) ≤ ((s.heard + (nxt (way 1 l) s.heard y.f1).length : Nat) : Int); omega) _ _ _), by have := HSh.out; have := HNL.out; show s.heard + (nxt (way 1 l) s.heard y.f1).length ≤ (x + 1) * 1000; omega, HP9.out, HT9.out, HF9.out, HBW9.out⟩
                  · have k3b : (y.f0 == 3) = false := beq_eq_false_iff_ne.mpr k3
                    clear k0 k2 k3
                    go_wp2_with (fail)
                    go_meet
                    exact ⟨s, rfl, HSd.out, by have := HSh.out; omega, HPv.out, HTv.out, HFv.out, HBv.out⟩
            case rest =>
              clear v0 v1 v2 HPv HTv HFv HBv HCv HaE HEV HSd HSh HD
              obtain ⟨⟨q, hh, rr⟩, rfl, hsd, hsh, hp, ht, hf, hb⟩ := hcut
              replace hsd : q ≤ due (hh : Int) 0 0 (mrg l) := hsd
              replace hsh : hh ≤ (x + 1) * 1000 := hsh
              obtain ⟨D, hD⟩ : ∃ D, D = due (hh : Int) 0 0 (mrg l) := ⟨_, rfl⟩
              have hqD : q ≤ D := by omega
              have hDo : D ≤ (way 0 l).length := by have := due_out (hh : Int) l; omega
              have hDm : D ≤ 1048576 := by have := HL.out.1; omega
              have HRd := Lib.hid (show cuecardref04_Due.f (l.length + 1) (hh : Int) l = some ((D : Nat) : Int) by rw [refdue_f (hh : Int) l hl _ (by omega), ← due_mrg, ← hD])
              have HC15 := Lib.hid (show ∀ V, PeAt V (fun k => w2.heap.size ≤ k ∧ k < w3.heap.size ∧ k ≠ a.B) a (Pc.of l fin) ⟨q, hh, rr⟩ → Calls Try.prog 15 #[.pointer (some ⟨a.B, 0, none⟩)] V (fun e W' => e = .returned (.int .i64 ((D - q : Nat) : Int)) ∧ Below V.heap.size V W') from fun V h => by have := peer_Due h (small_mrg hl) hsd (due_mrg_le _ hl); rw [hD]; exact this)
              have HQd := Lib.hid hqD
              have HSd := Lib.hid hsd
              have HSh := Lib.hid hsh
              have HDD := Lib.hid hD
              have HPr := Lib.hid hp
              have HTr := Lib.hid ht
              have HFr := Lib.hid hf
              have HBr := Lib.hid hb
              have HCr := Lib.hid (Kd.C_below HC0.out hb)
              have HPd := Lib.hid hp.drew
              have hs1 : (strOfNums (way 0 l)).size = (way 0 l).length := strOfNums_size _
              have hs2 : (strOfNums ((way 0 l).take q)).size = q := by rw [strOfNums_size, List.length_take]; omega
              have d0 : wc.drew.cell? ⟨W.heap.size, 0, none⟩ = some (.slice A l.length cl) := ht.c0
              have hx1 := eq_false (show ¬ (way 0 l).length < q by omega)
              have hx2 := eq_false (show ¬ D < q by omega)
              have hx3 : IntKind.i64.wrap ((q : Int) + ((D - q : Nat) : Int)) = (D : Int) := by rw [i64_w]; unfold wrap64; omega
              have hx4 := str_take (way 0 l) q
              have hx5 : q ≤ (way 0 l).length := by omega
              clear hsd hsh hp ht hf hb hD hDo hDm hqD
              go_wp2_with (fail)
              go_region_held3 (fun w' => w'.cell? ⟨W.heap.size, 0, none⟩ = some (.slice A l.length cl))
                (first | exact d0 | exact d1 | exact d2 | exact d3 | exact d4 | exact d5 | go_keep)
                (first
                  | (go_at_call 20; ((with_reducible refine (peer_Heard HPd.out).mono ?_); rintro e v1 ⟨rfl, hb1⟩; have HP1 := Lib.hid (HPd.out.below hb1); have HC1 := Lib.hid (Kd.C_below (Kd.C_drew HCr.out) hb1); have d1 := pw_cell_below hb1 d0; have HB1 := Lib.hid hb1; clear hb1))
                  | (go_at_call 21; ((with_reducible refine (cuecardref04_Due.calls (l.length + 1) (hh : Int) A cl l _ _ HC1.out hc HRd.out).mono ?_); rintro e v2 ⟨rfl, hb2⟩; have HP2 := Lib.hid (HP1.out.below hb2); have HC2 := Lib.hid (Kd.C_below HC1.out hb2); have d2 := pw_cell_below hb2 d1; have HB2 := Lib.hid hb2; clear hb2))
                  | (go_at_call 15; ((with_reducible refine (HC15.out _ HP2.out).mono ?_); rintro e v3 ⟨rfl, hb3⟩; have HP3 := Lib.hid (HP2.out.below hb3); have HC3' := Lib.hid (Kd.C_below HC2.out hb3); have d3 := pw_cell_below hb3 d2; have HB3 := Lib.hid hb3; clear hb3))
                  | (go_at_call 20; ((with_reducible refine (peer_Heard HP3.out).mono ?_); rintro e v4 ⟨rfl, hb4⟩; have HP4 := Lib.hid (HP3.out.below hb4); have HC4 := Lib.hid (Kd.C_below HC3'.out hb4); have d4 := pw_cell_below hb4 d3; have HB4 := Lib.hid hb4; clear hb4))
                  | (go_at_call 21; ((with_reducible refine (cuecardref04_Due.calls (l.length + 1) (hh : Int) A cl l _ _ HC4.out hc HRd.out).mono ?_); rintro e v5 ⟨rfl, hb5⟩; have HP5 := Lib.hid (HP4.out.below hb5); have d5 := pw_cell_below hb5 d4; have HB5 := Lib.hid hb5; clear hb5)))
              have hB1 : Below wc.heap.size wc v1 := ⟨HB1.out.os, HB1.out.tape, HB1.out.output, HB1.out.size, HB1.out.block⟩
              have hB5 := below_step (below_step (below_step (below_step hB1 HB2.out) HB3.out) HB4.out) HB5.out
              have HT5 := Lib.hid (HTr.out.below hB5)
              have HF5 := Lib.hid (Kd.F_below HFr.out hB5)
              have HBW5 := Lib.hid (below_step HBr.out hB5)
              clear hB1 hB5 d0 d1 d2 d3 d4 d5 hx1 hx2 hx3 hx4 hx5 hs1 hs2 HTr HFr HBr HPr HPd HP1 HP2 HP3 HP4 HC1 HC2 HC3' HC4 HB1 HB2 HB3 HB4 HB5 hlt'
              go_wp2
              go_roundw
              case rel => exact ⟨x + 1, ⟨q, hh, rr⟩, by omega, by go_num, rfl, HSd.out, HSh.out, HP5.out, HT5.out, HF5.out, HBW5.out⟩
              case measure => simp [intOf]; omega
          · obtain rfl : x = acts.length := by omega
            go_wp2
            go_ret
            exact ⟨rfl, HBr.out⟩
    · have hzb : (chkN l != 0) = true := bne_iff_ne.mpr hz
      go_enter Try.func5, Try.ntmps5
      go_wp2_with (fail)
      rw [HW0.out]
      refine (cuecardlaw20_aliveT W0).mono ?_
      rintro e w1 ⟨rfl, hB1⟩
      have c0 := (HT.out.below hB1).c0
      go_wp2_with (fail)
      refine (cuecardlaw20_great.calls _ A cl l Aa ca acts false _ (Kd.C_below HC.out hB1) hc (Kd.C_below HAW.out hB1) hca HG.out).mono ?_
      rintro e wg ⟨rfl, hBg⟩
      have hB1g := below_step hB1 hBg
      clear c0
      have c0 := (HT.out.below hB1g).c0
      go_wp2_with (fail)
      refine (cuecardref04_Check.calls _ A cl l (chkN l) _ (Kd.C_below HC.out hB1g) hc HK.out).mono ?_
      rintro e w2 ⟨rfl, hB2⟩
      go_wp2_with (fail)
      refine (cuecardlaw20_aliveT w2).mono ?_
      rintro e w3 ⟨rfl, hB3⟩
      go_wp2
      go_ret
      exact ⟨rfl, below_step (below_step (below_step HB.out hB1g) hB2) hB3⟩
end Go.Proofs.Ytpcednpkkimehaa.QA
