import Derived.RangeFuncNested
import Derived.RangeFuncBound
import Derived.RangeFuncCalls
import Derived.RangeFuncLeaves
import Derived.Shelf.Abstract
import Derived.Shelf.RegionOpen
import Derived.WalkKit
import Derived.OwnWalkIn
import Derived.TacticsInMore
import Derived.LoopNIn
import Derived.LoopIn
import Derived.Maps.AppendAt
import Derived.StillTailTactics
import Derived.Lib.Hide
import Derived.Lib.LazyBuf
import Derived.Outline
import Derived.Deep.RegionWith
import Derived.Deep.RegionLaw
import Derived.Deep.AppendLies
import Derived.CallsIn

import Derived.Lib.Bytes
import Derived.Deep.DeepCutAuto
import Derived.Lib.SmallJoins
import Derived.Laws.EntriesVeiled
import Derived.Deep.RegionHeld3
import Derived.BigRegion
import Derived.BigQuiet
import Derived.Test.YtpcednpkkimehaaPPl
import Derived.Test.YtpcednpkkimehaaGRf2
import Derived.Test.YtpcednpkkimehaaGCuts0
namespace Go.Proofs.Ytpcednpkkimehaa.QA
open Go.RowKit Go.Shelf Go.Proofs.YtpcednpkkimehaaW.PrintWords Go.Proofs.YtpcednpkkimehaaW.PrintLast Go.Proofs.YtpcednpkkimehaaW.PrintMore
attribute [local go_sem] max2_int min2_int max_two min_two max_three min_three max_four min_four   -- for this text's walks alone
set_option linter.unusedVariables false
set_option linter.unusedSimpArgs false
/-! ### PeerCuts -/
theorem hear_parts (l : List S40) (fin : Bool) (s : Pz) (b : List Int) : s.hear (Pc.of (parts l) fin) b = s.hear (Pc.of l fin) b := by
  have h : (Pc.of (parts l) fin).inn = (Pc.of l fin).inn := way_parts 1 l
  unfold Pz.hear
  rw [h]
set_option maxRecDepth 100000 in
set_option maxHeartbeats 8000000 in
theorem peerCuts_walk (l : List S40) (hl : small l) (fin : Bool) (A : Option Addr) (cl : Nat) (acts : List S42) (Aa : Option Addr) (ca : Nat) (W : World) (hC : Kd.C k40 W A l.length l) (hc : l.length ≤ cl) (hA : Kd.C k42 W Aa acts.length acts) (hca : acts.length ≤ ca) :
    Calls Try.prog 4 #[.agg #[.slice A l.length cl, .bool fin], .slice Aa acts.length ca] W fun e W' => e = .returned (.bool true) ∧ Below W.heap.size W W' := by
  have hk := refcheck_f l hl (k := 2 * l.length + 1) (Nat.le_refl _)
  rw [show (if 4096 < l.length then (10 : Int) else chk l 0) = chkN l from rfl] at hk
  have hs := small_tot hl
  have hT : TrAt (W.alloc (.cells #[.slice A l.length cl, .bool fin] 24)) W.heap.size A l.length cl fin := World.alloc_heap_new W _
  have hBW : Below W.heap.size W (W.alloc (.cells #[.slice A l.length cl, .bool fin] 24)) := (Below.refl _ W).alloc (Nat.le_refl _) _
  have hCW := Kd.C_below hC hBW
  have hAW := Kd.C_below hA hBW
  have HW := Lib.hid (show (W.alloc (.cells #[.slice A l.length cl, .bool fin] 24)).heap.size = W.heap.size + 1 by simp)
  generalize hW0 : W.alloc (.cells #[.slice A l.length cl, .bool fin] 24) = W0 at hT hBW hCW hAW HW
  have HAW := Lib.hid hAW
  have HA := Lib.hid hA
  have HC0 := Lib.hid hC
  have HK := Lib.hid hk
  have HT := Lib.hid hT
  have HC := Lib.hid hCW
  have HB := Lib.hid hBW
  have HS := Lib.hid hs
  have HW0 := Lib.hid hW0
  clear hk hT hCW hBW hs hW0 hC hA hAW
  obtain ⟨gr, hgr, hgr2⟩ := great_f l acts
  have HG := Lib.hid hgr
  clear hgr
  cases gr with
  | true =>
    clear hgr2
    go_enter Try.func4, Try.ntmps4
    go_wp2_with (fail)
    rw [HW0.out]
    refine (cuecardlaw20_aliveT W0).mono ?_
    rintro e w1 ⟨rfl, hB1⟩
    have c0 := (HT.out.below hB1).c0
    go_wp2_with (fail)
    refine (cuecardlaw20_great.calls _ A cl l Aa ca acts true _ (Kd.C_below HC.out hB1) hc (Kd.C_below HAW.out hB1) hca HG.out).mono ?_
    rintro e w2 ⟨rfl, hB2⟩
    go_wp2_with (fail)
    refine (cuecardlaw20_aliveT w2).mono ?_
    rintro e w3 ⟨rfl, hB3⟩
    go_wp2
    go_ret
    exact ⟨rfl, below_step (below_step (below_step HB.out hB1) hB2) hB3⟩
  | false =>
    obtain ⟨hacts, h60, hb100⟩ := hgr2 rfl
    have HB100 := Lib.hid hb100
    clear hgr2 hb100
    by_cases hz : chkN l = 0
    · have HN := Lib.hid (fun W => new_c l hl fin A cl W)
      have HK' := Lib.hid (hz ▸ HK.out)
      have HZ := Lib.hid hz
      have H60 := Lib.hid h60
      rw [hz] at HN
      clear HK hz
      go_enter Try.func4, Try.ntmps4
      go_wp2_with (fail)
      rw [HW0.out]
      refine (cuecardlaw20_aliveT W0).mono ?_
      rintro e w1 ⟨rfl, hB1⟩
      have c0 := (HT.out.below hB1).c0
      go_wp2_with (fail)
      refine (cuecardlaw20_great.calls _ A cl l Aa ca acts false _ (Kd.C_below HC.out hB1) hc (Kd.C_below HAW.out hB1) hca HG.out).mono ?_
      rintro e wg ⟨rfl, hBg⟩
      have hB1g := below_step hB1 hBg
      clear c0
      have c0 := (HT.out.below hB1g).c0
      go_wp2_with (fail)
      refine (cuecardref04_Check.calls _ A cl l 0 _ (Kd.C_below HC.out hB1g) hc HK'.out).mono ?_
      rintro e w2 ⟨rfl, hB2⟩
      have HB2 := Lib.hid (below_step hB1g hB2)
      have HT2 := Lib.hid (HT.out.below HB2.out)
      have HC2 := Lib.hid (Kd.C_below HC.out HB2.out)
      have HBW2 := Lib.hid (below_step HB.out HB2.out)
      clear c0 hB1 hBg hB1g hB2 HT HC HB HB2 HAW
      have c0 := HT2.out.c0
      go_wp2_with (fail)
      clear c0
      go_loopw [5, 33] (fun sv i wr => ∃ x : Nat, x ≤ l.length ∧ i = .int .i64 x ∧ Row3 w2 wr w2.heap.size sv (parts (l.take x)) ∧ Below w2.heap.size w2 wr)
        (fun _ i _ => l.length - (intOf i).toNat)
      case atStart => exact ⟨0, Nat.zero_le _, rfl, Row3.nil _ _ _, Below.refl _ _⟩
      case round =>
        obtain ⟨x, hx, rfl, hrow, hBr⟩ := hrel
        by_cases hlt : x < l.length
        · have hlt' := eq_true hlt
          obtain ⟨ad, A2, c2, hAe, hx0, hx1, hx2, hl2, hC2⟩ := at_T40 HC2.out (x : Int) (by omega) (by omega)
          subst hAe
          rw [Int.toNat_natCast] at hx0 hx1 hx2
          replace hx0 := pw_cell_below hBr hx0
          replace hx1 := pw_cell_below hBr hx1
          replace hx2 := pw_cell_below hBr hx2
          have hy : rd_T40 l (x : Int) = l[x] := by
            unfold rd_T40
            rw [Int.toNat_natCast, List.getD_eq_getElem?_getD, List.getElem?_eq_getElem hlt]
            rfl
          have HY := Lib.hid hy
          clear hy
          generalize hye : rd_T40 l (x : Int) = y at hx0 hx1 hx2 hl2 hC2 HY
          have HROW := Lib.hid hrow
          have HBR := Lib.hid hBr
          have HCC := Lib.hid hC2
          clear hrow hBr hC2
          have hmem : y ∈ l := by rw [HY.out]; exact List.getElem_mem hlt
          have hyl : y.f2.length ≤ 1048576 := by have := tot_mem hmem; have := HS.out; omega
          have hyd := chkN_mem HZ.out H60.out y hmem
          have hq : wrap64 ((y.f2.length : Int) / 2) = ((y.f2.length / 2 : Nat) : Int) := by unfold wrap64; omega
          have hw1 : IntKind.i64.wrap (1 - y.f0) = 1 - y.f0 := by rw [i64_w]; unfold wrap64; omega
          obtain ⟨H, hH⟩ : ∃ H, H = y.f2.length / 2 := ⟨_, rfl⟩
          obtain ⟨A3, hcutT, hcutF, hits⟩ := three_items (x := y) HCC.out hl2 H hH
          rw [← hH] at hq
          obtain ⟨p, hp⟩ : ∃ p, p = (y.f2.take H).length := ⟨_, rfl⟩
          obtain ⟨q, hq2⟩ : ∃ q, q = (y.f2.drop H).length := ⟨_, rfl⟩
          obtain ⟨c3, hc3⟩ : ∃ c3, c3 = c2 - H := ⟨_, rfl⟩
          rw [← hp] at hcutT
          rw [← hq2, ← hc3] at hcutF
          rw [← hc3] at hits
          have hce : [Value.int .i64 y.f0, .int .i64 0, .slice A2 p c2, .int .i64 (1 - y.f0), .int .i64 0, .slice none 0 0, .int .i64 y.f0, .int .i64 0, .slice A3 q c3] = ([((⟨y.f0, 0, y.f2.take H⟩ : S40), A2, c2), (⟨1 - y.f0, 0, []⟩, none, 0), (⟨y.f0, 0, y.f2.drop H⟩, A3, c3)] : List Itm).flatMap cells3 := by rw [hp, hq2]; rfl
          have HCE := Lib.hid hce
          have HH := Lib.hid hH
          have HITS := Lib.hid hits
          have HW1 := Lib.hid hw1
          have HQQ := Lib.hid hq
          clear hits hmem hyl hyd hq hw1 hye hH hp hq2 hc3 hce
          go_upto_region 8 with (fail)
          rw [HQQ.out]
          have hbV : Below wr.heap.size wr (wr.alloc (.cells #[.int .i64 y.f0, .int .i64 y.f1, .slice A2 y.f2.length c2] 40)) := (Below.refl _ wr).alloc (Nat.le_refl _) _
          have hEV : (wr.alloc (.cells #[.int .i64 y.f0, .int .i64 y.f1, .slice A2 y.f2.length c2] 40)).heap[wr.heap.size]? = some (.cells #[.int .i64 y.f0, .int .i64 y.f1, .slice A2 y.f2.length c2] 40 (0, 0)) := World.alloc_heap_new wr _
          generalize wr.alloc (.cells #[.int .i64 y.f0, .int .i64 y.f1, .slice A2 y.f2.length c2] 40) = V at hbV hEV ⊢
          have v0 : V.drew.cell? ⟨wr.heap.size, 0, none⟩ = some (.int .i64 y.f0) := (blk_cell hEV 0).trans rfl
          have v2 : V.drew.cell? ⟨wr.heap.size, 2, none⟩ = some (.slice A2 y.f2.length c2) := (blk_cell hEV 2).trans rfl
          have hBV := below_step HBR.out hbV
          have hrV := HROW.out.below hbV
          clear hx0 hx1 hx2 hEV hbV
          obtain ⟨Z, hZ⟩ : ∃ Z, Z = (V.alloc (.cells #[.int .i64 y.f0, .int .i64 0, .slice A2 p c2, .int .i64 (1 - y.f0), .int .i64 0, .slice none 0 0, .int .i64 y.f0, .int .i64 0, .slice A3 q c3] 40)).drew := ⟨_, rfl⟩
          have hbZ : Below V.heap.size V Z := by rw [hZ]; exact below_drew ((Below.refl _ V).alloc (Nat.le_refl _) _)
          have hnZ : Z.heap[V.heap.size]? = some (.cells #[.int .i64 y.f0, .int .i64 0, .slice A2 p c2, .int .i64 (1 - y.f0), .int .i64 0, .slice none 0 0, .int .i64 y.f0, .int .i64 0, .slice A3 q c3] 40 (0, 0)) := by rw [hZ]; exact World.alloc_heap_new V _
          have hBZ := below_step hBV hbZ
          obtain ⟨v9, w9, happ, hR9, hg9⟩ := add_row (hrV.below hbZ) hBZ.size ⟨V.heap.size, 0, none⟩ 3 [((⟨y.f0, 0, y.f2.take (H)⟩ : S40), A2, c2), (⟨1 - y.f0, 0, []⟩, none, 0), (⟨y.f0, 0, y.f2.drop (H)⟩, A3, c3)] (by rw [parts_len, List.length_take]; have := H60.out; show (3 * min x l.length + 3) * 40 ≤ 140737488355328; omega) HITS.out
            (fun j u hu => by rw [add_plain]; exact (blk_cell hnZ j).trans (by rw [← HCE.out] at hu; simpa using hu)) 22
          have HB9 := Lib.hid (hBZ.grown hg9 hBZ.size (fun k hk => (hrV.below hbZ).base_ k hk))
          have HR9 := Lib.hid hR9
          have HSL := Lib.hid hrV.slice
          have hz0 : Z.cell? ⟨wr.heap.size, 0, none⟩ = some (.int .i64 y.f0) := (World.cell?_of_block (a := ⟨wr.heap.size, 0, none⟩) (w' := Z) (hbZ.block _ (World.block_lt_of_cell? _ _ v0))).trans v0
          have hz2 : Z.cell? ⟨wr.heap.size, 2, none⟩ = some (.slice A2 y.f2.length c2) := (World.cell?_of_block (a := ⟨wr.heap.size, 2, none⟩) (w' := Z) (hbZ.block _ (World.block_lt_of_cell? _ _ v2))).trans v2
          have u0 : w9.cell? ⟨wr.heap.size, 0, none⟩ = some (.int .i64 y.f0) := (World.cell?_of_block (a := ⟨wr.heap.size, 0, none⟩) (w' := w9) (hg9.block _ (World.block_lt_of_cell? _ _ hz0) (fun e => Nat.lt_irrefl _ (HROW.out.lt _ e.symm)))).trans hz0
          have u2 : w9.cell? ⟨wr.heap.size, 2, none⟩ = some (.slice A2 y.f2.length c2) := (World.cell?_of_block (a := ⟨wr.heap.size, 2, none⟩) (w' := w9) (hg9.block _ (World.block_lt_of_cell? _ _ hz2) (fun e => Nat.lt_irrefl _ (HROW.out.lt _ e.symm)))).trans hz2
          rw [hZ] at hz0 hz2
          rw [hZ] at happ
          replace happ : (Builtin.append_ #[22, 22] 22 #[u5, .slice (some ⟨V.heap.size, 0, none⟩) 3 3]).run Try.prog (V.alloc (.cells #[.int .i64 y.f0, .int .i64 0, .slice A2 p c2, .int .i64 (1 - y.f0), .int .i64 0, .slice none 0 0, .int .i64 y.f0, .int .i64 0, .slice A3 q c3] 40)).drew = .ok v9 w9 := happ
          clear hR9 hg9 hBZ hnZ hbZ hZ hrV hBV hlt'
          have hw1 := HW1.out
          go_region_held3 (fun w' => w'.cell? ⟨wr.heap.size, 0, none⟩ = some (.int .i64 y.f0) ∧ w'.cell? ⟨wr.heap.size, 2, none⟩ = some (.slice A2 y.f2.length c2))
            (first | exact ⟨v0, v2⟩ | exact ⟨hz0, hz2⟩ | exact ⟨u0, u2⟩ | go_keep)
            (first | (refine step_append_run3 rfl (.tmp 41) (.tmp 60) 22 rfl _ _ rfl rfl _ _ happ ?_))
          all_goals
            clear v0 v2 happ hcutT hcutF hz0 hz2 u0 u2
            go_wp2
            go_roundw
            case rel => exact ⟨x + 1, by omega, by go_num, by rw [List.take_succ_eq_append_getElem hlt, parts_append, ← HY.out]; have hr := HR9.out; rw [HH.out] at hr; exact hr, HB9.out⟩
            case measure => simp [intOf]; omega
        · obtain rfl : x = l.length := by omega
          rw [List.take_length] at hrow
          obtain ⟨Av, cv, rfl, hcv, hCv⟩ := hrow.reads hBr
          clear hrow
          have hlp := small_parts HZ.out H60.out
          have hzp := chkN_parts HZ.out H60.out
          have HNP := Lib.hid (fun W => new_c (parts l) hlp fin Av cv W)
          rw [hzp] at HNP
          have HLP := Lib.hid hlp
          have HCP := Lib.hid hCv
          have HT3 := Lib.hid (HT2.out.below hBr)
          have HBWr := Lib.hid (below_step HBW2.out hBr)
          have HCr := Lib.hid (Kd.C_below HC2.out hBr)
          have c0 := HT3.out.c0
          have c1 := HT3.out.c1
          clear hlp hzp hCv hBr HT2 HC2 HBW2
          go_wp2_with (fail)
          refine (HN.out wr HCr.out hc).mono ?_
          clear c0 c1
          rintro e w3 ⟨left, h⟩
          obtain ⟨a, rfl, hP, haB, hb3⟩ := h trivial
          clear h left HN
          have HP3 := Lib.hid hP
          have HT3' := Lib.hid (HT3.out.below hb3)
          have HCP3 := Lib.hid (Kd.C_below HCP.out hb3)
          have HBW3 := Lib.hid (below_step HBWr.out hb3)
          have HaT := Lib.hid (show W.heap.size < a.B by have := (Array.getElem?_eq_some_iff.1 HT3.out).1; omega)
          have HaL := Lib.hid hP.lt
          clear hP haB hb3 HT3 HCr HBWr HCP
          have c0 := HT3'.out.c0
          have c1 := HT3'.out.c1
          go_wp2_with (fail)
          refine (HNP.out w3 HCP3.out hcv).mono ?_
          clear c0 c1
          rintro e w4 ⟨left, h⟩
          obtain ⟨b, rfl, hQ, hbB, hb4⟩ := h trivial
          clear h HNP left
          have HP4 := Lib.hid (HP3.out.below hb4)
          have HQ4 := Lib.hid hQ
          have HBW4 := Lib.hid (below_step HBW3.out hb4)
          have HbB := Lib.hid hbB
          have HbL := Lib.hid hQ.lt
          obtain ⟨okA, hpa, hpq⟩ : ∃ ok : Nat → Prop, PeAt w4 ok a (Pc.of l fin) ⟨0, 0, true⟩ ∧ (∀ (V V' : World) (s : Pz), PeAt V ok a (Pc.of l fin) s → V.grownBy V' (some b.B) → PeAt V' ok a (Pc.of l fin) s) := ⟨_, HP4.out, fun V V' s h g => h.grown g (fun e => by injection e with e; have := HaL.out; omega) (fun k hk e => by injection e with e; omega)⟩
          obtain ⟨okB, hqb, hqp⟩ : ∃ ok : Nat → Prop, PeAt w4 ok b (Pc.of (parts l) fin) ⟨0, 0, true⟩ ∧ (∀ (V V' : World) (s : Pz), PeAt V ok b (Pc.of (parts l) fin) s → V.grownBy V' (some a.B) → PeAt V' ok b (Pc.of (parts l) fin) s) := ⟨_, HQ4.out, fun V V' s h g => h.grown g (fun e => by injection e with e; have := HaL.out; omega) (fun k hk e => by injection e with e; have := HaL.out; omega)⟩
          clear HP4 HQ4
          have HP4 := Lib.hid hpa
          have HQ4 := Lib.hid hqb
          have HPQ := Lib.hid hpq
          have HQP := Lib.hid hqp
          clear hpa hqb hpq hqp
          clear hQ hbB hb4 HT3' HCP3 HBW3 HP3
          go_wp2_with (fail)
          go_loopw [92] (fun i wr => ∃ (x : Nat) (s : Pz), x ≤ acts.length ∧ i = .int .i64 x ∧ s.said ≤ due s.heard 0 0 (mrg l) ∧ s.heard ≤ x * 1000 ∧ PeAt wr okA a (Pc.of l fin) s ∧ PeAt wr okB b (Pc.of (parts l) fin) s ∧ Below W.heap.size W wr)
            (fun i _ => acts.length - (intOf i).toNat)
          case atStart => exact ⟨0, ⟨0, 0, true⟩, Nat.zero_le _, rfl, Nat.zero_le _, Nat.zero_le _, HP4.out, HQ4.out, HBW4.out⟩
          case round =>
            obtain ⟨x, s, hx, rfl, hsd, hsh, hPr, hQr, hBr⟩ := hrel
            have HPr := Lib.hid hPr
            have HQr := Lib.hid hQr
            have HBr := Lib.hid hBr
            have HSd := Lib.hid hsd
            have HSh := Lib.hid hsh
            clear hPr hQr hBr HP4 HQ4 HBW4 hsd hsh
            by_cases hlt : x < acts.length
            · have hlt' := eq_true hlt
              obtain ⟨ad, A2, c2, hAe, hx0, hx1, hx2, hl2, hC2⟩ := at_T42 HA.out (x : Int) (by omega) (by omega)
              subst hAe
              rw [Int.toNat_natCast] at hx0 hx1 hx2
              replace hx0 := pw_cell_below HBr.out hx0
              replace hx1 := pw_cell_below HBr.out hx1
              replace hx2 := pw_cell_below HBr.out hx2
              have hmem : (rd_T42 acts (x : Int)).f2.length ≤ 100 := by
                unfold rd_T42
                rw [Int.toNat_natCast, List.getD_eq_getElem?_getD, List.getElem?_eq_getElem hlt]
                exact HB100.out _ (List.getElem_mem hlt)
              generalize rd_T42 acts (x : Int) = y at hx0 hx1 hx2 hl2 hC2 hmem
              have HCY := Lib.hid hC2
              clear hC2
              go_upto_block 4 with (fail)
              have hbV : Below wr.heap.size wr (wr.alloc (.cells #[.int .i64 y.f0, .int .i64 y.f1, .slice A2 y.f2.length c2] 42)) := (Below.refl _ wr).alloc (Nat.le_refl _) _
              have hEV : (wr.alloc (.cells #[.int .i64 y.f0, .int .i64 y.f1, .slice A2 y.f2.length c2] 42)).heap[wr.heap.size]? = some (.cells #[.int .i64 y.f0, .int .i64 y.f1, .slice A2 y.f2.length c2] 42 (0, 0)) := World.alloc_heap_new wr _
              generalize wr.alloc (.cells #[.int .i64 y.f0, .int .i64 y.f1, .slice A2 y.f2.length c2] 42) = V at hbV hEV ⊢
              have HPv := Lib.hid (HPr.out.below hbV)
              have HQv := Lib.hid (HQr.out.below hbV)
              have HBv := Lib.hid (below_step HBr.out hbV)
              have HaE := Lib.hid (show a.B < wr.heap.size from HPr.out.lt)
              have HbE := Lib.hid (show b.B < wr.heap.size from HQr.out.lt)
              have HVw := Lib.hid hbV.size
              have HD := Lib.hid (due_out (s.heard : Int) l)
              have HL := Lib.hid (show (way 0 l).length ≤ 1048576 ∧ (way 1 l).length ≤ 1048576 by have := way_le 0 l; have := way_le 1 l; have := HS.out; omega)
              have v0 : V.cell? ⟨wr.heap.size, 0, none⟩ = some (.int .i64 y.f0) := (blk_cell hEV 0).trans rfl
              have v1 : V.cell? ⟨wr.heap.size, 1, none⟩ = some (.int .i64 y.f1) := (blk_cell hEV 1).trans rfl
              have v2 : V.cell? ⟨wr.heap.size, 2, none⟩ = some (.slice A2 y.f2.length c2) := (blk_cell hEV 2).trans rfl
              clear hbV hEV HPr HQr HBr hx0 hx1 hx2
              go_cut [92] (fun s92 wx => ∃ s' : Pz, s92 = .int .i64 x ∧ s'.said ≤ due s'.heard 0 0 (mrg l) ∧ s'.heard ≤ (x + 1) * 1000 ∧ PeAt wx okA a (Pc.of l fin) s' ∧ PeAt wx okB b (Pc.of (parts l) fin) s' ∧ Below W.heap.size W wx)
              case first =>
                by_cases k0 : y.f0 = 0
                · have k0b : (y.f0 == 0) = true := beq_iff_eq.mpr k0
                  have HPd := Lib.hid HPv.out.drew
                  have HQd := Lib.hid HQv.out.drew
                  have d1 : V.drew.cell? ⟨wr.heap.size, 1, none⟩ = some (.int .i64 y.f1) := v1
                  have C2 := peer_Say HPd.out (small_mrg hl) HSd.out HD.out HL.out.1 y.f1
                  have hyl := peek_len (c := Pc.of l fin) (s := s) HD.out y.f1
                  have CQ := fun (w7 : World) (h : PeAt w7 okB b (Pc.of (parts l) fin) s) => peer_Say h (small_mrg HLP.out) (by show s.said ≤ due s.heard 0 0 (mrg (parts l)); rw [due_parts]; exact HSd.out) (by show due s.heard 0 0 (mrg (parts l)) ≤ (way 0 (parts l)).length; rw [due_parts, way_parts]; exact HD.out) (by show (way 0 (parts l)).length ≤ 1048576; rw [way_parts]; exact HL.out.1) y.f1
                  simp only [Pz.say, peek_parts] at C2 CQ
                  generalize s.peek (Pc.of l fin) y.f1 = ys at C2 hyl CQ
                  replace hyl : ys.length ≤ due (s.heard : Int) 0 0 (mrg l) - s.said := hyl
                  have HC2 := Lib.hid C2
                  have HCQ := Lib.hid CQ
                  have HYl := Lib.hid hyl
                  clear C2 hyl CQ v0 v1 v2 k0
                  go_upto_region 19 with (fail)
                  go_region_with (first
                      | (go_at_call 14; ((with_reducible refine HC2.out.mono ?_); rintro e w7 ⟨v, rfl, hR, hp7, hg7⟩; have hcv7 := own_string (P := Try.prog) Try.underlying31 Try.underlying5 Try.underlying9 (Kd.own_of_R hR); obtain ⟨Av7, cv7, rfl⟩ := Kd.R_slice hR; have HRy := Lib.hid (Kd.R_bound hR); have HP7 := Lib.hid hp7; have HG7 := Lib.hid hg7; have n7 := (World.cell?_of_block (a := ⟨wr.heap.size, 1, none⟩) (w' := w7) (hg7.block wr.heap.size (World.block_lt_of_cell? _ _ d1) (fun e => by injection e with e; have := HaE.out; omega))).trans d1; have HQ7 := Lib.hid (HQP.out _ _ _ HQd.out hg7); clear hR hp7 hg7))
                      | (go_at_call 14; ((with_reducible refine (HCQ.out w7 HQ7.out).mono ?_); rintro e w8 ⟨v, rfl, hR, hp8, hg8⟩; have hcv8 := own_string (P := Try.prog) Try.underlying31 Try.underlying5 Try.underlying9 (Kd.own_of_R hR); have hcv9 := own_string (P := Try.prog) Try.underlying31 Try.underlying5 Try.underlying9 (Kd.own_of_R (Kd.R_grown HRy.out hg8 (fun k hk e => by injection e with e; have := hk.2.1; have := HbE.out; have := HVw.out; have h5 : V.heap.size ≤ k := hk.2.1; omega))); obtain ⟨Av8, cv8, rfl⟩ := Kd.R_slice hR; have HQ8 := Lib.hid hp8; have HG8 := Lib.hid hg8; have n8 := (World.cell?_of_block (a := ⟨wr.heap.size, 1, none⟩) (w' := w8) (hg8.block wr.heap.size (World.block_lt_of_cell? _ _ n7) (fun e => by injection e with e; have := HbE.out; omega))).trans n7; clear hR hp8 hg8)))
                  all_goals
                    have HF8 := Lib.hid (show PeAt w8 okA a (Pc.of l fin) ⟨s.said + ys.length, s.heard, s.right⟩ ∧ Below W.heap.size W w8 by
                      have h7 : V.grownBy w7 (some a.B) := ⟨HG7.out.os, HG7.out.tape, HG7.out.output, HG7.out.size, HG7.out.block⟩
                      have hb7 := HBv.out.grown h7 HBv.out.size (fun k hk => by injection hk with hk; have := HaT.out; omega)
                      exact ⟨HPQ.out _ _ _ HP7.out HG8.out, hb7.grown HG8.out hb7.size (fun k hk => by injection hk with hk; have := HaT.out; have := HaL.out; have := HbB.out; omega)⟩)
                    go_wp2_with (fail)
                    go_meet
                    exact ⟨⟨s.said + ys.length, s.heard, s.right⟩, rfl, by have := HYl.out; have := HSd.out; show s.said + ys.length ≤ due (s.heard : Int) 0 0 (mrg l); omega, by have := HSh.out; show s.heard ≤ (x + 1) * 1000; omega, HF8.out.1, HQ8.out, HF8.out.2⟩
                · have k0b : (y.f0 == 0) = false := beq_eq_false_iff_ne.mpr k0
                  by_cases k2 : y.f0 = 2
                  · have k2b : (y.f0 == 2) = true := beq_iff_eq.mpr k2
                    have C4 := peer_Hear HPv.out HL.out.2 (show s.heard ≤ 4294967296 by have := HSh.out; omega) A2 c2 y.f2 (Kd.C_below HCY.out HBv.out) (by omega)
                    have HC4 := Lib.hid C4
                    clear C4 k0 k2
                    go_wp2_with (fail)
                    refine HC4.out.mono ?_
                    rintro e w7 ⟨⟨v, rfl⟩, hp7, hg7⟩
                    have n7 := (World.cell?_of_block (a := ⟨wr.heap.size, 2, none⟩) (w' := w7) (hg7.block wr.heap.size (World.block_lt_of_cell? _ _ v2) (fun e => by injection e with e; have := HaE.out; omega))).trans v2
                    have HP7 := Lib.hid hp7
                    have HQ7 := Lib.hid (HQP.out _ _ _ HQv.out hg7)
                    have HB7 := Lib.hid (HBv.out.grown hg7 HBv.out.size (fun k hk => by injection hk with hk; have := HaT.out; omega))
                    clear hp7 hg7 HPv HQv HBv HC4 v0 v1 v2
                    have C5 := peer_Hear HQ7.out (show (way 1 (parts l)).length ≤ 1048576 by rw [way_parts]; exact HL.out.2) (show s.heard ≤ 4294967296 by have := HSh.out; omega) A2 c2 y.f2 (Kd.C_below HCY.out HB7.out) (by omega)
                    rw [hear_parts] at C5
                    have HC5 := Lib.hid C5
                    clear C5
                    go_wp2_with (fail)
                    refine HC5.out.mono ?_
                    rintro e w8 ⟨⟨v, rfl⟩, hp8, hg8⟩
                    have HQ8 := Lib.hid hp8
                    have HP8 := Lib.hid (HPQ.out _ _ _ HP7.out hg8)
                    have HB8 := Lib.hid (HB7.out.grown hg8 HB7.out.size (fun k hk => by injection hk with hk; have := HaT.out; have := HaL.out; have := HbB.out; omega))
                    clear hp8 hg8 HP7 HQ7 HB7 HC5 n7
                    go_wp2_with (fail)
                    go_meet
                    exact ⟨s.hear (Pc.of l fin) y.f2, rfl, Nat.le_trans HSd.out (due_mono (by show (s.heard : Int) ≤ ((s.heard + y.f2.length : Nat) : Int); omega) _ _ _), by have := HSh.out; show s.heard + y.f2.length ≤ (x + 1) * 1000; omega, HP8.out, HQ8.out, HB8.out⟩
                  · have k2b : (y.f0 == 2) = false := beq_eq_false_iff_ne.mpr k2
                    clear k0 k2
                    go_wp2_with (fail)
                    go_meet
                    exact ⟨s, rfl, HSd.out, by have := HSh.out; omega, HPv.out, HQv.out, HBv.out⟩
              case rest =>
                clear v0 v1 v2 HPv HQv HBv HaE HbE HVw HCY HSd HSh HD
                obtain ⟨s2, rfl, hsd, hsh, hp, hq, hb⟩ := hcut
                have HSd := Lib.hid hsd
                have HSh := Lib.hid hsh
                have HP1 := Lib.hid hp
                have HQ1 := Lib.hid hq
                have HB1 := Lib.hid hb
                have HDm := Lib.hid (show due (s2.heard : Int) 0 0 (mrg l) ≤ 1048576 by have := due_out (s2.heard : Int) l; have := HL.out.1; omega)
                clear hsd hsh hp hq hb hlt'
                go_wp2_with (fail)
                refine (peer_Due HP1.out (small_mrg hl) HSd.out HDm.out).mono ?_
                rintro e z1 ⟨rfl, hb⟩
                have HP2 := Lib.hid (HP1.out.below hb)
                have HQ2 := Lib.hid (HQ1.out.below hb)
                have HB2 := Lib.hid (below_step HB1.out hb)
                clear hb HP1 HQ1 HB1
                go_wp2_with (fail)
                have C5 := peer_Due HQ2.out (small_mrg HLP.out) (by show s2.said ≤ due s2.heard 0 0 (mrg (parts l)); rw [due_parts]; exact HSd.out) (by show due s2.heard 0 0 (mrg (parts l)) ≤ 1048576; rw [due_parts]; exact HDm.out)
                rw [show due (s2.heard : Int) 0 0 (Pc.of (parts l) fin).l = due (s2.heard : Int) 0 0 (Pc.of l fin).l from due_parts _ l] at C5
                refine C5.mono ?_
                clear C5
                rintro e z2 ⟨rfl, hb⟩
                have HP3 := Lib.hid (HP2.out.below hb)
                have HQ3 := Lib.hid (HQ2.out.below hb)
                have HB3 := Lib.hid (below_step HB2.out hb)
                clear hb HP2 HQ2 HB2
                go_wp2_with (fail)
                refine (peer_Over HP3.out).mono ?_
                rintro e z3 ⟨rfl, hb⟩
                have HP4 := Lib.hid (HP3.out.below hb)
                have HQ4 := Lib.hid (HQ3.out.below hb)
                have HB4 := Lib.hid (below_step HB3.out hb)
                clear hb HP3 HQ3 HB3
                go_wp2_with (fail)
                have C5 := peer_Over HQ4.out
                rw [over_parts] at C5
                refine C5.mono ?_
                clear C5
                rintro e z4 ⟨rfl, hb⟩
                have HP5 := Lib.hid (HP4.out.below hb)
                have HQ5 := Lib.hid (HQ4.out.below hb)
                have HB5 := Lib.hid (below_step HB4.out hb)
                clear hb HP4 HQ4 HB4
                go_wp2_with (fail)
                refine (peer_Right HP5.out).mono ?_
                rintro e z5 ⟨rfl, hb⟩
                have HP6 := Lib.hid (HP5.out.below hb)
                have HQ6 := Lib.hid (HQ5.out.below hb)
                have HB6 := Lib.hid (below_step HB5.out hb)
                clear hb HP5 HQ5 HB5
                go_wp2_with (fail)
                refine (peer_Right HQ6.out).mono ?_
                rintro e z6 ⟨rfl, hb⟩
                have HP7 := Lib.hid (HP6.out.below hb)
                have HQ7 := Lib.hid (HQ6.out.below hb)
                have HB7 := Lib.hid (below_step HB6.out hb)
                clear hb HP6 HQ6 HB6
                go_wp2
                go_roundw
                case rel => exact ⟨x + 1, s2, by omega, by go_num, HSd.out, HSh.out, HP7.out, HQ7.out, HB7.out⟩
                case measure => simp [intOf]; omega
            · obtain rfl : x = acts.length := by omega
              go_wp2
              go_ret
              exact ⟨rfl, HBr.out⟩
    · have hzb : (chkN l != 0) = true := bne_iff_ne.mpr hz
      go_enter Try.func4, Try.ntmps4
      go_wp2_with (fail)
      rw [HW0.out]
      refine (cuecardlaw20_aliveT W0).mono ?_
      rintro e w1 ⟨rfl, hB1⟩
      have c0 := (HT.out.below hB1).c0
      go_wp2_with (fail)
      refine (cuecardlaw20_great.calls _ A cl l Aa ca acts false _ (Kd.C_below HC.out hB1) hc (Kd.C_below HAW.out hB1) hca HG.out).mono ?_
      rintro e wg ⟨rfl, hBg⟩
      have hB1g := below_step hB1 hBg
      clear c0
      have c0 := (HT.out.below hB1g).c0
      go_wp2_with (fail)
      refine (cuecardref04_Check.calls _ A cl l (chkN l) _ (Kd.C_below HC.out hB1g) hc HK.out).mono ?_
      rintro e w2 ⟨rfl, hB2⟩
      go_wp2_with (fail)
      refine (cuecardlaw20_aliveT w2).mono ?_
      rintro e w3 ⟨rfl, hB3⟩
      go_wp2
      go_ret
      exact ⟨rfl, below_step (below_step (below_step HB.out hB1g) hB2) hB3⟩
end Go.Proofs.Ytpcednpkkimehaa.QA
