import Derived.RangeFuncNested
import Derived.RangeFuncBound
import Derived.RangeFuncCalls
import Derived.RangeFuncLeaves
import Derived.Shelf.Abstract
import Derived.Shelf.RegionOpen
import Derived.WalkKit
import Derived.OwnWalkIn
import Derived.TacticsInMore
import Derived.LoopNIn
import Derived.LoopIn
import Derived.Maps.AppendAt
import Derived.StillTailTactics
import Derived.Lib.Hide
import Derived.Lib.LazyBuf
import Derived.Outline
import Derived.Deep.RegionWith
import Derived.Deep.RegionLaw
import Derived.Deep.AppendLies
import Derived.CallsIn

import Derived.Lib.Bytes
import Derived.Deep.DeepCutAuto
import Derived.Lib.SmallJoins
import Derived.Laws.EntriesVeiled
import Derived.Deep.RegionHeld3
import Derived.BigRegion
import Derived.BigQuiet
import Derived.Test.YtefippbcgdfnbaaPGet
import Derived.Test.YtefippbcgdfnbaaGAlive
import Derived.Test.YtefippbcgdfnbaaQAx26
import Derived.Test.YtefippbcgdfnbaaQAx12
import Derived.Test.YtefippbcgdfnbaaQAx20
import Derived.Test.YtefippbcgdfnbaaQAx21
import Derived.Test.YtefippbcgdfnbaaQAx22
import Derived.Test.YtefippbcgdfnbaaGRd
namespace Go.Proofs.Ytefippbcgdfnbaa.QA
open Go.RowKit Go.Shelf Go.Proofs.YtefippbcgdfnbaaW.PrintWords Go.Proofs.YtefippbcgdfnbaaW.PrintLast Go.Proofs.YtefippbcgdfnbaaW.PrintMore
attribute [local go_sem] max2_int min2_int max_two min_two max_three min_three max_four min_four   -- for this text's walks alone
set_option linter.unusedVariables false
set_option linter.unusedSimpArgs false
/-! ### the document's event -/
set_option maxRecDepth 100000 in
set_option maxHeartbeats 8000000 in
theorem event_c (b : List Int) (hb : Byt b) (hlen : b.length ≤ 1048576) (w0 : World) (A : Option Addr) (c : Nat) (hC : Kd.C (Kd.int .u8) w0 A b.length b) (hc : b.length ≤ c) (W : World) (B a : Nat) (last : Int) (all : Nat) (evs : List S43) (h : Stt w0 W B A c b a last all evs false)
    (ha : a < b.length) (hall : all ≤ 262144) (hev : evs.length ≤ 4096) (k : Nat) (hk : 3 * (b.length - a) + 20 ≤ k) (R : List S43 × Bool × Int × Int) (hR : trans_Decode.l1 k b (a : Int) last (262144 - (all : Int)) 0 evs false = some R) :
    Calls Try.prog 26 #[.pointer (some ⟨B, 0, none⟩)] W fun e W' =>
      (∃ (p er : Int), e = .returned (.tuple #[.int .i64 p, .int .i64 er]) ∧ er ≠ 0 ∧ R = ([], false, p, er) ∧ Below w0.heap.size w0 W') ∨
      (e = .returned (.tuple #[.int .i64 0, .int .i64 0]) ∧ ∃ (a' : Nat) (last' : Int) (all' : Nat) (evs' : List S43) (fin' : Bool), Stt w0 W' B A c b a' last' all' evs' fin' ∧ (fin' = true ∧ a' = b.length ∧ R = (evs', true, 0, 0) ∨ fin' = false ∧ a < a' ∧ a' ≤ b.length ∧ all' ≤ 262144 ∧ evs'.length ≤ 4096 ∧ ∃ k', 3 * (b.length - a') + 20 ≤ k' ∧ trans_Decode.l1 k' b (a' : Int) last' (262144 - (all' : Int)) 0 evs' false = some R)) := by
  have hlen' : b.length ≤ 281474976710656 := by omega
  obtain ⟨v, hr, hRv, hBw, hwB⟩ := h
  obtain ⟨Av, cv, rfl⟩ := Kd.R_slice hRv
  obtain ⟨ad, hAe, hcell⟩ := Kd.at_int hC (a : Int) (by omega) (by omega)
  subst hAe
  rw [Int.toNat_natCast] at hcell
  have HC := Lib.hid hC
  have hy : rd b (a : Int) = b[a] := rd_nat ha
  have htr := byte_range hb ha
  have hal := eq_true ha
  obtain ⟨tg, htg⟩ : ∃ t, t = rd b (a : Int) := ⟨_, rfl⟩
  rw [← htg] at hcell hy
  have HTG := Lib.hid hy
  rw [← hy] at htr
  clear htg hy
  have hw1 : IntKind.i64.wrap ((a : Int) + 1) = ((a + 1 : Nat) : Int) := by rw [i64_w]; unfold wrap64; omega
  obtain ⟨c0, c1, c2, c3, c4, c5⟩ := hr.cells
  have hcW := pw_cell_below hBw hcell
  have d0 : W.drew.cell? ⟨B, 0, none⟩ = some (.slice (some ad) b.length c) := c0
  have d1 : W.drew.cell? ⟨B, 1, none⟩ = some (.int .i64 (a : Int)) := c1
  have dc : W.drew.cell? (ad.add a) = some (.int .u8 tg) := hcW
  have hr1 : Rdr W.drew B (some ad) b.length c (a : Int) last all (.slice Av evs.length cv) false := hr
  have hRv1 : Kd.R k43 43 W.drew w0.heap.size (fun _ => True) (.slice Av evs.length cv) evs := Kd.R_drew hRv
  have hBw1 : Below w0.heap.size w0 W.drew := below_drew1 hBw
  clear hcell hC hr hRv hBw c0 c1 c2 c3 c4 c5 hcW
  go_enter Try.func26, Try.ntmps26
  go_upto_region 1 with (fail)
  go_region_held3 (fun w' => w'.cell? ⟨B, 0, none⟩ = some (.slice (some ad) b.length c) ∧ w'.cell? ⟨B, 1, none⟩ = some (.int .i64 (a : Int)) ∧ w'.cell? (ad.add a) = some (.int .u8 tg))
    (exact ⟨d0, d1, dc⟩) (fail)
  generalize W.drew = W1 at d0 d1 dc hr1 hRv1 hBw1 ⊢
  obtain ⟨c0, c1, c2, c3, c4, c5⟩ := hr1.cells
  have HR := Lib.hid hr1
  have HRV := Lib.hid hRv1
  have HBW := Lib.hid hBw1
  have HL := Lib.hid hR
  clear d0 d1 dc hr1 hRv1 hBw1 hR
  by_cases h3 : tg = 3
  · have h3b : (tg == 3) = true := beq_iff_eq.mpr h3
    obtain ⟨k, rfl⟩ : ∃ m, k = m + 2 := ⟨k - 2, by omega⟩
    have hl := HL.out
    rw [l1_three hlen' ha (HTG.out.symm.trans h3)] at hl
    go_upto_region 3 with (fail)
    have d0 : W1.drew.cell? ⟨B, 0, none⟩ = some (.slice (some ad) b.length c) := c0
    have d1 : W1.drew.cell? ⟨B, 1, none⟩ = some (.int .i64 (a : Int)) := c1
    by_cases hend : a + 1 = b.length
    · rw [if_pos hend] at hl
      injection hl with hl
      have hne : (((a + 1 : Nat) : Int) != (b.length : Int)) = false := bne_eq_false_iff_eq.mpr (by omega)
      have HEND := Lib.hid hend
      clear hend
      go_region_held3 (fun w' => w'.cell? ⟨B, 0, none⟩ = some (.slice (some ad) b.length c) ∧ w'.cell? ⟨B, 1, none⟩ = some (.int .i64 (a : Int)))
        (exact ⟨d0, d1⟩) (fail)
      have hr2 : Rdr W1.drew B (some ad) b.length c (a : Int) last all (.slice Av evs.length cv) false := HR.out
      have hRv2 := Kd.R_drew HRV.out
      have hBw2 := below_drew1 HBW.out
      clear c0 c1 c2 c3 c4 c5 d0 d1 HRV HBW HR
      generalize W1.drew = W2 at hr2 hRv2 hBw2 ⊢
      have c5 := hr2.cells.2.2.2.2.2
      have f5 := hr2.free 5
      have hr3 := hr2.set5 true
      have hRv3 := evs_set hRv2 hr2 5 (.bool true)
      have hBw3 := hBw2.setCell (p := ⟨B, 5, none⟩) hwB (.bool true)
      go_upto_region 6 with (fail)
      generalize W2.setCell ⟨B, 5, none⟩ (.bool true) = W3 at hr3 hRv3 hBw3 ⊢
      have c1 := hr3.cells.2.1
      have f1 := hr3.free 1
      have HR4 := Lib.hid (hr3.set1 ((a + 1 : Nat) : Int))
      have HRV4 := Lib.hid (evs_set hRv3 hr3 1 (.int .i64 ((a + 1 : Nat) : Int)))
      have HB4 := Lib.hid (hBw3.setCell (p := ⟨B, 1, none⟩) hwB (.int .i64 ((a + 1 : Nat) : Int)))
      clear hr2 hRv2 hBw2 c5 f5 hr3 hRv3 hBw3
      go_wp2
      go_ret2
      exact .inr ⟨rfl, a + 1, last, all, evs, true, ⟨_, HR4.out, HRV4.out, HB4.out, hwB⟩, .inl ⟨rfl, HEND.out, hl.symm⟩⟩
    · rw [if_neg hend] at hl
      injection hl with hl
      have hne : (((a + 1 : Nat) : Int) != (b.length : Int)) = true := bne_iff_ne.mpr (by omega)
      go_region_held3 (fun w' => w'.cell? ⟨B, 0, none⟩ = some (.slice (some ad) b.length c) ∧ w'.cell? ⟨B, 1, none⟩ = some (.int .i64 (a : Int)))
        (exact ⟨d0, d1⟩) (fail)
      have HB2 := Lib.hid (below_drew1 HBW.out)
      clear c0 c1 c2 c3 c4 c5 HRV HBW HR
      go_wp2
      go_ret2
      exact .inl ⟨_, 4, rfl, by decide, hl.symm, HB2.out⟩
  · have h3b : (tg == 3) = false := beq_eq_false_iff_ne.mpr h3
    obtain ⟨k, rfl⟩ : ∃ m, k = m + 3 := ⟨k - 3, by omega⟩
    by_cases ht : tg = 1 ∨ tg = 2
    · have htb : (tg != 1 && tg != 2) = false := by rcases ht with rfl | rfl <;> rfl
      have hl := HL.out
      rw [l1_tag hb hlen' ha (by rw [← HTG.out]; exact ht) hev] at hl
      obtain ⟨M, hM⟩ : ∃ M, M = evs.length := ⟨_, rfl⟩
      -- the tag is one of an event
      go_upto_region 8 with (fail)
      go_cut [56] (fun s56 wx => s56 = .bool false ∧ wx = W1)
      case first =>
        rcases ht with h1 | h2
        · have h1b : (tg != 1) = false := bne_eq_false_iff_eq.mpr h1
          go_wp2_with (fail)
          go_meet
          exact ⟨rfl, rfl⟩
        · have h1b : (tg != 1) = true := bne_iff_ne.mpr (by omega)
          have h2b : (tg != 2) = false := bne_eq_false_iff_eq.mpr h2
          go_wp2_with (fail)
          go_meet
          exact ⟨rfl, rfl⟩
      case rest =>
      obtain ⟨rfl, hwc⟩ := hcut
      subst hwc
      by_cases hm : evs.length = 4096
      · rw [if_pos hm] at hl
        injection hl with hl
        have hge := eq_true (show (4096 : Int) ≤ (evs.length : Int) by omega)
        have hge2 := eq_true (show 4096 ≤ evs.length by omega)
        clear HRV HR hm hM
        go_wp2
        go_ret2
        exact .inl ⟨_, 10, rfl, by decide, hl.symm, HBW.out⟩
      · rw [if_neg hm] at hl
        have hge := eq_false (show ¬ (4096 : Int) ≤ (evs.length : Int) by omega)
        have hge2 := eq_false (show ¬ 4096 ≤ evs.length by omega)
        obtain ⟨x1, y1, e1, hg1, hcase⟩ := one_cases hb hlen' (show a + 1 ≤ b.length by omega) last hall
        have hcall := fun w (hB : Below w0.heap.size w0 w) => cuecardref02_Get.calls 200 (some ad) c b ((a + 1 : Nat) : Int) x1 y1 e1 w (Kd.C_below HC.out hB) hc hg1
        have HG1 := Lib.hid hcall
        have HL2 := Lib.hid hl
        clear hcall hl hg1 HL
        go_wp2_with (fail)
        refine (HG1.out wc HBW.out).mono ?_
        rintro e W2 ⟨rfl, hB2⟩
        have hr2 : Rdr W2 B (some ad) b.length c (a : Int) last all (.slice Av evs.length cv) false := HR.out.move (hB2.block _ HR.out.lt)
        have hRv2 := Kd.R_below HRV.out hB2
        have hBw2 := below_step HBW.out hB2
        clear c0 c1 c2 c3 c4 c5 HRV HBW HR HG1 hB2
        obtain ⟨c0, c1, c2, c3, c4, c5⟩ := hr2.cells
        have HR := Lib.hid hr2
        have HRV := Lib.hid hRv2
        have HBW := Lib.hid hBw2
        clear hr2 hRv2 hBw2
        rcases hcase with ⟨he1, hone⟩ | ⟨rfl, u, p, rfl, rfl, hu, hap, hp, x2, y2, e2, hg2, hcase⟩
        · have hl := HL2.out
          rw [hone k (by omega)] at hl
          simp only [Option.bind_some] at hl
          rw [if_neg he1] at hl
          injection hl with hl
          have he1b : (e1 != 0) = true := bne_iff_ne.mpr he1
          have HE1 := Lib.hid he1
          clear HRV HR hone he1
          go_wp2
          go_ret2
          exact .inl ⟨_, e1, rfl, HE1.out, hl.symm, HBW.out⟩
        · have hcall := fun w (hB : Below w0.heap.size w0 w) => cuecardref02_Get.calls 200 (some ad) c b (p : Int) x2 y2 e2 w (Kd.C_below HC.out hB) hc hg2
          have HG2 := Lib.hid hcall
          clear hcall hg2
          go_wp2_with (fail)
          refine (HG2.out W2 HBW.out).mono ?_
          rintro e W3 ⟨rfl, hB3⟩
          have hr2 : Rdr W3 B (some ad) b.length c (a : Int) last all (.slice Av evs.length cv) false := HR.out.move (hB3.block _ HR.out.lt)
          have hRv2 := Kd.R_below HRV.out hB3
          have hBw2 := below_step HBW.out hB3
          clear c0 c1 c2 c3 c4 c5 HRV HBW HR HG2 hB3
          obtain ⟨c0, c1, c2, c3, c4, c5⟩ := hr2.cells
          have HR := Lib.hid hr2
          have HRV := Lib.hid hRv2
          have HBW := Lib.hid hBw2
          clear hr2 hRv2 hBw2
          rcases hcase with ⟨he2, hone⟩ | ⟨rfl, n, q, rfl, rfl, hn, hpq, hq, hcase⟩
          · have hl := HL2.out
            rw [hone k (by omega)] at hl
            simp only [Option.bind_some] at hl
            rw [if_neg he2] at hl
            injection hl with hl
            have he2b : (e2 != 0) = true := bne_iff_ne.mpr he2
            have HE2 := Lib.hid he2
            clear HRV HR hone he2
            go_wp2
            go_ret2
            exact .inl ⟨_, e2, rfl, HE2.out, hl.symm, HBW.out⟩
          · go_upto_region 19 with (fail)
            have hwa : IntKind.u64.wrap ((all : Int) + (n : Int)) = (((all : Int) + (n : Int)) % 18446744073709551616) := by rw [Va.wrapU64]
            go_cut [115] (fun s115 wx => ∃ cb : Bool, s115 = .bool cb ∧ (cb = true ↔ (65536 < n ∨ 262144 < all + n)) ∧ wx = W3)
            case first =>
              by_cases hn1 : 65536 < n
              · have hg := eq_true (show (65536 : Int) < (n : Int) by omega)
                have hg2 := eq_true hn1
                go_wp2_with (fail)
                go_meet
                exact ⟨_, rfl, ⟨fun _ => .inl hn1, fun _ => rfl⟩, rfl⟩
              · have hg := eq_false (show ¬ (65536 : Int) < (n : Int) by omega)
                have hg2 := eq_false hn1
                obtain ⟨sm, hsm⟩ : ∃ sm, sm = all + n := ⟨_, rfl⟩
                have hwa2 : IntKind.u64.wrap ((all : Int) + (n : Int)) = (sm : Int) := by rw [Va.wrapU64]; omega
                clear hwa
                go_wp2_with (fail)
                go_meet
                exact ⟨_, rfl, by rw [decide_eq_true_eq]; omega, rfl⟩
            case rest =>
            obtain ⟨cb, rfl, hcb, hwc⟩ := hcut
            subst hwc
            have HK := Lib.hid hk
            have HT := Lib.hid ht
            rcases hcase with ⟨hbig, hone⟩ | ⟨hn1, hn2, hsh, hone⟩ | ⟨hn1, hn2, hfit, hone⟩
            · obtain rfl : cb = true := hcb.2 hbig
              have hl := HL2.out
              rw [hone k (by omega)] at hl
              simp only [Option.bind_some] at hl
              rw [if_neg (by decide)] at hl
              injection hl with hl
              clear HRV HR hone hwa hbig hcb
              go_wp2
              go_ret2
              exact .inl ⟨_, 6, rfl, by decide, hl.symm, HBW.out⟩
            · obtain rfl : cb = false := by cases cb with | false => rfl | true => exact absurd (hcb.1 rfl) (by omega)
              have hl := HL2.out
              rw [hone k (by omega)] at hl
              simp only [Option.bind_some] at hl
              rw [if_neg (by decide)] at hl
              injection hl with hl
              obtain ⟨rs, hrs⟩ : ∃ rs, rs = b.length - q := ⟨_, rfl⟩
              have hsub : IntKind.i64.wrap ((b.length : Int) - (q : Int)) = (rs : Int) := by rw [i64_w]; unfold wrap64; omega
              have hcn : IntKind.i64.wrap (n : Int) = (n : Int) := by rw [i64_w]; unfold wrap64; omega
              have hlt := eq_true (show (rs : Int) < (n : Int) by omega)
              have hlt2 := eq_true (show rs < n by omega)
              clear HRV HR hone hwa hcb hrs
              go_wp2
              go_ret2
              exact .inl ⟨_, 5, rfl, by decide, hl.symm, HBW.out⟩
            · obtain rfl : cb = false := by cases cb with | false => rfl | true => exact absurd (hcb.1 rfl) (by omega)
              obtain ⟨nl, hnl⟩ : ∃ nl, nl = wrap64 (last + ug u) := ⟨_, rfl⟩
              obtain ⟨data, hdata⟩ : ∃ d, d = (b.take (q + n)).drop q := ⟨_, rfl⟩
              have hdl : data.length = n := by rw [hdata, List.length_drop, List.length_take]; omega
              obtain ⟨sm, hsm⟩ : ∃ sm, sm = all + n := ⟨_, rfl⟩
              obtain ⟨e3, he3⟩ : ∃ e3, e3 = q + n := ⟨_, rfl⟩
              obtain ⟨t1, ht1⟩ : ∃ t1, t1 = tg - 1 := ⟨_, rfl⟩
              have hl := HL2.out
              rw [hone k (by omega), ← hnl, ← hdata, ← he3] at hl
              simp only [Option.bind_some, if_true] at hl
              rw [hdl, show wrap64 (262144 - (all : Int) - (n : Int)) = 262144 - (sm : Int) from (w64 (by omega) (by omega)).trans (by omega), ← HTG.out, ← ht1] at hl
              have HL3 := Lib.hid hl
              obtain ⟨rs, hrs⟩ : ∃ rs, rs = b.length - q := ⟨_, rfl⟩
              have hsub : IntKind.i64.wrap ((b.length : Int) - (q : Int)) = (rs : Int) := by rw [i64_w]; unfold wrap64; omega
              have hcn : IntKind.i64.wrap (n : Int) = (n : Int) := by rw [i64_w]; unfold wrap64; omega
              have hlt := eq_false (show ¬ (rs : Int) < (n : Int) by omega)
              have hlt2 := eq_false (show ¬ rs < n by omega)
              have hadd : IntKind.u64.wrap ((all : Int) + (n : Int)) = (sm : Int) := by rw [Va.wrapU64]; omega
              have hqn : IntKind.i64.wrap ((q : Int) + (n : Int)) = (e3 : Int) := by rw [i64_w]; unfold wrap64; omega
              have hct : IntKind.i64.wrap tg = tg := by rw [i64_w]; unfold wrap64; omega
              have hcs : IntKind.i64.wrap (tg - 1) = t1 := by rw [i64_w]; unfold wrap64; omega
              have f3 := HR.out.free 3
              have HNL := Lib.hid hnl
              have HSM := Lib.hid hsm
              have HE3 := Lib.hid he3
              have HDL := Lib.hid hdl
              have HDA := Lib.hid hdata
              clear hwa hcb hone hl HL2 hrs hnl hsm he3 ht1
              go_upto_region 24 with (fail)
              have hr4 := HR.out.set3 sm
              have hRv4 := evs_set HRV.out HR.out 3 (.int .u64 (sm : Int))
              have hBw4 := HBW.out.setCell (p := ⟨B, 3, none⟩) hwB (.int .u64 (sm : Int))
              clear c0 c1 c2 c3 c4 c5 f3 HR HRV HBW
              generalize wc.setCell ⟨B, 3, none⟩ (.int .u64 (sm : Int)) = W4 at hr4 hRv4 hBw4 ⊢
              have HR4 := Lib.hid hr4
              have HRV4 := Lib.hid hRv4
              have HBW4 := Lib.hid hBw4
              have HZAG := Lib.hid (fun w => cuecardref02_Zag.calls (u : Int) (ug u) w (refzag_ug hu))
              have HADD := Lib.hid (fun w => cuecardref03_Add.calls last (ug u) nl w (by rw [refadd, HNL.out]))
              have d2 : W4.drew.cell? ⟨B, 2, none⟩ = some (.int .i64 last) := hr4.cells.2.2.1
              clear hr4 hRv4 hBw4
              go_cut [4] (fun s4 wx => s4 = .int .u8 tg ∧ ∃ v, v = Value.slice Av evs.length cv ∧ Rdr wx B (some ad) b.length c (a : Int) nl sm v false ∧ Kd.R k43 43 wx w0.heap.size (fun _ => True) v evs ∧ Below w0.heap.size w0 wx)
              case first =>
                go_region_with (first
                  | (go_at_call 35; refine (HZAG.out _).mono ?_; rintro e w5 ⟨rfl, hb5⟩; have d5 := pw_cell_below hb5 d2; have HB5 := Lib.hid hb5; clear hb5)
                  | (go_at_call 34; refine (HADD.out _).mono ?_; rintro e w6 ⟨rfl, hb6⟩; have hr6 : Rdr w6 B (some ad) b.length c (a : Int) last sm (.slice Av evs.length cv) false := (Rdr.move (W := W4.drew) HR4.out (HB5.out.block _ HR4.out.lt)).move (hb6.block _ (Nat.lt_of_lt_of_le HR4.out.lt HB5.out.size)); have HR6 := Lib.hid hr6; have c6 := hr6.cells.2.2.1; have f6 := hr6.free 2; have HB6 := Lib.hid hb6; clear hr6 hb6))
                all_goals
                  have HF := Lib.hid (show Rdr (w6.setCell ⟨B, 2, none⟩ (.int .i64 nl)) B (some ad) b.length c (a : Int) nl sm (.slice Av evs.length cv) false ∧ Kd.R k43 43 (w6.setCell ⟨B, 2, none⟩ (.int .i64 nl)) w0.heap.size (fun _ => True) (.slice Av evs.length cv) evs ∧ Below w0.heap.size w0 (w6.setCell ⟨B, 2, none⟩ (.int .i64 nl)) from
                    ⟨HR6.out.set2 nl, evs_set (Kd.R_below (Kd.R_below (Kd.R_drew HRV4.out) HB5.out) HB6.out) HR6.out 2 _, (below_step (below_step (below_drew1 HBW4.out) HB5.out) HB6.out).setCell (p := ⟨B, 2, none⟩) hwB _⟩)
                  go_wp2_with (fail)
                  go_meet
                  exact ⟨rfl, _, rfl, HF.out⟩
              case rest =>
              obtain ⟨rfl, _, rfl, hr5, hRv5, hBw5⟩ := hcut
              clear d2 HZAG HADD HR4 HRV4 HBW4
              clear hdl hsub hlt hlt2 hadd
              obtain ⟨A3, c3, A8, c8, w8, A9, m9, c9, w9, hcutf, happ8, happ9, rX, r8, rZ, r9, r10, hR10, hB10⟩ := ev_mem b w0 ad c HC.out hc wc B a nl sm evs Av cv hwB hr5 hRv5 hBw5 q n e3 t1 data HE3.out HDL.out HDA.out hfit hn1 hev
              have HFIN := Lib.hid (show ∃ v, Rdr (w9.setCell ⟨B, 4, none⟩ (.slice A9 m9 c9)) B (some ad) b.length c (a : Int) nl sm v false ∧ Kd.R k43 43 (w9.setCell ⟨B, 4, none⟩ (.slice A9 m9 c9)) w0.heap.size (fun _ => True) v (evs ++ [⟨t1, nl, data⟩]) ∧ Below w0.heap.size w0 (w9.setCell ⟨B, 4, none⟩ (.slice A9 m9 c9)) from ⟨_, r10, hR10, hB10⟩)
              have E0 := Lib.hid (show wc.drew.cell? ⟨B, 0, none⟩ = some (.slice (some ad) b.length c) ∧ wc.drew.cell? ⟨B, 2, none⟩ = some (.int .i64 nl) from ⟨hr5.cells.1, hr5.cells.2.2.1⟩)
              have E1 := Lib.hid (And.intro rX.cells.1 rX.cells.2.2.1)
              have E8 := Lib.hid (And.intro r8.cells.1 r8.cells.2.2.1)
              have EZ := Lib.hid (And.intro rZ.cells.1 rZ.cells.2.2.1)
              have E9 := Lib.hid (And.intro r9.cells.1 r9.cells.2.2.1)
              have E10 := Lib.hid (And.intro r10.cells.1 r10.cells.2.2.1)
              have d4 : wc.drew.cell? ⟨B, 4, none⟩ = some (.slice Av evs.length cv) := hr5.cells.2.2.2.2.1
              have x4 := rX.cells.2.2.2.2.1
              have y4 := r8.cells.2.2.2.2.1
              have z4 := rZ.cells.2.2.2.2.1
              have w4 := r9.cells.2.2.2.2.1
              have f4 := r9.free 4
              have HAR := Lib.hid (And.intro hlen' (And.intro ha (And.intro hall (And.intro hev (And.intro hq (And.intro hap (And.intro hpq (And.intro hfit (And.intro hn1 (And.intro hn2 (And.intro hm hwB)))))))))))
              clear hlen hlen' hall hev hq hap hpq hfit hn1 hn2 hm hwB hn hp hu htr hal hw1 h3 h3b ht htb hM hge hge2 hc rX r8 rZ r9 r10 hR10 hB10 hr5 hRv5 hBw5 hb hdata M hk
              go_upto_region 25 with (fail)
              go_cut [4, 9, 10] (fun s4 s9 s10 wx => s4 = .int .u8 tg ∧ s10 = .int .i64 (q : Int) ∧ s9 = .int .u64 (n : Int) ∧ ∃ v, Rdr wx B (some ad) b.length c (a : Int) nl sm v false ∧ Kd.R k43 43 wx w0.heap.size (fun _ => True) v (evs ++ [⟨t1, nl, data⟩]) ∧ Below w0.heap.size w0 wx)
              case first =>
                refine wp_region_held_drew (S := fun w' => w'.cell? ⟨B, 0, none⟩ = some (.slice (some ad) b.length c) ∧ w'.cell? ⟨B, 2, none⟩ = some (.int .i64 nl)) (by kernel_rfl) E0.out (fun hHeld => ?_)
                refine wpAnyH_take (i := 0) (oi := { dst := some 150, op := Go.Op.move (Go.Operand.tmp 0), type := 52, pos := "ref.go:86", after := #[], guard := none }) (v := ?_) rfl (by kernel_rfl) (by kernel_rfl) (by kernel_rfl) (fun _ _ _ h => h) (Or.inl ⟨by rfl, ?_⟩) hHeld ?_
                rotate_left
                · (intro w hSw; (try dsimp only at hSw); go_simp; (try with_reducible rfl))
                try simp only [Act.put, List.setIfInBounds_toArray, List.set_cons_zero, List.set_cons_succ]
                refine wpAnyH_take (i := 1) (oi := { dst := some 151, op := Go.Op.move (Go.Operand.tmp 0), type := 52, pos := "ref.go:86", after := #[], guard := none }) (v := ?_) rfl (by kernel_rfl) (by kernel_rfl) (by kernel_rfl) (fun _ _ _ h => h) (Or.inl ⟨by rfl, ?_⟩) hHeld ?_
                rotate_left
                · (intro w hSw; (try dsimp only at hSw); go_simp; (try with_reducible rfl))
                try simp only [Act.put, List.setIfInBounds_toArray, List.set_cons_zero, List.set_cons_succ]
                refine wpAnyH_take (i := 2) (oi := { dst := some 152, op := Go.Op.nilCheck (Go.Operand.tmp 151), type := 0, pos := "ref.go:86", after := #[{ on := 1, ground := Go.Ground.data }], guard := none }) (v := ?_) rfl (by kernel_rfl) (by kernel_rfl) (by kernel_rfl) (fun _ _ _ h => h) (Or.inl ⟨by rfl, ?_⟩) hHeld ?_
                rotate_left
                · (intro w hSw; (try dsimp only at hSw); go_simp; (try with_reducible rfl))
                try simp only [Act.put, List.setIfInBounds_toArray, List.set_cons_zero, List.set_cons_succ]
                refine wpAnyH_take (i := 3) (oi := { dst := some 153, op := Go.Op.fieldAddr 54 (Go.Operand.tmp 152) 4, type := 0, pos := "ref.go:86", after := #[{ on := 2, ground := Go.Ground.data }], guard := none }) (v := ?_) rfl (by kernel_rfl) (by kernel_rfl) (by kernel_rfl) (fun _ _ _ h => h) (Or.inl ⟨by rfl, ?_⟩) hHeld ?_
                rotate_left
                · (intro w hSw; (try dsimp only at hSw); go_simp; (try with_reducible rfl))
                try simp only [Act.put, List.setIfInBounds_toArray, List.set_cons_zero, List.set_cons_succ]
                refine wpAnyH_take (i := 4) (oi := { dst := some 154, op := Go.Op.fieldAddr 24 (Go.Operand.tmp 153) 0, type := 0, pos := "ref.go:86", after := #[{ on := 3, ground := Go.Ground.data }], guard := none }) (v := ?_) rfl (by kernel_rfl) (by kernel_rfl) (by kernel_rfl) (fun _ _ _ h => h) (Or.inl ⟨by rfl, ?_⟩) hHeld ?_
                rotate_left
                · (intro w hSw; (try dsimp only at hSw); go_simp; (try with_reducible rfl))
                try simp only [Act.put, List.setIfInBounds_toArray, List.set_cons_zero, List.set_cons_succ]
                refine wpAnyH_take (i := 6) (oi := { dst := some 156, op := Go.Op.move (Go.Operand.tmp 4), type := 5, pos := "ref.go:86", after := #[], guard := none }) (v := ?_) rfl (by kernel_rfl) (by kernel_rfl) (by kernel_rfl) (fun _ _ _ h => h) (Or.inl ⟨by rfl, ?_⟩) hHeld ?_
                rotate_left
                · (intro w hSw; (try dsimp only at hSw); go_simp; (try with_reducible rfl))
                try simp only [Act.put, List.setIfInBounds_toArray, List.set_cons_zero, List.set_cons_succ]
                refine wpAnyH_take (i := 7) (oi := { dst := some 157, op := Go.Op.convert 5 3 (Go.Operand.tmp 156), type := 3, pos := "ref.go:86", after := #[{ on := 6, ground := Go.Ground.data }], guard := none }) (v := ?_) rfl (by kernel_rfl) (by kernel_rfl) (by kernel_rfl) (fun _ _ _ h => h) (Or.inl ⟨by rfl, ?_⟩) hHeld ?_
                rotate_left
                · (intro w hSw; (try dsimp only at hSw); go_simp; (try with_reducible rfl))
                try simp only [Act.put, List.setIfInBounds_toArray, List.set_cons_zero, List.set_cons_succ]
                refine wpAnyH_take (i := 8) (oi := { dst := some 158, op := Go.Op.binOp Go.BinOp.sub 3 (Go.Operand.tmp 157) (Go.Operand.const (Go.Value.int Go.IntKind.i64 1)) 3, type := 3, pos := "ref.go:86", after := #[{ on := 7, ground := Go.Ground.data }], guard := none }) (v := ?_) rfl (by kernel_rfl) (by kernel_rfl) (by kernel_rfl) (fun _ _ _ h => h) (Or.inl ⟨by rfl, ?_⟩) hHeld ?_
                rotate_left
                · (intro w hSw; (try dsimp only at hSw); go_simp; (try with_reducible rfl))
                try simp only [Act.put, List.setIfInBounds_toArray, List.set_cons_zero, List.set_cons_succ]
                refine wpAnyH_take (i := 9) (oi := { dst := some 159, op := Go.Op.move (Go.Operand.tmp 0), type := 52, pos := "ref.go:86", after := #[], guard := none }) (v := ?_) rfl (by kernel_rfl) (by kernel_rfl) (by kernel_rfl) (fun _ _ _ h => h) (Or.inl ⟨by rfl, ?_⟩) hHeld ?_
                rotate_left
                · (intro w hSw; (try dsimp only at hSw); go_simp; (try with_reducible rfl))
                try simp only [Act.put, List.setIfInBounds_toArray, List.set_cons_zero, List.set_cons_succ]
                refine wpAnyH_take (i := 10) (oi := { dst := some 160, op := Go.Op.nilCheck (Go.Operand.tmp 159), type := 0, pos := "ref.go:86", after := #[{ on := 9, ground := Go.Ground.data }], guard := none }) (v := ?_) rfl (by kernel_rfl) (by kernel_rfl) (by kernel_rfl) (fun _ _ _ h => h) (Or.inl ⟨by rfl, ?_⟩) hHeld ?_
                rotate_left
                · (intro w hSw; (try dsimp only at hSw); go_simp; (try with_reducible rfl))
                try simp only [Act.put, List.setIfInBounds_toArray, List.set_cons_zero, List.set_cons_succ]
                refine wpAnyH_take (i := 11) (oi := { dst := some 161, op := Go.Op.fieldAddr 54 (Go.Operand.tmp 160) 2, type := 0, pos := "ref.go:86", after := #[{ on := 10, ground := Go.Ground.data }], guard := none }) (v := ?_) rfl (by kernel_rfl) (by kernel_rfl) (by kernel_rfl) (fun _ _ _ h => h) (Or.inl ⟨by rfl, ?_⟩) hHeld ?_
                rotate_left
                · (intro w hSw; (try dsimp only at hSw); go_simp; (try with_reducible rfl))
                try simp only [Act.put, List.setIfInBounds_toArray, List.set_cons_zero, List.set_cons_succ]
                refine wpAnyH_take (i := 12) (oi := { dst := some 162, op := Go.Op.load 2 (Go.Operand.tmp 161), type := 2, pos := "ref.go:86", after := #[{ on := 11, ground := Go.Ground.data }], guard := none }) (v := ?_) rfl (by kernel_rfl) (by kernel_rfl) (by kernel_rfl) (fun _ _ _ h => h) (Or.inl ⟨by rfl, ?_⟩) hHeld ?_
                rotate_left
                · (intro w hSw; (try dsimp only at hSw); go_simp; (try with_reducible rfl))
                try simp only [Act.put, List.setIfInBounds_toArray, List.set_cons_zero, List.set_cons_succ]
                refine wpAnyH_take (i := 14) (oi := { dst := some 164, op := Go.Op.move (Go.Operand.tmp 0), type := 52, pos := "ref.go:86", after := #[], guard := none }) (v := ?_) rfl (by kernel_rfl) (by kernel_rfl) (by kernel_rfl) (fun _ _ _ h => h) (Or.inl ⟨by rfl, ?_⟩) hHeld ?_
                rotate_left
                · (intro w hSw; (try dsimp only at hSw); go_simp; (try with_reducible rfl))
                try simp only [Act.put, List.setIfInBounds_toArray, List.set_cons_zero, List.set_cons_succ]
                refine wpAnyH_take (i := 15) (oi := { dst := some 165, op := Go.Op.nilCheck (Go.Operand.tmp 164), type := 0, pos := "ref.go:86", after := #[{ on := 14, ground := Go.Ground.data }], guard := none }) (v := ?_) rfl (by kernel_rfl) (by kernel_rfl) (by kernel_rfl) (fun _ _ _ h => h) (Or.inl ⟨by rfl, ?_⟩) hHeld ?_
                rotate_left
                · (intro w hSw; (try dsimp only at hSw); go_simp; (try with_reducible rfl))
                try simp only [Act.put, List.setIfInBounds_toArray, List.set_cons_zero, List.set_cons_succ]
                refine wpAnyH_take (i := 16) (oi := { dst := some 166, op := Go.Op.fieldAddr 54 (Go.Operand.tmp 165) 0, type := 0, pos := "ref.go:86", after := #[{ on := 15, ground := Go.Ground.data }], guard := none }) (v := ?_) rfl (by kernel_rfl) (by kernel_rfl) (by kernel_rfl) (fun _ _ _ h => h) (Or.inl ⟨by rfl, ?_⟩) hHeld ?_
                rotate_left
                · (intro w hSw; (try dsimp only at hSw); go_simp; (try with_reducible rfl))
                try simp only [Act.put, List.setIfInBounds_toArray, List.set_cons_zero, List.set_cons_succ]
                refine wpAnyH_take (i := 17) (oi := { dst := some 167, op := Go.Op.load 25 (Go.Operand.tmp 166), type := 25, pos := "ref.go:86", after := #[{ on := 16, ground := Go.Ground.data }], guard := none }) (v := ?_) rfl (by kernel_rfl) (by kernel_rfl) (by kernel_rfl) (fun _ _ _ h => h) (Or.inl ⟨by rfl, ?_⟩) hHeld ?_
                rotate_left
                · (intro w hSw; (try dsimp only at hSw); go_simp; (try with_reducible rfl))
                try simp only [Act.put, List.setIfInBounds_toArray, List.set_cons_zero, List.set_cons_succ]
                refine wpAnyH_take (i := 18) (oi := { dst := some 168, op := Go.Op.move (Go.Operand.tmp 10), type := 3, pos := "ref.go:86", after := #[], guard := none }) (v := ?_) rfl (by kernel_rfl) (by kernel_rfl) (by kernel_rfl) (fun _ _ _ h => h) (Or.inl ⟨by rfl, ?_⟩) hHeld ?_
                rotate_left
                · (intro w hSw; (try dsimp only at hSw); go_simp; (try with_reducible rfl))
                try simp only [Act.put, List.setIfInBounds_toArray, List.set_cons_zero, List.set_cons_succ]
                refine wpAnyH_take (i := 19) (oi := { dst := some 169, op := Go.Op.move (Go.Operand.tmp 10), type := 3, pos := "ref.go:86", after := #[], guard := none }) (v := ?_) rfl (by kernel_rfl) (by kernel_rfl) (by kernel_rfl) (fun _ _ _ h => h) (Or.inl ⟨by rfl, ?_⟩) hHeld ?_
                rotate_left
                · (intro w hSw; (try dsimp only at hSw); go_simp; (try with_reducible rfl))
                try simp only [Act.put, List.setIfInBounds_toArray, List.set_cons_zero, List.set_cons_succ]
                refine wpAnyH_take (i := 20) (oi := { dst := some 170, op := Go.Op.move (Go.Operand.tmp 9), type := 47, pos := "ref.go:86", after := #[], guard := none }) (v := ?_) rfl (by kernel_rfl) (by kernel_rfl) (by kernel_rfl) (fun _ _ _ h => h) (Or.inl ⟨by rfl, ?_⟩) hHeld ?_
                rotate_left
                · (intro w hSw; (try dsimp only at hSw); go_simp; (try with_reducible rfl))
                try simp only [Act.put, List.setIfInBounds_toArray, List.set_cons_zero, List.set_cons_succ]
                refine wpAnyH_take (i := 21) (oi := { dst := some 171, op := Go.Op.convert 47 3 (Go.Operand.tmp 170), type := 3, pos := "ref.go:86", after := #[{ on := 20, ground := Go.Ground.data }], guard := none }) (v := ?_) rfl (by kernel_rfl) (by kernel_rfl) (by kernel_rfl) (fun _ _ _ h => h) (Or.inl ⟨by rfl, ?_⟩) hHeld ?_
                rotate_left
                · (intro w hSw; (try dsimp only at hSw); go_simp; (try with_reducible rfl))
                try simp only [Act.put, List.setIfInBounds_toArray, List.set_cons_zero, List.set_cons_succ]
                refine wpAnyH_take (i := 22) (oi := { dst := some 172, op := Go.Op.binOp Go.BinOp.add 3 (Go.Operand.tmp 169) (Go.Operand.tmp 171) 3, type := 3, pos := "ref.go:86", after := #[{ on := 19, ground := Go.Ground.data }, { on := 21, ground := Go.Ground.data }], guard := none }) (v := ?_) rfl (by kernel_rfl) (by kernel_rfl) (by kernel_rfl) (fun _ _ _ h => h) (Or.inl ⟨by rfl, ?_⟩) hHeld ?_
                rotate_left
                · (intro w hSw; (try dsimp only at hSw); go_simp; (try with_reducible rfl))
                try simp only [Act.put, List.setIfInBounds_toArray, List.set_cons_zero, List.set_cons_succ]
                refine wpAnyH_take (i := 23) (oi := { dst := some 173, op := Go.Op.slice 25 (Go.Operand.tmp 167) (some (Go.Operand.tmp 168)) (some (Go.Operand.tmp 172)) none, type := 25, pos := "ref.go:86", after := #[{ on := 17, ground := Go.Ground.data }, { on := 18, ground := Go.Ground.data }, { on := 22, ground := Go.Ground.data }], guard := none }) (v := ?_) rfl (by kernel_rfl) (by kernel_rfl) (by kernel_rfl) (fun _ _ _ h => h) (Or.inl ⟨by rfl, ?_⟩) hHeld ?_
                rotate_left
                · (intro w hSw; (try dsimp only at hSw); go_simp; (try with_reducible rfl))
                try simp only [Act.put, List.setIfInBounds_toArray, List.set_cons_zero, List.set_cons_succ]
                refine wpAnyH_ready (rs := [5, 13]) (by kernel_rfl) (by simp) ?_
                refine AllReadyH.cons (o := { dst := some 155, op := Go.Op.load 22 (Go.Operand.tmp 154), type := 22, pos := "ref.go:86", after := #[{ on := 4, ground := Go.Ground.data }], guard := none }) rfl (fun K hK => ?_) ?_
                · go_simp
                  refine hK.out _ _ hHeld (fun hH1 => ?_)
                  clear hK K
                  try simp only [Act.put, List.setIfInBounds_toArray, List.set_cons_zero, List.set_cons_succ]
                  refine wpAnyH_ready (rs := [13]) (by kernel_rfl) (by simp) ?_
                  refine AllReadyH.cons (o := { dst := some 163, op := Go.Op.buildSlice 25 0 #[], type := 25, pos := "ref.go:86", after := #[], guard := none }) rfl (fun K hK => ?_) AllReadyH.nil
                  go_simp
                  refine hK.out _ _ E1.out (fun hH2 => ?_)
                  clear hK K
                  try simp only [Act.put, List.setIfInBounds_toArray, List.set_cons_zero, List.set_cons_succ]
                  refine wpAnyH_ready (rs := [24]) (by kernel_rfl) (by simp) ?_
                  refine AllReadyH.cons (o := { dst := some 174, op := Go.Op.call { callee := Go.Callee.builtin Go.Builtin.append, args := #[Go.Operand.tmp 163, Go.Operand.tmp 173], argTypes := #[25, 25] }, type := 25, pos := "ref.go:86", after := #[{ on := 13, ground := Go.Ground.data }, { on := 23, ground := Go.Ground.data }], guard := none }) rfl (fun K hK => ?_) AllReadyH.nil
                  refine step_append_run3 rfl (.tmp 163) (.tmp 173) 25 rfl _ _ rfl rfl _ _ happ8 ?_
                  refine hK.out _ _ E8.out (fun hH3 => ?_)
                  clear hK K
                  try simp only [Act.put, List.setIfInBounds_toArray, List.set_cons_zero, List.set_cons_succ]
                  refine wpAnyH_take (i := 25) (oi := { dst := some 175, op := Go.Op.build 43 #[(0, Go.Operand.tmp 158), (1, Go.Operand.tmp 162), (2, Go.Operand.tmp 174)], type := 43, pos := "ref.go:86", after := #[{ on := 8, ground := Go.Ground.data }, { on := 12, ground := Go.Ground.data }, { on := 24, ground := Go.Ground.data }], guard := none }) (v := ?_) rfl (by kernel_rfl) (by kernel_rfl) (by kernel_rfl) (fun _ _ _ h => h) (Or.inl ⟨by rfl, ?_⟩) hH3 ?_
                  rotate_left
                  · (intro w hSw; (try dsimp only at hSw); go_simp; (try with_reducible rfl))
                  try simp only [Act.put, List.setIfInBounds_toArray, List.set_cons_zero, List.set_cons_succ]
                  refine wpAnyH_ready (rs := [26]) (by kernel_rfl) (by simp) ?_
                  refine AllReadyH.cons (o := { dst := some 176, op := Go.Op.buildSlice 22 1 #[(0, Go.Operand.tmp 175)], type := 22, pos := "ref.go:86", after := #[{ on := 25, ground := Go.Ground.data }], guard := none }) rfl (fun K hK => ?_) AllReadyH.nil
                  go_simp
                  refine hK.out _ _ EZ.out (fun hH4 => ?_)
                  clear hK K
                  try simp only [Act.put, List.setIfInBounds_toArray, List.set_cons_zero, List.set_cons_succ]
                  refine wpAnyH_ready (rs := [27]) (by kernel_rfl) (by simp) ?_
                  refine AllReadyH.cons (o := { dst := some 177, op := Go.Op.call { callee := Go.Callee.builtin Go.Builtin.append, args := #[Go.Operand.tmp 155, Go.Operand.tmp 176], argTypes := #[22, 22] }, type := 22, pos := "ref.go:86", after := #[{ on := 5, ground := Go.Ground.data }, { on := 26, ground := Go.Ground.data }, { on := 24, ground := Go.Ground.chain }], guard := none }) rfl (fun K hK => ?_) AllReadyH.nil
                  refine step_append_run3 rfl (.tmp 155) (.tmp 176) 22 rfl _ _ rfl rfl _ _ happ9 ?_
                  refine hK.out _ _ E9.out (fun hH5 => ?_)
                  clear hK K
                  try simp only [Act.put, List.setIfInBounds_toArray, List.set_cons_zero, List.set_cons_succ]
                  refine wpAnyH_take (i := 28) (oi := { dst := some 178, op := Go.Op.nilCheck (Go.Operand.tmp 150), type := 0, pos := "ref.go:86", after := #[{ on := 0, ground := Go.Ground.data }, { on := 0, ground := Go.Ground.phase }, { on := 1, ground := Go.Ground.phase }, { on := 2, ground := Go.Ground.phase }, { on := 3, ground := Go.Ground.phase }, { on := 4, ground := Go.Ground.phase }, { on := 5, ground := Go.Ground.phase }, { on := 6, ground := Go.Ground.phase }, { on := 7, ground := Go.Ground.phase }, { on := 8, ground := Go.Ground.phase }, { on := 9, ground := Go.Ground.phase }, { on := 10, ground := Go.Ground.phase }, { on := 11, ground := Go.Ground.phase }, { on := 12, ground := Go.Ground.phase }, { on := 13, ground := Go.Ground.phase }, { on := 14, ground := Go.Ground.phase }, { on := 15, ground := Go.Ground.phase }, { on := 16, ground := Go.Ground.phase }, { on := 17, ground := Go.Ground.phase }, { on := 18, ground := Go.Ground.phase }, { on := 19, ground := Go.Ground.phase }, { on := 20, ground := Go.Ground.phase }, { on := 21, ground := Go.Ground.phase }, { on := 22, ground := Go.Ground.phase }, { on := 23, ground := Go.Ground.phase }, { on := 24, ground := Go.Ground.phase }, { on := 25, ground := Go.Ground.phase }, { on := 26, ground := Go.Ground.phase }, { on := 27, ground := Go.Ground.phase }], guard := none }) (v := ?_) rfl (by kernel_rfl) (by kernel_rfl) (by kernel_rfl) (fun _ _ _ h => h) (Or.inl ⟨by rfl, ?_⟩) hH5 ?_
                  rotate_left
                  · (intro w hSw; (try dsimp only at hSw); go_simp; (try with_reducible rfl))
                  try simp only [Act.put, List.setIfInBounds_toArray, List.set_cons_zero, List.set_cons_succ]
                  refine wpAnyH_take (i := 29) (oi := { dst := some 179, op := Go.Op.fieldAddr 54 (Go.Operand.tmp 178) 4, type := 0, pos := "ref.go:86", after := #[{ on := 28, ground := Go.Ground.data }, { on := 0, ground := Go.Ground.phase }, { on := 1, ground := Go.Ground.phase }, { on := 2, ground := Go.Ground.phase }, { on := 3, ground := Go.Ground.phase }, { on := 4, ground := Go.Ground.phase }, { on := 5, ground := Go.Ground.phase }, { on := 6, ground := Go.Ground.phase }, { on := 7, ground := Go.Ground.phase }, { on := 8, ground := Go.Ground.phase }, { on := 9, ground := Go.Ground.phase }, { on := 10, ground := Go.Ground.phase }, { on := 11, ground := Go.Ground.phase }, { on := 12, ground := Go.Ground.phase }, { on := 13, ground := Go.Ground.phase }, { on := 14, ground := Go.Ground.phase }, { on := 15, ground := Go.Ground.phase }, { on := 16, ground := Go.Ground.phase }, { on := 17, ground := Go.Ground.phase }, { on := 18, ground := Go.Ground.phase }, { on := 19, ground := Go.Ground.phase }, { on := 20, ground := Go.Ground.phase }, { on := 21, ground := Go.Ground.phase }, { on := 22, ground := Go.Ground.phase }, { on := 23, ground := Go.Ground.phase }, { on := 24, ground := Go.Ground.phase }, { on := 25, ground := Go.Ground.phase }, { on := 26, ground := Go.Ground.phase }, { on := 27, ground := Go.Ground.phase }], guard := none }) (v := ?_) rfl (by kernel_rfl) (by kernel_rfl) (by kernel_rfl) (fun _ _ _ h => h) (Or.inl ⟨by rfl, ?_⟩) hH5 ?_
                  rotate_left
                  · (intro w hSw; (try dsimp only at hSw); go_simp; (try with_reducible rfl))
                  try simp only [Act.put, List.setIfInBounds_toArray, List.set_cons_zero, List.set_cons_succ]
                  refine wpAnyH_take (i := 30) (oi := { dst := some 180, op := Go.Op.fieldAddr 24 (Go.Operand.tmp 179) 0, type := 0, pos := "ref.go:86", after := #[{ on := 29, ground := Go.Ground.data }, { on := 0, ground := Go.Ground.phase }, { on := 1, ground := Go.Ground.phase }, { on := 2, ground := Go.Ground.phase }, { on := 3, ground := Go.Ground.phase }, { on := 4, ground := Go.Ground.phase }, { on := 5, ground := Go.Ground.phase }, { on := 6, ground := Go.Ground.phase }, { on := 7, ground := Go.Ground.phase }, { on := 8, ground := Go.Ground.phase }, { on := 9, ground := Go.Ground.phase }, { on := 10, ground := Go.Ground.phase }, { on := 11, ground := Go.Ground.phase }, { on := 12, ground := Go.Ground.phase }, { on := 13, ground := Go.Ground.phase }, { on := 14, ground := Go.Ground.phase }, { on := 15, ground := Go.Ground.phase }, { on := 16, ground := Go.Ground.phase }, { on := 17, ground := Go.Ground.phase }, { on := 18, ground := Go.Ground.phase }, { on := 19, ground := Go.Ground.phase }, { on := 20, ground := Go.Ground.phase }, { on := 21, ground := Go.Ground.phase }, { on := 22, ground := Go.Ground.phase }, { on := 23, ground := Go.Ground.phase }, { on := 24, ground := Go.Ground.phase }, { on := 25, ground := Go.Ground.phase }, { on := 26, ground := Go.Ground.phase }, { on := 27, ground := Go.Ground.phase }], guard := none }) (v := ?_) rfl (by kernel_rfl) (by kernel_rfl) (by kernel_rfl) (fun _ _ _ h => h) (Or.inl ⟨by rfl, ?_⟩) hH5 ?_
                  rotate_left
                  · (intro w hSw; (try dsimp only at hSw); go_simp; (try with_reducible rfl))
                  try simp only [Act.put, List.setIfInBounds_toArray, List.set_cons_zero, List.set_cons_succ]
                  refine wpAnyH_ready (rs := [31]) (by kernel_rfl) (by simp) ?_
                  refine AllReadyH.cons (o := { dst := none, op := Go.Op.store 22 (Go.Operand.tmp 180) (Go.Operand.tmp 177), type := 0, pos := "ref.go:86", after := #[{ on := 30, ground := Go.Ground.data }, { on := 27, ground := Go.Ground.data }, { on := 27, ground := Go.Ground.chain }, { on := 0, ground := Go.Ground.phase }, { on := 1, ground := Go.Ground.phase }, { on := 2, ground := Go.Ground.phase }, { on := 3, ground := Go.Ground.phase }, { on := 4, ground := Go.Ground.phase }, { on := 5, ground := Go.Ground.phase }, { on := 6, ground := Go.Ground.phase }, { on := 7, ground := Go.Ground.phase }, { on := 8, ground := Go.Ground.phase }, { on := 9, ground := Go.Ground.phase }, { on := 10, ground := Go.Ground.phase }, { on := 11, ground := Go.Ground.phase }, { on := 12, ground := Go.Ground.phase }, { on := 13, ground := Go.Ground.phase }, { on := 14, ground := Go.Ground.phase }, { on := 15, ground := Go.Ground.phase }, { on := 16, ground := Go.Ground.phase }, { on := 17, ground := Go.Ground.phase }, { on := 18, ground := Go.Ground.phase }, { on := 19, ground := Go.Ground.phase }, { on := 20, ground := Go.Ground.phase }, { on := 21, ground := Go.Ground.phase }, { on := 22, ground := Go.Ground.phase }, { on := 23, ground := Go.Ground.phase }, { on := 24, ground := Go.Ground.phase }, { on := 25, ground := Go.Ground.phase }, { on := 26, ground := Go.Ground.phase }, { on := 27, ground := Go.Ground.phase }], guard := none }) rfl (fun K hK => ?_) AllReadyH.nil
                  go_simp
                  refine hK.out _ _ E10.out (fun hH6 => ?_)
                  clear hK K
                  try simp only [Act.put, List.setIfInBounds_toArray, List.set_cons_zero, List.set_cons_succ]
                  refine wpAnyH_done (by kernel_rfl) ?_ _
                  go_wp2_with (fail)
                  go_meet
                  exact ⟨rfl, rfl, rfl, HFIN.out⟩
                refine AllReadyH.cons (o := { dst := some 163, op := Go.Op.buildSlice 25 0 #[], type := 25, pos := "ref.go:86", after := #[], guard := none }) rfl (fun K hK => ?_) AllReadyH.nil
                go_simp
                refine hK.out _ _ E1.out (fun hH7 => ?_)
                clear hK K
                try simp only [Act.put, List.setIfInBounds_toArray, List.set_cons_zero, List.set_cons_succ]
                refine wpAnyH_ready (rs := [5, 24]) (by kernel_rfl) (by simp) ?_
                refine AllReadyH.cons (o := { dst := some 155, op := Go.Op.load 22 (Go.Operand.tmp 154), type := 22, pos := "ref.go:86", after := #[{ on := 4, ground := Go.Ground.data }], guard := none }) rfl (fun K hK => ?_) ?_
                · go_simp
                  refine hK.out _ _ hH7 (fun hH8 => ?_)
                  clear hK K
                  try simp only [Act.put, List.setIfInBounds_toArray, List.set_cons_zero, List.set_cons_succ]
                  refine wpAnyH_ready (rs := [24]) (by kernel_rfl) (by simp) ?_
                  refine AllReadyH.cons (o := { dst := some 174, op := Go.Op.call { callee := Go.Callee.builtin Go.Builtin.append, args := #[Go.Operand.tmp 163, Go.Operand.tmp 173], argTypes := #[25, 25] }, type := 25, pos := "ref.go:86", after := #[{ on := 13, ground := Go.Ground.data }, { on := 23, ground := Go.Ground.data }], guard := none }) rfl (fun K hK => ?_) AllReadyH.nil
                  refine step_append_run3 rfl (.tmp 163) (.tmp 173) 25 rfl _ _ rfl rfl _ _ happ8 ?_
                  refine hK.out _ _ E8.out (fun hH9 => ?_)
                  clear hK K
                  try simp only [Act.put, List.setIfInBounds_toArray, List.set_cons_zero, List.set_cons_succ]
                  refine wpAnyH_take (i := 25) (oi := { dst := some 175, op := Go.Op.build 43 #[(0, Go.Operand.tmp 158), (1, Go.Operand.tmp 162), (2, Go.Operand.tmp 174)], type := 43, pos := "ref.go:86", after := #[{ on := 8, ground := Go.Ground.data }, { on := 12, ground := Go.Ground.data }, { on := 24, ground := Go.Ground.data }], guard := none }) (v := ?_) rfl (by kernel_rfl) (by kernel_rfl) (by kernel_rfl) (fun _ _ _ h => h) (Or.inl ⟨by rfl, ?_⟩) hH9 ?_
                  rotate_left
                  · (intro w hSw; (try dsimp only at hSw); go_simp; (try with_reducible rfl))
                  try simp only [Act.put, List.setIfInBounds_toArray, List.set_cons_zero, List.set_cons_succ]
                  refine wpAnyH_ready (rs := [26]) (by kernel_rfl) (by simp) ?_
                  refine AllReadyH.cons (o := { dst := some 176, op := Go.Op.buildSlice 22 1 #[(0, Go.Operand.tmp 175)], type := 22, pos := "ref.go:86", after := #[{ on := 25, ground := Go.Ground.data }], guard := none }) rfl (fun K hK => ?_) AllReadyH.nil
                  go_simp
                  refine hK.out _ _ EZ.out (fun hH10 => ?_)
                  clear hK K
                  try simp only [Act.put, List.setIfInBounds_toArray, List.set_cons_zero, List.set_cons_succ]
                  refine wpAnyH_ready (rs := [27]) (by kernel_rfl) (by simp) ?_
                  refine AllReadyH.cons (o := { dst := some 177, op := Go.Op.call { callee := Go.Callee.builtin Go.Builtin.append, args := #[Go.Operand.tmp 155, Go.Operand.tmp 176], argTypes := #[22, 22] }, type := 22, pos := "ref.go:86", after := #[{ on := 5, ground := Go.Ground.data }, { on := 26, ground := Go.Ground.data }, { on := 24, ground := Go.Ground.chain }], guard := none }) rfl (fun K hK => ?_) AllReadyH.nil
                  refine step_append_run3 rfl (.tmp 155) (.tmp 176) 22 rfl _ _ rfl rfl _ _ happ9 ?_
                  refine hK.out _ _ E9.out (fun hH11 => ?_)
                  clear hK K
                  try simp only [Act.put, List.setIfInBounds_toArray, List.set_cons_zero, List.set_cons_succ]
                  refine wpAnyH_take (i := 28) (oi := { dst := some 178, op := Go.Op.nilCheck (Go.Operand.tmp 150), type := 0, pos := "ref.go:86", after := #[{ on := 0, ground := Go.Ground.data }, { on := 0, ground := Go.Ground.phase }, { on := 1, ground := Go.Ground.phase }, { on := 2, ground := Go.Ground.phase }, { on := 3, ground := Go.Ground.phase }, { on := 4, ground := Go.Ground.phase }, { on := 5, ground := Go.Ground.phase }, { on := 6, ground := Go.Ground.phase }, { on := 7, ground := Go.Ground.phase }, { on := 8, ground := Go.Ground.phase }, { on := 9, ground := Go.Ground.phase }, { on := 10, ground := Go.Ground.phase }, { on := 11, ground := Go.Ground.phase }, { on := 12, ground := Go.Ground.phase }, { on := 13, ground := Go.Ground.phase }, { on := 14, ground := Go.Ground.phase }, { on := 15, ground := Go.Ground.phase }, { on := 16, ground := Go.Ground.phase }, { on := 17, ground := Go.Ground.phase }, { on := 18, ground := Go.Ground.phase }, { on := 19, ground := Go.Ground.phase }, { on := 20, ground := Go.Ground.phase }, { on := 21, ground := Go.Ground.phase }, { on := 22, ground := Go.Ground.phase }, { on := 23, ground := Go.Ground.phase }, { on := 24, ground := Go.Ground.phase }, { on := 25, ground := Go.Ground.phase }, { on := 26, ground := Go.Ground.phase }, { on := 27, ground := Go.Ground.phase }], guard := none }) (v := ?_) rfl (by kernel_rfl) (by kernel_rfl) (by kernel_rfl) (fun _ _ _ h => h) (Or.inl ⟨by rfl, ?_⟩) hH11 ?_
                  rotate_left
                  · (intro w hSw; (try dsimp only at hSw); go_simp; (try with_reducible rfl))
                  try simp only [Act.put, List.setIfInBounds_toArray, List.set_cons_zero, List.set_cons_succ]
                  refine wpAnyH_take (i := 29) (oi := { dst := some 179, op := Go.Op.fieldAddr 54 (Go.Operand.tmp 178) 4, type := 0, pos := "ref.go:86", after := #[{ on := 28, ground := Go.Ground.data }, { on := 0, ground := Go.Ground.phase }, { on := 1, ground := Go.Ground.phase }, { on := 2, ground := Go.Ground.phase }, { on := 3, ground := Go.Ground.phase }, { on := 4, ground := Go.Ground.phase }, { on := 5, ground := Go.Ground.phase }, { on := 6, ground := Go.Ground.phase }, { on := 7, ground := Go.Ground.phase }, { on := 8, ground := Go.Ground.phase }, { on := 9, ground := Go.Ground.phase }, { on := 10, ground := Go.Ground.phase }, { on := 11, ground := Go.Ground.phase }, { on := 12, ground := Go.Ground.phase }, { on := 13, ground := Go.Ground.phase }, { on := 14, ground := Go.Ground.phase }, { on := 15, ground := Go.Ground.phase }, { on := 16, ground := Go.Ground.phase }, { on := 17, ground := Go.Ground.phase }, { on := 18, ground := Go.Ground.phase }, { on := 19, ground := Go.Ground.phase }, { on := 20, ground := Go.Ground.phase }, { on := 21, ground := Go.Ground.phase }, { on := 22, ground := Go.Ground.phase }, { on := 23, ground := Go.Ground.phase }, { on := 24, ground := Go.Ground.phase }, { on := 25, ground := Go.Ground.phase }, { on := 26, ground := Go.Ground.phase }, { on := 27, ground := Go.Ground.phase }], guard := none }) (v := ?_) rfl (by kernel_rfl) (by kernel_rfl) (by kernel_rfl) (fun _ _ _ h => h) (Or.inl ⟨by rfl, ?_⟩) hH11 ?_
                  rotate_left
                  · (intro w hSw; (try dsimp only at hSw); go_simp; (try with_reducible rfl))
                  try simp only [Act.put, List.setIfInBounds_toArray, List.set_cons_zero, List.set_cons_succ]
                  refine wpAnyH_take (i := 30) (oi := { dst := some 180, op := Go.Op.fieldAddr 24 (Go.Operand.tmp 179) 0, type := 0, pos := "ref.go:86", after := #[{ on := 29, ground := Go.Ground.data }, { on := 0, ground := Go.Ground.phase }, { on := 1, ground := Go.Ground.phase }, { on := 2, ground := Go.Ground.phase }, { on := 3, ground := Go.Ground.phase }, { on := 4, ground := Go.Ground.phase }, { on := 5, ground := Go.Ground.phase }, { on := 6, ground := Go.Ground.phase }, { on := 7, ground := Go.Ground.phase }, { on := 8, ground := Go.Ground.phase }, { on := 9, ground := Go.Ground.phase }, { on := 10, ground := Go.Ground.phase }, { on := 11, ground := Go.Ground.phase }, { on := 12, ground := Go.Ground.phase }, { on := 13, ground := Go.Ground.phase }, { on := 14, ground := Go.Ground.phase }, { on := 15, ground := Go.Ground.phase }, { on := 16, ground := Go.Ground.phase }, { on := 17, ground := Go.Ground.phase }, { on := 18, ground := Go.Ground.phase }, { on := 19, ground := Go.Ground.phase }, { on := 20, ground := Go.Ground.phase }, { on := 21, ground := Go.Ground.phase }, { on := 22, ground := Go.Ground.phase }, { on := 23, ground := Go.Ground.phase }, { on := 24, ground := Go.Ground.phase }, { on := 25, ground := Go.Ground.phase }, { on := 26, ground := Go.Ground.phase }, { on := 27, ground := Go.Ground.phase }], guard := none }) (v := ?_) rfl (by kernel_rfl) (by kernel_rfl) (by kernel_rfl) (fun _ _ _ h => h) (Or.inl ⟨by rfl, ?_⟩) hH11 ?_
                  rotate_left
                  · (intro w hSw; (try dsimp only at hSw); go_simp; (try with_reducible rfl))
                  try simp only [Act.put, List.setIfInBounds_toArray, List.set_cons_zero, List.set_cons_succ]
                  refine wpAnyH_ready (rs := [31]) (by kernel_rfl) (by simp) ?_
                  refine AllReadyH.cons (o := { dst := none, op := Go.Op.store 22 (Go.Operand.tmp 180) (Go.Operand.tmp 177), type := 0, pos := "ref.go:86", after := #[{ on := 30, ground := Go.Ground.data }, { on := 27, ground := Go.Ground.data }, { on := 27, ground := Go.Ground.chain }, { on := 0, ground := Go.Ground.phase }, { on := 1, ground := Go.Ground.phase }, { on := 2, ground := Go.Ground.phase }, { on := 3, ground := Go.Ground.phase }, { on := 4, ground := Go.Ground.phase }, { on := 5, ground := Go.Ground.phase }, { on := 6, ground := Go.Ground.phase }, { on := 7, ground := Go.Ground.phase }, { on := 8, ground := Go.Ground.phase }, { on := 9, ground := Go.Ground.phase }, { on := 10, ground := Go.Ground.phase }, { on := 11, ground := Go.Ground.phase }, { on := 12, ground := Go.Ground.phase }, { on := 13, ground := Go.Ground.phase }, { on := 14, ground := Go.Ground.phase }, { on := 15, ground := Go.Ground.phase }, { on := 16, ground := Go.Ground.phase }, { on := 17, ground := Go.Ground.phase }, { on := 18, ground := Go.Ground.phase }, { on := 19, ground := Go.Ground.phase }, { on := 20, ground := Go.Ground.phase }, { on := 21, ground := Go.Ground.phase }, { on := 22, ground := Go.Ground.phase }, { on := 23, ground := Go.Ground.phase }, { on := 24, ground := Go.Ground.phase }, { on := 25, ground := Go.Ground.phase }, { on := 26, ground := Go.Ground.phase }, { on := 27, ground := Go.Ground.phase }], guard := none }) rfl (fun K hK => ?_) AllReadyH.nil
                  go_simp
                  refine hK.out _ _ E10.out (fun hH12 => ?_)
                  clear hK K
                  try simp only [Act.put, List.setIfInBounds_toArray, List.set_cons_zero, List.set_cons_succ]
                  refine wpAnyH_done (by kernel_rfl) ?_ _
                  go_wp2_with (fail)
                  go_meet
                  exact ⟨rfl, rfl, rfl, HFIN.out⟩
                refine AllReadyH.cons (o := { dst := some 174, op := Go.Op.call { callee := Go.Callee.builtin Go.Builtin.append, args := #[Go.Operand.tmp 163, Go.Operand.tmp 173], argTypes := #[25, 25] }, type := 25, pos := "ref.go:86", after := #[{ on := 13, ground := Go.Ground.data }, { on := 23, ground := Go.Ground.data }], guard := none }) rfl (fun K hK => ?_) AllReadyH.nil
                refine step_append_run3 rfl (.tmp 163) (.tmp 173) 25 rfl _ _ rfl rfl _ _ happ8 ?_
                refine hK.out _ _ E8.out (fun hH13 => ?_)
                clear hK K
                try simp only [Act.put, List.setIfInBounds_toArray, List.set_cons_zero, List.set_cons_succ]
                refine wpAnyH_take (i := 25) (oi := { dst := some 175, op := Go.Op.build 43 #[(0, Go.Operand.tmp 158), (1, Go.Operand.tmp 162), (2, Go.Operand.tmp 174)], type := 43, pos := "ref.go:86", after := #[{ on := 8, ground := Go.Ground.data }, { on := 12, ground := Go.Ground.data }, { on := 24, ground := Go.Ground.data }], guard := none }) (v := ?_) rfl (by kernel_rfl) (by kernel_rfl) (by kernel_rfl) (fun _ _ _ h => h) (Or.inl ⟨by rfl, ?_⟩) hH13 ?_
                rotate_left
                · (intro w hSw; (try dsimp only at hSw); go_simp; (try with_reducible rfl))
                try simp only [Act.put, List.setIfInBounds_toArray, List.set_cons_zero, List.set_cons_succ]
                refine wpAnyH_ready (rs := [5, 26]) (by kernel_rfl) (by simp) ?_
                refine AllReadyH.cons (o := { dst := some 155, op := Go.Op.load 22 (Go.Operand.tmp 154), type := 22, pos := "ref.go:86", after := #[{ on := 4, ground := Go.Ground.data }], guard := none }) rfl (fun K hK => ?_) ?_
                · go_simp
                  refine hK.out _ _ hH13 (fun hH14 => ?_)
                  clear hK K
                  try simp only [Act.put, List.setIfInBounds_toArray, List.set_cons_zero, List.set_cons_succ]
                  refine wpAnyH_ready (rs := [26]) (by kernel_rfl) (by simp) ?_
                  refine AllReadyH.cons (o := { dst := some 176, op := Go.Op.buildSlice 22 1 #[(0, Go.Operand.tmp 175)], type := 22, pos := "ref.go:86", after := #[{ on := 25, ground := Go.Ground.data }], guard := none }) rfl (fun K hK => ?_) AllReadyH.nil
                  go_simp
                  refine hK.out _ _ EZ.out (fun hH15 => ?_)
                  clear hK K
                  try simp only [Act.put, List.setIfInBounds_toArray, List.set_cons_zero, List.set_cons_succ]
                  refine wpAnyH_ready (rs := [27]) (by kernel_rfl) (by simp) ?_
                  refine AllReadyH.cons (o := { dst := some 177, op := Go.Op.call { callee := Go.Callee.builtin Go.Builtin.append, args := #[Go.Operand.tmp 155, Go.Operand.tmp 176], argTypes := #[22, 22] }, type := 22, pos := "ref.go:86", after := #[{ on := 5, ground := Go.Ground.data }, { on := 26, ground := Go.Ground.data }, { on := 24, ground := Go.Ground.chain }], guard := none }) rfl (fun K hK => ?_) AllReadyH.nil
                  refine step_append_run3 rfl (.tmp 155) (.tmp 176) 22 rfl _ _ rfl rfl _ _ happ9 ?_
                  refine hK.out _ _ E9.out (fun hH16 => ?_)
                  clear hK K
                  try simp only [Act.put, List.setIfInBounds_toArray, List.set_cons_zero, List.set_cons_succ]
                  refine wpAnyH_take (i := 28) (oi := { dst := some 178, op := Go.Op.nilCheck (Go.Operand.tmp 150), type := 0, pos := "ref.go:86", after := #[{ on := 0, ground := Go.Ground.data }, { on := 0, ground := Go.Ground.phase }, { on := 1, ground := Go.Ground.phase }, { on := 2, ground := Go.Ground.phase }, { on := 3, ground := Go.Ground.phase }, { on := 4, ground := Go.Ground.phase }, { on := 5, ground := Go.Ground.phase }, { on := 6, ground := Go.Ground.phase }, { on := 7, ground := Go.Ground.phase }, { on := 8, ground := Go.Ground.phase }, { on := 9, ground := Go.Ground.phase }, { on := 10, ground := Go.Ground.phase }, { on := 11, ground := Go.Ground.phase }, { on := 12, ground := Go.Ground.phase }, { on := 13, ground := Go.Ground.phase }, { on := 14, ground := Go.Ground.phase }, { on := 15, ground := Go.Ground.phase }, { on := 16, ground := Go.Ground.phase }, { on := 17, ground := Go.Ground.phase }, { on := 18, ground := Go.Ground.phase }, { on := 19, ground := Go.Ground.phase }, { on := 20, ground := Go.Ground.phase }, { on := 21, ground := Go.Ground.phase }, { on := 22, ground := Go.Ground.phase }, { on := 23, ground := Go.Ground.phase }, { on := 24, ground := Go.Ground.phase }, { on := 25, ground := Go.Ground.phase }, { on := 26, ground := Go.Ground.phase }, { on := 27, ground := Go.Ground.phase }], guard := none }) (v := ?_) rfl (by kernel_rfl) (by kernel_rfl) (by kernel_rfl) (fun _ _ _ h => h) (Or.inl ⟨by rfl, ?_⟩) hH16 ?_
                  rotate_left
                  · (intro w hSw; (try dsimp only at hSw); go_simp; (try with_reducible rfl))
                  try simp only [Act.put, List.setIfInBounds_toArray, List.set_cons_zero, List.set_cons_succ]
                  refine wpAnyH_take (i := 29) (oi := { dst := some 179, op := Go.Op.fieldAddr 54 (Go.Operand.tmp 178) 4, type := 0, pos := "ref.go:86", after := #[{ on := 28, ground := Go.Ground.data }, { on := 0, ground := Go.Ground.phase }, { on := 1, ground := Go.Ground.phase }, { on := 2, ground := Go.Ground.phase }, { on := 3, ground := Go.Ground.phase }, { on := 4, ground := Go.Ground.phase }, { on := 5, ground := Go.Ground.phase }, { on := 6, ground := Go.Ground.phase }, { on := 7, ground := Go.Ground.phase }, { on := 8, ground := Go.Ground.phase }, { on := 9, ground := Go.Ground.phase }, { on := 10, ground := Go.Ground.phase }, { on := 11, ground := Go.Ground.phase }, { on := 12, ground := Go.Ground.phase }, { on := 13, ground := Go.Ground.phase }, { on := 14, ground := Go.Ground.phase }, { on := 15, ground := Go.Ground.phase }, { on := 16, ground := Go.Ground.phase }, { on := 17, ground := Go.Ground.phase }, { on := 18, ground := Go.Ground.phase }, { on := 19, ground := Go.Ground.phase }, { on := 20, ground := Go.Ground.phase }, { on := 21, ground := Go.Ground.phase }, { on := 22, ground := Go.Ground.phase }, { on := 23, ground := Go.Ground.phase }, { on := 24, ground := Go.Ground.phase }, { on := 25, ground := Go.Ground.phase }, { on := 26, ground := Go.Ground.phase }, { on := 27, ground := Go.Ground.phase }], guard := none }) (v := ?_) rfl (by kernel_rfl) (by kernel_rfl) (by kernel_rfl) (fun _ _ _ h => h) (Or.inl ⟨by rfl, ?_⟩) hH16 ?_
                  rotate_left
                  · (intro w hSw; (try dsimp only at hSw); go_simp; (try with_reducible rfl))
                  try simp only [Act.put, List.setIfInBounds_toArray, List.set_cons_zero, List.set_cons_succ]
                  refine wpAnyH_take (i := 30) (oi := { dst := some 180, op := Go.Op.fieldAddr 24 (Go.Operand.tmp 179) 0, type := 0, pos := "ref.go:86", after := #[{ on := 29, ground := Go.Ground.data }, { on := 0, ground := Go.Ground.phase }, { on := 1, ground := Go.Ground.phase }, { on := 2, ground := Go.Ground.phase }, { on := 3, ground := Go.Ground.phase }, { on := 4, ground := Go.Ground.phase }, { on := 5, ground := Go.Ground.phase }, { on := 6, ground := Go.Ground.phase }, { on := 7, ground := Go.Ground.phase }, { on := 8, ground := Go.Ground.phase }, { on := 9, ground := Go.Ground.phase }, { on := 10, ground := Go.Ground.phase }, { on := 11, ground := Go.Ground.phase }, { on := 12, ground := Go.Ground.phase }, { on := 13, ground := Go.Ground.phase }, { on := 14, ground := Go.Ground.phase }, { on := 15, ground := Go.Ground.phase }, { on := 16, ground := Go.Ground.phase }, { on := 17, ground := Go.Ground.phase }, { on := 18, ground := Go.Ground.phase }, { on := 19, ground := Go.Ground.phase }, { on := 20, ground := Go.Ground.phase }, { on := 21, ground := Go.Ground.phase }, { on := 22, ground := Go.Ground.phase }, { on := 23, ground := Go.Ground.phase }, { on := 24, ground := Go.Ground.phase }, { on := 25, ground := Go.Ground.phase }, { on := 26, ground := Go.Ground.phase }, { on := 27, ground := Go.Ground.phase }], guard := none }) (v := ?_) rfl (by kernel_rfl) (by kernel_rfl) (by kernel_rfl) (fun _ _ _ h => h) (Or.inl ⟨by rfl, ?_⟩) hH16 ?_
                  rotate_left
                  · (intro w hSw; (try dsimp only at hSw); go_simp; (try with_reducible rfl))
                  try simp only [Act.put, List.setIfInBounds_toArray, List.set_cons_zero, List.set_cons_succ]
                  refine wpAnyH_ready (rs := [31]) (by kernel_rfl) (by simp) ?_
                  refine AllReadyH.cons (o := { dst := none, op := Go.Op.store 22 (Go.Operand.tmp 180) (Go.Operand.tmp 177), type := 0, pos := "ref.go:86", after := #[{ on := 30, ground := Go.Ground.data }, { on := 27, ground := Go.Ground.data }, { on := 27, ground := Go.Ground.chain }, { on := 0, ground := Go.Ground.phase }, { on := 1, ground := Go.Ground.phase }, { on := 2, ground := Go.Ground.phase }, { on := 3, ground := Go.Ground.phase }, { on := 4, ground := Go.Ground.phase }, { on := 5, ground := Go.Ground.phase }, { on := 6, ground := Go.Ground.phase }, { on := 7, ground := Go.Ground.phase }, { on := 8, ground := Go.Ground.phase }, { on := 9, ground := Go.Ground.phase }, { on := 10, ground := Go.Ground.phase }, { on := 11, ground := Go.Ground.phase }, { on := 12, ground := Go.Ground.phase }, { on := 13, ground := Go.Ground.phase }, { on := 14, ground := Go.Ground.phase }, { on := 15, ground := Go.Ground.phase }, { on := 16, ground := Go.Ground.phase }, { on := 17, ground := Go.Ground.phase }, { on := 18, ground := Go.Ground.phase }, { on := 19, ground := Go.Ground.phase }, { on := 20, ground := Go.Ground.phase }, { on := 21, ground := Go.Ground.phase }, { on := 22, ground := Go.Ground.phase }, { on := 23, ground := Go.Ground.phase }, { on := 24, ground := Go.Ground.phase }, { on := 25, ground := Go.Ground.phase }, { on := 26, ground := Go.Ground.phase }, { on := 27, ground := Go.Ground.phase }], guard := none }) rfl (fun K hK => ?_) AllReadyH.nil
                  go_simp
                  refine hK.out _ _ E10.out (fun hH17 => ?_)
                  clear hK K
                  try simp only [Act.put, List.setIfInBounds_toArray, List.set_cons_zero, List.set_cons_succ]
                  refine wpAnyH_done (by kernel_rfl) ?_ _
                  go_wp2_with (fail)
                  go_meet
                  exact ⟨rfl, rfl, rfl, HFIN.out⟩
                refine AllReadyH.cons (o := { dst := some 176, op := Go.Op.buildSlice 22 1 #[(0, Go.Operand.tmp 175)], type := 22, pos := "ref.go:86", after := #[{ on := 25, ground := Go.Ground.data }], guard := none }) rfl (fun K hK => ?_) AllReadyH.nil
                go_simp
                refine hK.out _ _ EZ.out (fun hH18 => ?_)
                clear hK K
                try simp only [Act.put, List.setIfInBounds_toArray, List.set_cons_zero, List.set_cons_succ]
                refine wpAnyH_ready (rs := [5]) (by kernel_rfl) (by simp) ?_
                refine AllReadyH.cons (o := { dst := some 155, op := Go.Op.load 22 (Go.Operand.tmp 154), type := 22, pos := "ref.go:86", after := #[{ on := 4, ground := Go.Ground.data }], guard := none }) rfl (fun K hK => ?_) AllReadyH.nil
                go_simp
                refine hK.out _ _ hH18 (fun hH19 => ?_)
                clear hK K
                try simp only [Act.put, List.setIfInBounds_toArray, List.set_cons_zero, List.set_cons_succ]
                refine wpAnyH_ready (rs := [27]) (by kernel_rfl) (by simp) ?_
                refine AllReadyH.cons (o := { dst := some 177, op := Go.Op.call { callee := Go.Callee.builtin Go.Builtin.append, args := #[Go.Operand.tmp 155, Go.Operand.tmp 176], argTypes := #[22, 22] }, type := 22, pos := "ref.go:86", after := #[{ on := 5, ground := Go.Ground.data }, { on := 26, ground := Go.Ground.data }, { on := 24, ground := Go.Ground.chain }], guard := none }) rfl (fun K hK => ?_) AllReadyH.nil
                refine step_append_run3 rfl (.tmp 155) (.tmp 176) 22 rfl _ _ rfl rfl _ _ happ9 ?_
                refine hK.out _ _ E9.out (fun hH20 => ?_)
                clear hK K
                try simp only [Act.put, List.setIfInBounds_toArray, List.set_cons_zero, List.set_cons_succ]
                refine wpAnyH_take (i := 28) (oi := { dst := some 178, op := Go.Op.nilCheck (Go.Operand.tmp 150), type := 0, pos := "ref.go:86", after := #[{ on := 0, ground := Go.Ground.data }, { on := 0, ground := Go.Ground.phase }, { on := 1, ground := Go.Ground.phase }, { on := 2, ground := Go.Ground.phase }, { on := 3, ground := Go.Ground.phase }, { on := 4, ground := Go.Ground.phase }, { on := 5, ground := Go.Ground.phase }, { on := 6, ground := Go.Ground.phase }, { on := 7, ground := Go.Ground.phase }, { on := 8, ground := Go.Ground.phase }, { on := 9, ground := Go.Ground.phase }, { on := 10, ground := Go.Ground.phase }, { on := 11, ground := Go.Ground.phase }, { on := 12, ground := Go.Ground.phase }, { on := 13, ground := Go.Ground.phase }, { on := 14, ground := Go.Ground.phase }, { on := 15, ground := Go.Ground.phase }, { on := 16, ground := Go.Ground.phase }, { on := 17, ground := Go.Ground.phase }, { on := 18, ground := Go.Ground.phase }, { on := 19, ground := Go.Ground.phase }, { on := 20, ground := Go.Ground.phase }, { on := 21, ground := Go.Ground.phase }, { on := 22, ground := Go.Ground.phase }, { on := 23, ground := Go.Ground.phase }, { on := 24, ground := Go.Ground.phase }, { on := 25, ground := Go.Ground.phase }, { on := 26, ground := Go.Ground.phase }, { on := 27, ground := Go.Ground.phase }], guard := none }) (v := ?_) rfl (by kernel_rfl) (by kernel_rfl) (by kernel_rfl) (fun _ _ _ h => h) (Or.inl ⟨by rfl, ?_⟩) hH20 ?_
                rotate_left
                · (intro w hSw; (try dsimp only at hSw); go_simp; (try with_reducible rfl))
                try simp only [Act.put, List.setIfInBounds_toArray, List.set_cons_zero, List.set_cons_succ]
                refine wpAnyH_take (i := 29) (oi := { dst := some 179, op := Go.Op.fieldAddr 54 (Go.Operand.tmp 178) 4, type := 0, pos := "ref.go:86", after := #[{ on := 28, ground := Go.Ground.data }, { on := 0, ground := Go.Ground.phase }, { on := 1, ground := Go.Ground.phase }, { on := 2, ground := Go.Ground.phase }, { on := 3, ground := Go.Ground.phase }, { on := 4, ground := Go.Ground.phase }, { on := 5, ground := Go.Ground.phase }, { on := 6, ground := Go.Ground.phase }, { on := 7, ground := Go.Ground.phase }, { on := 8, ground := Go.Ground.phase }, { on := 9, ground := Go.Ground.phase }, { on := 10, ground := Go.Ground.phase }, { on := 11, ground := Go.Ground.phase }, { on := 12, ground := Go.Ground.phase }, { on := 13, ground := Go.Ground.phase }, { on := 14, ground := Go.Ground.phase }, { on := 15, ground := Go.Ground.phase }, { on := 16, ground := Go.Ground.phase }, { on := 17, ground := Go.Ground.phase }, { on := 18, ground := Go.Ground.phase }, { on := 19, ground := Go.Ground.phase }, { on := 20, ground := Go.Ground.phase }, { on := 21, ground := Go.Ground.phase }, { on := 22, ground := Go.Ground.phase }, { on := 23, ground := Go.Ground.phase }, { on := 24, ground := Go.Ground.phase }, { on := 25, ground := Go.Ground.phase }, { on := 26, ground := Go.Ground.phase }, { on := 27, ground := Go.Ground.phase }], guard := none }) (v := ?_) rfl (by kernel_rfl) (by kernel_rfl) (by kernel_rfl) (fun _ _ _ h => h) (Or.inl ⟨by rfl, ?_⟩) hH20 ?_
                rotate_left
                · (intro w hSw; (try dsimp only at hSw); go_simp; (try with_reducible rfl))
                try simp only [Act.put, List.setIfInBounds_toArray, List.set_cons_zero, List.set_cons_succ]
                refine wpAnyH_take (i := 30) (oi := { dst := some 180, op := Go.Op.fieldAddr 24 (Go.Operand.tmp 179) 0, type := 0, pos := "ref.go:86", after := #[{ on := 29, ground := Go.Ground.data }, { on := 0, ground := Go.Ground.phase }, { on := 1, ground := Go.Ground.phase }, { on := 2, ground := Go.Ground.phase }, { on := 3, ground := Go.Ground.phase }, { on := 4, ground := Go.Ground.phase }, { on := 5, ground := Go.Ground.phase }, { on := 6, ground := Go.Ground.phase }, { on := 7, ground := Go.Ground.phase }, { on := 8, ground := Go.Ground.phase }, { on := 9, ground := Go.Ground.phase }, { on := 10, ground := Go.Ground.phase }, { on := 11, ground := Go.Ground.phase }, { on := 12, ground := Go.Ground.phase }, { on := 13, ground := Go.Ground.phase }, { on := 14, ground := Go.Ground.phase }, { on := 15, ground := Go.Ground.phase }, { on := 16, ground := Go.Ground.phase }, { on := 17, ground := Go.Ground.phase }, { on := 18, ground := Go.Ground.phase }, { on := 19, ground := Go.Ground.phase }, { on := 20, ground := Go.Ground.phase }, { on := 21, ground := Go.Ground.phase }, { on := 22, ground := Go.Ground.phase }, { on := 23, ground := Go.Ground.phase }, { on := 24, ground := Go.Ground.phase }, { on := 25, ground := Go.Ground.phase }, { on := 26, ground := Go.Ground.phase }, { on := 27, ground := Go.Ground.phase }], guard := none }) (v := ?_) rfl (by kernel_rfl) (by kernel_rfl) (by kernel_rfl) (fun _ _ _ h => h) (Or.inl ⟨by rfl, ?_⟩) hH20 ?_
                rotate_left
                · (intro w hSw; (try dsimp only at hSw); go_simp; (try with_reducible rfl))
                try simp only [Act.put, List.setIfInBounds_toArray, List.set_cons_zero, List.set_cons_succ]
                refine wpAnyH_ready (rs := [31]) (by kernel_rfl) (by simp) ?_
                refine AllReadyH.cons (o := { dst := none, op := Go.Op.store 22 (Go.Operand.tmp 180) (Go.Operand.tmp 177), type := 0, pos := "ref.go:86", after := #[{ on := 30, ground := Go.Ground.data }, { on := 27, ground := Go.Ground.data }, { on := 27, ground := Go.Ground.chain }, { on := 0, ground := Go.Ground.phase }, { on := 1, ground := Go.Ground.phase }, { on := 2, ground := Go.Ground.phase }, { on := 3, ground := Go.Ground.phase }, { on := 4, ground := Go.Ground.phase }, { on := 5, ground := Go.Ground.phase }, { on := 6, ground := Go.Ground.phase }, { on := 7, ground := Go.Ground.phase }, { on := 8, ground := Go.Ground.phase }, { on := 9, ground := Go.Ground.phase }, { on := 10, ground := Go.Ground.phase }, { on := 11, ground := Go.Ground.phase }, { on := 12, ground := Go.Ground.phase }, { on := 13, ground := Go.Ground.phase }, { on := 14, ground := Go.Ground.phase }, { on := 15, ground := Go.Ground.phase }, { on := 16, ground := Go.Ground.phase }, { on := 17, ground := Go.Ground.phase }, { on := 18, ground := Go.Ground.phase }, { on := 19, ground := Go.Ground.phase }, { on := 20, ground := Go.Ground.phase }, { on := 21, ground := Go.Ground.phase }, { on := 22, ground := Go.Ground.phase }, { on := 23, ground := Go.Ground.phase }, { on := 24, ground := Go.Ground.phase }, { on := 25, ground := Go.Ground.phase }, { on := 26, ground := Go.Ground.phase }, { on := 27, ground := Go.Ground.phase }], guard := none }) rfl (fun K hK => ?_) AllReadyH.nil
                go_simp
                refine hK.out _ _ E10.out (fun hH21 => ?_)
                clear hK K
                try simp only [Act.put, List.setIfInBounds_toArray, List.set_cons_zero, List.set_cons_succ]
                refine wpAnyH_done (by kernel_rfl) ?_ _
                go_wp2_with (fail)
                go_meet
                exact ⟨rfl, rfl, rfl, HFIN.out⟩
              case rest =>
                obtain ⟨rfl, rfl, rfl, v, hr6, hRv6, hBw6⟩ := hcut
                clear happ8 happ9 d4 x4 y4 z4 w4 f4 E0 E1 E8 EZ E9 E10 HFIN
                have c1 := hr6.cells.2.1
                have f1 := hr6.free 1
                have HR7 := Lib.hid (hr6.set1 (e3 : Int))
                have HRV7 := Lib.hid (evs_set hRv6 hr6 1 (.int .i64 (e3 : Int)))
                have HB7 := Lib.hid (hBw6.setCell (p := ⟨B, 1, none⟩) HAR.out.2.2.2.2.2.2.2.2.2.2.2 (.int .i64 (e3 : Int)))
                clear hr6 hRv6 hBw6
                go_wp2
                go_ret2
                obtain ⟨hlen', ha, hall, hev, hq, hap, hpq, hfit, hn1, hn2, hm, hwB⟩ := HAR.out
                have h1 := HE3.out
                have h2 := HSM.out
                have h3 := HK.out
                exact .inr ⟨rfl, e3, nl, sm, evs ++ [⟨t1, nl, data⟩], false, ⟨v, HR7.out, HRV7.out, HB7.out, hwB⟩, .inr ⟨rfl, by omega, by omega, by omega, by rw [List.length_append, List.length_singleton]; omega, k, by omega, HL3.out⟩⟩
    · have hl := HL.out
      rw [l1_other ha (fun e => h3 (HTG.out.trans e)) (fun e => ht (.inl (HTG.out.trans e))) (fun e => ht (.inr (HTG.out.trans e)))] at hl
      injection hl with hl
      have h1b : (tg != 1) = true := bne_iff_ne.mpr (fun e => ht (.inl e))
      have h2b : (tg != 2) = true := bne_iff_ne.mpr (fun e => ht (.inr e))
      clear HRV HR
      go_wp2
      go_ret2
      exact .inl ⟨_, 4, rfl, by decide, hl.symm, HBW.out⟩
end Go.Proofs.Ytefippbcgdfnbaa.QA
