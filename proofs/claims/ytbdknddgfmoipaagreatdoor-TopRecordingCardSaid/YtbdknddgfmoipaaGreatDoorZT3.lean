import Derived.RangeFuncNested
import Derived.RangeFuncBound
import Derived.RangeFuncCalls
import Derived.RangeFuncLeaves
import Derived.Shelf.Abstract
import Derived.Shelf.RegionOpen
import Derived.WalkKit
import Derived.OwnWalkIn
import Derived.TacticsInMore
import Derived.LoopNIn
import Derived.LoopIn
import Derived.Maps.AppendAt
import Derived.StillTailTactics
import Derived.Lib.Hide
import Derived.Lib.LazyBuf
import Derived.Outline
import Derived.Deep.RegionWith
import Derived.Deep.RegionLaw
import Derived.Deep.RegionHeld3
import Derived.Deep.CutBlock
import Derived.Deep.AppendLies
import Derived.Deep.DeepCutAuto
import Derived.Lib.Bytes
import Derived.Lib.SmallJoins
import Derived.Laws.EntriesVeiled
import Derived.BigRegion
import Derived.BigQuiet
import Derived.CallsIn
import Derived.Test.YtbdknddgfmoipaaGreatDoorProg
import Derived.Test.YtbdknddgfmoipaaGreatDoorZW
import Derived.Test.YtbdknddgfmoipaaGreatDoorZT2
set_option linter.unusedVariables false
set_option linter.unusedSimpArgs false
namespace Go.Proofs.YtbdknddgfmoipaaGreatDoor.TQ
open Go.RowKit Go.Shelf Go.Proofs.YtbdknddgfmoipaaGreatDoorW.PrintWords Go.Proofs.YtbdknddgfmoipaaGreatDoorW.PrintLast Go.Proofs.YtbdknddgfmoipaaGreatDoorW.PrintMore
set_option linter.unusedVariables false
set_option linter.unusedSimpArgs false


section
variable {F F1 : List Nat} {W W1 W2 W' V1 V2 : World} {o o' : Lo} {s : Sz}

set_option maxRecDepth 100000 in
set_option maxHeartbeats 2000000 in
theorem r_read1 (h : SIs W o s) (n t : Int) : Calls Tryz.prog 47 #[.pointer (some ⟨o.rb, 0, none⟩), .int .i64 1, .int .i64 n, .int .i64 t] W fun e W' => ∃ v o', e = .returned v ∧ SIs W' o' (s.read 1 n t) ∧ Nxt o W o' W' := by
  obtain ⟨hr, hle, hlab⟩ := h.wait 1 (by decide)
  obtain ⟨A, c, hv⟩ : ∃ A c, o.wv 1 = ⟨A, c⟩ := ⟨_, _, rfl⟩
  obtain ⟨len, hlen⟩ : ∃ len, len = (s.r.wait 1).length := ⟨_, rfl⟩
  obtain ⟨el, hel⟩ : ∃ el, el = s.r.ev.length := ⟨_, rfl⟩
  obtain ⟨ov, hov⟩ : ∃ ov, ov = s.r.over 1 := ⟨_, rfl⟩
  obtain ⟨oz, hoz⟩ : ∃ oz, oz = s.r.over 0 := ⟨_, rfl⟩
  obtain ⟨A0, c0, hev⟩ : ∃ A c, o.ev = ⟨A, c⟩ := ⟨_, _, rfl⟩
  have c4 : W.cell? ⟨o.rb, 10, none⟩ = some (.slice A len c) := by rw [h.cell 10, hlen]; show some (Value.slice (o.wv 1).A _ (o.wv 1).c) = _; rw [hv]
  have c5 : W.cell? ⟨o.rb, 11, none⟩ = some (.bool ov) := by rw [hov]; exact h.cell 11
  have cz : W.cell? ⟨o.rb, 5, none⟩ = some (.bool oz) := by rw [hoz]; exact h.cell 5
  have c13 : W.cell? ⟨o.rb, 13, none⟩ = some (.slice A0 el c0) := by rw [h.cell 13, hel]; show some (Value.slice o.ev.A _ o.ev.c) = _; rw [hev]
  have hB : s.blocked 1 n = (decide (0 < len) || ov || oz || decide (n < 1) || decide (el = 4096)) := by unfold Sz.blocked; rw [← hlen, ← hov, ← hoz, ← hel]
  have HH := Lib.hid h
  have HLEN := Lib.hid hlen
  have HEL := Lib.hid hel
  have HEV := Lib.hid hev
  have HB := Lib.hid hB
  clear h hr hle hlab hv hlen hel hov hoz hev hB
  go_enter Tryz.func47, Tryz.ntmps47
  go_upto_region 2 with (fail)
  go_cut [47] (fun s47 wx => s47 = .bool (s.blocked 1 n) ∧ wx = W)
  case first =>
    clear HH HLEN HEL HEV
    by_cases a1 : 0 < len
    · have b1 := eq_true (show (0 : Int) < (len : Int) by omega)
      have b1' := eq_true a1
      go_wp2_with (fail)
      go_meet
      exact ⟨by rw [HB.out]; simp [a1], rfl⟩
    · have b1 := eq_false (show ¬ (0 : Int) < (len : Int) by omega)
      have b1' := eq_false a1
      cases ov
      · cases oz
        · by_cases a4 : n < 1
          · have b4 := eq_true a4
            go_wp2_with (fail)
            go_meet
            exact ⟨by rw [HB.out]; simp [a4], rfl⟩
          · have b4 := eq_false a4
            by_cases a5 : el = 4096
            · have b5 : ((el : Int) == 4096) = true := beq_iff_eq.mpr (by omega)
              have b5' : ((el : Int) = 4096) = True := eq_true (by omega)
              go_wp2_with (fail)
              go_meet
              exact ⟨by rw [HB.out]; simp [a5], rfl⟩
            · have b5 : ((el : Int) == 4096) = false := beq_eq_false_iff_ne.mpr (by omega)
              have b5' : ((el : Int) = 4096) = False := eq_false (by omega)
              go_wp2_with (fail)
              go_meet
              exact ⟨by rw [HB.out]; simp [a1, a4, a5], rfl⟩
        · go_wp2_with (fail)
          go_meet
          exact ⟨by rw [HB.out]; simp, rfl⟩
      · go_wp2_with (fail)
        go_meet
        exact ⟨by rw [HB.out]; simp, rfl⟩
  case rest =>
    obtain ⟨rfl, hwc⟩ := hcut
    subst hwc
    clear HB
    obtain ⟨bk, hbk⟩ : ∃ b, b = s.blocked 1 n := ⟨_, rfl⟩
    rw [← hbk]
    cases bk with
    | true =>
      have HBK := Lib.hid hbk
      clear hbk c4 c5 cz c13
      go_wp2_with (fail)
      go_ret
      exact ⟨_, o, rfl, by rw [read_block HBK.out]; exact HH.out, Nxt.refl _ _⟩
    | false =>
      have HBK := Lib.hid hbk
      obtain ⟨lf, hlf⟩ : ∃ lf, lf = s.r.left := ⟨_, rfl⟩
      have d0 : wc.cell? ⟨o.rb, 6, none⟩ = some (.pointer (some ⟨o.pb 0, 0, none⟩)) := HH.out.cell 6
      have d2 : wc.cell? ⟨o.rb, 8, none⟩ = some (.int .i64 1) := HH.out.cell 8
      have d14 : wc.cell? ⟨o.rb, 14, none⟩ = some (.int .i64 lf) := by rw [hlf]; exact HH.out.cell 14
      obtain ⟨m0, hm0⟩ : ∃ m0 : Int, m0 = min (min n 65536) (lf : Int) := ⟨_, rfl⟩
      have hmin := fun ats ty => min3_is n 65536 (lf : Int) m0 hm0 ats ty
      have HM0 := Lib.hid (show m0 = s.most n by rw [hm0, hlf]; rfl)
      have HLF := Lib.hid hlf
      clear hbk c4 c5 cz c13 hm0 hlf
      have h1 := HH.out.below (W1 := wc.drew) (below_drew (Below.refl _ _))
      have HH1 := Lib.hid h1
      have HN := Lib.hid (Nxt.of_below o (W := wc) (W1 := wc.drew) (below_drew (Below.refl _ _)))
      clear h1 HH
      go_upto_region 4 with (fail)
      go_still_tail 14, (by kernel_rfl)
      change wpList _ _ _ _ _ wc.drew
      clear d0 d2 d14
      generalize wc.drew = V1 at HH1 HN ⊢
      have HC := Lib.hid (s_Read HH1.out 0 1 (by decide) (by decide) 1 rfl m0)
      go_upto_region 5 with (go_at_call 28; (with_reducible refine HC.out.mono ?_); (rintro e V2 ⟨v, ys, o1, rfl, hys, hown, hs, hn, hwv, hev, hnew⟩); (obtain ⟨Ay, cy, rfl⟩ := own_slice hown); have HY := Lib.hid hys; have HO := Lib.hid hown; have HS := Lib.hid hs; have HN2 := Lib.hid hn; have HWV := Lib.hid hwv; have HEV1 := Lib.hid hev; have HNEW := Lib.hid hnew; clear hys hown hs hn hwv hev hnew HC)
      have HGOT := Lib.hid (show s.got 1 n = ys by rw [HY.out, HM0.out]; rfl)
      obtain ⟨s1, hs1⟩ : ∃ s1, s1 = s.took 1 n := ⟨_, rfl⟩
      have HS1 := Lib.hid (show SIs V2 o1 s1 by rw [hs1]; have := HS.out; rw [HM0.out] at this; exact this)
      have HE1 := Lib.hid hs1
      have HR1 := Lib.hid (show s1.r = s.r by rw [hs1]; rfl)
      clear HS hs1 hmin
      by_cases hpos : 0 < ys.length
      · have g1 := eq_true (show (0 : Int) < (ys.length : Int) by omega)
        have g1' := eq_true hpos
        have HPOS := Lib.hid hpos
        clear hpos
        go_upto_region 6 with (fail)
        have h2 := HS1.out.below (W1 := V2.drew) (below_drew (Below.refl _ _))
        have hrow := own_reads HO.out
        obtain ⟨hq0, hqC, hqle, hqA⟩ := hrow
        have HQ := Lib.hid (show ReadsInt V2 .u8 Ay ys.length ys from Kd.reads_of_C (d := (0 : Int)) (h1 := fun _ => rfl) hqC)
        have HQL := Lib.hid (show ∀ a, Ay = some a → o1.L a.block = 0 ∧ a.block < V2.heap.size from fun a ha => ⟨HNEW.out _ (hqA a ha).1, (hqA a ha).2⟩)
        have HQLE := Lib.hid hqle
        have hcb : o1.cb = o.cb := HN2.out.cb
        have hrb : o1.rb = o.rb := HN2.out.rb
        have hsee := s_See h2 t
        rw [hcb] at hsee
        have HSEE := Lib.hid hsee
        have e12 : V2.cell? ⟨o.rb, 12, none⟩ = some (.pointer (some ⟨o.cb, 0, none⟩)) := by rw [← hrb, ← hcb]; exact HS1.out.cell 12
        have evx : ∀ (W : World) (sx : Sz), SIs W o1 sx → sx.r.ev = s.r.ev → W.cell? ⟨o.rb, 13, none⟩ = some (.slice A0 el c0) := by
          intro W sx hx hxe
          have := hx.cell 13
          rw [hrb] at this
          rw [this, HEL.out, ← hxe]; show some (Value.slice o1.ev.A _ o1.ev.c) = _; rw [HEV1.out, HEV.out]
        have e13 : V2.cell? ⟨o.rb, 13, none⟩ = some (.slice A0 el c0) := evx _ _ HS1.out (by rw [HR1.out])
        have HEVX := Lib.hid evx
        have HEVA := Lib.hid (show o1.ev.A = A0 ∧ o1.ev.c = c0 by rw [HEV1.out, HEV.out]; exact ⟨rfl, rfl⟩)
        have HELT := Lib.hid (show el < 4096 by have h1 := HBK.out; unfold Sz.blocked at h1; have h3 := HH1.out.evn; have h4 := HEL.out; simp at h1; omega)
        have HLN := Lib.hid (show ys.length ≤ lf by have h1 := HGOT.out; have h2 := HM0.out; have h3 := HLF.out; rw [← h1]; unfold Sz.got Qz.take Sz.most; rw [List.length_take]; omega)
        clear h2 hq0 hqC hqle hqA hcb hrb hsee evx
        go_cut [10] (fun s10 wx => s10 = .slice Ay ys.length cy ∧ ∃ o2, SIs wx o2 ⟨s1.line, { s1.r with clk := s1.r.clk.see t, ev := s1.r.ev ++ [⟨1, (s1.r.clk.see t).t, ys⟩] }⟩ ∧ Nxt o1 V2 o2 wx ∧ o2.wv = o.wv)
        case first =>
          have y13 : V2.drew.cell? ⟨o.rb, 13, none⟩ = some (.slice A0 el c0) := e13
          have y12 : V2.drew.cell? ⟨o.rb, 12, none⟩ = some (.pointer (some ⟨o.cb, 0, none⟩)) := e12
          clear e12 e13
          go_region_law (first
            | (go_simp; go_at_call 71; (with_reducible refine HSEE.out.mono ?_); (rintro e V3 ⟨rfl, hs3, hn3⟩); (have x13 : V3.cell? ⟨o.rb, 13, none⟩ = some (.slice A0 el c0) := HEVX.out _ _ hs3 (by show s1.r.ev = _; rw [HR1.out])); have HS3 := Lib.hid hs3; have HN3 := Lib.hid hn3; (have hq3 := reads_nxt HQ.out ((Nxt.of_below o1 (W := V2) (W1 := V2.drew) (below_drew (Below.refl _ _))).trans hn3) HQL.out); (have HCL := Lib.hid (note_call hs3 hq3.1 HQLE.out (by have := HLN.out; have := HH1.out.left; have := HLF.out; omega) (by have := HELT.out; have := HEL.out; show s1.r.ev.length < 4096; rw [HR1.out]; omega) 1 (s1.r.clk.see t).t A0 el c0 o.rb (by rw [HEVA.out.1]) (by show el = s1.r.ev.length; rw [HR1.out]; exact HEL.out) (by rw [HEVA.out.2]) HN2.out.rb.symm)); clear hs3 hn3 hq3)
            | (go_simp; go_at_call 38; (with_reducible refine HCL.out.mono ?_); (rintro e V4 ⟨Ac, cc, A9, m9, c9, w9, o2, rfl, x14, z13, happ, hfr, ⟨u9, hu9⟩, hs9, hn9, hwv9⟩); have HS9 := Lib.hid hs9; have HN9 := Lib.hid hn9; have HW9 := Lib.hid hwv9; clear hs9 hn9 hwv9 HCL)
            | (refine step_append_run3 rfl (.tmp 70) (.tmp 81) 35 rfl _ _ rfl rfl _ _ happ ?_))
          all_goals go_wp2_with (fail)
          all_goals go_meet
          all_goals exact ⟨rfl, _, HS9.out, ((Nxt.of_below o1 (W := V2) (W1 := V2.drew) (below_drew (Below.refl _ _))).trans HN3.out).trans HN9.out, HW9.out.trans HWV.out⟩
        case rest =>
          obtain ⟨rfl, o2, hs6, hn6, hwv6⟩ := hcut
          have hrb2 : o2.rb = o.rb := hn6.rb.trans HN2.out.rb
          have c14 : wc.cell? ⟨o.rb, 14, none⟩ = some (.int .i64 lf) := by rw [HLF.out, ← HR1.out]; exact hs6.cell' hrb2 rfl 14
          have f14 := hs6.free hrb2 14
          have fw := hs6.free hrb2 10
          obtain ⟨u_, cw⟩ : ∃ u, wc.cell? ⟨o.rb, 10, none⟩ = some u := ⟨_, (hs6.cell' hrb2 rfl 10).trans rfl⟩
          obtain ⟨lf2, hlf2⟩ : ∃ lf2, lf2 = lf - ys.length := ⟨_, rfl⟩
          have hln := HLN.out
          have hlb : lf ≤ 262144 := by have h1 := HH1.out.left; rw [← HLF.out] at h1; exact h1
          have hw : IntKind.i64.wrap ((lf : Int) - (ys.length : Int)) = (lf2 : Int) := sub_fact hlf2 hln hlb
          have hrd := reads_nxt HQ.out hn6 HQL.out
          obtain ⟨o3, hs7, hn7⟩ := note_end hs6 hrb2 1 10 (by decide) rfl hrd.1 hrd.2 HQLE.out lf2 (le_fact hlf2 hlb)
          have HS7 := Lib.hid hs7
          have HN7 := Lib.hid ((HN.out.trans HN2.out).trans (hn6.trans hn7))
          have HF2 := Lib.hid hlf2
          have HRD := Lib.hid (read_note (t := t) HBK.out HGOT.out HPOS.out HE1.out (show lf2 = s1.r.left - ys.length by rw [hlf2, HLF.out, HR1.out]))
          clear hlb hln hlf2 hs6 hn6 hwv6 hrb2 e12 e13 HSEE HEVX HEVA hs7 hn7 hrd HQ HQL HQLE HLN HELT HPOS HGOT HE1 HR1 HS1 HO HY HM0 HNEW HEV1 HWV HN2 HN HH1 HLF HBK
          go_wp2_with (fail)
          go_ret
          first
            | exact ⟨⟨_, rfl⟩, o3, by rw [HRD.out]; exact HS7.out, HN7.out⟩
            | exact ⟨_, o3, rfl, by rw [HRD.out]; exact HS7.out, HN7.out⟩
      · have hnil : ys = [] := nil_fact hpos
        have g1 := eq_false (neg_fact hpos)
        have g1' := eq_false hpos
        have hrb := HN2.out.rb
        have hpb := HN2.out.pb
        have d0 : V2.cell? ⟨o.rb, 6, none⟩ = some (.pointer (some ⟨o.pb 0, 0, none⟩)) := HS1.out.cell' hrb hpb 6
        have d2 : V2.cell? ⟨o.rb, 8, none⟩ = some (.int .i64 1) := HS1.out.cell' hrb hpb 8
        have h2 := HS1.out.below (W1 := V2.drew) (below_drew (Below.refl _ _))
        have HS2 := Lib.hid h2
        have HN3 := Lib.hid ((HN.out.trans HN2.out).trans (Nxt.of_below o1 (W := V2) (W1 := V2.drew) (below_drew (Below.refl _ _))))
        have hov := s_Over h2 0 1 (by decide) (by decide) 1 rfl
        rw [hpb] at hov
        obtain ⟨ob, hob⟩ : ∃ ob, ob = ((s1.line 0).way 1).over := ⟨_, rfl⟩
        rw [← hob] at hov
        have HOV := Lib.hid hov
        have HOB := Lib.hid (show ob = (s1.src 1).over from hob)
        have HRB := Lib.hid hrb
        have HPB := Lib.hid hpb
        have HGN := Lib.hid (show s.got 1 n = [] by rw [HGOT.out, hnil])
        clear hpos hnil HO HY HM0 hrb hpb h2 hov hob HS1 HN2 HWV HEV1 HNEW HN HH1 HEL HEV HR1 HLF HLEN HGOT
        go_upto_region 10 with (fail)
        go_still_tail 8, (by kernel_rfl)
        change wpList _ _ _ _ _ V2.drew
        clear d0 d2
        generalize V2.drew = V3 at HS2 HN3 HOV ⊢
        cases ob with
        | false =>
          have HRD := Lib.hid (read_none (t := t) HBK.out HGN.out HE1.out HOB.out)
          clear HBK HGN HE1 HOB
          go_wp2_with (go_at_call 72; (with_reducible refine HOV.out.mono ?_); (rintro e V4 ⟨rfl, hv4⟩); subst hv4)
          go_ret
          exact ⟨_, _, rfl, by rw [HRD.out]; exact HS2.out, HN3.out⟩
        | true =>
          have HRD := Lib.hid (read_shut (t := t) HBK.out HGN.out HE1.out HOB.out)
          have f5 := HS2.out.free HRB.out 11
          have c5 : V3.cell? ⟨o.rb, 11, none⟩ = some (.bool (s1.r.over 1)) := HS2.out.cell' HRB.out HPB.out 11
          obtain ⟨o2, hs5, hn5⟩ := over_set HS2.out HRB.out 1 11 (by decide) rfl
          have HRB2 := Lib.hid (hn5.rb.trans HRB.out)
          have HPB2 := Lib.hid (hn5.pb.trans HPB.out)
          have HN5 := Lib.hid (HN3.out.trans hn5)
          have HS5 := Lib.hid hs5
          clear HBK HGN HE1 HOB hs5 hn5 HS2 HN3
          go_upto_region 12 with (go_at_call 72; (with_reducible refine HOV.out.mono ?_); (rintro e V4 ⟨rfl, hv4⟩); subst hv4)
          go_upto_region 13 with (fail)
          clear f5 c5 HOV
          generalize V4.setCell ⟨o.rb, 11, none⟩ (.bool true) = V5 at HN5 HS5 ⊢
          have k1 : V5.cell? ⟨o.rb, 7, none⟩ = some (.pointer (some ⟨o.pb 1, 0, none⟩)) := HS5.out.cell' HRB2.out HPB2.out 7
          have k3 : V5.cell? ⟨o.rb, 9, none⟩ = some (.int .i64 0) := HS5.out.cell' HRB2.out HPB2.out 9
          have hs6 := HS5.out.below (W1 := V5.drew) (below_drew (Below.refl _ _))
          have HN6 := Lib.hid (HN5.out.trans (Nxt.of_below _ (W := V5) (W1 := V5.drew) (below_drew (Below.refl _ _))))
          have hhg := s_Hang hs6 1 0 1 (by decide) (by decide) rfl 0 rfl
          rw [HPB2.out] at hhg
          have HHG := Lib.hid hhg
          clear HN5 HS5 hs6 hhg
          go_still_tail 8, (by kernel_rfl)
          change wpList _ _ _ _ _ V5.drew
          clear k1 k3
          generalize V5.drew = V6 at HN6 HHG ⊢
          go_wp2_with (go_at_call 29; (with_reducible refine HHG.out.mono ?_); (rintro e V7 ⟨o3, rfl, hs7, hn7, hw7, hv7⟩); have HS7 := Lib.hid hs7; have HN7 := Lib.hid hn7; clear hs7 hn7 hw7 hv7)
          go_ret
          exact ⟨_, _, rfl, by rw [HRD.out]; exact HS7.out, HN6.out.trans HN7.out⟩
end
end Go.Proofs.YtbdknddgfmoipaaGreatDoor.TQ
