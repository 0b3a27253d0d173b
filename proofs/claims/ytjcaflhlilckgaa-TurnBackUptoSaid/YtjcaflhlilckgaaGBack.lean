import Derived.RangeFuncNested
import Derived.RangeFuncBound
import Derived.RangeFuncCalls
import Derived.RangeFuncLeaves
import Derived.Shelf.Abstract
import Derived.Shelf.RegionOpen
import Derived.WalkKit
import Derived.OwnWalkIn
import Derived.TacticsInMore
import Derived.LoopNIn
import Derived.LoopIn
import Derived.Maps.AppendAt
import Derived.StillTailTactics
import Derived.Lib.Hide
import Derived.Lib.LazyBuf
import Derived.Outline
import Derived.Deep.RegionWith
import Derived.Deep.RegionLaw
import Derived.Deep.AppendLies
import Derived.CallsIn

import Derived.Lib.Bytes
import Derived.Deep.DeepCutAuto
import Derived.Lib.SmallJoins
import Derived.Laws.EntriesVeiled
import Derived.Deep.RegionHeld3
import Derived.BigRegion
import Derived.BigQuiet
import Derived.Test.YtjcaflhlilckgaaPBackT
import Derived.Test.YtjcaflhlilckgaaGOf
import Derived.Test.YtjcaflhlilckgaaGEvs
import Derived.Test.YtjcaflhlilckgaaQAx1
import Derived.Test.YtjcaflhlilckgaaQAx11
import Derived.Test.YtjcaflhlilckgaaGAlive
import Derived.Test.YtjcaflhlilckgaaPEvents
namespace Go.Proofs.Ytjcaflhlilckgaa.QA
open Go.RowKit Go.Shelf Go.Proofs.YtjcaflhlilckgaaW.PrintWords Go.Proofs.YtjcaflhlilckgaaW.PrintLast Go.Proofs.YtjcaflhlilckgaaW.PrintMore
attribute [local go_sem] max2_int min2_int max_two min_two max_three min_three max_four min_four   -- for this text's walks alone
set_option linter.unusedVariables false
set_option linter.unusedSimpArgs false
/-! ### turns' events are no more than the events -/
theorem ev1_cnt (t : S33) : (ev1 t).length = (if 0 < t.f0.length then 1 else 0) + (if 0 < t.f1.length then 1 else 0) := by
  unfold ev1
  by_cases h0 : 0 < t.f0.length <;> by_cases h1 : 0 < t.f1.length <;> simp [h0, h1]
theorem fin_cnt (s : List S33 × S33) : (evs (fin s)).length = (evs s.1).length + (ev1 s.2).length := by
  unfold fin
  by_cases h : full s.2
  · rw [if_pos h, evs_append, List.length_append, evs_cons, show evs [] = [] from rfl, List.append_nil]
  · rw [if_neg h, ev1_cnt, if_neg (by unfold full at h; omega), if_neg (by unfold full at h; omega)]
    omega
theorem dst_cnt (s : (List S33 × S33) × Option Int) (e : S37) (he : e.f0 = 0 ∨ e.f0 = 1) (h : DInv s) : (evs (dst s e).1.1).length + (ev1 (dst s e).1.2).length ≤ (evs s.1.1).length + (ev1 s.1.2).length + 1 := by
  obtain ⟨⟨out, cur⟩, last⟩ := s
  unfold dst
  by_cases h0 : e.f2.length = 0
  · rw [if_pos h0]; omega
  · rw [if_neg h0]
    by_cases hl : last = some e.f0
    · rw [if_pos hl]
      unfold joined
      simp only [ev1_cnt]
      by_cases h1 : e.f0 = 1
      · simp only [if_pos h1]; repeat' split
        all_goals omega
      · simp only [if_neg h1]; repeat' split
        all_goals omega
    · rw [if_neg hl]
      unfold tstep
      by_cases h1 : e.f0 = 1
      · simp only [if_pos h1, ev1_cnt]; repeat' split
        all_goals omega
      · simp only [if_neg h1]
        have e1 : (ev1 ⟨e.f2, []⟩).length ≤ 1 := by rw [ev1_cnt]; simp; split <;> omega
        by_cases hf : full cur
        · simp only [if_pos hf, evs_append, List.length_append, evs_cons, show evs [] = [] from rfl, List.append_nil]; omega
        · simp only [if_neg hf]; omega
theorem trn_cnt (l : List S37) : (evs (trn l)).length ≤ l.length := by
  have key : ∀ (m : List S37) (s : (List S33 × S33) × Option Int), (∀ e ∈ m, e.f0 = 0 ∨ e.f0 = 1) → DInv s → (evs (m.foldl dst s).1.1).length + (ev1 (m.foldl dst s).1.2).length ≤ (evs s.1.1).length + (ev1 s.1.2).length + m.length := by
    intro m
    induction m with
    | nil => intro s _ _; simp
    | cons e r ih =>
      intro s hm hi
      have h1 := ih (dst s e) (fun x hx => hm x (List.mem_cons_of_mem _ hx)) (dst_inv s e (hm e (List.mem_cons_self ..)) hi)
      have h2 := dst_cnt s e (hm e (List.mem_cons_self ..)) hi
      rw [List.foldl_cons, List.length_cons]
      omega
  have h := key (dirs l) st0 dirs_dir ⟨by simp [st0], by simp [st0], .inl ⟨rfl, rfl, rfl⟩⟩
  have h2 : (dirs l).length ≤ l.length := List.length_filter_le _ _
  have h3 : (evs st0.1.1).length + (ev1 st0.1.2).length = 0 := rfl
  unfold trn
  rw [fin_cnt]
  omega
theorem evs_take (T : List S33) (q : Nat) : (evs (T.take q)).length ≤ (evs T).length := by
  have := congrArg List.length (evs_append (T.take q) (T.drop q))
  rw [List.take_append_drop, List.length_append] at this
  omega
/-! ### TurnBack -/
theorem turn_len (T : List S33) (hf : ∀ t ∈ T, full t) : T.length ≤ to1 T + ti1 T := by
  induction T with
  | nil => exact Nat.zero_le _
  | cons t r ih =>
    have h1 := hf t (List.mem_cons_self ..)
    have h2 := ih (fun u hu => hf u (List.mem_cons_of_mem _ hu))
    unfold full at h1
    rw [to1_cons, ti1_cons, List.length_cons]
    omega
set_option maxRecDepth 100000 in
set_option maxHeartbeats 8000000 in
theorem turnBack_walk (l : List S37) (hs : small l) (A : Option Addr) (cl : Nat) (W : World) (hC : Kd.C k37 W A l.length l) (hc : l.length ≤ cl) :
    Calls Try.prog 6 #[.slice A l.length cl] W fun e W' => e = .returned (.bool true) ∧ Below W.heap.size W W' := by
  have hf := few_of hs
  have hch := trn_ch l
  have htb := trn_bytes l
  have hsz := trn_size l
  have hcnt := trn_cnt l
  have hof := of_f l hf (k := 2 * l.length + 2) (Nat.le_refl _)
  have hb0 := refbytes_f 0 l (by have := hf.2; omega) hf.1 (k := l.length + 1) (Nat.le_refl _)
  have hb1 := refbytes_f 1 l (by have := hf.2; omega) hf.1 (k := l.length + 1) (Nat.le_refl _)
  rw [← htb.1] at hb0
  rw [← htb.2] at hb1
  clear htb
  have hl1 := hf.1
  have hl2 := hf.2
  generalize trn l = T at hch hsz hcnt hof hb0 hb1
  have hTl := turn_len T hch.2
  have hT1 : T.length ≤ 1048576 := by omega
  have hT2 : to1 T + ti1 T ≤ 1048576 := by omega
  have hev := events_f T hT1 hT2 0
  have hfe : few (evs T) := ⟨by rw [evs_tot]; exact hT2, by omega⟩
  have hof2 := of_f (evs T) hfe (k := 2 * (evs T).length + 2) (Nat.le_refl _)
  rw [trn_evs T hch.1 hch.2] at hof2
  have hsame := same_f T hT1 (k := T.length + 1) (Nat.le_refl _)
  have HOF := Lib.hid hof
  have HB0 := Lib.hid hb0
  have HB1 := Lib.hid hb1
  have HEV := Lib.hid hev
  have HOF2 := Lib.hid hof2
  have HSAME := Lib.hid hsame
  have HCH := Lib.hid hch
  have HT1 := Lib.hid hT1
  have HT2 := Lib.hid hT2
  have HC := Lib.hid hC
  clear hof hb0 hb1 hev hof2 hsame hch hT1 hT2 hC hf hfe hsz hcnt hl1 hl2 hTl hs
  go_enter Try.func6, Try.ntmps6
  go_wp2_with (fail)
  refine (turn_Of.callsR _ A cl l T _ HC.out hc HOF.out).mono ?_
  rintro e w1 ⟨v, rfl, hR, hB1⟩
  obtain ⟨At, ct, rfl⟩ := Kd.R_slice hR
  have hct := (Kd.R_reads' hR).2.1
  have HCT := Lib.hid (Kd.R_reads' hR).2.2
  have HBW := Lib.hid hB1
  have HC1 := Lib.hid (Kd.C_below HC.out hB1)
  clear hR hB1
  go_wp2_with (fail)
  go_loopw [4, 5, 12] (fun s4 s5 i wr => ∃ x : Nat, x ≤ T.length ∧ i = .int .i64 x ∧ s4 = .string (strOfNums (os (T.take x))) ∧ s5 = .string (strOfNums (is (T.take x))) ∧ Below w1.heap.size w1 wr)
    (fun _ _ i _ => T.length - (intOf i).toNat)
  case atStart => exact ⟨0, Nat.zero_le _, rfl, rfl, rfl, Below.refl _ _⟩
  case round =>
    obtain ⟨x, hx, rfl, rfl, rfl, hBr⟩ := hrel
    by_cases hlt : x < T.length
    · have hlt' := eq_true hlt
      obtain ⟨ad, A0, c0, A1, c1, hAe, hx0, hx1, hl0, hC0, hl1, hC1⟩ := at_T33 HCT.out (x : Int) (by omega) (by omega)
      subst hAe
      rw [Int.toNat_natCast] at hx0 hx1
      replace hx0 := pw_cell_below hBr hx0
      replace hx1 := pw_cell_below hBr hx1
      have hy : rd_T33 T (x : Int) = T[x] := rdT33 T x hlt
      have hat := ch_at HCH.out.1 x hlt
      have hfu := HCH.out.2 _ (List.getElem_mem hlt)
      have hos : os (T.take (x + 1)) = os (T.take x) ++ T[x].f0 := by rw [List.take_succ_eq_append_getElem hlt, os_append, os_one]
      have his : is (T.take (x + 1)) = is (T.take x) ++ T[x].f1 := by rw [List.take_succ_eq_append_getElem hlt, is_append, is_one]
      rw [← hy] at hat hfu hos his
      clear hy
      have hO := os_len (T.take (x + 1))
      have hI := is_len (T.take (x + 1))
      have hO2 := to1_take T (x + 1)
      have hI2 := ti1_take T (x + 1)
      generalize rd_T33 T (x : Int) = y at hx0 hx1 hl0 hC0 hl1 hC1 hat hfu hos his
      rw [hos, List.length_append] at hO
      rw [his, List.length_append] at hI
      have hT2 := HT2.out
      have hcc0 := eq_false (show ¬ 9223372036854775807 < (strOfNums (os (T.take x))).size + (strOfNums y.f0).size by rw [strOfNums_size, strOfNums_size]; omega)
      have hcc1 := eq_false (show ¬ 9223372036854775807 < (strOfNums (is (T.take x))).size + (strOfNums y.f1).size by rw [strOfNums_size, strOfNums_size]; omega)
      have hf0 : y.f0.length ≤ 1048576 := by omega
      have hf1 : y.f1.length ≤ 1048576 := by omega
      have HAT := Lib.hid hat
      have HFU := Lib.hid hfu
      have HO0 := Lib.hid hos
      have HI0 := Lib.hid his
      have HBr := Lib.hid hBr
      have HY0 := Lib.hid hC0
      have HY1 := Lib.hid hC1
      clear hat hfu hos his hO hI hO2 hI2 hT2 hC0 hC1 hBr
      go_upto_region 6 with (fail)
      have hbV : Below wr.heap.size wr (wr.alloc (.cells #[.slice A0 y.f0.length c0, .slice A1 y.f1.length c1] 33)) := (Below.refl _ wr).alloc (Nat.le_refl _) _
      have hEV : (wr.alloc (.cells #[.slice A0 y.f0.length c0, .slice A1 y.f1.length c1] 33)).heap[wr.heap.size]? = some (.cells #[.slice A0 y.f0.length c0, .slice A1 y.f1.length c1] 33 (0, 0)) := World.alloc_heap_new wr _
      generalize wr.alloc (.cells #[.slice A0 y.f0.length c0, .slice A1 y.f1.length c1] 33) = V at hbV hEV ⊢
      have v0 : V.cell? ⟨wr.heap.size, 0, none⟩ = some (.slice A0 y.f0.length c0) := (blk_cell hEV 0).trans rfl
      have v1 : V.cell? ⟨wr.heap.size, 1, none⟩ = some (.slice A1 y.f1.length c1) := (blk_cell hEV 1).trans rfl
      have HBV := Lib.hid (below_step HBr.out hbV)
      have hcv0 := Kd.C_string (P := Try.prog) (c := c0) Try.underlying31 Try.underlying5 Try.underlying9 (Kd.C_below HY0.out HBV.out)
      have hcv1 := Kd.C_string (P := Try.prog) (c := c1) Try.underlying31 Try.underlying5 Try.underlying9 (Kd.C_below HY1.out HBV.out)
      clear hx0 hx1 hEV hbV HY0 HY1 HBr
      go_upto_region 8 with (fail)
      have hw1 : IntKind.i64.wrap ((x : Int) + 1) = ((x + 1 : Nat) : Int) := by rw [i64_w]; unfold wrap64; have := HT1.out; omega
      have hw2 : IntKind.i64.wrap ((y.f0.length : Int) + (y.f1.length : Int)) = ((y.f0.length + y.f1.length : Nat) : Int) := by rw [i64_w]; unfold wrap64; omega
      have hn3 : (((y.f0.length + y.f1.length : Nat) : Int) == 0) = false := beq_eq_false_iff_ne.mpr (by have := HFU.out; unfold full at this; omega)
      clear hcv0 hcv1 hcc0 hcc1
      by_cases h0 : 0 < x
      · have h0' := eq_true (show (0 : Int) < (x : Int) by omega)
        have hn0 : ((y.f0.length : Int) == 0) = false := beq_eq_false_iff_ne.mpr (by have := ne_len (HAT.out.1 h0); omega)
        by_cases h1 : x + 1 < T.length
        · have h1' := eq_true (show ((x + 1 : Nat) : Int) < (T.length : Int) by omega)
          have hn1 : ((y.f1.length : Int) == 0) = false := beq_eq_false_iff_ne.mpr (by have := ne_len (HAT.out.2 h1); omega)
          go_wp2
          go_roundw
          case rel => exact ⟨x + 1, by omega, by go_num, by rw [str_append, HO0.out], by rw [str_append, HI0.out], HBV.out⟩
          case measure => simp [intOf]; omega
        · have h1' := eq_false (show ¬ ((x + 1 : Nat) : Int) < (T.length : Int) by omega)
          go_wp2
          go_roundw
          case rel => exact ⟨x + 1, by omega, by go_num, by rw [str_append, HO0.out], by rw [str_append, HI0.out], HBV.out⟩
          case measure => simp [intOf]; omega
      · have h0' := eq_false (show ¬ (0 : Int) < (x : Int) by omega)
        by_cases h1 : x + 1 < T.length
        · have h1' := eq_true (show ((x + 1 : Nat) : Int) < (T.length : Int) by omega)
          have hn1 : ((y.f1.length : Int) == 0) = false := beq_eq_false_iff_ne.mpr (by have := ne_len (HAT.out.2 h1); omega)
          go_wp2
          go_roundw
          case rel => exact ⟨x + 1, by omega, by go_num, by rw [str_append, HO0.out], by rw [str_append, HI0.out], HBV.out⟩
          case measure => simp [intOf]; omega
        · have h1' := eq_false (show ¬ ((x + 1 : Nat) : Int) < (T.length : Int) by omega)
          go_wp2
          go_roundw
          case rel => exact ⟨x + 1, by omega, by go_num, by rw [str_append, HO0.out], by rw [str_append, HI0.out], HBV.out⟩
          case measure => simp [intOf]; omega
    · obtain rfl : x = T.length := by omega
      rw [List.take_length]
      have HCr := Lib.hid (Kd.C_below HC1.out hBr)
      have HCTr := Lib.hid (Kd.C_below HCT.out hBr)
      have HBr := Lib.hid (below_step HBW.out hBr)
      clear hBr HC1 HCT HBW
      go_wp2_with (fail)
      refine (cuecardref04_Bytes.calls (l.length + 1) 0 A cl l (os T) _ HCr.out hc HB0.out).mono ?_
      rintro e w3 ⟨v, rfl, hR, hB⟩
      have hcv := own_string (P := Try.prog) Try.underlying31 Try.underlying5 Try.underlying9 (Kd.own_of_R hR)
      obtain ⟨Ao, co, rfl⟩ := Kd.R_slice hR
      have HC3 := Lib.hid (Kd.C_below HCr.out hB)
      have HCT3 := Lib.hid (Kd.C_below HCTr.out hB)
      have HB3 := Lib.hid (below_step HBr.out hB)
      clear hR hB HCr HCTr HBr
      go_wp2_with (fail)
      refine (cuecardref04_Bytes.calls (l.length + 1) 1 A cl l (is T) _ HC3.out hc HB1.out).mono ?_
      clear hcv
      rintro e w4 ⟨v, rfl, hR, hB⟩
      have hcv := own_string (P := Try.prog) Try.underlying31 Try.underlying5 Try.underlying9 (Kd.own_of_R hR)
      obtain ⟨Ai, ci, rfl⟩ := Kd.R_slice hR
      have HCT4 := Lib.hid (Kd.C_below HCT3.out hB)
      have HB4 := Lib.hid (below_step HB3.out hB)
      clear hR hB HC3 HCT3 HB3
      go_wp2_with (fail)
      refine (cuecardlaw10_aliveT _).mono ?_
      clear hcv
      rintro e w5 ⟨rfl, hB⟩
      have HCT5 := Lib.hid (Kd.C_below HCT4.out hB)
      have HB5 := Lib.hid (below_step HB4.out hB)
      clear hB HCT4 HB4
      go_wp2_with (fail)
      refine (turn_Events.callsR 0 At ct T (evs T) _ HCT5.out hct HEV.out).mono ?_
      rintro e w6 ⟨v, rfl, hR, hB⟩
      obtain ⟨Ae, ce, rfl⟩ := Kd.R_slice hR
      have hce := (Kd.R_reads' hR).2.1
      have HCE := Lib.hid (Kd.R_reads' hR).2.2
      have HCT6 := Lib.hid (Kd.C_below HCT5.out hB)
      have HB6 := Lib.hid (below_step HB5.out hB)
      clear hR hB HCT5 HB5
      go_wp2_with (fail)
      refine (turn_Of.callsR _ Ae ce (evs T) T _ HCE.out hce HOF2.out).mono ?_
      rintro e w7 ⟨v, rfl, hR, hB⟩
      obtain ⟨Az, cz, rfl⟩ := Kd.R_slice hR
      have hcz := (Kd.R_reads' hR).2.1
      have HCZ := Lib.hid (Kd.R_reads' hR).2.2
      have HCT7 := Lib.hid (Kd.C_below HCT6.out hB)
      have HB7 := Lib.hid (below_step HB6.out hB)
      clear hR hB HCT6 HB6 HCE
      go_wp2_with (fail)
      refine (cuecardref10_Same.calls (T.length + 1) Az cz T At ct T true _ HCZ.out hcz HCT7.out hct HSAME.out).mono ?_
      rintro e w8 ⟨rfl, hB⟩
      have HB8 := Lib.hid (below_step HB7.out hB)
      clear hB HCT7 HB7 HCZ
      go_wp2
      go_ret
      exact ⟨rfl, HB8.out⟩
end Go.Proofs.Ytjcaflhlilckgaa.QA
