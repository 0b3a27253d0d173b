import Derived.RangeFuncNested
import Derived.RangeFuncBound
import Derived.RangeFuncCalls
import Derived.RangeFuncLeaves
import Derived.Shelf.Abstract
import Derived.Shelf.RegionOpen
import Derived.WalkKit
import Derived.OwnWalkIn
import Derived.TacticsInMore
import Derived.LoopNIn
import Derived.LoopIn
import Derived.Maps.AppendAt
import Derived.StillTailTactics
import Derived.Lib.Hide
import Derived.Outline
import Derived.Deep.RegionWith
import Derived.Deep.RegionLaw
import Derived.Deep.AppendLies
import Derived.Test.YtokhmpchgkmbeaaQAx1
import Derived.Test.YtokhmpchgkmbeaaQAx2
import Derived.Test.YtokhmpchgkmbeaaGNew
import Derived.Test.YtokhmpchgkmbeaaGLaw
import Derived.CallsIn
import Derived.Maps.OwnIn
import Derived.Test.YtokhmpchgkmbeaaGAllIt
import Derived.Test.YtokhmpchgkmbeaaGPlaces
import Derived.Test.YtokhmpchgkmbeaaGAll
import Derived.Test.YtokhmpchgkmbeaaGPure
import Derived.Test.YtokhmpchgkmbeaaPKmpPlaces
import Derived.Test.YtokhmpchgkmbeaaPKmpCuts
import Derived.Test.YtokhmpchgkmbeaaGReset
namespace Go.Proofs.Ytokhmpchgkmbeaa.QA
open Go.RowKit Go.Shelf Go.Proofs.YtokhmpchgkmbeaaW.PrintWords Go.Proofs.YtokhmpchgkmbeaaW.PrintLast Go.Proofs.YtokhmpchgkmbeaaW.PrintMore
set_option linter.unusedVariables false
set_option linter.unusedSimpArgs false
attribute [local go_sem] Oper.semAt_some
/-! ### what the walks by hand share -/
theorem great_args {W : World} {A0 A1 : Option Addr} {c0 c1 : Nat} {l0 l1 : List Int} (h0 : Kd.C (Kd.int .i64) W A0 l0.length l0) (hc0 : l0.length ≤ c0) (h1 : Kd.C (Kd.int .i64) W A1 l1.length l1) (hc1 : l1.length ≤ c1) :
    Kd.C (Kd.slice 3 (Kd.int .i64)) (W.alloc (.cells #[.slice A0 l0.length c0, .slice A1 l1.length c1] 22)) (some ⟨W.heap.size, 0, none⟩) [l0, l1].length [l0, l1] := by
  have hb : Below W.heap.size W (W.alloc (.cells #[.slice A0 l0.length c0, .slice A1 l1.length c1] 22)) := (Below.refl _ W).alloc (Nat.le_refl _) _
  refine ⟨rfl, by simp, fun _ => ⟨_, rfl, fun j p hj => ?_⟩⟩
  rcases j with _ | _ | j
  · simp at hj
    subst hj
    refine ⟨[.slice A0 l0.length c0], rfl, ⟨A0, c0, rfl, hc0, Kd.C_below h0 hb⟩, fun i u hi => ?_⟩
    rcases i with _ | i
    · simp at hi
      subst hi
      have hn := World.alloc_heap_new W (.cells #[.slice A0 l0.length c0, .slice A1 l1.length c1] 22)
      generalize W.alloc (.cells #[.slice A0 l0.length c0, .slice A1 l1.length c1] 22) = W' at hn ⊢
      simp [World.cell?, Addr.add, Kd.slice, hn]
    · simp at hi
  · simp at hj
    subst hj
    refine ⟨[.slice A1 l1.length c1], rfl, ⟨A1, c1, rfl, hc1, Kd.C_below h1 hb⟩, fun i u hi => ?_⟩
    rcases i with _ | i
    · simp at hi
      subst hi
      have hn := World.alloc_heap_new W (.cells #[.slice A0 l0.length c0, .slice A1 l1.length c1] 22)
      generalize W.alloc (.cells #[.slice A0 l0.length c0, .slice A1 l1.length c1] 22) = W' at hn ⊢
      simp [World.cell?, Addr.add, Kd.slice, hn]
    · simp at hi
  · simp at hj
/-! ### KmpEnds -/
set_option maxRecDepth 100000 in
set_option maxHeartbeats 2000000 in
theorem ends_walk (A0 A1 : Option Addr) (c0 c1 : Nat) (l0 l1 : List Int) (a : Int) (w : World) (hr0 : Kd.C (Kd.int .i64) w A0 l0.length l0) (hc0 : l0.length ≤ c0) (hr1 : Kd.C (Kd.int .i64) w A1 l1.length l1) (hc1 : l1.length ≤ c1) :
    Calls Try.prog 5 #[.slice A0 l0.length c0, .slice A1 l1.length c1, .int .i64 a] w fun e w' => e = .returned (.bool true) ∧ Below w.heap.size w w' := by
  refine (callsIn_wide (n := 3)).1 ?_
  have h10 : Fence.wide.fn 10 := trivial
  have h11 : Fence.wide.fn 11 := trivial
  have h14 : Fence.wide.fn 14 := trivial
  have h15 : Fence.wide.fn 15 := trivial
  have h16 : Fence.wide.fn 16 := trivial
  have h17 : Fence.wide.fn 17 := trivial
  have h18 : Fence.wide.fn 18 := trivial
  have HAL := Lib.hid (fun W => (callsIn_wide (n := 2)).2 (cuecardlaw08_alive.calls 200 true W (alive_f (Nat.le_refl _))))
  obtain ⟨b, hg, hb⟩ := great_f [l0, l1] (by simp) (k := 3) (by simp)
  have HGR := Lib.hid (fun W (hB : Below w.heap.size w W) => (callsIn_wide (n := 2)).2 (cuecardlaw08_great.calls 3 _ _ [l0, l1] b _ (great_args (Kd.C_below hr0 hB) hc0 (Kd.C_below hr1 hB) hc1) (Nat.le_refl _) hg))
  have HB0 := Lib.hid (Below.refl w.heap.size w)
  have HR0 := Lib.hid hr0
  have HR1 := Lib.hid hr1
  have HGB := Lib.hid hb
  clear hg hb hr0 hr1
  refine callsIn_of_wp Try.func5 rfl trivial ?_ rfl
  simp only [Try.ntmps5, List.size_toArray, List.length_cons, List.length_nil, Nat.reduceAdd, Nat.reduceSub, Array.replicate_succ, Array.replicate_zero, List.push_toArray, List.append_toArray, List.nil_append, List.cons_append]
  cases b with
  | true =>
    gi_wp2_with (first | (gi_at_call 10; refine (HAL.out _).mono ?_; rintro e w1 ⟨rfl, hb1⟩; have HB1 := Lib.hid (below_step HB0.out hb1); clear HB0 hb1; have HB0 := HB1; clear HB1) | (gi_at_call 11; refine (HGR.out _ HB0.out).mono ?_; rintro e w1 ⟨rfl, hb1⟩; have HB1 := Lib.hid (below_step (HB0.out.alloc HB0.out.size _) hb1); clear HB0 hb1; have HB0 := HB1; clear HB1))
    go_ret
    exact ⟨rfl, HB0.out⟩
  | false =>
    have ht := HGB.out rfl l0 (by simp)
    have hp := HGB.out rfl l1 (by simp)
    rcases Classical.em (l1 = []) with hp0 | hp0
    · subst hp0
      gi_wp2_with (first | (gi_at_call 10; refine (HAL.out _).mono ?_; rintro e w1 ⟨rfl, hb1⟩; have HB1 := Lib.hid (below_step HB0.out hb1); clear HB0 hb1; have HB0 := HB1; clear HB1) | (gi_at_call 11; refine (HGR.out _ HB0.out).mono ?_; rintro e w1 ⟨rfl, hb1⟩; have HB1 := Lib.hid (below_step (HB0.out.alloc HB0.out.size _) hb1); clear HB0 hb1; have HB0 := HB1; clear HB1))
      go_ret
      exact ⟨rfl, HB0.out⟩
    · have hpe : ((l1.length : Int) == 0) = false := by simpa using hp0
      have HP0 := Lib.hid hp0
      clear hp0
      obtain ⟨back, hbk1, hbk2, hbk3⟩ := borders_ok l1 (by omega)
      have HNEW := Lib.hid (fun W (hB : Below w.heap.size w W) => (callsIn_wide (n := 2)).2 (new_int (5 * l1.length + 4) A1 c1 l1 back W (Kd.C_below HR1.out hB) hc1 (by omega) (hbk3 _ (Nat.le_refl _))))
      have HTAB := Lib.hid hbk2
      clear hbk1 hbk2 hbk3
      obtain ⟨n1, q, hq, e1⟩ := tmod_in (x := a) (n := l0.length) (by omega)
      have e2 : IntKind.u64.wrap (wrap64 ((l0.length : Int) + 1)) = (l0.length : Int) + 1 := by
        rw [wr1 (by omega)]
        show ((l0.length + 1 : Nat) : Int) % 18446744073709551616 = _
        rw [Int.emod_eq_of_lt (by omega) (by omega)]
        omega
      have e3 : wrap64 (Int.tmod (IntKind.u64.wrap a) ((l0.length : Int) + 1)) = (q : Int) := by rw [← e2]; exact e1
      have e4 : (IntKind.i64.wrap (Int.tmod (IntKind.u64.wrap a) ((l0.length : Int) + 1))) = (q : Int) := (i64_w _).trans e3
      have n1b : (IntKind.u64.wrap (wrap64 ((l0.length : Int) + 1)) == 0) = false := beq_eq_false_iff_ne.mpr n1
      have e1w : (IntKind.i64.wrap (Int.tmod (IntKind.u64.wrap a) (IntKind.u64.wrap (wrap64 ((l0.length : Int) + 1))))) = (q : Int) := (i64_w _).trans e1
      obtain ⟨i0, hi0, _, hsz0, _⟩ := info_parts info3
      have hcut1 := cut_to (P := Try.prog) 22 3 .i64 Try.underlying22 hi0 A0 l0.length c0 (q : Int) (by omega) (by omega) hc0
      have hcut2 := cut_from (P := Try.prog) 22 3 .i64 Try.underlying22 hi0 1 hsz0 A0 l0.length c0 (q : Int) (by omega) (by omega)
      rw [Int.toNat_natCast] at hcut1 hcut2
      clear hi0 hsz0
      have hq1 : (l0.take q).length = q := by rw [List.length_take]; omega
      have HT1 := Kd.C_take HR0.out hq
      have HT2 := Kd.C_drop HR0.out hq hc0
      obtain ⟨t1, et1⟩ : ∃ t, t = l0.take q := ⟨_, rfl⟩
      obtain ⟨t2, et2⟩ : ∃ t, t = l0.drop q := ⟨_, rfl⟩
      obtain ⟨A2, eA2⟩ : ∃ A, A = (if c0 = q then A0 else Option.map (fun x => x.add (q * 1)) A0) := ⟨_, rfl⟩
      obtain ⟨c2, ec2⟩ : ∃ c, c = c0 - q := ⟨_, rfl⟩
      have hl2 : t2.length = l0.length - q := by rw [et2, List.length_drop]
      have hc2 : t2.length ≤ c2 := by omega
      rw [← eA2, ← ec2, ← hl2] at hcut2
      rw [← et1] at HT1 hq1
      replace HT2 : Kd.C (Kd.int .i64) w A2 t2.length t2 := by rw [eA2, et2]; exact HT2
      rw [hq1] at HT1
      have ht1 : t1.length ≤ 100 := by omega
      have ht2 : t2.length ≤ 100 := by omega
      have HRT1 : ReadsInt w .i64 A0 q t1 := Kd.reads_of_C (d := (0 : Int)) (h1 := fun _ => rfl) HT1
      have HRT2 : ReadsInt w .i64 A2 t2.length t2 := Kd.reads_of_C (d := (0 : Int)) (h1 := fun _ => rfl) HT2
      clear et1 et2 eA2 ec2 hl2
      have HH1 := Lib.hid HRT1
      have HH2 := Lib.hid HRT2
      have HC2 := Lib.hid HT2
      clear HRT1 HRT2 HT1 HT2
      have HQ := Lib.hid hq1
      clear hq1
      gi_wp2_with (first | (gi_at_call 10; refine (HAL.out _).mono ?_; rintro e w1 ⟨rfl, hb1⟩; have HB1 := Lib.hid (below_step HB0.out hb1); clear HB0 hb1; have HB0 := HB1; clear HB1) | (gi_at_call 11; refine (HGR.out _ HB0.out).mono ?_; rintro e w1 ⟨rfl, hb1⟩; have HB1 := Lib.hid (below_step (HB0.out.alloc HB0.out.size _) hb1); clear HB0 hb1; have HB0 := HB1; clear HB1) | (gi_at_call 16; refine (HNEW.out _ HB0.out).mono ?_; rintro e w3 ⟨B, vp, vb, rfl, hB, hvp, hvb, hn1, hn2, hs, hvpc, hvbc, hbel⟩; have HNW := Lib.hid (And.intro hB (And.intro hvp (And.intro hvb (And.intro hn1 (And.intro hn2 (And.intro hs (And.intro hvpc (And.intro hvbc hbel)))))))); clear hB hvp hvb hn1 hn2 hs hvpc hvbc hbel))
      obtain ⟨hBn, hvpn, hvbn, hn1, hn2, hs3, hvpc, hvbc, hbel3⟩ := HNW.out
      have hB3 := below_step HB0.out hbel3
      have hBge : w.heap.size ≤ B := by have := HB0.out.size; omega
      have hBlt : B < w3.heap.size := (Array.getElem?_eq_some_iff.1 hs3.1).1
      have hvplt : ∀ k, vp.ownBlock = some k → k < w3.heap.size := fun k e => by obtain ⟨o, ho, _⟩ := hvpc k e; exact (Array.getElem?_eq_some_iff.1 ho).1
      have hvblt : ∀ k, vb.ownBlock = some k → k < w3.heap.size := fun k e => by obtain ⟨o, ho, _⟩ := hvbc k e; exact (Array.getElem?_eq_some_iff.1 ho).1
      have HVP := Lib.hid hvplt
      have HVB := Lib.hid hvblt
      have HS3 := Lib.hid hs3
      have HB3 := Lib.hid hB3
      clear HNW hvpn hvbn hvpc hvbc hbel3 hvplt hvblt hs3 hB3 n1 n1b e1 e1w e2 e3 e4
      gi_loopw [44] (fun i wr => ∃ k : Nat, k ≤ q ∧ i = .int .i64 k ∧ Srch wr B vp vb l1 back (atOf t1 l1 k) ∧ Below w.heap.size w wr ∧ w3.heap.size ≤ wr.heap.size)
        (fun i _ => q - (intOf i).toNat)
      case atStart => exact ⟨0, Nat.zero_le _, rfl, by rw [atOf_zero]; exact HS3.out, HB3.out, Nat.le_refl _⟩
      case round =>
        obtain ⟨k, hk, rfl, hS, hBw, hnw⟩ := hrel
        by_cases hlt : k < q
        · obtain ⟨x, hxt⟩ : ∃ x, t1[k]? = some x := ⟨_, List.getElem?_eq_getElem (by have := HQ.out; omega)⟩
          obtain ⟨ad, rfl, hcg⟩ := (HH1.out.below hBw).2.2 (by omega)
          have hcx := hcg k hlt
          clear hcg
          have hgd : t1.getD k 0 = x := by rw [List.getD_eq_getElem?_getD, hxt]; rfl
          rw [hgd] at hcx
          have hfx := step_ok (text := t1) (p := l1) (by omega) HTAB.out (K := 2 * l1.length + 2) (Nat.le_refl _) hxt
          clear hgd hxt
          have HF := Lib.hid ((callsIn_wide (n := 2)).2 (feed_int _ B vp vb l1 back (atOf t1 l1 k) x (atOf t1 l1 (k + 1)) wr hS hn1 hn2 hfx))
          clear hfx
          gi_wp2_with (gi_at_call 17; refine HF.out.mono ?_; rintro e W3 ⟨rfl, hS4, hg3⟩)
          have hB4 := hBw.grown hg3 hBw.size (fun j hj => by cases hj; exact hBge)
          have hnw4 := Nat.le_trans hnw hg3.size
          go_roundw
          case rel => exact ⟨k + 1, by omega, by go_num, hS4, hB4, hnw4⟩
          case measure => simp [intOf]; omega
        · obtain rfl : k = q := by omega
          have HRS := Lib.hid ((callsIn_wide (n := 2)).2 (reset_int B vp vb l1 back _ wr hS hn1 hn2))
          have HBW := Lib.hid hBw
          clear hBw hS
          gi_wp2_with (gi_at_call 18; refine HRS.out.mono ?_; rintro e W3 ⟨rfl, hS4, hg3⟩; have HS4 := Lib.hid hS4; have HB4 := Lib.hid (HBW.out.grown hg3 HBW.out.size (fun j hj => by cases hj; exact hBge)); have hnw4 := Nat.le_trans hnw hg3.size; clear hS4 hg3 HRS HBW)
          have hS4 := HS4.out
          have hN4 : w3.heap.size ≤ W3.heap.size := hnw4
          clear HH1 HQ ht1
          gi_loopw [11, 58] (fun v i wr => ∃ j : Nat, j ≤ t2.length ∧ i = .int .i64 j ∧ Srch wr B vp vb l1 back (atOf t2 l1 j) ∧ Below w.heap.size w wr ∧ w3.heap.size ≤ wr.heap.size ∧ wr.ownsRow w.heap.size 3 1 v (placesUpto l1 (atOf t2 l1) j).length (nums .i64 (placesUpto l1 (atOf t2 l1) j)) ∧ (∀ r, v.ownBlock = some r → r ≠ B ∧ vp.ownBlock ≠ some r ∧ vb.ownBlock ≠ some r))
            (fun _ i _ => t2.length - (intOf i).toNat)
          case atStart => exact ⟨0, Nat.zero_le _, rfl, by rw [atOf_zero]; exact HS4.out, HB4.out, hnw4, by rw [places0 HP0.out]; exact World.ownsRow_nil _ _ _ _, fun r hr => by cases hr⟩
          case round =>
            obtain ⟨j, hj, rfl, hS, hBw, hnw, hrow, hap⟩ := hrel
            clear hS4 HS4 HB4 hnw4 hN4
            have hplen : (placesUpto l1 (atOf t2 l1) j).length ≤ j + 1 := by
              unfold placesUpto
              rw [List.length_append, List.length_map]
              have := List.length_filter_le (fun i => atOf t2 l1 (i + 1) == (l1.length : Int)) (List.range j)
              rw [List.length_range] at this
              split <;> simp <;> omega
            by_cases hlt : j < t2.length
            · obtain ⟨x, hxt⟩ : ∃ x, t2[j]? = some x := ⟨_, List.getElem?_eq_getElem hlt⟩
              obtain ⟨ad, rfl, hcg⟩ := (HH2.out.below hBw).2.2 (by omega)
              have hcx := hcg j hlt
              clear hcg
              have hgd : t2.getD j 0 = x := by rw [List.getD_eq_getElem?_getD, hxt]; rfl
              rw [hgd] at hcx
              have hfx := step_ok (text := t2) (p := l1) (by omega) HTAB.out (K := 2 * l1.length + 2) (Nat.le_refl _) hxt
              clear hgd hxt
              have HF := Lib.hid ((callsIn_wide (n := 2)).2 (feed_int _ B vp vb l1 back (atOf t2 l1 j) x (atOf t2 l1 (j + 1)) wr hS hn1 hn2 hfx))
              clear hfx
              have hst : ∀ W3, wr.grownBy W3 (some B) → Below w.heap.size w W3 ∧ w3.heap.size ≤ W3.heap.size ∧ W3.ownsRow w.heap.size 3 1 u11 (placesUpto l1 (atOf t2 l1) j).length (nums .i64 (placesUpto l1 (atOf t2 l1) j)) := fun W3 hg => by
                refine ⟨hBw.grown hg hBw.size (fun i hi => by cases hi; exact hBge), Nat.le_trans hnw hg.size, hrow.kept hg ?_⟩
                rcases hv' : u11.ownBlock with _ | r
                · exact .inl rfl
                · exact .inr (fun e => (hap r hv').1 (by cases e; rfl))
              have HST := Lib.hid hst
              have HAP := Lib.hid hap
              clear hst hap hrow hS hBw
              rcases Classical.em (atOf t2 l1 (j + 1) = (l1.length : Int)) with hd | hd
              · have hd1 : (atOf t2 l1 (j + 1) == (l1.length : Int)) = true := beq_iff_eq.mpr hd
                have HPQ := Lib.hid (places_hit (p := l1) hd)
                clear hd
                gi_wp2_with (first | (gi_at_call 17; refine HF.out.mono ?_; rintro e W4 ⟨rfl, hS4, hg4⟩; rw [hd1]; have HG4 := Lib.hid hg4; have HS4 := Lib.hid hS4; clear hg4 hS4) | (gi_at_builtin; obtain ⟨hB4, hn4, hr4⟩ := HST.out W4 HG4.out; refine in_append_one w.heap.size rfl _ _ 22 3 .i64 8 rfl Try.underlying22 info3 u11 (placesUpto l1 (atOf t2 l1) j) ((j : Int) + 1 - (l1.length : Int)) W4.heap.size 1 rfl rfl (hr4.alloc _) (Boxed.new W4 3 _).cell (by rw [World.size_alloc]; have := hB4.size; omega) (by omega) (by omega) ?_; rintro v1 w5 hown hg5 hat ⟨Av, cv, rfl⟩; have HO5 := Lib.hid hown; have HG5 := Lib.hid hg5; have HA5 := Lib.hid hat; have HB4 := Lib.hid hB4; have HN4 := Lib.hid hn4; clear hown hg5 hat hB4 hn4 hr4))
                have hbw4 := HB4.out.alloc HB4.out.size (.cells #[.int .i64 ((j : Int) + 1 - (l1.length : Int))] 3)
                have hrs : ∀ r, u11.ownBlock = some r → w.heap.size ≤ r := fun r e => own_base (HST.out W4 HG4.out).2.2 r e
                have hb5 : Below w.heap.size w w5 := hbw4.grown HG5.out hbw4.size hrs
                have hn4 := HN4.out
                have hn5 : w3.heap.size ≤ w5.heap.size := by have := HG5.out.size; rw [World.size_alloc] at this; omega
                have hk5 : ∀ i, i < w3.heap.size → u11.ownBlock ≠ some i → w5.heap[i]? = W4.heap[i]? := fun i hi hne =>
                  (HG5.out.block i (by rw [World.size_alloc]; omega) (fun e => hne e.symm)).trans (Below.heap_alloc W4 _ i (by omega))
                have hS5 : Srch w5 B vp vb l1 back (atOf t2 l1 (j + 1)) := HS4.out.at_ (hk5 B hBlt (fun e => (HAP.out B e).1 rfl)) (fun i e => hk5 i (HVP.out i e) (fun e2 => (HAP.out i e2).2.1 e)) (fun i e => hk5 i (HVB.out i e) (fun e2 => (HAP.out i e2).2.2 e))
                have hap5 : ∀ r, (Value.slice Av ((placesUpto l1 (atOf t2 l1) j).length + 1) cv).ownBlock = some r → r ≠ B ∧ vp.ownBlock ≠ some r ∧ vb.ownBlock ≠ some r := by
                  intro r e
                  rcases HA5.out with h | h
                  · exact HAP.out r (by rw [← h]; exact e)
                  · rw [h] at e
                    cases e
                    rw [World.size_alloc]
                    exact ⟨by omega, fun e => by have := HVP.out _ e; omega, fun e => by have := HVB.out _ e; omega⟩
                have hO5 := HO5.out
                have hl5 : (placesUpto l1 (atOf t2 l1) (j + 1)).length = (placesUpto l1 (atOf t2 l1) j).length + 1 := by rw [HPQ.out, List.length_append]; rfl
                go_roundw
                case rel => exact ⟨j + 1, by omega, by go_num, hS5, hb5, hn5, by rw [hl5, HPQ.out]; exact hO5, hap5⟩
                case measure => simp [intOf]; omega
              · have hd1 : (atOf t2 l1 (j + 1) == (l1.length : Int)) = false := beq_eq_false_iff_ne.mpr hd
                have HPQ := Lib.hid (places_miss (p := l1) hd)
                clear hd
                gi_wp2_with (gi_at_call 17; refine HF.out.mono ?_; rintro e W4 ⟨rfl, hS4, hg4⟩; rw [hd1])
                obtain ⟨hB4, hn4, hr4⟩ := HST.out W4 hg4
                have hap4 := HAP.out
                go_roundw
                case rel => exact ⟨j + 1, by omega, by go_num, hS4, hB4, hn4, by rw [HPQ.out]; exact hr4, hap4⟩
                case measure => simp [intOf]; omega
            · obtain rfl : j = t2.length := by omega
              have hE := placesUpto_eq t2 l1
              rw [hE] at hrow hplen
              have hle : (places t2 l1).length ≤ 4294967296 := by omega
              have HALL := Lib.hid (fun W (hB : Below w.heap.size w W) => (callsIn_wide (n := 2)).2 (cuecardlaw08_all.calls 0 A2 c2 t2 A1 c1 l1 (places t2 l1) W (Kd.C_below HC2.out hB) hc2 (Kd.C_below HR1.out hB) hc1 (all_places (by omega) (by omega))))
              have HSAME := Lib.hid (fun W A c A' c' (h1 : Kd.C (Kd.int .i64) W A (places t2 l1).length (places t2 l1)) (h2 : (places t2 l1).length ≤ c) (h3 : Kd.C (Kd.int .i64) W A' (places t2 l1).length (places t2 l1)) (h4 : (places t2 l1).length ≤ c') => (callsIn_wide (n := 2)).2 (cuecardref01_Same.calls ((places t2 l1).length + 1) A c (places t2 l1) A' c' (places t2 l1) true W h1 h2 h3 h4 (same_self hle (Nat.le_refl _))))
              generalize places t2 l1 = PL at *
              have HBW := Lib.hid hBw
              obtain ⟨Ae, ce, rfl⟩ := own_slice hrow
              have hRe := Kd.R_of_own (enc := Value.int .i64) (h1 := fun _ => rfl) (ok := fun _ => True) hrow (fun _ _ => trivial)
              have HRe := Lib.hid (Kd.R_reads' hRe)
              clear hrow hS hap hRe hBw hplen
              gi_wp2_with (first | (gi_at_call 14; refine (HALL.out _ HBW.out).mono ?_; rintro e w5 ⟨v5, rfl, hR5, hb5⟩; obtain ⟨A5, c5, rfl⟩ := Kd.R_slice hR5; have HR5 := Lib.hid (Kd.R_reads' hR5); have HB5 := Lib.hid hb5; clear hR5 hb5) | (gi_at_call 15; refine (HSAME.out w5 Ae ce A5 c5 (Kd.C_below HRe.out.2.2 HB5.out) HRe.out.2.1 HR5.out.2.2 HR5.out.2.1).mono ?_; rintro e w6 ⟨rfl, hb6⟩; have HB6 := Lib.hid hb6; clear hb6))
              go_ret
              exact ⟨rfl, below_step (below_step HBW.out HB5.out) HB6.out⟩
end Go.Proofs.Ytokhmpchgkmbeaa.QA
