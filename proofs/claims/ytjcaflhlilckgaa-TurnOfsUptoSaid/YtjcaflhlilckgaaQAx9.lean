-- Written for this claim by a program of this session's, out of Lean's own print of the program; Lean checks it.
import Derived.Test.YtjcaflhlilckgaaQAx0
namespace Go.Proofs.Ytjcaflhlilckgaa.QA
open Go.RowKit Go.Proofs.YtjcaflhlilckgaaW.PrintWords Go.Proofs.YtjcaflhlilckgaaW.PrintLast Go.Proofs.YtjcaflhlilckgaaW.PrintMore
attribute [local go_sem] max2_int min2_int max_two min_two max_three min_three max_four min_four   -- for this text's walks alone
set_option linter.unusedVariables false
set_option linter.unusedSimpArgs false

/-! ### cuecardref10_Events: function 17 -/
def cuecardref10_Events.l0 : Nat → List (S33) → List (S37) → Int → Option ((List (S37)))
  | 0, _, _, _ => none
  | k + 1, x0, x3, x4 => if x4 < (x0.length : Int) then (if 0 ≤ x4 then (if (((rd_T33 x0 x4).f0).length : Int) > 0 then (if x3.length < 3518437208883 then ((some (x3 ++ [(⟨0, 0, (rd_T33 x0 x4).f0⟩ : S37)] : List (S37))).bind fun y206 => (if (((rd_T33 x0 x4).f1).length : Int) > 0 then (if y206.length < 3518437208883 then (cuecardref10_Events.l0 k x0 (y206 ++ [(⟨1, 0, (rd_T33 x0 x4).f1⟩ : S37)]) (wrap64 (x4 + 1))) else (none)) else (cuecardref10_Events.l0 k x0 y206 (wrap64 (x4 + 1))))) else (none)) else (if (((rd_T33 x0 x4).f1).length : Int) > 0 then (if x3.length < 3518437208883 then (cuecardref10_Events.l0 k x0 (x3 ++ [(⟨1, 0, (rd_T33 x0 x4).f1⟩ : S37)]) (wrap64 (x4 + 1))) else (none)) else (cuecardref10_Events.l0 k x0 x3 (wrap64 (x4 + 1))))) else (none)) else (some x3)
def cuecardref10_Events.f (k : Nat) (l0 : List (S33)) : Option ((List (S37))) := cuecardref10_Events.l0 k l0 ([] : List (S37)) 0
theorem cuecardref10_Events.mono_l : ∀ k, (∀ y0 y1 y2, LeO (cuecardref10_Events.l0 k y0 y1 y2) (cuecardref10_Events.l0 (k + 1) y0 y1 y2))
  | 0 => fun _ _ _ r h => by simp [cuecardref10_Events.l0] at h
  | k + 1 => by
    have ih0 := cuecardref10_Events.mono_l k
    · intro y0 y1 y2
      unfold cuecardref10_Events.l0
      repeat' first
      | (with_reducible exact ih0 _ _ _)
      | (with_reducible exact LeO.refl _)
      | (with_reducible exact LeO.none _)
      | (with_reducible refine LeO.ite ?_ ?_)
      | (with_reducible refine LeO.bind ?_ (fun _ => ?_))
      | exact ih0 _ _ _
      | exact LeO.none _
      | refine LeO.ite ?_ ?_
      | refine LeO.bind ?_ (fun _ => ?_)
theorem cuecardref10_Events.mono : ∀ a0 k, LeO (cuecardref10_Events.f k a0) (cuecardref10_Events.f (k + 1) a0) := by
  intro a0 k
  have ih0 := cuecardref10_Events.mono_l k
  unfold cuecardref10_Events.f
  repeat' first
      | (with_reducible exact ih0 _ _ _)
      | (with_reducible exact LeO.refl _)
      | (with_reducible exact LeO.none _)
      | (with_reducible refine LeO.ite ?_ ?_)
      | (with_reducible refine LeO.bind ?_ (fun _ => ?_))
      | exact ih0 _ _ _
      | exact LeO.none _
      | refine LeO.ite ?_ ?_
      | refine LeO.bind ?_ (fun _ => ?_)
set_option maxHeartbeats 8000000 in
set_option maxRecDepth 100000 in
theorem cuecardref10_Events.calls (k : Nat) (P0_ : Nat → Prop) (A0 : Option Addr) (c0 : Nat) (l0 : List (S33)) (r : List (S37)) (w : World) (hs0 : Kd.V k33 33 w w.heap.size (fun k_ => P0_ k_) (.slice A0 l0.length c0) l0) (h : cuecardref10_Events.f k l0 = some r) :
    Calls Try.prog 17 #[.slice A0 l0.length c0] w fun e w' => ∃ v0_ : Value, e = .returned (v0_) ∧ Kd.N k37 37 w' w.heap.size (fun k_ => (P0_ k_ ∨ w.heap.size ≤ k_)) v0_ r ∧ Below w.heap.size w w' := by
  have hu37 := Try.underlying37
  have HO0 := Aside0.mk (show Kd.V k33 33 w w.heap.size (fun k_ => (P0_ k_ ∨ w.heap.size ≤ k_)) (.slice A0 l0.length c0) l0 from Kd.V_mono hs0 (fun k_ hk => .inl hk))
  have HB := Aside0.mk (Below.refl w.heap.size w)
  have H : (cuecardref10_Events.l0 k l0 ([] : List (S37)) 0) = some r := h
  clear h
  have H' := Aside0.mk H
  clear H
  go_enter Try.func17, Try.ntmps17
  go_wp2
  go_loopg [3, 4] k (fun kq v3 v4 w' => ∃ (x3_1 : List (S37)) (x4_1 : Int), v4 = .int .i64 x4_1 ∧ Aside0 (cuecardref10_Events.l0 kq l0 x3_1 x4_1 = some r) ∧ Aside0 (kq ≤ k) ∧ Aside0 (Kd.V k33 33 w' w.heap.size (fun k_ => (P0_ k_ ∨ w.heap.size ≤ k_) ∧ some k_ ≠ (v3 : Value).ownBlock) (.slice A0 l0.length c0) l0) ∧ Aside0 (Kd.N k37 37 w' w.heap.size (fun k_ => (P0_ k_ ∨ w.heap.size ≤ k_)) v3 x3_1) ∧ Aside0 (Below w.heap.size w w'))
  case atStart => exact ⟨(([] : List (S37))), (0), (by first | rfl | (simp; done) | (simp [*]; done)), H', ⟨Nat.le_refl _⟩, ⟨by (with_reducible repeat (first | apply Kd.V_alloc | apply Kd.V_drewN | apply Kd.V_drew)); exact Kd.V_mono HO0.out (fun _ hk => ⟨hk, (by simp [Value.ownBlock])⟩)⟩, ⟨by first | exact Kd.S_nil _ _ _ _ _ | exact Kd.N_nil _ _ _ _ _ | exact Kd.V_nil _ _ _ _ _ | exact Kd.Q_nil _ _ _ _ _ | exact Kd.R_nil _ _ _ _ _⟩, ⟨by repeat (first | (with_reducible first | exact HB.out | apply below_alloc | apply pw_below_drewN | apply below_drew1) | exact HB.out)⟩⟩
  case round =>
    clear H'
    try clear c1
    obtain ⟨x3_1, x4_1, rfl, HA, HK1, HO_0, HO_3, HB⟩ := hrel
    cases gk with
    | zero => exact absurd HA.out (by simp [cuecardref10_Events.l0])
    | succ k1 =>
      have H := HA.out
      clear HA
      simp only [cuecardref10_Events.l0] at H
      by_cases c2 : x4_1 < (l0.length : Int)
      · rw [if_pos c2] at H
        have c2b0 : decide (x4_1 < (l0.length : Int)) = true := decide_eq_true c2
        clear c2
        by_cases c3 : 0 ≤ x4_1
        · rw [if_pos c3] at H
          have c3b0 : decide (0 ≤ x4_1) = true := decide_eq_true c3
          clear c3
          by_cases c4 : (((rd_T33 l0 x4_1).f0).length : Int) > 0
          · rw [if_pos c4] at H
            have c4b0 : decide (0 < (((rd_T33 l0 x4_1).f0).length : Int)) = true := decide_eq_true c4
            have c4b1 : decide (0 < ((rd_T33 l0 x4_1).f0).length) = true := decide_eq_true (by omega)
            clear c4
            by_cases c5 : x3_1.length < 3518437208883
            · rw [if_pos c5] at H
              have LMc5 := Aside0.mk c5
              clear c5
              obtain ⟨y206, hy206⟩ : ∃ y_ : List (S37), y_ = (x3_1 ++ [(⟨0, 0, (rd_T33 l0 x4_1).f0⟩ : S37)]) := ⟨_, rfl⟩
              replace H : (if (((rd_T33 l0 x4_1).f1).length : Int) > 0 then (if y206.length < 3518437208883 then (cuecardref10_Events.l0 k1 l0 (y206 ++ [(⟨1, 0, (rd_T33 l0 x4_1).f1⟩ : S37)]) (wrap64 (x4_1 + 1))) else (none)) else (cuecardref10_Events.l0 k1 l0 y206 (wrap64 (x4_1 + 1)))) = some r := by first | (rw [hy206]; with_reducible exact H) | (have H2_ := (Option.bind_some _ _).symm.trans H; rw [hy206]; with_reducible exact H2_) | (have H2_ := (Option.bind_some _ _).symm.trans H; with_reducible exact H2_) | with_reducible exact H | (rw [hy206]; exact H) | exact H
              have Ny206 := Aside0.mk hy206
              clear hy206
              by_cases c6 : (((rd_T33 l0 x4_1).f1).length : Int) > 0
              · rw [if_pos c6] at H
                have c6b0 : decide (0 < (((rd_T33 l0 x4_1).f1).length : Int)) = true := decide_eq_true c6
                have c6b1 : decide (0 < ((rd_T33 l0 x4_1).f1).length) = true := decide_eq_true (by omega)
                clear c6
                by_cases c7 : y206.length < 3518437208883
                · rw [if_pos c7] at H
                  have LMc7 := Aside0.mk c7
                  clear c7
                  obtain ⟨y211, hy211⟩ : ∃ y_ : List (S37), y_ = (y206 ++ [(⟨1, 0, (rd_T33 l0 x4_1).f1⟩ : S37)]) := ⟨_, rfl⟩
                  replace H : (cuecardref10_Events.l0 k1 l0 y211 (wrap64 (x4_1 + 1))) = some r := by first | (rw [hy211]; with_reducible exact H) | (have H2_ := (Option.bind_some _ _).symm.trans H; rw [hy211]; with_reducible exact H2_) | (have H2_ := (Option.bind_some _ _).symm.trans H; with_reducible exact H2_) | with_reducible exact H | (rw [hy211]; exact H) | exact H
                  have Ny211 := Aside0.mk hy211
                  clear hy211
                  have H' := Aside0.mk H
                  clear H
                  have p204 : 0 ≤ (x4_1 : Int) := of_decide_eq_true (by first | (with_reducible assumption) | assumption)
                  have q204 : x4_1 < (l0.length : Int) := of_decide_eq_true (by first | (with_reducible assumption) | assumption)
                  obtain ⟨ad204, A204_0, c204_0, A204_1, c204_1, e204, hx204_0, hx204_1, hl204_0, hi204_0, hl204_1, hi204_1⟩ := at_T33 (Kd.V_reads' HO_0.out).2.2 x4_1 p204 q204
                  cases e204
                  obtain ⟨ce204, hce204, hMe204, hcc204⟩ := Kd.V_get HO_0.out z33 x4_1 p204 (by first | exact q204 | exact of_decide_eq_true (by first | (with_reducible assumption) | assumption) | (have e_ := (Kd.V_reads' HO_0.out).1; omega))
                  obtain ⟨ua204_0, uc204_0, ua204_1, uc204_1, rfl, ul204_0, ge204_0, ul204_1, ge204_1⟩ := k33_openF hMe204
                  have hv204_0 := hcc204 0 _ rfl
                  rw [Nat.add_zero] at hv204_0
                  replace hv204_0 := Option.some.inj (hv204_0.symm.trans hx204_0)
                  injection hv204_0 with hva_ hvn_ hvc_
                  rw [hva_] at ge204_0
                  rw [hvc_] at ul204_0
                  have HL204_0 := Aside0.mk (show Kd.V (Kd.int .u8) 5 _ w.heap.size _ _ ((rd_T33 l0 x4_1).f0) from Kd.V_mk ul204_0 ge204_0)
                  clear hva_ hvn_ hvc_ ge204_0 ul204_0
                  have hv204_1 := hcc204 1 _ rfl
                  rw [add_field _ _ 1 (by omega)] at hv204_1
                  replace hv204_1 := Option.some.inj (hv204_1.symm.trans hx204_1)
                  injection hv204_1 with hva_ hvn_ hvc_
                  rw [hva_] at ge204_1
                  rw [hvc_] at ul204_1
                  have HL204_1 := Aside0.mk (show Kd.V (Kd.int .u8) 5 _ w.heap.size _ _ ((rd_T33 l0 x4_1).f1) from Kd.V_mk ul204_1 ge204_1)
                  clear hva_ hvn_ hvc_ ge204_1 ul204_1
                  clear hcc204 hce204
                  have HR204_0 := Aside0.mk hi204_0
                  have HC204_0 := Aside0.mk hl204_0
                  clear hi204_0 hl204_0
                  have HR204_1 := Aside0.mk hi204_1
                  have HC204_1 := Aside0.mk hl204_1
                  clear hi204_1 hl204_1
                  replace p204 := eq_true p204
                  replace q204 := eq_true q204
                  have p205 : 0 ≤ (x4_1 : Int) := of_decide_eq_true (by first | (with_reducible assumption) | assumption)
                  have q205 : x4_1 < (l0.length : Int) := of_decide_eq_true (by first | (with_reducible assumption) | assumption)
                  obtain ⟨ad205, A205_0, c205_0, A205_1, c205_1, e205, hx205_0, hx205_1, hl205_0, hi205_0, hl205_1, hi205_1⟩ := at_T33 (Kd.V_reads' HO_0.out).2.2 x4_1 p205 q205
                  obtain rfl : ad204 = ad205 := (by injection e205)
                  obtain ⟨ce205, hce205, hMe205, hcc205⟩ := Kd.V_get HO_0.out z33 x4_1 p205 (by first | exact q205 | exact of_decide_eq_true (by first | (with_reducible assumption) | assumption) | (have e_ := (Kd.V_reads' HO_0.out).1; omega))
                  obtain ⟨ua205_0, uc205_0, ua205_1, uc205_1, rfl, ul205_0, ge205_0, ul205_1, ge205_1⟩ := k33_openF hMe205
                  have hv205_0 := hcc205 0 _ rfl
                  rw [Nat.add_zero] at hv205_0
                  replace hv205_0 := Option.some.inj (hv205_0.symm.trans hx205_0)
                  injection hv205_0 with hva_ hvn_ hvc_
                  rw [hva_] at ge205_0
                  rw [hvc_] at ul205_0
                  have HL205_0 := Aside0.mk (show Kd.V (Kd.int .u8) 5 _ w.heap.size _ _ ((rd_T33 l0 x4_1).f0) from Kd.V_mk ul205_0 ge205_0)
                  clear hva_ hvn_ hvc_ ge205_0 ul205_0
                  have hv205_1 := hcc205 1 _ rfl
                  rw [add_field _ _ 1 (by omega)] at hv205_1
                  replace hv205_1 := Option.some.inj (hv205_1.symm.trans hx205_1)
                  injection hv205_1 with hva_ hvn_ hvc_
                  rw [hva_] at ge205_1
                  rw [hvc_] at ul205_1
                  have HL205_1 := Aside0.mk (show Kd.V (Kd.int .u8) 5 _ w.heap.size _ _ ((rd_T33 l0 x4_1).f1) from Kd.V_mk ul205_1 ge205_1)
                  clear hva_ hvn_ hvc_ ge205_1 ul205_1
                  clear hcc205 hce205
                  have HR205_0 := Aside0.mk hi205_0
                  have HC205_0 := Aside0.mk hl205_0
                  clear hi205_0 hl205_0
                  have HR205_1 := Aside0.mk hi205_1
                  have HC205_1 := Aside0.mk hl205_1
                  clear hi205_1 hl205_1
                  replace p205 := eq_true p205
                  replace q205 := eq_true q205
                  have ea_ := Option.some.inj (hx204_0.symm.trans hx205_0)
                  injection ea_ with ea_ en_ ec_
                  subst ea_
                  subst ec_
                  clear en_
                  have ea_ := Option.some.inj (hx204_1.symm.trans hx205_1)
                  injection ea_ with ea_ en_ ec_
                  subst ea_
                  subst ec_
                  clear en_
                  go_wp2_with (first | ((with_reducible refine gate_builtin (b := .append) (xs := #[.tmp 18, .tmp 25]) rfl ?_); at_builtin; refine Kd.N_append k37 (w0 := w) w.heap.size rfl (.tmp 18) (.tmp 25) 22 37 (.agg #[(.int .i64 0), (.int .i64 0), (.slice none 0 0)]) 40 rfl Try.underlying22 info37 rfl (by decide) (by omega) u3 x3_1 (⟨0, 0, (rd_T33 l0 x4_1).f0⟩ : S37) [.int .i64 0, .int .i64 0, .slice A204_0 ((rd_T33 l0 x4_1).f0).length c204_0] (fun k_ => (P0_ k_ ∨ w.heap.size ≤ k_)) (fun k_ => ((fun k_ => (P0_ k_ ∨ w.heap.size ≤ k_))) k_ ∧ some k_ ≠ (u3 : Value).ownBlock) rfl rfl ?aP (fun _ hk => hk) ?aF ?aO ?aB ?aS ?aL ?_; (case aP => exact (k37_mkF _ _ (⟨0, 0, (rd_T33 l0 x4_1).f0⟩ : S37) (Kd.V_reads' (Kd.V_mono (ok' := (fun k_ => ((fun k_ => (P0_ k_ ∨ w.heap.size ≤ k_))) k_ ∧ some k_ ≠ (u3 : Value).ownBlock)) (HL205_0.out) (fun k_ hk => ⟨hk.1, hk.2⟩))).2.1 (Kd.V_F (Kd.V_mono (ok' := (fun k_ => ((fun k_ => (P0_ k_ ∨ w.heap.size ≤ k_))) k_ ∧ some k_ ≠ (u3 : Value).ownBlock)) (HL205_0.out) (fun k_ hk => ⟨hk.1, hk.2⟩))))); (case aB => exact (by repeat (first | (with_reducible first | exact HB.out | apply below_alloc | apply pw_below_drewN | apply below_drew1) | exact HB.out))); (case aF => exact (fun k_ hk => (.inr (Nat.le_trans (below_size (by repeat (first | (with_reducible first | exact HB.out | apply below_alloc | apply pw_below_drewN | apply below_drew1) | exact HB.out))) hk)))); (case aO => exact (by (with_reducible repeat (first | apply Kd.N_alloc | apply Kd.N_drewN | apply Kd.N_drew)); exact HO_3.out)); (case aS => exact (below_size (by repeat (first | (with_reducible first | exact HB.out | apply below_alloc | apply pw_below_drewN | apply below_drew1) | exact HB.out)))); (case aL => have := LMc5.out; omega); intro v207 w8 ho hb hg hat; rw [← Ny206.out] at ho; have n0_ := Aside0.mk (Kd.V_afterv (ok := (fun k_ => (P0_ k_ ∨ w.heap.size ≤ k_))) (by (with_reducible repeat (first | apply Kd.V_alloc | apply Kd.V_drewN | apply Kd.V_drew)); exact HO_0.out) hg hat); have n1_ := Aside0.mk (Kd.V_afterv (ok := (fun k_ => (P0_ k_ ∨ w.heap.size ≤ k_))) (by (with_reducible repeat (first | apply Kd.V_alloc | apply Kd.V_drewN | apply Kd.V_drew)); exact HL204_0.out) hg hat); have n2_ := Aside0.mk (Kd.V_afterv (ok := (fun k_ => (P0_ k_ ∨ w.heap.size ≤ k_))) (by (with_reducible repeat (first | apply Kd.V_alloc | apply Kd.V_drewN | apply Kd.V_drew)); exact HL204_1.out) hg hat); have n3_ := Aside0.mk (Kd.V_afterv (ok := (fun k_ => (P0_ k_ ∨ w.heap.size ≤ k_))) (by (with_reducible repeat (first | apply Kd.V_alloc | apply Kd.V_drewN | apply Kd.V_drew)); exact HL205_0.out) hg hat); have n4_ := Aside0.mk (Kd.V_afterv (ok := (fun k_ => (P0_ k_ ∨ w.heap.size ≤ k_))) (by (with_reducible repeat (first | apply Kd.V_alloc | apply Kd.V_drewN | apply Kd.V_drew)); exact HL205_1.out) hg hat); have n5_ := Aside0.mk (hb); have n6_ := Aside0.mk (ho); clear HO_0; clear HL204_0; clear HL204_1; clear HL205_0; clear HL205_1; clear HB; clear HO_3; have HO_0 := n0_; have HL204_0 := n1_; have HL204_1 := n2_; have HL205_0 := n3_; have HL205_1 := n4_; have HB := n5_; have HO208 := n6_; clear n0_ n1_ n2_ n3_ n4_ n5_ n6_; clear ho hb hg hat; have p209 : 0 ≤ (x4_1 : Int) := of_decide_eq_true (by first | (with_reducible assumption) | assumption); have q209 : x4_1 < (l0.length : Int) := of_decide_eq_true (by first | (with_reducible assumption) | assumption); obtain ⟨ad209, A209_0, c209_0, A209_1, c209_1, e209, hx209_0, hx209_1, hl209_0, hi209_0, hl209_1, hi209_1⟩ := at_T33 (Kd.V_reads' HO_0.out).2.2 x4_1 p209 q209; obtain rfl : ad204 = ad209 := (by injection e209); obtain ⟨ce209, hce209, hMe209, hcc209⟩ := Kd.V_get HO_0.out z33 x4_1 p209 (by first | exact q209 | exact of_decide_eq_true (by first | (with_reducible assumption) | assumption) | (have e_ := (Kd.V_reads' HO_0.out).1; omega)); obtain ⟨ua209_0, uc209_0, ua209_1, uc209_1, rfl, ul209_0, ge209_0, ul209_1, ge209_1⟩ := k33_openF hMe209; have hv209_0 := hcc209 0 _ rfl; rw [Nat.add_zero] at hv209_0; replace hv209_0 := Option.some.inj (hv209_0.symm.trans hx209_0); injection hv209_0 with hva_ hvn_ hvc_; rw [hva_] at ge209_0; rw [hvc_] at ul209_0; have HL209_0 := Aside0.mk (show Kd.V (Kd.int .u8) 5 _ w.heap.size _ _ ((rd_T33 l0 x4_1).f0) from Kd.V_mk ul209_0 ge209_0); clear hva_ hvn_ hvc_ ge209_0 ul209_0; have hv209_1 := hcc209 1 _ rfl; rw [add_field _ _ 1 (by omega)] at hv209_1; replace hv209_1 := Option.some.inj (hv209_1.symm.trans hx209_1); injection hv209_1 with hva_ hvn_ hvc_; rw [hva_] at ge209_1; rw [hvc_] at ul209_1; have HL209_1 := Aside0.mk (show Kd.V (Kd.int .u8) 5 _ w.heap.size _ _ ((rd_T33 l0 x4_1).f1) from Kd.V_mk ul209_1 ge209_1); clear hva_ hvn_ hvc_ ge209_1 ul209_1; clear hcc209 hce209; have HR209_0 := Aside0.mk hi209_0; have HC209_0 := Aside0.mk hl209_0; clear hi209_0 hl209_0; have HR209_1 := Aside0.mk hi209_1; have HC209_1 := Aside0.mk hl209_1; clear hi209_1 hl209_1; replace p209 := eq_true p209; replace q209 := eq_true q209; have p210 : 0 ≤ (x4_1 : Int) := of_decide_eq_true (by first | (with_reducible assumption) | assumption); have q210 : x4_1 < (l0.length : Int) := of_decide_eq_true (by first | (with_reducible assumption) | assumption); obtain ⟨ad210, A210_0, c210_0, A210_1, c210_1, e210, hx210_0, hx210_1, hl210_0, hi210_0, hl210_1, hi210_1⟩ := at_T33 (Kd.V_reads' HO_0.out).2.2 x4_1 p210 q210; obtain rfl : ad204 = ad210 := (by injection e210); obtain ⟨ce210, hce210, hMe210, hcc210⟩ := Kd.V_get HO_0.out z33 x4_1 p210 (by first | exact q210 | exact of_decide_eq_true (by first | (with_reducible assumption) | assumption) | (have e_ := (Kd.V_reads' HO_0.out).1; omega)); obtain ⟨ua210_0, uc210_0, ua210_1, uc210_1, rfl, ul210_0, ge210_0, ul210_1, ge210_1⟩ := k33_openF hMe210; have hv210_0 := hcc210 0 _ rfl; rw [Nat.add_zero] at hv210_0; replace hv210_0 := Option.some.inj (hv210_0.symm.trans hx210_0); injection hv210_0 with hva_ hvn_ hvc_; rw [hva_] at ge210_0; rw [hvc_] at ul210_0; have HL210_0 := Aside0.mk (show Kd.V (Kd.int .u8) 5 _ w.heap.size _ _ ((rd_T33 l0 x4_1).f0) from Kd.V_mk ul210_0 ge210_0); clear hva_ hvn_ hvc_ ge210_0 ul210_0; have hv210_1 := hcc210 1 _ rfl; rw [add_field _ _ 1 (by omega)] at hv210_1; replace hv210_1 := Option.some.inj (hv210_1.symm.trans hx210_1); injection hv210_1 with hva_ hvn_ hvc_; rw [hva_] at ge210_1; rw [hvc_] at ul210_1; have HL210_1 := Aside0.mk (show Kd.V (Kd.int .u8) 5 _ w.heap.size _ _ ((rd_T33 l0 x4_1).f1) from Kd.V_mk ul210_1 ge210_1); clear hva_ hvn_ hvc_ ge210_1 ul210_1; clear hcc210 hce210; have HR210_0 := Aside0.mk hi210_0; have HC210_0 := Aside0.mk hl210_0; clear hi210_0 hl210_0; have HR210_1 := Aside0.mk hi210_1; have HC210_1 := Aside0.mk hl210_1; clear hi210_1 hl210_1; replace p210 := eq_true p210; replace q210 := eq_true q210; have ea_ := Option.some.inj (hx209_0.symm.trans hx210_0); injection ea_ with ea_ en_ ec_; subst ea_; subst ec_; clear en_; have ea_ := Option.some.inj (hx209_1.symm.trans hx210_1); injection ea_ with ea_ en_ ec_; subst ea_; subst ec_; clear en_) | ((with_reducible refine gate_builtin (b := .append) (xs := #[.tmp 34, .tmp 41]) rfl ?_); at_builtin; refine Kd.N_append k37 (w0 := w) w.heap.size rfl (.tmp 34) (.tmp 41) 22 37 (.agg #[(.int .i64 0), (.int .i64 0), (.slice none 0 0)]) 40 rfl Try.underlying22 info37 rfl (by decide) (by omega) v207 y206 (⟨1, 0, (rd_T33 l0 x4_1).f1⟩ : S37) [.int .i64 1, .int .i64 0, .slice A209_1 ((rd_T33 l0 x4_1).f1).length c209_1] (fun k_ => (P0_ k_ ∨ w.heap.size ≤ k_)) (fun k_ => ((fun k_ => (P0_ k_ ∨ w.heap.size ≤ k_))) k_ ∧ some k_ ≠ (v207 : Value).ownBlock) rfl rfl ?aP (fun _ hk => hk) ?aF ?aO ?aB ?aS ?aL ?_; (case aP => exact (k37_mkF _ _ (⟨1, 0, (rd_T33 l0 x4_1).f1⟩ : S37) (Kd.V_reads' (Kd.V_mono (ok' := (fun k_ => ((fun k_ => (P0_ k_ ∨ w.heap.size ≤ k_))) k_ ∧ some k_ ≠ (v207 : Value).ownBlock)) (HL210_1.out) (fun k_ hk => ⟨hk.1, hk.2⟩))).2.1 (Kd.V_F (Kd.V_mono (ok' := (fun k_ => ((fun k_ => (P0_ k_ ∨ w.heap.size ≤ k_))) k_ ∧ some k_ ≠ (v207 : Value).ownBlock)) (HL210_1.out) (fun k_ hk => ⟨hk.1, hk.2⟩))))); (case aB => exact (by repeat (first | (with_reducible first | exact HB.out | apply below_alloc | apply pw_below_drewN | apply below_drew1) | exact HB.out))); (case aF => exact (fun k_ hk => (.inr (Nat.le_trans (below_size (by repeat (first | (with_reducible first | exact HB.out | apply below_alloc | apply pw_below_drewN | apply below_drew1) | exact HB.out))) hk)))); (case aO => exact (by (with_reducible repeat (first | apply Kd.N_alloc | apply Kd.N_drewN | apply Kd.N_drew)); exact HO208.out)); (case aS => exact (below_size (by repeat (first | (with_reducible first | exact HB.out | apply below_alloc | apply pw_below_drewN | apply below_drew1) | exact HB.out)))); (case aL => have := LMc7.out; omega); intro v212 w9 ho hb hg hat; rw [← Ny211.out] at ho; have n0_ := Aside0.mk (Kd.V_afterv (ok := (fun k_ => (P0_ k_ ∨ w.heap.size ≤ k_))) (by (with_reducible repeat (first | apply Kd.V_alloc | apply Kd.V_drewN | apply Kd.V_drew)); exact HO_0.out) hg hat); have n1_ := Aside0.mk (Kd.V_afterv (ok := (fun k_ => (P0_ k_ ∨ w.heap.size ≤ k_))) (by (with_reducible repeat (first | apply Kd.V_alloc | apply Kd.V_drewN | apply Kd.V_drew)); exact HL204_0.out) hg hat); have n2_ := Aside0.mk (Kd.V_afterv (ok := (fun k_ => (P0_ k_ ∨ w.heap.size ≤ k_))) (by (with_reducible repeat (first | apply Kd.V_alloc | apply Kd.V_drewN | apply Kd.V_drew)); exact HL204_1.out) hg hat); have n3_ := Aside0.mk (Kd.V_afterv (ok := (fun k_ => (P0_ k_ ∨ w.heap.size ≤ k_))) (by (with_reducible repeat (first | apply Kd.V_alloc | apply Kd.V_drewN | apply Kd.V_drew)); exact HL205_0.out) hg hat); have n4_ := Aside0.mk (Kd.V_afterv (ok := (fun k_ => (P0_ k_ ∨ w.heap.size ≤ k_))) (by (with_reducible repeat (first | apply Kd.V_alloc | apply Kd.V_drewN | apply Kd.V_drew)); exact HL205_1.out) hg hat); have n5_ := Aside0.mk (Kd.V_afterv (ok := (fun k_ => (P0_ k_ ∨ w.heap.size ≤ k_))) (by (with_reducible repeat (first | apply Kd.V_alloc | apply Kd.V_drewN | apply Kd.V_drew)); exact HL209_0.out) hg hat); have n6_ := Aside0.mk (Kd.V_afterv (ok := (fun k_ => (P0_ k_ ∨ w.heap.size ≤ k_))) (by (with_reducible repeat (first | apply Kd.V_alloc | apply Kd.V_drewN | apply Kd.V_drew)); exact HL209_1.out) hg hat); have n7_ := Aside0.mk (Kd.V_afterv (ok := (fun k_ => (P0_ k_ ∨ w.heap.size ≤ k_))) (by (with_reducible repeat (first | apply Kd.V_alloc | apply Kd.V_drewN | apply Kd.V_drew)); exact HL210_0.out) hg hat); have n8_ := Aside0.mk (Kd.V_afterv (ok := (fun k_ => (P0_ k_ ∨ w.heap.size ≤ k_))) (by (with_reducible repeat (first | apply Kd.V_alloc | apply Kd.V_drewN | apply Kd.V_drew)); exact HL210_1.out) hg hat); have n9_ := Aside0.mk (hb); have n10_ := Aside0.mk (ho); clear HO_0; clear HL204_0; clear HL204_1; clear HL205_0; clear HL205_1; clear HL209_0; clear HL209_1; clear HL210_0; clear HL210_1; clear HB; clear HO208; have HO_0 := n0_; have HL204_0 := n1_; have HL204_1 := n2_; have HL205_0 := n3_; have HL205_1 := n4_; have HL209_0 := n5_; have HL209_1 := n6_; have HL210_0 := n7_; have HL210_1 := n8_; have HB := n9_; have HO213 := n10_; clear n0_ n1_ n2_ n3_ n4_ n5_ n6_ n7_ n8_ n9_ n10_; clear ho hb hg hat))
                  go_roundg k1
                  case measure => have := HK1.out; omega
                  case rel => exact ⟨(y211), (wrap64 (x4_1 + 1)), (by first | rfl | (simp; done) | (simp [*]; done)), H', ⟨by have := HK1.out; omega⟩, ⟨by (with_reducible repeat (first | apply Kd.V_alloc | apply Kd.V_drewN | apply Kd.V_drew)); exact HO_0.out⟩, ⟨by (with_reducible repeat (first | apply Kd.N_alloc | apply Kd.N_drewN | apply Kd.N_drew)); exact HO213.out⟩, ⟨by repeat (first | (with_reducible first | exact HB.out | apply below_alloc | apply pw_below_drewN | apply below_drew1) | exact HB.out)⟩⟩
                · rw [if_neg c7] at H
                  exact absurd H (by simp)
              · rw [if_neg c6] at H
                have c6b0 : decide (0 < (((rd_T33 l0 x4_1).f1).length : Int)) = false := decide_eq_false c6
                have c6b1 : decide (0 < ((rd_T33 l0 x4_1).f1).length) = false := decide_eq_false (by omega)
                clear c6
                have H' := Aside0.mk H
                clear H
                have p204 : 0 ≤ (x4_1 : Int) := of_decide_eq_true (by first | (with_reducible assumption) | assumption)
                have q204 : x4_1 < (l0.length : Int) := of_decide_eq_true (by first | (with_reducible assumption) | assumption)
                obtain ⟨ad204, A204_0, c204_0, A204_1, c204_1, e204, hx204_0, hx204_1, hl204_0, hi204_0, hl204_1, hi204_1⟩ := at_T33 (Kd.V_reads' HO_0.out).2.2 x4_1 p204 q204
                cases e204
                obtain ⟨ce204, hce204, hMe204, hcc204⟩ := Kd.V_get HO_0.out z33 x4_1 p204 (by first | exact q204 | exact of_decide_eq_true (by first | (with_reducible assumption) | assumption) | (have e_ := (Kd.V_reads' HO_0.out).1; omega))
                obtain ⟨ua204_0, uc204_0, ua204_1, uc204_1, rfl, ul204_0, ge204_0, ul204_1, ge204_1⟩ := k33_openF hMe204
                have hv204_0 := hcc204 0 _ rfl
                rw [Nat.add_zero] at hv204_0
                replace hv204_0 := Option.some.inj (hv204_0.symm.trans hx204_0)
                injection hv204_0 with hva_ hvn_ hvc_
                rw [hva_] at ge204_0
                rw [hvc_] at ul204_0
                have HL204_0 := Aside0.mk (show Kd.V (Kd.int .u8) 5 _ w.heap.size _ _ ((rd_T33 l0 x4_1).f0) from Kd.V_mk ul204_0 ge204_0)
                clear hva_ hvn_ hvc_ ge204_0 ul204_0
                have hv204_1 := hcc204 1 _ rfl
                rw [add_field _ _ 1 (by omega)] at hv204_1
                replace hv204_1 := Option.some.inj (hv204_1.symm.trans hx204_1)
                injection hv204_1 with hva_ hvn_ hvc_
                rw [hva_] at ge204_1
                rw [hvc_] at ul204_1
                have HL204_1 := Aside0.mk (show Kd.V (Kd.int .u8) 5 _ w.heap.size _ _ ((rd_T33 l0 x4_1).f1) from Kd.V_mk ul204_1 ge204_1)
                clear hva_ hvn_ hvc_ ge204_1 ul204_1
                clear hcc204 hce204
                have HR204_0 := Aside0.mk hi204_0
                have HC204_0 := Aside0.mk hl204_0
                clear hi204_0 hl204_0
                have HR204_1 := Aside0.mk hi204_1
                have HC204_1 := Aside0.mk hl204_1
                clear hi204_1 hl204_1
                replace p204 := eq_true p204
                replace q204 := eq_true q204
                have p205 : 0 ≤ (x4_1 : Int) := of_decide_eq_true (by first | (with_reducible assumption) | assumption)
                have q205 : x4_1 < (l0.length : Int) := of_decide_eq_true (by first | (with_reducible assumption) | assumption)
                obtain ⟨ad205, A205_0, c205_0, A205_1, c205_1, e205, hx205_0, hx205_1, hl205_0, hi205_0, hl205_1, hi205_1⟩ := at_T33 (Kd.V_reads' HO_0.out).2.2 x4_1 p205 q205
                obtain rfl : ad204 = ad205 := (by injection e205)
                obtain ⟨ce205, hce205, hMe205, hcc205⟩ := Kd.V_get HO_0.out z33 x4_1 p205 (by first | exact q205 | exact of_decide_eq_true (by first | (with_reducible assumption) | assumption) | (have e_ := (Kd.V_reads' HO_0.out).1; omega))
                obtain ⟨ua205_0, uc205_0, ua205_1, uc205_1, rfl, ul205_0, ge205_0, ul205_1, ge205_1⟩ := k33_openF hMe205
                have hv205_0 := hcc205 0 _ rfl
                rw [Nat.add_zero] at hv205_0
                replace hv205_0 := Option.some.inj (hv205_0.symm.trans hx205_0)
                injection hv205_0 with hva_ hvn_ hvc_
                rw [hva_] at ge205_0
                rw [hvc_] at ul205_0
                have HL205_0 := Aside0.mk (show Kd.V (Kd.int .u8) 5 _ w.heap.size _ _ ((rd_T33 l0 x4_1).f0) from Kd.V_mk ul205_0 ge205_0)
                clear hva_ hvn_ hvc_ ge205_0 ul205_0
                have hv205_1 := hcc205 1 _ rfl
                rw [add_field _ _ 1 (by omega)] at hv205_1
                replace hv205_1 := Option.some.inj (hv205_1.symm.trans hx205_1)
                injection hv205_1 with hva_ hvn_ hvc_
                rw [hva_] at ge205_1
                rw [hvc_] at ul205_1
                have HL205_1 := Aside0.mk (show Kd.V (Kd.int .u8) 5 _ w.heap.size _ _ ((rd_T33 l0 x4_1).f1) from Kd.V_mk ul205_1 ge205_1)
                clear hva_ hvn_ hvc_ ge205_1 ul205_1
                clear hcc205 hce205
                have HR205_0 := Aside0.mk hi205_0
                have HC205_0 := Aside0.mk hl205_0
                clear hi205_0 hl205_0
                have HR205_1 := Aside0.mk hi205_1
                have HC205_1 := Aside0.mk hl205_1
                clear hi205_1 hl205_1
                replace p205 := eq_true p205
                replace q205 := eq_true q205
                have ea_ := Option.some.inj (hx204_0.symm.trans hx205_0)
                injection ea_ with ea_ en_ ec_
                subst ea_
                subst ec_
                clear en_
                have ea_ := Option.some.inj (hx204_1.symm.trans hx205_1)
                injection ea_ with ea_ en_ ec_
                subst ea_
                subst ec_
                clear en_
                go_wp2_with (first | ((with_reducible refine gate_builtin (b := .append) (xs := #[.tmp 18, .tmp 25]) rfl ?_); at_builtin; refine Kd.N_append k37 (w0 := w) w.heap.size rfl (.tmp 18) (.tmp 25) 22 37 (.agg #[(.int .i64 0), (.int .i64 0), (.slice none 0 0)]) 40 rfl Try.underlying22 info37 rfl (by decide) (by omega) u3 x3_1 (⟨0, 0, (rd_T33 l0 x4_1).f0⟩ : S37) [.int .i64 0, .int .i64 0, .slice A204_0 ((rd_T33 l0 x4_1).f0).length c204_0] (fun k_ => (P0_ k_ ∨ w.heap.size ≤ k_)) (fun k_ => ((fun k_ => (P0_ k_ ∨ w.heap.size ≤ k_))) k_ ∧ some k_ ≠ (u3 : Value).ownBlock) rfl rfl ?aP (fun _ hk => hk) ?aF ?aO ?aB ?aS ?aL ?_; (case aP => exact (k37_mkF _ _ (⟨0, 0, (rd_T33 l0 x4_1).f0⟩ : S37) (Kd.V_reads' (Kd.V_mono (ok' := (fun k_ => ((fun k_ => (P0_ k_ ∨ w.heap.size ≤ k_))) k_ ∧ some k_ ≠ (u3 : Value).ownBlock)) (HL205_0.out) (fun k_ hk => ⟨hk.1, hk.2⟩))).2.1 (Kd.V_F (Kd.V_mono (ok' := (fun k_ => ((fun k_ => (P0_ k_ ∨ w.heap.size ≤ k_))) k_ ∧ some k_ ≠ (u3 : Value).ownBlock)) (HL205_0.out) (fun k_ hk => ⟨hk.1, hk.2⟩))))); (case aB => exact (by repeat (first | (with_reducible first | exact HB.out | apply below_alloc | apply pw_below_drewN | apply below_drew1) | exact HB.out))); (case aF => exact (fun k_ hk => (.inr (Nat.le_trans (below_size (by repeat (first | (with_reducible first | exact HB.out | apply below_alloc | apply pw_below_drewN | apply below_drew1) | exact HB.out))) hk)))); (case aO => exact (by (with_reducible repeat (first | apply Kd.N_alloc | apply Kd.N_drewN | apply Kd.N_drew)); exact HO_3.out)); (case aS => exact (below_size (by repeat (first | (with_reducible first | exact HB.out | apply below_alloc | apply pw_below_drewN | apply below_drew1) | exact HB.out)))); (case aL => have := LMc5.out; omega); intro v207 w10 ho hb hg hat; rw [← Ny206.out] at ho; have n0_ := Aside0.mk (Kd.V_afterv (ok := (fun k_ => (P0_ k_ ∨ w.heap.size ≤ k_))) (by (with_reducible repeat (first | apply Kd.V_alloc | apply Kd.V_drewN | apply Kd.V_drew)); exact HO_0.out) hg hat); have n1_ := Aside0.mk (Kd.V_afterv (ok := (fun k_ => (P0_ k_ ∨ w.heap.size ≤ k_))) (by (with_reducible repeat (first | apply Kd.V_alloc | apply Kd.V_drewN | apply Kd.V_drew)); exact HL204_0.out) hg hat); have n2_ := Aside0.mk (Kd.V_afterv (ok := (fun k_ => (P0_ k_ ∨ w.heap.size ≤ k_))) (by (with_reducible repeat (first | apply Kd.V_alloc | apply Kd.V_drewN | apply Kd.V_drew)); exact HL204_1.out) hg hat); have n3_ := Aside0.mk (Kd.V_afterv (ok := (fun k_ => (P0_ k_ ∨ w.heap.size ≤ k_))) (by (with_reducible repeat (first | apply Kd.V_alloc | apply Kd.V_drewN | apply Kd.V_drew)); exact HL205_0.out) hg hat); have n4_ := Aside0.mk (Kd.V_afterv (ok := (fun k_ => (P0_ k_ ∨ w.heap.size ≤ k_))) (by (with_reducible repeat (first | apply Kd.V_alloc | apply Kd.V_drewN | apply Kd.V_drew)); exact HL205_1.out) hg hat); have n5_ := Aside0.mk (hb); have n6_ := Aside0.mk (ho); clear HO_0; clear HL204_0; clear HL204_1; clear HL205_0; clear HL205_1; clear HB; clear HO_3; have HO_0 := n0_; have HL204_0 := n1_; have HL204_1 := n2_; have HL205_0 := n3_; have HL205_1 := n4_; have HB := n5_; have HO208 := n6_; clear n0_ n1_ n2_ n3_ n4_ n5_ n6_; clear ho hb hg hat; have p209 : 0 ≤ (x4_1 : Int) := of_decide_eq_true (by first | (with_reducible assumption) | assumption); have q209 : x4_1 < (l0.length : Int) := of_decide_eq_true (by first | (with_reducible assumption) | assumption); obtain ⟨ad209, A209_0, c209_0, A209_1, c209_1, e209, hx209_0, hx209_1, hl209_0, hi209_0, hl209_1, hi209_1⟩ := at_T33 (Kd.V_reads' HO_0.out).2.2 x4_1 p209 q209; obtain rfl : ad204 = ad209 := (by injection e209); obtain ⟨ce209, hce209, hMe209, hcc209⟩ := Kd.V_get HO_0.out z33 x4_1 p209 (by first | exact q209 | exact of_decide_eq_true (by first | (with_reducible assumption) | assumption) | (have e_ := (Kd.V_reads' HO_0.out).1; omega)); obtain ⟨ua209_0, uc209_0, ua209_1, uc209_1, rfl, ul209_0, ge209_0, ul209_1, ge209_1⟩ := k33_openF hMe209; have hv209_0 := hcc209 0 _ rfl; rw [Nat.add_zero] at hv209_0; replace hv209_0 := Option.some.inj (hv209_0.symm.trans hx209_0); injection hv209_0 with hva_ hvn_ hvc_; rw [hva_] at ge209_0; rw [hvc_] at ul209_0; have HL209_0 := Aside0.mk (show Kd.V (Kd.int .u8) 5 _ w.heap.size _ _ ((rd_T33 l0 x4_1).f0) from Kd.V_mk ul209_0 ge209_0); clear hva_ hvn_ hvc_ ge209_0 ul209_0; have hv209_1 := hcc209 1 _ rfl; rw [add_field _ _ 1 (by omega)] at hv209_1; replace hv209_1 := Option.some.inj (hv209_1.symm.trans hx209_1); injection hv209_1 with hva_ hvn_ hvc_; rw [hva_] at ge209_1; rw [hvc_] at ul209_1; have HL209_1 := Aside0.mk (show Kd.V (Kd.int .u8) 5 _ w.heap.size _ _ ((rd_T33 l0 x4_1).f1) from Kd.V_mk ul209_1 ge209_1); clear hva_ hvn_ hvc_ ge209_1 ul209_1; clear hcc209 hce209; have HR209_0 := Aside0.mk hi209_0; have HC209_0 := Aside0.mk hl209_0; clear hi209_0 hl209_0; have HR209_1 := Aside0.mk hi209_1; have HC209_1 := Aside0.mk hl209_1; clear hi209_1 hl209_1; replace p209 := eq_true p209; replace q209 := eq_true q209))
                go_roundg k1
                case measure => have := HK1.out; omega
                case rel => exact ⟨(y206), (wrap64 (x4_1 + 1)), (by first | rfl | (simp; done) | (simp [*]; done)), H', ⟨by have := HK1.out; omega⟩, ⟨by (with_reducible repeat (first | apply Kd.V_alloc | apply Kd.V_drewN | apply Kd.V_drew)); exact HO_0.out⟩, ⟨by (with_reducible repeat (first | apply Kd.N_alloc | apply Kd.N_drewN | apply Kd.N_drew)); exact HO208.out⟩, ⟨by repeat (first | (with_reducible first | exact HB.out | apply below_alloc | apply pw_below_drewN | apply below_drew1) | exact HB.out)⟩⟩
            · rw [if_neg c5] at H
              exact absurd H (by simp)
          · rw [if_neg c4] at H
            have c4b0 : decide (0 < (((rd_T33 l0 x4_1).f0).length : Int)) = false := decide_eq_false c4
            have c4b1 : decide (0 < ((rd_T33 l0 x4_1).f0).length) = false := decide_eq_false (by omega)
            clear c4
            by_cases c11 : (((rd_T33 l0 x4_1).f1).length : Int) > 0
            · rw [if_pos c11] at H
              have c11b0 : decide (0 < (((rd_T33 l0 x4_1).f1).length : Int)) = true := decide_eq_true c11
              have c11b1 : decide (0 < ((rd_T33 l0 x4_1).f1).length) = true := decide_eq_true (by omega)
              clear c11
              by_cases c12 : x3_1.length < 3518437208883
              · rw [if_pos c12] at H
                have LMc12 := Aside0.mk c12
                clear c12
                obtain ⟨y216, hy216⟩ : ∃ y_ : List (S37), y_ = (x3_1 ++ [(⟨1, 0, (rd_T33 l0 x4_1).f1⟩ : S37)]) := ⟨_, rfl⟩
                replace H : (cuecardref10_Events.l0 k1 l0 y216 (wrap64 (x4_1 + 1))) = some r := by first | (rw [hy216]; with_reducible exact H) | (have H2_ := (Option.bind_some _ _).symm.trans H; rw [hy216]; with_reducible exact H2_) | (have H2_ := (Option.bind_some _ _).symm.trans H; with_reducible exact H2_) | with_reducible exact H | (rw [hy216]; exact H) | exact H
                have Ny216 := Aside0.mk hy216
                clear hy216
                have H' := Aside0.mk H
                clear H
                have p204 : 0 ≤ (x4_1 : Int) := of_decide_eq_true (by first | (with_reducible assumption) | assumption)
                have q204 : x4_1 < (l0.length : Int) := of_decide_eq_true (by first | (with_reducible assumption) | assumption)
                obtain ⟨ad204, A204_0, c204_0, A204_1, c204_1, e204, hx204_0, hx204_1, hl204_0, hi204_0, hl204_1, hi204_1⟩ := at_T33 (Kd.V_reads' HO_0.out).2.2 x4_1 p204 q204
                cases e204
                obtain ⟨ce204, hce204, hMe204, hcc204⟩ := Kd.V_get HO_0.out z33 x4_1 p204 (by first | exact q204 | exact of_decide_eq_true (by first | (with_reducible assumption) | assumption) | (have e_ := (Kd.V_reads' HO_0.out).1; omega))
                obtain ⟨ua204_0, uc204_0, ua204_1, uc204_1, rfl, ul204_0, ge204_0, ul204_1, ge204_1⟩ := k33_openF hMe204
                have hv204_0 := hcc204 0 _ rfl
                rw [Nat.add_zero] at hv204_0
                replace hv204_0 := Option.some.inj (hv204_0.symm.trans hx204_0)
                injection hv204_0 with hva_ hvn_ hvc_
                rw [hva_] at ge204_0
                rw [hvc_] at ul204_0
                have HL204_0 := Aside0.mk (show Kd.V (Kd.int .u8) 5 _ w.heap.size _ _ ((rd_T33 l0 x4_1).f0) from Kd.V_mk ul204_0 ge204_0)
                clear hva_ hvn_ hvc_ ge204_0 ul204_0
                have hv204_1 := hcc204 1 _ rfl
                rw [add_field _ _ 1 (by omega)] at hv204_1
                replace hv204_1 := Option.some.inj (hv204_1.symm.trans hx204_1)
                injection hv204_1 with hva_ hvn_ hvc_
                rw [hva_] at ge204_1
                rw [hvc_] at ul204_1
                have HL204_1 := Aside0.mk (show Kd.V (Kd.int .u8) 5 _ w.heap.size _ _ ((rd_T33 l0 x4_1).f1) from Kd.V_mk ul204_1 ge204_1)
                clear hva_ hvn_ hvc_ ge204_1 ul204_1
                clear hcc204 hce204
                have HR204_0 := Aside0.mk hi204_0
                have HC204_0 := Aside0.mk hl204_0
                clear hi204_0 hl204_0
                have HR204_1 := Aside0.mk hi204_1
                have HC204_1 := Aside0.mk hl204_1
                clear hi204_1 hl204_1
                replace p204 := eq_true p204
                replace q204 := eq_true q204
                have p214 : 0 ≤ (x4_1 : Int) := of_decide_eq_true (by first | (with_reducible assumption) | assumption)
                have q214 : x4_1 < (l0.length : Int) := of_decide_eq_true (by first | (with_reducible assumption) | assumption)
                obtain ⟨ad214, A214_0, c214_0, A214_1, c214_1, e214, hx214_0, hx214_1, hl214_0, hi214_0, hl214_1, hi214_1⟩ := at_T33 (Kd.V_reads' HO_0.out).2.2 x4_1 p214 q214
                obtain rfl : ad204 = ad214 := (by injection e214)
                obtain ⟨ce214, hce214, hMe214, hcc214⟩ := Kd.V_get HO_0.out z33 x4_1 p214 (by first | exact q214 | exact of_decide_eq_true (by first | (with_reducible assumption) | assumption) | (have e_ := (Kd.V_reads' HO_0.out).1; omega))
                obtain ⟨ua214_0, uc214_0, ua214_1, uc214_1, rfl, ul214_0, ge214_0, ul214_1, ge214_1⟩ := k33_openF hMe214
                have hv214_0 := hcc214 0 _ rfl
                rw [Nat.add_zero] at hv214_0
                replace hv214_0 := Option.some.inj (hv214_0.symm.trans hx214_0)
                injection hv214_0 with hva_ hvn_ hvc_
                rw [hva_] at ge214_0
                rw [hvc_] at ul214_0
                have HL214_0 := Aside0.mk (show Kd.V (Kd.int .u8) 5 _ w.heap.size _ _ ((rd_T33 l0 x4_1).f0) from Kd.V_mk ul214_0 ge214_0)
                clear hva_ hvn_ hvc_ ge214_0 ul214_0
                have hv214_1 := hcc214 1 _ rfl
                rw [add_field _ _ 1 (by omega)] at hv214_1
                replace hv214_1 := Option.some.inj (hv214_1.symm.trans hx214_1)
                injection hv214_1 with hva_ hvn_ hvc_
                rw [hva_] at ge214_1
                rw [hvc_] at ul214_1
                have HL214_1 := Aside0.mk (show Kd.V (Kd.int .u8) 5 _ w.heap.size _ _ ((rd_T33 l0 x4_1).f1) from Kd.V_mk ul214_1 ge214_1)
                clear hva_ hvn_ hvc_ ge214_1 ul214_1
                clear hcc214 hce214
                have HR214_0 := Aside0.mk hi214_0
                have HC214_0 := Aside0.mk hl214_0
                clear hi214_0 hl214_0
                have HR214_1 := Aside0.mk hi214_1
                have HC214_1 := Aside0.mk hl214_1
                clear hi214_1 hl214_1
                replace p214 := eq_true p214
                replace q214 := eq_true q214
                have ea_ := Option.some.inj (hx204_0.symm.trans hx214_0)
                injection ea_ with ea_ en_ ec_
                subst ea_
                subst ec_
                clear en_
                have ea_ := Option.some.inj (hx204_1.symm.trans hx214_1)
                injection ea_ with ea_ en_ ec_
                subst ea_
                subst ec_
                clear en_
                have p215 : 0 ≤ (x4_1 : Int) := of_decide_eq_true (by first | (with_reducible assumption) | assumption)
                have q215 : x4_1 < (l0.length : Int) := of_decide_eq_true (by first | (with_reducible assumption) | assumption)
                obtain ⟨ad215, A215_0, c215_0, A215_1, c215_1, e215, hx215_0, hx215_1, hl215_0, hi215_0, hl215_1, hi215_1⟩ := at_T33 (Kd.V_reads' HO_0.out).2.2 x4_1 p215 q215
                obtain rfl : ad204 = ad215 := (by injection e215)
                obtain ⟨ce215, hce215, hMe215, hcc215⟩ := Kd.V_get HO_0.out z33 x4_1 p215 (by first | exact q215 | exact of_decide_eq_true (by first | (with_reducible assumption) | assumption) | (have e_ := (Kd.V_reads' HO_0.out).1; omega))
                obtain ⟨ua215_0, uc215_0, ua215_1, uc215_1, rfl, ul215_0, ge215_0, ul215_1, ge215_1⟩ := k33_openF hMe215
                have hv215_0 := hcc215 0 _ rfl
                rw [Nat.add_zero] at hv215_0
                replace hv215_0 := Option.some.inj (hv215_0.symm.trans hx215_0)
                injection hv215_0 with hva_ hvn_ hvc_
                rw [hva_] at ge215_0
                rw [hvc_] at ul215_0
                have HL215_0 := Aside0.mk (show Kd.V (Kd.int .u8) 5 _ w.heap.size _ _ ((rd_T33 l0 x4_1).f0) from Kd.V_mk ul215_0 ge215_0)
                clear hva_ hvn_ hvc_ ge215_0 ul215_0
                have hv215_1 := hcc215 1 _ rfl
                rw [add_field _ _ 1 (by omega)] at hv215_1
                replace hv215_1 := Option.some.inj (hv215_1.symm.trans hx215_1)
                injection hv215_1 with hva_ hvn_ hvc_
                rw [hva_] at ge215_1
                rw [hvc_] at ul215_1
                have HL215_1 := Aside0.mk (show Kd.V (Kd.int .u8) 5 _ w.heap.size _ _ ((rd_T33 l0 x4_1).f1) from Kd.V_mk ul215_1 ge215_1)
                clear hva_ hvn_ hvc_ ge215_1 ul215_1
                clear hcc215 hce215
                have HR215_0 := Aside0.mk hi215_0
                have HC215_0 := Aside0.mk hl215_0
                clear hi215_0 hl215_0
                have HR215_1 := Aside0.mk hi215_1
                have HC215_1 := Aside0.mk hl215_1
                clear hi215_1 hl215_1
                replace p215 := eq_true p215
                replace q215 := eq_true q215
                have ea_ := Option.some.inj (hx204_0.symm.trans hx215_0)
                injection ea_ with ea_ en_ ec_
                subst ea_
                subst ec_
                clear en_
                have ea_ := Option.some.inj (hx204_1.symm.trans hx215_1)
                injection ea_ with ea_ en_ ec_
                subst ea_
                subst ec_
                clear en_
                go_wp2_with (first | ((with_reducible refine gate_builtin (b := .append) (xs := #[.tmp 34, .tmp 41]) rfl ?_); at_builtin; refine Kd.N_append k37 (w0 := w) w.heap.size rfl (.tmp 34) (.tmp 41) 22 37 (.agg #[(.int .i64 0), (.int .i64 0), (.slice none 0 0)]) 40 rfl Try.underlying22 info37 rfl (by decide) (by omega) u3 x3_1 (⟨1, 0, (rd_T33 l0 x4_1).f1⟩ : S37) [.int .i64 1, .int .i64 0, .slice A204_1 ((rd_T33 l0 x4_1).f1).length c204_1] (fun k_ => (P0_ k_ ∨ w.heap.size ≤ k_)) (fun k_ => ((fun k_ => (P0_ k_ ∨ w.heap.size ≤ k_))) k_ ∧ some k_ ≠ (u3 : Value).ownBlock) rfl rfl ?aP (fun _ hk => hk) ?aF ?aO ?aB ?aS ?aL ?_; (case aP => exact (k37_mkF _ _ (⟨1, 0, (rd_T33 l0 x4_1).f1⟩ : S37) (Kd.V_reads' (Kd.V_mono (ok' := (fun k_ => ((fun k_ => (P0_ k_ ∨ w.heap.size ≤ k_))) k_ ∧ some k_ ≠ (u3 : Value).ownBlock)) (HL215_1.out) (fun k_ hk => ⟨hk.1, hk.2⟩))).2.1 (Kd.V_F (Kd.V_mono (ok' := (fun k_ => ((fun k_ => (P0_ k_ ∨ w.heap.size ≤ k_))) k_ ∧ some k_ ≠ (u3 : Value).ownBlock)) (HL215_1.out) (fun k_ hk => ⟨hk.1, hk.2⟩))))); (case aB => exact (by repeat (first | (with_reducible first | exact HB.out | apply below_alloc | apply pw_below_drewN | apply below_drew1) | exact HB.out))); (case aF => exact (fun k_ hk => (.inr (Nat.le_trans (below_size (by repeat (first | (with_reducible first | exact HB.out | apply below_alloc | apply pw_below_drewN | apply below_drew1) | exact HB.out))) hk)))); (case aO => exact (by (with_reducible repeat (first | apply Kd.N_alloc | apply Kd.N_drewN | apply Kd.N_drew)); exact HO_3.out)); (case aS => exact (below_size (by repeat (first | (with_reducible first | exact HB.out | apply below_alloc | apply pw_below_drewN | apply below_drew1) | exact HB.out)))); (case aL => have := LMc12.out; omega); intro v217 w13 ho hb hg hat; rw [← Ny216.out] at ho; have n0_ := Aside0.mk (Kd.V_afterv (ok := (fun k_ => (P0_ k_ ∨ w.heap.size ≤ k_))) (by (with_reducible repeat (first | apply Kd.V_alloc | apply Kd.V_drewN | apply Kd.V_drew)); exact HO_0.out) hg hat); have n1_ := Aside0.mk (Kd.V_afterv (ok := (fun k_ => (P0_ k_ ∨ w.heap.size ≤ k_))) (by (with_reducible repeat (first | apply Kd.V_alloc | apply Kd.V_drewN | apply Kd.V_drew)); exact HL204_0.out) hg hat); have n2_ := Aside0.mk (Kd.V_afterv (ok := (fun k_ => (P0_ k_ ∨ w.heap.size ≤ k_))) (by (with_reducible repeat (first | apply Kd.V_alloc | apply Kd.V_drewN | apply Kd.V_drew)); exact HL204_1.out) hg hat); have n3_ := Aside0.mk (Kd.V_afterv (ok := (fun k_ => (P0_ k_ ∨ w.heap.size ≤ k_))) (by (with_reducible repeat (first | apply Kd.V_alloc | apply Kd.V_drewN | apply Kd.V_drew)); exact HL214_0.out) hg hat); have n4_ := Aside0.mk (Kd.V_afterv (ok := (fun k_ => (P0_ k_ ∨ w.heap.size ≤ k_))) (by (with_reducible repeat (first | apply Kd.V_alloc | apply Kd.V_drewN | apply Kd.V_drew)); exact HL214_1.out) hg hat); have n5_ := Aside0.mk (Kd.V_afterv (ok := (fun k_ => (P0_ k_ ∨ w.heap.size ≤ k_))) (by (with_reducible repeat (first | apply Kd.V_alloc | apply Kd.V_drewN | apply Kd.V_drew)); exact HL215_0.out) hg hat); have n6_ := Aside0.mk (Kd.V_afterv (ok := (fun k_ => (P0_ k_ ∨ w.heap.size ≤ k_))) (by (with_reducible repeat (first | apply Kd.V_alloc | apply Kd.V_drewN | apply Kd.V_drew)); exact HL215_1.out) hg hat); have n7_ := Aside0.mk (hb); have n8_ := Aside0.mk (ho); clear HO_0; clear HL204_0; clear HL204_1; clear HL214_0; clear HL214_1; clear HL215_0; clear HL215_1; clear HB; clear HO_3; have HO_0 := n0_; have HL204_0 := n1_; have HL204_1 := n2_; have HL214_0 := n3_; have HL214_1 := n4_; have HL215_0 := n5_; have HL215_1 := n6_; have HB := n7_; have HO218 := n8_; clear n0_ n1_ n2_ n3_ n4_ n5_ n6_ n7_ n8_; clear ho hb hg hat))
                go_roundg k1
                case measure => have := HK1.out; omega
                case rel => exact ⟨(y216), (wrap64 (x4_1 + 1)), (by first | rfl | (simp; done) | (simp [*]; done)), H', ⟨by have := HK1.out; omega⟩, ⟨by (with_reducible repeat (first | apply Kd.V_alloc | apply Kd.V_drewN | apply Kd.V_drew)); exact HO_0.out⟩, ⟨by (with_reducible repeat (first | apply Kd.N_alloc | apply Kd.N_drewN | apply Kd.N_drew)); exact HO218.out⟩, ⟨by repeat (first | (with_reducible first | exact HB.out | apply below_alloc | apply pw_below_drewN | apply below_drew1) | exact HB.out)⟩⟩
              · rw [if_neg c12] at H
                exact absurd H (by simp)
            · rw [if_neg c11] at H
              have c11b0 : decide (0 < (((rd_T33 l0 x4_1).f1).length : Int)) = false := decide_eq_false c11
              have c11b1 : decide (0 < ((rd_T33 l0 x4_1).f1).length) = false := decide_eq_false (by omega)
              clear c11
              have H' := Aside0.mk H
              clear H
              have p204 : 0 ≤ (x4_1 : Int) := of_decide_eq_true (by first | (with_reducible assumption) | assumption)
              have q204 : x4_1 < (l0.length : Int) := of_decide_eq_true (by first | (with_reducible assumption) | assumption)
              obtain ⟨ad204, A204_0, c204_0, A204_1, c204_1, e204, hx204_0, hx204_1, hl204_0, hi204_0, hl204_1, hi204_1⟩ := at_T33 (Kd.V_reads' HO_0.out).2.2 x4_1 p204 q204
              cases e204
              obtain ⟨ce204, hce204, hMe204, hcc204⟩ := Kd.V_get HO_0.out z33 x4_1 p204 (by first | exact q204 | exact of_decide_eq_true (by first | (with_reducible assumption) | assumption) | (have e_ := (Kd.V_reads' HO_0.out).1; omega))
              obtain ⟨ua204_0, uc204_0, ua204_1, uc204_1, rfl, ul204_0, ge204_0, ul204_1, ge204_1⟩ := k33_openF hMe204
              have hv204_0 := hcc204 0 _ rfl
              rw [Nat.add_zero] at hv204_0
              replace hv204_0 := Option.some.inj (hv204_0.symm.trans hx204_0)
              injection hv204_0 with hva_ hvn_ hvc_
              rw [hva_] at ge204_0
              rw [hvc_] at ul204_0
              have HL204_0 := Aside0.mk (show Kd.V (Kd.int .u8) 5 _ w.heap.size _ _ ((rd_T33 l0 x4_1).f0) from Kd.V_mk ul204_0 ge204_0)
              clear hva_ hvn_ hvc_ ge204_0 ul204_0
              have hv204_1 := hcc204 1 _ rfl
              rw [add_field _ _ 1 (by omega)] at hv204_1
              replace hv204_1 := Option.some.inj (hv204_1.symm.trans hx204_1)
              injection hv204_1 with hva_ hvn_ hvc_
              rw [hva_] at ge204_1
              rw [hvc_] at ul204_1
              have HL204_1 := Aside0.mk (show Kd.V (Kd.int .u8) 5 _ w.heap.size _ _ ((rd_T33 l0 x4_1).f1) from Kd.V_mk ul204_1 ge204_1)
              clear hva_ hvn_ hvc_ ge204_1 ul204_1
              clear hcc204 hce204
              have HR204_0 := Aside0.mk hi204_0
              have HC204_0 := Aside0.mk hl204_0
              clear hi204_0 hl204_0
              have HR204_1 := Aside0.mk hi204_1
              have HC204_1 := Aside0.mk hl204_1
              clear hi204_1 hl204_1
              replace p204 := eq_true p204
              replace q204 := eq_true q204
              have p214 : 0 ≤ (x4_1 : Int) := of_decide_eq_true (by first | (with_reducible assumption) | assumption)
              have q214 : x4_1 < (l0.length : Int) := of_decide_eq_true (by first | (with_reducible assumption) | assumption)
              obtain ⟨ad214, A214_0, c214_0, A214_1, c214_1, e214, hx214_0, hx214_1, hl214_0, hi214_0, hl214_1, hi214_1⟩ := at_T33 (Kd.V_reads' HO_0.out).2.2 x4_1 p214 q214
              obtain rfl : ad204 = ad214 := (by injection e214)
              obtain ⟨ce214, hce214, hMe214, hcc214⟩ := Kd.V_get HO_0.out z33 x4_1 p214 (by first | exact q214 | exact of_decide_eq_true (by first | (with_reducible assumption) | assumption) | (have e_ := (Kd.V_reads' HO_0.out).1; omega))
              obtain ⟨ua214_0, uc214_0, ua214_1, uc214_1, rfl, ul214_0, ge214_0, ul214_1, ge214_1⟩ := k33_openF hMe214
              have hv214_0 := hcc214 0 _ rfl
              rw [Nat.add_zero] at hv214_0
              replace hv214_0 := Option.some.inj (hv214_0.symm.trans hx214_0)
              injection hv214_0 with hva_ hvn_ hvc_
              rw [hva_] at ge214_0
              rw [hvc_] at ul214_0
              have HL214_0 := Aside0.mk (show Kd.V (Kd.int .u8) 5 _ w.heap.size _ _ ((rd_T33 l0 x4_1).f0) from Kd.V_mk ul214_0 ge214_0)
              clear hva_ hvn_ hvc_ ge214_0 ul214_0
              have hv214_1 := hcc214 1 _ rfl
              rw [add_field _ _ 1 (by omega)] at hv214_1
              replace hv214_1 := Option.some.inj (hv214_1.symm.trans hx214_1)
              injection hv214_1 with hva_ hvn_ hvc_
              rw [hva_] at ge214_1
              rw [hvc_] at ul214_1
              have HL214_1 := Aside0.mk (show Kd.V (Kd.int .u8) 5 _ w.heap.size _ _ ((rd_T33 l0 x4_1).f1) from Kd.V_mk ul214_1 ge214_1)
              clear hva_ hvn_ hvc_ ge214_1 ul214_1
              clear hcc214 hce214
              have HR214_0 := Aside0.mk hi214_0
              have HC214_0 := Aside0.mk hl214_0
              clear hi214_0 hl214_0
              have HR214_1 := Aside0.mk hi214_1
              have HC214_1 := Aside0.mk hl214_1
              clear hi214_1 hl214_1
              replace p214 := eq_true p214
              replace q214 := eq_true q214
              have ea_ := Option.some.inj (hx204_0.symm.trans hx214_0)
              injection ea_ with ea_ en_ ec_
              subst ea_
              subst ec_
              clear en_
              have ea_ := Option.some.inj (hx204_1.symm.trans hx214_1)
              injection ea_ with ea_ en_ ec_
              subst ea_
              subst ec_
              clear en_
              go_wp2
              go_roundg k1
              case measure => have := HK1.out; omega
              case rel => exact ⟨(x3_1), (wrap64 (x4_1 + 1)), (by first | rfl | (simp; done) | (simp [*]; done)), H', ⟨by have := HK1.out; omega⟩, ⟨by (with_reducible repeat (first | apply Kd.V_alloc | apply Kd.V_drewN | apply Kd.V_drew)); exact HO_0.out⟩, ⟨by (with_reducible repeat (first | apply Kd.N_alloc | apply Kd.N_drewN | apply Kd.N_drew)); exact HO_3.out⟩, ⟨by repeat (first | (with_reducible first | exact HB.out | apply below_alloc | apply pw_below_drewN | apply below_drew1) | exact HB.out)⟩⟩
        · rw [if_neg c3] at H
          exact absurd H (by simp)
      · rw [if_neg c2] at H
        have c2b0 : decide (x4_1 < (l0.length : Int)) = false := decide_eq_false c2
        clear c2
        obtain rfl := Option.some.inj H
        go_wp2
        go_ret
        exact ⟨_, by first | rfl | (simp [errW_none, errW_some] <;> rfl) | (simp [*, errW_none, errW_some] <;> rfl), by (with_reducible repeat (first | apply Kd.N_alloc | apply Kd.N_drewN | apply Kd.N_drew)); exact HO_3.out, by repeat (first | (with_reducible first | exact HB.out | apply below_alloc | apply pw_below_drewN | apply below_drew1) | exact HB.out)⟩

end Go.Proofs.Ytjcaflhlilckgaa.QA
