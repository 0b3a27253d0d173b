-- Written for this claim by a program of this session's, out of Lean's own print of the program; Lean checks it.
import Derived.Test.YtdeoingjkomdcaaQAx0
import Derived.Test.YtdeoingjkomdcaaQAx5
namespace Go.Proofs.Ytdeoingjkomdcaa.QA
open Go.RowKit Go.Proofs.YtdeoingjkomdcaaW.PrintWords Go.Proofs.YtdeoingjkomdcaaW.PrintLast Go.Proofs.YtdeoingjkomdcaaW.PrintMore
attribute [local go_sem] max2_int min2_int max_two min_two max_three min_three max_four min_four   -- for this text's walks alone
set_option linter.unusedVariables false
set_option linter.unusedSimpArgs false

/-! ### cuecardref09_Shortest: function 11 -/
mutual
def cuecardref09_Shortest.l0 : Nat → List Int → Int → Option (Int)
  | 0, _, _ => none
  | k + 1, x0, x3 => if x3 ≤ (x0.length : Int) then (if 0 ≤ (wrap64 ((x0.length : Int) - x3)) then (if (wrap64 ((x0.length : Int) - x3)) ≤ (x0.length : Int) then (cuecardref09_Shortest.l1 k x0 x3 (x0.drop ((wrap64 ((x0.length : Int) - x3)) : Int).toNat) 0 0) else (none)) else (none)) else (some 0)
def cuecardref09_Shortest.l1 : Nat → List Int → Int → List Int → Int → Int → Option (Int)
  | 0, _, _, _, _, _ => none
  | k + 1, x0, x3, x4, x5, x6 => if x6 < (x0.length : Int) then ((cuecardref09_at.f x0 x4 x6).bind fun t158 => (if t158 = true then (cuecardref09_Shortest.l1 k x0 x3 x4 (wrap64 (x5 + 1)) (wrap64 (x6 + 1))) else (cuecardref09_Shortest.l1 k x0 x3 x4 x5 (wrap64 (x6 + 1))))) else (if x5 = 1 then (some x3) else (cuecardref09_Shortest.l0 k x0 (wrap64 (x3 + 1))))
end
def cuecardref09_Shortest.f (k : Nat) (l0 : List Int) : Option (Int) := cuecardref09_Shortest.l0 k l0 1
theorem cuecardref09_Shortest.mono_l : ∀ k, (∀ y0 y1, LeO (cuecardref09_Shortest.l0 k y0 y1) (cuecardref09_Shortest.l0 (k + 1) y0 y1)) ∧ (∀ y0 y1 y2 y3 y4, LeO (cuecardref09_Shortest.l1 k y0 y1 y2 y3 y4) (cuecardref09_Shortest.l1 (k + 1) y0 y1 y2 y3 y4))
  | 0 => ⟨fun _ _ r h => by simp [cuecardref09_Shortest.l0] at h, fun _ _ _ _ _ r h => by simp [cuecardref09_Shortest.l1] at h⟩
  | k + 1 => by
    obtain ⟨ih0, ih1⟩ := cuecardref09_Shortest.mono_l k
    refine ⟨?_, ?_⟩
    · intro y0 y1
      unfold cuecardref09_Shortest.l0
      repeat' first
      | (with_reducible exact ih0 _ _)
      | (with_reducible exact ih1 _ _ _ _ _)
      | (with_reducible exact LeO.refl _)
      | (with_reducible exact LeO.none _)
      | (with_reducible refine LeO.ite ?_ ?_)
      | (with_reducible refine LeO.bind ?_ (fun _ => ?_))
      | exact ih0 _ _
      | exact ih1 _ _ _ _ _
      | exact LeO.none _
      | refine LeO.ite ?_ ?_
      | refine LeO.bind ?_ (fun _ => ?_)
    · intro y0 y1 y2 y3 y4
      unfold cuecardref09_Shortest.l1
      repeat' first
      | (with_reducible exact ih0 _ _)
      | (with_reducible exact ih1 _ _ _ _ _)
      | (with_reducible exact LeO.refl _)
      | (with_reducible exact LeO.none _)
      | (with_reducible refine LeO.ite ?_ ?_)
      | (with_reducible refine LeO.bind ?_ (fun _ => ?_))
      | exact ih0 _ _
      | exact ih1 _ _ _ _ _
      | exact LeO.none _
      | refine LeO.ite ?_ ?_
      | refine LeO.bind ?_ (fun _ => ?_)
theorem cuecardref09_Shortest.mono : ∀ a0 k, LeO (cuecardref09_Shortest.f k a0) (cuecardref09_Shortest.f (k + 1) a0) := by
  intro a0 k
  obtain ⟨ih0, ih1⟩ := cuecardref09_Shortest.mono_l k
  unfold cuecardref09_Shortest.f
  repeat' first
      | (with_reducible exact ih0 _ _)
      | (with_reducible exact ih1 _ _ _ _ _)
      | (with_reducible exact LeO.refl _)
      | (with_reducible exact LeO.none _)
      | (with_reducible refine LeO.ite ?_ ?_)
      | (with_reducible refine LeO.bind ?_ (fun _ => ?_))
      | exact ih0 _ _
      | exact ih1 _ _ _ _ _
      | exact LeO.none _
      | refine LeO.ite ?_ ?_
      | refine LeO.bind ?_ (fun _ => ?_)
set_option maxHeartbeats 8000000 in
set_option maxRecDepth 100000 in
theorem cuecardref09_Shortest.calls (k : Nat) (A0 : Option Addr) (c0 : Nat) (l0 : List Int) (r : Int) (w : World) (hr0 : Kd.C (Kd.int .u8) w A0 l0.length l0) (hc0 : l0.length ≤ c0) (h : cuecardref09_Shortest.f k l0 = some r) :
    Calls Try.prog 11 #[.slice A0 l0.length c0] w fun e w' => e = .returned (.int .i64 r) ∧ Below w.heap.size w w' := by
  have HR0 := Aside0.mk hr0
  have HC0 := Aside0.mk hc0
  clear hr0 hc0
  have HB := Aside0.mk (Below.refl w.heap.size w)
  have H : (cuecardref09_Shortest.l0 k l0 1) = some r := h
  clear h
  have H' := Aside0.mk H
  clear H
  go_enter Try.func11, Try.ntmps11
  go_wp2
  go_loopg [3] k (fun kq v3 w' => ∃ (x3_1 : Int), v3 = .int .i64 x3_1 ∧ Aside0 (cuecardref09_Shortest.l0 kq l0 x3_1 = some r) ∧ Aside0 (kq ≤ k) ∧ Aside0 (Below w.heap.size w w'))
  case atStart => exact ⟨(1), (by first | rfl | (simp; done) | (simp [*]; done)), H', ⟨Nat.le_refl _⟩, ⟨by repeat (first | (with_reducible first | exact HB.out | apply below_alloc | apply pw_below_drewN | apply below_drew1) | exact HB.out)⟩⟩
  case round =>
    clear H'
    try clear c1
    obtain ⟨x3_1, rfl, HA, HK1, HB⟩ := hrel
    cases gk with
    | zero => exact absurd HA.out (by simp [cuecardref09_Shortest.l0])
    | succ k1 =>
      have H := HA.out
      clear HA
      simp only [cuecardref09_Shortest.l0] at H
      by_cases c2 : x3_1 ≤ (l0.length : Int)
      · rw [if_pos c2] at H
        have c2b0 : decide (x3_1 ≤ (l0.length : Int)) = true := decide_eq_true c2
        clear c2
        obtain ⟨ji3, hji3⟩ : ∃ j_ : Int, (wrap64 ((l0.length : Int) - x3_1)) = j_ := ⟨_, rfl⟩
        replace H : (if 0 ≤ (ji3) then (if (ji3) ≤ (l0.length : Int) then (cuecardref09_Shortest.l1 k1 l0 x3_1 (l0.drop ((ji3) : Int).toNat) 0 0) else (none)) else (none)) = some r := by first | (rw [hji3] at H; exact H) | (simp only [hji3] at H ⊢; exact H)
        have hji3w : (IntKind.i64.wrap ((l0.length : Int) - x3_1)) = ji3 := (i64_w _).trans hji3
        by_cases c4 : 0 ≤ (ji3)
        · rw [if_pos c4] at H
          have c4b0 := eq_true c4
          have c4b1 : decide (0 ≤ (ji3)) = true := decide_eq_true c4
          clear c4
          by_cases c5 : (ji3) ≤ (l0.length : Int)
          · rw [if_pos c5] at H
            have c5b0 := eq_true c5
            have c5b1 : decide ((ji3) ≤ (l0.length : Int)) = true := decide_eq_true c5
            clear c5
            obtain ⟨y154, hy154⟩ : ∃ y_ : List Int, y_ = (l0.drop ((ji3) : Int).toNat) := ⟨_, rfl⟩
            replace H : (cuecardref09_Shortest.l1 k1 l0 x3_1 y154 0 0) = some r := by first | (rw [hy154]; with_reducible exact H) | (have H2_ := (Option.bind_some _ _).symm.trans H; rw [hy154]; with_reducible exact H2_) | (have H2_ := (Option.bind_some _ _).symm.trans H; with_reducible exact H2_) | with_reducible exact H | (rw [hy154]; exact H) | exact H
            have Ny154 := Aside0.mk hy154
            clear hy154
            have H' := Aside0.mk H
            clear H
            have q6 : ((ji3) : Int) ≤ ((l0.length : Int) : Int) := of_decide_eq_true (by first | (with_reducible assumption) | assumption)
            obtain ⟨i06, hi06, _, hsz6, _⟩ := info_parts info5
            have hroom6 : l0.length ≤ c0 := HC0.out
            have hC6 : Kd.C (Kd.int .u8) _ A0 l0.length l0 := HR0.out
            have q06 : (0 : Int) ≤ ((ji3) : Int) := of_decide_eq_true (by first | (with_reducible assumption) | assumption)
            have hcut6 := cut_from (P := Try.prog) 22 5 .i64 Try.underlying22 hi06 1 hsz6 A0 l0.length c0 (ji3) q06 q6
            have hr6 := Kd.C_drop (m := ((ji3) : Int).toNat) (c := c0) hC6 (by omega) hroom6
            obtain ⟨A6, hA6⟩ : ∃ A1, A1 = (if c0 = ((ji3) : Int).toNat then A0 else (A0 : Option Addr).map (·.add (((ji3) : Int).toNat * 1))) := ⟨_, rfl⟩
            obtain ⟨c6, hc6⟩ : ∃ c1, c1 = c0 - ((ji3) : Int).toNat := ⟨_, rfl⟩
            have hy6 : y154.length = l0.length - ((ji3) : Int).toNat := (by rw [Ny154.out, List.length_drop] <;> omega)
            rw [show (l0).drop ((ji3) : Int).toNat = y154 from Ny154.out.symm] at hr6
            replace hr6 : Kd.C (Kd.int .u8) _ A6 y154.length y154 := (by rw [hA6]; exact hr6)
            rw [← hy6, ← hA6, ← hc6] at hcut6
            have HR157 := Aside0.mk hr6
            have HC157 := Aside0.mk (show y154.length ≤ c6 from by rw [hy6, hc6]; exact Nat.sub_le_sub_right hroom6 _)
            clear hr6 hC6 hroom6 hi06 hsz6 hc6
            have KY6 := Aside0.mk hy6
            have KA6 := Aside0.mk hA6
            clear hy6 hA6
            replace q6 := eq_true q6
            go_wp2
            go_loopg [5, 6] k1 (fun kq v5 v6 w' => ∃ (x5_2 : Int) (x6_2 : Int), v5 = .int .i64 x5_2 ∧ v6 = .int .i64 x6_2 ∧ Aside0 (cuecardref09_Shortest.l1 kq l0 x3_1 y154 x5_2 x6_2 = some r) ∧ Aside0 (kq ≤ k1) ∧ Aside0 (Below w.heap.size w w'))
            case atStart => exact ⟨(0), (0), (by first | rfl | (simp; done) | (simp [*]; done)), (by first | rfl | (simp; done) | (simp [*]; done)), H', ⟨Nat.le_refl _⟩, ⟨by repeat (first | (with_reducible first | exact HB.out | apply below_alloc | apply pw_below_drewN | apply below_drew1) | exact HB.out)⟩⟩
            case round =>
              clear H'
              try clear c1
              try clear c2
              try clear c2b0
              try clear p2
              try clear c4
              try clear c4b0
              try clear c4b1
              try clear c5
              try clear c5b0
              try clear c5b1
              try clear c6
              try clear p6
              try clear q6
              try clear q06
              try clear q6
              obtain ⟨x5_2, x6_2, rfl, rfl, HA, HK2, HB⟩ := hrel
              cases gk with
              | zero => exact absurd HA.out (by simp [cuecardref09_Shortest.l1])
              | succ k2 =>
                have H := HA.out
                clear HA
                simp only [cuecardref09_Shortest.l1] at H
                by_cases c7 : x6_2 < (l0.length : Int)
                · rw [if_pos c7] at H
                  have c7b0 : decide (x6_2 < (l0.length : Int)) = true := decide_eq_true c7
                  clear c7
                  replace H := Option.bind_eq_some_iff.mp H
                  obtain ⟨t158, A80, H⟩ := H
                  replace H : (if t158 = true then (cuecardref09_Shortest.l1 k2 l0 x3_1 y154 (wrap64 (x5_2 + 1)) (wrap64 (x6_2 + 1))) else (cuecardref09_Shortest.l1 k2 l0 x3_1 y154 x5_2 (wrap64 (x6_2 + 1)))) = some r := H
                  have A8 := Aside0.mk A80
                  clear A80
                  by_cases c9 : t158 = true
                  · subst c9
                    have H1 : (cuecardref09_Shortest.l1 k2 l0 x3_1 y154 (wrap64 (x5_2 + 1)) (wrap64 (x6_2 + 1))) = some r := by rw [if_pos rfl] at H; exact H
                    clear H
                    have H := H1
                    clear H1
                    have H' := Aside0.mk H
                    clear H
                    go_wp2_with (first | ((with_reducible refine gate_callee (f := 19) rfl ?_); refine goesL_ (some 29) rfl rfl Try.func19 (by kernel_rfl) rfl #[.slice A0 l0.length c0, .slice A6 y154.length c6, .int .i64 x6_2] rfl (by (try simp only [List.map_toArray, List.map_cons, List.map_nil]); first | done | rfl | (simp only [List.length_drop, List.length_take]; rfl)) ?_; (with_reducible refine (cuecardref09_at.calls _ _ l0 _ _ y154 x6_2 true _ ?side1 ?side2 ?side3 ?side4 A8.out).mono ?_); (case side1 => repeat (first | exact (Kd.C_below HR0.out HB.out) | (with_reducible refine Kd.C_alloc ?_ _) | (with_reducible refine Kd.C_drewN ?_ _) | (with_reducible refine Kd.C_drew ?_))); (case side2 => exact HC0.out); (case side3 => repeat (first | exact (Kd.C_below HR157.out HB.out) | (with_reducible refine Kd.C_alloc ?_ _) | (with_reducible refine Kd.C_drewN ?_ _) | (with_reducible refine Kd.C_drew ?_))); (case side4 => exact HC157.out); rintro e w10 ⟨rfl, hb⟩; refine ⟨_, rfl, ?_⟩; have n0_ := Aside0.mk (below_step (by repeat (first | (with_reducible first | exact HB.out | apply below_alloc | apply pw_below_drewN | apply below_drew1) | exact HB.out)) hb); clear HB; have HB := n0_; clear n0_; (try clear hb); (try clear hb2); (try clear hk); (try clear hi)))
                    go_roundg k2
                    case measure => have := HK1.out; have := HK2.out; omega
                    case rel => exact ⟨(wrap64 (x5_2 + 1)), (wrap64 (x6_2 + 1)), (by first | rfl | (simp; done) | (simp [*]; done)), (by first | rfl | (simp; done) | (simp [*]; done)), H', ⟨by have := HK1.out; have := HK2.out; omega⟩, ⟨by repeat (first | (with_reducible first | exact HB.out | apply below_alloc | apply pw_below_drewN | apply below_drew1) | exact HB.out)⟩⟩
                  · replace c9 := Bool.eq_false_iff.mpr c9
                    subst c9
                    have H1 : (cuecardref09_Shortest.l1 k2 l0 x3_1 y154 x5_2 (wrap64 (x6_2 + 1))) = some r := by rw [if_neg (show ¬ (false = true) by decide)] at H; exact H
                    clear H
                    have H := H1
                    clear H1
                    have H' := Aside0.mk H
                    clear H
                    go_wp2_with (first | ((with_reducible refine gate_callee (f := 19) rfl ?_); refine goesL_ (some 29) rfl rfl Try.func19 (by kernel_rfl) rfl #[.slice A0 l0.length c0, .slice A6 y154.length c6, .int .i64 x6_2] rfl (by (try simp only [List.map_toArray, List.map_cons, List.map_nil]); first | done | rfl | (simp only [List.length_drop, List.length_take]; rfl)) ?_; (with_reducible refine (cuecardref09_at.calls _ _ l0 _ _ y154 x6_2 false _ ?side1 ?side2 ?side3 ?side4 A8.out).mono ?_); (case side1 => repeat (first | exact (Kd.C_below HR0.out HB.out) | (with_reducible refine Kd.C_alloc ?_ _) | (with_reducible refine Kd.C_drewN ?_ _) | (with_reducible refine Kd.C_drew ?_))); (case side2 => exact HC0.out); (case side3 => repeat (first | exact (Kd.C_below HR157.out HB.out) | (with_reducible refine Kd.C_alloc ?_ _) | (with_reducible refine Kd.C_drewN ?_ _) | (with_reducible refine Kd.C_drew ?_))); (case side4 => exact HC157.out); rintro e w11 ⟨rfl, hb⟩; refine ⟨_, rfl, ?_⟩; have n0_ := Aside0.mk (below_step (by repeat (first | (with_reducible first | exact HB.out | apply below_alloc | apply pw_below_drewN | apply below_drew1) | exact HB.out)) hb); clear HB; have HB := n0_; clear n0_; (try clear hb); (try clear hb2); (try clear hk); (try clear hi)))
                    go_roundg k2
                    case measure => have := HK1.out; have := HK2.out; omega
                    case rel => exact ⟨(x5_2), (wrap64 (x6_2 + 1)), (by first | rfl | (simp; done) | (simp [*]; done)), (by first | rfl | (simp; done) | (simp [*]; done)), H', ⟨by have := HK1.out; have := HK2.out; omega⟩, ⟨by repeat (first | (with_reducible first | exact HB.out | apply below_alloc | apply pw_below_drewN | apply below_drew1) | exact HB.out)⟩⟩
                · rw [if_neg c7] at H
                  have c7b0 : decide (x6_2 < (l0.length : Int)) = false := decide_eq_false c7
                  clear c7
                  by_cases c12 : x5_2 = 1
                  · rw [if_pos c12] at H
                    have c12b0 : (x5_2 == 1) = true := beq_iff_eq.mpr c12
                    have c12b1 : (x5_2 != 1) = false := bne_eq_false_iff_eq.mpr c12
                    clear c12
                    obtain rfl := Option.some.inj H
                    go_wp2
                    go_ret
                    exact ⟨by first | rfl | (simp [errW_none, errW_some] <;> rfl) | (simp only [← hji3]; first | rfl | (simp [errW_none, errW_some] <;> rfl)) | (simp [*, errW_none, errW_some] <;> rfl), by repeat (first | (with_reducible first | exact HB.out | apply below_alloc | apply pw_below_drewN | apply below_drew1) | exact HB.out)⟩
                  · rw [if_neg c12] at H
                    have c12b0 : (x5_2 == 1) = false := beq_eq_false_iff_ne.mpr c12
                    have c12b1 : (x5_2 != 1) = true := bne_iff_ne.mpr c12
                    have H' := Aside0.mk H
                    clear H
                    go_wp2
                    go_roundg k2
                    case measure => have := HK1.out; have := HK2.out; omega
                    case rel => exact ⟨(wrap64 (x3_1 + 1)), (by first | rfl | (simp; done) | (simp [*]; done)), H', ⟨by have := HK1.out; have := HK2.out; omega⟩, ⟨by repeat (first | (with_reducible first | exact HB.out | apply below_alloc | apply pw_below_drewN | apply below_drew1) | exact HB.out)⟩⟩
          · rw [if_neg c5] at H
            exact absurd H (by simp)
        · rw [if_neg c4] at H
          exact absurd H (by simp)
      · rw [if_neg c2] at H
        have c2b0 : decide (x3_1 ≤ (l0.length : Int)) = false := decide_eq_false c2
        clear c2
        obtain rfl := Option.some.inj H
        go_wp2
        go_ret
        exact ⟨by first | rfl | (simp [errW_none, errW_some] <;> rfl) | (simp [*, errW_none, errW_some] <;> rfl), by repeat (first | (with_reducible first | exact HB.out | apply below_alloc | apply pw_below_drewN | apply below_drew1) | exact HB.out)⟩

end Go.Proofs.Ytdeoingjkomdcaa.QA
