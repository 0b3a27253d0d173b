-- Written for this claim by a program of this session's, out of Lean's own print of the program; Lean checks it.
import Derived.Test.YtdeoingjkomdcaaQAx0
import Derived.Test.YtdeoingjkomdcaaQAx4
import Derived.Test.YtdeoingjkomdcaaGAlive
namespace Go.Proofs.Ytdeoingjkomdcaa.QA
open Go.RowKit Go.Proofs.YtdeoingjkomdcaaW.PrintWords Go.Proofs.YtdeoingjkomdcaaW.PrintLast Go.Proofs.YtdeoingjkomdcaaW.PrintMore
attribute [local go_sem] max2_int min2_int max_two min_two max_three min_three max_four min_four   -- for this text's walks alone
set_option linter.unusedVariables false
set_option linter.unusedSimpArgs false

/-! ### cuecardlaw09_TailWhole: function 6 -/
def cuecardlaw09_TailWhole.l0 : Nat → List Int → Int → List (List Int) → ByteArray → List (List Int) → Int → Int → Option (Bool)
  | 0, _, _, _, _, _, _, _ => none
  | k + 1, x0, x5, x6, x8, x28, x29, x30 => if x30 < x29 then (if 0 ≤ x30 then (if x30 < (x28.length : Int) then (if x8.size + (strOfNums (rd_L2 x28 x30)).size ≤ 9223372036854775807 then (if (wrap64 (x30 + 1)) < (x6.length : Int) then (if ((rd_L2 x28 x30).length : Int) = x5 then (cuecardlaw09_TailWhole.l0 k x0 x5 x6 (x8 ++ (strOfNums (rd_L2 x28 x30))) x28 x29 (wrap64 (x30 + 1))) else (some false)) else (cuecardlaw09_TailWhole.l0 k x0 x5 x6 (x8 ++ (strOfNums (rd_L2 x28 x30))) x28 x29 (wrap64 (x30 + 1)))) else (none)) else (none)) else (none)) else (if (x8.size : Int) > (x0.length : Int) then (some false) else (if 0 ≤ (wrap64 ((x0.length : Int) - (x8.size : Int))) then (if (wrap64 ((x0.length : Int) - (x8.size : Int))) ≤ (x0.length : Int) then (if (strOfNums (x0.drop ((wrap64 ((x0.length : Int) - (x8.size : Int))) : Int).toNat)).toList = x8.toList then ((cuecardlaw09_alive.f k).bind fun t273 => (if t273 = true then (if (x6.length : Int) < 2 then (some true) else (some ((x8.size : Int) == (x0.length : Int)))) else (some false))) else (some false)) else (none)) else (none)))
def cuecardlaw09_TailWhole.f (k : Nat) (l0 : List Int) (a1 : Int) : Option (Bool) := if 0 ≤ (mn (l0.length : Int) 200) then (if (mn (l0.length : Int) 200) ≤ (l0.length : Int) then ((some (l0.take ((mn (l0.length : Int) 200) : Int).toNat : List Int)).bind fun y260 => ((tail_Pieces.f k y260 (1 + ((mx 0 a1) % 40))).bind fun bt264 => (if bt264.2 = 0 then (cuecardlaw09_TailWhole.l0 k y260 (1 + ((mx 0 a1) % 40)) bt264.1 (⟨#[]⟩ : ByteArray) bt264.1 (bt264.1.length : Int) 0) else (some false)))) else (none)) else (none)
theorem cuecardlaw09_TailWhole.mono_l : ∀ k, (∀ y0 y1 y2 y3 y4 y5 y6, LeO (cuecardlaw09_TailWhole.l0 k y0 y1 y2 y3 y4 y5 y6) (cuecardlaw09_TailWhole.l0 (k + 1) y0 y1 y2 y3 y4 y5 y6))
  | 0 => fun _ _ _ _ _ _ _ r h => by simp [cuecardlaw09_TailWhole.l0] at h
  | k + 1 => by
    have ih0 := cuecardlaw09_TailWhole.mono_l k
    · intro y0 y1 y2 y3 y4 y5 y6
      unfold cuecardlaw09_TailWhole.l0
      repeat' first
      | (with_reducible exact ih0 _ _ _ _ _ _ _)
      | (with_reducible exact cuecardlaw09_alive.mono _)
      | (with_reducible exact tail_Pieces.mono _ _ _)
      | (with_reducible exact LeO.refl _)
      | (with_reducible exact LeO.none _)
      | (with_reducible refine LeO.ite ?_ ?_)
      | (with_reducible refine LeO.bind ?_ (fun _ => ?_))
      | exact ih0 _ _ _ _ _ _ _
      | exact cuecardlaw09_alive.mono _
      | exact tail_Pieces.mono _ _ _
      | exact LeO.none _
      | refine LeO.ite ?_ ?_
      | refine LeO.bind ?_ (fun _ => ?_)
theorem cuecardlaw09_TailWhole.mono : ∀ a0 a1 k, LeO (cuecardlaw09_TailWhole.f k a0 a1) (cuecardlaw09_TailWhole.f (k + 1) a0 a1) := by
  intro a0 a1 k
  have ih0 := cuecardlaw09_TailWhole.mono_l k
  unfold cuecardlaw09_TailWhole.f
  repeat' first
      | (with_reducible exact ih0 _ _ _ _ _ _ _)
      | (with_reducible exact cuecardlaw09_alive.mono _)
      | (with_reducible exact tail_Pieces.mono _ _ _)
      | (with_reducible exact LeO.refl _)
      | (with_reducible exact LeO.none _)
      | (with_reducible refine LeO.ite ?_ ?_)
      | (with_reducible refine LeO.bind ?_ (fun _ => ?_))
      | exact ih0 _ _ _ _ _ _ _
      | exact cuecardlaw09_alive.mono _
      | exact tail_Pieces.mono _ _ _
      | exact LeO.none _
      | refine LeO.ite ?_ ?_
      | refine LeO.bind ?_ (fun _ => ?_)
set_option maxHeartbeats 8000000 in
set_option maxRecDepth 100000 in
theorem cuecardlaw09_TailWhole.calls (k : Nat) (A0 : Option Addr) (c0 : Nat) (l0 : List Int) (a1 : Int) (r : Bool) (w : World) (hr0 : Kd.C (Kd.int .u8) w A0 l0.length l0) (hc0 : l0.length ≤ c0) (h : cuecardlaw09_TailWhole.f k l0 a1 = some r) :
    Calls Try.prog 6 #[.slice A0 l0.length c0, .int .i64 a1] w fun e w' => e = .returned (.bool r) ∧ Below w.heap.size w w' := by
  have HR0 := Aside0.mk hr0
  have HC0 := Aside0.mk hc0
  clear hr0 hc0
  have HB := Aside0.mk (Below.refl w.heap.size w)
  have H : (if 0 ≤ (mn (l0.length : Int) 200) then (if (mn (l0.length : Int) 200) ≤ (l0.length : Int) then ((some (l0.take ((mn (l0.length : Int) 200) : Int).toNat : List Int)).bind fun y260 => ((tail_Pieces.f k y260 (1 + ((mx 0 a1) % 40))).bind fun bt264 => (if bt264.2 = 0 then (cuecardlaw09_TailWhole.l0 k y260 (1 + ((mx 0 a1) % 40)) bt264.1 (⟨#[]⟩ : ByteArray) bt264.1 (bt264.1.length : Int) 0) else (some false)))) else (none)) else (none)) = some r := h
  clear h
  obtain ⟨ji3, hji3⟩ : ∃ j_ : Int, (mn (l0.length : Int) 200) = j_ := ⟨_, rfl⟩
  replace H : (if 0 ≤ (ji3) then (if (ji3) ≤ (l0.length : Int) then ((some (l0.take ((ji3) : Int).toNat : List Int)).bind fun y260 => ((tail_Pieces.f k y260 (1 + ((mx 0 a1) % 40))).bind fun bt264 => (if bt264.2 = 0 then (cuecardlaw09_TailWhole.l0 k y260 (1 + ((mx 0 a1) % 40)) bt264.1 (⟨#[]⟩ : ByteArray) bt264.1 (bt264.1.length : Int) 0) else (some false)))) else (none)) else (none)) = some r := by first | (rw [hji3] at H; exact H) | (simp only [hji3] at H ⊢; exact H)
  (try (have hji3h : ji3 ≤ 200 := by (rw [← hji3]; unfold mn; (repeat' split) <;> omega)))
  (try (have hji3g : ji3 ≤ 64 := by omega))
  (try (have hji3l : 0 ≤ ji3 := by (rw [← hji3]; unfold mn; (repeat' split) <;> omega)))
  (try (have hji3m : 0 ≤ ji3 := by omega))
  have hji3_ : (if 200 < (l0.length : Int) then 200 else (l0.length : Int)) = ji3 := hji3
  by_cases c4 : 0 ≤ (ji3)
  · rw [if_pos c4] at H
    have c4b0 := eq_true c4
    have c4b1 : decide (0 ≤ (ji3)) = true := decide_eq_true c4
    clear c4
    by_cases c5 : (ji3) ≤ (l0.length : Int)
    · rw [if_pos c5] at H
      have c5b0 := eq_true c5
      have c5b1 : decide ((ji3) ≤ (l0.length : Int)) = true := decide_eq_true c5
      clear c5
      obtain ⟨y260, hy260⟩ : ∃ y_ : List Int, y_ = (l0.take ((ji3) : Int).toNat) := ⟨_, rfl⟩
      replace H : ((tail_Pieces.f k y260 (1 + ((mx 0 a1) % 40))).bind fun bt264 => (if bt264.2 = 0 then (cuecardlaw09_TailWhole.l0 k y260 (1 + ((mx 0 a1) % 40)) bt264.1 (⟨#[]⟩ : ByteArray) bt264.1 (bt264.1.length : Int) 0) else (some false))) = some r := by first | (rw [hy260]; with_reducible exact H) | (have H2_ := (Option.bind_some _ _).symm.trans H; rw [hy260]; with_reducible exact H2_) | (have H2_ := (Option.bind_some _ _).symm.trans H; with_reducible exact H2_) | with_reducible exact H | (rw [hy260]; exact H) | exact H
      have Ny260 := Aside0.mk hy260
      clear hy260
      obtain ⟨ji6, hji6⟩ : ∃ j_ : Int, (mx 0 a1) = j_ := ⟨_, rfl⟩
      replace H : ((tail_Pieces.f k y260 (1 + ((ji6) % 40))).bind fun bt264 => (if bt264.2 = 0 then (cuecardlaw09_TailWhole.l0 k y260 (1 + ((ji6) % 40)) bt264.1 (⟨#[]⟩ : ByteArray) bt264.1 (bt264.1.length : Int) 0) else (some false))) = some r := by first | (rw [hji6] at H; exact H) | (simp only [hji6] at H ⊢; exact H)
      (try (have hji6l : 0 ≤ ji6 := by (rw [← hji6]; unfold mx; (repeat' split) <;> omega)))
      (try (have hji6m : 0 ≤ ji6 := by omega))
      have hji6_ : (if 0 < a1 then a1 else 0) = ji6 := hji6
      replace H := Option.bind_eq_some_iff.mp H
      obtain ⟨⟨t264, t265⟩, A70, H⟩ := H
      replace H : (if t265 = 0 then (cuecardlaw09_TailWhole.l0 k y260 (1 + ((ji6) % 40)) t264 (⟨#[]⟩ : ByteArray) t264 (t264.length : Int) 0) else (some false)) = some r := H
      have A7 := Aside0.mk A70
      clear A70
      by_cases c8 : t265 = 0
      · rw [if_pos c8] at H
        have c8b0 : (t265 == 0) = true := beq_iff_eq.mpr c8
        have c8b1 : (t265 != 0) = false := bne_eq_false_iff_eq.mpr c8
        clear c8
        have H' := Aside0.mk H
        clear H
        have q9 : ((ji3) : Int) ≤ ((l0.length : Int) : Int) := of_decide_eq_true (by first | (with_reducible assumption) | assumption)
        obtain ⟨i09, hi09, _, hsz9, _⟩ := info_parts info5
        have hroom9 : l0.length ≤ c0 := HC0.out
        have hC9 : Kd.C (Kd.int .u8) _ A0 l0.length l0 := HR0.out
        have hcut9 := cut_to (P := Try.prog) 22 5 .i64 Try.underlying22 hi09 A0 l0.length c0 (ji3) (of_decide_eq_true (by first | (with_reducible assumption) | assumption)) q9 hroom9
        have hr9 := Kd.C_take (m := ((ji3) : Int).toNat) hC9 (by omega)
        have hy9 : y260.length = ((ji3) : Int).toNat := (by rw [Ny260.out, List.length_take]; omega)
        rw [← Ny260.out] at hr9
        rw [← hy9] at hcut9
        have HR263 := Aside0.mk hr9
        have HC263 := Aside0.mk (show y260.length ≤ c0 from by omega)
        clear hr9 hC9 hroom9 hi09 hsz9
        have KY9 := Aside0.mk hy9
        clear hy9
        replace q9 := eq_true q9
        go_enter Try.func6, Try.ntmps6
        go_wp2_with (first | ((with_reducible refine gate_callee (f := 9) rfl ?_); refine goesL_ (some 23) rfl rfl Try.func9 (by kernel_rfl) rfl #[.slice A0 y260.length c0, .int .i64 (1 + ((ji6) % 40))] rfl (by (try simp only [List.map_toArray, List.map_cons, List.map_nil]); first | done | (simp only [hji6]; rfl) | rfl | (simp only [List.length_drop, List.length_take]; rfl)) ?_; (with_reducible refine (tail_Pieces.calls k _ _ y260 (1 + ((ji6) % 40)) t264 t265 _ ?side1 ?side2 A7.out).mono ?_); (case side1 => repeat (first | exact HR263.out | (with_reducible refine Kd.C_alloc ?_ _) | (with_reducible refine Kd.C_drewN ?_ _) | (with_reducible refine Kd.C_drew ?_))); (case side2 => exact HC263.out); rintro e w10 ⟨v266, rfl, ho0, hb⟩; refine ⟨_, rfl, ?_⟩; have n0_ := Aside0.mk (Kd.S_lower ho0 (below_size (by repeat (first | (with_reducible first | exact HB.out | apply below_alloc | apply pw_below_drewN | apply below_drew1) | exact HB.out)))); have n1_ := Aside0.mk (below_step (by repeat (first | (with_reducible first | exact HB.out | apply below_alloc | apply pw_below_drewN | apply below_drew1) | exact HB.out)) hb); clear HB; have HO267 := n0_; have HB := n1_; clear n0_ n1_; (try clear hb); (try clear hb2); (try clear hk); (try clear hi); (try clear ho0); obtain ⟨Ao11, co11, eo11⟩ := Kd.S_slice HO267.out; subst eo11))
        go_loopg [8, 30] k (fun kq v8 v30 w' => ∃ (x8_1 : ByteArray) (x30_1 : Int), v8 = .string x8_1 ∧ v30 = .int .i64 x30_1 ∧ Aside0 (cuecardlaw09_TailWhole.l0 kq y260 (1 + ((ji6) % 40)) t264 x8_1 t264 (t264.length : Int) x30_1 = some r) ∧ Aside0 (kq ≤ k) ∧ Aside0 (Kd.S (Kd.slice 5 (Kd.int .u8)) 22 w' w.heap.size (fun _ => True) (.slice Ao11 t264.length co11) t264) ∧ Aside0 (Kd.S (Kd.slice 5 (Kd.int .u8)) 22 w' w.heap.size (fun _ => True) (.slice Ao11 t264.length co11) t264) ∧ Aside0 (Below w.heap.size w w'))
        case atStart => exact ⟨((⟨#[]⟩ : ByteArray)), (0), (by first | rfl | (simp; done) | (simp [*]; done)), (by first | rfl | (simp; done) | (simp [*]; done)), H', ⟨Nat.le_refl _⟩, ⟨by (with_reducible repeat (first | apply Kd.S_alloc | apply Kd.S_drewN | apply Kd.S_drew)); exact HO267.out⟩, ⟨by (with_reducible repeat (first | apply Kd.S_alloc | apply Kd.S_drewN | apply Kd.S_drew)); exact HO267.out⟩, ⟨by repeat (first | (with_reducible first | exact HB.out | apply below_alloc | apply pw_below_drewN | apply below_drew1) | exact HB.out)⟩⟩
        case round =>
          clear H'
          try clear p2
          try clear c4
          try clear c4b0
          try clear c4b1
          try clear c5
          try clear c5b0
          try clear c5b1
          try clear c6
          try clear c8
          try clear c8b0
          try clear c8b1
          try clear c9
          try clear q9
          try clear q9
          obtain ⟨x8_1, x30_1, rfl, rfl, HA, HK1, HO_6, HO_28, HB⟩ := hrel
          cases gk with
          | zero => exact absurd HA.out (by simp [cuecardlaw09_TailWhole.l0])
          | succ k1 =>
            have H := HA.out
            clear HA
            simp only [cuecardlaw09_TailWhole.l0] at H
            by_cases c12 : x30_1 < (t264.length : Int)
            · rw [if_pos c12] at H
              have c12b0 : decide (x30_1 < (t264.length : Int)) = true := decide_eq_true c12
              clear c12
              by_cases c13 : 0 ≤ x30_1
              · rw [if_pos c13] at H
                have c13b0 : decide (0 ≤ x30_1) = true := decide_eq_true c13
                clear c13
                by_cases c14 : x30_1 < (t264.length : Int)
                · rw [if_pos c14] at H
                  have c14b0 : decide (x30_1 < (t264.length : Int)) = true := decide_eq_true c14
                  clear c14
                  by_cases c15 : x8_1.size + (strOfNums (rd_L2 t264 x30_1)).size ≤ 9223372036854775807
                  · rw [if_pos c15] at H
                    have c15b0 := eq_true c15
                    have c15b1 : decide (x8_1.size + (strOfNums (rd_L2 t264 x30_1)).size ≤ 9223372036854775807) = true := decide_eq_true c15
                    try have c15b2 : (9223372036854775807 < x8_1.size + (strOfNums (rd_L2 t264 x30_1)).size) = False := eq_false (Nat.not_lt.2 c15)
                    by_cases c16 : (wrap64 (x30_1 + 1)) < (t264.length : Int)
                    · rw [if_pos c16] at H
                      have c16b0 : decide ((wrap64 (x30_1 + 1)) < (t264.length : Int)) = true := decide_eq_true c16
                      clear c16
                      by_cases c17 : ((rd_L2 t264 x30_1).length : Int) = (1 + ((ji6) % 40))
                      · rw [if_pos c17] at H
                        have c17b0 : (((rd_L2 t264 x30_1).length : Int) == (1 + ((ji6) % 40))) = true := beq_iff_eq.mpr c17
                        have c17b1 : (((rd_L2 t264 x30_1).length : Int) != (1 + ((ji6) % 40))) = false := bne_eq_false_iff_eq.mpr c17
                        clear c17
                        have H' := Aside0.mk H
                        clear H
                        have p268 : 0 ≤ (x30_1 : Int) := of_decide_eq_true (by first | (with_reducible assumption) | assumption)
                        have q268 : x30_1 < (t264.length : Int) := of_decide_eq_true (by first | (with_reducible assumption) | assumption)
                        obtain ⟨ad268, A268_0, c268_0, e268, hx268_0, hl268_0, hi268_0⟩ := at_L2 (Kd.S_reads' HO_28.out).2.2 x30_1 p268 q268
                        cases e268
                        obtain ⟨ce268, hce268, hMe268, hcc268⟩ := Kd.S_get HO_28.out [] x30_1 p268 (by first | exact q268 | exact of_decide_eq_true (by first | (with_reducible assumption) | assumption) | (have e_ := (Kd.S_reads' HO_28.out).1; omega))
                        obtain ⟨ve268_0, rfl, ge268_0⟩ := hMe268
                        have hv268_0 := hcc268 0 _ rfl
                        rw [Nat.add_zero, show ((Kd.slice 5 (Kd.int .u8))).sz = 1 from rfl, Nat.mul_one] at hv268_0
                        replace hv268_0 := Option.some.inj (hv268_0.symm.trans hx268_0)
                        rw [hv268_0] at ge268_0
                        have HL268_0 := Aside0.mk (show Kd.R (Kd.int .u8) 5 _ _ _ _ (rd_L2 t264 x30_1) from ge268_0)
                        clear hv268_0 ge268_0
                        clear hcc268 hce268
                        have HR268_0 := Aside0.mk hi268_0
                        have HC268_0 := Aside0.mk hl268_0
                        clear hi268_0 hl268_0
                        replace p268 := eq_true p268
                        replace q268 := eq_true q268
                        have hcv18 := Kd.C_string (P := Try.prog) (A := A268_0) (c := c268_0) Try.underlying22 Try.underlying5 Try.underlying9 (by repeat (first | (with_reducible exact HR268_0.out) | (with_reducible refine Kd.C_alloc ?_ _) | (with_reducible refine Kd.C_drewN ?_ _) | (with_reducible refine Kd.C_drew ?_) | exact HR268_0.out))
                        go_wp2
                        go_roundg k1
                        case measure => have := HK1.out; omega
                        case rel => exact ⟨(x8_1 ++ (strOfNums (rd_L2 t264 x30_1))), (wrap64 (x30_1 + 1)), (by first | rfl | (simp; done) | (simp [*]; done)), (by first | rfl | (simp; done) | (simp [*]; done)), H', ⟨by have := HK1.out; omega⟩, ⟨by (with_reducible repeat (first | apply Kd.S_alloc | apply Kd.S_drewN | apply Kd.S_drew)); exact HO_6.out⟩, ⟨by (with_reducible repeat (first | apply Kd.S_alloc | apply Kd.S_drewN | apply Kd.S_drew)); exact HO_28.out⟩, ⟨by repeat (first | (with_reducible first | exact HB.out | apply below_alloc | apply pw_below_drewN | apply below_drew1) | exact HB.out)⟩⟩
                      · rw [if_neg c17] at H
                        have c17b0 : (((rd_L2 t264 x30_1).length : Int) == (1 + ((ji6) % 40))) = false := beq_eq_false_iff_ne.mpr c17
                        have c17b1 : (((rd_L2 t264 x30_1).length : Int) != (1 + ((ji6) % 40))) = true := bne_iff_ne.mpr c17
                        obtain rfl := Option.some.inj H
                        have p268 : 0 ≤ (x30_1 : Int) := of_decide_eq_true (by first | (with_reducible assumption) | assumption)
                        have q268 : x30_1 < (t264.length : Int) := of_decide_eq_true (by first | (with_reducible assumption) | assumption)
                        obtain ⟨ad268, A268_0, c268_0, e268, hx268_0, hl268_0, hi268_0⟩ := at_L2 (Kd.S_reads' HO_28.out).2.2 x30_1 p268 q268
                        cases e268
                        obtain ⟨ce268, hce268, hMe268, hcc268⟩ := Kd.S_get HO_28.out [] x30_1 p268 (by first | exact q268 | exact of_decide_eq_true (by first | (with_reducible assumption) | assumption) | (have e_ := (Kd.S_reads' HO_28.out).1; omega))
                        obtain ⟨ve268_0, rfl, ge268_0⟩ := hMe268
                        have hv268_0 := hcc268 0 _ rfl
                        rw [Nat.add_zero, show ((Kd.slice 5 (Kd.int .u8))).sz = 1 from rfl, Nat.mul_one] at hv268_0
                        replace hv268_0 := Option.some.inj (hv268_0.symm.trans hx268_0)
                        rw [hv268_0] at ge268_0
                        have HL268_0 := Aside0.mk (show Kd.R (Kd.int .u8) 5 _ _ _ _ (rd_L2 t264 x30_1) from ge268_0)
                        clear hv268_0 ge268_0
                        clear hcc268 hce268
                        have HR268_0 := Aside0.mk hi268_0
                        have HC268_0 := Aside0.mk hl268_0
                        clear hi268_0 hl268_0
                        replace p268 := eq_true p268
                        replace q268 := eq_true q268
                        have hcv19 := Kd.C_string (P := Try.prog) (A := A268_0) (c := c268_0) Try.underlying22 Try.underlying5 Try.underlying9 (by repeat (first | (with_reducible exact HR268_0.out) | (with_reducible refine Kd.C_alloc ?_ _) | (with_reducible refine Kd.C_drewN ?_ _) | (with_reducible refine Kd.C_drew ?_) | exact HR268_0.out))
                        go_wp2
                        go_ret
                        exact ⟨by first | rfl | (simp [errW_none, errW_some] <;> rfl) | (simp only [← hji3, ← hji6]; first | rfl | (simp [errW_none, errW_some] <;> rfl)) | (simp [*, errW_none, errW_some] <;> rfl), by repeat (first | (with_reducible first | exact HB.out | apply below_alloc | apply pw_below_drewN | apply below_drew1) | exact HB.out)⟩
                    · rw [if_neg c16] at H
                      have c16b0 : decide ((wrap64 (x30_1 + 1)) < (t264.length : Int)) = false := decide_eq_false c16
                      clear c16
                      have H' := Aside0.mk H
                      clear H
                      have p268 : 0 ≤ (x30_1 : Int) := of_decide_eq_true (by first | (with_reducible assumption) | assumption)
                      have q268 : x30_1 < (t264.length : Int) := of_decide_eq_true (by first | (with_reducible assumption) | assumption)
                      obtain ⟨ad268, A268_0, c268_0, e268, hx268_0, hl268_0, hi268_0⟩ := at_L2 (Kd.S_reads' HO_28.out).2.2 x30_1 p268 q268
                      cases e268
                      obtain ⟨ce268, hce268, hMe268, hcc268⟩ := Kd.S_get HO_28.out [] x30_1 p268 (by first | exact q268 | exact of_decide_eq_true (by first | (with_reducible assumption) | assumption) | (have e_ := (Kd.S_reads' HO_28.out).1; omega))
                      obtain ⟨ve268_0, rfl, ge268_0⟩ := hMe268
                      have hv268_0 := hcc268 0 _ rfl
                      rw [Nat.add_zero, show ((Kd.slice 5 (Kd.int .u8))).sz = 1 from rfl, Nat.mul_one] at hv268_0
                      replace hv268_0 := Option.some.inj (hv268_0.symm.trans hx268_0)
                      rw [hv268_0] at ge268_0
                      have HL268_0 := Aside0.mk (show Kd.R (Kd.int .u8) 5 _ _ _ _ (rd_L2 t264 x30_1) from ge268_0)
                      clear hv268_0 ge268_0
                      clear hcc268 hce268
                      have HR268_0 := Aside0.mk hi268_0
                      have HC268_0 := Aside0.mk hl268_0
                      clear hi268_0 hl268_0
                      replace p268 := eq_true p268
                      replace q268 := eq_true q268
                      have hcv20 := Kd.C_string (P := Try.prog) (A := A268_0) (c := c268_0) Try.underlying22 Try.underlying5 Try.underlying9 (by repeat (first | (with_reducible exact HR268_0.out) | (with_reducible refine Kd.C_alloc ?_ _) | (with_reducible refine Kd.C_drewN ?_ _) | (with_reducible refine Kd.C_drew ?_) | exact HR268_0.out))
                      go_wp2
                      go_roundg k1
                      case measure => have := HK1.out; omega
                      case rel => exact ⟨(x8_1 ++ (strOfNums (rd_L2 t264 x30_1))), (wrap64 (x30_1 + 1)), (by first | rfl | (simp; done) | (simp [*]; done)), (by first | rfl | (simp; done) | (simp [*]; done)), H', ⟨by have := HK1.out; omega⟩, ⟨by (with_reducible repeat (first | apply Kd.S_alloc | apply Kd.S_drewN | apply Kd.S_drew)); exact HO_6.out⟩, ⟨by (with_reducible repeat (first | apply Kd.S_alloc | apply Kd.S_drewN | apply Kd.S_drew)); exact HO_28.out⟩, ⟨by repeat (first | (with_reducible first | exact HB.out | apply below_alloc | apply pw_below_drewN | apply below_drew1) | exact HB.out)⟩⟩
                  · rw [if_neg c15] at H
                    exact absurd H (by simp)
                · rw [if_neg c14] at H
                  exact absurd H (by simp)
              · rw [if_neg c13] at H
                exact absurd H (by simp)
            · rw [if_neg c12] at H
              have c12b0 : decide (x30_1 < (t264.length : Int)) = false := decide_eq_false c12
              clear c12
              by_cases c21 : (x8_1.size : Int) > (y260.length : Int)
              · rw [if_pos c21] at H
                have c21b0 : decide ((y260.length : Int) < (x8_1.size : Int)) = true := decide_eq_true c21
                have c21b1 : decide (y260.length < x8_1.size) = true := decide_eq_true (Int.ofNat_lt.mp c21)
                clear c21
                obtain rfl := Option.some.inj H
                go_wp2
                go_ret
                exact ⟨by first | rfl | (simp [errW_none, errW_some] <;> rfl) | (simp only [← hji3, ← hji6]; first | rfl | (simp [errW_none, errW_some] <;> rfl)) | (simp [*, errW_none, errW_some] <;> rfl), by repeat (first | (with_reducible first | exact HB.out | apply below_alloc | apply pw_below_drewN | apply below_drew1) | exact HB.out)⟩
              · rw [if_neg c21] at H
                have c21b0 : decide ((y260.length : Int) < (x8_1.size : Int)) = false := decide_eq_false c21
                have c21b1 : decide (y260.length < x8_1.size) = false := decide_eq_false (fun h => c21 (Int.ofNat_lt.mpr h))
                clear c21
                obtain ⟨ji22, hji22⟩ : ∃ j_ : Int, (wrap64 ((y260.length : Int) - (x8_1.size : Int))) = j_ := ⟨_, rfl⟩
                replace H : (if 0 ≤ (ji22) then (if (ji22) ≤ (y260.length : Int) then (if (strOfNums (y260.drop ((ji22) : Int).toNat)).toList = x8_1.toList then ((cuecardlaw09_alive.f k1).bind fun t273 => (if t273 = true then (if (t264.length : Int) < 2 then (some true) else (some ((x8_1.size : Int) == (y260.length : Int)))) else (some false))) else (some false)) else (none)) else (none)) = some r := by first | (rw [hji22] at H; exact H) | (simp only [hji22] at H ⊢; exact H)
                have hji22w : (IntKind.i64.wrap ((y260.length : Int) - (x8_1.size : Int))) = ji22 := (i64_w _).trans hji22
                by_cases c23 : 0 ≤ (ji22)
                · rw [if_pos c23] at H
                  have c23b0 := eq_true c23
                  have c23b1 : decide (0 ≤ (ji22)) = true := decide_eq_true c23
                  clear c23
                  by_cases c24 : (ji22) ≤ (y260.length : Int)
                  · rw [if_pos c24] at H
                    have c24b0 := eq_true c24
                    have c24b1 : decide ((ji22) ≤ (y260.length : Int)) = true := decide_eq_true c24
                    clear c24
                    obtain ⟨y269, hy269⟩ : ∃ y_ : List Int, y_ = (y260.drop ((ji22) : Int).toNat) := ⟨_, rfl⟩
                    replace H : (if (strOfNums y269).toList = x8_1.toList then ((cuecardlaw09_alive.f k1).bind fun t273 => (if t273 = true then (if (t264.length : Int) < 2 then (some true) else (some ((x8_1.size : Int) == (y260.length : Int)))) else (some false))) else (some false)) = some r := by first | (rw [hy269]; with_reducible exact H) | (have H2_ := (Option.bind_some _ _).symm.trans H; rw [hy269]; with_reducible exact H2_) | (have H2_ := (Option.bind_some _ _).symm.trans H; with_reducible exact H2_) | with_reducible exact H | (rw [hy269]; exact H) | exact H
                    have Ny269 := Aside0.mk hy269
                    clear hy269
                    by_cases c25 : (strOfNums y269).toList = x8_1.toList
                    · rw [if_pos c25] at H
                      have c25b0 : ((strOfNums y269).toList == x8_1.toList) = true := beq_iff_eq.mpr c25
                      have c25b1 : ((strOfNums y269).toList != x8_1.toList) = false := bne_eq_false_iff_eq.mpr c25
                      clear c25
                      replace H := Option.bind_eq_some_iff.mp H
                      obtain ⟨t273, A260, H⟩ := H
                      replace H : (if t273 = true then (if (t264.length : Int) < 2 then (some true) else (some ((x8_1.size : Int) == (y260.length : Int)))) else (some false)) = some r := H
                      have A26 := Aside0.mk A260
                      clear A260
                      by_cases c27 : t273 = true
                      · subst c27
                        have H1 : (if (t264.length : Int) < 2 then (some true) else (some ((x8_1.size : Int) == (y260.length : Int)))) = some r := by rw [if_pos rfl] at H; exact H
                        clear H
                        have H := H1
                        clear H1
                        by_cases c28 : (t264.length : Int) < 2
                        · rw [if_pos c28] at H
                          have c28b0 : decide ((t264.length : Int) < 2) = true := decide_eq_true c28
                          have c28b1 : decide (t264.length < 2) = true := decide_eq_true (by omega)
                          clear c28
                          obtain rfl := Option.some.inj H
                          have q29 : ((ji22) : Int) ≤ ((y260.length : Int) : Int) := of_decide_eq_true (by first | (with_reducible assumption) | assumption)
                          obtain ⟨i029, hi029, _, hsz29, _⟩ := info_parts info5
                          have hroom29 : y260.length ≤ c0 := HC263.out
                          have hC29 : Kd.C (Kd.int .u8) _ A0 y260.length y260 := HR263.out
                          have q029 : (0 : Int) ≤ ((ji22) : Int) := of_decide_eq_true (by first | (with_reducible assumption) | assumption)
                          have hcut29 := cut_from (P := Try.prog) 22 5 .i64 Try.underlying22 hi029 1 hsz29 A0 y260.length c0 (ji22) q029 q29
                          have hr29 := Kd.C_drop (m := ((ji22) : Int).toNat) (c := c0) hC29 (by omega) hroom29
                          obtain ⟨A29, hA29⟩ : ∃ A1, A1 = (if c0 = ((ji22) : Int).toNat then A0 else (A0 : Option Addr).map (·.add (((ji22) : Int).toNat * 1))) := ⟨_, rfl⟩
                          obtain ⟨c29, hc29⟩ : ∃ c1, c1 = c0 - ((ji22) : Int).toNat := ⟨_, rfl⟩
                          have hy29 : y269.length = y260.length - ((ji22) : Int).toNat := (by rw [Ny269.out, List.length_drop] <;> omega)
                          rw [show (y260).drop ((ji22) : Int).toNat = y269 from Ny269.out.symm] at hr29
                          replace hr29 : Kd.C (Kd.int .u8) _ A29 y269.length y269 := (by rw [hA29]; exact hr29)
                          rw [← hy29, ← hA29, ← hc29] at hcut29
                          have HR272 := Aside0.mk hr29
                          have HC272 := Aside0.mk (show y269.length ≤ c29 from by rw [hy29, hc29]; exact Nat.sub_le_sub_right hroom29 _)
                          clear hr29 hC29 hroom29 hi029 hsz29 hc29
                          have KY29 := Aside0.mk hy29
                          have KA29 := Aside0.mk hA29
                          clear hy29 hA29
                          replace q29 := eq_true q29
                          have hcv30 := Kd.C_string (P := Try.prog) (A := A29) (c := c29) Try.underlying22 Try.underlying5 Try.underlying9 (Kd.C_below HR272.out HB.out)
                          go_wp2_with (first | ((with_reducible refine gate_callee (f := 12) rfl ?_); refine goesL_ (some 68) rfl rfl Try.func12 (by kernel_rfl) rfl #[] rfl (by (try simp only [List.map_toArray, List.map_cons, List.map_nil]); first | done | rfl | (simp only [List.length_drop, List.length_take]; rfl)) ?_; (with_reducible refine (cuecardlaw09_alive.calls k1  true _ A26.out).mono ?_); rintro e w31 ⟨rfl, hb⟩; refine ⟨_, rfl, ?_⟩; have n0_ := Aside0.mk (Kd.S_below (by (with_reducible repeat (first | apply Kd.S_alloc | apply Kd.S_drewN | apply Kd.S_drew)); exact HO_6.out) hb); have n1_ := Aside0.mk (Kd.S_below (by (with_reducible repeat (first | apply Kd.S_alloc | apply Kd.S_drewN | apply Kd.S_drew)); exact HO_28.out) hb); have n2_ := Aside0.mk (below_step (by repeat (first | (with_reducible first | exact HB.out | apply below_alloc | apply pw_below_drewN | apply below_drew1) | exact HB.out)) hb); clear HO_6; clear HO_28; clear HB; have HO_6 := n0_; have HO_28 := n1_; have HB := n2_; clear n0_ n1_ n2_; (try clear hb); (try clear hb2); (try clear hk); (try clear hi)))
                          go_ret
                          exact ⟨by first | rfl | (simp [errW_none, errW_some] <;> rfl) | (simp only [← hji3, ← hji6, ← hji22]; first | rfl | (simp [errW_none, errW_some] <;> rfl)) | (simp [*, errW_none, errW_some] <;> rfl), by repeat (first | (with_reducible first | exact HB.out | apply below_alloc | apply pw_below_drewN | apply below_drew1) | exact HB.out)⟩
                        · rw [if_neg c28] at H
                          have c28b0 : decide ((t264.length : Int) < 2) = false := decide_eq_false c28
                          have c28b1 : decide (t264.length < 2) = false := decide_eq_false (by omega)
                          clear c28
                          obtain rfl := Option.some.inj H
                          have q32 : ((ji22) : Int) ≤ ((y260.length : Int) : Int) := of_decide_eq_true (by first | (with_reducible assumption) | assumption)
                          obtain ⟨i032, hi032, _, hsz32, _⟩ := info_parts info5
                          have hroom32 : y260.length ≤ c0 := HC263.out
                          have hC32 : Kd.C (Kd.int .u8) _ A0 y260.length y260 := HR263.out
                          have q032 : (0 : Int) ≤ ((ji22) : Int) := of_decide_eq_true (by first | (with_reducible assumption) | assumption)
                          have hcut32 := cut_from (P := Try.prog) 22 5 .i64 Try.underlying22 hi032 1 hsz32 A0 y260.length c0 (ji22) q032 q32
                          have hr32 := Kd.C_drop (m := ((ji22) : Int).toNat) (c := c0) hC32 (by omega) hroom32
                          obtain ⟨A32, hA32⟩ : ∃ A1, A1 = (if c0 = ((ji22) : Int).toNat then A0 else (A0 : Option Addr).map (·.add (((ji22) : Int).toNat * 1))) := ⟨_, rfl⟩
                          obtain ⟨c32, hc32⟩ : ∃ c1, c1 = c0 - ((ji22) : Int).toNat := ⟨_, rfl⟩
                          have hy32 : y269.length = y260.length - ((ji22) : Int).toNat := (by rw [Ny269.out, List.length_drop] <;> omega)
                          rw [show (y260).drop ((ji22) : Int).toNat = y269 from Ny269.out.symm] at hr32
                          replace hr32 : Kd.C (Kd.int .u8) _ A32 y269.length y269 := (by rw [hA32]; exact hr32)
                          rw [← hy32, ← hA32, ← hc32] at hcut32
                          have HR272 := Aside0.mk hr32
                          have HC272 := Aside0.mk (show y269.length ≤ c32 from by rw [hy32, hc32]; exact Nat.sub_le_sub_right hroom32 _)
                          clear hr32 hC32 hroom32 hi032 hsz32 hc32
                          have KY32 := Aside0.mk hy32
                          have KA32 := Aside0.mk hA32
                          clear hy32 hA32
                          replace q32 := eq_true q32
                          have hcv33 := Kd.C_string (P := Try.prog) (A := A32) (c := c32) Try.underlying22 Try.underlying5 Try.underlying9 (Kd.C_below HR272.out HB.out)
                          go_wp2_with (first | ((with_reducible refine gate_callee (f := 12) rfl ?_); refine goesL_ (some 68) rfl rfl Try.func12 (by kernel_rfl) rfl #[] rfl (by (try simp only [List.map_toArray, List.map_cons, List.map_nil]); first | done | rfl | (simp only [List.length_drop, List.length_take]; rfl)) ?_; (with_reducible refine (cuecardlaw09_alive.calls k1  true _ A26.out).mono ?_); rintro e w34 ⟨rfl, hb⟩; refine ⟨_, rfl, ?_⟩; have n0_ := Aside0.mk (Kd.S_below (by (with_reducible repeat (first | apply Kd.S_alloc | apply Kd.S_drewN | apply Kd.S_drew)); exact HO_6.out) hb); have n1_ := Aside0.mk (Kd.S_below (by (with_reducible repeat (first | apply Kd.S_alloc | apply Kd.S_drewN | apply Kd.S_drew)); exact HO_28.out) hb); have n2_ := Aside0.mk (below_step (by repeat (first | (with_reducible first | exact HB.out | apply below_alloc | apply pw_below_drewN | apply below_drew1) | exact HB.out)) hb); clear HO_6; clear HO_28; clear HB; have HO_6 := n0_; have HO_28 := n1_; have HB := n2_; clear n0_ n1_ n2_; (try clear hb); (try clear hb2); (try clear hk); (try clear hi)))
                          go_ret
                          exact ⟨by first | rfl | (simp [errW_none, errW_some] <;> rfl) | (simp only [← hji3, ← hji6, ← hji22]; first | rfl | (simp [errW_none, errW_some] <;> rfl)) | (simp [*, errW_none, errW_some] <;> rfl), by repeat (first | (with_reducible first | exact HB.out | apply below_alloc | apply pw_below_drewN | apply below_drew1) | exact HB.out)⟩
                      · replace c27 := Bool.eq_false_iff.mpr c27
                        subst c27
                        have H1 : (some false) = some r := by rw [if_neg (show ¬ (false = true) by decide)] at H; exact H
                        clear H
                        have H := H1
                        clear H1
                        obtain rfl := Option.some.inj H
                        have q35 : ((ji22) : Int) ≤ ((y260.length : Int) : Int) := of_decide_eq_true (by first | (with_reducible assumption) | assumption)
                        obtain ⟨i035, hi035, _, hsz35, _⟩ := info_parts info5
                        have hroom35 : y260.length ≤ c0 := HC263.out
                        have hC35 : Kd.C (Kd.int .u8) _ A0 y260.length y260 := HR263.out
                        have q035 : (0 : Int) ≤ ((ji22) : Int) := of_decide_eq_true (by first | (with_reducible assumption) | assumption)
                        have hcut35 := cut_from (P := Try.prog) 22 5 .i64 Try.underlying22 hi035 1 hsz35 A0 y260.length c0 (ji22) q035 q35
                        have hr35 := Kd.C_drop (m := ((ji22) : Int).toNat) (c := c0) hC35 (by omega) hroom35
                        obtain ⟨A35, hA35⟩ : ∃ A1, A1 = (if c0 = ((ji22) : Int).toNat then A0 else (A0 : Option Addr).map (·.add (((ji22) : Int).toNat * 1))) := ⟨_, rfl⟩
                        obtain ⟨c35, hc35⟩ : ∃ c1, c1 = c0 - ((ji22) : Int).toNat := ⟨_, rfl⟩
                        have hy35 : y269.length = y260.length - ((ji22) : Int).toNat := (by rw [Ny269.out, List.length_drop] <;> omega)
                        rw [show (y260).drop ((ji22) : Int).toNat = y269 from Ny269.out.symm] at hr35
                        replace hr35 : Kd.C (Kd.int .u8) _ A35 y269.length y269 := (by rw [hA35]; exact hr35)
                        rw [← hy35, ← hA35, ← hc35] at hcut35
                        have HR272 := Aside0.mk hr35
                        have HC272 := Aside0.mk (show y269.length ≤ c35 from by rw [hy35, hc35]; exact Nat.sub_le_sub_right hroom35 _)
                        clear hr35 hC35 hroom35 hi035 hsz35 hc35
                        have KY35 := Aside0.mk hy35
                        have KA35 := Aside0.mk hA35
                        clear hy35 hA35
                        replace q35 := eq_true q35
                        have hcv36 := Kd.C_string (P := Try.prog) (A := A35) (c := c35) Try.underlying22 Try.underlying5 Try.underlying9 (Kd.C_below HR272.out HB.out)
                        go_wp2_with (first | ((with_reducible refine gate_callee (f := 12) rfl ?_); refine goesL_ (some 68) rfl rfl Try.func12 (by kernel_rfl) rfl #[] rfl (by (try simp only [List.map_toArray, List.map_cons, List.map_nil]); first | done | rfl | (simp only [List.length_drop, List.length_take]; rfl)) ?_; (with_reducible refine (cuecardlaw09_alive.calls k1  false _ A26.out).mono ?_); rintro e w37 ⟨rfl, hb⟩; refine ⟨_, rfl, ?_⟩; have n0_ := Aside0.mk (Kd.S_below (by (with_reducible repeat (first | apply Kd.S_alloc | apply Kd.S_drewN | apply Kd.S_drew)); exact HO_6.out) hb); have n1_ := Aside0.mk (Kd.S_below (by (with_reducible repeat (first | apply Kd.S_alloc | apply Kd.S_drewN | apply Kd.S_drew)); exact HO_28.out) hb); have n2_ := Aside0.mk (below_step (by repeat (first | (with_reducible first | exact HB.out | apply below_alloc | apply pw_below_drewN | apply below_drew1) | exact HB.out)) hb); clear HO_6; clear HO_28; clear HB; have HO_6 := n0_; have HO_28 := n1_; have HB := n2_; clear n0_ n1_ n2_; (try clear hb); (try clear hb2); (try clear hk); (try clear hi)))
                        go_ret
                        exact ⟨by first | rfl | (simp [errW_none, errW_some] <;> rfl) | (simp only [← hji3, ← hji6, ← hji22]; first | rfl | (simp [errW_none, errW_some] <;> rfl)) | (simp [*, errW_none, errW_some] <;> rfl), by repeat (first | (with_reducible first | exact HB.out | apply below_alloc | apply pw_below_drewN | apply below_drew1) | exact HB.out)⟩
                    · rw [if_neg c25] at H
                      have c25b0 : ((strOfNums y269).toList == x8_1.toList) = false := beq_eq_false_iff_ne.mpr c25
                      have c25b1 : ((strOfNums y269).toList != x8_1.toList) = true := bne_iff_ne.mpr c25
                      obtain rfl := Option.some.inj H
                      have q38 : ((ji22) : Int) ≤ ((y260.length : Int) : Int) := of_decide_eq_true (by first | (with_reducible assumption) | assumption)
                      obtain ⟨i038, hi038, _, hsz38, _⟩ := info_parts info5
                      have hroom38 : y260.length ≤ c0 := HC263.out
                      have hC38 : Kd.C (Kd.int .u8) _ A0 y260.length y260 := HR263.out
                      have q038 : (0 : Int) ≤ ((ji22) : Int) := of_decide_eq_true (by first | (with_reducible assumption) | assumption)
                      have hcut38 := cut_from (P := Try.prog) 22 5 .i64 Try.underlying22 hi038 1 hsz38 A0 y260.length c0 (ji22) q038 q38
                      have hr38 := Kd.C_drop (m := ((ji22) : Int).toNat) (c := c0) hC38 (by omega) hroom38
                      obtain ⟨A38, hA38⟩ : ∃ A1, A1 = (if c0 = ((ji22) : Int).toNat then A0 else (A0 : Option Addr).map (·.add (((ji22) : Int).toNat * 1))) := ⟨_, rfl⟩
                      obtain ⟨c38, hc38⟩ : ∃ c1, c1 = c0 - ((ji22) : Int).toNat := ⟨_, rfl⟩
                      have hy38 : y269.length = y260.length - ((ji22) : Int).toNat := (by rw [Ny269.out, List.length_drop] <;> omega)
                      rw [show (y260).drop ((ji22) : Int).toNat = y269 from Ny269.out.symm] at hr38
                      replace hr38 : Kd.C (Kd.int .u8) _ A38 y269.length y269 := (by rw [hA38]; exact hr38)
                      rw [← hy38, ← hA38, ← hc38] at hcut38
                      have HR272 := Aside0.mk hr38
                      have HC272 := Aside0.mk (show y269.length ≤ c38 from by rw [hy38, hc38]; exact Nat.sub_le_sub_right hroom38 _)
                      clear hr38 hC38 hroom38 hi038 hsz38 hc38
                      have KY38 := Aside0.mk hy38
                      have KA38 := Aside0.mk hA38
                      clear hy38 hA38
                      replace q38 := eq_true q38
                      have hcv39 := Kd.C_string (P := Try.prog) (A := A38) (c := c38) Try.underlying22 Try.underlying5 Try.underlying9 (Kd.C_below HR272.out HB.out)
                      go_wp2
                      go_ret
                      exact ⟨by first | rfl | (simp [errW_none, errW_some] <;> rfl) | (simp only [← hji3, ← hji6, ← hji22]; first | rfl | (simp [errW_none, errW_some] <;> rfl)) | (simp [*, errW_none, errW_some] <;> rfl), by repeat (first | (with_reducible first | exact HB.out | apply below_alloc | apply pw_below_drewN | apply below_drew1) | exact HB.out)⟩
                  · rw [if_neg c24] at H
                    exact absurd H (by simp)
                · rw [if_neg c23] at H
                  exact absurd H (by simp)
      · rw [if_neg c8] at H
        have c8b0 : (t265 == 0) = false := beq_eq_false_iff_ne.mpr c8
        have c8b1 : (t265 != 0) = true := bne_iff_ne.mpr c8
        obtain rfl := Option.some.inj H
        have q40 : ((ji3) : Int) ≤ ((l0.length : Int) : Int) := of_decide_eq_true (by first | (with_reducible assumption) | assumption)
        obtain ⟨i040, hi040, _, hsz40, _⟩ := info_parts info5
        have hroom40 : l0.length ≤ c0 := HC0.out
        have hC40 : Kd.C (Kd.int .u8) _ A0 l0.length l0 := HR0.out
        have hcut40 := cut_to (P := Try.prog) 22 5 .i64 Try.underlying22 hi040 A0 l0.length c0 (ji3) (of_decide_eq_true (by first | (with_reducible assumption) | assumption)) q40 hroom40
        have hr40 := Kd.C_take (m := ((ji3) : Int).toNat) hC40 (by omega)
        have hy40 : y260.length = ((ji3) : Int).toNat := (by rw [Ny260.out, List.length_take]; omega)
        rw [← Ny260.out] at hr40
        rw [← hy40] at hcut40
        have HR263 := Aside0.mk hr40
        have HC263 := Aside0.mk (show y260.length ≤ c0 from by omega)
        clear hr40 hC40 hroom40 hi040 hsz40
        have KY40 := Aside0.mk hy40
        clear hy40
        replace q40 := eq_true q40
        go_enter Try.func6, Try.ntmps6
        go_wp2_with (first | ((with_reducible refine gate_callee (f := 9) rfl ?_); refine goesL_ (some 23) rfl rfl Try.func9 (by kernel_rfl) rfl #[.slice A0 y260.length c0, .int .i64 (1 + ((ji6) % 40))] rfl (by (try simp only [List.map_toArray, List.map_cons, List.map_nil]); first | done | (simp only [hji6]; rfl) | rfl | (simp only [List.length_drop, List.length_take]; rfl)) ?_; (with_reducible refine (tail_Pieces.calls k _ _ y260 (1 + ((ji6) % 40)) t264 t265 _ ?side1 ?side2 A7.out).mono ?_); (case side1 => repeat (first | exact HR263.out | (with_reducible refine Kd.C_alloc ?_ _) | (with_reducible refine Kd.C_drewN ?_ _) | (with_reducible refine Kd.C_drew ?_))); (case side2 => exact HC263.out); rintro e w41 ⟨v266, rfl, ho0, hb⟩; refine ⟨_, rfl, ?_⟩; have n0_ := Aside0.mk (Kd.S_lower ho0 (below_size (by repeat (first | (with_reducible first | exact HB.out | apply below_alloc | apply pw_below_drewN | apply below_drew1) | exact HB.out)))); have n1_ := Aside0.mk (below_step (by repeat (first | (with_reducible first | exact HB.out | apply below_alloc | apply pw_below_drewN | apply below_drew1) | exact HB.out)) hb); clear HB; have HO267 := n0_; have HB := n1_; clear n0_ n1_; (try clear hb); (try clear hb2); (try clear hk); (try clear hi); (try clear ho0)))
        go_ret
        exact ⟨by first | rfl | (simp [errW_none, errW_some] <;> rfl) | (simp only [← hji3, ← hji6]; first | rfl | (simp [errW_none, errW_some] <;> rfl)) | (simp [*, errW_none, errW_some] <;> rfl), by repeat (first | (with_reducible first | exact HB.out | apply below_alloc | apply pw_below_drewN | apply below_drew1) | exact HB.out)⟩
    · rw [if_neg c5] at H
      exact absurd H (by simp)
  · rw [if_neg c4] at H
    exact absurd H (by simp)

end Go.Proofs.Ytdeoingjkomdcaa.QA
