-- Written for this claim by a program of this session's, out of Lean's own print of the program; Lean checks it.
import Derived.Test.YtdeoingjkomdcaaQAx0
import Derived.Test.YtdeoingjkomdcaaQAx3
import Derived.Test.YtdeoingjkomdcaaGAlive
namespace Go.Proofs.Ytdeoingjkomdcaa.QA
open Go.RowKit Go.Proofs.YtdeoingjkomdcaaW.PrintWords Go.Proofs.YtdeoingjkomdcaaW.PrintLast Go.Proofs.YtdeoingjkomdcaaW.PrintMore
attribute [local go_sem] max2_int min2_int max_two min_two max_three min_three max_four min_four   -- for this text's walks alone
set_option linter.unusedVariables false
set_option linter.unusedSimpArgs false

/-! ### cuecardlaw09_TailShort: function 5 -/
mutual
def cuecardlaw09_TailShort.j0 : Nat → List Int → Int → Bool → Option (Bool)
  | 0, _, _, _ => none
  | k + 1, x0, x3, x29 => if x29 = true then (some false) else (cuecardlaw09_TailShort.l0 k x0 x3 (wrap64 ((x0.length : Int) - x3)) 0)
def cuecardlaw09_TailShort.l0 : Nat → List Int → Int → Int → Int → Option (Bool)
  | 0, _, _, _, _ => none
  | k + 1, x0, x3, x33, x34 => if x34 < x33 then (if 0 ≤ x34 then (if x34 ≤ (wrap64 (x34 + x3)) then (if (wrap64 (x34 + x3)) ≤ (x0.length : Int) then (if 0 ≤ (wrap64 ((x0.length : Int) - x3)) then (if (wrap64 ((x0.length : Int) - x3)) ≤ (x0.length : Int) then (if (strOfNums ((x0.take ((wrap64 (x34 + x3)) : Int).toNat).drop (x34 : Int).toNat)).toList = (strOfNums (x0.drop ((wrap64 ((x0.length : Int) - x3)) : Int).toNat)).toList then (some false) else (cuecardlaw09_TailShort.l0 k x0 x3 x33 (wrap64 (x34 + 1)))) else (none)) else (none)) else (none)) else (none)) else (none)) else (if x3 = 1 then ((cuecardlaw09_alive.f k).bind fun t250 => (some t250)) else (cuecardlaw09_TailShort.l1 k x0 x3 false (wrap64 ((wrap64 ((x0.length : Int) - x3)) + 1)) 0))
def cuecardlaw09_TailShort.l1 : Nat → List Int → Int → Bool → Int → Int → Option (Bool)
  | 0, _, _, _, _, _ => none
  | k + 1, x0, x3, x5, x60, x61 => if x61 < x60 then (if x5 = true then (cuecardlaw09_TailShort.l1 k x0 x3 true x60 (wrap64 (x61 + 1))) else (if 0 ≤ x61 then (if x61 ≤ (wrap64 ((wrap64 (x61 + x3)) - 1)) then (if (wrap64 ((wrap64 (x61 + x3)) - 1)) ≤ (x0.length : Int) then (if 0 ≤ (wrap64 ((wrap64 ((x0.length : Int) - x3)) + 1)) then (if (wrap64 ((wrap64 ((x0.length : Int) - x3)) + 1)) ≤ (x0.length : Int) then (cuecardlaw09_TailShort.l1 k x0 x3 ((strOfNums ((x0.take ((wrap64 ((wrap64 (x61 + x3)) - 1)) : Int).toNat).drop (x61 : Int).toNat)).toList == (strOfNums (x0.drop ((wrap64 ((wrap64 ((x0.length : Int) - x3)) + 1)) : Int).toNat)).toList) x60 (wrap64 (x61 + 1))) else (none)) else (none)) else (none)) else (none)) else (none))) else ((cuecardlaw09_alive.f k).bind fun t259 => (if t259 = true then (some x5) else (some false)))
end
def cuecardlaw09_TailShort.f (k : Nat) (l0 : List Int) : Option (Bool) := if 0 ≤ (mn (l0.length : Int) 200) then (if (mn (l0.length : Int) 200) ≤ (l0.length : Int) then ((some (l0.take ((mn (l0.length : Int) 200) : Int).toNat : List Int)).bind fun y236 => ((tail_Shortest.f k y236).bind fun t240 => (if (y236.length : Int) = 0 then ((cuecardlaw09_alive.f k).bind fun t241 => (if t241 = true then (some (t240 == 0)) else (some false))) else (if t240 < 1 then (cuecardlaw09_TailShort.j0 k y236 t240 true) else (cuecardlaw09_TailShort.j0 k y236 t240 (decide (t240 > (y236.length : Int)))))))) else (none)) else (none)
theorem cuecardlaw09_TailShort.mono_l : ∀ k, (∀ y0 y1 y2, LeO (cuecardlaw09_TailShort.j0 k y0 y1 y2) (cuecardlaw09_TailShort.j0 (k + 1) y0 y1 y2)) ∧ (∀ y0 y1 y2 y3, LeO (cuecardlaw09_TailShort.l0 k y0 y1 y2 y3) (cuecardlaw09_TailShort.l0 (k + 1) y0 y1 y2 y3)) ∧ (∀ y0 y1 y2 y3 y4, LeO (cuecardlaw09_TailShort.l1 k y0 y1 y2 y3 y4) (cuecardlaw09_TailShort.l1 (k + 1) y0 y1 y2 y3 y4))
  | 0 => ⟨fun _ _ _ r h => by simp [cuecardlaw09_TailShort.j0] at h, fun _ _ _ _ r h => by simp [cuecardlaw09_TailShort.l0] at h, fun _ _ _ _ _ r h => by simp [cuecardlaw09_TailShort.l1] at h⟩
  | k + 1 => by
    obtain ⟨ih0, ih1, ih2⟩ := cuecardlaw09_TailShort.mono_l k
    refine ⟨?_, ?_, ?_⟩
    · intro y0 y1 y2
      unfold cuecardlaw09_TailShort.j0
      repeat' first
      | (with_reducible exact ih0 _ _ _)
      | (with_reducible exact ih1 _ _ _ _)
      | (with_reducible exact ih2 _ _ _ _ _)
      | (with_reducible exact cuecardlaw09_alive.mono _)
      | (with_reducible exact tail_Shortest.mono _ _)
      | (with_reducible exact LeO.refl _)
      | (with_reducible exact LeO.none _)
      | (with_reducible refine LeO.ite ?_ ?_)
      | (with_reducible refine LeO.bind ?_ (fun _ => ?_))
      | exact ih0 _ _ _
      | exact ih1 _ _ _ _
      | exact ih2 _ _ _ _ _
      | exact cuecardlaw09_alive.mono _
      | exact tail_Shortest.mono _ _
      | exact LeO.none _
      | refine LeO.ite ?_ ?_
      | refine LeO.bind ?_ (fun _ => ?_)
    · intro y0 y1 y2 y3
      unfold cuecardlaw09_TailShort.l0
      repeat' first
      | (with_reducible exact ih0 _ _ _)
      | (with_reducible exact ih1 _ _ _ _)
      | (with_reducible exact ih2 _ _ _ _ _)
      | (with_reducible exact cuecardlaw09_alive.mono _)
      | (with_reducible exact tail_Shortest.mono _ _)
      | (with_reducible exact LeO.refl _)
      | (with_reducible exact LeO.none _)
      | (with_reducible refine LeO.ite ?_ ?_)
      | (with_reducible refine LeO.bind ?_ (fun _ => ?_))
      | exact ih0 _ _ _
      | exact ih1 _ _ _ _
      | exact ih2 _ _ _ _ _
      | exact cuecardlaw09_alive.mono _
      | exact tail_Shortest.mono _ _
      | exact LeO.none _
      | refine LeO.ite ?_ ?_
      | refine LeO.bind ?_ (fun _ => ?_)
    · intro y0 y1 y2 y3 y4
      unfold cuecardlaw09_TailShort.l1
      repeat' first
      | (with_reducible exact ih0 _ _ _)
      | (with_reducible exact ih1 _ _ _ _)
      | (with_reducible exact ih2 _ _ _ _ _)
      | (with_reducible exact cuecardlaw09_alive.mono _)
      | (with_reducible exact tail_Shortest.mono _ _)
      | (with_reducible exact LeO.refl _)
      | (with_reducible exact LeO.none _)
      | (with_reducible refine LeO.ite ?_ ?_)
      | (with_reducible refine LeO.bind ?_ (fun _ => ?_))
      | exact ih0 _ _ _
      | exact ih1 _ _ _ _
      | exact ih2 _ _ _ _ _
      | exact cuecardlaw09_alive.mono _
      | exact tail_Shortest.mono _ _
      | exact LeO.none _
      | refine LeO.ite ?_ ?_
      | refine LeO.bind ?_ (fun _ => ?_)
theorem cuecardlaw09_TailShort.mono : ∀ a0 k, LeO (cuecardlaw09_TailShort.f k a0) (cuecardlaw09_TailShort.f (k + 1) a0) := by
  intro a0 k
  obtain ⟨ih0, ih1, ih2⟩ := cuecardlaw09_TailShort.mono_l k
  unfold cuecardlaw09_TailShort.f
  repeat' first
      | (with_reducible exact ih0 _ _ _)
      | (with_reducible exact ih1 _ _ _ _)
      | (with_reducible exact ih2 _ _ _ _ _)
      | (with_reducible exact cuecardlaw09_alive.mono _)
      | (with_reducible exact tail_Shortest.mono _ _)
      | (with_reducible exact LeO.refl _)
      | (with_reducible exact LeO.none _)
      | (with_reducible refine LeO.ite ?_ ?_)
      | (with_reducible refine LeO.bind ?_ (fun _ => ?_))
      | exact ih0 _ _ _
      | exact ih1 _ _ _ _
      | exact ih2 _ _ _ _ _
      | exact cuecardlaw09_alive.mono _
      | exact tail_Shortest.mono _ _
      | exact LeO.none _
      | refine LeO.ite ?_ ?_
      | refine LeO.bind ?_ (fun _ => ?_)
set_option maxHeartbeats 8000000 in
set_option maxRecDepth 100000 in
theorem cuecardlaw09_TailShort.calls (k : Nat) (A0 : Option Addr) (c0 : Nat) (l0 : List Int) (r : Bool) (w : World) (hr0 : Kd.C (Kd.int .u8) w A0 l0.length l0) (hc0 : l0.length ≤ c0) (h : cuecardlaw09_TailShort.f k l0 = some r) :
    Calls Try.prog 5 #[.slice A0 l0.length c0] w fun e w' => e = .returned (.bool r) ∧ Below w.heap.size w w' := by
  have HR0 := Aside0.mk hr0
  have HC0 := Aside0.mk hc0
  clear hr0 hc0
  have HB := Aside0.mk (Below.refl w.heap.size w)
  have H : (if 0 ≤ (mn (l0.length : Int) 200) then (if (mn (l0.length : Int) 200) ≤ (l0.length : Int) then ((some (l0.take ((mn (l0.length : Int) 200) : Int).toNat : List Int)).bind fun y236 => ((tail_Shortest.f k y236).bind fun t240 => (if (y236.length : Int) = 0 then ((cuecardlaw09_alive.f k).bind fun t241 => (if t241 = true then (some (t240 == 0)) else (some false))) else (if t240 < 1 then (cuecardlaw09_TailShort.j0 k y236 t240 true) else (cuecardlaw09_TailShort.j0 k y236 t240 (decide (t240 > (y236.length : Int)))))))) else (none)) else (none)) = some r := h
  clear h
  obtain ⟨ji2, hji2⟩ : ∃ j_ : Int, (mn (l0.length : Int) 200) = j_ := ⟨_, rfl⟩
  replace H : (if 0 ≤ (ji2) then (if (ji2) ≤ (l0.length : Int) then ((some (l0.take ((ji2) : Int).toNat : List Int)).bind fun y236 => ((tail_Shortest.f k y236).bind fun t240 => (if (y236.length : Int) = 0 then ((cuecardlaw09_alive.f k).bind fun t241 => (if t241 = true then (some (t240 == 0)) else (some false))) else (if t240 < 1 then (cuecardlaw09_TailShort.j0 k y236 t240 true) else (cuecardlaw09_TailShort.j0 k y236 t240 (decide (t240 > (y236.length : Int)))))))) else (none)) else (none)) = some r := by first | (rw [hji2] at H; exact H) | (simp only [hji2] at H ⊢; exact H)
  (try (have hji2h : ji2 ≤ 200 := by (rw [← hji2]; unfold mn; (repeat' split) <;> omega)))
  (try (have hji2g : ji2 ≤ 64 := by omega))
  (try (have hji2l : 0 ≤ ji2 := by (rw [← hji2]; unfold mn; (repeat' split) <;> omega)))
  (try (have hji2m : 0 ≤ ji2 := by omega))
  have hji2_ : (if 200 < (l0.length : Int) then 200 else (l0.length : Int)) = ji2 := hji2
  by_cases c3 : 0 ≤ (ji2)
  · rw [if_pos c3] at H
    have c3b0 := eq_true c3
    have c3b1 : decide (0 ≤ (ji2)) = true := decide_eq_true c3
    clear c3
    by_cases c4 : (ji2) ≤ (l0.length : Int)
    · rw [if_pos c4] at H
      have c4b0 := eq_true c4
      have c4b1 : decide ((ji2) ≤ (l0.length : Int)) = true := decide_eq_true c4
      clear c4
      obtain ⟨y236, hy236⟩ : ∃ y_ : List Int, y_ = (l0.take ((ji2) : Int).toNat) := ⟨_, rfl⟩
      replace H : ((tail_Shortest.f k y236).bind fun t240 => (if (y236.length : Int) = 0 then ((cuecardlaw09_alive.f k).bind fun t241 => (if t241 = true then (some (t240 == 0)) else (some false))) else (if t240 < 1 then (cuecardlaw09_TailShort.j0 k y236 t240 true) else (cuecardlaw09_TailShort.j0 k y236 t240 (decide (t240 > (y236.length : Int))))))) = some r := by first | (rw [hy236]; with_reducible exact H) | (have H2_ := (Option.bind_some _ _).symm.trans H; rw [hy236]; with_reducible exact H2_) | (have H2_ := (Option.bind_some _ _).symm.trans H; with_reducible exact H2_) | with_reducible exact H | (rw [hy236]; exact H) | exact H
      have Ny236 := Aside0.mk hy236
      clear hy236
      replace H := Option.bind_eq_some_iff.mp H
      obtain ⟨t240, A50, H⟩ := H
      replace H : (if (y236.length : Int) = 0 then ((cuecardlaw09_alive.f k).bind fun t241 => (if t241 = true then (some (t240 == 0)) else (some false))) else (if t240 < 1 then (cuecardlaw09_TailShort.j0 k y236 t240 true) else (cuecardlaw09_TailShort.j0 k y236 t240 (decide (t240 > (y236.length : Int)))))) = some r := H
      have A5 := Aside0.mk A50
      clear A50
      by_cases c6 : (y236.length : Int) = 0
      · rw [if_pos c6] at H
        have c6b0 : ((y236.length : Int) == 0) = true := beq_iff_eq.mpr c6
        have c6b1 : ((y236.length : Int) != 0) = false := bne_eq_false_iff_eq.mpr c6
        clear c6
        replace H := Option.bind_eq_some_iff.mp H
        obtain ⟨t241, A70, H⟩ := H
        replace H : (if t241 = true then (some (t240 == 0)) else (some false)) = some r := H
        have A7 := Aside0.mk A70
        clear A70
        by_cases c8 : t241 = true
        · subst c8
          have H1 : (some (t240 == 0)) = some r := by rw [if_pos rfl] at H; exact H
          clear H
          have H := H1
          clear H1
          obtain rfl := Option.some.inj H
          have q9 : ((ji2) : Int) ≤ ((l0.length : Int) : Int) := of_decide_eq_true (by first | (with_reducible assumption) | assumption)
          obtain ⟨i09, hi09, _, hsz9, _⟩ := info_parts info5
          have hroom9 : l0.length ≤ c0 := HC0.out
          have hC9 : Kd.C (Kd.int .u8) _ A0 l0.length l0 := HR0.out
          have hcut9 := cut_to (P := Try.prog) 22 5 .i64 Try.underlying22 hi09 A0 l0.length c0 (ji2) (of_decide_eq_true (by first | (with_reducible assumption) | assumption)) q9 hroom9
          have hr9 := Kd.C_take (m := ((ji2) : Int).toNat) hC9 (by omega)
          have hy9 : y236.length = ((ji2) : Int).toNat := (by rw [Ny236.out, List.length_take]; omega)
          rw [← Ny236.out] at hr9
          rw [← hy9] at hcut9
          have HR239 := Aside0.mk hr9
          have HC239 := Aside0.mk (show y236.length ≤ c0 from by omega)
          clear hr9 hC9 hroom9 hi09 hsz9
          have KY9 := Aside0.mk hy9
          clear hy9
          replace q9 := eq_true q9
          go_enter Try.func5, Try.ntmps5
          go_wp2_with (first | (go_at_call 10; (with_reducible refine (tail_Shortest.calls k _ _ y236 t240 _ ?side1 ?side2 A5.out).mono ?_); (case side1 => repeat (first | exact HR239.out | (with_reducible refine Kd.C_alloc ?_ _) | (with_reducible refine Kd.C_drewN ?_ _) | (with_reducible refine Kd.C_drew ?_))); (case side2 => exact HC239.out); rintro e w10 ⟨rfl, hb⟩; have n0_ := Aside0.mk (below_step (by repeat (first | (with_reducible first | exact HB.out | apply below_alloc | apply pw_below_drewN | apply below_drew1) | exact HB.out)) hb); clear HB; have HB := n0_; clear n0_; (try clear hb); (try clear hb2); (try clear hk); (try clear hi)) | (go_at_call 12; (with_reducible refine (cuecardlaw09_alive.calls k  true _ A7.out).mono ?_); rintro e w11 ⟨rfl, hb⟩; have n0_ := Aside0.mk (below_step (by repeat (first | (with_reducible first | exact HB.out | apply below_alloc | apply pw_below_drewN | apply below_drew1) | exact HB.out)) hb); clear HB; have HB := n0_; clear n0_; (try clear hb); (try clear hb2); (try clear hk); (try clear hi)))
          repeat (go_quiet (first | (go_at_call 10; (with_reducible refine (tail_Shortest.calls k _ _ y236 t240 _ ?side1 ?side2 A5.out).mono ?_); (case side1 => repeat (first | exact HR239.out | (with_reducible refine Kd.C_alloc ?_ _) | (with_reducible refine Kd.C_drewN ?_ _) | (with_reducible refine Kd.C_drew ?_))); (case side2 => exact HC239.out); rintro e w10 ⟨rfl, hb⟩; have n0_ := Aside0.mk (below_step (by repeat (first | (with_reducible first | exact HB.out | apply below_alloc | apply pw_below_drewN | apply below_drew1) | exact HB.out)) hb); clear HB; have HB := n0_; clear n0_; (try clear hb); (try clear hb2); (try clear hk); (try clear hi)) | (go_at_call 12; (with_reducible refine (cuecardlaw09_alive.calls k  true _ A7.out).mono ?_); rintro e w11 ⟨rfl, hb⟩; have n0_ := Aside0.mk (below_step (by repeat (first | (with_reducible first | exact HB.out | apply below_alloc | apply pw_below_drewN | apply below_drew1) | exact HB.out)) hb); clear HB; have HB := n0_; clear n0_; (try clear hb); (try clear hb2); (try clear hk); (try clear hi))); try go_wp2_with (first | (go_at_call 10; (with_reducible refine (tail_Shortest.calls k _ _ y236 t240 _ ?side1 ?side2 A5.out).mono ?_); (case side1 => repeat (first | exact HR239.out | (with_reducible refine Kd.C_alloc ?_ _) | (with_reducible refine Kd.C_drewN ?_ _) | (with_reducible refine Kd.C_drew ?_))); (case side2 => exact HC239.out); rintro e w10 ⟨rfl, hb⟩; have n0_ := Aside0.mk (below_step (by repeat (first | (with_reducible first | exact HB.out | apply below_alloc | apply pw_below_drewN | apply below_drew1) | exact HB.out)) hb); clear HB; have HB := n0_; clear n0_; (try clear hb); (try clear hb2); (try clear hk); (try clear hi)) | (go_at_call 12; (with_reducible refine (cuecardlaw09_alive.calls k  true _ A7.out).mono ?_); rintro e w11 ⟨rfl, hb⟩; have n0_ := Aside0.mk (below_step (by repeat (first | (with_reducible first | exact HB.out | apply below_alloc | apply pw_below_drewN | apply below_drew1) | exact HB.out)) hb); clear HB; have HB := n0_; clear n0_; (try clear hb); (try clear hb2); (try clear hk); (try clear hi))))
          go_ret
          exact ⟨by first | rfl | (simp [errW_none, errW_some] <;> rfl) | (simp only [← hji2]; first | rfl | (simp [errW_none, errW_some] <;> rfl)) | (simp [*, errW_none, errW_some] <;> rfl), by repeat (first | (with_reducible first | exact HB.out | apply below_alloc | apply pw_below_drewN | apply below_drew1) | exact HB.out)⟩
        · replace c8 := Bool.eq_false_iff.mpr c8
          subst c8
          have H1 : (some false) = some r := by rw [if_neg (show ¬ (false = true) by decide)] at H; exact H
          clear H
          have H := H1
          clear H1
          obtain rfl := Option.some.inj H
          have q12 : ((ji2) : Int) ≤ ((l0.length : Int) : Int) := of_decide_eq_true (by first | (with_reducible assumption) | assumption)
          obtain ⟨i012, hi012, _, hsz12, _⟩ := info_parts info5
          have hroom12 : l0.length ≤ c0 := HC0.out
          have hC12 : Kd.C (Kd.int .u8) _ A0 l0.length l0 := HR0.out
          have hcut12 := cut_to (P := Try.prog) 22 5 .i64 Try.underlying22 hi012 A0 l0.length c0 (ji2) (of_decide_eq_true (by first | (with_reducible assumption) | assumption)) q12 hroom12
          have hr12 := Kd.C_take (m := ((ji2) : Int).toNat) hC12 (by omega)
          have hy12 : y236.length = ((ji2) : Int).toNat := (by rw [Ny236.out, List.length_take]; omega)
          rw [← Ny236.out] at hr12
          rw [← hy12] at hcut12
          have HR239 := Aside0.mk hr12
          have HC239 := Aside0.mk (show y236.length ≤ c0 from by omega)
          clear hr12 hC12 hroom12 hi012 hsz12
          have KY12 := Aside0.mk hy12
          clear hy12
          replace q12 := eq_true q12
          go_enter Try.func5, Try.ntmps5
          go_wp2_with (first | (go_at_call 10; (with_reducible refine (tail_Shortest.calls k _ _ y236 t240 _ ?side1 ?side2 A5.out).mono ?_); (case side1 => repeat (first | exact HR239.out | (with_reducible refine Kd.C_alloc ?_ _) | (with_reducible refine Kd.C_drewN ?_ _) | (with_reducible refine Kd.C_drew ?_))); (case side2 => exact HC239.out); rintro e w13 ⟨rfl, hb⟩; have n0_ := Aside0.mk (below_step (by repeat (first | (with_reducible first | exact HB.out | apply below_alloc | apply pw_below_drewN | apply below_drew1) | exact HB.out)) hb); clear HB; have HB := n0_; clear n0_; (try clear hb); (try clear hb2); (try clear hk); (try clear hi)) | (go_at_call 12; (with_reducible refine (cuecardlaw09_alive.calls k  false _ A7.out).mono ?_); rintro e w14 ⟨rfl, hb⟩; have n0_ := Aside0.mk (below_step (by repeat (first | (with_reducible first | exact HB.out | apply below_alloc | apply pw_below_drewN | apply below_drew1) | exact HB.out)) hb); clear HB; have HB := n0_; clear n0_; (try clear hb); (try clear hb2); (try clear hk); (try clear hi)))
          repeat (go_quiet (first | (go_at_call 10; (with_reducible refine (tail_Shortest.calls k _ _ y236 t240 _ ?side1 ?side2 A5.out).mono ?_); (case side1 => repeat (first | exact HR239.out | (with_reducible refine Kd.C_alloc ?_ _) | (with_reducible refine Kd.C_drewN ?_ _) | (with_reducible refine Kd.C_drew ?_))); (case side2 => exact HC239.out); rintro e w13 ⟨rfl, hb⟩; have n0_ := Aside0.mk (below_step (by repeat (first | (with_reducible first | exact HB.out | apply below_alloc | apply pw_below_drewN | apply below_drew1) | exact HB.out)) hb); clear HB; have HB := n0_; clear n0_; (try clear hb); (try clear hb2); (try clear hk); (try clear hi)) | (go_at_call 12; (with_reducible refine (cuecardlaw09_alive.calls k  false _ A7.out).mono ?_); rintro e w14 ⟨rfl, hb⟩; have n0_ := Aside0.mk (below_step (by repeat (first | (with_reducible first | exact HB.out | apply below_alloc | apply pw_below_drewN | apply below_drew1) | exact HB.out)) hb); clear HB; have HB := n0_; clear n0_; (try clear hb); (try clear hb2); (try clear hk); (try clear hi))); try go_wp2_with (first | (go_at_call 10; (with_reducible refine (tail_Shortest.calls k _ _ y236 t240 _ ?side1 ?side2 A5.out).mono ?_); (case side1 => repeat (first | exact HR239.out | (with_reducible refine Kd.C_alloc ?_ _) | (with_reducible refine Kd.C_drewN ?_ _) | (with_reducible refine Kd.C_drew ?_))); (case side2 => exact HC239.out); rintro e w13 ⟨rfl, hb⟩; have n0_ := Aside0.mk (below_step (by repeat (first | (with_reducible first | exact HB.out | apply below_alloc | apply pw_below_drewN | apply below_drew1) | exact HB.out)) hb); clear HB; have HB := n0_; clear n0_; (try clear hb); (try clear hb2); (try clear hk); (try clear hi)) | (go_at_call 12; (with_reducible refine (cuecardlaw09_alive.calls k  false _ A7.out).mono ?_); rintro e w14 ⟨rfl, hb⟩; have n0_ := Aside0.mk (below_step (by repeat (first | (with_reducible first | exact HB.out | apply below_alloc | apply pw_below_drewN | apply below_drew1) | exact HB.out)) hb); clear HB; have HB := n0_; clear n0_; (try clear hb); (try clear hb2); (try clear hk); (try clear hi))))
          go_ret
          exact ⟨by first | rfl | (simp [errW_none, errW_some] <;> rfl) | (simp only [← hji2]; first | rfl | (simp [errW_none, errW_some] <;> rfl)) | (simp [*, errW_none, errW_some] <;> rfl), by repeat (first | (with_reducible first | exact HB.out | apply below_alloc | apply pw_below_drewN | apply below_drew1) | exact HB.out)⟩
      · rw [if_neg c6] at H
        have c6b0 : ((y236.length : Int) == 0) = false := beq_eq_false_iff_ne.mpr c6
        have c6b1 : ((y236.length : Int) != 0) = true := bne_iff_ne.mpr c6
        have c6b2 : ¬ (y236 = []) := fun h_ => c6 (by rw [h_]; rfl)
        have HC15 := Aside0.mk H
        clear H
        have q16 : ((ji2) : Int) ≤ ((l0.length : Int) : Int) := of_decide_eq_true (by first | (with_reducible assumption) | assumption)
        obtain ⟨i016, hi016, _, hsz16, _⟩ := info_parts info5
        have hroom16 : l0.length ≤ c0 := HC0.out
        have hC16 : Kd.C (Kd.int .u8) _ A0 l0.length l0 := HR0.out
        have hcut16 := cut_to (P := Try.prog) 22 5 .i64 Try.underlying22 hi016 A0 l0.length c0 (ji2) (of_decide_eq_true (by first | (with_reducible assumption) | assumption)) q16 hroom16
        have hr16 := Kd.C_take (m := ((ji2) : Int).toNat) hC16 (by omega)
        have hy16 : y236.length = ((ji2) : Int).toNat := (by rw [Ny236.out, List.length_take]; omega)
        rw [← Ny236.out] at hr16
        rw [← hy16] at hcut16
        have HR239 := Aside0.mk hr16
        have HC239 := Aside0.mk (show y236.length ≤ c0 from by omega)
        clear hr16 hC16 hroom16 hi016 hsz16
        have KY16 := Aside0.mk hy16
        clear hy16
        replace q16 := eq_true q16
        go_enter Try.func5, Try.ntmps5
        go_upto_region 5 with (first | (go_at_call 10; (with_reducible refine (tail_Shortest.calls k _ _ y236 t240 _ ?side1 ?side2 A5.out).mono ?_); (case side1 => repeat (first | exact HR239.out | (with_reducible refine Kd.C_alloc ?_ _) | (with_reducible refine Kd.C_drewN ?_ _) | (with_reducible refine Kd.C_drew ?_))); (case side2 => exact HC239.out); rintro e w17 ⟨rfl, hb⟩; have n0_ := Aside0.mk (below_step (by repeat (first | (with_reducible first | exact HB.out | apply below_alloc | apply pw_below_drewN | apply below_drew1) | exact HB.out)) hb); clear HB; have HB := n0_; clear n0_; (try clear hb); (try clear hb2); (try clear hk); (try clear hi)))
        repeat (go_quiet (first | (go_at_call 10; (with_reducible refine (tail_Shortest.calls k _ _ y236 t240 _ ?side1 ?side2 A5.out).mono ?_); (case side1 => repeat (first | exact HR239.out | (with_reducible refine Kd.C_alloc ?_ _) | (with_reducible refine Kd.C_drewN ?_ _) | (with_reducible refine Kd.C_drew ?_))); (case side2 => exact HC239.out); rintro e w17 ⟨rfl, hb⟩; have n0_ := Aside0.mk (below_step (by repeat (first | (with_reducible first | exact HB.out | apply below_alloc | apply pw_below_drewN | apply below_drew1) | exact HB.out)) hb); clear HB; have HB := n0_; clear n0_; (try clear hb); (try clear hb2); (try clear hk); (try clear hi))); go_upto_region 5 with (first | (go_at_call 10; (with_reducible refine (tail_Shortest.calls k _ _ y236 t240 _ ?side1 ?side2 A5.out).mono ?_); (case side1 => repeat (first | exact HR239.out | (with_reducible refine Kd.C_alloc ?_ _) | (with_reducible refine Kd.C_drewN ?_ _) | (with_reducible refine Kd.C_drew ?_))); (case side2 => exact HC239.out); rintro e w17 ⟨rfl, hb⟩; have n0_ := Aside0.mk (below_step (by repeat (first | (with_reducible first | exact HB.out | apply below_alloc | apply pw_below_drewN | apply below_drew1) | exact HB.out)) hb); clear HB; have HB := n0_; clear n0_; (try clear hb); (try clear hb2); (try clear hk); (try clear hi))))
        (try simp only [Act.put, List.setIfInBounds_toArray, List.set_cons_zero, List.set_cons_succ])
        go_cut [29] (fun v29 wc => ∃ (kq : Nat) (x29_14 : Bool), v29 = .bool x29_14 ∧ Aside0 (cuecardlaw09_TailShort.j0 kq y236 t240 x29_14 = some r) ∧ Aside0 (kq ≤ k) ∧ Aside0 (Below w.heap.size w wc))
        case first =>
          have H := HC15.out
          clear HC15
          by_cases c18 : t240 < 1
          · rw [if_pos c18] at H
            have c18b0 : decide (t240 < 1) = true := decide_eq_true c18
            clear c18
            (first | rw [c18b0] | (simp only [i64_w, i32_w]; rw [c18b0]) | skip)
            have H' := Aside0.mk H
            clear H
            go_wp2
            repeat (go_quiet (fail); try go_wp2)
            go_meet
            case rel => exact ⟨_, (true), (by first | rfl | (simp; done) | (simp [*]; done)), (by first | exact H' | exact ⟨by rw [hji2]; exact H'.out⟩), ⟨by first | omega | exact Nat.le_refl _⟩, ⟨by repeat (first | (with_reducible first | exact HB.out | apply below_alloc | apply pw_below_drewN | apply below_drew1) | exact HB.out)⟩⟩
          · rw [if_neg c18] at H
            have c18b0 : decide (t240 < 1) = false := decide_eq_false c18
            clear c18
            (first | rw [c18b0] | (simp only [i64_w, i32_w]; rw [c18b0]) | skip)
            have H' := Aside0.mk H
            clear H
            go_wp2
            repeat (go_quiet (fail); try go_wp2)
            go_meet
            case rel => exact ⟨_, (decide (t240 > (y236.length : Int))), (by first | rfl | (simp; done) | (simp [*]; done)), (by first | exact H' | exact ⟨by rw [hji2]; exact H'.out⟩), ⟨by first | omega | exact Nat.le_refl _⟩, ⟨by repeat (first | (with_reducible first | exact HB.out | apply below_alloc | apply pw_below_drewN | apply below_drew1) | exact HB.out)⟩⟩
        case rest =>
          clear HC15
          try clear c1
          try clear q1
          try clear p2
          try clear c3
          try clear c3b0
          try clear c3b1
          try clear c4
          try clear c4b0
          try clear c4b1
          try clear c5
          try clear c6
          try clear c6b0
          try clear c6b1
          try clear c6b2
          try clear c8
          try clear q9
          try clear q12
          try clear q16
          try clear c18
          try clear c18b0
          try clear q12
          try clear q16
          try clear q9
          obtain ⟨kq, x29_14, rfl, HA, HJ14, HB⟩ := hcut
          cases kq with
          | zero => exact absurd HA.out (by simp [cuecardlaw09_TailShort.j0])
          | succ kj14 =>
            have H := HA.out
            clear HA
            simp only [cuecardlaw09_TailShort.j0] at H
            by_cases c19 : x29_14 = true
            · subst c19
              have H1 : (some false) = some r := by rw [if_pos rfl] at H; exact H
              clear H
              have H := H1
              clear H1
              obtain rfl := Option.some.inj H
              go_wp2
              repeat (go_quiet (fail); try go_wp2)
              go_ret
              exact ⟨by first | rfl | (simp [errW_none, errW_some] <;> rfl) | (simp only [← hji2]; first | rfl | (simp [errW_none, errW_some] <;> rfl)) | (simp [*, errW_none, errW_some] <;> rfl), by repeat (first | (with_reducible first | exact HB.out | apply below_alloc | apply pw_below_drewN | apply below_drew1) | exact HB.out)⟩
            · replace c19 := Bool.eq_false_iff.mpr c19
              subst c19
              have H1 : (cuecardlaw09_TailShort.l0 kj14 y236 t240 (wrap64 ((y236.length : Int) - t240)) 0) = some r := by rw [if_neg (show ¬ (false = true) by decide)] at H; exact H
              clear H
              have H := H1
              clear H1
              have H' := Aside0.mk H
              clear H
              go_wp2
              repeat (go_quiet (fail); try go_wp2)
              go_loopg [34] kj14 (fun kq v34 w' => ∃ (x34_2 : Int), v34 = .int .i64 x34_2 ∧ Aside0 (cuecardlaw09_TailShort.l0 kq y236 t240 (wrap64 ((y236.length : Int) - t240)) x34_2 = some r) ∧ Aside0 (kq ≤ kj14) ∧ Aside0 (Below w.heap.size w w'))
              case atStart => exact ⟨(0), (by first | rfl | (simp; done) | (simp [*]; done)), H', ⟨Nat.le_refl _⟩, ⟨by repeat (first | (with_reducible first | exact HB.out | apply below_alloc | apply pw_below_drewN | apply below_drew1) | exact HB.out)⟩⟩
              case round =>
                clear H'
                try clear c1
                try clear q1
                try clear p2
                try clear c3
                try clear c3b0
                try clear c3b1
                try clear c4
                try clear c4b0
                try clear c4b1
                try clear c5
                try clear c6
                try clear c6b0
                try clear c6b1
                try clear c6b2
                try clear p6
                try clear c8
                try clear q9
                try clear q12
                try clear q16
                try clear c18
                try clear c18b0
                try clear c19
                try clear p2
                try clear q1
                try clear q12
                try clear q16
                try clear q9
                obtain ⟨x34_2, rfl, HA, HK2, HB⟩ := hrel
                cases gk with
                | zero => exact absurd HA.out (by simp [cuecardlaw09_TailShort.l0])
                | succ k2 =>
                  have H := HA.out
                  clear HA
                  simp only [cuecardlaw09_TailShort.l0] at H
                  by_cases c20 : x34_2 < (wrap64 ((y236.length : Int) - t240))
                  · rw [if_pos c20] at H
                    have c20b0 : decide (x34_2 < (wrap64 ((y236.length : Int) - t240))) = true := decide_eq_true c20
                    clear c20
                    by_cases c21 : 0 ≤ x34_2
                    · rw [if_pos c21] at H
                      have c21b0 := eq_true c21
                      have c21b1 : decide (0 ≤ x34_2) = true := decide_eq_true c21
                      clear c21
                      by_cases c22 : x34_2 ≤ (wrap64 (x34_2 + t240))
                      · rw [if_pos c22] at H
                        have c22b0 := eq_true c22
                        have c22b1 : decide (x34_2 ≤ (wrap64 (x34_2 + t240))) = true := decide_eq_true c22
                        by_cases c23 : (wrap64 (x34_2 + t240)) ≤ (y236.length : Int)
                        · rw [if_pos c23] at H
                          have c23b0 := eq_true c23
                          have c23b1 : decide ((wrap64 (x34_2 + t240)) ≤ (y236.length : Int)) = true := decide_eq_true c23
                          obtain ⟨y242, hy242⟩ : ∃ y_ : List Int, y_ = ((y236.take ((wrap64 (x34_2 + t240)) : Int).toNat).drop (x34_2 : Int).toNat) := ⟨_, rfl⟩
                          replace H : (if 0 ≤ (wrap64 ((y236.length : Int) - t240)) then (if (wrap64 ((y236.length : Int) - t240)) ≤ (y236.length : Int) then (if (strOfNums y242).toList = (strOfNums (y236.drop ((wrap64 ((y236.length : Int) - t240)) : Int).toNat)).toList then (some false) else (cuecardlaw09_TailShort.l0 k2 y236 t240 (wrap64 ((y236.length : Int) - t240)) (wrap64 (x34_2 + 1)))) else (none)) else (none)) = some r := by first | (rw [hy242]; with_reducible exact H) | (have H2_ := (Option.bind_some _ _).symm.trans H; rw [hy242]; with_reducible exact H2_) | (have H2_ := (Option.bind_some _ _).symm.trans H; with_reducible exact H2_) | with_reducible exact H | (rw [hy242]; exact H) | exact H
                          have Ny242 := Aside0.mk hy242
                          clear hy242
                          obtain ⟨ji24, hji24⟩ : ∃ j_ : Int, (wrap64 ((y236.length : Int) - t240)) = j_ := ⟨_, rfl⟩
                          replace H : (if 0 ≤ (ji24) then (if (ji24) ≤ (y236.length : Int) then (if (strOfNums y242).toList = (strOfNums (y236.drop ((ji24) : Int).toNat)).toList then (some false) else (cuecardlaw09_TailShort.l0 k2 y236 t240 (ji24) (wrap64 (x34_2 + 1)))) else (none)) else (none)) = some r := by first | (rw [hji24] at H; exact H) | (simp only [hji24] at H ⊢; exact H)
                          (try rw [hji24] at c20b0)
                          (try rw [hji24] at c20)
                          have hji24w : (IntKind.i64.wrap ((y236.length : Int) - t240)) = ji24 := (i64_w _).trans hji24
                          by_cases c25 : 0 ≤ (ji24)
                          · rw [if_pos c25] at H
                            have c25b0 := eq_true c25
                            have c25b1 : decide (0 ≤ (ji24)) = true := decide_eq_true c25
                            clear c25
                            by_cases c26 : (ji24) ≤ (y236.length : Int)
                            · rw [if_pos c26] at H
                              have c26b0 := eq_true c26
                              have c26b1 : decide ((ji24) ≤ (y236.length : Int)) = true := decide_eq_true c26
                              clear c26
                              obtain ⟨y246, hy246⟩ : ∃ y_ : List Int, y_ = (y236.drop ((ji24) : Int).toNat) := ⟨_, rfl⟩
                              replace H : (if (strOfNums y242).toList = (strOfNums y246).toList then (some false) else (cuecardlaw09_TailShort.l0 k2 y236 t240 (ji24) (wrap64 (x34_2 + 1)))) = some r := by first | (rw [hy246]; with_reducible exact H) | (have H2_ := (Option.bind_some _ _).symm.trans H; rw [hy246]; with_reducible exact H2_) | (have H2_ := (Option.bind_some _ _).symm.trans H; with_reducible exact H2_) | with_reducible exact H | (rw [hy246]; exact H) | exact H
                              have Ny246 := Aside0.mk hy246
                              clear hy246
                              by_cases c27 : (strOfNums y242).toList = (strOfNums y246).toList
                              · rw [if_pos c27] at H
                                have c27b0 : ((strOfNums y242).toList == (strOfNums y246).toList) = true := beq_iff_eq.mpr c27
                                have c27b1 : ((strOfNums y242).toList != (strOfNums y246).toList) = false := bne_eq_false_iff_eq.mpr c27
                                clear c27
                                obtain rfl := Option.some.inj H
                                have q28 : ((wrap64 (x34_2 + t240)) : Int) ≤ ((y236.length : Int) : Int) := of_decide_eq_true (by first | (with_reducible assumption) | assumption)
                                obtain ⟨i028, hi028, _, hsz28, _⟩ := info_parts info5
                                have hroom28 : y236.length ≤ c0 := HC239.out
                                have hC28 : Kd.C (Kd.int .u8) _ A0 y236.length y236 := HR239.out
                                have ql28 : (x34_2 : Int) ≤ ((wrap64 (x34_2 + t240)) : Int) := of_decide_eq_true (by first | (with_reducible assumption) | assumption)
                                have q028 : (0 : Int) ≤ (x34_2 : Int) := of_decide_eq_true (by first | (with_reducible assumption) | assumption)
                                have hcut28 := cut_mid (P := Try.prog) 22 5 .i64 .i64 Try.underlying22 hi028 1 hsz28 A0 y236.length c0 x34_2 (wrap64 (x34_2 + t240)) q028 ql28 q28 hroom28
                                have hr28 := Kd.C_mid (lo := (x34_2 : Int).toNat) (hi := ((wrap64 (x34_2 + t240)) : Int).toNat) (c := c0) hC28 (by omega) (by omega) hroom28
                                obtain ⟨A28, hA28⟩ : ∃ A1, A1 = (if c0 = (x34_2 : Int).toNat then A0 else (A0 : Option Addr).map (·.add ((x34_2 : Int).toNat * 1))) := ⟨_, rfl⟩
                                obtain ⟨c28, hc28⟩ : ∃ c1, c1 = c0 - (x34_2 : Int).toNat := ⟨_, rfl⟩
                                have hy28 : y242.length = ((wrap64 (x34_2 + t240)) : Int).toNat - (x34_2 : Int).toNat := (by rw [Ny242.out, List.length_drop, List.length_take] <;> omega)
                                rw [show ((y236).take ((wrap64 (x34_2 + t240)) : Int).toNat).drop (x34_2 : Int).toNat = y242 from Ny242.out.symm] at hr28
                                replace hr28 : Kd.C (Kd.int .u8) _ A28 y242.length y242 := (by rw [hA28]; exact hr28)
                                rw [← hy28, ← hA28, ← hc28] at hcut28
                                have HR245 := Aside0.mk hr28
                                have HC245 := Aside0.mk (show y242.length ≤ c28 from by rw [hy28, hc28]; exact Nat.sub_le_sub_right (Nat.le_trans (by omega) hroom28) _)
                                clear hr28 hC28 hroom28 hi028 hsz28 hc28
                                have KY28 := Aside0.mk hy28
                                have KA28 := Aside0.mk hA28
                                clear hy28 hA28
                                replace q28 := eq_true q28
                                have hcv29 := Kd.C_string (P := Try.prog) (A := A28) (c := c28) Try.underlying22 Try.underlying5 Try.underlying9 (Kd.C_below HR245.out HB.out)
                                (try (have hcw29 := fun (m_ : Nat) => Kd.C_string (P := Try.prog) (A := A28) (c := c28) Try.underlying22 Try.underlying5 Try.underlying9 (Kd.C_drewN (Kd.C_below HR245.out HB.out) m_)))
                                have q30 : ((ji24) : Int) ≤ ((y236.length : Int) : Int) := of_decide_eq_true (by first | (with_reducible assumption) | assumption)
                                obtain ⟨i030, hi030, _, hsz30, _⟩ := info_parts info5
                                have hroom30 : y236.length ≤ c0 := HC239.out
                                have hC30 : Kd.C (Kd.int .u8) _ A0 y236.length y236 := HR239.out
                                have q030 : (0 : Int) ≤ ((ji24) : Int) := of_decide_eq_true (by first | (with_reducible assumption) | assumption)
                                have hcut30 := cut_from (P := Try.prog) 22 5 .i64 Try.underlying22 hi030 1 hsz30 A0 y236.length c0 (ji24) q030 q30
                                have hr30 := Kd.C_drop (m := ((ji24) : Int).toNat) (c := c0) hC30 (by omega) hroom30
                                obtain ⟨A30, hA30⟩ : ∃ A1, A1 = (if c0 = ((ji24) : Int).toNat then A0 else (A0 : Option Addr).map (·.add (((ji24) : Int).toNat * 1))) := ⟨_, rfl⟩
                                obtain ⟨c30, hc30⟩ : ∃ c1, c1 = c0 - ((ji24) : Int).toNat := ⟨_, rfl⟩
                                have hy30 : y246.length = y236.length - ((ji24) : Int).toNat := (by rw [Ny246.out, List.length_drop] <;> omega)
                                rw [show (y236).drop ((ji24) : Int).toNat = y246 from Ny246.out.symm] at hr30
                                replace hr30 : Kd.C (Kd.int .u8) _ A30 y246.length y246 := (by rw [hA30]; exact hr30)
                                rw [← hy30, ← hA30, ← hc30] at hcut30
                                have HR249 := Aside0.mk hr30
                                have HC249 := Aside0.mk (show y246.length ≤ c30 from by rw [hy30, hc30]; exact Nat.sub_le_sub_right hroom30 _)
                                clear hr30 hC30 hroom30 hi030 hsz30 hc30
                                have KY30 := Aside0.mk hy30
                                have KA30 := Aside0.mk hA30
                                clear hy30 hA30
                                replace q30 := eq_true q30
                                have hcv31 := Kd.C_string (P := Try.prog) (A := A30) (c := c30) Try.underlying22 Try.underlying5 Try.underlying9 (Kd.C_below HR249.out HB.out)
                                (try (have hcw31 := fun (m_ : Nat) => Kd.C_string (P := Try.prog) (A := A30) (c := c30) Try.underlying22 Try.underlying5 Try.underlying9 (Kd.C_drewN (Kd.C_below HR249.out HB.out) m_)))
                                (try (have iw32 : IntKind.i64.wrap ((y236.length : Int) - t240) = wrap64 ((y236.length : Int) - t240) := i64_w _))
                                (try (have iw33 : IntKind.i64.wrap (x34_2 + t240) = wrap64 (x34_2 + t240) := i64_w _))
                                go_wp2
                                repeat (go_quiet (fail); try go_wp2)
                                go_ret
                                exact ⟨by first | rfl | (simp [errW_none, errW_some] <;> rfl) | (simp only [← hji2, ← hji24]; first | rfl | (simp [errW_none, errW_some] <;> rfl)) | (simp [*, errW_none, errW_some] <;> rfl), by repeat (first | (with_reducible first | exact HB.out | apply below_alloc | apply pw_below_drewN | apply below_drew1) | exact HB.out)⟩
                              · rw [if_neg c27] at H
                                have c27b0 : ((strOfNums y242).toList == (strOfNums y246).toList) = false := beq_eq_false_iff_ne.mpr c27
                                have c27b1 : ((strOfNums y242).toList != (strOfNums y246).toList) = true := bne_iff_ne.mpr c27
                                have H' := Aside0.mk H
                                clear H
                                have q34 : ((wrap64 (x34_2 + t240)) : Int) ≤ ((y236.length : Int) : Int) := of_decide_eq_true (by first | (with_reducible assumption) | assumption)
                                obtain ⟨i034, hi034, _, hsz34, _⟩ := info_parts info5
                                have hroom34 : y236.length ≤ c0 := HC239.out
                                have hC34 : Kd.C (Kd.int .u8) _ A0 y236.length y236 := HR239.out
                                have ql34 : (x34_2 : Int) ≤ ((wrap64 (x34_2 + t240)) : Int) := of_decide_eq_true (by first | (with_reducible assumption) | assumption)
                                have q034 : (0 : Int) ≤ (x34_2 : Int) := of_decide_eq_true (by first | (with_reducible assumption) | assumption)
                                have hcut34 := cut_mid (P := Try.prog) 22 5 .i64 .i64 Try.underlying22 hi034 1 hsz34 A0 y236.length c0 x34_2 (wrap64 (x34_2 + t240)) q034 ql34 q34 hroom34
                                have hr34 := Kd.C_mid (lo := (x34_2 : Int).toNat) (hi := ((wrap64 (x34_2 + t240)) : Int).toNat) (c := c0) hC34 (by omega) (by omega) hroom34
                                obtain ⟨A34, hA34⟩ : ∃ A1, A1 = (if c0 = (x34_2 : Int).toNat then A0 else (A0 : Option Addr).map (·.add ((x34_2 : Int).toNat * 1))) := ⟨_, rfl⟩
                                obtain ⟨c34, hc34⟩ : ∃ c1, c1 = c0 - (x34_2 : Int).toNat := ⟨_, rfl⟩
                                have hy34 : y242.length = ((wrap64 (x34_2 + t240)) : Int).toNat - (x34_2 : Int).toNat := (by rw [Ny242.out, List.length_drop, List.length_take] <;> omega)
                                rw [show ((y236).take ((wrap64 (x34_2 + t240)) : Int).toNat).drop (x34_2 : Int).toNat = y242 from Ny242.out.symm] at hr34
                                replace hr34 : Kd.C (Kd.int .u8) _ A34 y242.length y242 := (by rw [hA34]; exact hr34)
                                rw [← hy34, ← hA34, ← hc34] at hcut34
                                have HR245 := Aside0.mk hr34
                                have HC245 := Aside0.mk (show y242.length ≤ c34 from by rw [hy34, hc34]; exact Nat.sub_le_sub_right (Nat.le_trans (by omega) hroom34) _)
                                clear hr34 hC34 hroom34 hi034 hsz34 hc34
                                have KY34 := Aside0.mk hy34
                                have KA34 := Aside0.mk hA34
                                clear hy34 hA34
                                replace q34 := eq_true q34
                                have hcv35 := Kd.C_string (P := Try.prog) (A := A34) (c := c34) Try.underlying22 Try.underlying5 Try.underlying9 (Kd.C_below HR245.out HB.out)
                                (try (have hcw35 := fun (m_ : Nat) => Kd.C_string (P := Try.prog) (A := A34) (c := c34) Try.underlying22 Try.underlying5 Try.underlying9 (Kd.C_drewN (Kd.C_below HR245.out HB.out) m_)))
                                have q36 : ((ji24) : Int) ≤ ((y236.length : Int) : Int) := of_decide_eq_true (by first | (with_reducible assumption) | assumption)
                                obtain ⟨i036, hi036, _, hsz36, _⟩ := info_parts info5
                                have hroom36 : y236.length ≤ c0 := HC239.out
                                have hC36 : Kd.C (Kd.int .u8) _ A0 y236.length y236 := HR239.out
                                have q036 : (0 : Int) ≤ ((ji24) : Int) := of_decide_eq_true (by first | (with_reducible assumption) | assumption)
                                have hcut36 := cut_from (P := Try.prog) 22 5 .i64 Try.underlying22 hi036 1 hsz36 A0 y236.length c0 (ji24) q036 q36
                                have hr36 := Kd.C_drop (m := ((ji24) : Int).toNat) (c := c0) hC36 (by omega) hroom36
                                obtain ⟨A36, hA36⟩ : ∃ A1, A1 = (if c0 = ((ji24) : Int).toNat then A0 else (A0 : Option Addr).map (·.add (((ji24) : Int).toNat * 1))) := ⟨_, rfl⟩
                                obtain ⟨c36, hc36⟩ : ∃ c1, c1 = c0 - ((ji24) : Int).toNat := ⟨_, rfl⟩
                                have hy36 : y246.length = y236.length - ((ji24) : Int).toNat := (by rw [Ny246.out, List.length_drop] <;> omega)
                                rw [show (y236).drop ((ji24) : Int).toNat = y246 from Ny246.out.symm] at hr36
                                replace hr36 : Kd.C (Kd.int .u8) _ A36 y246.length y246 := (by rw [hA36]; exact hr36)
                                rw [← hy36, ← hA36, ← hc36] at hcut36
                                have HR249 := Aside0.mk hr36
                                have HC249 := Aside0.mk (show y246.length ≤ c36 from by rw [hy36, hc36]; exact Nat.sub_le_sub_right hroom36 _)
                                clear hr36 hC36 hroom36 hi036 hsz36 hc36
                                have KY36 := Aside0.mk hy36
                                have KA36 := Aside0.mk hA36
                                clear hy36 hA36
                                replace q36 := eq_true q36
                                have hcv37 := Kd.C_string (P := Try.prog) (A := A36) (c := c36) Try.underlying22 Try.underlying5 Try.underlying9 (Kd.C_below HR249.out HB.out)
                                (try (have hcw37 := fun (m_ : Nat) => Kd.C_string (P := Try.prog) (A := A36) (c := c36) Try.underlying22 Try.underlying5 Try.underlying9 (Kd.C_drewN (Kd.C_below HR249.out HB.out) m_)))
                                (try (have iw38 : IntKind.i64.wrap ((y236.length : Int) - t240) = wrap64 ((y236.length : Int) - t240) := i64_w _))
                                (try (have iw39 : IntKind.i64.wrap (x34_2 + t240) = wrap64 (x34_2 + t240) := i64_w _))
                                go_wp2
                                repeat (go_quiet (fail); try go_wp2)
                                go_roundg k2
                                case measure => have := HJ14.out; have := HK2.out; omega
                                case rel => exact ⟨(wrap64 (x34_2 + 1)), (by first | rfl | (simp; done) | (simp [*]; done)), (by first | exact H' | exact ⟨by rw [hji2]; exact H'.out⟩ | exact ⟨by rw [hji24]; exact H'.out⟩), ⟨by have := HJ14.out; have := HK2.out; omega⟩, ⟨by repeat (first | (with_reducible first | exact HB.out | apply below_alloc | apply pw_below_drewN | apply below_drew1) | exact HB.out)⟩⟩
                            · rw [if_neg c26] at H
                              exact absurd H (by simp)
                          · rw [if_neg c25] at H
                            exact absurd H (by simp)
                        · rw [if_neg c23] at H
                          exact absurd H (by simp)
                      · rw [if_neg c22] at H
                        exact absurd H (by simp)
                    · rw [if_neg c21] at H
                      exact absurd H (by simp)
                  · rw [if_neg c20] at H
                    have c20b0 : decide (x34_2 < (wrap64 ((y236.length : Int) - t240))) = false := decide_eq_false c20
                    clear c20
                    by_cases c40 : t240 = 1
                    · rw [if_pos c40] at H
                      have c40b0 : (t240 == 1) = true := beq_iff_eq.mpr c40
                      have c40b1 : (t240 != 1) = false := bne_eq_false_iff_eq.mpr c40
                      clear c40
                      replace H := Option.bind_eq_some_iff.mp H
                      obtain ⟨t250, A410, H⟩ := H
                      replace H : (some t250) = some r := H
                      have A41 := Aside0.mk A410
                      clear A410
                      obtain rfl := Option.some.inj H
                      (try (have iw43 : IntKind.i64.wrap ((y236.length : Int) - t240) = wrap64 ((y236.length : Int) - t240) := i64_w _))
                      go_wp2_with (first | (go_at_call 12; (with_reducible refine (cuecardlaw09_alive.calls k2  t250 _ A41.out).mono ?_); rintro e w42 ⟨rfl, hb⟩; have n0_ := Aside0.mk (below_step (by repeat (first | (with_reducible first | exact HB.out | apply below_alloc | apply pw_below_drewN | apply below_drew1) | exact HB.out)) hb); clear HB; have HB := n0_; clear n0_; (try clear hb); (try clear hb2); (try clear hk); (try clear hi)))
                      repeat (go_quiet (first | (go_at_call 12; (with_reducible refine (cuecardlaw09_alive.calls k2  t250 _ A41.out).mono ?_); rintro e w42 ⟨rfl, hb⟩; have n0_ := Aside0.mk (below_step (by repeat (first | (with_reducible first | exact HB.out | apply below_alloc | apply pw_below_drewN | apply below_drew1) | exact HB.out)) hb); clear HB; have HB := n0_; clear n0_; (try clear hb); (try clear hb2); (try clear hk); (try clear hi))); try go_wp2_with (first | (go_at_call 12; (with_reducible refine (cuecardlaw09_alive.calls k2  t250 _ A41.out).mono ?_); rintro e w42 ⟨rfl, hb⟩; have n0_ := Aside0.mk (below_step (by repeat (first | (with_reducible first | exact HB.out | apply below_alloc | apply pw_below_drewN | apply below_drew1) | exact HB.out)) hb); clear HB; have HB := n0_; clear n0_; (try clear hb); (try clear hb2); (try clear hk); (try clear hi))))
                      go_ret
                      exact ⟨by first | rfl | (simp [errW_none, errW_some] <;> rfl) | (simp only [← hji2]; first | rfl | (simp [errW_none, errW_some] <;> rfl)) | (simp [*, errW_none, errW_some] <;> rfl), by repeat (first | (with_reducible first | exact HB.out | apply below_alloc | apply pw_below_drewN | apply below_drew1) | exact HB.out)⟩
                    · rw [if_neg c40] at H
                      have c40b0 : (t240 == 1) = false := beq_eq_false_iff_ne.mpr c40
                      have c40b1 : (t240 != 1) = true := bne_iff_ne.mpr c40
                      have H' := Aside0.mk H
                      clear H
                      (try (have iw44 : IntKind.i64.wrap ((y236.length : Int) - t240) = wrap64 ((y236.length : Int) - t240) := i64_w _))
                      go_wp2
                      repeat (go_quiet (fail); try go_wp2)
                      go_loopg [5, 61] k2 (fun kq v5 v61 w' => ∃ (x5_3 : Bool) (x61_3 : Int), v5 = .bool x5_3 ∧ v61 = .int .i64 x61_3 ∧ Aside0 (cuecardlaw09_TailShort.l1 kq y236 t240 x5_3 (wrap64 ((wrap64 ((y236.length : Int) - t240)) + 1)) x61_3 = some r) ∧ Aside0 (kq ≤ k2) ∧ Aside0 (Below w.heap.size w w'))
                      case atStart => exact ⟨(false), (0), (by first | rfl | (simp; done) | (simp [*]; done)), (by first | rfl | (simp; done) | (simp [*]; done)), H', ⟨Nat.le_refl _⟩, ⟨by repeat (first | (with_reducible first | exact HB.out | apply below_alloc | apply pw_below_drewN | apply below_drew1) | exact HB.out)⟩⟩
                      case round =>
                        clear H'
                        try clear c1
                        try clear q1
                        try clear c2
                        try clear p2
                        try clear q2
                        try clear hcv2
                        try clear c3
                        try clear c3b0
                        try clear c3b1
                        try clear q3
                        try clear hcv3
                        try clear c4
                        try clear c4b0
                        try clear c4b1
                        try clear c5
                        try clear c6
                        try clear c6b0
                        try clear c6b1
                        try clear c6b2
                        try clear p6
                        try clear c8
                        try clear q9
                        try clear q12
                        try clear q16
                        try clear c18
                        try clear c18b0
                        try clear c19
                        try clear c20
                        try clear c20b0
                        try clear c21
                        try clear c21b0
                        try clear c21b1
                        try clear c22
                        try clear c22b0
                        try clear c22b1
                        try clear c23
                        try clear c23b0
                        try clear c23b1
                        try clear c25
                        try clear c25b0
                        try clear c25b1
                        try clear c26
                        try clear c26b0
                        try clear c26b1
                        try clear c27
                        try clear c27b0
                        try clear c27b1
                        try clear c28
                        try clear q28
                        try clear hcv29
                        try clear c30
                        try clear q30
                        try clear hcv31
                        try clear c34
                        try clear q34
                        try clear hcv35
                        try clear c36
                        try clear q36
                        try clear hcv37
                        try clear c40
                        try clear c40b0
                        try clear c40b1
                        try clear p2
                        try clear p6
                        try clear q028
                        try clear q030
                        try clear q034
                        try clear q036
                        try clear q1
                        try clear q12
                        try clear q16
                        try clear q28
                        try clear q30
                        try clear q34
                        try clear q36
                        try clear q9
                        obtain ⟨x5_3, x61_3, rfl, rfl, HA, HK3, HB⟩ := hrel
                        cases gk with
                        | zero => exact absurd HA.out (by simp [cuecardlaw09_TailShort.l1])
                        | succ k3 =>
                          have H := HA.out
                          clear HA
                          simp only [cuecardlaw09_TailShort.l1] at H
                          by_cases c45 : x61_3 < (wrap64 ((wrap64 ((y236.length : Int) - t240)) + 1))
                          · rw [if_pos c45] at H
                            have c45b0 : decide (x61_3 < (wrap64 ((wrap64 ((y236.length : Int) - t240)) + 1))) = true := decide_eq_true c45
                            clear c45
                            by_cases c46 : x5_3 = true
                            · subst c46
                              have H1 : (cuecardlaw09_TailShort.l1 k3 y236 t240 true (wrap64 ((wrap64 ((y236.length : Int) - t240)) + 1)) (wrap64 (x61_3 + 1))) = some r := by rw [if_pos rfl] at H; exact H
                              clear H
                              have H := H1
                              clear H1
                              have H' := Aside0.mk H
                              clear H
                              (try (have iw47 : IntKind.i64.wrap ((y236.length : Int) - t240) = wrap64 ((y236.length : Int) - t240) := i64_w _))
                              (try (have iw48 : IntKind.i64.wrap ((wrap64 ((y236.length : Int) - t240)) + 1) = wrap64 ((wrap64 ((y236.length : Int) - t240)) + 1) := i64_w _))
                              go_wp2
                              repeat (go_quiet (fail); try go_wp2)
                              go_roundg k3
                              case measure => have := HJ14.out; have := HK2.out; have := HK3.out; omega
                              case rel => exact ⟨(true), (wrap64 (x61_3 + 1)), (by first | rfl | (simp; done) | (simp [*]; done)), (by first | rfl | (simp; done) | (simp [*]; done)), (by first | exact H' | exact ⟨by rw [hji24]; exact H'.out⟩), ⟨by have := HJ14.out; have := HK2.out; have := HK3.out; omega⟩, ⟨by repeat (first | (with_reducible first | exact HB.out | apply below_alloc | apply pw_below_drewN | apply below_drew1) | exact HB.out)⟩⟩
                            · replace c46 := Bool.eq_false_iff.mpr c46
                              subst c46
                              have H1 : (if 0 ≤ x61_3 then (if x61_3 ≤ (wrap64 ((wrap64 (x61_3 + t240)) - 1)) then (if (wrap64 ((wrap64 (x61_3 + t240)) - 1)) ≤ (y236.length : Int) then (if 0 ≤ (wrap64 ((wrap64 ((y236.length : Int) - t240)) + 1)) then (if (wrap64 ((wrap64 ((y236.length : Int) - t240)) + 1)) ≤ (y236.length : Int) then (cuecardlaw09_TailShort.l1 k3 y236 t240 ((strOfNums ((y236.take ((wrap64 ((wrap64 (x61_3 + t240)) - 1)) : Int).toNat).drop (x61_3 : Int).toNat)).toList == (strOfNums (y236.drop ((wrap64 ((wrap64 ((y236.length : Int) - t240)) + 1)) : Int).toNat)).toList) (wrap64 ((wrap64 ((y236.length : Int) - t240)) + 1)) (wrap64 (x61_3 + 1))) else (none)) else (none)) else (none)) else (none)) else (none)) = some r := by rw [if_neg (show ¬ (false = true) by decide)] at H; exact H
                              clear H
                              have H := H1
                              clear H1
                              by_cases c49 : 0 ≤ x61_3
                              · rw [if_pos c49] at H
                                have c49b0 := eq_true c49
                                have c49b1 : decide (0 ≤ x61_3) = true := decide_eq_true c49
                                clear c49
                                by_cases c50 : x61_3 ≤ (wrap64 ((wrap64 (x61_3 + t240)) - 1))
                                · rw [if_pos c50] at H
                                  have c50b0 := eq_true c50
                                  have c50b1 : decide (x61_3 ≤ (wrap64 ((wrap64 (x61_3 + t240)) - 1))) = true := decide_eq_true c50
                                  by_cases c51 : (wrap64 ((wrap64 (x61_3 + t240)) - 1)) ≤ (y236.length : Int)
                                  · rw [if_pos c51] at H
                                    have c51b0 := eq_true c51
                                    have c51b1 : decide ((wrap64 ((wrap64 (x61_3 + t240)) - 1)) ≤ (y236.length : Int)) = true := decide_eq_true c51
                                    obtain ⟨y251, hy251⟩ : ∃ y_ : List Int, y_ = ((y236.take ((wrap64 ((wrap64 (x61_3 + t240)) - 1)) : Int).toNat).drop (x61_3 : Int).toNat) := ⟨_, rfl⟩
                                    replace H : (if 0 ≤ (wrap64 ((wrap64 ((y236.length : Int) - t240)) + 1)) then (if (wrap64 ((wrap64 ((y236.length : Int) - t240)) + 1)) ≤ (y236.length : Int) then (cuecardlaw09_TailShort.l1 k3 y236 t240 ((strOfNums y251).toList == (strOfNums (y236.drop ((wrap64 ((wrap64 ((y236.length : Int) - t240)) + 1)) : Int).toNat)).toList) (wrap64 ((wrap64 ((y236.length : Int) - t240)) + 1)) (wrap64 (x61_3 + 1))) else (none)) else (none)) = some r := by first | (rw [hy251]; with_reducible exact H) | (have H2_ := (Option.bind_some _ _).symm.trans H; rw [hy251]; with_reducible exact H2_) | (have H2_ := (Option.bind_some _ _).symm.trans H; with_reducible exact H2_) | with_reducible exact H | (rw [hy251]; exact H) | exact H
                                    have Ny251 := Aside0.mk hy251
                                    clear hy251
                                    obtain ⟨ji52, hji52⟩ : ∃ j_ : Int, (wrap64 ((wrap64 ((y236.length : Int) - t240)) + 1)) = j_ := ⟨_, rfl⟩
                                    replace H : (if 0 ≤ (ji52) then (if (ji52) ≤ (y236.length : Int) then (cuecardlaw09_TailShort.l1 k3 y236 t240 ((strOfNums y251).toList == (strOfNums (y236.drop ((ji52) : Int).toNat)).toList) (ji52) (wrap64 (x61_3 + 1))) else (none)) else (none)) = some r := by first | (rw [hji52] at H; exact H) | (simp only [hji52] at H ⊢; exact H)
                                    (try rw [hji52] at c45b0)
                                    (try rw [hji52] at c45)
                                    have hji52w : (IntKind.i64.wrap ((wrap64 ((y236.length : Int) - t240)) + 1)) = ji52 := (i64_w _).trans hji52
                                    by_cases c53 : 0 ≤ (ji52)
                                    · rw [if_pos c53] at H
                                      have c53b0 := eq_true c53
                                      have c53b1 : decide (0 ≤ (ji52)) = true := decide_eq_true c53
                                      clear c53
                                      by_cases c54 : (ji52) ≤ (y236.length : Int)
                                      · rw [if_pos c54] at H
                                        have c54b0 := eq_true c54
                                        have c54b1 : decide ((ji52) ≤ (y236.length : Int)) = true := decide_eq_true c54
                                        clear c54
                                        obtain ⟨y255, hy255⟩ : ∃ y_ : List Int, y_ = (y236.drop ((ji52) : Int).toNat) := ⟨_, rfl⟩
                                        replace H : (cuecardlaw09_TailShort.l1 k3 y236 t240 ((strOfNums y251).toList == (strOfNums y255).toList) (ji52) (wrap64 (x61_3 + 1))) = some r := by first | (rw [hy255]; with_reducible exact H) | (have H2_ := (Option.bind_some _ _).symm.trans H; rw [hy255]; with_reducible exact H2_) | (have H2_ := (Option.bind_some _ _).symm.trans H; with_reducible exact H2_) | with_reducible exact H | (rw [hy255]; exact H) | exact H
                                        have Ny255 := Aside0.mk hy255
                                        clear hy255
                                        have H' := Aside0.mk H
                                        clear H
                                        have q55 : ((wrap64 ((wrap64 (x61_3 + t240)) - 1)) : Int) ≤ ((y236.length : Int) : Int) := of_decide_eq_true (by first | (with_reducible assumption) | assumption)
                                        obtain ⟨i055, hi055, _, hsz55, _⟩ := info_parts info5
                                        have hroom55 : y236.length ≤ c0 := HC239.out
                                        have hC55 : Kd.C (Kd.int .u8) _ A0 y236.length y236 := HR239.out
                                        have ql55 : (x61_3 : Int) ≤ ((wrap64 ((wrap64 (x61_3 + t240)) - 1)) : Int) := of_decide_eq_true (by first | (with_reducible assumption) | assumption)
                                        have q055 : (0 : Int) ≤ (x61_3 : Int) := of_decide_eq_true (by first | (with_reducible assumption) | assumption)
                                        have hcut55 := cut_mid (P := Try.prog) 22 5 .i64 .i64 Try.underlying22 hi055 1 hsz55 A0 y236.length c0 x61_3 (wrap64 ((wrap64 (x61_3 + t240)) - 1)) q055 ql55 q55 hroom55
                                        have hr55 := Kd.C_mid (lo := (x61_3 : Int).toNat) (hi := ((wrap64 ((wrap64 (x61_3 + t240)) - 1)) : Int).toNat) (c := c0) hC55 (by omega) (by omega) hroom55
                                        obtain ⟨A55, hA55⟩ : ∃ A1, A1 = (if c0 = (x61_3 : Int).toNat then A0 else (A0 : Option Addr).map (·.add ((x61_3 : Int).toNat * 1))) := ⟨_, rfl⟩
                                        obtain ⟨c55, hc55⟩ : ∃ c1, c1 = c0 - (x61_3 : Int).toNat := ⟨_, rfl⟩
                                        have hy55 : y251.length = ((wrap64 ((wrap64 (x61_3 + t240)) - 1)) : Int).toNat - (x61_3 : Int).toNat := (by rw [Ny251.out, List.length_drop, List.length_take] <;> omega)
                                        rw [show ((y236).take ((wrap64 ((wrap64 (x61_3 + t240)) - 1)) : Int).toNat).drop (x61_3 : Int).toNat = y251 from Ny251.out.symm] at hr55
                                        replace hr55 : Kd.C (Kd.int .u8) _ A55 y251.length y251 := (by rw [hA55]; exact hr55)
                                        rw [← hy55, ← hA55, ← hc55] at hcut55
                                        have HR254 := Aside0.mk hr55
                                        have HC254 := Aside0.mk (show y251.length ≤ c55 from by rw [hy55, hc55]; exact Nat.sub_le_sub_right (Nat.le_trans (by omega) hroom55) _)
                                        clear hr55 hC55 hroom55 hi055 hsz55 hc55
                                        have KY55 := Aside0.mk hy55
                                        have KA55 := Aside0.mk hA55
                                        clear hy55 hA55
                                        replace q55 := eq_true q55
                                        have hcv56 := Kd.C_string (P := Try.prog) (A := A55) (c := c55) Try.underlying22 Try.underlying5 Try.underlying9 (Kd.C_below HR254.out HB.out)
                                        (try (have hcw56 := fun (m_ : Nat) => Kd.C_string (P := Try.prog) (A := A55) (c := c55) Try.underlying22 Try.underlying5 Try.underlying9 (Kd.C_drewN (Kd.C_below HR254.out HB.out) m_)))
                                        have q57 : ((ji52) : Int) ≤ ((y236.length : Int) : Int) := of_decide_eq_true (by first | (with_reducible assumption) | assumption)
                                        obtain ⟨i057, hi057, _, hsz57, _⟩ := info_parts info5
                                        have hroom57 : y236.length ≤ c0 := HC239.out
                                        have hC57 : Kd.C (Kd.int .u8) _ A0 y236.length y236 := HR239.out
                                        have q057 : (0 : Int) ≤ ((ji52) : Int) := of_decide_eq_true (by first | (with_reducible assumption) | assumption)
                                        have hcut57 := cut_from (P := Try.prog) 22 5 .i64 Try.underlying22 hi057 1 hsz57 A0 y236.length c0 (ji52) q057 q57
                                        have hr57 := Kd.C_drop (m := ((ji52) : Int).toNat) (c := c0) hC57 (by omega) hroom57
                                        obtain ⟨A57, hA57⟩ : ∃ A1, A1 = (if c0 = ((ji52) : Int).toNat then A0 else (A0 : Option Addr).map (·.add (((ji52) : Int).toNat * 1))) := ⟨_, rfl⟩
                                        obtain ⟨c57, hc57⟩ : ∃ c1, c1 = c0 - ((ji52) : Int).toNat := ⟨_, rfl⟩
                                        have hy57 : y255.length = y236.length - ((ji52) : Int).toNat := (by rw [Ny255.out, List.length_drop] <;> omega)
                                        rw [show (y236).drop ((ji52) : Int).toNat = y255 from Ny255.out.symm] at hr57
                                        replace hr57 : Kd.C (Kd.int .u8) _ A57 y255.length y255 := (by rw [hA57]; exact hr57)
                                        rw [← hy57, ← hA57, ← hc57] at hcut57
                                        have HR258 := Aside0.mk hr57
                                        have HC258 := Aside0.mk (show y255.length ≤ c57 from by rw [hy57, hc57]; exact Nat.sub_le_sub_right hroom57 _)
                                        clear hr57 hC57 hroom57 hi057 hsz57 hc57
                                        have KY57 := Aside0.mk hy57
                                        have KA57 := Aside0.mk hA57
                                        clear hy57 hA57
                                        replace q57 := eq_true q57
                                        have hcv58 := Kd.C_string (P := Try.prog) (A := A57) (c := c57) Try.underlying22 Try.underlying5 Try.underlying9 (Kd.C_below HR258.out HB.out)
                                        (try (have hcw58 := fun (m_ : Nat) => Kd.C_string (P := Try.prog) (A := A57) (c := c57) Try.underlying22 Try.underlying5 Try.underlying9 (Kd.C_drewN (Kd.C_below HR258.out HB.out) m_)))
                                        (try (have iw59 : IntKind.i64.wrap ((y236.length : Int) - t240) = wrap64 ((y236.length : Int) - t240) := i64_w _))
                                        (try (have iw60 : IntKind.i64.wrap ((wrap64 ((y236.length : Int) - t240)) + 1) = wrap64 ((wrap64 ((y236.length : Int) - t240)) + 1) := i64_w _))
                                        (try (have iw61 : IntKind.i64.wrap ((wrap64 (x61_3 + t240)) - 1) = wrap64 ((wrap64 (x61_3 + t240)) - 1) := i64_w _))
                                        (try (have iw62 : IntKind.i64.wrap (x61_3 + t240) = wrap64 (x61_3 + t240) := i64_w _))
                                        go_wp2
                                        repeat (go_quiet (fail); try go_wp2)
                                        go_roundg k3
                                        case measure => have := HJ14.out; have := HK2.out; have := HK3.out; omega
                                        case rel => exact ⟨(((strOfNums y251).toList == (strOfNums y255).toList)), (wrap64 (x61_3 + 1)), (by first | rfl | (simp; done) | (simp [*]; done)), (by first | rfl | (simp; done) | (simp [*]; done)), (by first | exact H' | exact ⟨by rw [hji24]; exact H'.out⟩ | exact ⟨by rw [hji52]; exact H'.out⟩), ⟨by have := HJ14.out; have := HK2.out; have := HK3.out; omega⟩, ⟨by repeat (first | (with_reducible first | exact HB.out | apply below_alloc | apply pw_below_drewN | apply below_drew1) | exact HB.out)⟩⟩
                                      · rw [if_neg c54] at H
                                        exact absurd H (by simp)
                                    · rw [if_neg c53] at H
                                      exact absurd H (by simp)
                                  · rw [if_neg c51] at H
                                    exact absurd H (by simp)
                                · rw [if_neg c50] at H
                                  exact absurd H (by simp)
                              · rw [if_neg c49] at H
                                exact absurd H (by simp)
                          · rw [if_neg c45] at H
                            have c45b0 : decide (x61_3 < (wrap64 ((wrap64 ((y236.length : Int) - t240)) + 1))) = false := decide_eq_false c45
                            clear c45
                            replace H := Option.bind_eq_some_iff.mp H
                            obtain ⟨t259, A630, H⟩ := H
                            replace H : (if t259 = true then (some x5_3) else (some false)) = some r := H
                            have A63 := Aside0.mk A630
                            clear A630
                            by_cases c64 : t259 = true
                            · subst c64
                              have H1 : (some x5_3) = some r := by rw [if_pos rfl] at H; exact H
                              clear H
                              have H := H1
                              clear H1
                              obtain rfl := Option.some.inj H
                              (try (have iw66 : IntKind.i64.wrap ((y236.length : Int) - t240) = wrap64 ((y236.length : Int) - t240) := i64_w _))
                              (try (have iw67 : IntKind.i64.wrap ((wrap64 ((y236.length : Int) - t240)) + 1) = wrap64 ((wrap64 ((y236.length : Int) - t240)) + 1) := i64_w _))
                              go_wp2_with (first | (go_at_call 12; (with_reducible refine (cuecardlaw09_alive.calls k3  true _ A63.out).mono ?_); rintro e w65 ⟨rfl, hb⟩; have n0_ := Aside0.mk (below_step (by repeat (first | (with_reducible first | exact HB.out | apply below_alloc | apply pw_below_drewN | apply below_drew1) | exact HB.out)) hb); clear HB; have HB := n0_; clear n0_; (try clear hb); (try clear hb2); (try clear hk); (try clear hi)))
                              repeat (go_quiet (first | (go_at_call 12; (with_reducible refine (cuecardlaw09_alive.calls k3  true _ A63.out).mono ?_); rintro e w65 ⟨rfl, hb⟩; have n0_ := Aside0.mk (below_step (by repeat (first | (with_reducible first | exact HB.out | apply below_alloc | apply pw_below_drewN | apply below_drew1) | exact HB.out)) hb); clear HB; have HB := n0_; clear n0_; (try clear hb); (try clear hb2); (try clear hk); (try clear hi))); try go_wp2_with (first | (go_at_call 12; (with_reducible refine (cuecardlaw09_alive.calls k3  true _ A63.out).mono ?_); rintro e w65 ⟨rfl, hb⟩; have n0_ := Aside0.mk (below_step (by repeat (first | (with_reducible first | exact HB.out | apply below_alloc | apply pw_below_drewN | apply below_drew1) | exact HB.out)) hb); clear HB; have HB := n0_; clear n0_; (try clear hb); (try clear hb2); (try clear hk); (try clear hi))))
                              go_ret
                              exact ⟨by first | rfl | (simp [errW_none, errW_some] <;> rfl) | (simp only [← hji2]; first | rfl | (simp [errW_none, errW_some] <;> rfl)) | (simp [*, errW_none, errW_some] <;> rfl), by repeat (first | (with_reducible first | exact HB.out | apply below_alloc | apply pw_below_drewN | apply below_drew1) | exact HB.out)⟩
                            · replace c64 := Bool.eq_false_iff.mpr c64
                              subst c64
                              have H1 : (some false) = some r := by rw [if_neg (show ¬ (false = true) by decide)] at H; exact H
                              clear H
                              have H := H1
                              clear H1
                              obtain rfl := Option.some.inj H
                              (try (have iw69 : IntKind.i64.wrap ((y236.length : Int) - t240) = wrap64 ((y236.length : Int) - t240) := i64_w _))
                              (try (have iw70 : IntKind.i64.wrap ((wrap64 ((y236.length : Int) - t240)) + 1) = wrap64 ((wrap64 ((y236.length : Int) - t240)) + 1) := i64_w _))
                              go_wp2_with (first | (go_at_call 12; (with_reducible refine (cuecardlaw09_alive.calls k3  false _ A63.out).mono ?_); rintro e w68 ⟨rfl, hb⟩; have n0_ := Aside0.mk (below_step (by repeat (first | (with_reducible first | exact HB.out | apply below_alloc | apply pw_below_drewN | apply below_drew1) | exact HB.out)) hb); clear HB; have HB := n0_; clear n0_; (try clear hb); (try clear hb2); (try clear hk); (try clear hi)))
                              repeat (go_quiet (first | (go_at_call 12; (with_reducible refine (cuecardlaw09_alive.calls k3  false _ A63.out).mono ?_); rintro e w68 ⟨rfl, hb⟩; have n0_ := Aside0.mk (below_step (by repeat (first | (with_reducible first | exact HB.out | apply below_alloc | apply pw_below_drewN | apply below_drew1) | exact HB.out)) hb); clear HB; have HB := n0_; clear n0_; (try clear hb); (try clear hb2); (try clear hk); (try clear hi))); try go_wp2_with (first | (go_at_call 12; (with_reducible refine (cuecardlaw09_alive.calls k3  false _ A63.out).mono ?_); rintro e w68 ⟨rfl, hb⟩; have n0_ := Aside0.mk (below_step (by repeat (first | (with_reducible first | exact HB.out | apply below_alloc | apply pw_below_drewN | apply below_drew1) | exact HB.out)) hb); clear HB; have HB := n0_; clear n0_; (try clear hb); (try clear hb2); (try clear hk); (try clear hi))))
                              go_ret
                              exact ⟨by first | rfl | (simp [errW_none, errW_some] <;> rfl) | (simp only [← hji2]; first | rfl | (simp [errW_none, errW_some] <;> rfl)) | (simp [*, errW_none, errW_some] <;> rfl), by repeat (first | (with_reducible first | exact HB.out | apply below_alloc | apply pw_below_drewN | apply below_drew1) | exact HB.out)⟩
    · rw [if_neg c4] at H
      exact absurd H (by simp)
  · rw [if_neg c3] at H
    exact absurd H (by simp)

end Go.Proofs.Ytdeoingjkomdcaa.QA
