-- Written for this claim by a program of this session's, out of Lean's own print of the program; Lean checks it.
import Derived.Test.YtjcaflhlilckgaaQAx0
import Derived.Test.YtjcaflhlilckgaaQAx1
import Derived.Test.YtjcaflhlilckgaaGAlive
import Derived.Test.YtjcaflhlilckgaaGOf
namespace Go.Proofs.Ytjcaflhlilckgaa.QA
open Go.RowKit Go.Proofs.YtjcaflhlilckgaaW.PrintWords Go.Proofs.YtjcaflhlilckgaaW.PrintLast Go.Proofs.YtjcaflhlilckgaaW.PrintMore
attribute [local go_sem] max2_int min2_int max_two min_two max_three min_three max_four min_four   -- for this text's walks alone
set_option linter.unusedVariables false
set_option linter.unusedSimpArgs false

/-! ### cuecardlaw10_TurnCuts: function 4 -/
def cuecardlaw10_TurnCuts.l0 : Nat → List (S37) → List Int → List (S37) → List (S37) → Int → Int → Option (Bool)
  | 0, _, _, _, _, _, _ => none
  | k + 1, x0, x1, x5, x14, x15, x16 => if x16 < x15 then (if 0 ≤ x16 then (if x16 < (x14.length : Int) then (if x16 < (x1.length : Int) then (if (IntKind.u64.wrap (wrap64 ((((rd_T37 x14 x16).f2).length : Int) + 1))) = 0 then (none) else (if 0 ≤ (wrap64 (Int.tmod (IntKind.u64.wrap (rd x1 x16)) (IntKind.u64.wrap (wrap64 ((((rd_T37 x14 x16).f2).length : Int) + 1))))) then (if (wrap64 (Int.tmod (IntKind.u64.wrap (rd x1 x16)) (IntKind.u64.wrap (wrap64 ((((rd_T37 x14 x16).f2).length : Int) + 1))))) ≤ (((rd_T37 x14 x16).f2).length : Int) then ((some (([(⟨(rd_T37 x14 x16).f0, 0, (((rd_T37 x14 x16).f2).take ((wrap64 (Int.tmod (IntKind.u64.wrap (rd x1 x16)) (IntKind.u64.wrap (wrap64 ((((rd_T37 x14 x16).f2).length : Int) + 1))))) : Int).toNat)⟩ : S37), (⟨(rd_T37 x14 x16).f0, 9, ([] : List Int)⟩ : S37), (⟨(rd_T37 x14 x16).f0, 0, (((rd_T37 x14 x16).f2).drop ((wrap64 (Int.tmod (IntKind.u64.wrap (rd x1 x16)) (IntKind.u64.wrap (wrap64 ((((rd_T37 x14 x16).f2).length : Int) + 1))))) : Int).toNat)⟩ : S37)] : List (S37)) : List (S37))).bind fun y156 => (if x5.length + y156.length < 3518437208883 then (cuecardlaw10_TurnCuts.l0 k x0 x1 (x5 ++ y156) x14 x15 (wrap64 (x16 + 1))) else (none))) else (none)) else (none))) else (if 0 ≤ (((rd_T37 x14 x16).f2).length : Int) then ((some (([(⟨(rd_T37 x14 x16).f0, 0, (((rd_T37 x14 x16).f2).take 0)⟩ : S37), (⟨(rd_T37 x14 x16).f0, 9, ([] : List Int)⟩ : S37), (⟨(rd_T37 x14 x16).f0, 0, (((rd_T37 x14 x16).f2).drop 0)⟩ : S37)] : List (S37)) : List (S37))).bind fun y172 => (if x5.length + y172.length < 3518437208883 then (cuecardlaw10_TurnCuts.l0 k x0 x1 (x5 ++ y172) x14 x15 (wrap64 (x16 + 1))) else (none))) else (none))) else (none)) else (none)) else ((cuecardlaw10_alive.f k).bind fun t178 => (if t178 = true then ((turn_Of.f k x5).bind fun t179 => ((turn_Of.f k x0).bind fun t182 => ((cuecardref10_Same.f k t179 t182).bind fun t185 => (some t185)))) else (some false)))
def cuecardlaw10_TurnCuts.f (k : Nat) (l0 : List (S37)) (l1 : List Int) : Option (Bool) := if 0 ≤ (mn (l0.length : Int) 60) then (if (mn (l0.length : Int) 60) ≤ (l0.length : Int) then ((some (l0.take ((mn (l0.length : Int) 60) : Int).toNat : List (S37))).bind fun y138 => (cuecardlaw10_TurnCuts.l0 k y138 l1 ([] : List (S37)) y138 (y138.length : Int) 0)) else (none)) else (none)
theorem cuecardlaw10_TurnCuts.mono_l : ∀ k, (∀ y0 y1 y2 y3 y4 y5, LeO (cuecardlaw10_TurnCuts.l0 k y0 y1 y2 y3 y4 y5) (cuecardlaw10_TurnCuts.l0 (k + 1) y0 y1 y2 y3 y4 y5))
  | 0 => fun _ _ _ _ _ _ r h => by simp [cuecardlaw10_TurnCuts.l0] at h
  | k + 1 => by
    have ih0 := cuecardlaw10_TurnCuts.mono_l k
    · intro y0 y1 y2 y3 y4 y5
      unfold cuecardlaw10_TurnCuts.l0
      repeat' first
      | (with_reducible exact ih0 _ _ _ _ _ _)
      | (with_reducible exact cuecardlaw10_alive.mono _)
      | (with_reducible exact cuecardref10_Same.mono _ _ _)
      | (with_reducible exact turn_Of.mono _ _)
      | (with_reducible exact LeO.refl _)
      | (with_reducible exact LeO.none _)
      | (with_reducible refine LeO.ite ?_ ?_)
      | (with_reducible refine LeO.bind ?_ (fun _ => ?_))
      | exact ih0 _ _ _ _ _ _
      | exact cuecardlaw10_alive.mono _
      | exact cuecardref10_Same.mono _ _ _
      | exact turn_Of.mono _ _
      | exact LeO.none _
      | refine LeO.ite ?_ ?_
      | refine LeO.bind ?_ (fun _ => ?_)
theorem cuecardlaw10_TurnCuts.mono : ∀ a0 a1 k, LeO (cuecardlaw10_TurnCuts.f k a0 a1) (cuecardlaw10_TurnCuts.f (k + 1) a0 a1) := by
  intro a0 a1 k
  have ih0 := cuecardlaw10_TurnCuts.mono_l k
  unfold cuecardlaw10_TurnCuts.f
  repeat' first
      | (with_reducible exact ih0 _ _ _ _ _ _)
      | (with_reducible exact cuecardlaw10_alive.mono _)
      | (with_reducible exact cuecardref10_Same.mono _ _ _)
      | (with_reducible exact turn_Of.mono _ _)
      | (with_reducible exact LeO.refl _)
      | (with_reducible exact LeO.none _)
      | (with_reducible refine LeO.ite ?_ ?_)
      | (with_reducible refine LeO.bind ?_ (fun _ => ?_))
      | exact ih0 _ _ _ _ _ _
      | exact cuecardlaw10_alive.mono _
      | exact cuecardref10_Same.mono _ _ _
      | exact turn_Of.mono _ _
      | exact LeO.none _
      | refine LeO.ite ?_ ?_
      | refine LeO.bind ?_ (fun _ => ?_)
def cuecardlaw10_TurnCuts.T8 : Bool × List (List Nat × List Nat) := (true, [([], []), ([], []), ([0, 1], [0, 1]), ([2], [2]), ([3], [3]), ([], []), ([5], [5]), ([6], [6]), ([7], [7]), ([8], [8]), ([4, 9], [4, 9]), ([10], [10]), ([11, 0, 1, 2, 3, 4, 5, 6, 7, 8, 9, 10, 11], [11])])
def cuecardlaw10_TurnCuts.B8 : List Nat := [0, 0, 3, 7, 15, 0, 32, 96, 224, 480, 1023, 2047, 4095]
theorem cuecardlaw10_TurnCuts.tab8 : rtab .any (opsOf Try.f4 8) = cuecardlaw10_TurnCuts.T8 := by kernel_rfl
theorem cuecardlaw10_TurnCuts.bits8 : waitsOk cuecardlaw10_TurnCuts.T8.2 cuecardlaw10_TurnCuts.B8 = true := by kernel_rfl
def cuecardlaw10_TurnCuts.T9 : Bool × List (List Nat × List Nat) := (true, [([], []), ([], []), ([1], [1]), ([], []), ([3], [3]), ([], []), ([4, 5], [4, 5]), ([2, 6], [2, 6]), ([], []), ([8], [8]), ([9], [9]), ([], []), ([11], [11]), ([], []), ([13], [13]), ([], []), ([14, 15], [14, 15]), ([12, 16], [12, 16]), ([7, 10, 17], [7, 10, 17]), ([0, 18], [0, 18]), ([19, 19, 0, 1, 2, 3, 4, 5, 6, 7, 8, 9, 10, 11, 12, 13, 14, 15, 16, 17, 18, 19], [0, 19])])
def cuecardlaw10_TurnCuts.B9 : List Nat := [0, 0, 2, 0, 8, 0, 56, 126, 0, 256, 768, 0, 2048, 0, 8192, 0, 57344, 129024, 262142, 524287, 1048575]
theorem cuecardlaw10_TurnCuts.tab9 : rtab .any (opsOf Try.f4 9) = cuecardlaw10_TurnCuts.T9 := by kernel_rfl
theorem cuecardlaw10_TurnCuts.bits9 : waitsOk cuecardlaw10_TurnCuts.T9.2 cuecardlaw10_TurnCuts.B9 = true := by kernel_rfl
set_option maxHeartbeats 8000000 in
set_option maxRecDepth 100000 in
theorem cuecardlaw10_TurnCuts.calls (k : Nat) (P0_ : Nat → Prop) (A0 : Option Addr) (c0 : Nat) (l0 : List (S37)) (A1 : Option Addr) (c1 : Nat) (l1 : List Int) (r : Bool) (w : World) (hs0 : Kd.V k37 37 w w.heap.size (fun k_ => P0_ k_) (.slice A0 l0.length c0) l0) (hr1 : Kd.C (Kd.int .i64) w A1 l1.length l1) (hc1 : l1.length ≤ c1) (h : cuecardlaw10_TurnCuts.f k l0 l1 = some r) :
    Calls Try.prog 4 #[.slice A0 l0.length c0, .slice A1 l1.length c1] w fun e w' => e = .returned (.bool r) ∧ Below w.heap.size w w' := by
  have hu37 := Try.underlying37
  have HO0 := Aside0.mk (show Kd.V k37 37 w w.heap.size (fun k_ => (P0_ k_ ∨ w.heap.size ≤ k_)) (.slice A0 l0.length c0) l0 from Kd.V_mono hs0 (fun k_ hk => .inl hk))
  have HR1 := Aside0.mk hr1
  have HC1 := Aside0.mk hc1
  clear hr1 hc1
  have HB := Aside0.mk (Below.refl w.heap.size w)
  have H : (if 0 ≤ (mn (l0.length : Int) 60) then (if (mn (l0.length : Int) 60) ≤ (l0.length : Int) then ((some (l0.take ((mn (l0.length : Int) 60) : Int).toNat : List (S37))).bind fun y138 => (cuecardlaw10_TurnCuts.l0 k y138 l1 ([] : List (S37)) y138 (y138.length : Int) 0)) else (none)) else (none)) = some r := h
  clear h
  obtain ⟨ji3, hji3⟩ : ∃ j_ : Int, (mn (l0.length : Int) 60) = j_ := ⟨_, rfl⟩
  replace H : (if 0 ≤ (ji3) then (if (ji3) ≤ (l0.length : Int) then ((some (l0.take ((ji3) : Int).toNat : List (S37))).bind fun y138 => (cuecardlaw10_TurnCuts.l0 k y138 l1 ([] : List (S37)) y138 (y138.length : Int) 0)) else (none)) else (none)) = some r := by first | (rw [hji3] at H; exact H) | (simp only [hji3] at H ⊢; exact H)
  (try (have hji3h : ji3 ≤ 60 := by (rw [← hji3]; unfold mn; (repeat' split) <;> omega)))
  (try (have hji3g : ji3 ≤ 64 := by omega))
  (try (have hji3l : 0 ≤ ji3 := by (rw [← hji3]; unfold mn; (repeat' split) <;> omega)))
  (try (have hji3m : 0 ≤ ji3 := by omega))
  have hji3_ : (if 60 < (l0.length : Int) then 60 else (l0.length : Int)) = ji3 := hji3
  by_cases c4 : 0 ≤ (ji3)
  · rw [if_pos c4] at H
    have c4b0 := eq_true c4
    have c4b1 : decide (0 ≤ (ji3)) = true := decide_eq_true c4
    clear c4
    by_cases c5 : (ji3) ≤ (l0.length : Int)
    · rw [if_pos c5] at H
      have c5b0 := eq_true c5
      have c5b1 : decide ((ji3) ≤ (l0.length : Int)) = true := decide_eq_true c5
      clear c5
      obtain ⟨y138, hy138⟩ : ∃ y_ : List (S37), y_ = (l0.take ((ji3) : Int).toNat) := ⟨_, rfl⟩
      replace H : (cuecardlaw10_TurnCuts.l0 k y138 l1 ([] : List (S37)) y138 (y138.length : Int) 0) = some r := by first | (rw [hy138]; with_reducible exact H) | (have H2_ := (Option.bind_some _ _).symm.trans H; rw [hy138]; with_reducible exact H2_) | (have H2_ := (Option.bind_some _ _).symm.trans H; with_reducible exact H2_) | with_reducible exact H | (rw [hy138]; exact H) | exact H
      have Ny138 := Aside0.mk hy138
      clear hy138
      have H' := Aside0.mk H
      clear H
      have q6 : ((ji3) : Int) ≤ ((l0.length : Int) : Int) := of_decide_eq_true (by first | (with_reducible assumption) | assumption)
      obtain ⟨i06, hi06, _, hsz6, _⟩ := info_parts info37
      have hroom6 : l0.length ≤ c0 := (Kd.V_reads' HO0.out).2.1
      have hC6 : Kd.F k37 _ _ A0 l0.length l0 := (Kd.V_at (base := w.heap.size) HO0.out).2.2
      have hcut6 := cut_to (P := Try.prog) 22 37 .i64 Try.underlying22 hi06 A0 l0.length c0 (ji3) (of_decide_eq_true (by first | (with_reducible assumption) | assumption)) q6 hroom6
      have hr6 := Kd.F_take (m := ((ji3) : Int).toNat) hC6 (by omega)
      have hy6 : y138.length = ((ji3) : Int).toNat := (by rw [Ny138.out, List.length_take]; omega)
      rw [← Ny138.out] at hr6
      rw [← hy6] at hcut6
      have HO142 := Aside0.mk (show Kd.V k37 37 _ w.heap.size _ (.slice A0 y138.length c0) y138 from Kd.V_mk (by omega) hr6)
      have HC142 := Aside0.mk (show y138.length ≤ c0 from by omega)
      clear hr6 hC6 hroom6 hi06 hsz6
      have KY6 := Aside0.mk hy6
      clear hy6
      replace q6 := eq_true q6
      go_enter Try.func4, Try.ntmps4
      go_wp2
      go_loopg [5, 16] k (fun kq v5 v16 w' => ∃ (x5_1 : List (S37)) (x16_1 : Int), v16 = .int .i64 x16_1 ∧ Aside0 (cuecardlaw10_TurnCuts.l0 kq y138 l1 x5_1 y138 (y138.length : Int) x16_1 = some r) ∧ Aside0 (kq ≤ k) ∧ Aside0 (Kd.V k37 37 w' w.heap.size (fun k_ => (P0_ k_ ∨ w.heap.size ≤ k_) ∧ some k_ ≠ (v5 : Value).ownBlock) (.slice A0 y138.length c0) y138) ∧ Aside0 (Kd.N k37 37 w' w.heap.size (fun k_ => (P0_ k_ ∨ w.heap.size ≤ k_)) v5 x5_1) ∧ Aside0 (Kd.V k37 37 w' w.heap.size (fun k_ => (P0_ k_ ∨ w.heap.size ≤ k_) ∧ some k_ ≠ (v5 : Value).ownBlock) (.slice A0 y138.length c0) y138) ∧ Aside0 (Below w.heap.size w w'))
      case atStart => exact ⟨(([] : List (S37))), (0), (by first | rfl | (simp; done) | (simp [*]; done)), H', ⟨Nat.le_refl _⟩, ⟨by (with_reducible repeat (first | apply Kd.V_alloc | apply Kd.V_drewN | apply Kd.V_drew)); exact Kd.V_mono HO142.out (fun _ hk => ⟨hk, (by simp [Value.ownBlock])⟩)⟩, ⟨by first | exact Kd.S_nil _ _ _ _ _ | exact Kd.N_nil _ _ _ _ _ | exact Kd.V_nil _ _ _ _ _ | exact Kd.Q_nil _ _ _ _ _ | exact Kd.R_nil _ _ _ _ _⟩, ⟨by (with_reducible repeat (first | apply Kd.V_alloc | apply Kd.V_drewN | apply Kd.V_drew)); exact Kd.V_mono HO142.out (fun _ hk => ⟨hk, (by simp [Value.ownBlock])⟩)⟩, ⟨by repeat (first | (with_reducible first | exact HB.out | apply below_alloc | apply pw_below_drewN | apply below_drew1) | exact HB.out)⟩⟩
      case round =>
        clear H'
        try clear c1
        try clear p2
        try clear c4
        try clear c4b0
        try clear c4b1
        try clear c5
        try clear c5b0
        try clear c5b1
        try clear q6
        try clear q6
        obtain ⟨x5_1, x16_1, rfl, HA, HK1, HO_0, HO_5, HO_14, HB⟩ := hrel
        cases gk with
        | zero => exact absurd HA.out (by simp [cuecardlaw10_TurnCuts.l0])
        | succ k1 =>
          have H := HA.out
          clear HA
          simp only [cuecardlaw10_TurnCuts.l0] at H
          by_cases c7 : x16_1 < (y138.length : Int)
          · rw [if_pos c7] at H
            have c7b0 : decide (x16_1 < (y138.length : Int)) = true := decide_eq_true c7
            clear c7
            by_cases c8 : 0 ≤ x16_1
            · rw [if_pos c8] at H
              have c8b0 : decide (0 ≤ x16_1) = true := decide_eq_true c8
              clear c8
              by_cases c9 : x16_1 < (y138.length : Int)
              · rw [if_pos c9] at H
                have c9b0 : decide (x16_1 < (y138.length : Int)) = true := decide_eq_true c9
                clear c9
                by_cases c10 : x16_1 < (l1.length : Int)
                · rw [if_pos c10] at H
                  have c10b0 : decide (x16_1 < (l1.length : Int)) = true := decide_eq_true c10
                  clear c10
                  by_cases c11 : (IntKind.u64.wrap (wrap64 ((((rd_T37 y138 x16_1).f2).length : Int) + 1))) = 0
                  · rw [if_pos c11] at H
                    exact absurd H (by simp)
                  · rw [if_neg c11] at H
                    have c11b0 : ((IntKind.u64.wrap (wrap64 ((((rd_T37 y138 x16_1).f2).length : Int) + 1))) == 0) = false := beq_eq_false_iff_ne.mpr c11
                    have c11b1 : ((IntKind.u64.wrap (wrap64 ((((rd_T37 y138 x16_1).f2).length : Int) + 1))) != 0) = true := bne_iff_ne.mpr c11
                    obtain ⟨ji12, hji12⟩ : ∃ j_ : Int, (wrap64 (Int.tmod (IntKind.u64.wrap (rd l1 x16_1)) (IntKind.u64.wrap (wrap64 ((((rd_T37 y138 x16_1).f2).length : Int) + 1))))) = j_ := ⟨_, rfl⟩
                    replace H : (if 0 ≤ (ji12) then (if (ji12) ≤ (((rd_T37 y138 x16_1).f2).length : Int) then ((some (([(⟨(rd_T37 y138 x16_1).f0, 0, (((rd_T37 y138 x16_1).f2).take ((ji12) : Int).toNat)⟩ : S37), (⟨(rd_T37 y138 x16_1).f0, 9, ([] : List Int)⟩ : S37), (⟨(rd_T37 y138 x16_1).f0, 0, (((rd_T37 y138 x16_1).f2).drop ((ji12) : Int).toNat)⟩ : S37)] : List (S37)) : List (S37))).bind fun y156 => (if x5_1.length + y156.length < 3518437208883 then (cuecardlaw10_TurnCuts.l0 k1 y138 l1 (x5_1 ++ y156) y138 (y138.length : Int) (wrap64 (x16_1 + 1))) else (none))) else (none)) else (none)) = some r := by first | (rw [hji12] at H; exact H) | (simp only [hji12] at H ⊢; exact H)
                    have hji12w : (IntKind.i64.wrap (Int.tmod (IntKind.u64.wrap (rd l1 x16_1)) (IntKind.u64.wrap (wrap64 ((((rd_T37 y138 x16_1).f2).length : Int) + 1))))) = ji12 := (i64_w _).trans hji12
                    by_cases c13 : 0 ≤ (ji12)
                    · rw [if_pos c13] at H
                      have c13b0 := eq_true c13
                      have c13b1 : decide (0 ≤ (ji12)) = true := decide_eq_true c13
                      clear c13
                      by_cases c14 : (ji12) ≤ (((rd_T37 y138 x16_1).f2).length : Int)
                      · rw [if_pos c14] at H
                        have c14b0 := eq_true c14
                        have c14b1 : decide ((ji12) ≤ (((rd_T37 y138 x16_1).f2).length : Int)) = true := decide_eq_true c14
                        clear c14
                        obtain ⟨y146, hy146⟩ : ∃ y_ : List Int, y_ = (((rd_T37 y138 x16_1).f2).take ((ji12) : Int).toNat) := ⟨_, rfl⟩
                        replace H : ((some (([(⟨(rd_T37 y138 x16_1).f0, 0, y146⟩ : S37), (⟨(rd_T37 y138 x16_1).f0, 9, ([] : List Int)⟩ : S37), (⟨(rd_T37 y138 x16_1).f0, 0, (((rd_T37 y138 x16_1).f2).drop ((ji12) : Int).toNat)⟩ : S37)] : List (S37)) : List (S37))).bind fun y156 => (if x5_1.length + y156.length < 3518437208883 then (cuecardlaw10_TurnCuts.l0 k1 y138 l1 (x5_1 ++ y156) y138 (y138.length : Int) (wrap64 (x16_1 + 1))) else (none))) = some r := by first | (rw [hy146]; with_reducible exact H) | (have H2_ := (Option.bind_some _ _).symm.trans H; rw [hy146]; with_reducible exact H2_) | (have H2_ := (Option.bind_some _ _).symm.trans H; with_reducible exact H2_) | with_reducible exact H | (rw [hy146]; exact H) | exact H
                        have Ny146 := Aside0.mk hy146
                        clear hy146
                        have c15b0 := eq_true (of_decide_eq_true (by first | (with_reducible assumption) | assumption) : 0 ≤ (ji12))
                        have c16b0 := eq_true (of_decide_eq_true (by first | (with_reducible assumption) | assumption) : (ji12) ≤ (((rd_T37 y138 x16_1).f2).length : Int))
                        obtain ⟨y151, hy151⟩ : ∃ y_ : List Int, y_ = (((rd_T37 y138 x16_1).f2).drop ((ji12) : Int).toNat) := ⟨_, rfl⟩
                        replace H : ((some (([(⟨(rd_T37 y138 x16_1).f0, 0, y146⟩ : S37), (⟨(rd_T37 y138 x16_1).f0, 9, ([] : List Int)⟩ : S37), (⟨(rd_T37 y138 x16_1).f0, 0, y151⟩ : S37)] : List (S37)) : List (S37))).bind fun y156 => (if x5_1.length + y156.length < 3518437208883 then (cuecardlaw10_TurnCuts.l0 k1 y138 l1 (x5_1 ++ y156) y138 (y138.length : Int) (wrap64 (x16_1 + 1))) else (none))) = some r := by first | (rw [hy151]; with_reducible exact H) | (have H2_ := (Option.bind_some _ _).symm.trans H; rw [hy151]; with_reducible exact H2_) | (have H2_ := (Option.bind_some _ _).symm.trans H; with_reducible exact H2_) | with_reducible exact H | (rw [hy151]; exact H) | exact H
                        have Ny151 := Aside0.mk hy151
                        clear hy151
                        obtain ⟨y156, hy156⟩ : ∃ y_ : List (S37), y_ = (([(⟨(rd_T37 y138 x16_1).f0, 0, y146⟩ : S37), (⟨(rd_T37 y138 x16_1).f0, 9, ([] : List Int)⟩ : S37), (⟨(rd_T37 y138 x16_1).f0, 0, y151⟩ : S37)] : List (S37))) := ⟨_, rfl⟩
                        replace H : (if x5_1.length + y156.length < 3518437208883 then (cuecardlaw10_TurnCuts.l0 k1 y138 l1 (x5_1 ++ y156) y138 (y138.length : Int) (wrap64 (x16_1 + 1))) else (none)) = some r := by first | (rw [hy156]; with_reducible exact H) | (have H2_ := (Option.bind_some _ _).symm.trans H; rw [hy156]; with_reducible exact H2_) | (have H2_ := (Option.bind_some _ _).symm.trans H; with_reducible exact H2_) | with_reducible exact H | (rw [hy156]; exact H) | exact H
                        have Ny156 := Aside0.mk hy156
                        clear hy156
                        by_cases c17 : x5_1.length + y156.length < 3518437208883
                        · rw [if_pos c17] at H
                          have LMc17 := Aside0.mk c17
                          clear c17
                          obtain ⟨y159, hy159⟩ : ∃ y_ : List (S37), y_ = (x5_1 ++ y156) := ⟨_, rfl⟩
                          replace H : (cuecardlaw10_TurnCuts.l0 k1 y138 l1 y159 y138 (y138.length : Int) (wrap64 (x16_1 + 1))) = some r := by first | (rw [hy159]; with_reducible exact H) | (have H2_ := (Option.bind_some _ _).symm.trans H; rw [hy159]; with_reducible exact H2_) | (have H2_ := (Option.bind_some _ _).symm.trans H; with_reducible exact H2_) | with_reducible exact H | (rw [hy159]; exact H) | exact H
                          have Ny159 := Aside0.mk hy159
                          clear hy159
                          have H' := Aside0.mk H
                          clear H
                          have p143 : 0 ≤ (x16_1 : Int) := of_decide_eq_true (by first | (with_reducible assumption) | assumption)
                          have q143 : x16_1 < (y138.length : Int) := of_decide_eq_true (by first | (with_reducible assumption) | assumption)
                          obtain ⟨ad143, A143_2, c143_2, e143, hx143_0, hx143_1, hx143_2, hl143_2, hi143_2⟩ := at_T37 (Kd.V_reads' HO_14.out).2.2 x16_1 p143 q143
                          cases e143
                          obtain ⟨ce143, hce143, hMe143, hcc143⟩ := Kd.V_get HO_14.out z37 x16_1 p143 (by first | exact q143 | exact of_decide_eq_true (by first | (with_reducible assumption) | assumption) | (have e_ := (Kd.V_reads' HO_14.out).1; omega))
                          obtain ⟨ua143_2, uc143_2, rfl, ul143_2, ge143_2⟩ := k37_openF hMe143
                          have hv143_2 := hcc143 2 _ rfl
                          rw [add_field _ _ 2 (by omega)] at hv143_2
                          replace hv143_2 := Option.some.inj (hv143_2.symm.trans hx143_2)
                          injection hv143_2 with hva_ hvn_ hvc_
                          rw [hva_] at ge143_2
                          rw [hvc_] at ul143_2
                          have HL143_2 := Aside0.mk (show Kd.V (Kd.int .u8) 5 _ w.heap.size _ _ ((rd_T37 y138 x16_1).f2) from Kd.V_mk ul143_2 ge143_2)
                          clear hva_ hvn_ hvc_ ge143_2 ul143_2
                          clear hcc143 hce143
                          have HR143_2 := Aside0.mk hi143_2
                          have HC143_2 := Aside0.mk hl143_2
                          clear hi143_2 hl143_2
                          replace p143 := eq_true p143
                          replace q143 := eq_true q143
                          (try (have iw29 : IntKind.i64.wrap ((((rd_T37 y138 x16_1).f2).length : Int) + 1) = wrap64 ((((rd_T37 y138 x16_1).f2).length : Int) + 1) := i64_w _))
                          try go_wp2_with (first | ((with_reducible refine gate_dst (N := 7) rfl ?_); refine box_event ?hg (N := 7) ?hd (cs := #[.int .i64 0, .int .i64 0, .slice none 0 0]) (t := 37) ?hr ?_; (case hd => rfl); (case hg => rfl); (case hr => first | (go_simp; done) | (go_simp; rfl)); intro gb144 hg w18 hbox hb; have n0_ := Aside0.mk (Kd.V_below (Kd.V_elderB (by (with_reducible repeat (first | apply Kd.V_alloc | apply Kd.V_drewN | apply Kd.V_drew)); exact HO_0.out) gb144 (Nat.le_of_eq hg.symm)) hb); have n1_ := Aside0.mk (Kd.N_below (Kd.N_elderB (by (with_reducible repeat (first | apply Kd.N_alloc | apply Kd.N_drewN | apply Kd.N_drew)); exact HO_5.out) gb144 (Nat.le_of_eq hg.symm)) hb); have n2_ := Aside0.mk (Kd.V_below (Kd.V_elderB (by (with_reducible repeat (first | apply Kd.V_alloc | apply Kd.V_drewN | apply Kd.V_drew)); exact HO_14.out) gb144 (Nat.le_of_eq hg.symm)) hb); have n3_ := Aside0.mk (Kd.V_below (Kd.V_elderB (by (with_reducible repeat (first | apply Kd.V_alloc | apply Kd.V_drewN | apply Kd.V_drew)); exact HL143_2.out) gb144 (Nat.le_of_eq hg.symm)) hb); have n4_ := Aside0.mk (Kd.C_below (by repeat (first | (with_reducible exact HR143_2.out) | (with_reducible refine Kd.C_alloc ?_ _) | (with_reducible refine Kd.C_drewN ?_ _) | (with_reducible refine Kd.C_drew ?_) | exact HR143_2.out)) hb); have n5_ := Aside0.mk (below_step (by repeat (first | (with_reducible first | exact HB.out | apply below_alloc | apply pw_below_drewN | apply below_drew1) | exact HB.out)) hb); have n6_ := Aside0.mk (hbox); have n7_ := Aside0.mk ((by rw [hg]; exact (below_size (by repeat (first | (with_reducible first | exact HB.out | apply below_alloc | apply pw_below_drewN | apply below_drew1) | exact HB.out))) : w.heap.size ≤ gb144)); have n8_ := Aside0.mk ((by rw [hg]; exact (below_size (by repeat (first | (with_reducible first | exact HB.out | apply below_alloc | apply pw_below_drewN | apply below_drew1) | exact HB.out))) : w.heap.size ≤ gb144)); clear HO_0; clear HO_5; clear HO_14; clear HL143_2; clear HR143_2; clear HB; have HO_0 := n0_; have HO_5 := n1_; have HO_14 := n2_; have HL143_2 := n3_; have HR143_2 := n4_; have HB := n5_; have BK144 := n6_; have GW144 := n7_; have GE144 := n8_; clear n0_ n1_ n2_ n3_ n4_ n5_ n6_ n7_ n8_; clear hb hbox hg; have hcz19_0 : w18.cell? ⟨gb144, 0, none⟩ = some (.int .i64 0) := (blk_cell BK144.out 0).trans rfl; have hcz19_1 : w18.cell? ⟨gb144, 1, none⟩ = some (.int .i64 0) := (blk_cell BK144.out 1).trans rfl; have hcz19_2 : w18.cell? ⟨gb144, 2, none⟩ = some (.slice none 0 0) := (blk_cell BK144.out 2).trans rfl; have hfz19_0 := blk_frozen BK144.out 0; have hfz19_1 := blk_frozen BK144.out 1; have hfz19_2 := blk_frozen BK144.out 2))
                          have n0_ : Aside0 (Kd.V k37 37 (((w18.setCell ⟨gb144, 0, none⟩ (.int .i64 ((rd_T37 y138 x16_1).f0))).setCell ⟨gb144, 1, none⟩ (.int .i64 ((rd_T37 y138 x16_1).f1))).setCell ⟨gb144, 2, none⟩ (.slice A143_2 ((rd_T37 y138 x16_1).f2).length c143_2)) w.heap.size (fun k_ => (P0_ k_ ∨ w.heap.size ≤ k_) ∧ some k_ ≠ (u5 : Value).ownBlock ∧ k_ ≠ gb144) (.slice (some ad143) y138.length c0) y138) := ⟨by (with_reducible repeat (first | apply Kd.V_alloc | apply Kd.V_drewN | apply Kd.V_drew)); exact Kd.V_mono (Kd.V_far (p := ⟨gb144, 2, none⟩) (Kd.V_far (p := ⟨gb144, 1, none⟩) (Kd.V_far (p := ⟨gb144, 0, none⟩) (Kd.V_mono HO_0.out (fun k_ hk => (⟨hk, hk.2⟩ : _ ∧ k_ ≠ gb144))) (fun _ hk => hk.2) (.int .i64 ((rd_T37 y138 x16_1).f0))) (fun _ hk => hk.2) (.int .i64 ((rd_T37 y138 x16_1).f1))) (fun _ hk => hk.2) (.slice A143_2 ((rd_T37 y138 x16_1).f2).length c143_2)) (fun _ hk => ⟨hk.1.1.1, ⟨hk.1.1.2, hk.1.2⟩⟩)⟩
                          have n1_ : Aside0 (Kd.N k37 37 (((w18.setCell ⟨gb144, 0, none⟩ (.int .i64 ((rd_T37 y138 x16_1).f0))).setCell ⟨gb144, 1, none⟩ (.int .i64 ((rd_T37 y138 x16_1).f1))).setCell ⟨gb144, 2, none⟩ (.slice A143_2 ((rd_T37 y138 x16_1).f2).length c143_2)) w.heap.size (fun k_ => (P0_ k_ ∨ w.heap.size ≤ k_) ∧ k_ ≠ gb144) u5 x5_1) := ⟨by (with_reducible repeat (first | apply Kd.N_alloc | apply Kd.N_drewN | apply Kd.N_drew)); exact Kd.N_mono (Kd.N_far (p := ⟨gb144, 2, none⟩) (Kd.N_far (p := ⟨gb144, 1, none⟩) (Kd.N_far (p := ⟨gb144, 0, none⟩) (Kd.N_mono HO_5.out (fun k_ hk => (⟨hk, hk.2⟩ : _ ∧ k_ ≠ gb144))) (fun _ hk => hk.2) (.int .i64 ((rd_T37 y138 x16_1).f0))) (fun _ hk => hk.2) (.int .i64 ((rd_T37 y138 x16_1).f1))) (fun _ hk => hk.2) (.slice A143_2 ((rd_T37 y138 x16_1).f2).length c143_2)) (fun _ hk => ⟨hk.1.1, hk.1.2⟩)⟩
                          have n2_ : Aside0 (Kd.V k37 37 (((w18.setCell ⟨gb144, 0, none⟩ (.int .i64 ((rd_T37 y138 x16_1).f0))).setCell ⟨gb144, 1, none⟩ (.int .i64 ((rd_T37 y138 x16_1).f1))).setCell ⟨gb144, 2, none⟩ (.slice A143_2 ((rd_T37 y138 x16_1).f2).length c143_2)) w.heap.size (fun k_ => (P0_ k_ ∨ w.heap.size ≤ k_) ∧ some k_ ≠ (u5 : Value).ownBlock ∧ k_ ≠ gb144) (.slice (some ad143) y138.length c0) y138) := ⟨by (with_reducible repeat (first | apply Kd.V_alloc | apply Kd.V_drewN | apply Kd.V_drew)); exact Kd.V_mono (Kd.V_far (p := ⟨gb144, 2, none⟩) (Kd.V_far (p := ⟨gb144, 1, none⟩) (Kd.V_far (p := ⟨gb144, 0, none⟩) (Kd.V_mono HO_14.out (fun k_ hk => (⟨hk, hk.2⟩ : _ ∧ k_ ≠ gb144))) (fun _ hk => hk.2) (.int .i64 ((rd_T37 y138 x16_1).f0))) (fun _ hk => hk.2) (.int .i64 ((rd_T37 y138 x16_1).f1))) (fun _ hk => hk.2) (.slice A143_2 ((rd_T37 y138 x16_1).f2).length c143_2)) (fun _ hk => ⟨hk.1.1.1, ⟨hk.1.1.2, hk.1.2⟩⟩)⟩
                          have n3_ : Aside0 (Kd.V (Kd.int .u8) 5 (((w18.setCell ⟨gb144, 0, none⟩ (.int .i64 ((rd_T37 y138 x16_1).f0))).setCell ⟨gb144, 1, none⟩ (.int .i64 ((rd_T37 y138 x16_1).f1))).setCell ⟨gb144, 2, none⟩ (.slice A143_2 ((rd_T37 y138 x16_1).f2).length c143_2)) w.heap.size (fun k_ => (P0_ k_ ∨ w.heap.size ≤ k_) ∧ some k_ ≠ (u5 : Value).ownBlock ∧ k_ ≠ gb144) (.slice A143_2 ((rd_T37 y138 x16_1).f2).length c143_2) ((rd_T37 y138 x16_1).f2)) := ⟨by (with_reducible repeat (first | apply Kd.V_alloc | apply Kd.V_drewN | apply Kd.V_drew)); exact Kd.V_mono (Kd.V_far (p := ⟨gb144, 2, none⟩) (Kd.V_far (p := ⟨gb144, 1, none⟩) (Kd.V_far (p := ⟨gb144, 0, none⟩) (Kd.V_mono HL143_2.out (fun k_ hk => (⟨hk, hk.2⟩ : _ ∧ k_ ≠ gb144))) (fun _ hk => hk.2) (.int .i64 ((rd_T37 y138 x16_1).f0))) (fun _ hk => hk.2) (.int .i64 ((rd_T37 y138 x16_1).f1))) (fun _ hk => hk.2) (.slice A143_2 ((rd_T37 y138 x16_1).f2).length c143_2)) (fun _ hk => ⟨hk.1.1.1, ⟨hk.1.1.2, hk.1.2⟩⟩)⟩
                          have n4_ : Aside0 ((((w18.setCell ⟨gb144, 0, none⟩ (.int .i64 ((rd_T37 y138 x16_1).f0))).setCell ⟨gb144, 1, none⟩ (.int .i64 ((rd_T37 y138 x16_1).f1))).setCell ⟨gb144, 2, none⟩ (.slice A143_2 ((rd_T37 y138 x16_1).f2).length c143_2)).heap[gb144]? = some (.cells #[.int .i64 ((rd_T37 y138 x16_1).f0), .int .i64 ((rd_T37 y138 x16_1).f1), .slice A143_2 ((rd_T37 y138 x16_1).f2).length c143_2] 37 (0, 0))) := ⟨by (with_reducible repeat (first | refine blk_drewN ?_ _ | refine blk_drew ?_ | refine blk_alloc ?_ _)); refine blk_put (cs := #[.int .i64 ((rd_T37 y138 x16_1).f0), .int .i64 ((rd_T37 y138 x16_1).f1), .slice none 0 0]) ?_ 2 _ rfl; (with_reducible repeat (first | refine blk_drewN ?_ _ | refine blk_drew ?_ | refine blk_alloc ?_ _)); refine blk_put (cs := #[.int .i64 ((rd_T37 y138 x16_1).f0), .int .i64 0, .slice none 0 0]) ?_ 1 _ rfl; (with_reducible repeat (first | refine blk_drewN ?_ _ | refine blk_drew ?_ | refine blk_alloc ?_ _)); refine blk_put (cs := #[.int .i64 0, .int .i64 0, .slice none 0 0]) ?_ 0 _ rfl; (with_reducible repeat (first | refine blk_drewN ?_ _ | refine blk_drew ?_ | refine blk_alloc ?_ _)); exact BK144.out⟩
                          have n5_ : Aside0 (Below w.heap.size w (((w18.setCell ⟨gb144, 0, none⟩ (.int .i64 ((rd_T37 y138 x16_1).f0))).setCell ⟨gb144, 1, none⟩ (.int .i64 ((rd_T37 y138 x16_1).f1))).setCell ⟨gb144, 2, none⟩ (.slice A143_2 ((rd_T37 y138 x16_1).f2).length c143_2))) := ⟨by repeat (first | (with_reducible first | exact HB.out | apply below_alloc | apply pw_below_drewN | apply below_drew1 | refine below_set ?_ GE144.out) | exact HB.out)⟩
                          (try clear HO_0)
                          (try clear HO_5)
                          (try clear HO_14)
                          (try clear HL143_2)
                          (try clear BK144)
                          (try clear HB)
                          generalize (((w18.setCell ⟨gb144, 0, none⟩ (.int .i64 ((rd_T37 y138 x16_1).f0))).setCell ⟨gb144, 1, none⟩ (.int .i64 ((rd_T37 y138 x16_1).f1))).setCell ⟨gb144, 2, none⟩ (.slice A143_2 ((rd_T37 y138 x16_1).f2).length c143_2)) = w20 at n0_ n1_ n2_ n3_ n4_ n5_ ⊢
                          have HO_0 := n0_
                          have HO_5 := n1_
                          have HO_14 := n2_
                          have HL143_2 := n3_
                          have BK144 := n4_
                          have HB := n5_
                          clear n0_ n1_ n2_ n3_ n4_ n5_
                          have n0_ := Aside0.mk (Kd.V_drew HO_0.out)
                          have n1_ := Aside0.mk (Kd.N_drew HO_5.out)
                          have n2_ := Aside0.mk (Kd.V_drew HO_14.out)
                          have n3_ := Aside0.mk (Kd.V_drew HL143_2.out)
                          have n4_ := Aside0.mk (blk_drew BK144.out)
                          have n5_ := Aside0.mk (below_drew1 HB.out)
                          clear HO_0
                          clear HO_5
                          clear HO_14
                          clear HL143_2
                          clear BK144
                          clear HB
                          have HO_0 := n0_
                          have HO_5 := n1_
                          have HO_14 := n2_
                          have HL143_2 := n3_
                          have BK144 := n4_
                          have HB := n5_
                          clear n0_ n1_ n2_ n3_ n4_ n5_
                          have p145 : 0 ≤ (x16_1 : Int) := of_decide_eq_true (by first | (with_reducible assumption) | assumption)
                          have q145 : x16_1 < (l1.length : Int) := of_decide_eq_true (by first | (with_reducible assumption) | assumption)
                          obtain ⟨ad145, e145, hx145_0⟩ := Kd.at_int HR1.out x16_1 p145 q145
                          have hw145_0 := hx145_0
                          cases e145
                          replace hx145_0 := (HB.out.cell (World.block_lt_of_cell? w _ hx145_0)).trans hx145_0
                          replace p145 := eq_true p145
                          replace q145 := eq_true q145
                          refine start_ (n := 13) (S := fun w' => w'.cell? ⟨gb144, 0, none⟩ = some (.int .i64 ((rd_T37 y138 x16_1).f0)) ∧ w'.cell? ⟨gb144, 1, none⟩ = some (.int .i64 ((rd_T37 y138 x16_1).f1)) ∧ w'.cell? ⟨gb144, 2, none⟩ = some (.slice A143_2 ((rd_T37 y138 x16_1).f2).length c143_2) ∧ w'.cell? (ad145.add (x16_1).toNat) = some (.int .i64 (rd l1 x16_1))) (ds := []) #[false, false, false, false, false, false, false, false, false, false, false, false, false] (by kernel_rfl) rfl rfl ⟨(blk_cell BK144.out 0).trans rfl, (blk_cell BK144.out 1).trans rfl, (blk_cell BK144.out 2).trans rfl, ((HB.out.cell (World.block_lt_of_cell? w _ hw145_0)).trans hw145_0)⟩ (fun hHeld => ?_); refine with_tabW cuecardlaw10_TurnCuts.tab8 cuecardlaw10_TurnCuts.bits8 (fun HT_ HW_ => ?_)
                          generalize w20.drew = w21 at HO_0 HO_5 HO_14 HL143_2 BK144 HB hx145_0 hHeld ⊢
                          refine pure_ (i := 0) (N := some 25) (v := ?_) (a' := ?_) #[true, false, false, false, false, false, false, false, false, false, false, false, false] rfl rfl (any_of HT_.out (by kernel_rfl)) (fun _ _ _ h => h) (Or.inl ⟨by rfl, ?_⟩) ?_ ?_
                          rotate_left
                          · intro w'
                            go_simp
                            with_reducible rfl
                          rotate_left
                          · simp only [Act.put, List.setIfInBounds_toArray, List.set_cons_zero, List.set_cons_succ, i64_w, i32_w]
                            rfl
                          refine pure_ (i := 1) (N := some 26) (v := ?_) (a' := ?_) #[true, true, false, false, false, false, false, false, false, false, false, false, false] rfl rfl (any_of HT_.out (by kernel_rfl)) (fun _ _ _ h => h) (Or.inl ⟨by rfl, ?_⟩) ?_ ?_
                          rotate_left
                          · intro w'
                            go_simp
                            with_reducible rfl
                          rotate_left
                          · simp only [Act.put, List.setIfInBounds_toArray, List.set_cons_zero, List.set_cons_succ, i64_w, i32_w]
                            rfl
                          refine pure_ (i := 2) (N := some 27) (v := ?_) (a' := ?_) #[true, true, true, false, false, false, false, false, false, false, false, false, false] rfl rfl (any_of HT_.out (by kernel_rfl)) (fun _ _ _ h => h) (Or.inl ⟨by rfl, ?_⟩) ?_ ?_
                          rotate_left
                          · intro w'
                            go_simp
                            with_reducible rfl
                          rotate_left
                          · simp only [Act.put, List.setIfInBounds_toArray, List.set_cons_zero, List.set_cons_succ, i64_w, i32_w]
                            rfl
                          refine pure_ (i := 5) (N := some 30) (v := ?_) (a' := ?_) #[true, true, true, false, false, true, false, false, false, false, false, false, false] rfl rfl (any_of HT_.out (by kernel_rfl)) (fun _ _ _ h => h) (Or.inl ⟨by rfl, ?_⟩) ?_ ?_
                          rotate_left
                          · intro w'
                            go_simp
                            with_reducible rfl
                          rotate_left
                          · simp only [Act.put, List.setIfInBounds_toArray, List.set_cons_zero, List.set_cons_succ, i64_w, i32_w]
                            rfl
                          refine take_ (i := 3) (N := some 28) (v := ?_) (a' := ?_) #[true, true, true, true, false, true, false, false, false, false, false, false, false] rfl rfl (take_ofW HT_.out HW_.out (by kernel_rfl)) (fun _ _ _ h => h) (Or.inl ⟨by rfl, ?_⟩) hHeld ?_ ?_
                          rotate_left
                          · rintro w' ⟨s0, s1, s2, s3⟩
                            go_simp
                            with_reducible rfl
                          rotate_left
                          · simp only [Act.put, List.setIfInBounds_toArray, List.set_cons_zero, List.set_cons_succ, i64_w, i32_w]
                            rfl
                          refine pure_ (i := 4) (N := some 29) (v := ?_) (a' := ?_) #[true, true, true, true, true, true, false, false, false, false, false, false, false] rfl rfl (any_of HT_.out (by kernel_rfl)) (fun _ _ _ h => h) (Or.inl ⟨by rfl, ?_⟩) ?_ ?_
                          rotate_left
                          · intro w'
                            go_simp
                            with_reducible rfl
                          rotate_left
                          · simp only [Act.put, List.setIfInBounds_toArray, List.set_cons_zero, List.set_cons_succ, i64_w, i32_w]
                            rfl
                          refine take_ (i := 6) (N := some 31) (v := ?_) (a' := ?_) #[true, true, true, true, true, true, true, false, false, false, false, false, false] rfl rfl (take_ofW HT_.out HW_.out (by kernel_rfl)) (fun _ _ _ h => h) (Or.inl ⟨by rfl, ?_⟩) hHeld ?_ ?_
                          rotate_left
                          · rintro w' ⟨s0, s1, s2, s3⟩
                            go_simp
                            with_reducible rfl
                          rotate_left
                          · simp only [Act.put, List.setIfInBounds_toArray, List.set_cons_zero, List.set_cons_succ, i64_w, i32_w]
                            rfl
                          refine pure_ (i := 7) (N := some 32) (v := ?_) (a' := ?_) #[true, true, true, true, true, true, true, true, false, false, false, false, false] rfl rfl (any_of HT_.out (by kernel_rfl)) (fun _ _ _ h => h) (Or.inl ⟨by rfl, ?_⟩) ?_ ?_
                          rotate_left
                          · intro w'
                            go_simp
                            with_reducible rfl
                          rotate_left
                          · simp only [Act.put, List.setIfInBounds_toArray, List.set_cons_zero, List.set_cons_succ, i64_w, i32_w]
                            rfl
                          refine pure_ (i := 8) (N := some 33) (v := ?_) (a' := ?_) #[true, true, true, true, true, true, true, true, true, false, false, false, false] rfl rfl (any_of HT_.out (by kernel_rfl)) (fun _ _ _ h => h) (Or.inl ⟨by rfl, ?_⟩) ?_ ?_
                          rotate_left
                          · intro w'
                            go_simp
                            with_reducible rfl
                          rotate_left
                          · simp only [Act.put, List.setIfInBounds_toArray, List.set_cons_zero, List.set_cons_succ, i64_w, i32_w]
                            rfl
                          refine pure_ (i := 9) (N := some 34) (v := ?_) (a' := ?_) #[true, true, true, true, true, true, true, true, true, true, false, false, false] rfl rfl (any_of HT_.out (by kernel_rfl)) (fun _ _ _ h => h) (Or.inl ⟨by rfl, ?_⟩) ?_ ?_
                          rotate_left
                          · intro w'
                            go_simp
                            with_reducible rfl
                          rotate_left
                          · simp only [Act.put, List.setIfInBounds_toArray, List.set_cons_zero, List.set_cons_succ, i64_w, i32_w]
                            rfl
                          refine pure_ (i := 10) (N := some 35) (v := ?_) (a' := ?_) #[true, true, true, true, true, true, true, true, true, true, true, false, false] rfl rfl (any_of HT_.out (by kernel_rfl)) (fun _ _ _ h => h) (Or.inl ⟨by rfl, ?_⟩) ?_ ?_
                          rotate_left
                          · intro w'
                            go_simp
                            with_reducible rfl
                          rotate_left
                          · simp only [Act.put, List.setIfInBounds_toArray, List.set_cons_zero, List.set_cons_succ, i64_w, i32_w]
                            rfl
                          refine pure_ (i := 11) (N := some 36) (v := ?_) (a' := ?_) #[true, true, true, true, true, true, true, true, true, true, true, true, false] rfl rfl (any_of HT_.out (by kernel_rfl)) (fun _ _ _ h => h) (Or.inl ⟨by rfl, ?_⟩) ?_ ?_
                          rotate_left
                          · intro w'
                            go_simp
                            with_reducible rfl
                          rotate_left
                          · simp only [Act.put, List.setIfInBounds_toArray, List.set_cons_zero, List.set_cons_succ, i64_w, i32_w]
                            rfl
                          refine pure_ (i := 12) (N := some 8) (v := ?_) (a' := ?_) #[true, true, true, true, true, true, true, true, true, true, true, true, true] rfl rfl (any_of HT_.out (by kernel_rfl)) (fun _ _ _ h => h) (Or.inl ⟨by rfl, ?_⟩) ?_ ?_
                          rotate_left
                          · intro w'
                            go_simp
                            with_reducible rfl
                          rotate_left
                          · simp only [Act.put, List.setIfInBounds_toArray, List.set_cons_zero, List.set_cons_succ, i64_w, i32_w]
                            rfl
                          refine done_ (done_of HT_.out (by kernel_rfl)) ?_
                          (try (have iw30 : IntKind.i64.wrap ((((rd_T37 y138 x16_1).f2).length : Int) + 1) = wrap64 ((((rd_T37 y138 x16_1).f2).length : Int) + 1) := i64_w _))
                          try go_wp2
                          have n0_ := Aside0.mk (Kd.V_drew HO_0.out)
                          have n1_ := Aside0.mk (Kd.N_drew HO_5.out)
                          have n2_ := Aside0.mk (Kd.V_drew HO_14.out)
                          have n3_ := Aside0.mk (Kd.V_drew HL143_2.out)
                          have n4_ := Aside0.mk (blk_drew BK144.out)
                          have n5_ := Aside0.mk (below_drew1 HB.out)
                          clear HO_0
                          clear HO_5
                          clear HO_14
                          clear HL143_2
                          clear BK144
                          clear HB
                          have HO_0 := n0_
                          have HO_5 := n1_
                          have HO_14 := n2_
                          have HL143_2 := n3_
                          have BK144 := n4_
                          have HB := n5_
                          clear n0_ n1_ n2_ n3_ n4_ n5_
                          have q23 : ((ji12) : Int) ≤ ((((rd_T37 y138 x16_1).f2).length : Int) : Int) := of_decide_eq_true (by first | (with_reducible assumption) | assumption)
                          obtain ⟨i023, hi023, _, hsz23, _⟩ := info_parts info5
                          have hroom23 : ((rd_T37 y138 x16_1).f2).length ≤ c143_2 := HC143_2.out
                          have hC23 : Kd.F (Kd.int .u8) _ _ A143_2 ((rd_T37 y138 x16_1).f2).length ((rd_T37 y138 x16_1).f2) := (Kd.V_at (base := w.heap.size) HL143_2.out).2.2
                          have hcut23 := cut_to (P := Try.prog) 31 5 .i64 Try.underlying31 hi023 A143_2 ((rd_T37 y138 x16_1).f2).length c143_2 (ji12) (of_decide_eq_true (by first | (with_reducible assumption) | assumption)) q23 hroom23
                          have hr23 := Kd.F_take (m := ((ji12) : Int).toNat) hC23 (by omega)
                          have hy23 : y146.length = ((ji12) : Int).toNat := (by rw [Ny146.out, List.length_take]; omega)
                          rw [← Ny146.out] at hr23
                          rw [← hy23] at hcut23
                          have HO150 := Aside0.mk (show Kd.V (Kd.int .u8) 5 _ w.heap.size _ (.slice A143_2 y146.length c143_2) y146 from Kd.V_mk (by omega) hr23)
                          have HC150 := Aside0.mk (show y146.length ≤ c143_2 from by omega)
                          clear hr23 hC23 hroom23 hi023 hsz23
                          have KY23 := Aside0.mk hy23
                          clear hy23
                          replace q23 := eq_true q23
                          have q24 : ((ji12) : Int) ≤ ((((rd_T37 y138 x16_1).f2).length : Int) : Int) := of_decide_eq_true (by first | (with_reducible assumption) | assumption)
                          obtain ⟨i024, hi024, _, hsz24, _⟩ := info_parts info5
                          have hroom24 : ((rd_T37 y138 x16_1).f2).length ≤ c143_2 := HC143_2.out
                          have hC24 : Kd.F (Kd.int .u8) _ _ A143_2 ((rd_T37 y138 x16_1).f2).length ((rd_T37 y138 x16_1).f2) := (Kd.V_at (base := w.heap.size) HL143_2.out).2.2
                          have q024 : (0 : Int) ≤ ((ji12) : Int) := of_decide_eq_true (by first | (with_reducible assumption) | assumption)
                          have hcut24 := cut_from (P := Try.prog) 31 5 .i64 Try.underlying31 hi024 1 hsz24 A143_2 ((rd_T37 y138 x16_1).f2).length c143_2 (ji12) q024 q24
                          have hr24 := Kd.F_cut (m := ((ji12) : Int).toNat) (c := c143_2) hC24 (by omega) hroom24
                          obtain ⟨A24, hA24⟩ : ∃ A1, A1 = (if c143_2 = ((ji12) : Int).toNat then A143_2 else (A143_2 : Option Addr).map (·.add (((ji12) : Int).toNat * 1))) := ⟨_, rfl⟩
                          obtain ⟨c24, hc24⟩ : ∃ c1, c1 = c143_2 - ((ji12) : Int).toNat := ⟨_, rfl⟩
                          have hy24 : y151.length = ((rd_T37 y138 x16_1).f2).length - ((ji12) : Int).toNat := (by rw [Ny151.out, List.length_drop] <;> omega)
                          rw [show ((rd_T37 y138 x16_1).f2).drop ((ji12) : Int).toNat = y151 from Ny151.out.symm] at hr24
                          replace hr24 : Kd.F (Kd.int .u8) _ _ A24 y151.length y151 := (by rw [hA24]; exact hr24)
                          rw [← hy24, ← hA24, ← hc24] at hcut24
                          have HO155 := Aside0.mk (show Kd.V (Kd.int .u8) 5 _ w.heap.size _ (.slice A24 y151.length c24) y151 from Kd.V_mk (by rw [hy24, hc24]; exact Nat.sub_le_sub_right hroom24 _) hr24)
                          have HC155 := Aside0.mk (show y151.length ≤ c24 from by rw [hy24, hc24]; exact Nat.sub_le_sub_right hroom24 _)
                          clear hr24 hC24 hroom24 hi024 hsz24 hc24
                          have KY24 := Aside0.mk hy24
                          have KA24 := Aside0.mk hA24
                          clear hy24 hA24
                          replace q24 := eq_true q24
                          refine start_ (n := 21) (S := fun w' => w'.cell? ⟨gb144, 0, none⟩ = some (.int .i64 ((rd_T37 y138 x16_1).f0)) ∧ w'.cell? ⟨gb144, 1, none⟩ = some (.int .i64 ((rd_T37 y138 x16_1).f1)) ∧ w'.cell? ⟨gb144, 2, none⟩ = some (.slice A143_2 ((rd_T37 y138 x16_1).f2).length c143_2)) (ds := []) #[false, false, false, false, false, false, false, false, false, false, false, false, false, false, false, false, false, false, false, false, false] (by kernel_rfl) rfl rfl ⟨(blk_cell BK144.out 0).trans rfl, (blk_cell BK144.out 1).trans rfl, (blk_cell BK144.out 2).trans rfl⟩ (fun hHeld => ?_); refine with_tabW cuecardlaw10_TurnCuts.tab9 cuecardlaw10_TurnCuts.bits9 (fun HT_ HW_ => ?_)
                          generalize w21.drew = w22 at HO_0 HO_5 HO_14 HL143_2 BK144 HB HO150 HO155 hHeld ⊢
                          refine pure_ (i := 0) (N := some 37) (v := ?_) (a' := ?_) #[true, false, false, false, false, false, false, false, false, false, false, false, false, false, false, false, false, false, false, false, false] rfl rfl (any_of HT_.out (by kernel_rfl)) (fun _ _ _ h => h) (Or.inl ⟨by rfl, ?_⟩) ?_ ?_
                          rotate_left
                          · intro w'
                            go_simp
                            with_reducible rfl
                          rotate_left
                          · simp only [Act.put, List.setIfInBounds_toArray, List.set_cons_zero, List.set_cons_succ, i64_w, i32_w]
                            rfl
                          refine pure_ (i := 1) (N := some 38) (v := ?_) (a' := ?_) #[true, true, false, false, false, false, false, false, false, false, false, false, false, false, false, false, false, false, false, false, false] rfl rfl (any_of HT_.out (by kernel_rfl)) (fun _ _ _ h => h) (Or.inl ⟨by rfl, ?_⟩) ?_ ?_
                          rotate_left
                          · intro w'
                            go_simp
                            with_reducible rfl
                          rotate_left
                          · simp only [Act.put, List.setIfInBounds_toArray, List.set_cons_zero, List.set_cons_succ, i64_w, i32_w]
                            rfl
                          refine pure_ (i := 3) (N := some 40) (v := ?_) (a' := ?_) #[true, true, false, true, false, false, false, false, false, false, false, false, false, false, false, false, false, false, false, false, false] rfl rfl (any_of HT_.out (by kernel_rfl)) (fun _ _ _ h => h) (Or.inl ⟨by rfl, ?_⟩) ?_ ?_
                          rotate_left
                          · intro w'
                            go_simp
                            with_reducible rfl
                          rotate_left
                          · simp only [Act.put, List.setIfInBounds_toArray, List.set_cons_zero, List.set_cons_succ, i64_w, i32_w]
                            rfl
                          refine pure_ (i := 5) (N := some 42) (v := ?_) (a' := ?_) #[true, true, false, true, false, true, false, false, false, false, false, false, false, false, false, false, false, false, false, false, false] rfl rfl (any_of HT_.out (by kernel_rfl)) (fun _ _ _ h => h) (Or.inl ⟨by rfl, ?_⟩) ?_ ?_
                          rotate_left
                          · intro w'
                            go_simp
                            with_reducible rfl
                          rotate_left
                          · simp only [Act.put, List.setIfInBounds_toArray, List.set_cons_zero, List.set_cons_succ, i64_w, i32_w]
                            rfl
                          refine pure_ (i := 8) (N := some 45) (v := ?_) (a' := ?_) #[true, true, false, true, false, true, false, false, true, false, false, false, false, false, false, false, false, false, false, false, false] rfl rfl (any_of HT_.out (by kernel_rfl)) (fun _ _ _ h => h) (Or.inl ⟨by rfl, ?_⟩) ?_ ?_
                          rotate_left
                          · intro w'
                            go_simp
                            with_reducible rfl
                          rotate_left
                          · simp only [Act.put, List.setIfInBounds_toArray, List.set_cons_zero, List.set_cons_succ, i64_w, i32_w]
                            rfl
                          refine pure_ (i := 11) (N := some 48) (v := ?_) (a' := ?_) #[true, true, false, true, false, true, false, false, true, false, false, true, false, false, false, false, false, false, false, false, false] rfl rfl (any_of HT_.out (by kernel_rfl)) (fun _ _ _ h => h) (Or.inl ⟨by rfl, ?_⟩) ?_ ?_
                          rotate_left
                          · intro w'
                            go_simp
                            with_reducible rfl
                          rotate_left
                          · simp only [Act.put, List.setIfInBounds_toArray, List.set_cons_zero, List.set_cons_succ, i64_w, i32_w]
                            rfl
                          refine pure_ (i := 13) (N := some 50) (v := ?_) (a' := ?_) #[true, true, false, true, false, true, false, false, true, false, false, true, false, true, false, false, false, false, false, false, false] rfl rfl (any_of HT_.out (by kernel_rfl)) (fun _ _ _ h => h) (Or.inl ⟨by rfl, ?_⟩) ?_ ?_
                          rotate_left
                          · intro w'
                            go_simp
                            with_reducible rfl
                          rotate_left
                          · simp only [Act.put, List.setIfInBounds_toArray, List.set_cons_zero, List.set_cons_succ, i64_w, i32_w]
                            rfl
                          refine pure_ (i := 15) (N := some 52) (v := ?_) (a' := ?_) #[true, true, false, true, false, true, false, false, true, false, false, true, false, true, false, true, false, false, false, false, false] rfl rfl (any_of HT_.out (by kernel_rfl)) (fun _ _ _ h => h) (Or.inl ⟨by rfl, ?_⟩) ?_ ?_
                          rotate_left
                          · intro w'
                            go_simp
                            with_reducible rfl
                          rotate_left
                          · simp only [Act.put, List.setIfInBounds_toArray, List.set_cons_zero, List.set_cons_succ, i64_w, i32_w]
                            rfl
                          refine take_ (i := 2) (N := some 39) (v := ?_) (a' := ?_) #[true, true, true, true, false, true, false, false, true, false, false, true, false, true, false, true, false, false, false, false, false] rfl rfl (take_ofW HT_.out HW_.out (by kernel_rfl)) (fun _ _ _ h => h) (Or.inl ⟨by rfl, ?_⟩) hHeld ?_ ?_
                          rotate_left
                          · rintro w' ⟨s0, s1, s2⟩
                            go_simp
                            with_reducible rfl
                          rotate_left
                          · simp only [Act.put, List.setIfInBounds_toArray, List.set_cons_zero, List.set_cons_succ, i64_w, i32_w]
                            rfl
                          refine take_ (i := 4) (N := some 41) (v := ?_) (a' := ?_) #[true, true, true, true, true, true, false, false, true, false, false, true, false, true, false, true, false, false, false, false, false] rfl rfl (take_ofW HT_.out HW_.out (by kernel_rfl)) (fun _ _ _ h => h) (Or.inl ⟨by rfl, ?_⟩) hHeld ?_ ?_
                          rotate_left
                          · rintro w' ⟨s0, s1, s2⟩
                            go_simp
                            with_reducible rfl
                          rotate_left
                          · simp only [Act.put, List.setIfInBounds_toArray, List.set_cons_zero, List.set_cons_succ, i64_w, i32_w]
                            rfl
                          refine pure_ (i := 6) (N := some 43) (v := ?_) (a' := ?_) #[true, true, true, true, true, true, true, false, true, false, false, true, false, true, false, true, false, false, false, false, false] rfl rfl (any_of HT_.out (by kernel_rfl)) (fun _ _ _ h => h) (Or.inl ⟨by rfl, ?_⟩) ?_ ?_
                          rotate_left
                          · intro w'
                            go_simp
                            with_reducible rfl
                          rotate_left
                          · simp only [Act.put, List.setIfInBounds_toArray, List.set_cons_zero, List.set_cons_succ, i64_w, i32_w]
                            rfl
                          refine pure_ (i := 7) (N := some 44) (v := ?_) (a' := ?_) #[true, true, true, true, true, true, true, true, true, false, false, true, false, true, false, true, false, false, false, false, false] rfl rfl (any_of HT_.out (by kernel_rfl)) (fun _ _ _ h => h) (Or.inl ⟨by rfl, ?_⟩) ?_ ?_
                          rotate_left
                          · intro w'
                            go_simp
                            with_reducible rfl
                          rotate_left
                          · simp only [Act.put, List.setIfInBounds_toArray, List.set_cons_zero, List.set_cons_succ, i64_w, i32_w]
                            rfl
                          refine take_ (i := 9) (N := some 46) (v := ?_) (a' := ?_) #[true, true, true, true, true, true, true, true, true, true, false, true, false, true, false, true, false, false, false, false, false] rfl rfl (take_ofW HT_.out HW_.out (by kernel_rfl)) (fun _ _ _ h => h) (Or.inl ⟨by rfl, ?_⟩) hHeld ?_ ?_
                          rotate_left
                          · rintro w' ⟨s0, s1, s2⟩
                            go_simp
                            with_reducible rfl
                          rotate_left
                          · simp only [Act.put, List.setIfInBounds_toArray, List.set_cons_zero, List.set_cons_succ, i64_w, i32_w]
                            rfl
                          refine pure_ (i := 10) (N := some 47) (v := ?_) (a' := ?_) #[true, true, true, true, true, true, true, true, true, true, true, true, false, true, false, true, false, false, false, false, false] rfl rfl (any_of HT_.out (by kernel_rfl)) (fun _ _ _ h => h) (Or.inl ⟨by rfl, ?_⟩) ?_ ?_
                          rotate_left
                          · intro w'
                            go_simp
                            with_reducible rfl
                          rotate_left
                          · simp only [Act.put, List.setIfInBounds_toArray, List.set_cons_zero, List.set_cons_succ, i64_w, i32_w]
                            rfl
                          refine take_ (i := 12) (N := some 49) (v := ?_) (a' := ?_) #[true, true, true, true, true, true, true, true, true, true, true, true, true, true, false, true, false, false, false, false, false] rfl rfl (take_ofW HT_.out HW_.out (by kernel_rfl)) (fun _ _ _ h => h) (Or.inl ⟨by rfl, ?_⟩) hHeld ?_ ?_
                          rotate_left
                          · rintro w' ⟨s0, s1, s2⟩
                            go_simp
                            with_reducible rfl
                          rotate_left
                          · simp only [Act.put, List.setIfInBounds_toArray, List.set_cons_zero, List.set_cons_succ, i64_w, i32_w]
                            rfl
                          refine take_ (i := 14) (N := some 51) (v := ?_) (a' := ?_) #[true, true, true, true, true, true, true, true, true, true, true, true, true, true, true, true, false, false, false, false, false] rfl rfl (take_ofW HT_.out HW_.out (by kernel_rfl)) (fun _ _ _ h => h) (Or.inl ⟨by rfl, ?_⟩) hHeld ?_ ?_
                          rotate_left
                          · rintro w' ⟨s0, s1, s2⟩
                            go_simp
                            with_reducible rfl
                          rotate_left
                          · simp only [Act.put, List.setIfInBounds_toArray, List.set_cons_zero, List.set_cons_succ, i64_w, i32_w]
                            rfl
                          refine pure_ (i := 16) (N := some 53) (v := ?_) (a' := ?_) #[true, true, true, true, true, true, true, true, true, true, true, true, true, true, true, true, true, false, false, false, false] rfl rfl (any_of HT_.out (by kernel_rfl)) (fun _ _ _ h => h) (Or.inl ⟨by rfl, ?_⟩) ?_ ?_
                          rotate_left
                          · intro w'
                            go_simp
                            with_reducible rfl
                          rotate_left
                          · simp only [Act.put, List.setIfInBounds_toArray, List.set_cons_zero, List.set_cons_succ, i64_w, i32_w]
                            rfl
                          refine pure_ (i := 17) (N := some 54) (v := ?_) (a' := ?_) #[true, true, true, true, true, true, true, true, true, true, true, true, true, true, true, true, true, true, false, false, false] rfl rfl (any_of HT_.out (by kernel_rfl)) (fun _ _ _ h => h) (Or.inl ⟨by rfl, ?_⟩) ?_ ?_
                          rotate_left
                          · intro w'
                            go_simp
                            with_reducible rfl
                          rotate_left
                          · simp only [Act.put, List.setIfInBounds_toArray, List.set_cons_zero, List.set_cons_succ, i64_w, i32_w]
                            rfl
                          refine one_ (i := 18) (N := some 55) #[true, true, true, true, true, true, true, true, true, true, true, true, true, true, true, true, true, true, true, false, false] rfl rfl (one_of HT_.out (by kernel_rfl)) (by decide) (fun K hK => ?_)
                          refine Kd.N_lit_step k37 _ 37 ?hg (N' := 55) ?hd (xs := ([(⟨(rd_T37 y138 x16_1).f0, 0, y146⟩ : S37), (⟨(rd_T37 y138 x16_1).f0, 9, ([] : List Int)⟩ : S37), (⟨(rd_T37 y138 x16_1).f0, 0, y151⟩ : S37)] : List (S37))) (inner := [.int .i64 ((rd_T37 y138 x16_1).f0), .int .i64 0, .slice A143_2 y146.length c143_2, .int .i64 ((rd_T37 y138 x16_1).f0), .int .i64 9, .slice none 0 0, .int .i64 ((rd_T37 y138 x16_1).f0), .int .i64 0, .slice A24 y151.length c24]) (ok := (fun k_ => (P0_ k_ ∨ w.heap.size ≤ k_) ∧ some k_ ≠ (u5 : Value).ownBlock ∧ k_ ≠ gb144)) (okp := (fun k_ => (P0_ k_ ∨ w.heap.size ≤ k_) ∧ some k_ ≠ (u5 : Value).ownBlock ∧ k_ ≠ gb144)) ?hr ?hp (fun _ hk => hk) ((show ∀ k_, w22.heap.size ≤ k_ → (fun k_ => (P0_ k_ ∨ w.heap.size ≤ k_) ∧ some k_ ≠ (u5 : Value).ownBlock ∧ k_ ≠ gb144) k_ from fun k_ hk => ⟨(.inr (Nat.le_trans (below_size (by repeat (first | (with_reducible first | exact HB.out | apply below_alloc | apply pw_below_drewN | apply below_drew1 | refine below_set ?_ GE144.out) | exact HB.out))) hk)), Kd.fresh' (Kd.N_lt (by (with_reducible repeat (first | apply Kd.N_alloc | apply Kd.N_drewN | apply Kd.N_drew)); exact HO_5.out)) k_ hk, Kd.freshB (g := gb144) (o := .cells #[.int .i64 ((rd_T37 y138 x16_1).f0), .int .i64 ((rd_T37 y138 x16_1).f1), .slice A143_2 ((rd_T37 y138 x16_1).f2).length c143_2] 37 (0, 0)) (by (with_reducible repeat (first | refine blk_drewN ?_ _ | refine blk_drew ?_ | refine blk_alloc ?_ _)); exact BK144.out) k_ hk⟩) _ (Nat.le_refl _)) (Below.refl _ _) (Nat.le_refl _) (by simp) ?_; (case hd => rfl); (case hg => rfl); (case hr => first | (go_simp; done) | (go_simp; rfl)); (case hp => exact (Reps.c3 (show Kd.FK k37 _ _ (⟨(rd_T37 y138 x16_1).f0, 0, y146⟩ : S37) [.int .i64 ((rd_T37 y138 x16_1).f0), .int .i64 0, .slice A143_2 y146.length c143_2] from (k37_mkF _ _ (⟨(rd_T37 y138 x16_1).f0, 0, y146⟩ : S37) (Kd.V_reads' (Kd.V_mono (ok' := (fun k_ => (P0_ k_ ∨ w.heap.size ≤ k_) ∧ some k_ ≠ (u5 : Value).ownBlock ∧ k_ ≠ gb144)) (HO150.out) (fun k_ hk => ⟨hk.1, ⟨hk.2.1, hk.2.2⟩⟩))).2.1 (Kd.V_F (Kd.V_mono (ok' := (fun k_ => (P0_ k_ ∨ w.heap.size ≤ k_) ∧ some k_ ≠ (u5 : Value).ownBlock ∧ k_ ≠ gb144)) (HO150.out) (fun k_ hk => ⟨hk.1, ⟨hk.2.1, hk.2.2⟩⟩))))) (Reps.c3 (show Kd.FK k37 _ _ (⟨(rd_T37 y138 x16_1).f0, 9, ([] : List Int)⟩ : S37) [.int .i64 ((rd_T37 y138 x16_1).f0), .int .i64 9, .slice none 0 0] from (k37_mkF _ _ (⟨(rd_T37 y138 x16_1).f0, 9, ([] : List Int)⟩ : S37) (Nat.le_refl _) (Kd.F_nil _ _ _))) (Reps.c3 (show Kd.FK k37 _ _ (⟨(rd_T37 y138 x16_1).f0, 0, y151⟩ : S37) [.int .i64 ((rd_T37 y138 x16_1).f0), .int .i64 0, .slice A24 y151.length c24] from (k37_mkF _ _ (⟨(rd_T37 y138 x16_1).f0, 0, y151⟩ : S37) (Kd.V_reads' (Kd.V_mono (ok' := (fun k_ => (P0_ k_ ∨ w.heap.size ≤ k_) ∧ some k_ ≠ (u5 : Value).ownBlock ∧ k_ ≠ gb144)) (HO155.out) (fun k_ hk => ⟨hk.1, ⟨hk.2.1, hk.2.2⟩⟩))).2.1 (Kd.V_F (Kd.V_mono (ok' := (fun k_ => (P0_ k_ ∨ w.heap.size ≤ k_) ∧ some k_ ≠ (u5 : Value).ownBlock ∧ k_ ≠ gb144)) (HO155.out) (fun k_ hk => ⟨hk.1, ⟨hk.2.1, hk.2.2⟩⟩))))) (Reps.none _ _)))))
                          intro v157 w25 ho26 hb hg_ hnew_
                          clear hg_ hnew_
                          (first | rw [← Ny156.out] at ho26 | (simp only [Int.reduceToNat] at ho26; rw [← Ny156.out] at ho26))
                          have n0_ := Aside0.mk (Kd.V_elder' (by (with_reducible repeat (first | apply Kd.V_alloc | apply Kd.V_drewN | apply Kd.V_drew)); exact HO_0.out) (Kd.N_base ho26) hb)
                          have n1_ := Aside0.mk (Kd.N_elder' (by (with_reducible repeat (first | apply Kd.N_alloc | apply Kd.N_drewN | apply Kd.N_drew)); exact HO_5.out) (Kd.N_base ho26) hb)
                          have n2_ := Aside0.mk (Kd.V_elder' (by (with_reducible repeat (first | apply Kd.V_alloc | apply Kd.V_drewN | apply Kd.V_drew)); exact HO_14.out) (Kd.N_base ho26) hb)
                          have n3_ := Aside0.mk (Kd.V_elder' (by (with_reducible repeat (first | apply Kd.V_alloc | apply Kd.V_drewN | apply Kd.V_drew)); exact HL143_2.out) (Kd.N_base ho26) hb)
                          have n4_ := Aside0.mk (Kd.V_elder' (by (with_reducible repeat (first | apply Kd.V_alloc | apply Kd.V_drewN | apply Kd.V_drew)); exact HO150.out) (Kd.N_base ho26) hb)
                          have n5_ := Aside0.mk (Kd.V_elder' (by (with_reducible repeat (first | apply Kd.V_alloc | apply Kd.V_drewN | apply Kd.V_drew)); exact HO155.out) (Kd.N_base ho26) hb)
                          have n6_ := Aside0.mk (Kd.N_lower ho26 (below_size (by repeat (first | (with_reducible first | exact HB.out | apply below_alloc | apply pw_below_drewN | apply below_drew1 | refine below_set ?_ GE144.out) | exact HB.out))))
                          have n7_ := Aside0.mk (blk_below (g := gb144) (o := .cells #[.int .i64 ((rd_T37 y138 x16_1).f0), .int .i64 ((rd_T37 y138 x16_1).f1), .slice A143_2 ((rd_T37 y138 x16_1).f2).length c143_2] 37 (0, 0)) (by (with_reducible repeat (first | refine blk_drewN ?_ _ | refine blk_drew ?_ | refine blk_alloc ?_ _)); exact BK144.out) hb)
                          have n8_ := Aside0.mk (below_step (by repeat (first | (with_reducible first | exact HB.out | apply below_alloc | apply pw_below_drewN | apply below_drew1 | refine below_set ?_ GE144.out) | exact HB.out)) hb)
                          clear HO_0
                          clear HO_5
                          clear HO_14
                          clear HL143_2
                          clear HO150
                          clear HO155
                          clear BK144
                          clear HB
                          have HO_0 := n0_
                          have HO_5 := n1_
                          have HO_14 := n2_
                          have HL143_2 := n3_
                          have HO150 := n4_
                          have HO155 := n5_
                          have HO158 := n6_
                          have BK144 := n7_
                          have HB := n8_
                          clear n0_ n1_ n2_ n3_ n4_ n5_ n6_ n7_ n8_
                          clear hb ho26
                          obtain ⟨Ao28, co28, eo28⟩ := Kd.N_slice HO158.out
                          (first | subst eo28 | (injection eo28 with f1_ f2_ f3_; have f4_ := f1_.symm; have f5_ := f3_.symm; clear f1_ f2_ f3_; subst f4_; subst f5_))
                          refine hK.out _ _ ⟨(blk_cell BK144.out 0).trans rfl, (blk_cell BK144.out 1).trans rfl, (blk_cell BK144.out 2).trans rfl⟩ (fun hHeld => ?_)
                          clear hK K
                          refine norm_ (a' := ?_) ?_ ?_
                          rotate_left
                          · show Act.put _ (some 55) _ = _
                            simp only [Act.put, List.setIfInBounds_toArray, List.set_cons_zero, List.set_cons_succ, i64_w, i32_w]
                            rfl
                          refine one_ (i := 19) (N := some 56) #[true, true, true, true, true, true, true, true, true, true, true, true, true, true, true, true, true, true, true, true, false] rfl rfl (one_of HT_.out (by kernel_rfl)) (by decide) (fun K hK => ?_)
                          refine Kd.N_append_rows_step k37 (w0 := w) w.heap.size (by rfl) (.tmp 37) (.tmp 55) 22 37 (.agg #[(.int .i64 0), (.int .i64 0), (.slice none 0 0)]) 40 rfl Try.underlying22 info37 rfl (by decide) (by omega) u5 x5_1 y156 _ _ _ (fun k_ => (P0_ k_ ∨ w.heap.size ≤ k_) ∧ k_ ≠ gb144) (fun k_ => ((fun k_ => (P0_ k_ ∨ w.heap.size ≤ k_) ∧ k_ ≠ gb144)) k_ ∧ some k_ ≠ (u5 : Value).ownBlock) rfl rfl ?aO ?aR (fun _ hk => hk) ?aF ?aB ?aS ?aL ?_
                          (case aR => exact (by skip; exact Kd.N_F (Kd.N_mono (ok' := (fun k_ => ((fun k_ => (P0_ k_ ∨ w.heap.size ≤ k_) ∧ k_ ≠ gb144)) k_ ∧ some k_ ≠ (u5 : Value).ownBlock)) (HO158.out) (fun k_ hk => ⟨⟨hk.1, hk.2.2⟩, hk.2.1⟩))))
                          (case aB => exact (by repeat (first | (with_reducible first | exact HB.out | apply below_alloc | apply pw_below_drewN | apply below_drew1 | refine below_set ?_ GE144.out) | exact HB.out)))
                          (case aF => exact (fun k_ hk => ⟨(.inr (Nat.le_trans (below_size (by repeat (first | (with_reducible first | exact HB.out | apply below_alloc | apply pw_below_drewN | apply below_drew1 | refine below_set ?_ GE144.out) | exact HB.out))) hk)), Kd.freshB (g := gb144) (o := .cells #[.int .i64 ((rd_T37 y138 x16_1).f0), .int .i64 ((rd_T37 y138 x16_1).f1), .slice A143_2 ((rd_T37 y138 x16_1).f2).length c143_2] 37 (0, 0)) (by (with_reducible repeat (first | refine blk_drewN ?_ _ | refine blk_drew ?_ | refine blk_alloc ?_ _)); exact BK144.out) k_ hk⟩))
                          (case aO => exact (by (with_reducible repeat (first | apply Kd.N_alloc | apply Kd.N_drewN | apply Kd.N_drew)); exact Kd.N_mono HO_5.out (fun _ hk => ⟨hk.1.1, hk.1.2⟩)))
                          (case aS => exact (below_size (by repeat (first | (with_reducible first | exact HB.out | apply below_alloc | apply pw_below_drewN | apply below_drew1 | refine below_set ?_ GE144.out) | exact HB.out))))
                          (case aL => have := LMc17.out; omega)
                          intro v160 w27 ho hb hg hat
                          rw [← Ny159.out] at ho
                          have n0_ := Aside0.mk (Kd.V_afterv (ok := (fun k_ => (P0_ k_ ∨ w.heap.size ≤ k_) ∧ some k_ ≠ (.slice Ao28 y156.length co28 : Value).ownBlock ∧ k_ ≠ gb144)) (by (with_reducible repeat (first | apply Kd.V_alloc | apply Kd.V_drewN | apply Kd.V_drew)); exact Kd.V_mono HO_0.out (fun _ hk => ⟨⟨hk.1.1, ⟨hk.2, hk.1.2.2⟩⟩, hk.1.2.1⟩)) hg hat)
                          have n1_ := Aside0.mk (Kd.V_afterv (ok := (fun k_ => (P0_ k_ ∨ w.heap.size ≤ k_) ∧ some k_ ≠ (.slice Ao28 y156.length co28 : Value).ownBlock ∧ k_ ≠ gb144)) (by (with_reducible repeat (first | apply Kd.V_alloc | apply Kd.V_drewN | apply Kd.V_drew)); exact Kd.V_mono HO_14.out (fun _ hk => ⟨⟨hk.1.1, ⟨hk.2, hk.1.2.2⟩⟩, hk.1.2.1⟩)) hg hat)
                          have n2_ := Aside0.mk (Kd.V_afterv (ok := (fun k_ => (P0_ k_ ∨ w.heap.size ≤ k_) ∧ some k_ ≠ (.slice Ao28 y156.length co28 : Value).ownBlock ∧ k_ ≠ gb144)) (by (with_reducible repeat (first | apply Kd.V_alloc | apply Kd.V_drewN | apply Kd.V_drew)); exact Kd.V_mono HL143_2.out (fun _ hk => ⟨⟨hk.1.1, ⟨hk.2, hk.1.2.2⟩⟩, hk.1.2.1⟩)) hg hat)
                          have n3_ := Aside0.mk (blk_grown (g := gb144) (o := .cells #[.int .i64 ((rd_T37 y138 x16_1).f0), .int .i64 ((rd_T37 y138 x16_1).f1), .slice A143_2 ((rd_T37 y138 x16_1).f2).length c143_2] 37 (0, 0)) (by (with_reducible repeat (first | refine blk_drewN ?_ _ | refine blk_drew ?_ | refine blk_alloc ?_ _)); exact BK144.out) hg (Kd.N_away HO_5.out (fun _ hk => hk.1.2)))
                          have n4_ := Aside0.mk (Kd.V_afterv (ok := (fun k_ => (P0_ k_ ∨ w.heap.size ≤ k_) ∧ some k_ ≠ (.slice Ao28 y156.length co28 : Value).ownBlock ∧ k_ ≠ gb144)) (by (with_reducible repeat (first | apply Kd.V_alloc | apply Kd.V_drewN | apply Kd.V_drew)); exact Kd.V_mono HO150.out (fun _ hk => ⟨⟨hk.1.1, ⟨hk.2, hk.1.2.2⟩⟩, hk.1.2.1⟩)) hg hat)
                          have n5_ := Aside0.mk (Kd.V_afterv (ok := (fun k_ => (P0_ k_ ∨ w.heap.size ≤ k_) ∧ some k_ ≠ (.slice Ao28 y156.length co28 : Value).ownBlock ∧ k_ ≠ gb144)) (by (with_reducible repeat (first | apply Kd.V_alloc | apply Kd.V_drewN | apply Kd.V_drew)); exact Kd.V_mono HO155.out (fun _ hk => ⟨⟨hk.1.1, ⟨hk.2, hk.1.2.2⟩⟩, hk.1.2.1⟩)) hg hat)
                          have n6_ := Aside0.mk (Kd.N_afterv (ok := (fun k_ => (P0_ k_ ∨ w.heap.size ≤ k_) ∧ k_ ≠ gb144)) (by (with_reducible repeat (first | apply Kd.N_alloc | apply Kd.N_drewN | apply Kd.N_drew)); exact Kd.N_mono HO158.out (fun _ hk => ⟨⟨hk.1, hk.2.2⟩, hk.2.1⟩)) hg hat)
                          have n7_ := Aside0.mk (hb)
                          have n8_ := Aside0.mk (ho)
                          clear HO_0
                          clear HO_14
                          clear HL143_2
                          clear BK144
                          clear HO150
                          clear HO155
                          clear HO158
                          clear HB
                          clear HO_5
                          have HO_0 := n0_
                          have HO_14 := n1_
                          have HL143_2 := n2_
                          have BK144 := n3_
                          have HO150 := n4_
                          have HO155 := n5_
                          have HO158 := n6_
                          have HB := n7_
                          have HO161 := n8_
                          clear n0_ n1_ n2_ n3_ n4_ n5_ n6_ n7_ n8_
                          clear ho hb hg hat
                          refine hK.out _ _ ⟨(blk_cell BK144.out 0).trans rfl, (blk_cell BK144.out 1).trans rfl, (blk_cell BK144.out 2).trans rfl⟩ (fun hHeld => ?_)
                          clear hK K
                          refine norm_ (a' := ?_) ?_ ?_
                          rotate_left
                          · show Act.put _ (some 56) _ = _
                            simp only [Act.put, List.setIfInBounds_toArray, List.set_cons_zero, List.set_cons_succ, i64_w, i32_w]
                            rfl
                          refine pure_ (i := 20) (N := some 5) (v := ?_) (a' := ?_) #[true, true, true, true, true, true, true, true, true, true, true, true, true, true, true, true, true, true, true, true, true] rfl rfl (any_of HT_.out (by kernel_rfl)) (fun _ _ _ h => h) (Or.inl ⟨by rfl, ?_⟩) ?_ ?_
                          rotate_left
                          · intro w'
                            go_simp
                            with_reducible rfl
                          rotate_left
                          · simp only [Act.put, List.setIfInBounds_toArray, List.set_cons_zero, List.set_cons_succ, i64_w, i32_w]
                            rfl
                          refine done_ (done_of HT_.out (by kernel_rfl)) ?_
                          (try (have iw31 : IntKind.i64.wrap ((((rd_T37 y138 x16_1).f2).length : Int) + 1) = wrap64 ((((rd_T37 y138 x16_1).f2).length : Int) + 1) := i64_w _))
                          try go_wp2
                          go_roundg k1
                          case measure => have := HK1.out; omega
                          case rel => exact ⟨(y159), (wrap64 (x16_1 + 1)), (by first | rfl | (simp; done) | (simp [*]; done)), H', ⟨by have := HK1.out; omega⟩, ⟨by (with_reducible repeat (first | apply Kd.V_alloc | apply Kd.V_drewN | apply Kd.V_drew)); exact Kd.V_mono HO_0.out (fun _ hk => ⟨hk.1.1, hk.2⟩)⟩, ⟨by (with_reducible repeat (first | apply Kd.N_alloc | apply Kd.N_drewN | apply Kd.N_drew)); exact Kd.N_mono HO161.out (fun _ hk => hk.1)⟩, ⟨by (with_reducible repeat (first | apply Kd.V_alloc | apply Kd.V_drewN | apply Kd.V_drew)); exact Kd.V_mono HO_14.out (fun _ hk => ⟨hk.1.1, hk.2⟩)⟩, ⟨by repeat (first | (with_reducible first | exact HB.out | apply below_alloc | apply pw_below_drewN | apply below_drew1 | refine below_set ?_ GE144.out) | exact HB.out)⟩⟩
                        · rw [if_neg c17] at H
                          exact absurd H (by simp)
                      · rw [if_neg c14] at H
                        exact absurd H (by simp)
                    · rw [if_neg c13] at H
                      exact absurd H (by simp)
                · rw [if_neg c10] at H
                  have c10b0 : decide (x16_1 < (l1.length : Int)) = false := decide_eq_false c10
                  clear c10
                  by_cases c32 : 0 ≤ (((rd_T37 y138 x16_1).f2).length : Int)
                  · rw [if_pos c32] at H
                    have c32b0 := eq_true c32
                    have c32b1 : decide (0 ≤ (((rd_T37 y138 x16_1).f2).length : Int)) = true := decide_eq_true c32
                    clear c32
                    obtain ⟨y162, hy162⟩ : ∃ y_ : List Int, y_ = (((rd_T37 y138 x16_1).f2).take 0) := ⟨_, rfl⟩
                    replace H : ((some (([(⟨(rd_T37 y138 x16_1).f0, 0, y162⟩ : S37), (⟨(rd_T37 y138 x16_1).f0, 9, ([] : List Int)⟩ : S37), (⟨(rd_T37 y138 x16_1).f0, 0, (((rd_T37 y138 x16_1).f2).drop 0)⟩ : S37)] : List (S37)) : List (S37))).bind fun y172 => (if x5_1.length + y172.length < 3518437208883 then (cuecardlaw10_TurnCuts.l0 k1 y138 l1 (x5_1 ++ y172) y138 (y138.length : Int) (wrap64 (x16_1 + 1))) else (none))) = some r := by first | (rw [hy162]; with_reducible exact H) | (have H2_ := (Option.bind_some _ _).symm.trans H; rw [hy162]; with_reducible exact H2_) | (have H2_ := (Option.bind_some _ _).symm.trans H; with_reducible exact H2_) | with_reducible exact H | (rw [hy162]; exact H) | exact H
                    have Ny162 := Aside0.mk hy162
                    clear hy162
                    have c33b0 := eq_true (of_decide_eq_true (by first | (with_reducible assumption) | assumption) : 0 ≤ (((rd_T37 y138 x16_1).f2).length : Int))
                    obtain ⟨y167, hy167⟩ : ∃ y_ : List Int, y_ = (((rd_T37 y138 x16_1).f2).drop 0) := ⟨_, rfl⟩
                    replace H : ((some (([(⟨(rd_T37 y138 x16_1).f0, 0, y162⟩ : S37), (⟨(rd_T37 y138 x16_1).f0, 9, ([] : List Int)⟩ : S37), (⟨(rd_T37 y138 x16_1).f0, 0, y167⟩ : S37)] : List (S37)) : List (S37))).bind fun y172 => (if x5_1.length + y172.length < 3518437208883 then (cuecardlaw10_TurnCuts.l0 k1 y138 l1 (x5_1 ++ y172) y138 (y138.length : Int) (wrap64 (x16_1 + 1))) else (none))) = some r := by first | (rw [hy167]; with_reducible exact H) | (have H2_ := (Option.bind_some _ _).symm.trans H; rw [hy167]; with_reducible exact H2_) | (have H2_ := (Option.bind_some _ _).symm.trans H; with_reducible exact H2_) | with_reducible exact H | (rw [hy167]; exact H) | exact H
                    have Ny167 := Aside0.mk hy167
                    clear hy167
                    obtain ⟨y172, hy172⟩ : ∃ y_ : List (S37), y_ = (([(⟨(rd_T37 y138 x16_1).f0, 0, y162⟩ : S37), (⟨(rd_T37 y138 x16_1).f0, 9, ([] : List Int)⟩ : S37), (⟨(rd_T37 y138 x16_1).f0, 0, y167⟩ : S37)] : List (S37))) := ⟨_, rfl⟩
                    replace H : (if x5_1.length + y172.length < 3518437208883 then (cuecardlaw10_TurnCuts.l0 k1 y138 l1 (x5_1 ++ y172) y138 (y138.length : Int) (wrap64 (x16_1 + 1))) else (none)) = some r := by first | (rw [hy172]; with_reducible exact H) | (have H2_ := (Option.bind_some _ _).symm.trans H; rw [hy172]; with_reducible exact H2_) | (have H2_ := (Option.bind_some _ _).symm.trans H; with_reducible exact H2_) | with_reducible exact H | (rw [hy172]; exact H) | exact H
                    have Ny172 := Aside0.mk hy172
                    clear hy172
                    by_cases c34 : x5_1.length + y172.length < 3518437208883
                    · rw [if_pos c34] at H
                      have LMc34 := Aside0.mk c34
                      clear c34
                      obtain ⟨y175, hy175⟩ : ∃ y_ : List (S37), y_ = (x5_1 ++ y172) := ⟨_, rfl⟩
                      replace H : (cuecardlaw10_TurnCuts.l0 k1 y138 l1 y175 y138 (y138.length : Int) (wrap64 (x16_1 + 1))) = some r := by first | (rw [hy175]; with_reducible exact H) | (have H2_ := (Option.bind_some _ _).symm.trans H; rw [hy175]; with_reducible exact H2_) | (have H2_ := (Option.bind_some _ _).symm.trans H; with_reducible exact H2_) | with_reducible exact H | (rw [hy175]; exact H) | exact H
                      have Ny175 := Aside0.mk hy175
                      clear hy175
                      have H' := Aside0.mk H
                      clear H
                      have p143 : 0 ≤ (x16_1 : Int) := of_decide_eq_true (by first | (with_reducible assumption) | assumption)
                      have q143 : x16_1 < (y138.length : Int) := of_decide_eq_true (by first | (with_reducible assumption) | assumption)
                      obtain ⟨ad143, A143_2, c143_2, e143, hx143_0, hx143_1, hx143_2, hl143_2, hi143_2⟩ := at_T37 (Kd.V_reads' HO_14.out).2.2 x16_1 p143 q143
                      cases e143
                      obtain ⟨ce143, hce143, hMe143, hcc143⟩ := Kd.V_get HO_14.out z37 x16_1 p143 (by first | exact q143 | exact of_decide_eq_true (by first | (with_reducible assumption) | assumption) | (have e_ := (Kd.V_reads' HO_14.out).1; omega))
                      obtain ⟨ua143_2, uc143_2, rfl, ul143_2, ge143_2⟩ := k37_openF hMe143
                      have hv143_2 := hcc143 2 _ rfl
                      rw [add_field _ _ 2 (by omega)] at hv143_2
                      replace hv143_2 := Option.some.inj (hv143_2.symm.trans hx143_2)
                      injection hv143_2 with hva_ hvn_ hvc_
                      rw [hva_] at ge143_2
                      rw [hvc_] at ul143_2
                      have HL143_2 := Aside0.mk (show Kd.V (Kd.int .u8) 5 _ w.heap.size _ _ ((rd_T37 y138 x16_1).f2) from Kd.V_mk ul143_2 ge143_2)
                      clear hva_ hvn_ hvc_ ge143_2 ul143_2
                      clear hcc143 hce143
                      have HR143_2 := Aside0.mk hi143_2
                      have HC143_2 := Aside0.mk hl143_2
                      clear hi143_2 hl143_2
                      replace p143 := eq_true p143
                      replace q143 := eq_true q143
                      try go_wp2_with (first | ((with_reducible refine gate_dst (N := 7) rfl ?_); refine box_event ?hg (N := 7) ?hd (cs := #[.int .i64 0, .int .i64 0, .slice none 0 0]) (t := 37) ?hr ?_; (case hd => rfl); (case hg => rfl); (case hr => first | (go_simp; done) | (go_simp; rfl)); intro gb144 hg w35 hbox hb; have n0_ := Aside0.mk (Kd.V_below (Kd.V_elderB (by (with_reducible repeat (first | apply Kd.V_alloc | apply Kd.V_drewN | apply Kd.V_drew)); exact HO_0.out) gb144 (Nat.le_of_eq hg.symm)) hb); have n1_ := Aside0.mk (Kd.N_below (Kd.N_elderB (by (with_reducible repeat (first | apply Kd.N_alloc | apply Kd.N_drewN | apply Kd.N_drew)); exact HO_5.out) gb144 (Nat.le_of_eq hg.symm)) hb); have n2_ := Aside0.mk (Kd.V_below (Kd.V_elderB (by (with_reducible repeat (first | apply Kd.V_alloc | apply Kd.V_drewN | apply Kd.V_drew)); exact HO_14.out) gb144 (Nat.le_of_eq hg.symm)) hb); have n3_ := Aside0.mk (Kd.V_below (Kd.V_elderB (by (with_reducible repeat (first | apply Kd.V_alloc | apply Kd.V_drewN | apply Kd.V_drew)); exact HL143_2.out) gb144 (Nat.le_of_eq hg.symm)) hb); have n4_ := Aside0.mk (Kd.C_below (by repeat (first | (with_reducible exact HR143_2.out) | (with_reducible refine Kd.C_alloc ?_ _) | (with_reducible refine Kd.C_drewN ?_ _) | (with_reducible refine Kd.C_drew ?_) | exact HR143_2.out)) hb); have n5_ := Aside0.mk (below_step (by repeat (first | (with_reducible first | exact HB.out | apply below_alloc | apply pw_below_drewN | apply below_drew1) | exact HB.out)) hb); have n6_ := Aside0.mk (hbox); have n7_ := Aside0.mk ((by rw [hg]; exact (below_size (by repeat (first | (with_reducible first | exact HB.out | apply below_alloc | apply pw_below_drewN | apply below_drew1) | exact HB.out))) : w.heap.size ≤ gb144)); have n8_ := Aside0.mk ((by rw [hg]; exact (below_size (by repeat (first | (with_reducible first | exact HB.out | apply below_alloc | apply pw_below_drewN | apply below_drew1) | exact HB.out))) : w.heap.size ≤ gb144)); clear HO_0; clear HO_5; clear HO_14; clear HL143_2; clear HR143_2; clear HB; have HO_0 := n0_; have HO_5 := n1_; have HO_14 := n2_; have HL143_2 := n3_; have HR143_2 := n4_; have HB := n5_; have BK144 := n6_; have GW144 := n7_; have GE144 := n8_; clear n0_ n1_ n2_ n3_ n4_ n5_ n6_ n7_ n8_; clear hb hbox hg; have hcz36_0 : w35.cell? ⟨gb144, 0, none⟩ = some (.int .i64 0) := (blk_cell BK144.out 0).trans rfl; have hcz36_1 : w35.cell? ⟨gb144, 1, none⟩ = some (.int .i64 0) := (blk_cell BK144.out 1).trans rfl; have hcz36_2 : w35.cell? ⟨gb144, 2, none⟩ = some (.slice none 0 0) := (blk_cell BK144.out 2).trans rfl; have hfz36_0 := blk_frozen BK144.out 0; have hfz36_1 := blk_frozen BK144.out 1; have hfz36_2 := blk_frozen BK144.out 2))
                      have n0_ : Aside0 (Kd.V k37 37 (((w35.setCell ⟨gb144, 0, none⟩ (.int .i64 ((rd_T37 y138 x16_1).f0))).setCell ⟨gb144, 1, none⟩ (.int .i64 ((rd_T37 y138 x16_1).f1))).setCell ⟨gb144, 2, none⟩ (.slice A143_2 ((rd_T37 y138 x16_1).f2).length c143_2)) w.heap.size (fun k_ => (P0_ k_ ∨ w.heap.size ≤ k_) ∧ some k_ ≠ (u5 : Value).ownBlock ∧ k_ ≠ gb144) (.slice (some ad143) y138.length c0) y138) := ⟨by (with_reducible repeat (first | apply Kd.V_alloc | apply Kd.V_drewN | apply Kd.V_drew)); exact Kd.V_mono (Kd.V_far (p := ⟨gb144, 2, none⟩) (Kd.V_far (p := ⟨gb144, 1, none⟩) (Kd.V_far (p := ⟨gb144, 0, none⟩) (Kd.V_mono HO_0.out (fun k_ hk => (⟨hk, hk.2⟩ : _ ∧ k_ ≠ gb144))) (fun _ hk => hk.2) (.int .i64 ((rd_T37 y138 x16_1).f0))) (fun _ hk => hk.2) (.int .i64 ((rd_T37 y138 x16_1).f1))) (fun _ hk => hk.2) (.slice A143_2 ((rd_T37 y138 x16_1).f2).length c143_2)) (fun _ hk => ⟨hk.1.1.1, ⟨hk.1.1.2, hk.1.2⟩⟩)⟩
                      have n1_ : Aside0 (Kd.N k37 37 (((w35.setCell ⟨gb144, 0, none⟩ (.int .i64 ((rd_T37 y138 x16_1).f0))).setCell ⟨gb144, 1, none⟩ (.int .i64 ((rd_T37 y138 x16_1).f1))).setCell ⟨gb144, 2, none⟩ (.slice A143_2 ((rd_T37 y138 x16_1).f2).length c143_2)) w.heap.size (fun k_ => (P0_ k_ ∨ w.heap.size ≤ k_) ∧ k_ ≠ gb144) u5 x5_1) := ⟨by (with_reducible repeat (first | apply Kd.N_alloc | apply Kd.N_drewN | apply Kd.N_drew)); exact Kd.N_mono (Kd.N_far (p := ⟨gb144, 2, none⟩) (Kd.N_far (p := ⟨gb144, 1, none⟩) (Kd.N_far (p := ⟨gb144, 0, none⟩) (Kd.N_mono HO_5.out (fun k_ hk => (⟨hk, hk.2⟩ : _ ∧ k_ ≠ gb144))) (fun _ hk => hk.2) (.int .i64 ((rd_T37 y138 x16_1).f0))) (fun _ hk => hk.2) (.int .i64 ((rd_T37 y138 x16_1).f1))) (fun _ hk => hk.2) (.slice A143_2 ((rd_T37 y138 x16_1).f2).length c143_2)) (fun _ hk => ⟨hk.1.1, hk.1.2⟩)⟩
                      have n2_ : Aside0 (Kd.V k37 37 (((w35.setCell ⟨gb144, 0, none⟩ (.int .i64 ((rd_T37 y138 x16_1).f0))).setCell ⟨gb144, 1, none⟩ (.int .i64 ((rd_T37 y138 x16_1).f1))).setCell ⟨gb144, 2, none⟩ (.slice A143_2 ((rd_T37 y138 x16_1).f2).length c143_2)) w.heap.size (fun k_ => (P0_ k_ ∨ w.heap.size ≤ k_) ∧ some k_ ≠ (u5 : Value).ownBlock ∧ k_ ≠ gb144) (.slice (some ad143) y138.length c0) y138) := ⟨by (with_reducible repeat (first | apply Kd.V_alloc | apply Kd.V_drewN | apply Kd.V_drew)); exact Kd.V_mono (Kd.V_far (p := ⟨gb144, 2, none⟩) (Kd.V_far (p := ⟨gb144, 1, none⟩) (Kd.V_far (p := ⟨gb144, 0, none⟩) (Kd.V_mono HO_14.out (fun k_ hk => (⟨hk, hk.2⟩ : _ ∧ k_ ≠ gb144))) (fun _ hk => hk.2) (.int .i64 ((rd_T37 y138 x16_1).f0))) (fun _ hk => hk.2) (.int .i64 ((rd_T37 y138 x16_1).f1))) (fun _ hk => hk.2) (.slice A143_2 ((rd_T37 y138 x16_1).f2).length c143_2)) (fun _ hk => ⟨hk.1.1.1, ⟨hk.1.1.2, hk.1.2⟩⟩)⟩
                      have n3_ : Aside0 (Kd.V (Kd.int .u8) 5 (((w35.setCell ⟨gb144, 0, none⟩ (.int .i64 ((rd_T37 y138 x16_1).f0))).setCell ⟨gb144, 1, none⟩ (.int .i64 ((rd_T37 y138 x16_1).f1))).setCell ⟨gb144, 2, none⟩ (.slice A143_2 ((rd_T37 y138 x16_1).f2).length c143_2)) w.heap.size (fun k_ => (P0_ k_ ∨ w.heap.size ≤ k_) ∧ some k_ ≠ (u5 : Value).ownBlock ∧ k_ ≠ gb144) (.slice A143_2 ((rd_T37 y138 x16_1).f2).length c143_2) ((rd_T37 y138 x16_1).f2)) := ⟨by (with_reducible repeat (first | apply Kd.V_alloc | apply Kd.V_drewN | apply Kd.V_drew)); exact Kd.V_mono (Kd.V_far (p := ⟨gb144, 2, none⟩) (Kd.V_far (p := ⟨gb144, 1, none⟩) (Kd.V_far (p := ⟨gb144, 0, none⟩) (Kd.V_mono HL143_2.out (fun k_ hk => (⟨hk, hk.2⟩ : _ ∧ k_ ≠ gb144))) (fun _ hk => hk.2) (.int .i64 ((rd_T37 y138 x16_1).f0))) (fun _ hk => hk.2) (.int .i64 ((rd_T37 y138 x16_1).f1))) (fun _ hk => hk.2) (.slice A143_2 ((rd_T37 y138 x16_1).f2).length c143_2)) (fun _ hk => ⟨hk.1.1.1, ⟨hk.1.1.2, hk.1.2⟩⟩)⟩
                      have n4_ : Aside0 ((((w35.setCell ⟨gb144, 0, none⟩ (.int .i64 ((rd_T37 y138 x16_1).f0))).setCell ⟨gb144, 1, none⟩ (.int .i64 ((rd_T37 y138 x16_1).f1))).setCell ⟨gb144, 2, none⟩ (.slice A143_2 ((rd_T37 y138 x16_1).f2).length c143_2)).heap[gb144]? = some (.cells #[.int .i64 ((rd_T37 y138 x16_1).f0), .int .i64 ((rd_T37 y138 x16_1).f1), .slice A143_2 ((rd_T37 y138 x16_1).f2).length c143_2] 37 (0, 0))) := ⟨by (with_reducible repeat (first | refine blk_drewN ?_ _ | refine blk_drew ?_ | refine blk_alloc ?_ _)); refine blk_put (cs := #[.int .i64 ((rd_T37 y138 x16_1).f0), .int .i64 ((rd_T37 y138 x16_1).f1), .slice none 0 0]) ?_ 2 _ rfl; (with_reducible repeat (first | refine blk_drewN ?_ _ | refine blk_drew ?_ | refine blk_alloc ?_ _)); refine blk_put (cs := #[.int .i64 ((rd_T37 y138 x16_1).f0), .int .i64 0, .slice none 0 0]) ?_ 1 _ rfl; (with_reducible repeat (first | refine blk_drewN ?_ _ | refine blk_drew ?_ | refine blk_alloc ?_ _)); refine blk_put (cs := #[.int .i64 0, .int .i64 0, .slice none 0 0]) ?_ 0 _ rfl; (with_reducible repeat (first | refine blk_drewN ?_ _ | refine blk_drew ?_ | refine blk_alloc ?_ _)); exact BK144.out⟩
                      have n5_ : Aside0 (Below w.heap.size w (((w35.setCell ⟨gb144, 0, none⟩ (.int .i64 ((rd_T37 y138 x16_1).f0))).setCell ⟨gb144, 1, none⟩ (.int .i64 ((rd_T37 y138 x16_1).f1))).setCell ⟨gb144, 2, none⟩ (.slice A143_2 ((rd_T37 y138 x16_1).f2).length c143_2))) := ⟨by repeat (first | (with_reducible first | exact HB.out | apply below_alloc | apply pw_below_drewN | apply below_drew1 | refine below_set ?_ GE144.out) | exact HB.out)⟩
                      (try clear HO_0)
                      (try clear HO_5)
                      (try clear HO_14)
                      (try clear HL143_2)
                      (try clear BK144)
                      (try clear HB)
                      generalize (((w35.setCell ⟨gb144, 0, none⟩ (.int .i64 ((rd_T37 y138 x16_1).f0))).setCell ⟨gb144, 1, none⟩ (.int .i64 ((rd_T37 y138 x16_1).f1))).setCell ⟨gb144, 2, none⟩ (.slice A143_2 ((rd_T37 y138 x16_1).f2).length c143_2)) = w37 at n0_ n1_ n2_ n3_ n4_ n5_ ⊢
                      have HO_0 := n0_
                      have HO_5 := n1_
                      have HO_14 := n2_
                      have HL143_2 := n3_
                      have BK144 := n4_
                      have HB := n5_
                      clear n0_ n1_ n2_ n3_ n4_ n5_
                      have n0_ := Aside0.mk (Kd.V_drew HO_0.out)
                      have n1_ := Aside0.mk (Kd.N_drew HO_5.out)
                      have n2_ := Aside0.mk (Kd.V_drew HO_14.out)
                      have n3_ := Aside0.mk (Kd.V_drew HL143_2.out)
                      have n4_ := Aside0.mk (blk_drew BK144.out)
                      have n5_ := Aside0.mk (below_drew1 HB.out)
                      clear HO_0
                      clear HO_5
                      clear HO_14
                      clear HL143_2
                      clear BK144
                      clear HB
                      have HO_0 := n0_
                      have HO_5 := n1_
                      have HO_14 := n2_
                      have HL143_2 := n3_
                      have BK144 := n4_
                      have HB := n5_
                      clear n0_ n1_ n2_ n3_ n4_ n5_
                      have q39 : (0 : Int) ≤ ((((rd_T37 y138 x16_1).f2).length : Int) : Int) := of_decide_eq_true (by first | (with_reducible assumption) | assumption)
                      obtain ⟨i039, hi039, _, hsz39, _⟩ := info_parts info5
                      have hroom39 : ((rd_T37 y138 x16_1).f2).length ≤ c143_2 := HC143_2.out
                      have hC39 : Kd.F (Kd.int .u8) _ _ A143_2 ((rd_T37 y138 x16_1).f2).length ((rd_T37 y138 x16_1).f2) := (Kd.V_at (base := w.heap.size) HL143_2.out).2.2
                      have hcut39 := cut_to (P := Try.prog) 31 5 .i64 Try.underlying31 hi039 A143_2 ((rd_T37 y138 x16_1).f2).length c143_2 0 (by omega) q39 hroom39
                      have hr39 := Kd.F_take (m := 0) hC39 (by omega)
                      have hy39 : y162.length = (0 : Int).toNat := (by rw [Ny162.out, List.length_take]; omega)
                      rw [← Ny162.out] at hr39
                      rw [← hy39] at hcut39
                      have HO166 := Aside0.mk (show Kd.V (Kd.int .u8) 5 _ w.heap.size _ (.slice A143_2 y162.length c143_2) y162 from Kd.V_mk (by omega) hr39)
                      have HC166 := Aside0.mk (show y162.length ≤ c143_2 from by omega)
                      clear hr39 hC39 hroom39 hi039 hsz39
                      have KY39 := Aside0.mk hy39
                      clear hy39
                      replace q39 := eq_true q39
                      have q40 : (0 : Int) ≤ ((((rd_T37 y138 x16_1).f2).length : Int) : Int) := of_decide_eq_true (by first | (with_reducible assumption) | assumption)
                      obtain ⟨i040, hi040, _, hsz40, _⟩ := info_parts info5
                      have hroom40 : ((rd_T37 y138 x16_1).f2).length ≤ c143_2 := HC143_2.out
                      have hC40 : Kd.F (Kd.int .u8) _ _ A143_2 ((rd_T37 y138 x16_1).f2).length ((rd_T37 y138 x16_1).f2) := (Kd.V_at (base := w.heap.size) HL143_2.out).2.2
                      have hcut40 := cut_from (P := Try.prog) 31 5 .i64 Try.underlying31 hi040 1 hsz40 A143_2 ((rd_T37 y138 x16_1).f2).length c143_2 0 (by omega) q40
                      have hr40 := Kd.F_cut (m := (0 : Int).toNat) (c := c143_2) hC40 (by omega) hroom40
                      obtain ⟨A40, hA40⟩ : ∃ A1, A1 = (if c143_2 = (0 : Int).toNat then A143_2 else (A143_2 : Option Addr).map (·.add ((0 : Int).toNat * 1))) := ⟨_, rfl⟩
                      obtain ⟨c40, hc40⟩ : ∃ c1, c1 = c143_2 - (0 : Int).toNat := ⟨_, rfl⟩
                      have hy40 : y167.length = ((rd_T37 y138 x16_1).f2).length - (0 : Int).toNat := (by rw [Ny167.out, List.length_drop] <;> omega)
                      rw [show ((rd_T37 y138 x16_1).f2).drop (0 : Int).toNat = y167 from Ny167.out.symm] at hr40
                      replace hr40 : Kd.F (Kd.int .u8) _ _ A40 y167.length y167 := (by rw [hA40]; exact hr40)
                      rw [← hy40, ← hA40, ← hc40] at hcut40
                      have HO171 := Aside0.mk (show Kd.V (Kd.int .u8) 5 _ w.heap.size _ (.slice A40 y167.length c40) y167 from Kd.V_mk (by rw [hy40, hc40]; exact Nat.sub_le_sub_right hroom40 _) hr40)
                      have HC171 := Aside0.mk (show y167.length ≤ c40 from by rw [hy40, hc40]; exact Nat.sub_le_sub_right hroom40 _)
                      clear hr40 hC40 hroom40 hi040 hsz40 hc40
                      have KY40 := Aside0.mk hy40
                      have KA40 := Aside0.mk hA40
                      clear hy40 hA40
                      replace q40 := eq_true q40
                      refine start_ (n := 21) (S := fun w' => w'.cell? ⟨gb144, 0, none⟩ = some (.int .i64 ((rd_T37 y138 x16_1).f0)) ∧ w'.cell? ⟨gb144, 1, none⟩ = some (.int .i64 ((rd_T37 y138 x16_1).f1)) ∧ w'.cell? ⟨gb144, 2, none⟩ = some (.slice A143_2 ((rd_T37 y138 x16_1).f2).length c143_2)) (ds := []) #[false, false, false, false, false, false, false, false, false, false, false, false, false, false, false, false, false, false, false, false, false] (by kernel_rfl) rfl rfl ⟨(blk_cell BK144.out 0).trans rfl, (blk_cell BK144.out 1).trans rfl, (blk_cell BK144.out 2).trans rfl⟩ (fun hHeld => ?_); refine with_tabW cuecardlaw10_TurnCuts.tab9 cuecardlaw10_TurnCuts.bits9 (fun HT_ HW_ => ?_)
                      generalize w37.drew = w38 at HO_0 HO_5 HO_14 HL143_2 BK144 HB HO166 HO171 hHeld ⊢
                      refine pure_ (i := 0) (N := some 37) (v := ?_) (a' := ?_) #[true, false, false, false, false, false, false, false, false, false, false, false, false, false, false, false, false, false, false, false, false] rfl rfl (any_of HT_.out (by kernel_rfl)) (fun _ _ _ h => h) (Or.inl ⟨by rfl, ?_⟩) ?_ ?_
                      rotate_left
                      · intro w'
                        go_simp
                        with_reducible rfl
                      rotate_left
                      · simp only [Act.put, List.setIfInBounds_toArray, List.set_cons_zero, List.set_cons_succ, i64_w, i32_w]
                        rfl
                      refine pure_ (i := 1) (N := some 38) (v := ?_) (a' := ?_) #[true, true, false, false, false, false, false, false, false, false, false, false, false, false, false, false, false, false, false, false, false] rfl rfl (any_of HT_.out (by kernel_rfl)) (fun _ _ _ h => h) (Or.inl ⟨by rfl, ?_⟩) ?_ ?_
                      rotate_left
                      · intro w'
                        go_simp
                        with_reducible rfl
                      rotate_left
                      · simp only [Act.put, List.setIfInBounds_toArray, List.set_cons_zero, List.set_cons_succ, i64_w, i32_w]
                        rfl
                      refine pure_ (i := 3) (N := some 40) (v := ?_) (a' := ?_) #[true, true, false, true, false, false, false, false, false, false, false, false, false, false, false, false, false, false, false, false, false] rfl rfl (any_of HT_.out (by kernel_rfl)) (fun _ _ _ h => h) (Or.inl ⟨by rfl, ?_⟩) ?_ ?_
                      rotate_left
                      · intro w'
                        go_simp
                        with_reducible rfl
                      rotate_left
                      · simp only [Act.put, List.setIfInBounds_toArray, List.set_cons_zero, List.set_cons_succ, i64_w, i32_w]
                        rfl
                      refine pure_ (i := 5) (N := some 42) (v := ?_) (a' := ?_) #[true, true, false, true, false, true, false, false, false, false, false, false, false, false, false, false, false, false, false, false, false] rfl rfl (any_of HT_.out (by kernel_rfl)) (fun _ _ _ h => h) (Or.inl ⟨by rfl, ?_⟩) ?_ ?_
                      rotate_left
                      · intro w'
                        go_simp
                        with_reducible rfl
                      rotate_left
                      · simp only [Act.put, List.setIfInBounds_toArray, List.set_cons_zero, List.set_cons_succ, i64_w, i32_w]
                        rfl
                      refine pure_ (i := 8) (N := some 45) (v := ?_) (a' := ?_) #[true, true, false, true, false, true, false, false, true, false, false, false, false, false, false, false, false, false, false, false, false] rfl rfl (any_of HT_.out (by kernel_rfl)) (fun _ _ _ h => h) (Or.inl ⟨by rfl, ?_⟩) ?_ ?_
                      rotate_left
                      · intro w'
                        go_simp
                        with_reducible rfl
                      rotate_left
                      · simp only [Act.put, List.setIfInBounds_toArray, List.set_cons_zero, List.set_cons_succ, i64_w, i32_w]
                        rfl
                      refine pure_ (i := 11) (N := some 48) (v := ?_) (a' := ?_) #[true, true, false, true, false, true, false, false, true, false, false, true, false, false, false, false, false, false, false, false, false] rfl rfl (any_of HT_.out (by kernel_rfl)) (fun _ _ _ h => h) (Or.inl ⟨by rfl, ?_⟩) ?_ ?_
                      rotate_left
                      · intro w'
                        go_simp
                        with_reducible rfl
                      rotate_left
                      · simp only [Act.put, List.setIfInBounds_toArray, List.set_cons_zero, List.set_cons_succ, i64_w, i32_w]
                        rfl
                      refine pure_ (i := 13) (N := some 50) (v := ?_) (a' := ?_) #[true, true, false, true, false, true, false, false, true, false, false, true, false, true, false, false, false, false, false, false, false] rfl rfl (any_of HT_.out (by kernel_rfl)) (fun _ _ _ h => h) (Or.inl ⟨by rfl, ?_⟩) ?_ ?_
                      rotate_left
                      · intro w'
                        go_simp
                        with_reducible rfl
                      rotate_left
                      · simp only [Act.put, List.setIfInBounds_toArray, List.set_cons_zero, List.set_cons_succ, i64_w, i32_w]
                        rfl
                      refine pure_ (i := 15) (N := some 52) (v := ?_) (a' := ?_) #[true, true, false, true, false, true, false, false, true, false, false, true, false, true, false, true, false, false, false, false, false] rfl rfl (any_of HT_.out (by kernel_rfl)) (fun _ _ _ h => h) (Or.inl ⟨by rfl, ?_⟩) ?_ ?_
                      rotate_left
                      · intro w'
                        go_simp
                        with_reducible rfl
                      rotate_left
                      · simp only [Act.put, List.setIfInBounds_toArray, List.set_cons_zero, List.set_cons_succ, i64_w, i32_w]
                        rfl
                      refine take_ (i := 2) (N := some 39) (v := ?_) (a' := ?_) #[true, true, true, true, false, true, false, false, true, false, false, true, false, true, false, true, false, false, false, false, false] rfl rfl (take_ofW HT_.out HW_.out (by kernel_rfl)) (fun _ _ _ h => h) (Or.inl ⟨by rfl, ?_⟩) hHeld ?_ ?_
                      rotate_left
                      · rintro w' ⟨s0, s1, s2⟩
                        go_simp
                        with_reducible rfl
                      rotate_left
                      · simp only [Act.put, List.setIfInBounds_toArray, List.set_cons_zero, List.set_cons_succ, i64_w, i32_w]
                        rfl
                      refine take_ (i := 4) (N := some 41) (v := ?_) (a' := ?_) #[true, true, true, true, true, true, false, false, true, false, false, true, false, true, false, true, false, false, false, false, false] rfl rfl (take_ofW HT_.out HW_.out (by kernel_rfl)) (fun _ _ _ h => h) (Or.inl ⟨by rfl, ?_⟩) hHeld ?_ ?_
                      rotate_left
                      · rintro w' ⟨s0, s1, s2⟩
                        go_simp
                        with_reducible rfl
                      rotate_left
                      · simp only [Act.put, List.setIfInBounds_toArray, List.set_cons_zero, List.set_cons_succ, i64_w, i32_w]
                        rfl
                      refine pure_ (i := 6) (N := some 43) (v := ?_) (a' := ?_) #[true, true, true, true, true, true, true, false, true, false, false, true, false, true, false, true, false, false, false, false, false] rfl rfl (any_of HT_.out (by kernel_rfl)) (fun _ _ _ h => h) (Or.inl ⟨by rfl, ?_⟩) ?_ ?_
                      rotate_left
                      · intro w'
                        go_simp
                        with_reducible rfl
                      rotate_left
                      · simp only [Act.put, List.setIfInBounds_toArray, List.set_cons_zero, List.set_cons_succ, i64_w, i32_w]
                        rfl
                      refine pure_ (i := 7) (N := some 44) (v := ?_) (a' := ?_) #[true, true, true, true, true, true, true, true, true, false, false, true, false, true, false, true, false, false, false, false, false] rfl rfl (any_of HT_.out (by kernel_rfl)) (fun _ _ _ h => h) (Or.inl ⟨by rfl, ?_⟩) ?_ ?_
                      rotate_left
                      · intro w'
                        go_simp
                        with_reducible rfl
                      rotate_left
                      · simp only [Act.put, List.setIfInBounds_toArray, List.set_cons_zero, List.set_cons_succ, i64_w, i32_w]
                        rfl
                      refine take_ (i := 9) (N := some 46) (v := ?_) (a' := ?_) #[true, true, true, true, true, true, true, true, true, true, false, true, false, true, false, true, false, false, false, false, false] rfl rfl (take_ofW HT_.out HW_.out (by kernel_rfl)) (fun _ _ _ h => h) (Or.inl ⟨by rfl, ?_⟩) hHeld ?_ ?_
                      rotate_left
                      · rintro w' ⟨s0, s1, s2⟩
                        go_simp
                        with_reducible rfl
                      rotate_left
                      · simp only [Act.put, List.setIfInBounds_toArray, List.set_cons_zero, List.set_cons_succ, i64_w, i32_w]
                        rfl
                      refine pure_ (i := 10) (N := some 47) (v := ?_) (a' := ?_) #[true, true, true, true, true, true, true, true, true, true, true, true, false, true, false, true, false, false, false, false, false] rfl rfl (any_of HT_.out (by kernel_rfl)) (fun _ _ _ h => h) (Or.inl ⟨by rfl, ?_⟩) ?_ ?_
                      rotate_left
                      · intro w'
                        go_simp
                        with_reducible rfl
                      rotate_left
                      · simp only [Act.put, List.setIfInBounds_toArray, List.set_cons_zero, List.set_cons_succ, i64_w, i32_w]
                        rfl
                      refine take_ (i := 12) (N := some 49) (v := ?_) (a' := ?_) #[true, true, true, true, true, true, true, true, true, true, true, true, true, true, false, true, false, false, false, false, false] rfl rfl (take_ofW HT_.out HW_.out (by kernel_rfl)) (fun _ _ _ h => h) (Or.inl ⟨by rfl, ?_⟩) hHeld ?_ ?_
                      rotate_left
                      · rintro w' ⟨s0, s1, s2⟩
                        go_simp
                        with_reducible rfl
                      rotate_left
                      · simp only [Act.put, List.setIfInBounds_toArray, List.set_cons_zero, List.set_cons_succ, i64_w, i32_w]
                        rfl
                      refine take_ (i := 14) (N := some 51) (v := ?_) (a' := ?_) #[true, true, true, true, true, true, true, true, true, true, true, true, true, true, true, true, false, false, false, false, false] rfl rfl (take_ofW HT_.out HW_.out (by kernel_rfl)) (fun _ _ _ h => h) (Or.inl ⟨by rfl, ?_⟩) hHeld ?_ ?_
                      rotate_left
                      · rintro w' ⟨s0, s1, s2⟩
                        go_simp
                        with_reducible rfl
                      rotate_left
                      · simp only [Act.put, List.setIfInBounds_toArray, List.set_cons_zero, List.set_cons_succ, i64_w, i32_w]
                        rfl
                      refine pure_ (i := 16) (N := some 53) (v := ?_) (a' := ?_) #[true, true, true, true, true, true, true, true, true, true, true, true, true, true, true, true, true, false, false, false, false] rfl rfl (any_of HT_.out (by kernel_rfl)) (fun _ _ _ h => h) (Or.inl ⟨by rfl, ?_⟩) ?_ ?_
                      rotate_left
                      · intro w'
                        go_simp
                        with_reducible rfl
                      rotate_left
                      · simp only [Act.put, List.setIfInBounds_toArray, List.set_cons_zero, List.set_cons_succ, i64_w, i32_w]
                        rfl
                      refine pure_ (i := 17) (N := some 54) (v := ?_) (a' := ?_) #[true, true, true, true, true, true, true, true, true, true, true, true, true, true, true, true, true, true, false, false, false] rfl rfl (any_of HT_.out (by kernel_rfl)) (fun _ _ _ h => h) (Or.inl ⟨by rfl, ?_⟩) ?_ ?_
                      rotate_left
                      · intro w'
                        go_simp
                        with_reducible rfl
                      rotate_left
                      · simp only [Act.put, List.setIfInBounds_toArray, List.set_cons_zero, List.set_cons_succ, i64_w, i32_w]
                        rfl
                      refine one_ (i := 18) (N := some 55) #[true, true, true, true, true, true, true, true, true, true, true, true, true, true, true, true, true, true, true, false, false] rfl rfl (one_of HT_.out (by kernel_rfl)) (by decide) (fun K hK => ?_)
                      refine Kd.N_lit_step k37 _ 37 ?hg (N' := 55) ?hd (xs := ([(⟨(rd_T37 y138 x16_1).f0, 0, y162⟩ : S37), (⟨(rd_T37 y138 x16_1).f0, 9, ([] : List Int)⟩ : S37), (⟨(rd_T37 y138 x16_1).f0, 0, y167⟩ : S37)] : List (S37))) (inner := [.int .i64 ((rd_T37 y138 x16_1).f0), .int .i64 0, .slice A143_2 y162.length c143_2, .int .i64 ((rd_T37 y138 x16_1).f0), .int .i64 9, .slice none 0 0, .int .i64 ((rd_T37 y138 x16_1).f0), .int .i64 0, .slice A40 y167.length c40]) (ok := (fun k_ => (P0_ k_ ∨ w.heap.size ≤ k_) ∧ some k_ ≠ (u5 : Value).ownBlock ∧ k_ ≠ gb144)) (okp := (fun k_ => (P0_ k_ ∨ w.heap.size ≤ k_) ∧ some k_ ≠ (u5 : Value).ownBlock ∧ k_ ≠ gb144)) ?hr ?hp (fun _ hk => hk) ((show ∀ k_, w38.heap.size ≤ k_ → (fun k_ => (P0_ k_ ∨ w.heap.size ≤ k_) ∧ some k_ ≠ (u5 : Value).ownBlock ∧ k_ ≠ gb144) k_ from fun k_ hk => ⟨(.inr (Nat.le_trans (below_size (by repeat (first | (with_reducible first | exact HB.out | apply below_alloc | apply pw_below_drewN | apply below_drew1 | refine below_set ?_ GE144.out) | exact HB.out))) hk)), Kd.fresh' (Kd.N_lt (by (with_reducible repeat (first | apply Kd.N_alloc | apply Kd.N_drewN | apply Kd.N_drew)); exact HO_5.out)) k_ hk, Kd.freshB (g := gb144) (o := .cells #[.int .i64 ((rd_T37 y138 x16_1).f0), .int .i64 ((rd_T37 y138 x16_1).f1), .slice A143_2 ((rd_T37 y138 x16_1).f2).length c143_2] 37 (0, 0)) (by (with_reducible repeat (first | refine blk_drewN ?_ _ | refine blk_drew ?_ | refine blk_alloc ?_ _)); exact BK144.out) k_ hk⟩) _ (Nat.le_refl _)) (Below.refl _ _) (Nat.le_refl _) (by simp) ?_; (case hd => rfl); (case hg => rfl); (case hr => first | (go_simp; done) | (go_simp; rfl)); (case hp => exact (Reps.c3 (show Kd.FK k37 _ _ (⟨(rd_T37 y138 x16_1).f0, 0, y162⟩ : S37) [.int .i64 ((rd_T37 y138 x16_1).f0), .int .i64 0, .slice A143_2 y162.length c143_2] from (k37_mkF _ _ (⟨(rd_T37 y138 x16_1).f0, 0, y162⟩ : S37) (Kd.V_reads' (Kd.V_mono (ok' := (fun k_ => (P0_ k_ ∨ w.heap.size ≤ k_) ∧ some k_ ≠ (u5 : Value).ownBlock ∧ k_ ≠ gb144)) (HO166.out) (fun k_ hk => ⟨hk.1, ⟨hk.2.1, hk.2.2⟩⟩))).2.1 (Kd.V_F (Kd.V_mono (ok' := (fun k_ => (P0_ k_ ∨ w.heap.size ≤ k_) ∧ some k_ ≠ (u5 : Value).ownBlock ∧ k_ ≠ gb144)) (HO166.out) (fun k_ hk => ⟨hk.1, ⟨hk.2.1, hk.2.2⟩⟩))))) (Reps.c3 (show Kd.FK k37 _ _ (⟨(rd_T37 y138 x16_1).f0, 9, ([] : List Int)⟩ : S37) [.int .i64 ((rd_T37 y138 x16_1).f0), .int .i64 9, .slice none 0 0] from (k37_mkF _ _ (⟨(rd_T37 y138 x16_1).f0, 9, ([] : List Int)⟩ : S37) (Nat.le_refl _) (Kd.F_nil _ _ _))) (Reps.c3 (show Kd.FK k37 _ _ (⟨(rd_T37 y138 x16_1).f0, 0, y167⟩ : S37) [.int .i64 ((rd_T37 y138 x16_1).f0), .int .i64 0, .slice A40 y167.length c40] from (k37_mkF _ _ (⟨(rd_T37 y138 x16_1).f0, 0, y167⟩ : S37) (Kd.V_reads' (Kd.V_mono (ok' := (fun k_ => (P0_ k_ ∨ w.heap.size ≤ k_) ∧ some k_ ≠ (u5 : Value).ownBlock ∧ k_ ≠ gb144)) (HO171.out) (fun k_ hk => ⟨hk.1, ⟨hk.2.1, hk.2.2⟩⟩))).2.1 (Kd.V_F (Kd.V_mono (ok' := (fun k_ => (P0_ k_ ∨ w.heap.size ≤ k_) ∧ some k_ ≠ (u5 : Value).ownBlock ∧ k_ ≠ gb144)) (HO171.out) (fun k_ hk => ⟨hk.1, ⟨hk.2.1, hk.2.2⟩⟩))))) (Reps.none _ _)))))
                      intro v173 w41 ho42 hb hg_ hnew_
                      clear hg_ hnew_
                      (first | rw [← Ny172.out] at ho42 | (simp only [Int.reduceToNat] at ho42; rw [← Ny172.out] at ho42))
                      have n0_ := Aside0.mk (Kd.V_elder' (by (with_reducible repeat (first | apply Kd.V_alloc | apply Kd.V_drewN | apply Kd.V_drew)); exact HO_0.out) (Kd.N_base ho42) hb)
                      have n1_ := Aside0.mk (Kd.N_elder' (by (with_reducible repeat (first | apply Kd.N_alloc | apply Kd.N_drewN | apply Kd.N_drew)); exact HO_5.out) (Kd.N_base ho42) hb)
                      have n2_ := Aside0.mk (Kd.V_elder' (by (with_reducible repeat (first | apply Kd.V_alloc | apply Kd.V_drewN | apply Kd.V_drew)); exact HO_14.out) (Kd.N_base ho42) hb)
                      have n3_ := Aside0.mk (Kd.V_elder' (by (with_reducible repeat (first | apply Kd.V_alloc | apply Kd.V_drewN | apply Kd.V_drew)); exact HL143_2.out) (Kd.N_base ho42) hb)
                      have n4_ := Aside0.mk (Kd.V_elder' (by (with_reducible repeat (first | apply Kd.V_alloc | apply Kd.V_drewN | apply Kd.V_drew)); exact HO166.out) (Kd.N_base ho42) hb)
                      have n5_ := Aside0.mk (Kd.V_elder' (by (with_reducible repeat (first | apply Kd.V_alloc | apply Kd.V_drewN | apply Kd.V_drew)); exact HO171.out) (Kd.N_base ho42) hb)
                      have n6_ := Aside0.mk (Kd.N_lower ho42 (below_size (by repeat (first | (with_reducible first | exact HB.out | apply below_alloc | apply pw_below_drewN | apply below_drew1 | refine below_set ?_ GE144.out) | exact HB.out))))
                      have n7_ := Aside0.mk (blk_below (g := gb144) (o := .cells #[.int .i64 ((rd_T37 y138 x16_1).f0), .int .i64 ((rd_T37 y138 x16_1).f1), .slice A143_2 ((rd_T37 y138 x16_1).f2).length c143_2] 37 (0, 0)) (by (with_reducible repeat (first | refine blk_drewN ?_ _ | refine blk_drew ?_ | refine blk_alloc ?_ _)); exact BK144.out) hb)
                      have n8_ := Aside0.mk (below_step (by repeat (first | (with_reducible first | exact HB.out | apply below_alloc | apply pw_below_drewN | apply below_drew1 | refine below_set ?_ GE144.out) | exact HB.out)) hb)
                      clear HO_0
                      clear HO_5
                      clear HO_14
                      clear HL143_2
                      clear HO166
                      clear HO171
                      clear BK144
                      clear HB
                      have HO_0 := n0_
                      have HO_5 := n1_
                      have HO_14 := n2_
                      have HL143_2 := n3_
                      have HO166 := n4_
                      have HO171 := n5_
                      have HO174 := n6_
                      have BK144 := n7_
                      have HB := n8_
                      clear n0_ n1_ n2_ n3_ n4_ n5_ n6_ n7_ n8_
                      clear hb ho42
                      obtain ⟨Ao44, co44, eo44⟩ := Kd.N_slice HO174.out
                      (first | subst eo44 | (injection eo44 with f1_ f2_ f3_; have f4_ := f1_.symm; have f5_ := f3_.symm; clear f1_ f2_ f3_; subst f4_; subst f5_))
                      refine hK.out _ _ ⟨(blk_cell BK144.out 0).trans rfl, (blk_cell BK144.out 1).trans rfl, (blk_cell BK144.out 2).trans rfl⟩ (fun hHeld => ?_)
                      clear hK K
                      refine norm_ (a' := ?_) ?_ ?_
                      rotate_left
                      · show Act.put _ (some 55) _ = _
                        simp only [Act.put, List.setIfInBounds_toArray, List.set_cons_zero, List.set_cons_succ, i64_w, i32_w]
                        rfl
                      refine one_ (i := 19) (N := some 56) #[true, true, true, true, true, true, true, true, true, true, true, true, true, true, true, true, true, true, true, true, false] rfl rfl (one_of HT_.out (by kernel_rfl)) (by decide) (fun K hK => ?_)
                      refine Kd.N_append_rows_step k37 (w0 := w) w.heap.size (by rfl) (.tmp 37) (.tmp 55) 22 37 (.agg #[(.int .i64 0), (.int .i64 0), (.slice none 0 0)]) 40 rfl Try.underlying22 info37 rfl (by decide) (by omega) u5 x5_1 y172 _ _ _ (fun k_ => (P0_ k_ ∨ w.heap.size ≤ k_) ∧ k_ ≠ gb144) (fun k_ => ((fun k_ => (P0_ k_ ∨ w.heap.size ≤ k_) ∧ k_ ≠ gb144)) k_ ∧ some k_ ≠ (u5 : Value).ownBlock) rfl rfl ?aO ?aR (fun _ hk => hk) ?aF ?aB ?aS ?aL ?_
                      (case aR => exact (by skip; exact Kd.N_F (Kd.N_mono (ok' := (fun k_ => ((fun k_ => (P0_ k_ ∨ w.heap.size ≤ k_) ∧ k_ ≠ gb144)) k_ ∧ some k_ ≠ (u5 : Value).ownBlock)) (HO174.out) (fun k_ hk => ⟨⟨hk.1, hk.2.2⟩, hk.2.1⟩))))
                      (case aB => exact (by repeat (first | (with_reducible first | exact HB.out | apply below_alloc | apply pw_below_drewN | apply below_drew1 | refine below_set ?_ GE144.out) | exact HB.out)))
                      (case aF => exact (fun k_ hk => ⟨(.inr (Nat.le_trans (below_size (by repeat (first | (with_reducible first | exact HB.out | apply below_alloc | apply pw_below_drewN | apply below_drew1 | refine below_set ?_ GE144.out) | exact HB.out))) hk)), Kd.freshB (g := gb144) (o := .cells #[.int .i64 ((rd_T37 y138 x16_1).f0), .int .i64 ((rd_T37 y138 x16_1).f1), .slice A143_2 ((rd_T37 y138 x16_1).f2).length c143_2] 37 (0, 0)) (by (with_reducible repeat (first | refine blk_drewN ?_ _ | refine blk_drew ?_ | refine blk_alloc ?_ _)); exact BK144.out) k_ hk⟩))
                      (case aO => exact (by (with_reducible repeat (first | apply Kd.N_alloc | apply Kd.N_drewN | apply Kd.N_drew)); exact Kd.N_mono HO_5.out (fun _ hk => ⟨hk.1.1, hk.1.2⟩)))
                      (case aS => exact (below_size (by repeat (first | (with_reducible first | exact HB.out | apply below_alloc | apply pw_below_drewN | apply below_drew1 | refine below_set ?_ GE144.out) | exact HB.out))))
                      (case aL => have := LMc34.out; omega)
                      intro v176 w43 ho hb hg hat
                      rw [← Ny175.out] at ho
                      have n0_ := Aside0.mk (Kd.V_afterv (ok := (fun k_ => (P0_ k_ ∨ w.heap.size ≤ k_) ∧ some k_ ≠ (.slice Ao44 y172.length co44 : Value).ownBlock ∧ k_ ≠ gb144)) (by (with_reducible repeat (first | apply Kd.V_alloc | apply Kd.V_drewN | apply Kd.V_drew)); exact Kd.V_mono HO_0.out (fun _ hk => ⟨⟨hk.1.1, ⟨hk.2, hk.1.2.2⟩⟩, hk.1.2.1⟩)) hg hat)
                      have n1_ := Aside0.mk (Kd.V_afterv (ok := (fun k_ => (P0_ k_ ∨ w.heap.size ≤ k_) ∧ some k_ ≠ (.slice Ao44 y172.length co44 : Value).ownBlock ∧ k_ ≠ gb144)) (by (with_reducible repeat (first | apply Kd.V_alloc | apply Kd.V_drewN | apply Kd.V_drew)); exact Kd.V_mono HO_14.out (fun _ hk => ⟨⟨hk.1.1, ⟨hk.2, hk.1.2.2⟩⟩, hk.1.2.1⟩)) hg hat)
                      have n2_ := Aside0.mk (Kd.V_afterv (ok := (fun k_ => (P0_ k_ ∨ w.heap.size ≤ k_) ∧ some k_ ≠ (.slice Ao44 y172.length co44 : Value).ownBlock ∧ k_ ≠ gb144)) (by (with_reducible repeat (first | apply Kd.V_alloc | apply Kd.V_drewN | apply Kd.V_drew)); exact Kd.V_mono HL143_2.out (fun _ hk => ⟨⟨hk.1.1, ⟨hk.2, hk.1.2.2⟩⟩, hk.1.2.1⟩)) hg hat)
                      have n3_ := Aside0.mk (blk_grown (g := gb144) (o := .cells #[.int .i64 ((rd_T37 y138 x16_1).f0), .int .i64 ((rd_T37 y138 x16_1).f1), .slice A143_2 ((rd_T37 y138 x16_1).f2).length c143_2] 37 (0, 0)) (by (with_reducible repeat (first | refine blk_drewN ?_ _ | refine blk_drew ?_ | refine blk_alloc ?_ _)); exact BK144.out) hg (Kd.N_away HO_5.out (fun _ hk => hk.1.2)))
                      have n4_ := Aside0.mk (Kd.V_afterv (ok := (fun k_ => (P0_ k_ ∨ w.heap.size ≤ k_) ∧ some k_ ≠ (.slice Ao44 y172.length co44 : Value).ownBlock ∧ k_ ≠ gb144)) (by (with_reducible repeat (first | apply Kd.V_alloc | apply Kd.V_drewN | apply Kd.V_drew)); exact Kd.V_mono HO166.out (fun _ hk => ⟨⟨hk.1.1, ⟨hk.2, hk.1.2.2⟩⟩, hk.1.2.1⟩)) hg hat)
                      have n5_ := Aside0.mk (Kd.V_afterv (ok := (fun k_ => (P0_ k_ ∨ w.heap.size ≤ k_) ∧ some k_ ≠ (.slice Ao44 y172.length co44 : Value).ownBlock ∧ k_ ≠ gb144)) (by (with_reducible repeat (first | apply Kd.V_alloc | apply Kd.V_drewN | apply Kd.V_drew)); exact Kd.V_mono HO171.out (fun _ hk => ⟨⟨hk.1.1, ⟨hk.2, hk.1.2.2⟩⟩, hk.1.2.1⟩)) hg hat)
                      have n6_ := Aside0.mk (Kd.N_afterv (ok := (fun k_ => (P0_ k_ ∨ w.heap.size ≤ k_) ∧ k_ ≠ gb144)) (by (with_reducible repeat (first | apply Kd.N_alloc | apply Kd.N_drewN | apply Kd.N_drew)); exact Kd.N_mono HO174.out (fun _ hk => ⟨⟨hk.1, hk.2.2⟩, hk.2.1⟩)) hg hat)
                      have n7_ := Aside0.mk (hb)
                      have n8_ := Aside0.mk (ho)
                      clear HO_0
                      clear HO_14
                      clear HL143_2
                      clear BK144
                      clear HO166
                      clear HO171
                      clear HO174
                      clear HB
                      clear HO_5
                      have HO_0 := n0_
                      have HO_14 := n1_
                      have HL143_2 := n2_
                      have BK144 := n3_
                      have HO166 := n4_
                      have HO171 := n5_
                      have HO174 := n6_
                      have HB := n7_
                      have HO177 := n8_
                      clear n0_ n1_ n2_ n3_ n4_ n5_ n6_ n7_ n8_
                      clear ho hb hg hat
                      refine hK.out _ _ ⟨(blk_cell BK144.out 0).trans rfl, (blk_cell BK144.out 1).trans rfl, (blk_cell BK144.out 2).trans rfl⟩ (fun hHeld => ?_)
                      clear hK K
                      refine norm_ (a' := ?_) ?_ ?_
                      rotate_left
                      · show Act.put _ (some 56) _ = _
                        simp only [Act.put, List.setIfInBounds_toArray, List.set_cons_zero, List.set_cons_succ, i64_w, i32_w]
                        rfl
                      refine pure_ (i := 20) (N := some 5) (v := ?_) (a' := ?_) #[true, true, true, true, true, true, true, true, true, true, true, true, true, true, true, true, true, true, true, true, true] rfl rfl (any_of HT_.out (by kernel_rfl)) (fun _ _ _ h => h) (Or.inl ⟨by rfl, ?_⟩) ?_ ?_
                      rotate_left
                      · intro w'
                        go_simp
                        with_reducible rfl
                      rotate_left
                      · simp only [Act.put, List.setIfInBounds_toArray, List.set_cons_zero, List.set_cons_succ, i64_w, i32_w]
                        rfl
                      refine done_ (done_of HT_.out (by kernel_rfl)) ?_
                      try go_wp2
                      go_roundg k1
                      case measure => have := HK1.out; omega
                      case rel => exact ⟨(y175), (wrap64 (x16_1 + 1)), (by first | rfl | (simp; done) | (simp [*]; done)), H', ⟨by have := HK1.out; omega⟩, ⟨by (with_reducible repeat (first | apply Kd.V_alloc | apply Kd.V_drewN | apply Kd.V_drew)); exact Kd.V_mono HO_0.out (fun _ hk => ⟨hk.1.1, hk.2⟩)⟩, ⟨by (with_reducible repeat (first | apply Kd.N_alloc | apply Kd.N_drewN | apply Kd.N_drew)); exact Kd.N_mono HO177.out (fun _ hk => hk.1)⟩, ⟨by (with_reducible repeat (first | apply Kd.V_alloc | apply Kd.V_drewN | apply Kd.V_drew)); exact Kd.V_mono HO_14.out (fun _ hk => ⟨hk.1.1, hk.2⟩)⟩, ⟨by repeat (first | (with_reducible first | exact HB.out | apply below_alloc | apply pw_below_drewN | apply below_drew1 | refine below_set ?_ GE144.out) | exact HB.out)⟩⟩
                    · rw [if_neg c34] at H
                      exact absurd H (by simp)
                  · rw [if_neg c32] at H
                    exact absurd H (by simp)
              · rw [if_neg c9] at H
                exact absurd H (by simp)
            · rw [if_neg c8] at H
              exact absurd H (by simp)
          · rw [if_neg c7] at H
            have c7b0 : decide (x16_1 < (y138.length : Int)) = false := decide_eq_false c7
            clear c7
            replace H := Option.bind_eq_some_iff.mp H
            obtain ⟨t178, A450, H⟩ := H
            replace H : (if t178 = true then ((turn_Of.f k1 x5_1).bind fun t179 => ((turn_Of.f k1 y138).bind fun t182 => ((cuecardref10_Same.f k1 t179 t182).bind fun t185 => (some t185)))) else (some false)) = some r := H
            have A45 := Aside0.mk A450
            clear A450
            by_cases c46 : t178 = true
            · subst c46
              have H1 : ((turn_Of.f k1 x5_1).bind fun t179 => ((turn_Of.f k1 y138).bind fun t182 => ((cuecardref10_Same.f k1 t179 t182).bind fun t185 => (some t185)))) = some r := by rw [if_pos rfl] at H; exact H
              clear H
              have H := H1
              clear H1
              replace H := Option.bind_eq_some_iff.mp H
              obtain ⟨t179, A470, H⟩ := H
              replace H : ((turn_Of.f k1 y138).bind fun t182 => ((cuecardref10_Same.f k1 t179 t182).bind fun t185 => (some t185))) = some r := H
              have A47 := Aside0.mk A470
              clear A470
              replace H := Option.bind_eq_some_iff.mp H
              obtain ⟨t182, A480, H⟩ := H
              replace H : ((cuecardref10_Same.f k1 t179 t182).bind fun t185 => (some t185)) = some r := H
              have A48 := Aside0.mk A480
              clear A480
              replace H := Option.bind_eq_some_iff.mp H
              obtain ⟨t185, A490, H⟩ := H
              replace H : (some t185) = some r := H
              have A49 := Aside0.mk A490
              clear A490
              obtain rfl := Option.some.inj H
              go_wp2_with (first | ((with_reducible refine gate_callee (f := 9) rfl ?_); refine goesL_ (some 58) rfl rfl Try.func9 (by kernel_rfl) rfl #[] rfl (by (try simp only [List.map_toArray, List.map_cons, List.map_nil]); first | done | rfl | (simp only [List.length_drop, List.length_take]; rfl)) ?_; (with_reducible refine (cuecardlaw10_alive.calls k1  true _ A45.out).mono ?_); rintro e w50 ⟨rfl, hb⟩; refine ⟨_, rfl, ?_⟩; have n0_ := Aside0.mk (Kd.V_below (by (with_reducible repeat (first | apply Kd.V_alloc | apply Kd.V_drewN | apply Kd.V_drew)); exact HO_0.out) hb); have n1_ := Aside0.mk (Kd.N_below (by (with_reducible repeat (first | apply Kd.N_alloc | apply Kd.N_drewN | apply Kd.N_drew)); exact HO_5.out) hb); have n2_ := Aside0.mk (Kd.V_below (by (with_reducible repeat (first | apply Kd.V_alloc | apply Kd.V_drewN | apply Kd.V_drew)); exact HO_14.out) hb); have n3_ := Aside0.mk (below_step (by repeat (first | (with_reducible first | exact HB.out | apply below_alloc | apply pw_below_drewN | apply below_drew1) | exact HB.out)) hb); clear HO_0; clear HO_5; clear HO_14; clear HB; have HO_0 := n0_; have HO_5 := n1_; have HO_14 := n2_; have HB := n3_; clear n0_ n1_ n2_ n3_; (try clear hb); (try clear hb2); (try clear hk); (try clear hi); obtain ⟨Ao51, co51, eo51⟩ := Kd.N_slice HO_5.out; subst eo51) | (go_at_call 12; (with_reducible refine (turn_Of.calls k1 _ _ x5_1 t179 _ ?side1 ?side2 A47.out).mono ?_); (case side1 => repeat (first | exact (Kd.N_reads' HO_5.out).2.2 | (with_reducible refine Kd.C_alloc ?_ _) | (with_reducible refine Kd.C_drewN ?_ _) | (with_reducible refine Kd.C_drew ?_))); (case side2 => exact (Kd.N_reads' HO_5.out).2.1); rintro e w52 ⟨v180, rfl, ho0, hb⟩; have n0_ := Aside0.mk (Kd.V_elder' (by (with_reducible repeat (first | apply Kd.V_alloc | apply Kd.V_drewN | apply Kd.V_drew)); exact HO_0.out) (Kd.R_base ho0) hb); have n1_ := Aside0.mk (Kd.N_elder' (by (with_reducible repeat (first | apply Kd.N_alloc | apply Kd.N_drewN | apply Kd.N_drew)); exact HO_5.out) (Kd.R_base ho0) hb); have n2_ := Aside0.mk (Kd.V_elder' (by (with_reducible repeat (first | apply Kd.V_alloc | apply Kd.V_drewN | apply Kd.V_drew)); exact HO_14.out) (Kd.R_base ho0) hb); have n3_ := Aside0.mk (Kd.N_lower (Kd.N_mono (ok' := fun k_ => (P0_ k_ ∨ w.heap.size ≤ k_) ∧ some k_ ≠ (.slice Ao51 x5_1.length co51 : Value).ownBlock) (Kd.R_N (Kd.R_bound ho0)) (fun k_ hk_ => ⟨(.inr (Nat.le_trans (below_size (by repeat (first | (with_reducible first | exact HB.out | apply below_alloc | apply pw_below_drewN | apply below_drew1) | exact HB.out))) hk_.2.1)), (Kd.fresh' (Kd.N_lt (by (with_reducible repeat (first | apply Kd.N_alloc | apply Kd.N_drewN | apply Kd.N_drew)); exact HO_5.out)) k_ hk_.2.1)⟩)) (below_size (by repeat (first | (with_reducible first | exact HB.out | apply below_alloc | apply pw_below_drewN | apply below_drew1) | exact HB.out)))); have n4_ := Aside0.mk (below_step (by repeat (first | (with_reducible first | exact HB.out | apply below_alloc | apply pw_below_drewN | apply below_drew1) | exact HB.out)) hb); clear HO_0; clear HO_5; clear HO_14; clear HB; have HO_0 := n0_; have HO_5 := n1_; have HO_14 := n2_; have HO181 := n3_; have HB := n4_; clear n0_ n1_ n2_ n3_ n4_; (try clear hb); (try clear hb2); (try clear hk); (try clear hi); (try clear ho0)) | (go_at_call 12; (with_reducible refine (turn_Of.calls k1 _ _ y138 t182 _ ?side1 ?side2 A48.out).mono ?_); (case side1 => repeat (first | exact (Kd.V_reads' HO_0.out).2.2 | (with_reducible refine Kd.C_alloc ?_ _) | (with_reducible refine Kd.C_drewN ?_ _) | (with_reducible refine Kd.C_drew ?_))); (case side2 => exact (Kd.V_reads' HO_0.out).2.1); rintro e w53 ⟨v183, rfl, ho0, hb⟩; have n0_ := Aside0.mk (Kd.V_elder' (by (with_reducible repeat (first | apply Kd.V_alloc | apply Kd.V_drewN | apply Kd.V_drew)); exact HO_0.out) (Kd.R_base ho0) hb); have n1_ := Aside0.mk (Kd.N_elder' (by (with_reducible repeat (first | apply Kd.N_alloc | apply Kd.N_drewN | apply Kd.N_drew)); exact HO_5.out) (Kd.R_base ho0) hb); have n2_ := Aside0.mk (Kd.V_elder' (by (with_reducible repeat (first | apply Kd.V_alloc | apply Kd.V_drewN | apply Kd.V_drew)); exact HO_14.out) (Kd.R_base ho0) hb); have n3_ := Aside0.mk (Kd.N_elder' (by (with_reducible repeat (first | apply Kd.N_alloc | apply Kd.N_drewN | apply Kd.N_drew)); exact HO181.out) (Kd.R_base ho0) hb); have n4_ := Aside0.mk (Kd.N_lower (Kd.N_mono (ok' := fun k_ => (P0_ k_ ∨ w.heap.size ≤ k_) ∧ some k_ ≠ (.slice Ao51 x5_1.length co51 : Value).ownBlock ∧ some k_ ≠ (v180 : Value).ownBlock) (Kd.R_N (Kd.R_bound ho0)) (fun k_ hk_ => ⟨(.inr (Nat.le_trans (below_size (by repeat (first | (with_reducible first | exact HB.out | apply below_alloc | apply pw_below_drewN | apply below_drew1) | exact HB.out))) hk_.2.1)), (Kd.fresh' (Kd.N_lt (by (with_reducible repeat (first | apply Kd.N_alloc | apply Kd.N_drewN | apply Kd.N_drew)); exact HO_5.out)) k_ hk_.2.1), (Kd.fresh' (Kd.N_lt (by (with_reducible repeat (first | apply Kd.N_alloc | apply Kd.N_drewN | apply Kd.N_drew)); exact HO181.out)) k_ hk_.2.1)⟩)) (below_size (by repeat (first | (with_reducible first | exact HB.out | apply below_alloc | apply pw_below_drewN | apply below_drew1) | exact HB.out)))); have n5_ := Aside0.mk (below_step (by repeat (first | (with_reducible first | exact HB.out | apply below_alloc | apply pw_below_drewN | apply below_drew1) | exact HB.out)) hb); clear HO_0; clear HO_5; clear HO_14; clear HO181; clear HB; have HO_0 := n0_; have HO_5 := n1_; have HO_14 := n2_; have HO181 := n3_; have HO184 := n4_; have HB := n5_; clear n0_ n1_ n2_ n3_ n4_ n5_; (try clear hb); (try clear hb2); (try clear hk); (try clear hi); (try clear ho0); obtain ⟨Ao54, co54, eo54⟩ := Kd.N_slice HO181.out; subst eo54; obtain ⟨Ao55, co55, eo55⟩ := Kd.N_slice HO184.out; subst eo55) | (go_at_call 11; (with_reducible refine (cuecardref10_Same.calls k1 _ _ t179 _ _ t182 t185 _ ?side1 ?side2 ?side3 ?side4 A49.out).mono ?_); (case side1 => repeat (first | exact (Kd.N_reads' HO181.out).2.2 | (with_reducible refine Kd.C_alloc ?_ _) | (with_reducible refine Kd.C_drewN ?_ _) | (with_reducible refine Kd.C_drew ?_))); (case side2 => exact (Kd.N_reads' HO181.out).2.1); (case side3 => repeat (first | exact (Kd.N_reads' HO184.out).2.2 | (with_reducible refine Kd.C_alloc ?_ _) | (with_reducible refine Kd.C_drewN ?_ _) | (with_reducible refine Kd.C_drew ?_))); (case side4 => exact (Kd.N_reads' HO184.out).2.1); rintro e w56 ⟨rfl, hb⟩; have n0_ := Aside0.mk (Kd.V_below (by (with_reducible repeat (first | apply Kd.V_alloc | apply Kd.V_drewN | apply Kd.V_drew)); exact HO_0.out) hb); have n1_ := Aside0.mk (Kd.N_below (by (with_reducible repeat (first | apply Kd.N_alloc | apply Kd.N_drewN | apply Kd.N_drew)); exact HO_5.out) hb); have n2_ := Aside0.mk (Kd.V_below (by (with_reducible repeat (first | apply Kd.V_alloc | apply Kd.V_drewN | apply Kd.V_drew)); exact HO_14.out) hb); have n3_ := Aside0.mk (Kd.N_below (by (with_reducible repeat (first | apply Kd.N_alloc | apply Kd.N_drewN | apply Kd.N_drew)); exact HO181.out) hb); have n4_ := Aside0.mk (Kd.N_below (by (with_reducible repeat (first | apply Kd.N_alloc | apply Kd.N_drewN | apply Kd.N_drew)); exact HO184.out) hb); have n5_ := Aside0.mk (below_step (by repeat (first | (with_reducible first | exact HB.out | apply below_alloc | apply pw_below_drewN | apply below_drew1) | exact HB.out)) hb); clear HO_0; clear HO_5; clear HO_14; clear HO181; clear HO184; clear HB; have HO_0 := n0_; have HO_5 := n1_; have HO_14 := n2_; have HO181 := n3_; have HO184 := n4_; have HB := n5_; clear n0_ n1_ n2_ n3_ n4_ n5_; (try clear hb); (try clear hb2); (try clear hk); (try clear hi)))
              go_ret
              exact ⟨by first | rfl | (simp [errW_none, errW_some] <;> rfl) | (simp only [← hji3]; first | rfl | (simp [errW_none, errW_some] <;> rfl)) | (simp [*, errW_none, errW_some] <;> rfl), by repeat (first | (with_reducible first | exact HB.out | apply below_alloc | apply pw_below_drewN | apply below_drew1) | exact HB.out)⟩
            · replace c46 := Bool.eq_false_iff.mpr c46
              subst c46
              have H1 : (some false) = some r := by rw [if_neg (show ¬ (false = true) by decide)] at H; exact H
              clear H
              have H := H1
              clear H1
              obtain rfl := Option.some.inj H
              go_wp2_with (first | ((with_reducible refine gate_callee (f := 9) rfl ?_); refine goesL_ (some 58) rfl rfl Try.func9 (by kernel_rfl) rfl #[] rfl (by (try simp only [List.map_toArray, List.map_cons, List.map_nil]); first | done | rfl | (simp only [List.length_drop, List.length_take]; rfl)) ?_; (with_reducible refine (cuecardlaw10_alive.calls k1  false _ A45.out).mono ?_); rintro e w57 ⟨rfl, hb⟩; refine ⟨_, rfl, ?_⟩; have n0_ := Aside0.mk (Kd.V_below (by (with_reducible repeat (first | apply Kd.V_alloc | apply Kd.V_drewN | apply Kd.V_drew)); exact HO_0.out) hb); have n1_ := Aside0.mk (Kd.N_below (by (with_reducible repeat (first | apply Kd.N_alloc | apply Kd.N_drewN | apply Kd.N_drew)); exact HO_5.out) hb); have n2_ := Aside0.mk (Kd.V_below (by (with_reducible repeat (first | apply Kd.V_alloc | apply Kd.V_drewN | apply Kd.V_drew)); exact HO_14.out) hb); have n3_ := Aside0.mk (below_step (by repeat (first | (with_reducible first | exact HB.out | apply below_alloc | apply pw_below_drewN | apply below_drew1) | exact HB.out)) hb); clear HO_0; clear HO_5; clear HO_14; clear HB; have HO_0 := n0_; have HO_5 := n1_; have HO_14 := n2_; have HB := n3_; clear n0_ n1_ n2_ n3_; (try clear hb); (try clear hb2); (try clear hk); (try clear hi)))
              go_ret
              exact ⟨by first | rfl | (simp [errW_none, errW_some] <;> rfl) | (simp only [← hji3]; first | rfl | (simp [errW_none, errW_some] <;> rfl)) | (simp [*, errW_none, errW_some] <;> rfl), by repeat (first | (with_reducible first | exact HB.out | apply below_alloc | apply pw_below_drewN | apply below_drew1) | exact HB.out)⟩
    · rw [if_neg c5] at H
      exact absurd H (by simp)
  · rw [if_neg c4] at H
    exact absurd H (by simp)

end Go.Proofs.Ytjcaflhlilckgaa.QA
