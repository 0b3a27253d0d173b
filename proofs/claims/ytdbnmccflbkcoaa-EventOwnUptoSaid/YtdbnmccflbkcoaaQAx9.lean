-- Written for this claim by a program of this session's, out of Lean's own print of the program; Lean checks it.
import Derived.Test.YtdbnmccflbkcoaaQAx0
namespace Go.Proofs.Ytdbnmccflbkcoaa.QA
open Go.RowKit Go.Proofs.YtdbnmccflbkcoaaW.PrintWords Go.Proofs.YtdbnmccflbkcoaaW.PrintLast Go.Proofs.YtdbnmccflbkcoaaW.PrintMore
attribute [local go_sem] max2_int min2_int max_two min_two max_three min_three max_four min_four   -- for this text's walks alone
set_option linter.unusedVariables false
set_option linter.unusedSimpArgs false

/-! ### cuecardref04_Merge: function 17 -/
def cuecardref04_Merge.l0 : Nat → List (S32) → List (S32) → Int → Option ((List (S32)))
  | 0, _, _, _ => none
  | k + 1, x0, x3, x4 => if x4 < (x0.length : Int) then (if 0 ≤ x4 then (if (((rd_T32 x0 x4).f2).length : Int) = 0 then (cuecardref04_Merge.l0 k x0 x3 (wrap64 (x4 + 1))) else (if (wrap64 ((x3.length : Int) - 1)) ≥ 0 then (if 0 ≤ (wrap64 ((x3.length : Int) - 1)) then (if (wrap64 ((x3.length : Int) - 1)) < (x3.length : Int) then (if ((rd_T32 x3 (wrap64 ((x3.length : Int) - 1))).f0) = ((rd_T32 x0 x4).f0) then (if ((rd_T32 x3 (wrap64 ((x3.length : Int) - 1))).f2).length + ((rd_T32 x0 x4).f2).length < 140737488355328 then (cuecardref04_Merge.l0 k x0 (x3.set ((wrap64 ((x3.length : Int) - 1)) : Int).toNat (⟨(rd_T32 x3 (wrap64 ((x3.length : Int) - 1))).f0, (rd_T32 x3 (wrap64 ((x3.length : Int) - 1))).f1, (((rd_T32 x3 (wrap64 ((x3.length : Int) - 1))).f2) ++ ((rd_T32 x0 x4).f2))⟩ : S32)) (wrap64 (x4 + 1))) else (none)) else ((some (([] : List Int) : List Int)).bind fun y184 => (if y184.length + ((rd_T32 x0 x4).f2).length < 140737488355328 then (if x3.length < 3518437208883 then (cuecardref04_Merge.l0 k x0 (x3 ++ [(⟨(rd_T32 x0 x4).f0, (rd_T32 x0 x4).f1, (y184 ++ ((rd_T32 x0 x4).f2))⟩ : S32)]) (wrap64 (x4 + 1))) else (none)) else (none)))) else (none)) else (none)) else ((some (([] : List Int) : List Int)).bind fun y196 => (if y196.length + ((rd_T32 x0 x4).f2).length < 140737488355328 then (if x3.length < 3518437208883 then (cuecardref04_Merge.l0 k x0 (x3 ++ [(⟨(rd_T32 x0 x4).f0, (rd_T32 x0 x4).f1, (y196 ++ ((rd_T32 x0 x4).f2))⟩ : S32)]) (wrap64 (x4 + 1))) else (none)) else (none))))) else (none)) else (some x3)
def cuecardref04_Merge.f (k : Nat) (l0 : List (S32)) : Option ((List (S32))) := cuecardref04_Merge.l0 k l0 ([] : List (S32)) 0
theorem cuecardref04_Merge.mono_l : ∀ k, (∀ y0 y1 y2, LeO (cuecardref04_Merge.l0 k y0 y1 y2) (cuecardref04_Merge.l0 (k + 1) y0 y1 y2))
  | 0 => fun _ _ _ r h => by simp [cuecardref04_Merge.l0] at h
  | k + 1 => by
    have ih0 := cuecardref04_Merge.mono_l k
    · intro y0 y1 y2
      unfold cuecardref04_Merge.l0
      repeat' first
      | (with_reducible exact ih0 _ _ _)
      | (with_reducible exact LeO.refl _)
      | (with_reducible exact LeO.none _)
      | (with_reducible refine LeO.ite ?_ ?_)
      | (with_reducible refine LeO.bind ?_ (fun _ => ?_))
      | exact ih0 _ _ _
      | exact LeO.none _
      | refine LeO.ite ?_ ?_
      | refine LeO.bind ?_ (fun _ => ?_)
theorem cuecardref04_Merge.mono : ∀ a0 k, LeO (cuecardref04_Merge.f k a0) (cuecardref04_Merge.f (k + 1) a0) := by
  intro a0 k
  have ih0 := cuecardref04_Merge.mono_l k
  unfold cuecardref04_Merge.f
  repeat' first
      | (with_reducible exact ih0 _ _ _)
      | (with_reducible exact LeO.refl _)
      | (with_reducible exact LeO.none _)
      | (with_reducible refine LeO.ite ?_ ?_)
      | (with_reducible refine LeO.bind ?_ (fun _ => ?_))
      | exact ih0 _ _ _
      | exact LeO.none _
      | refine LeO.ite ?_ ?_
      | refine LeO.bind ?_ (fun _ => ?_)
def cuecardref04_Merge.T7 : Bool × List (List Nat × List Nat) := (true, [([], []), ([0], [0]), ([1], [1]), ([2], [2]), ([2], [2]), ([3, 4, 2], [2, 3, 4]), ([5, 2], [2, 5]), ([6, 2], [2, 6]), ([2], [2]), ([2], [2]), ([8, 9, 2], [2, 8, 9]), ([10, 2], [2, 10]), ([11, 2], [2, 11]), ([7, 12, 2], [2, 7, 12]), ([2, 13], [2, 13])])
def cuecardref04_Merge.B7 : List Nat := [0, 1, 3, 7, 7, 31, 63, 127, 7, 7, 775, 1799, 3847, 8191, 16383]
theorem cuecardref04_Merge.tab7 : rtab .any (opsOf Try.f17 7) = cuecardref04_Merge.T7 := by kernel_rfl
theorem cuecardref04_Merge.bits7 : waitsOk cuecardref04_Merge.T7.2 cuecardref04_Merge.B7 = true := by kernel_rfl
def cuecardref04_Merge.T8 : Bool × List (List Nat × List Nat) := (true, [([], []), ([], []), ([], []), ([], []), ([2, 3], [2, 3]), ([4], [4]), ([5], [5]), ([], []), ([], []), ([7, 8], [7, 8]), ([9], [9]), ([10], [10]), ([6, 11], [6, 11]), ([0, 1, 0, 1, 2, 3, 4, 5, 6, 7, 8, 9, 10, 11, 12], [0, 1]), ([13, 0, 1, 2, 3, 4, 5, 6, 7, 8, 9, 10, 11, 12], [13]), ([14, 12, 12, 0, 1, 2, 3, 4, 5, 6, 7, 8, 9, 10, 11, 12], [12, 14])])
def cuecardref04_Merge.B8 : List Nat := [0, 0, 0, 0, 12, 28, 60, 0, 0, 384, 896, 1920, 4092, 8191, 16383, 32767]
theorem cuecardref04_Merge.tab8 : rtab .any (opsOf Try.f17 8) = cuecardref04_Merge.T8 := by kernel_rfl
theorem cuecardref04_Merge.bits8 : waitsOk cuecardref04_Merge.T8.2 cuecardref04_Merge.B8 = true := by kernel_rfl
def cuecardref04_Merge.T9 : Bool × List (List Nat × List Nat) := (true, [([], []), ([], []), ([], []), ([1, 2], [1, 2]), ([3], [3]), ([4], [4]), ([], []), ([], []), ([6, 7], [6, 7]), ([8], [8]), ([9], [9]), ([], []), ([], []), ([], []), ([12, 13], [12, 13]), ([14], [14]), ([15], [15]), ([11, 16], [11, 16]), ([5, 10, 17], [5, 10, 17]), ([18], [18]), ([0, 19, 17], [0, 19]), ([20, 20, 0, 1, 2, 3, 4, 5, 6, 7, 8, 9, 10, 11, 12, 13, 14, 15, 16, 17, 18, 19, 20], [0, 20])])
def cuecardref04_Merge.B9 : List Nat := [0, 0, 0, 6, 14, 30, 0, 0, 192, 448, 960, 0, 0, 0, 12288, 28672, 61440, 129024, 262142, 524286, 1048575, 2097151]
theorem cuecardref04_Merge.tab9 : rtab .any (opsOf Try.f17 9) = cuecardref04_Merge.T9 := by kernel_rfl
theorem cuecardref04_Merge.bits9 : waitsOk cuecardref04_Merge.T9.2 cuecardref04_Merge.B9 = true := by kernel_rfl
set_option maxHeartbeats 8000000 in
set_option maxRecDepth 100000 in
theorem cuecardref04_Merge.calls (k : Nat) (A0 : Option Addr) (c0 : Nat) (l0 : List (S32)) (r : List (S32)) (w : World) (hr0 : Kd.C k32 w A0 l0.length l0) (hc0 : l0.length ≤ c0) (h : cuecardref04_Merge.f k l0 = some r) :
    Calls Try.prog 17 #[.slice A0 l0.length c0] w fun e w' => ∃ v0_ : Value, e = .returned (v0_) ∧ Kd.S k32 32 w' w.heap.size (fun _ => True) v0_ r ∧ Below w.heap.size w w' := by
  have hu32 := Try.underlying32
  have HR0 := Aside0.mk hr0
  have HC0 := Aside0.mk hc0
  clear hr0 hc0
  have HB := Aside0.mk (Below.refl w.heap.size w)
  have H : (cuecardref04_Merge.l0 k l0 ([] : List (S32)) 0) = some r := h
  clear h
  have H' := Aside0.mk H
  clear H
  go_enter Try.func17, Try.ntmps17
  go_wp2
  go_loopg [3, 4] k (fun kq v3 v4 w' => ∃ (x3_1 : List (S32)) (x4_1 : Int), v4 = .int .i64 x4_1 ∧ Aside0 (cuecardref04_Merge.l0 kq l0 x3_1 x4_1 = some r) ∧ Aside0 (kq ≤ k) ∧ Aside0 (Kd.S k32 32 w' w.heap.size (fun _ => True) v3 x3_1) ∧ Aside0 (Below w.heap.size w w'))
  case atStart => exact ⟨(([] : List (S32))), (0), (by first | rfl | (simp; done) | (simp [*]; done)), H', ⟨Nat.le_refl _⟩, ⟨by first | exact Kd.S_nil _ _ _ _ _ | exact Kd.N_nil _ _ _ _ _ | exact Kd.V_nil _ _ _ _ _ | exact Kd.Q_nil _ _ _ _ _ | exact Kd.R_nil _ _ _ _ _⟩, ⟨by repeat (first | (with_reducible first | exact HB.out | apply below_alloc | apply pw_below_drewN | apply below_drew1) | exact HB.out)⟩⟩
  case round =>
    clear H'
    try clear c1
    obtain ⟨x3_1, x4_1, rfl, HA, HK1, HO_3, HB⟩ := hrel
    cases gk with
    | zero => exact absurd HA.out (by simp [cuecardref04_Merge.l0])
    | succ k1 =>
      have H := HA.out
      clear HA
      simp only [cuecardref04_Merge.l0] at H
      by_cases c2 : x4_1 < (l0.length : Int)
      · rw [if_pos c2] at H
        have c2b0 : decide (x4_1 < (l0.length : Int)) = true := decide_eq_true c2
        clear c2
        by_cases c3 : 0 ≤ x4_1
        · rw [if_pos c3] at H
          have c3b0 : decide (0 ≤ x4_1) = true := decide_eq_true c3
          clear c3
          by_cases c4 : (((rd_T32 l0 x4_1).f2).length : Int) = 0
          · rw [if_pos c4] at H
            have c4b0 : ((((rd_T32 l0 x4_1).f2).length : Int) == 0) = true := beq_iff_eq.mpr c4
            have c4b1 : ((((rd_T32 l0 x4_1).f2).length : Int) != 0) = false := bne_eq_false_iff_eq.mpr c4
            clear c4
            have H' := Aside0.mk H
            clear H
            have p173 : 0 ≤ (x4_1 : Int) := of_decide_eq_true (by first | (with_reducible assumption) | assumption)
            have q173 : x4_1 < (l0.length : Int) := of_decide_eq_true (by first | (with_reducible assumption) | assumption)
            obtain ⟨ad173, A173_2, c173_2, e173, hx173_0, hx173_1, hx173_2, hl173_2, hi173_2⟩ := at_T32 HR0.out x4_1 p173 q173
            cases e173
            replace hx173_0 := (HB.out.cell (World.block_lt_of_cell? w _ hx173_0)).trans hx173_0
            replace hx173_1 := (HB.out.cell (World.block_lt_of_cell? w _ hx173_1)).trans hx173_1
            replace hx173_2 := (HB.out.cell (World.block_lt_of_cell? w _ hx173_2)).trans hx173_2
            have HR173_2 := Aside0.mk hi173_2
            have HC173_2 := Aside0.mk hl173_2
            clear hi173_2 hl173_2
            replace p173 := eq_true p173
            replace q173 := eq_true q173
            go_wp2
            go_roundg k1
            case measure => have := HK1.out; omega
            case rel => exact ⟨(x3_1), (wrap64 (x4_1 + 1)), (by first | rfl | (simp; done) | (simp [*]; done)), H', ⟨by have := HK1.out; omega⟩, ⟨by (with_reducible repeat (first | apply Kd.S_alloc | apply Kd.S_drewN | apply Kd.S_drew)); exact HO_3.out⟩, ⟨by repeat (first | (with_reducible first | exact HB.out | apply below_alloc | apply pw_below_drewN | apply below_drew1) | exact HB.out)⟩⟩
          · rw [if_neg c4] at H
            have c4b0 : ((((rd_T32 l0 x4_1).f2).length : Int) == 0) = false := beq_eq_false_iff_ne.mpr c4
            have c4b1 : ((((rd_T32 l0 x4_1).f2).length : Int) != 0) = true := bne_iff_ne.mpr c4
            have c4b2 : ¬ (((rd_T32 l0 x4_1).f2) = []) := fun h_ => c4 (by rw [h_]; rfl)
            by_cases c5 : (wrap64 ((x3_1.length : Int) - 1)) ≥ 0
            · rw [if_pos c5] at H
              have c5b0 : decide (0 ≤ (wrap64 ((x3_1.length : Int) - 1))) = true := decide_eq_true c5
              clear c5
              obtain ⟨ji6, hji6⟩ : ∃ j_ : Int, (wrap64 ((x3_1.length : Int) - 1)) = j_ := ⟨_, rfl⟩
              replace H : (if 0 ≤ (ji6) then (if (ji6) < (x3_1.length : Int) then (if ((rd_T32 x3_1 (ji6)).f0) = ((rd_T32 l0 x4_1).f0) then (if ((rd_T32 x3_1 (ji6)).f2).length + ((rd_T32 l0 x4_1).f2).length < 140737488355328 then (cuecardref04_Merge.l0 k1 l0 (x3_1.set ((ji6) : Int).toNat (⟨(rd_T32 x3_1 (ji6)).f0, (rd_T32 x3_1 (ji6)).f1, (((rd_T32 x3_1 (ji6)).f2) ++ ((rd_T32 l0 x4_1).f2))⟩ : S32)) (wrap64 (x4_1 + 1))) else (none)) else ((some (([] : List Int) : List Int)).bind fun y184 => (if y184.length + ((rd_T32 l0 x4_1).f2).length < 140737488355328 then (if x3_1.length < 3518437208883 then (cuecardref04_Merge.l0 k1 l0 (x3_1 ++ [(⟨(rd_T32 l0 x4_1).f0, (rd_T32 l0 x4_1).f1, (y184 ++ ((rd_T32 l0 x4_1).f2))⟩ : S32)]) (wrap64 (x4_1 + 1))) else (none)) else (none)))) else (none)) else (none)) = some r := by first | (rw [hji6] at H; exact H) | (simp only [hji6] at H ⊢; exact H)
              (try rw [hji6] at c5b0)
              (try rw [hji6] at c5)
              have hji6w : (IntKind.i64.wrap ((x3_1.length : Int) - 1)) = ji6 := (i64_w _).trans hji6
              by_cases c7 : 0 ≤ (ji6)
              · rw [if_pos c7] at H
                have c7b0 : decide (0 ≤ (ji6)) = true := decide_eq_true c7
                clear c7
                by_cases c8 : (ji6) < (x3_1.length : Int)
                · rw [if_pos c8] at H
                  have c8b0 : decide ((ji6) < (x3_1.length : Int)) = true := decide_eq_true c8
                  clear c8
                  by_cases c9 : ((rd_T32 x3_1 (ji6)).f0) = ((rd_T32 l0 x4_1).f0)
                  · rw [if_pos c9] at H
                    have c9b0 : (((rd_T32 x3_1 (ji6)).f0) == ((rd_T32 l0 x4_1).f0)) = true := beq_iff_eq.mpr c9
                    have c9b1 : (((rd_T32 x3_1 (ji6)).f0) != ((rd_T32 l0 x4_1).f0)) = false := bne_eq_false_iff_eq.mpr c9
                    clear c9
                    by_cases c10 : ((rd_T32 x3_1 (ji6)).f2).length + ((rd_T32 l0 x4_1).f2).length < 140737488355328
                    · rw [if_pos c10] at H
                      have LMc10 := Aside0.mk c10
                      clear c10
                      obtain ⟨y178, hy178⟩ : ∃ y_ : List Int, y_ = (((rd_T32 x3_1 (ji6)).f2) ++ ((rd_T32 l0 x4_1).f2)) := ⟨_, rfl⟩
                      replace H : (cuecardref04_Merge.l0 k1 l0 (x3_1.set ((ji6) : Int).toNat (⟨(rd_T32 x3_1 (ji6)).f0, (rd_T32 x3_1 (ji6)).f1, y178⟩ : S32)) (wrap64 (x4_1 + 1))) = some r := by first | (rw [hy178]; with_reducible exact H) | (have H2_ := (Option.bind_some _ _).symm.trans H; rw [hy178]; with_reducible exact H2_) | (have H2_ := (Option.bind_some _ _).symm.trans H; with_reducible exact H2_) | with_reducible exact H | (rw [hy178]; exact H) | exact H
                      have Ny178 := Aside0.mk hy178
                      clear hy178
                      obtain ⟨y181, hy181⟩ : ∃ y_ : List (S32), y_ = (x3_1.set ((ji6) : Int).toNat (⟨(rd_T32 x3_1 (ji6)).f0, (rd_T32 x3_1 (ji6)).f1, y178⟩ : S32)) := ⟨_, rfl⟩
                      replace H : (cuecardref04_Merge.l0 k1 l0 y181 (wrap64 (x4_1 + 1))) = some r := by first | (rw [hy181]; with_reducible exact H) | (have H2_ := (Option.bind_some _ _).symm.trans H; rw [hy181]; with_reducible exact H2_) | (have H2_ := (Option.bind_some _ _).symm.trans H; with_reducible exact H2_) | with_reducible exact H | (rw [hy181]; exact H) | exact H
                      have Ny181 := Aside0.mk hy181
                      clear hy181
                      have H' := Aside0.mk H
                      clear H
                      have p173 : 0 ≤ (x4_1 : Int) := of_decide_eq_true (by first | (with_reducible assumption) | assumption)
                      have q173 : x4_1 < (l0.length : Int) := of_decide_eq_true (by first | (with_reducible assumption) | assumption)
                      obtain ⟨ad173, A173_2, c173_2, e173, hx173_0, hx173_1, hx173_2, hl173_2, hi173_2⟩ := at_T32 HR0.out x4_1 p173 q173
                      cases e173
                      replace hx173_0 := (HB.out.cell (World.block_lt_of_cell? w _ hx173_0)).trans hx173_0
                      replace hx173_1 := (HB.out.cell (World.block_lt_of_cell? w _ hx173_1)).trans hx173_1
                      replace hx173_2 := (HB.out.cell (World.block_lt_of_cell? w _ hx173_2)).trans hx173_2
                      have HR173_2 := Aside0.mk hi173_2
                      have HC173_2 := Aside0.mk hl173_2
                      clear hi173_2 hl173_2
                      replace p173 := eq_true p173
                      replace q173 := eq_true q173
                      obtain ⟨Ao12, co12, eo12⟩ := Kd.S_slice HO_3.out
                      subst eo12
                      (try (have iw20 : IntKind.i64.wrap ((x3_1.length : Int) - 1) = wrap64 ((x3_1.length : Int) - 1) := i64_w _))
                      try go_wp2
                      have n0_ := Aside0.mk (Kd.S_drew HO_3.out)
                      have n1_ := Aside0.mk (below_drew1 HB.out)
                      clear HO_3
                      clear HB
                      have HO_3 := n0_
                      have HB := n1_
                      clear n0_ n1_
                      have p174 : 0 ≤ ((ji6) : Int) := of_decide_eq_true (by first | (with_reducible assumption) | assumption)
                      have q174 : (ji6) < (x3_1.length : Int) := of_decide_eq_true (by first | (with_reducible assumption) | assumption)
                      obtain ⟨ad174, A174_2, c174_2, e174, hx174_0, hx174_1, hx174_2, hl174_2, hi174_2⟩ := at_T32 (Kd.S_reads' HO_3.out).2.2 (ji6) p174 q174
                      cases e174
                      obtain ⟨ce174, hce174, hMe174, hcc174⟩ := Kd.S_get HO_3.out z32 (ji6) p174 (by first | exact q174 | exact of_decide_eq_true (by first | (with_reducible assumption) | assumption) | (have e_ := (Kd.S_reads' HO_3.out).1; omega))
                      obtain ⟨ve174_2, rfl, ge174_2⟩ := k32_openM hMe174
                      have hv174_2 := hcc174 2 _ rfl
                      rw [add_field _ _ 2 (by omega)] at hv174_2
                      replace hv174_2 := Option.some.inj (hv174_2.symm.trans hx174_2)
                      rw [hv174_2] at ge174_2
                      have HL174_2 := Aside0.mk (show Kd.R (Kd.int .u8) 5 _ _ _ _ ((rd_T32 x3_1 (ji6)).f2) from ge174_2)
                      clear hv174_2 ge174_2
                      have HX174_2 := Aside0.mk hx174_2
                      clear hcc174 hce174
                      have HR174_2 := Aside0.mk hi174_2
                      have HC174_2 := Aside0.mk hl174_2
                      clear hi174_2 hl174_2
                      replace p174 := eq_true p174
                      replace q174 := eq_true q174
                      have p175 : 0 ≤ (x4_1 : Int) := of_decide_eq_true (by first | (with_reducible assumption) | assumption)
                      have q175 : x4_1 < (l0.length : Int) := of_decide_eq_true (by first | (with_reducible assumption) | assumption)
                      obtain ⟨ad175, A175_2, c175_2, e175, hx175_0, hx175_1, hx175_2, hl175_2, hi175_2⟩ := at_T32 HR0.out x4_1 p175 q175
                      have hw175_2 := hx175_2
                      have hw175_1 := hx175_1
                      have hw175_0 := hx175_0
                      obtain rfl : ad173 = ad175 := (by injection e175)
                      replace hx175_0 := (HB.out.cell (World.block_lt_of_cell? w _ hx175_0)).trans hx175_0
                      replace hx175_1 := (HB.out.cell (World.block_lt_of_cell? w _ hx175_1)).trans hx175_1
                      replace hx175_2 := (HB.out.cell (World.block_lt_of_cell? w _ hx175_2)).trans hx175_2
                      have HR175_2 := Aside0.mk hi175_2
                      have HC175_2 := Aside0.mk hl175_2
                      clear hi175_2 hl175_2
                      replace p175 := eq_true p175
                      replace q175 := eq_true q175
                      refine start_ (n := 15) (S := fun w' => w'.cell? (ad174.add (((ji6)).toNat * 3)) = some (.int .i64 ((rd_T32 x3_1 (ji6)).f0)) ∧ w'.cell? ⟨(ad174.add (((ji6)).toNat * 3)).block, (ad174.add (((ji6)).toNat * 3)).off + 1, none⟩ = some (.int .i64 ((rd_T32 x3_1 (ji6)).f1)) ∧ w'.cell? ⟨(ad174.add (((ji6)).toNat * 3)).block, (ad174.add (((ji6)).toNat * 3)).off + 2, none⟩ = some (.slice A174_2 ((rd_T32 x3_1 (ji6)).f2).length c174_2) ∧ w'.cell? (ad173.add ((x4_1).toNat * 3)) = some (.int .i64 ((rd_T32 l0 x4_1).f0)) ∧ w'.cell? ⟨(ad173.add ((x4_1).toNat * 3)).block, (ad173.add ((x4_1).toNat * 3)).off + 1, none⟩ = some (.int .i64 ((rd_T32 l0 x4_1).f1)) ∧ w'.cell? ⟨(ad173.add ((x4_1).toNat * 3)).block, (ad173.add ((x4_1).toNat * 3)).off + 2, none⟩ = some (.slice A175_2 ((rd_T32 l0 x4_1).f2).length c175_2)) (ds := []) #[false, false, false, false, false, false, false, false, false, false, false, false, false, false, false] (by kernel_rfl) rfl rfl ⟨hx174_0, hx174_1, hx174_2, ((HB.out.cell (World.block_lt_of_cell? w _ hw175_0)).trans hw175_0), ((HB.out.cell (World.block_lt_of_cell? w _ hw175_1)).trans hw175_1), ((HB.out.cell (World.block_lt_of_cell? w _ hw175_2)).trans hw175_2)⟩ (fun hHeld => ?_); refine with_tabW cuecardref04_Merge.tab7 cuecardref04_Merge.bits7 (fun HT_ HW_ => ?_)
                      generalize wr.drew = w13 at HO_3 HB HL174_2 HR174_2 HR175_2 HX174_2 hx174_0 hx174_1 hx174_2 hx175_0 hx175_1 hx175_2 hHeld ⊢
                      refine pure_ (i := 0) (N := some 22) (v := ?_) (a' := ?_) #[true, false, false, false, false, false, false, false, false, false, false, false, false, false, false] rfl rfl (any_of HT_.out (by kernel_rfl)) (fun _ _ _ h => h) (Or.inl ⟨by rfl, ?_⟩) ?_ ?_
                      rotate_left
                      · intro w'
                        go_simp
                        with_reducible rfl
                      rotate_left
                      · simp only [Act.put, List.setIfInBounds_toArray, List.set_cons_zero, List.set_cons_succ, i64_w, i32_w]
                        rfl
                      refine pure_ (i := 1) (N := some 23) (v := ?_) (a' := ?_) #[true, true, false, false, false, false, false, false, false, false, false, false, false, false, false] rfl rfl (any_of HT_.out (by kernel_rfl)) (fun _ _ _ h => h) (Or.inl ⟨by rfl, ?_⟩) ?_ ?_
                      rotate_left
                      · intro w'
                        go_simp
                        with_reducible rfl
                      rotate_left
                      · simp only [Act.put, List.setIfInBounds_toArray, List.set_cons_zero, List.set_cons_succ, i64_w, i32_w]
                        rfl
                      refine pure_ (i := 2) (N := some 24) (v := ?_) (a' := ?_) #[true, true, true, false, false, false, false, false, false, false, false, false, false, false, false] rfl rfl (any_of HT_.out (by kernel_rfl)) (fun _ _ _ h => h) (Or.inl ⟨by rfl, ?_⟩) ?_ ?_
                      rotate_left
                      · intro w'
                        go_simp
                        with_reducible rfl
                      rotate_left
                      · simp only [Act.put, List.setIfInBounds_toArray, List.set_cons_zero, List.set_cons_succ, i64_w, i32_w]
                        rfl
                      refine pure_ (i := 3) (N := some 25) (v := ?_) (a' := ?_) #[true, true, true, true, false, false, false, false, false, false, false, false, false, false, false] rfl rfl (any_of HT_.out (by kernel_rfl)) (fun _ _ _ h => h) (Or.inl ⟨by rfl, ?_⟩) ?_ ?_
                      rotate_left
                      · intro w'
                        go_simp
                        with_reducible rfl
                      rotate_left
                      · simp only [Act.put, List.setIfInBounds_toArray, List.set_cons_zero, List.set_cons_succ, i64_w, i32_w]
                        rfl
                      refine pure_ (i := 4) (N := some 26) (v := ?_) (a' := ?_) #[true, true, true, true, true, false, false, false, false, false, false, false, false, false, false] rfl rfl (any_of HT_.out (by kernel_rfl)) (fun _ _ _ h => h) (Or.inl ⟨by rfl, ?_⟩) ?_ ?_
                      rotate_left
                      · intro w'
                        go_simp
                        with_reducible rfl
                      rotate_left
                      · simp only [Act.put, List.setIfInBounds_toArray, List.set_cons_zero, List.set_cons_succ, i64_w, i32_w]
                        rfl
                      refine pure_ (i := 5) (N := some 27) (v := ?_) (a' := ?_) #[true, true, true, true, true, true, false, false, false, false, false, false, false, false, false] rfl rfl (any_of HT_.out (by kernel_rfl)) (fun _ _ _ h => h) (Or.inl ⟨by rfl, ?_⟩) ?_ ?_
                      rotate_left
                      · intro w'
                        go_simp
                        with_reducible rfl
                      rotate_left
                      · simp only [Act.put, List.setIfInBounds_toArray, List.set_cons_zero, List.set_cons_succ, i64_w, i32_w]
                        rfl
                      refine pure_ (i := 6) (N := some 28) (v := ?_) (a' := ?_) #[true, true, true, true, true, true, true, false, false, false, false, false, false, false, false] rfl rfl (any_of HT_.out (by kernel_rfl)) (fun _ _ _ h => h) (Or.inl ⟨by rfl, ?_⟩) ?_ ?_
                      rotate_left
                      · intro w'
                        go_simp
                        with_reducible rfl
                      rotate_left
                      · simp only [Act.put, List.setIfInBounds_toArray, List.set_cons_zero, List.set_cons_succ, i64_w, i32_w]
                        rfl
                      refine pure_ (i := 8) (N := some 30) (v := ?_) (a' := ?_) #[true, true, true, true, true, true, true, false, true, false, false, false, false, false, false] rfl rfl (any_of HT_.out (by kernel_rfl)) (fun _ _ _ h => h) (Or.inl ⟨by rfl, ?_⟩) ?_ ?_
                      rotate_left
                      · intro w'
                        go_simp
                        with_reducible rfl
                      rotate_left
                      · simp only [Act.put, List.setIfInBounds_toArray, List.set_cons_zero, List.set_cons_succ, i64_w, i32_w]
                        rfl
                      refine pure_ (i := 9) (N := some 31) (v := ?_) (a' := ?_) #[true, true, true, true, true, true, true, false, true, true, false, false, false, false, false] rfl rfl (any_of HT_.out (by kernel_rfl)) (fun _ _ _ h => h) (Or.inl ⟨by rfl, ?_⟩) ?_ ?_
                      rotate_left
                      · intro w'
                        go_simp
                        with_reducible rfl
                      rotate_left
                      · simp only [Act.put, List.setIfInBounds_toArray, List.set_cons_zero, List.set_cons_succ, i64_w, i32_w]
                        rfl
                      refine pure_ (i := 10) (N := some 32) (v := ?_) (a' := ?_) #[true, true, true, true, true, true, true, false, true, true, true, false, false, false, false] rfl rfl (any_of HT_.out (by kernel_rfl)) (fun _ _ _ h => h) (Or.inl ⟨by rfl, ?_⟩) ?_ ?_
                      rotate_left
                      · intro w'
                        go_simp
                        with_reducible rfl
                      rotate_left
                      · simp only [Act.put, List.setIfInBounds_toArray, List.set_cons_zero, List.set_cons_succ, i64_w, i32_w]
                        rfl
                      refine pure_ (i := 11) (N := some 33) (v := ?_) (a' := ?_) #[true, true, true, true, true, true, true, false, true, true, true, true, false, false, false] rfl rfl (any_of HT_.out (by kernel_rfl)) (fun _ _ _ h => h) (Or.inl ⟨by rfl, ?_⟩) ?_ ?_
                      rotate_left
                      · intro w'
                        go_simp
                        with_reducible rfl
                      rotate_left
                      · simp only [Act.put, List.setIfInBounds_toArray, List.set_cons_zero, List.set_cons_succ, i64_w, i32_w]
                        rfl
                      refine take_ (i := 7) (N := some 29) (v := ?_) (a' := ?_) #[true, true, true, true, true, true, true, true, true, true, true, true, false, false, false] rfl rfl (take_ofW HT_.out HW_.out (by kernel_rfl)) (fun _ _ _ h => h) (Or.inl ⟨by rfl, ?_⟩) hHeld ?_ ?_
                      rotate_left
                      · rintro w' ⟨s0, s1, s2, s3, s4, s5⟩
                        go_simp
                        with_reducible rfl
                      rotate_left
                      · simp only [Act.put, List.setIfInBounds_toArray, List.set_cons_zero, List.set_cons_succ, i64_w, i32_w]
                        rfl
                      refine take_ (i := 12) (N := some 34) (v := ?_) (a' := ?_) #[true, true, true, true, true, true, true, true, true, true, true, true, true, false, false] rfl rfl (take_ofW HT_.out HW_.out (by kernel_rfl)) (fun _ _ _ h => h) (Or.inl ⟨by rfl, ?_⟩) hHeld ?_ ?_
                      rotate_left
                      · rintro w' ⟨s0, s1, s2, s3, s4, s5⟩
                        go_simp
                        with_reducible rfl
                      rotate_left
                      · simp only [Act.put, List.setIfInBounds_toArray, List.set_cons_zero, List.set_cons_succ, i64_w, i32_w]
                        rfl
                      refine pure_ (i := 13) (N := some 35) (v := ?_) (a' := ?_) #[true, true, true, true, true, true, true, true, true, true, true, true, true, true, false] rfl rfl (any_of HT_.out (by kernel_rfl)) (fun _ _ _ h => h) (Or.inl ⟨by rfl, ?_⟩) ?_ ?_
                      rotate_left
                      · intro w'
                        go_simp
                        with_reducible rfl
                      rotate_left
                      · simp only [Act.put, List.setIfInBounds_toArray, List.set_cons_zero, List.set_cons_succ, i64_w, i32_w]
                        rfl
                      refine pure_ (i := 14) (N := some 36) (v := ?_) (a' := ?_) #[true, true, true, true, true, true, true, true, true, true, true, true, true, true, true] rfl rfl (any_of HT_.out (by kernel_rfl)) (fun _ _ _ h => h) (Or.inl ⟨by rfl, ?_⟩) ?_ ?_
                      rotate_left
                      · intro w'
                        go_simp
                        with_reducible rfl
                      rotate_left
                      · simp only [Act.put, List.setIfInBounds_toArray, List.set_cons_zero, List.set_cons_succ, i64_w, i32_w]
                        rfl
                      refine done_ (done_of HT_.out (by kernel_rfl)) ?_
                      (try (have iw21 : IntKind.i64.wrap ((x3_1.length : Int) - 1) = wrap64 ((x3_1.length : Int) - 1) := i64_w _))
                      try go_wp2
                      have n0_ := Aside0.mk (Kd.S_drew HO_3.out)
                      have n1_ := Aside0.mk (Kd.R_drew HL174_2.out)
                      have n2_ := Aside0.mk (Kd.C_drew HR174_2.out)
                      have n3_ := Aside0.mk (below_drew1 HB.out)
                      clear HO_3
                      clear HL174_2
                      clear HR174_2
                      clear HB
                      have HO_3 := n0_
                      have HL174_2 := n1_
                      have HR174_2 := n2_
                      have HB := n3_
                      clear n0_ n1_ n2_ n3_
                      have p176 : 0 ≤ ((ji6) : Int) := of_decide_eq_true (by first | (with_reducible assumption) | assumption)
                      have q176 : (ji6) < (x3_1.length : Int) := of_decide_eq_true (by first | (with_reducible assumption) | assumption)
                      obtain ⟨ad176, A176_2, c176_2, e176, hx176_0, hx176_1, hx176_2, hl176_2, hi176_2⟩ := at_T32 (Kd.S_reads' HO_3.out).2.2 (ji6) p176 q176
                      obtain rfl : ad174 = ad176 := (by injection e176)
                      obtain ⟨ce176, hce176, hMe176, hcc176⟩ := Kd.S_get HO_3.out z32 (ji6) p176 (by first | exact q176 | exact of_decide_eq_true (by first | (with_reducible assumption) | assumption) | (have e_ := (Kd.S_reads' HO_3.out).1; omega))
                      obtain ⟨ve176_2, rfl, ge176_2⟩ := k32_openM hMe176
                      have hv176_2 := hcc176 2 _ rfl
                      rw [add_field _ _ 2 (by omega)] at hv176_2
                      replace hv176_2 := Option.some.inj (hv176_2.symm.trans hx176_2)
                      rw [hv176_2] at ge176_2
                      have HL176_2 := Aside0.mk (show Kd.R (Kd.int .u8) 5 _ _ _ _ ((rd_T32 x3_1 (ji6)).f2) from ge176_2)
                      clear hv176_2 ge176_2
                      have HX176_2 := Aside0.mk hx176_2
                      clear hcc176 hce176
                      have HR176_2 := Aside0.mk hi176_2
                      have HC176_2 := Aside0.mk hl176_2
                      clear hi176_2 hl176_2
                      replace p176 := eq_true p176
                      replace q176 := eq_true q176
                      have p177 : 0 ≤ (x4_1 : Int) := of_decide_eq_true (by first | (with_reducible assumption) | assumption)
                      have q177 : x4_1 < (l0.length : Int) := of_decide_eq_true (by first | (with_reducible assumption) | assumption)
                      obtain ⟨ad177, A177_2, c177_2, e177, hx177_0, hx177_1, hx177_2, hl177_2, hi177_2⟩ := at_T32 HR0.out x4_1 p177 q177
                      have hw177_2 := hx177_2
                      have hw177_1 := hx177_1
                      have hw177_0 := hx177_0
                      obtain rfl : ad173 = ad177 := (by injection e177)
                      replace hx177_0 := (HB.out.cell (World.block_lt_of_cell? w _ hx177_0)).trans hx177_0
                      replace hx177_1 := (HB.out.cell (World.block_lt_of_cell? w _ hx177_1)).trans hx177_1
                      replace hx177_2 := (HB.out.cell (World.block_lt_of_cell? w _ hx177_2)).trans hx177_2
                      have HR177_2 := Aside0.mk hi177_2
                      have HC177_2 := Aside0.mk hl177_2
                      clear hi177_2 hl177_2
                      replace p177 := eq_true p177
                      replace q177 := eq_true q177
                      obtain ⟨go15, co15, eo15, gb15, gl15, cl15, HG15⟩ := Kd.S_form HO_3.out (by have h_ : ((ji6) : Int) < ((x3_1.length : Int) : Int) := of_decide_eq_true (by first | (with_reducible assumption) | assumption); have h2_ : 0 ≤ ((ji6) : Int) := (of_decide_eq_true (by first | (with_reducible assumption) | assumption)); omega)
                      (first | cases eo15 | (injection eo15 with ea_ en_ ec_; (first | subst ea_ | (injection ea_ with ea_; subst ea_)); subst ec_; clear en_))
                      have GB15 := Aside0.mk gb15
                      have GG15 := Aside0.mk HG15
                      clear gb15 gl15 HG15
                      (first | simp only [add_plain] at hx174_0 | skip)
                      (first | simp only [add_plain] at hx174_1 | skip)
                      (first | simp only [add_plain] at hx174_2 | skip)
                      (first | simp only [add_plain] at hx176_0 | skip)
                      (first | simp only [add_plain] at hx176_1 | skip)
                      (first | simp only [add_plain] at hx176_2 | skip)
                      obtain ⟨oki15, ce15, hcl15, hM15, hcc15, _, _, hH15⟩ := Kd.S_elem HO_3.out z32 ((ji6) : Int) (of_decide_eq_true (by first | (with_reducible assumption) | assumption)) (by have h_ : ((ji6) : Int) < ((x3_1.length : Int) : Int) := of_decide_eq_true (by first | (with_reducible assumption) | assumption); first | exact h_ | (have e_ := (Kd.S_reads' HO_3.out).1; omega) | simpa using h_)
                      obtain ⟨ve15_2, rfl, ge15_2⟩ := k32_openM hM15
                      have hv15 := hcc15 2 _ rfl
                      have hX15 := HX176_2.out
                      (try simp only [add_plain] at hX15)
                      (try simp only [Nat.add_zero] at hv15)
                      replace hv15 := Option.some.inj (hv15.symm.trans hX15)
                      subst hv15
                      clear hX15 hcc15 hcl15
                      have UU15 := Aside0.mk (show Kd.R (Kd.int .u8) 5 _ w.heap.size oki15 (.slice A176_2 ((rd_T32 x3_1 (ji6)).f2).length c176_2) ((rd_T32 x3_1 (ji6)).f2) from ge15_2)
                      have HH15 := Aside0.mk hH15
                      have HN15 := Aside0.mk (Kd.S_reads' HO_3.out).1
                      clear hH15 ge15_2
                      refine start_ (n := 16) (S := fun w' => w'.cell? ⟨go15, (((ji6)).toNat * 3), none⟩ = some (.int .i64 ((rd_T32 x3_1 (ji6)).f0)) ∧ w'.cell? ⟨go15, (((ji6)).toNat * 3) + 1, none⟩ = some (.int .i64 ((rd_T32 x3_1 (ji6)).f1)) ∧ w'.cell? ⟨go15, (((ji6)).toNat * 3) + 2, none⟩ = some (.slice A176_2 ((rd_T32 x3_1 (ji6)).f2).length c176_2) ∧ w'.cell? (ad173.add ((x4_1).toNat * 3)) = some (.int .i64 ((rd_T32 l0 x4_1).f0)) ∧ w'.cell? ⟨(ad173.add ((x4_1).toNat * 3)).block, (ad173.add ((x4_1).toNat * 3)).off + 1, none⟩ = some (.int .i64 ((rd_T32 l0 x4_1).f1)) ∧ w'.cell? ⟨(ad173.add ((x4_1).toNat * 3)).block, (ad173.add ((x4_1).toNat * 3)).off + 2, none⟩ = some (.slice A177_2 ((rd_T32 l0 x4_1).f2).length c177_2)) (ds := [15]) #[false, false, false, false, false, false, false, false, false, false, false, false, false, false, false, false] (by kernel_rfl) rfl rfl ⟨hx176_0, hx176_1, hx176_2, ((HB.out.cell (World.block_lt_of_cell? w _ hw177_0)).trans hw177_0), ((HB.out.cell (World.block_lt_of_cell? w _ hw177_1)).trans hw177_1), ((HB.out.cell (World.block_lt_of_cell? w _ hw177_2)).trans hw177_2)⟩ (fun hHeld => ?_); refine with_tabW cuecardref04_Merge.tab8 cuecardref04_Merge.bits8 (fun HT_ HW_ => ?_)
                      generalize w13.drew = w14 at HO_3 HL174_2 HR174_2 HB GG15 HH15 HL176_2 HR176_2 HR177_2 HX176_2 UU15 hx174_0 hx174_1 hx174_2 hx176_0 hx176_1 hx176_2 hx177_0 hx177_1 hx177_2 hHeld ⊢
                      refine pure_ (i := 0) (N := some 37) (v := ?_) (a' := ?_) #[true, false, false, false, false, false, false, false, false, false, false, false, false, false, false, false] rfl rfl (any_of HT_.out (by kernel_rfl)) (fun _ _ _ h => h) (Or.inl ⟨by rfl, ?_⟩) ?_ ?_
                      rotate_left
                      · intro w'
                        go_simp
                        with_reducible rfl
                      rotate_left
                      · simp only [Act.put, List.setIfInBounds_toArray, List.set_cons_zero, List.set_cons_succ, i64_w, i32_w]
                        rfl
                      refine pure_ (i := 1) (N := some 38) (v := ?_) (a' := ?_) #[true, true, false, false, false, false, false, false, false, false, false, false, false, false, false, false] rfl rfl (any_of HT_.out (by kernel_rfl)) (fun _ _ _ h => h) (Or.inl ⟨by rfl, ?_⟩) ?_ ?_
                      rotate_left
                      · intro w'
                        go_simp
                        with_reducible rfl
                      rotate_left
                      · simp only [Act.put, List.setIfInBounds_toArray, List.set_cons_zero, List.set_cons_succ, i64_w, i32_w]
                        rfl
                      refine pure_ (i := 2) (N := some 39) (v := ?_) (a' := ?_) #[true, true, true, false, false, false, false, false, false, false, false, false, false, false, false, false] rfl rfl (any_of HT_.out (by kernel_rfl)) (fun _ _ _ h => h) (Or.inl ⟨by rfl, ?_⟩) ?_ ?_
                      rotate_left
                      · intro w'
                        go_simp
                        with_reducible rfl
                      rotate_left
                      · simp only [Act.put, List.setIfInBounds_toArray, List.set_cons_zero, List.set_cons_succ, i64_w, i32_w]
                        rfl
                      refine pure_ (i := 3) (N := some 40) (v := ?_) (a' := ?_) #[true, true, true, true, false, false, false, false, false, false, false, false, false, false, false, false] rfl rfl (any_of HT_.out (by kernel_rfl)) (fun _ _ _ h => h) (Or.inl ⟨by rfl, ?_⟩) ?_ ?_
                      rotate_left
                      · intro w'
                        go_simp
                        with_reducible rfl
                      rotate_left
                      · simp only [Act.put, List.setIfInBounds_toArray, List.set_cons_zero, List.set_cons_succ, i64_w, i32_w]
                        rfl
                      refine pure_ (i := 4) (N := some 41) (v := ?_) (a' := ?_) #[true, true, true, true, true, false, false, false, false, false, false, false, false, false, false, false] rfl rfl (any_of HT_.out (by kernel_rfl)) (fun _ _ _ h => h) (Or.inl ⟨by rfl, ?_⟩) ?_ ?_
                      rotate_left
                      · intro w'
                        go_simp
                        with_reducible rfl
                      rotate_left
                      · simp only [Act.put, List.setIfInBounds_toArray, List.set_cons_zero, List.set_cons_succ, i64_w, i32_w]
                        rfl
                      refine pure_ (i := 5) (N := some 42) (v := ?_) (a' := ?_) #[true, true, true, true, true, true, false, false, false, false, false, false, false, false, false, false] rfl rfl (any_of HT_.out (by kernel_rfl)) (fun _ _ _ h => h) (Or.inl ⟨by rfl, ?_⟩) ?_ ?_
                      rotate_left
                      · intro w'
                        go_simp
                        with_reducible rfl
                      rotate_left
                      · simp only [Act.put, List.setIfInBounds_toArray, List.set_cons_zero, List.set_cons_succ, i64_w, i32_w]
                        rfl
                      refine pure_ (i := 7) (N := some 44) (v := ?_) (a' := ?_) #[true, true, true, true, true, true, false, true, false, false, false, false, false, false, false, false] rfl rfl (any_of HT_.out (by kernel_rfl)) (fun _ _ _ h => h) (Or.inl ⟨by rfl, ?_⟩) ?_ ?_
                      rotate_left
                      · intro w'
                        go_simp
                        with_reducible rfl
                      rotate_left
                      · simp only [Act.put, List.setIfInBounds_toArray, List.set_cons_zero, List.set_cons_succ, i64_w, i32_w]
                        rfl
                      refine pure_ (i := 8) (N := some 45) (v := ?_) (a' := ?_) #[true, true, true, true, true, true, false, true, true, false, false, false, false, false, false, false] rfl rfl (any_of HT_.out (by kernel_rfl)) (fun _ _ _ h => h) (Or.inl ⟨by rfl, ?_⟩) ?_ ?_
                      rotate_left
                      · intro w'
                        go_simp
                        with_reducible rfl
                      rotate_left
                      · simp only [Act.put, List.setIfInBounds_toArray, List.set_cons_zero, List.set_cons_succ, i64_w, i32_w]
                        rfl
                      refine pure_ (i := 9) (N := some 46) (v := ?_) (a' := ?_) #[true, true, true, true, true, true, false, true, true, true, false, false, false, false, false, false] rfl rfl (any_of HT_.out (by kernel_rfl)) (fun _ _ _ h => h) (Or.inl ⟨by rfl, ?_⟩) ?_ ?_
                      rotate_left
                      · intro w'
                        go_simp
                        with_reducible rfl
                      rotate_left
                      · simp only [Act.put, List.setIfInBounds_toArray, List.set_cons_zero, List.set_cons_succ, i64_w, i32_w]
                        rfl
                      refine pure_ (i := 10) (N := some 47) (v := ?_) (a' := ?_) #[true, true, true, true, true, true, false, true, true, true, true, false, false, false, false, false] rfl rfl (any_of HT_.out (by kernel_rfl)) (fun _ _ _ h => h) (Or.inl ⟨by rfl, ?_⟩) ?_ ?_
                      rotate_left
                      · intro w'
                        go_simp
                        with_reducible rfl
                      rotate_left
                      · simp only [Act.put, List.setIfInBounds_toArray, List.set_cons_zero, List.set_cons_succ, i64_w, i32_w]
                        rfl
                      refine take_ (i := 6) (N := some 43) (v := ?_) (a' := ?_) #[true, true, true, true, true, true, true, true, true, true, true, false, false, false, false, false] rfl rfl (take_ofW HT_.out HW_.out (by kernel_rfl)) (fun _ _ _ h => h) (Or.inl ⟨by rfl, ?_⟩) hHeld ?_ ?_
                      rotate_left
                      · rintro w' ⟨s0, s1, s2, s3, s4, s5⟩
                        go_simp
                        with_reducible rfl
                      rotate_left
                      · simp only [Act.put, List.setIfInBounds_toArray, List.set_cons_zero, List.set_cons_succ, i64_w, i32_w]
                        rfl
                      refine take_ (i := 11) (N := some 48) (v := ?_) (a' := ?_) #[true, true, true, true, true, true, true, true, true, true, true, true, false, false, false, false] rfl rfl (take_ofW HT_.out HW_.out (by kernel_rfl)) (fun _ _ _ h => h) (Or.inl ⟨by rfl, ?_⟩) hHeld ?_ ?_
                      rotate_left
                      · rintro w' ⟨s0, s1, s2, s3, s4, s5⟩
                        go_simp
                        with_reducible rfl
                      rotate_left
                      · simp only [Act.put, List.setIfInBounds_toArray, List.set_cons_zero, List.set_cons_succ, i64_w, i32_w]
                        rfl
                      refine one_ (i := 12) (N := some 49) #[true, true, true, true, true, true, true, true, true, true, true, true, true, false, false, false] rfl rfl (one_of HT_.out (by kernel_rfl)) (by decide) (fun K hK => ?_)
                      refine Kd.R_append_rows_step (Kd.int .u8) (w0 := w) w.heap.size (by rfl) (.tmp 43) (.tmp 48) 26 5 (.int .u8 0) 1 rfl Try.underlying26 info5 rfl (by decide) (by omega) (.slice A176_2 ((rd_T32 x3_1 (ji6)).f2).length c176_2) ((rd_T32 x3_1 (ji6)).f2) ((rd_T32 l0 x4_1).f2) _ _ _ (fun k_ => oki15 k_ ∨ ((fun _ => True)) k_ ∧ w14.heap.size ≤ k_) (fun _ => False) rfl rfl ?aO ?aR (fun _ _ h => h) (fun _ h => h.elim) ?aF ?aB ?aS ?aL ?_
                      (case aR => repeat (first | exact (Kd.C_below HR177_2.out HB.out) | (with_reducible refine Kd.C_alloc ?_ _) | (with_reducible refine Kd.C_drewN ?_ _) | (with_reducible refine Kd.C_drew ?_)))
                      (case aB => exact (by repeat (first | (with_reducible first | exact HB.out | apply below_alloc | apply pw_below_drewN | apply below_drew1) | exact HB.out)))
                      (case aF => exact (fun k_ hk => .inr ⟨trivial, hk⟩))
                      (case aO => exact (by (with_reducible repeat (first | apply Kd.R_alloc | apply Kd.R_drewN | apply Kd.R_drew)); exact Kd.R_mono UU15.out (fun _ hk => .inl hk)))
                      (case aS => exact (below_size (by repeat (first | (with_reducible first | exact HB.out | apply below_alloc | apply pw_below_drewN | apply below_drew1) | exact HB.out))))
                      (case aL => have := LMc10.out; omega)
                      intro v179 w16 ho hb hg hat
                      (first | have HS0_ := cell_grown hg (hHeld.1) (by first | (rw [add_block]; exact (fun e_ => ((HL176_2.out.1 _ e_.symm).2) rfl)) | (show some (Addr.add _ _).block ≠ _; rw [add_block]; exact (fun e_ => ((HL176_2.out.1 _ e_.symm).2) rfl)) | exact (fun e_ => ((HL176_2.out.1 _ e_.symm).2) rfl)) | have HS0_ := cell_grown hg (cell_unalloc (hHeld.1) (by first | (rw [add_block]; exact Kd.S_lt HO_3.out _ rfl) | (show (Addr.add _ _).block < _; rw [add_block]; exact Kd.S_lt HO_3.out _ rfl) | exact Kd.S_lt HO_3.out _ rfl)) (by first | (rw [add_block]; exact (fun e_ => ((HL176_2.out.1 _ e_.symm).2) rfl)) | (show some (Addr.add _ _).block ≠ _; rw [add_block]; exact (fun e_ => ((HL176_2.out.1 _ e_.symm).2) rfl)) | exact (fun e_ => ((HL176_2.out.1 _ e_.symm).2) rfl)))
                      (first | have HS1_ := cell_grown hg (hHeld.2.1) (by first | (rw [add_block]; exact (fun e_ => ((HL176_2.out.1 _ e_.symm).2) rfl)) | (show some (Addr.add _ _).block ≠ _; rw [add_block]; exact (fun e_ => ((HL176_2.out.1 _ e_.symm).2) rfl)) | exact (fun e_ => ((HL176_2.out.1 _ e_.symm).2) rfl)) | have HS1_ := cell_grown hg (cell_unalloc (hHeld.2.1) (by first | (rw [add_block]; exact Kd.S_lt HO_3.out _ rfl) | (show (Addr.add _ _).block < _; rw [add_block]; exact Kd.S_lt HO_3.out _ rfl) | exact Kd.S_lt HO_3.out _ rfl)) (by first | (rw [add_block]; exact (fun e_ => ((HL176_2.out.1 _ e_.symm).2) rfl)) | (show some (Addr.add _ _).block ≠ _; rw [add_block]; exact (fun e_ => ((HL176_2.out.1 _ e_.symm).2) rfl)) | exact (fun e_ => ((HL176_2.out.1 _ e_.symm).2) rfl)))
                      (first | have HS2_ := cell_grown hg (hHeld.2.2.1) (by first | (rw [add_block]; exact (fun e_ => ((HL176_2.out.1 _ e_.symm).2) rfl)) | (show some (Addr.add _ _).block ≠ _; rw [add_block]; exact (fun e_ => ((HL176_2.out.1 _ e_.symm).2) rfl)) | exact (fun e_ => ((HL176_2.out.1 _ e_.symm).2) rfl)) | have HS2_ := cell_grown hg (cell_unalloc (hHeld.2.2.1) (by first | (rw [add_block]; exact Kd.S_lt HO_3.out _ rfl) | (show (Addr.add _ _).block < _; rw [add_block]; exact Kd.S_lt HO_3.out _ rfl) | exact Kd.S_lt HO_3.out _ rfl)) (by first | (rw [add_block]; exact (fun e_ => ((HL176_2.out.1 _ e_.symm).2) rfl)) | (show some (Addr.add _ _).block ≠ _; rw [add_block]; exact (fun e_ => ((HL176_2.out.1 _ e_.symm).2) rfl)) | exact (fun e_ => ((HL176_2.out.1 _ e_.symm).2) rfl)))
                      rw [← Ny178.out] at ho
                      have n0_ := Aside0.mk (hb)
                      have n1_ := Aside0.mk (Kd.H_grown (Kd.H_widen (by repeat (first | exact HH15.out | refine Kd.H_alloc ?_ _ | refine Kd.H_drewN ?_ _ | refine Kd.H_drew ?_))) hg (fun k_ e_ => .inl (UU15.out.1 k_ e_)))
                      have n2_ := Aside0.mk (ho)
                      clear HB
                      clear HH15
                      clear HO_3
                      clear UU15
                      clear HL174_2
                      clear HL176_2
                      have HB := n0_
                      have HH15 := n1_
                      have HO180 := n2_
                      clear n0_ n1_ n2_
                      clear ho hb hg hat
                      have p11 : 0 ≤ ((ji6) : Int) := of_decide_eq_true (by first | (with_reducible assumption) | assumption)
                      have q11 : ((ji6) : Int) < ((x3_1.length : Int) : Int) := of_decide_eq_true (by first | (with_reducible assumption) | assumption)
                      replace p11 := eq_true p11
                      replace q11 := eq_true q11
                      obtain ⟨Ao19, co19, eo19⟩ := Kd.R_slice HO180.out
                      (first | subst eo19 | (injection eo19 with f1_ f2_ f3_; have f4_ := f1_.symm; have f5_ := f3_.symm; clear f1_ f2_ f3_; subst f4_; subst f5_))
                      obtain ⟨_, _, hraw17, _, _, hcc17, _⟩ := Kd.H_raw HH15.out (of_decide_eq_true (by first | (with_reducible assumption) | assumption)) (by have h_ : ((ji6) : Int) < ((x3_1.length : Int) : Int) := of_decide_eq_true (by first | (with_reducible assumption) | assumption); first | exact h_ | (have e_ := (HN15.out); omega) | simpa using h_)
                      obtain ⟨_, hfr17⟩ := Kd.H_at HH15.out (of_decide_eq_true (by first | (with_reducible assumption) | assumption)) (by have h_ : ((ji6) : Int) < ((x3_1.length : Int) : Int) := of_decide_eq_true (by first | (with_reducible assumption) | assumption); first | exact h_ | (have e_ := (HN15.out); omega) | simpa using h_)
                      have hx17_0 := hcc17 2 _ rfl
                      have hf17_0 := hfr17 2
                      (try rw [show (k32).sz = 3 from rfl] at hx17_0)
                      (try rw [show (k32).sz = 3 from rfl] at hf17_0)
                      have HP17 := Kd.S_seg0 HH15.out (of_decide_eq_true (by first | (with_reducible assumption) | assumption)) (by have h_ : ((ji6) : Int) < ((x3_1.length : Int) : Int) := of_decide_eq_true (by first | (with_reducible assumption) | assumption); first | exact h_ | (have e_ := (HN15.out); omega) | simpa using h_) (seg := [.slice Ao19 y178.length co19]) (j := 2) (show 3 ≤ 3 from by decide) (x' := (⟨(rd_T32 x3_1 (ji6)).f0, (rd_T32 x3_1 (ji6)).f1, y178⟩ : S32)) (k32_mkM _ _ _ (⟨(rd_T32 x3_1 (ji6)).f0, (rd_T32 x3_1 (ji6)).f1, y178⟩ : S32) HO180.out) (fun _ hk => hk)
                      clear hcc17 hfr17
                      have HS17 := HP17.1
                      rw [← Ny181.out] at HS17
                      have HQ17 := Aside0.mk HS17
                      obtain ⟨_, hgg17⟩ := Kd.R_typed hraw17 go15 rfl
                      have GG17_ := Aside0.mk hgg17
                      clear HP17 HS17 hgg17
                      refine hK.out _ _ ⟨HS0_, HS1_, HS2_, ((HB.out.cell (World.block_lt_of_cell? w _ hw177_0)).trans hw177_0), ((HB.out.cell (World.block_lt_of_cell? w _ hw177_1)).trans hw177_1), ((HB.out.cell (World.block_lt_of_cell? w _ hw177_2)).trans hw177_2)⟩ (fun hHeld => ?_)
                      clear hK K
                      refine norm_ (a' := ?_) ?_ ?_
                      rotate_left
                      · show Act.put _ (some 49) _ = _
                        simp only [Act.put, List.setIfInBounds_toArray, List.set_cons_zero, List.set_cons_succ, i64_w, i32_w]
                        rfl
                      refine pure_ (i := 13) (N := some 50) (v := ?_) (a' := ?_) #[true, true, true, true, true, true, true, true, true, true, true, true, true, true, false, false] rfl rfl (any_of HT_.out (by kernel_rfl)) (fun _ _ _ h => h) (Or.inl ⟨by rfl, ?_⟩) ?_ ?_
                      rotate_left
                      · intro w'
                        go_simp
                        with_reducible rfl
                      rotate_left
                      · simp only [Act.put, List.setIfInBounds_toArray, List.set_cons_zero, List.set_cons_succ, i64_w, i32_w]
                        rfl
                      refine pure_ (i := 14) (N := some 51) (v := ?_) (a' := ?_) #[true, true, true, true, true, true, true, true, true, true, true, true, true, true, true, false] rfl rfl (any_of HT_.out (by kernel_rfl)) (fun _ _ _ h => h) (Or.inl ⟨by rfl, ?_⟩) ?_ ?_
                      rotate_left
                      · intro w'
                        go_simp
                        with_reducible rfl
                      rotate_left
                      · simp only [Act.put, List.setIfInBounds_toArray, List.set_cons_zero, List.set_cons_succ, i64_w, i32_w]
                        rfl
                      refine last_ (i := 15) (N := none) #[true, true, true, true, true, true, true, true, true, true, true, true, true, true, true, true] rfl rfl (one_of HT_.out (by kernel_rfl)) (by decide) (fun K hK => ?_)
                      refine skip_ (w1 := ?_) (by rfl) rfl ?_ ?_
                      rotate_left
                      · go_simp
                        rfl
                      refine hK.out _ _ ?_
                      clear hK K
                      refine done_ (done_of HT_.out (by kernel_rfl)) ?_
                      (try (have iw22 : IntKind.i64.wrap ((x3_1.length : Int) - 1) = wrap64 ((x3_1.length : Int) - 1) := i64_w _))
                      try go_wp2
                      go_roundg k1
                      case measure => have := HK1.out; omega
                      case rel => exact ⟨(y181), (wrap64 (x4_1 + 1)), (by first | rfl | (simp; done) | (simp [*]; done)), H', ⟨by have := HK1.out; omega⟩, ⟨by (with_reducible repeat (first | apply Kd.S_alloc | apply Kd.S_drewN | apply Kd.S_drew)); exact HQ17.out⟩, ⟨by repeat (first | (with_reducible first | exact HB.out | apply below_alloc | apply pw_below_drewN | apply below_drew1 | refine below_set ?_ GB15.out) | exact HB.out)⟩⟩
                    · rw [if_neg c10] at H
                      exact absurd H (by simp)
                  · rw [if_neg c9] at H
                    have c9b0 : (((rd_T32 x3_1 (ji6)).f0) == ((rd_T32 l0 x4_1).f0)) = false := beq_eq_false_iff_ne.mpr c9
                    have c9b1 : (((rd_T32 x3_1 (ji6)).f0) != ((rd_T32 l0 x4_1).f0)) = true := bne_iff_ne.mpr c9
                    obtain ⟨y184, hy184⟩ : ∃ y_ : List Int, y_ = (([] : List Int)) := ⟨_, rfl⟩
                    replace H : (if y184.length + ((rd_T32 l0 x4_1).f2).length < 140737488355328 then (if x3_1.length < 3518437208883 then (cuecardref04_Merge.l0 k1 l0 (x3_1 ++ [(⟨(rd_T32 l0 x4_1).f0, (rd_T32 l0 x4_1).f1, (y184 ++ ((rd_T32 l0 x4_1).f2))⟩ : S32)]) (wrap64 (x4_1 + 1))) else (none)) else (none)) = some r := by first | (rw [hy184]; with_reducible exact H) | (have H2_ := (Option.bind_some _ _).symm.trans H; rw [hy184]; with_reducible exact H2_) | (have H2_ := (Option.bind_some _ _).symm.trans H; with_reducible exact H2_) | with_reducible exact H | (rw [hy184]; exact H) | exact H
                    have Ny184 := Aside0.mk hy184
                    clear hy184
                    by_cases c23 : y184.length + ((rd_T32 l0 x4_1).f2).length < 140737488355328
                    · rw [if_pos c23] at H
                      have LMc23 := Aside0.mk c23
                      clear c23
                      obtain ⟨y188, hy188⟩ : ∃ y_ : List Int, y_ = (y184 ++ ((rd_T32 l0 x4_1).f2)) := ⟨_, rfl⟩
                      replace H : (if x3_1.length < 3518437208883 then (cuecardref04_Merge.l0 k1 l0 (x3_1 ++ [(⟨(rd_T32 l0 x4_1).f0, (rd_T32 l0 x4_1).f1, y188⟩ : S32)]) (wrap64 (x4_1 + 1))) else (none)) = some r := by first | (rw [hy188]; with_reducible exact H) | (have H2_ := (Option.bind_some _ _).symm.trans H; rw [hy188]; with_reducible exact H2_) | (have H2_ := (Option.bind_some _ _).symm.trans H; with_reducible exact H2_) | with_reducible exact H | (rw [hy188]; exact H) | exact H
                      have Ny188 := Aside0.mk hy188
                      clear hy188
                      by_cases c24 : x3_1.length < 3518437208883
                      · rw [if_pos c24] at H
                        have LMc24 := Aside0.mk c24
                        clear c24
                        obtain ⟨y191, hy191⟩ : ∃ y_ : List (S32), y_ = (x3_1 ++ [(⟨(rd_T32 l0 x4_1).f0, (rd_T32 l0 x4_1).f1, y188⟩ : S32)]) := ⟨_, rfl⟩
                        replace H : (cuecardref04_Merge.l0 k1 l0 y191 (wrap64 (x4_1 + 1))) = some r := by first | (rw [hy191]; with_reducible exact H) | (have H2_ := (Option.bind_some _ _).symm.trans H; rw [hy191]; with_reducible exact H2_) | (have H2_ := (Option.bind_some _ _).symm.trans H; with_reducible exact H2_) | with_reducible exact H | (rw [hy191]; exact H) | exact H
                        have Ny191 := Aside0.mk hy191
                        clear hy191
                        have H' := Aside0.mk H
                        clear H
                        have p173 : 0 ≤ (x4_1 : Int) := of_decide_eq_true (by first | (with_reducible assumption) | assumption)
                        have q173 : x4_1 < (l0.length : Int) := of_decide_eq_true (by first | (with_reducible assumption) | assumption)
                        obtain ⟨ad173, A173_2, c173_2, e173, hx173_0, hx173_1, hx173_2, hl173_2, hi173_2⟩ := at_T32 HR0.out x4_1 p173 q173
                        cases e173
                        replace hx173_0 := (HB.out.cell (World.block_lt_of_cell? w _ hx173_0)).trans hx173_0
                        replace hx173_1 := (HB.out.cell (World.block_lt_of_cell? w _ hx173_1)).trans hx173_1
                        replace hx173_2 := (HB.out.cell (World.block_lt_of_cell? w _ hx173_2)).trans hx173_2
                        have HR173_2 := Aside0.mk hi173_2
                        have HC173_2 := Aside0.mk hl173_2
                        clear hi173_2 hl173_2
                        replace p173 := eq_true p173
                        replace q173 := eq_true q173
                        obtain ⟨Ao25, co25, eo25⟩ := Kd.S_slice HO_3.out
                        subst eo25
                        (try (have iw33 : IntKind.i64.wrap ((x3_1.length : Int) - 1) = wrap64 ((x3_1.length : Int) - 1) := i64_w _))
                        try go_wp2
                        have n0_ := Aside0.mk (Kd.S_drew HO_3.out)
                        have n1_ := Aside0.mk (below_drew1 HB.out)
                        clear HO_3
                        clear HB
                        have HO_3 := n0_
                        have HB := n1_
                        clear n0_ n1_
                        have p174 : 0 ≤ ((ji6) : Int) := of_decide_eq_true (by first | (with_reducible assumption) | assumption)
                        have q174 : (ji6) < (x3_1.length : Int) := of_decide_eq_true (by first | (with_reducible assumption) | assumption)
                        obtain ⟨ad174, A174_2, c174_2, e174, hx174_0, hx174_1, hx174_2, hl174_2, hi174_2⟩ := at_T32 (Kd.S_reads' HO_3.out).2.2 (ji6) p174 q174
                        cases e174
                        obtain ⟨ce174, hce174, hMe174, hcc174⟩ := Kd.S_get HO_3.out z32 (ji6) p174 (by first | exact q174 | exact of_decide_eq_true (by first | (with_reducible assumption) | assumption) | (have e_ := (Kd.S_reads' HO_3.out).1; omega))
                        obtain ⟨ve174_2, rfl, ge174_2⟩ := k32_openM hMe174
                        have hv174_2 := hcc174 2 _ rfl
                        rw [add_field _ _ 2 (by omega)] at hv174_2
                        replace hv174_2 := Option.some.inj (hv174_2.symm.trans hx174_2)
                        rw [hv174_2] at ge174_2
                        have HL174_2 := Aside0.mk (show Kd.R (Kd.int .u8) 5 _ _ _ _ ((rd_T32 x3_1 (ji6)).f2) from ge174_2)
                        clear hv174_2 ge174_2
                        have HX174_2 := Aside0.mk hx174_2
                        clear hcc174 hce174
                        have HR174_2 := Aside0.mk hi174_2
                        have HC174_2 := Aside0.mk hl174_2
                        clear hi174_2 hl174_2
                        replace p174 := eq_true p174
                        replace q174 := eq_true q174
                        have p175 : 0 ≤ (x4_1 : Int) := of_decide_eq_true (by first | (with_reducible assumption) | assumption)
                        have q175 : x4_1 < (l0.length : Int) := of_decide_eq_true (by first | (with_reducible assumption) | assumption)
                        obtain ⟨ad175, A175_2, c175_2, e175, hx175_0, hx175_1, hx175_2, hl175_2, hi175_2⟩ := at_T32 HR0.out x4_1 p175 q175
                        have hw175_2 := hx175_2
                        have hw175_1 := hx175_1
                        have hw175_0 := hx175_0
                        obtain rfl : ad173 = ad175 := (by injection e175)
                        replace hx175_0 := (HB.out.cell (World.block_lt_of_cell? w _ hx175_0)).trans hx175_0
                        replace hx175_1 := (HB.out.cell (World.block_lt_of_cell? w _ hx175_1)).trans hx175_1
                        replace hx175_2 := (HB.out.cell (World.block_lt_of_cell? w _ hx175_2)).trans hx175_2
                        have HR175_2 := Aside0.mk hi175_2
                        have HC175_2 := Aside0.mk hl175_2
                        clear hi175_2 hl175_2
                        replace p175 := eq_true p175
                        replace q175 := eq_true q175
                        refine start_ (n := 15) (S := fun w' => w'.cell? (ad174.add (((ji6)).toNat * 3)) = some (.int .i64 ((rd_T32 x3_1 (ji6)).f0)) ∧ w'.cell? ⟨(ad174.add (((ji6)).toNat * 3)).block, (ad174.add (((ji6)).toNat * 3)).off + 1, none⟩ = some (.int .i64 ((rd_T32 x3_1 (ji6)).f1)) ∧ w'.cell? ⟨(ad174.add (((ji6)).toNat * 3)).block, (ad174.add (((ji6)).toNat * 3)).off + 2, none⟩ = some (.slice A174_2 ((rd_T32 x3_1 (ji6)).f2).length c174_2) ∧ w'.cell? (ad173.add ((x4_1).toNat * 3)) = some (.int .i64 ((rd_T32 l0 x4_1).f0)) ∧ w'.cell? ⟨(ad173.add ((x4_1).toNat * 3)).block, (ad173.add ((x4_1).toNat * 3)).off + 1, none⟩ = some (.int .i64 ((rd_T32 l0 x4_1).f1)) ∧ w'.cell? ⟨(ad173.add ((x4_1).toNat * 3)).block, (ad173.add ((x4_1).toNat * 3)).off + 2, none⟩ = some (.slice A175_2 ((rd_T32 l0 x4_1).f2).length c175_2)) (ds := []) #[false, false, false, false, false, false, false, false, false, false, false, false, false, false, false] (by kernel_rfl) rfl rfl ⟨hx174_0, hx174_1, hx174_2, ((HB.out.cell (World.block_lt_of_cell? w _ hw175_0)).trans hw175_0), ((HB.out.cell (World.block_lt_of_cell? w _ hw175_1)).trans hw175_1), ((HB.out.cell (World.block_lt_of_cell? w _ hw175_2)).trans hw175_2)⟩ (fun hHeld => ?_); refine with_tabW cuecardref04_Merge.tab7 cuecardref04_Merge.bits7 (fun HT_ HW_ => ?_)
                        generalize wr.drew = w26 at HO_3 HB HL174_2 HR174_2 HR175_2 HX174_2 hx174_0 hx174_1 hx174_2 hx175_0 hx175_1 hx175_2 hHeld ⊢
                        refine pure_ (i := 0) (N := some 22) (v := ?_) (a' := ?_) #[true, false, false, false, false, false, false, false, false, false, false, false, false, false, false] rfl rfl (any_of HT_.out (by kernel_rfl)) (fun _ _ _ h => h) (Or.inl ⟨by rfl, ?_⟩) ?_ ?_
                        rotate_left
                        · intro w'
                          go_simp
                          with_reducible rfl
                        rotate_left
                        · simp only [Act.put, List.setIfInBounds_toArray, List.set_cons_zero, List.set_cons_succ, i64_w, i32_w]
                          rfl
                        refine pure_ (i := 1) (N := some 23) (v := ?_) (a' := ?_) #[true, true, false, false, false, false, false, false, false, false, false, false, false, false, false] rfl rfl (any_of HT_.out (by kernel_rfl)) (fun _ _ _ h => h) (Or.inl ⟨by rfl, ?_⟩) ?_ ?_
                        rotate_left
                        · intro w'
                          go_simp
                          with_reducible rfl
                        rotate_left
                        · simp only [Act.put, List.setIfInBounds_toArray, List.set_cons_zero, List.set_cons_succ, i64_w, i32_w]
                          rfl
                        refine pure_ (i := 2) (N := some 24) (v := ?_) (a' := ?_) #[true, true, true, false, false, false, false, false, false, false, false, false, false, false, false] rfl rfl (any_of HT_.out (by kernel_rfl)) (fun _ _ _ h => h) (Or.inl ⟨by rfl, ?_⟩) ?_ ?_
                        rotate_left
                        · intro w'
                          go_simp
                          with_reducible rfl
                        rotate_left
                        · simp only [Act.put, List.setIfInBounds_toArray, List.set_cons_zero, List.set_cons_succ, i64_w, i32_w]
                          rfl
                        refine pure_ (i := 3) (N := some 25) (v := ?_) (a' := ?_) #[true, true, true, true, false, false, false, false, false, false, false, false, false, false, false] rfl rfl (any_of HT_.out (by kernel_rfl)) (fun _ _ _ h => h) (Or.inl ⟨by rfl, ?_⟩) ?_ ?_
                        rotate_left
                        · intro w'
                          go_simp
                          with_reducible rfl
                        rotate_left
                        · simp only [Act.put, List.setIfInBounds_toArray, List.set_cons_zero, List.set_cons_succ, i64_w, i32_w]
                          rfl
                        refine pure_ (i := 4) (N := some 26) (v := ?_) (a' := ?_) #[true, true, true, true, true, false, false, false, false, false, false, false, false, false, false] rfl rfl (any_of HT_.out (by kernel_rfl)) (fun _ _ _ h => h) (Or.inl ⟨by rfl, ?_⟩) ?_ ?_
                        rotate_left
                        · intro w'
                          go_simp
                          with_reducible rfl
                        rotate_left
                        · simp only [Act.put, List.setIfInBounds_toArray, List.set_cons_zero, List.set_cons_succ, i64_w, i32_w]
                          rfl
                        refine pure_ (i := 5) (N := some 27) (v := ?_) (a' := ?_) #[true, true, true, true, true, true, false, false, false, false, false, false, false, false, false] rfl rfl (any_of HT_.out (by kernel_rfl)) (fun _ _ _ h => h) (Or.inl ⟨by rfl, ?_⟩) ?_ ?_
                        rotate_left
                        · intro w'
                          go_simp
                          with_reducible rfl
                        rotate_left
                        · simp only [Act.put, List.setIfInBounds_toArray, List.set_cons_zero, List.set_cons_succ, i64_w, i32_w]
                          rfl
                        refine pure_ (i := 6) (N := some 28) (v := ?_) (a' := ?_) #[true, true, true, true, true, true, true, false, false, false, false, false, false, false, false] rfl rfl (any_of HT_.out (by kernel_rfl)) (fun _ _ _ h => h) (Or.inl ⟨by rfl, ?_⟩) ?_ ?_
                        rotate_left
                        · intro w'
                          go_simp
                          with_reducible rfl
                        rotate_left
                        · simp only [Act.put, List.setIfInBounds_toArray, List.set_cons_zero, List.set_cons_succ, i64_w, i32_w]
                          rfl
                        refine pure_ (i := 8) (N := some 30) (v := ?_) (a' := ?_) #[true, true, true, true, true, true, true, false, true, false, false, false, false, false, false] rfl rfl (any_of HT_.out (by kernel_rfl)) (fun _ _ _ h => h) (Or.inl ⟨by rfl, ?_⟩) ?_ ?_
                        rotate_left
                        · intro w'
                          go_simp
                          with_reducible rfl
                        rotate_left
                        · simp only [Act.put, List.setIfInBounds_toArray, List.set_cons_zero, List.set_cons_succ, i64_w, i32_w]
                          rfl
                        refine pure_ (i := 9) (N := some 31) (v := ?_) (a' := ?_) #[true, true, true, true, true, true, true, false, true, true, false, false, false, false, false] rfl rfl (any_of HT_.out (by kernel_rfl)) (fun _ _ _ h => h) (Or.inl ⟨by rfl, ?_⟩) ?_ ?_
                        rotate_left
                        · intro w'
                          go_simp
                          with_reducible rfl
                        rotate_left
                        · simp only [Act.put, List.setIfInBounds_toArray, List.set_cons_zero, List.set_cons_succ, i64_w, i32_w]
                          rfl
                        refine pure_ (i := 10) (N := some 32) (v := ?_) (a' := ?_) #[true, true, true, true, true, true, true, false, true, true, true, false, false, false, false] rfl rfl (any_of HT_.out (by kernel_rfl)) (fun _ _ _ h => h) (Or.inl ⟨by rfl, ?_⟩) ?_ ?_
                        rotate_left
                        · intro w'
                          go_simp
                          with_reducible rfl
                        rotate_left
                        · simp only [Act.put, List.setIfInBounds_toArray, List.set_cons_zero, List.set_cons_succ, i64_w, i32_w]
                          rfl
                        refine pure_ (i := 11) (N := some 33) (v := ?_) (a' := ?_) #[true, true, true, true, true, true, true, false, true, true, true, true, false, false, false] rfl rfl (any_of HT_.out (by kernel_rfl)) (fun _ _ _ h => h) (Or.inl ⟨by rfl, ?_⟩) ?_ ?_
                        rotate_left
                        · intro w'
                          go_simp
                          with_reducible rfl
                        rotate_left
                        · simp only [Act.put, List.setIfInBounds_toArray, List.set_cons_zero, List.set_cons_succ, i64_w, i32_w]
                          rfl
                        refine take_ (i := 7) (N := some 29) (v := ?_) (a' := ?_) #[true, true, true, true, true, true, true, true, true, true, true, true, false, false, false] rfl rfl (take_ofW HT_.out HW_.out (by kernel_rfl)) (fun _ _ _ h => h) (Or.inl ⟨by rfl, ?_⟩) hHeld ?_ ?_
                        rotate_left
                        · rintro w' ⟨s0, s1, s2, s3, s4, s5⟩
                          go_simp
                          with_reducible rfl
                        rotate_left
                        · simp only [Act.put, List.setIfInBounds_toArray, List.set_cons_zero, List.set_cons_succ, i64_w, i32_w]
                          rfl
                        refine take_ (i := 12) (N := some 34) (v := ?_) (a' := ?_) #[true, true, true, true, true, true, true, true, true, true, true, true, true, false, false] rfl rfl (take_ofW HT_.out HW_.out (by kernel_rfl)) (fun _ _ _ h => h) (Or.inl ⟨by rfl, ?_⟩) hHeld ?_ ?_
                        rotate_left
                        · rintro w' ⟨s0, s1, s2, s3, s4, s5⟩
                          go_simp
                          with_reducible rfl
                        rotate_left
                        · simp only [Act.put, List.setIfInBounds_toArray, List.set_cons_zero, List.set_cons_succ, i64_w, i32_w]
                          rfl
                        refine pure_ (i := 13) (N := some 35) (v := ?_) (a' := ?_) #[true, true, true, true, true, true, true, true, true, true, true, true, true, true, false] rfl rfl (any_of HT_.out (by kernel_rfl)) (fun _ _ _ h => h) (Or.inl ⟨by rfl, ?_⟩) ?_ ?_
                        rotate_left
                        · intro w'
                          go_simp
                          with_reducible rfl
                        rotate_left
                        · simp only [Act.put, List.setIfInBounds_toArray, List.set_cons_zero, List.set_cons_succ, i64_w, i32_w]
                          rfl
                        refine pure_ (i := 14) (N := some 36) (v := ?_) (a' := ?_) #[true, true, true, true, true, true, true, true, true, true, true, true, true, true, true] rfl rfl (any_of HT_.out (by kernel_rfl)) (fun _ _ _ h => h) (Or.inl ⟨by rfl, ?_⟩) ?_ ?_
                        rotate_left
                        · intro w'
                          go_simp
                          with_reducible rfl
                        rotate_left
                        · simp only [Act.put, List.setIfInBounds_toArray, List.set_cons_zero, List.set_cons_succ, i64_w, i32_w]
                          rfl
                        refine done_ (done_of HT_.out (by kernel_rfl)) ?_
                        (try (have iw34 : IntKind.i64.wrap ((x3_1.length : Int) - 1) = wrap64 ((x3_1.length : Int) - 1) := i64_w _))
                        try go_wp2
                        have n0_ := Aside0.mk (Kd.S_drew HO_3.out)
                        have n1_ := Aside0.mk (Kd.R_drew HL174_2.out)
                        have n2_ := Aside0.mk (Kd.C_drew HR174_2.out)
                        have n3_ := Aside0.mk (below_drew1 HB.out)
                        clear HO_3
                        clear HL174_2
                        clear HR174_2
                        clear HB
                        have HO_3 := n0_
                        have HL174_2 := n1_
                        have HR174_2 := n2_
                        have HB := n3_
                        clear n0_ n1_ n2_ n3_
                        have p182 : 0 ≤ (x4_1 : Int) := of_decide_eq_true (by first | (with_reducible assumption) | assumption)
                        have q182 : x4_1 < (l0.length : Int) := of_decide_eq_true (by first | (with_reducible assumption) | assumption)
                        obtain ⟨ad182, A182_2, c182_2, e182, hx182_0, hx182_1, hx182_2, hl182_2, hi182_2⟩ := at_T32 HR0.out x4_1 p182 q182
                        have hw182_2 := hx182_2
                        have hw182_1 := hx182_1
                        have hw182_0 := hx182_0
                        obtain rfl : ad173 = ad182 := (by injection e182)
                        replace hx182_0 := (HB.out.cell (World.block_lt_of_cell? w _ hx182_0)).trans hx182_0
                        replace hx182_1 := (HB.out.cell (World.block_lt_of_cell? w _ hx182_1)).trans hx182_1
                        replace hx182_2 := (HB.out.cell (World.block_lt_of_cell? w _ hx182_2)).trans hx182_2
                        have HR182_2 := Aside0.mk hi182_2
                        have HC182_2 := Aside0.mk hl182_2
                        clear hi182_2 hl182_2
                        replace p182 := eq_true p182
                        replace q182 := eq_true q182
                        have p183 : 0 ≤ (x4_1 : Int) := of_decide_eq_true (by first | (with_reducible assumption) | assumption)
                        have q183 : x4_1 < (l0.length : Int) := of_decide_eq_true (by first | (with_reducible assumption) | assumption)
                        obtain ⟨ad183, A183_2, c183_2, e183, hx183_0, hx183_1, hx183_2, hl183_2, hi183_2⟩ := at_T32 HR0.out x4_1 p183 q183
                        have hw183_2 := hx183_2
                        have hw183_1 := hx183_1
                        have hw183_0 := hx183_0
                        obtain rfl : ad173 = ad183 := (by injection e183)
                        replace hx183_0 := (HB.out.cell (World.block_lt_of_cell? w _ hx183_0)).trans hx183_0
                        replace hx183_1 := (HB.out.cell (World.block_lt_of_cell? w _ hx183_1)).trans hx183_1
                        replace hx183_2 := (HB.out.cell (World.block_lt_of_cell? w _ hx183_2)).trans hx183_2
                        have HR183_2 := Aside0.mk hi183_2
                        have HC183_2 := Aside0.mk hl183_2
                        clear hi183_2 hl183_2
                        replace p183 := eq_true p183
                        replace q183 := eq_true q183
                        have ea_ := Option.some.inj (hx182_2.symm.trans hx183_2)
                        injection ea_ with ea_ en_ ec_
                        subst ea_
                        subst ec_
                        clear en_
                        have p187 : 0 ≤ (x4_1 : Int) := of_decide_eq_true (by first | (with_reducible assumption) | assumption)
                        have q187 : x4_1 < (l0.length : Int) := of_decide_eq_true (by first | (with_reducible assumption) | assumption)
                        obtain ⟨ad187, A187_2, c187_2, e187, hx187_0, hx187_1, hx187_2, hl187_2, hi187_2⟩ := at_T32 HR0.out x4_1 p187 q187
                        have hw187_2 := hx187_2
                        have hw187_1 := hx187_1
                        have hw187_0 := hx187_0
                        obtain rfl : ad173 = ad187 := (by injection e187)
                        replace hx187_0 := (HB.out.cell (World.block_lt_of_cell? w _ hx187_0)).trans hx187_0
                        replace hx187_1 := (HB.out.cell (World.block_lt_of_cell? w _ hx187_1)).trans hx187_1
                        replace hx187_2 := (HB.out.cell (World.block_lt_of_cell? w _ hx187_2)).trans hx187_2
                        have HR187_2 := Aside0.mk hi187_2
                        have HC187_2 := Aside0.mk hl187_2
                        clear hi187_2 hl187_2
                        replace p187 := eq_true p187
                        replace q187 := eq_true q187
                        have ea_ := Option.some.inj (hx182_2.symm.trans hx187_2)
                        injection ea_ with ea_ en_ ec_
                        subst ea_
                        subst ec_
                        clear en_
                        refine start_ (n := 22) (S := fun w' => w'.cell? (ad173.add ((x4_1).toNat * 3)) = some (.int .i64 ((rd_T32 l0 x4_1).f0)) ∧ w'.cell? ⟨(ad173.add ((x4_1).toNat * 3)).block, (ad173.add ((x4_1).toNat * 3)).off + 1, none⟩ = some (.int .i64 ((rd_T32 l0 x4_1).f1)) ∧ w'.cell? ⟨(ad173.add ((x4_1).toNat * 3)).block, (ad173.add ((x4_1).toNat * 3)).off + 2, none⟩ = some (.slice A182_2 ((rd_T32 l0 x4_1).f2).length c182_2) ∧ w'.cell? (ad173.add ((x4_1).toNat * 3)) = some (.int .i64 ((rd_T32 l0 x4_1).f0)) ∧ w'.cell? ⟨(ad173.add ((x4_1).toNat * 3)).block, (ad173.add ((x4_1).toNat * 3)).off + 1, none⟩ = some (.int .i64 ((rd_T32 l0 x4_1).f1)) ∧ w'.cell? ⟨(ad173.add ((x4_1).toNat * 3)).block, (ad173.add ((x4_1).toNat * 3)).off + 2, none⟩ = some (.slice A182_2 ((rd_T32 l0 x4_1).f2).length c182_2) ∧ w'.cell? (ad173.add ((x4_1).toNat * 3)) = some (.int .i64 ((rd_T32 l0 x4_1).f0)) ∧ w'.cell? ⟨(ad173.add ((x4_1).toNat * 3)).block, (ad173.add ((x4_1).toNat * 3)).off + 1, none⟩ = some (.int .i64 ((rd_T32 l0 x4_1).f1)) ∧ w'.cell? ⟨(ad173.add ((x4_1).toNat * 3)).block, (ad173.add ((x4_1).toNat * 3)).off + 2, none⟩ = some (.slice A182_2 ((rd_T32 l0 x4_1).f2).length c182_2)) (ds := []) #[false, false, false, false, false, false, false, false, false, false, false, false, false, false, false, false, false, false, false, false, false, false] (by kernel_rfl) rfl rfl ⟨((HB.out.cell (World.block_lt_of_cell? w _ hw182_0)).trans hw182_0), ((HB.out.cell (World.block_lt_of_cell? w _ hw182_1)).trans hw182_1), ((HB.out.cell (World.block_lt_of_cell? w _ hw182_2)).trans hw182_2), ((HB.out.cell (World.block_lt_of_cell? w _ hw183_0)).trans hw183_0), ((HB.out.cell (World.block_lt_of_cell? w _ hw183_1)).trans hw183_1), ((HB.out.cell (World.block_lt_of_cell? w _ hw183_2)).trans hw183_2), ((HB.out.cell (World.block_lt_of_cell? w _ hw187_0)).trans hw187_0), ((HB.out.cell (World.block_lt_of_cell? w _ hw187_1)).trans hw187_1), ((HB.out.cell (World.block_lt_of_cell? w _ hw187_2)).trans hw187_2)⟩ (fun hHeld => ?_); refine with_tabW cuecardref04_Merge.tab9 cuecardref04_Merge.bits9 (fun HT_ HW_ => ?_)
                        generalize w26.drew = w27 at HO_3 HL174_2 HR174_2 HB HR182_2 HR183_2 HR187_2 hx182_0 hx182_1 hx182_2 hx183_0 hx183_1 hx183_2 hx187_0 hx187_1 hx187_2 hHeld ⊢
                        refine pure_ (i := 0) (N := some 52) (v := ?_) (a' := ?_) #[true, false, false, false, false, false, false, false, false, false, false, false, false, false, false, false, false, false, false, false, false, false] rfl rfl (any_of HT_.out (by kernel_rfl)) (fun _ _ _ h => h) (Or.inl ⟨by rfl, ?_⟩) ?_ ?_
                        rotate_left
                        · intro w'
                          go_simp
                          with_reducible rfl
                        rotate_left
                        · simp only [Act.put, List.setIfInBounds_toArray, List.set_cons_zero, List.set_cons_succ, i64_w, i32_w]
                          rfl
                        refine pure_ (i := 1) (N := some 53) (v := ?_) (a' := ?_) #[true, true, false, false, false, false, false, false, false, false, false, false, false, false, false, false, false, false, false, false, false, false] rfl rfl (any_of HT_.out (by kernel_rfl)) (fun _ _ _ h => h) (Or.inl ⟨by rfl, ?_⟩) ?_ ?_
                        rotate_left
                        · intro w'
                          go_simp
                          with_reducible rfl
                        rotate_left
                        · simp only [Act.put, List.setIfInBounds_toArray, List.set_cons_zero, List.set_cons_succ, i64_w, i32_w]
                          rfl
                        refine pure_ (i := 2) (N := some 54) (v := ?_) (a' := ?_) #[true, true, true, false, false, false, false, false, false, false, false, false, false, false, false, false, false, false, false, false, false, false] rfl rfl (any_of HT_.out (by kernel_rfl)) (fun _ _ _ h => h) (Or.inl ⟨by rfl, ?_⟩) ?_ ?_
                        rotate_left
                        · intro w'
                          go_simp
                          with_reducible rfl
                        rotate_left
                        · simp only [Act.put, List.setIfInBounds_toArray, List.set_cons_zero, List.set_cons_succ, i64_w, i32_w]
                          rfl
                        refine pure_ (i := 3) (N := some 55) (v := ?_) (a' := ?_) #[true, true, true, true, false, false, false, false, false, false, false, false, false, false, false, false, false, false, false, false, false, false] rfl rfl (any_of HT_.out (by kernel_rfl)) (fun _ _ _ h => h) (Or.inl ⟨by rfl, ?_⟩) ?_ ?_
                        rotate_left
                        · intro w'
                          go_simp
                          with_reducible rfl
                        rotate_left
                        · simp only [Act.put, List.setIfInBounds_toArray, List.set_cons_zero, List.set_cons_succ, i64_w, i32_w]
                          rfl
                        refine pure_ (i := 4) (N := some 56) (v := ?_) (a' := ?_) #[true, true, true, true, true, false, false, false, false, false, false, false, false, false, false, false, false, false, false, false, false, false] rfl rfl (any_of HT_.out (by kernel_rfl)) (fun _ _ _ h => h) (Or.inl ⟨by rfl, ?_⟩) ?_ ?_
                        rotate_left
                        · intro w'
                          go_simp
                          with_reducible rfl
                        rotate_left
                        · simp only [Act.put, List.setIfInBounds_toArray, List.set_cons_zero, List.set_cons_succ, i64_w, i32_w]
                          rfl
                        refine pure_ (i := 6) (N := some 58) (v := ?_) (a' := ?_) #[true, true, true, true, true, false, true, false, false, false, false, false, false, false, false, false, false, false, false, false, false, false] rfl rfl (any_of HT_.out (by kernel_rfl)) (fun _ _ _ h => h) (Or.inl ⟨by rfl, ?_⟩) ?_ ?_
                        rotate_left
                        · intro w'
                          go_simp
                          with_reducible rfl
                        rotate_left
                        · simp only [Act.put, List.setIfInBounds_toArray, List.set_cons_zero, List.set_cons_succ, i64_w, i32_w]
                          rfl
                        refine pure_ (i := 7) (N := some 59) (v := ?_) (a' := ?_) #[true, true, true, true, true, false, true, true, false, false, false, false, false, false, false, false, false, false, false, false, false, false] rfl rfl (any_of HT_.out (by kernel_rfl)) (fun _ _ _ h => h) (Or.inl ⟨by rfl, ?_⟩) ?_ ?_
                        rotate_left
                        · intro w'
                          go_simp
                          with_reducible rfl
                        rotate_left
                        · simp only [Act.put, List.setIfInBounds_toArray, List.set_cons_zero, List.set_cons_succ, i64_w, i32_w]
                          rfl
                        refine pure_ (i := 8) (N := some 60) (v := ?_) (a' := ?_) #[true, true, true, true, true, false, true, true, true, false, false, false, false, false, false, false, false, false, false, false, false, false] rfl rfl (any_of HT_.out (by kernel_rfl)) (fun _ _ _ h => h) (Or.inl ⟨by rfl, ?_⟩) ?_ ?_
                        rotate_left
                        · intro w'
                          go_simp
                          with_reducible rfl
                        rotate_left
                        · simp only [Act.put, List.setIfInBounds_toArray, List.set_cons_zero, List.set_cons_succ, i64_w, i32_w]
                          rfl
                        refine pure_ (i := 9) (N := some 61) (v := ?_) (a' := ?_) #[true, true, true, true, true, false, true, true, true, true, false, false, false, false, false, false, false, false, false, false, false, false] rfl rfl (any_of HT_.out (by kernel_rfl)) (fun _ _ _ h => h) (Or.inl ⟨by rfl, ?_⟩) ?_ ?_
                        rotate_left
                        · intro w'
                          go_simp
                          with_reducible rfl
                        rotate_left
                        · simp only [Act.put, List.setIfInBounds_toArray, List.set_cons_zero, List.set_cons_succ, i64_w, i32_w]
                          rfl
                        refine pure_ (i := 12) (N := some 64) (v := ?_) (a' := ?_) #[true, true, true, true, true, false, true, true, true, true, false, false, true, false, false, false, false, false, false, false, false, false] rfl rfl (any_of HT_.out (by kernel_rfl)) (fun _ _ _ h => h) (Or.inl ⟨by rfl, ?_⟩) ?_ ?_
                        rotate_left
                        · intro w'
                          go_simp
                          with_reducible rfl
                        rotate_left
                        · simp only [Act.put, List.setIfInBounds_toArray, List.set_cons_zero, List.set_cons_succ, i64_w, i32_w]
                          rfl
                        refine pure_ (i := 13) (N := some 65) (v := ?_) (a' := ?_) #[true, true, true, true, true, false, true, true, true, true, false, false, true, true, false, false, false, false, false, false, false, false] rfl rfl (any_of HT_.out (by kernel_rfl)) (fun _ _ _ h => h) (Or.inl ⟨by rfl, ?_⟩) ?_ ?_
                        rotate_left
                        · intro w'
                          go_simp
                          with_reducible rfl
                        rotate_left
                        · simp only [Act.put, List.setIfInBounds_toArray, List.set_cons_zero, List.set_cons_succ, i64_w, i32_w]
                          rfl
                        refine pure_ (i := 14) (N := some 66) (v := ?_) (a' := ?_) #[true, true, true, true, true, false, true, true, true, true, false, false, true, true, true, false, false, false, false, false, false, false] rfl rfl (any_of HT_.out (by kernel_rfl)) (fun _ _ _ h => h) (Or.inl ⟨by rfl, ?_⟩) ?_ ?_
                        rotate_left
                        · intro w'
                          go_simp
                          with_reducible rfl
                        rotate_left
                        · simp only [Act.put, List.setIfInBounds_toArray, List.set_cons_zero, List.set_cons_succ, i64_w, i32_w]
                          rfl
                        refine pure_ (i := 15) (N := some 67) (v := ?_) (a' := ?_) #[true, true, true, true, true, false, true, true, true, true, false, false, true, true, true, true, false, false, false, false, false, false] rfl rfl (any_of HT_.out (by kernel_rfl)) (fun _ _ _ h => h) (Or.inl ⟨by rfl, ?_⟩) ?_ ?_
                        rotate_left
                        · intro w'
                          go_simp
                          with_reducible rfl
                        rotate_left
                        · simp only [Act.put, List.setIfInBounds_toArray, List.set_cons_zero, List.set_cons_succ, i64_w, i32_w]
                          rfl
                        refine take_ (i := 5) (N := some 57) (v := ?_) (a' := ?_) #[true, true, true, true, true, true, true, true, true, true, false, false, true, true, true, true, false, false, false, false, false, false] rfl rfl (take_ofW HT_.out HW_.out (by kernel_rfl)) (fun _ _ _ h => h) (Or.inl ⟨by rfl, ?_⟩) hHeld ?_ ?_
                        rotate_left
                        · rintro w' ⟨s0, s1, s2, s3, s4, s5, s6, s7, s8⟩
                          go_simp
                          with_reducible rfl
                        rotate_left
                        · simp only [Act.put, List.setIfInBounds_toArray, List.set_cons_zero, List.set_cons_succ, i64_w, i32_w]
                          rfl
                        refine take_ (i := 10) (N := some 62) (v := ?_) (a' := ?_) #[true, true, true, true, true, true, true, true, true, true, true, false, true, true, true, true, false, false, false, false, false, false] rfl rfl (take_ofW HT_.out HW_.out (by kernel_rfl)) (fun _ _ _ h => h) (Or.inl ⟨by rfl, ?_⟩) hHeld ?_ ?_
                        rotate_left
                        · rintro w' ⟨s0, s1, s2, s3, s4, s5, s6, s7, s8⟩
                          go_simp
                          with_reducible rfl
                        rotate_left
                        · simp only [Act.put, List.setIfInBounds_toArray, List.set_cons_zero, List.set_cons_succ, i64_w, i32_w]
                          rfl
                        refine take_ (i := 16) (N := some 68) (v := ?_) (a' := ?_) #[true, true, true, true, true, true, true, true, true, true, true, false, true, true, true, true, true, false, false, false, false, false] rfl rfl (take_ofW HT_.out HW_.out (by kernel_rfl)) (fun _ _ _ h => h) (Or.inl ⟨by rfl, ?_⟩) hHeld ?_ ?_
                        rotate_left
                        · rintro w' ⟨s0, s1, s2, s3, s4, s5, s6, s7, s8⟩
                          go_simp
                          with_reducible rfl
                        rotate_left
                        · simp only [Act.put, List.setIfInBounds_toArray, List.set_cons_zero, List.set_cons_succ, i64_w, i32_w]
                          rfl
                        refine one_ (i := 11) (N := some 63) #[true, true, true, true, true, true, true, true, true, true, true, true, true, true, true, true, true, false, false, false, false, false] rfl rfl (one_of HT_.out (by kernel_rfl)) (by decide) (fun K hK => ?_)
                        refine Kd.R_lit_step (Kd.int .u8) _ 5 ?hg (N := 63) ?hd (xs := ([] : List Int)) (inner := []) (ok := fun _ => True) (okp := fun _ => True) ?hr ?hp (fun _ hk => hk) trivial (Below.refl _ _) (Nat.le_refl _) (by simp) ?_; (case hd => rfl); (case hg => rfl); (case hr => first | (go_simp; done) | (go_simp; rfl)); (case hp => exact (Reps.none _ _))
                        intro v185 w28 ho29 hb hg_ hnew_
                        clear hg_ hnew_
                        (first | rw [← Ny184.out] at ho29 | (simp only [Int.reduceToNat] at ho29; rw [← Ny184.out] at ho29))
                        have n0_ := Aside0.mk (Kd.S_elder' (by (with_reducible repeat (first | apply Kd.S_alloc | apply Kd.S_drewN | apply Kd.S_drew)); exact HO_3.out) (Kd.R_base ho29) hb)
                        have n1_ := Aside0.mk (Kd.R_elder' (by (with_reducible repeat (first | apply Kd.R_alloc | apply Kd.R_drewN | apply Kd.R_drew)); exact HL174_2.out) (Kd.R_base ho29) hb)
                        have n2_ := Aside0.mk (Kd.R_lower (Kd.R_new' ho29 (Kd.R_lt (by (with_reducible repeat (first | apply Kd.R_alloc | apply Kd.R_drewN | apply Kd.R_drew)); exact HL174_2.out))) (below_size (by repeat (first | (with_reducible first | exact HB.out | apply below_alloc | apply pw_below_drewN | apply below_drew1) | exact HB.out))))
                        have n3_ := Aside0.mk (Kd.C_below (by repeat (first | (with_reducible exact HR174_2.out) | (with_reducible refine Kd.C_alloc ?_ _) | (with_reducible refine Kd.C_drewN ?_ _) | (with_reducible refine Kd.C_drew ?_) | exact HR174_2.out)) hb)
                        have n4_ := Aside0.mk (below_step (by repeat (first | (with_reducible first | exact HB.out | apply below_alloc | apply pw_below_drewN | apply below_drew1) | exact HB.out)) hb)
                        clear HO_3
                        clear HL174_2
                        clear HR174_2
                        clear HB
                        have HO_3 := n0_
                        have HL174_2 := n1_
                        have HO186 := n2_
                        have HR174_2 := n3_
                        have HB := n4_
                        clear n0_ n1_ n2_ n3_ n4_
                        clear hb ho29
                        refine hK.out _ _ ⟨((HB.out.cell (World.block_lt_of_cell? w _ hw182_0)).trans hw182_0), ((HB.out.cell (World.block_lt_of_cell? w _ hw182_1)).trans hw182_1), ((HB.out.cell (World.block_lt_of_cell? w _ hw182_2)).trans hw182_2), ((HB.out.cell (World.block_lt_of_cell? w _ hw183_0)).trans hw183_0), ((HB.out.cell (World.block_lt_of_cell? w _ hw183_1)).trans hw183_1), ((HB.out.cell (World.block_lt_of_cell? w _ hw183_2)).trans hw183_2), ((HB.out.cell (World.block_lt_of_cell? w _ hw187_0)).trans hw187_0), ((HB.out.cell (World.block_lt_of_cell? w _ hw187_1)).trans hw187_1), ((HB.out.cell (World.block_lt_of_cell? w _ hw187_2)).trans hw187_2)⟩ (fun hHeld => ?_)
                        clear hK K
                        refine norm_ (a' := ?_) ?_ ?_
                        rotate_left
                        · show Act.put _ (some 63) _ = _
                          simp only [Act.put, List.setIfInBounds_toArray, List.set_cons_zero, List.set_cons_succ, i64_w, i32_w]
                          rfl
                        refine one_ (i := 17) (N := some 69) #[true, true, true, true, true, true, true, true, true, true, true, true, true, true, true, true, true, true, false, false, false, false] rfl rfl (one_of HT_.out (by kernel_rfl)) (by decide) (fun K hK => ?_)
                        refine Kd.R_append_rows_step (Kd.int .u8) (w0 := w) w.heap.size (by rfl) (.tmp 63) (.tmp 68) 26 5 (.int .u8 0) 1 rfl Try.underlying26 info5 rfl (by decide) (by omega) v185 y184 ((rd_T32 l0 x4_1).f2) _ _ _ (fun k_ => some k_ ≠ (.slice A174_2 ((rd_T32 x3_1 (ji6)).f2).length c174_2 : Value).ownBlock) (fun _ => False) rfl rfl ?aO ?aR (fun _ _ h => h) (fun _ h => h.elim) ?aF ?aB ?aS ?aL ?_
                        (case aR => repeat (first | exact (Kd.C_below HR187_2.out HB.out) | (with_reducible refine Kd.C_alloc ?_ _) | (with_reducible refine Kd.C_drewN ?_ _) | (with_reducible refine Kd.C_drew ?_)))
                        (case aB => exact (by repeat (first | (with_reducible first | exact HB.out | apply below_alloc | apply pw_below_drewN | apply below_drew1) | exact HB.out)))
                        (case aF => exact (fun k_ hk => Kd.fresh' (Kd.R_lt (by (with_reducible repeat (first | apply Kd.R_alloc | apply Kd.R_drewN | apply Kd.R_drew)); exact HL174_2.out)) k_ hk))
                        (case aO => exact (by (with_reducible repeat (first | apply Kd.R_alloc | apply Kd.R_drewN | apply Kd.R_drew)); exact Kd.R_mono HO186.out (fun _ hk => hk.2)))
                        (case aS => exact (below_size (by repeat (first | (with_reducible first | exact HB.out | apply below_alloc | apply pw_below_drewN | apply below_drew1) | exact HB.out))))
                        (case aL => have := LMc23.out; omega)
                        intro v189 w30 ho hb hg hat
                        rw [← Ny188.out] at ho
                        have n0_ := Aside0.mk (Kd.S_after (ok := (fun _ => True)) (by (with_reducible repeat (first | apply Kd.S_alloc | apply Kd.S_drewN | apply Kd.S_drew)); exact HO_3.out) hg hat)
                        have n1_ := Aside0.mk (Kd.R_after (ok := (fun k_ => some k_ ≠ (.slice (some ad174) x3_1.length co25 : Value).ownBlock)) (by (with_reducible repeat (first | apply Kd.R_alloc | apply Kd.R_drewN | apply Kd.R_drew)); exact Kd.R_mono HL174_2.out (fun _ hk => ⟨hk.1.2, hk.2⟩)) hg hat)
                        have n2_ := Aside0.mk (hb)
                        have n3_ := Aside0.mk (ho)
                        clear HO_3
                        clear HL174_2
                        clear HB
                        clear HO186
                        have HO_3 := n0_
                        have HL174_2 := n1_
                        have HB := n2_
                        have HO190 := n3_
                        clear n0_ n1_ n2_ n3_
                        clear ho hb hg hat
                        obtain ⟨Ao31, co31, eo31⟩ := Kd.R_slice HO190.out
                        (first | subst eo31 | (injection eo31 with f1_ f2_ f3_; have f4_ := f1_.symm; have f5_ := f3_.symm; clear f1_ f2_ f3_; subst f4_; subst f5_))
                        refine hK.out _ _ ⟨((HB.out.cell (World.block_lt_of_cell? w _ hw182_0)).trans hw182_0), ((HB.out.cell (World.block_lt_of_cell? w _ hw182_1)).trans hw182_1), ((HB.out.cell (World.block_lt_of_cell? w _ hw182_2)).trans hw182_2), ((HB.out.cell (World.block_lt_of_cell? w _ hw183_0)).trans hw183_0), ((HB.out.cell (World.block_lt_of_cell? w _ hw183_1)).trans hw183_1), ((HB.out.cell (World.block_lt_of_cell? w _ hw183_2)).trans hw183_2), ((HB.out.cell (World.block_lt_of_cell? w _ hw187_0)).trans hw187_0), ((HB.out.cell (World.block_lt_of_cell? w _ hw187_1)).trans hw187_1), ((HB.out.cell (World.block_lt_of_cell? w _ hw187_2)).trans hw187_2)⟩ (fun hHeld => ?_)
                        clear hK K
                        refine norm_ (a' := ?_) ?_ ?_
                        rotate_left
                        · show Act.put _ (some 69) _ = _
                          simp only [Act.put, List.setIfInBounds_toArray, List.set_cons_zero, List.set_cons_succ, i64_w, i32_w]
                          rfl
                        refine pure_ (i := 18) (N := some 70) (v := ?_) (a' := ?_) #[true, true, true, true, true, true, true, true, true, true, true, true, true, true, true, true, true, true, true, false, false, false] rfl rfl (any_of HT_.out (by kernel_rfl)) (fun _ _ _ h => h) (Or.inl ⟨by rfl, ?_⟩) ?_ ?_
                        rotate_left
                        · intro w'
                          go_simp
                          with_reducible rfl
                        rotate_left
                        · simp only [Act.put, List.setIfInBounds_toArray, List.set_cons_zero, List.set_cons_succ, i64_w, i32_w]
                          rfl
                        refine one_ (i := 19) (N := some 71) #[true, true, true, true, true, true, true, true, true, true, true, true, true, true, true, true, true, true, true, true, false, false] rfl rfl (one_of HT_.out (by kernel_rfl)) (by decide) (fun K hK => ?_)
                        refine value_ (w1 := ?_) (v := ?_) (by rfl) rfl ?_ ?_
                        rotate_left 2
                        · go_simp
                          constructor
                          · rfl
                          · rfl
                        refine hK.out _ _ ⟨(World.cell?_alloc_lt _ _ _ (World.block_lt_of_cell? _ _ (((HB.out.cell (World.block_lt_of_cell? w _ hw182_0)).trans hw182_0)))).trans (((HB.out.cell (World.block_lt_of_cell? w _ hw182_0)).trans hw182_0)), (World.cell?_alloc_lt _ _ _ (World.block_lt_of_cell? _ _ (((HB.out.cell (World.block_lt_of_cell? w _ hw182_1)).trans hw182_1)))).trans (((HB.out.cell (World.block_lt_of_cell? w _ hw182_1)).trans hw182_1)), (World.cell?_alloc_lt _ _ _ (World.block_lt_of_cell? _ _ (((HB.out.cell (World.block_lt_of_cell? w _ hw182_2)).trans hw182_2)))).trans (((HB.out.cell (World.block_lt_of_cell? w _ hw182_2)).trans hw182_2)), (World.cell?_alloc_lt _ _ _ (World.block_lt_of_cell? _ _ (((HB.out.cell (World.block_lt_of_cell? w _ hw183_0)).trans hw183_0)))).trans (((HB.out.cell (World.block_lt_of_cell? w _ hw183_0)).trans hw183_0)), (World.cell?_alloc_lt _ _ _ (World.block_lt_of_cell? _ _ (((HB.out.cell (World.block_lt_of_cell? w _ hw183_1)).trans hw183_1)))).trans (((HB.out.cell (World.block_lt_of_cell? w _ hw183_1)).trans hw183_1)), (World.cell?_alloc_lt _ _ _ (World.block_lt_of_cell? _ _ (((HB.out.cell (World.block_lt_of_cell? w _ hw183_2)).trans hw183_2)))).trans (((HB.out.cell (World.block_lt_of_cell? w _ hw183_2)).trans hw183_2)), (World.cell?_alloc_lt _ _ _ (World.block_lt_of_cell? _ _ (((HB.out.cell (World.block_lt_of_cell? w _ hw187_0)).trans hw187_0)))).trans (((HB.out.cell (World.block_lt_of_cell? w _ hw187_0)).trans hw187_0)), (World.cell?_alloc_lt _ _ _ (World.block_lt_of_cell? _ _ (((HB.out.cell (World.block_lt_of_cell? w _ hw187_1)).trans hw187_1)))).trans (((HB.out.cell (World.block_lt_of_cell? w _ hw187_1)).trans hw187_1)), (World.cell?_alloc_lt _ _ _ (World.block_lt_of_cell? _ _ (((HB.out.cell (World.block_lt_of_cell? w _ hw187_2)).trans hw187_2)))).trans (((HB.out.cell (World.block_lt_of_cell? w _ hw187_2)).trans hw187_2))⟩ (fun hHeld => ?_)
                        clear hK K
                        refine norm_ (a' := ?_) ?_ ?_
                        rotate_left
                        · show Act.put _ (some 71) _ = _
                          simp only [Act.put, List.setIfInBounds_toArray, List.set_cons_zero, List.set_cons_succ, i64_w, i32_w]
                          rfl
                        refine one_ (i := 20) (N := some 72) #[true, true, true, true, true, true, true, true, true, true, true, true, true, true, true, true, true, true, true, true, true, false] rfl rfl (one_of HT_.out (by kernel_rfl)) (by decide) (fun K hK => ?_)
                        refine Kd.S_append_step k32 (w0 := w) w.heap.size (by rfl) (.tmp 52) (.tmp 71) 22 32 (.agg #[(.int .i64 0), (.int .i64 0), (.slice none 0 0)]) 40 rfl Try.underlying22 info32 rfl (by decide) (by omega) (.slice (some ad174) x3_1.length co25) x3_1 (⟨(rd_T32 l0 x4_1).f0, (rd_T32 l0 x4_1).f1, y188⟩ : S32) [.int .i64 ((rd_T32 l0 x4_1).f0), .int .i64 ((rd_T32 l0 x4_1).f1), .slice Ao31 y188.length co31] (fun _ => True) (fun k_ => some k_ = (.slice Ao31 y188.length co31 : Value).ownBlock) rfl rfl ?aP (fun k_ hk_ => ((Kd.R_mono (ok' := fun k_ => ((fun _ => True)) k_ ∧ some k_ ≠ (.slice (some ad174) x3_1.length co25 : Value).ownBlock) (Kd.R_apart' (HO190.out) (Kd.S_typed HO_3.out) (by decide)) (fun k_ hk => ⟨trivial, hk.2⟩))).1 k_ hk_.symm) ?aF ?aO ?aB ?aS ?aL ?_
                        (case aP => exact k32_mkM _ _ _ (⟨(rd_T32 l0 x4_1).f0, (rd_T32 l0 x4_1).f1, y188⟩ : S32) (Kd.R_mono (Kd.R_tight rfl (Kd.R_mono (ok' := fun k_ => ((fun _ => True)) k_ ∧ some k_ ≠ (.slice (some ad174) x3_1.length co25 : Value).ownBlock) (Kd.R_apart' (HO190.out) (Kd.S_typed HO_3.out) (by decide)) (fun k_ hk => ⟨trivial, hk.2⟩))) (fun _ h_ => h_)))
                        (case aB => exact (by repeat (first | (with_reducible first | exact HB.out | apply below_alloc | apply pw_below_drewN | apply below_drew1) | exact HB.out)))
                        (case aF => exact (fun _ _ => trivial))
                        (case aO => exact (by (with_reducible repeat (first | apply Kd.S_alloc | apply Kd.S_drewN | apply Kd.S_drew)); exact Kd.S_mono HO_3.out (fun k_ hk => ⟨trivial, fun e_ => hk.2 e_⟩)))
                        (case aS => exact (below_size (by repeat (first | (with_reducible first | exact HB.out | apply below_alloc | apply pw_below_drewN | apply below_drew1) | exact HB.out))))
                        (case aL => have := LMc24.out; omega)
                        intro v192 w32 ho hb hg hat
                        rw [← Ny191.out] at ho
                        have n0_ := Aside0.mk (Kd.R_after (ok := (fun k_ => some k_ ≠ (.slice Ao31 y188.length co31 : Value).ownBlock)) (by (with_reducible repeat (first | apply Kd.R_alloc | apply Kd.R_drewN | apply Kd.R_drew)); exact Kd.R_mono HL174_2.out (fun _ hk => ⟨hk.2, hk.1⟩)) hg hat)
                        have n1_ := Aside0.mk (hb)
                        have n2_ := Aside0.mk (ho)
                        clear HL174_2
                        clear HB
                        clear HO_3
                        clear HO190
                        have HL174_2 := n0_
                        have HB := n1_
                        have HO193 := n2_
                        clear n0_ n1_ n2_
                        clear ho hb hg hat
                        refine hK.out _ _ ⟨((HB.out.cell (World.block_lt_of_cell? w _ hw182_0)).trans hw182_0), ((HB.out.cell (World.block_lt_of_cell? w _ hw182_1)).trans hw182_1), ((HB.out.cell (World.block_lt_of_cell? w _ hw182_2)).trans hw182_2), ((HB.out.cell (World.block_lt_of_cell? w _ hw183_0)).trans hw183_0), ((HB.out.cell (World.block_lt_of_cell? w _ hw183_1)).trans hw183_1), ((HB.out.cell (World.block_lt_of_cell? w _ hw183_2)).trans hw183_2), ((HB.out.cell (World.block_lt_of_cell? w _ hw187_0)).trans hw187_0), ((HB.out.cell (World.block_lt_of_cell? w _ hw187_1)).trans hw187_1), ((HB.out.cell (World.block_lt_of_cell? w _ hw187_2)).trans hw187_2)⟩ (fun hHeld => ?_)
                        clear hK K
                        refine norm_ (a' := ?_) ?_ ?_
                        rotate_left
                        · show Act.put _ (some 72) _ = _
                          simp only [Act.put, List.setIfInBounds_toArray, List.set_cons_zero, List.set_cons_succ, i64_w, i32_w]
                          rfl
                        refine pure_ (i := 21) (N := some 3) (v := ?_) (a' := ?_) #[true, true, true, true, true, true, true, true, true, true, true, true, true, true, true, true, true, true, true, true, true, true] rfl rfl (any_of HT_.out (by kernel_rfl)) (fun _ _ _ h => h) (Or.inl ⟨by rfl, ?_⟩) ?_ ?_
                        rotate_left
                        · intro w'
                          go_simp
                          with_reducible rfl
                        rotate_left
                        · simp only [Act.put, List.setIfInBounds_toArray, List.set_cons_zero, List.set_cons_succ, i64_w, i32_w]
                          rfl
                        refine done_ (done_of HT_.out (by kernel_rfl)) ?_
                        (try (have iw35 : IntKind.i64.wrap ((x3_1.length : Int) - 1) = wrap64 ((x3_1.length : Int) - 1) := i64_w _))
                        try go_wp2
                        go_roundg k1
                        case measure => have := HK1.out; omega
                        case rel => exact ⟨(y191), (wrap64 (x4_1 + 1)), (by first | rfl | (simp; done) | (simp [*]; done)), H', ⟨by have := HK1.out; omega⟩, ⟨by (with_reducible repeat (first | apply Kd.S_alloc | apply Kd.S_drewN | apply Kd.S_drew)); exact HO193.out⟩, ⟨by repeat (first | (with_reducible first | exact HB.out | apply below_alloc | apply pw_below_drewN | apply below_drew1) | exact HB.out)⟩⟩
                      · rw [if_neg c24] at H
                        exact absurd H (by simp)
                    · rw [if_neg c23] at H
                      exact absurd H (by simp)
                · rw [if_neg c8] at H
                  exact absurd H (by simp)
              · rw [if_neg c7] at H
                exact absurd H (by simp)
            · rw [if_neg c5] at H
              have c5b0 : decide (0 ≤ (wrap64 ((x3_1.length : Int) - 1))) = false := decide_eq_false c5
              clear c5
              obtain ⟨y196, hy196⟩ : ∃ y_ : List Int, y_ = (([] : List Int)) := ⟨_, rfl⟩
              replace H : (if y196.length + ((rd_T32 l0 x4_1).f2).length < 140737488355328 then (if x3_1.length < 3518437208883 then (cuecardref04_Merge.l0 k1 l0 (x3_1 ++ [(⟨(rd_T32 l0 x4_1).f0, (rd_T32 l0 x4_1).f1, (y196 ++ ((rd_T32 l0 x4_1).f2))⟩ : S32)]) (wrap64 (x4_1 + 1))) else (none)) else (none)) = some r := by first | (rw [hy196]; with_reducible exact H) | (have H2_ := (Option.bind_some _ _).symm.trans H; rw [hy196]; with_reducible exact H2_) | (have H2_ := (Option.bind_some _ _).symm.trans H; with_reducible exact H2_) | with_reducible exact H | (rw [hy196]; exact H) | exact H
              have Ny196 := Aside0.mk hy196
              clear hy196
              by_cases c36 : y196.length + ((rd_T32 l0 x4_1).f2).length < 140737488355328
              · rw [if_pos c36] at H
                have LMc36 := Aside0.mk c36
                clear c36
                obtain ⟨y200, hy200⟩ : ∃ y_ : List Int, y_ = (y196 ++ ((rd_T32 l0 x4_1).f2)) := ⟨_, rfl⟩
                replace H : (if x3_1.length < 3518437208883 then (cuecardref04_Merge.l0 k1 l0 (x3_1 ++ [(⟨(rd_T32 l0 x4_1).f0, (rd_T32 l0 x4_1).f1, y200⟩ : S32)]) (wrap64 (x4_1 + 1))) else (none)) = some r := by first | (rw [hy200]; with_reducible exact H) | (have H2_ := (Option.bind_some _ _).symm.trans H; rw [hy200]; with_reducible exact H2_) | (have H2_ := (Option.bind_some _ _).symm.trans H; with_reducible exact H2_) | with_reducible exact H | (rw [hy200]; exact H) | exact H
                have Ny200 := Aside0.mk hy200
                clear hy200
                by_cases c37 : x3_1.length < 3518437208883
                · rw [if_pos c37] at H
                  have LMc37 := Aside0.mk c37
                  clear c37
                  obtain ⟨y203, hy203⟩ : ∃ y_ : List (S32), y_ = (x3_1 ++ [(⟨(rd_T32 l0 x4_1).f0, (rd_T32 l0 x4_1).f1, y200⟩ : S32)]) := ⟨_, rfl⟩
                  replace H : (cuecardref04_Merge.l0 k1 l0 y203 (wrap64 (x4_1 + 1))) = some r := by first | (rw [hy203]; with_reducible exact H) | (have H2_ := (Option.bind_some _ _).symm.trans H; rw [hy203]; with_reducible exact H2_) | (have H2_ := (Option.bind_some _ _).symm.trans H; with_reducible exact H2_) | with_reducible exact H | (rw [hy203]; exact H) | exact H
                  have Ny203 := Aside0.mk hy203
                  clear hy203
                  have H' := Aside0.mk H
                  clear H
                  have p173 : 0 ≤ (x4_1 : Int) := of_decide_eq_true (by first | (with_reducible assumption) | assumption)
                  have q173 : x4_1 < (l0.length : Int) := of_decide_eq_true (by first | (with_reducible assumption) | assumption)
                  obtain ⟨ad173, A173_2, c173_2, e173, hx173_0, hx173_1, hx173_2, hl173_2, hi173_2⟩ := at_T32 HR0.out x4_1 p173 q173
                  cases e173
                  replace hx173_0 := (HB.out.cell (World.block_lt_of_cell? w _ hx173_0)).trans hx173_0
                  replace hx173_1 := (HB.out.cell (World.block_lt_of_cell? w _ hx173_1)).trans hx173_1
                  replace hx173_2 := (HB.out.cell (World.block_lt_of_cell? w _ hx173_2)).trans hx173_2
                  have HR173_2 := Aside0.mk hi173_2
                  have HC173_2 := Aside0.mk hl173_2
                  clear hi173_2 hl173_2
                  replace p173 := eq_true p173
                  replace q173 := eq_true q173
                  obtain ⟨Ao38, co38, eo38⟩ := Kd.S_slice HO_3.out
                  subst eo38
                  (try (have iw46 : IntKind.i64.wrap ((x3_1.length : Int) - 1) = wrap64 ((x3_1.length : Int) - 1) := i64_w _))
                  try go_wp2
                  have n0_ := Aside0.mk (Kd.S_drew HO_3.out)
                  have n1_ := Aside0.mk (below_drew1 HB.out)
                  clear HO_3
                  clear HB
                  have HO_3 := n0_
                  have HB := n1_
                  clear n0_ n1_
                  refine start_ (n := 15) (S := fun w' => True) (ds := []) #[false, false, false, false, false, false, false, false, false, false, false, false, false, false, false] (by kernel_rfl) rfl rfl trivial (fun hHeld => ?_); refine with_tabW cuecardref04_Merge.tab7 cuecardref04_Merge.bits7 (fun HT_ HW_ => ?_)
                  generalize wr.drew = w39 at HO_3 HB hHeld ⊢
                  refine pure_ (i := 0) (N := some 22) (v := ?_) (a' := ?_) #[true, false, false, false, false, false, false, false, false, false, false, false, false, false, false] rfl rfl (any_of HT_.out (by kernel_rfl)) (fun _ _ _ h => h) (Or.inl ⟨by rfl, ?_⟩) ?_ ?_
                  rotate_left
                  · intro w'
                    go_simp
                    with_reducible rfl
                  rotate_left
                  · simp only [Act.put, List.setIfInBounds_toArray, List.set_cons_zero, List.set_cons_succ, i64_w, i32_w]
                    rfl
                  refine pure_ (i := 1) (N := some 23) (v := ?_) (a' := ?_) #[true, true, false, false, false, false, false, false, false, false, false, false, false, false, false] rfl rfl (any_of HT_.out (by kernel_rfl)) (fun _ _ _ h => h) (Or.inl ⟨by rfl, ?_⟩) ?_ ?_
                  rotate_left
                  · intro w'
                    go_simp
                    with_reducible rfl
                  rotate_left
                  · simp only [Act.put, List.setIfInBounds_toArray, List.set_cons_zero, List.set_cons_succ, i64_w, i32_w]
                    rfl
                  refine pure_ (i := 2) (N := some 24) (v := ?_) (a' := ?_) #[true, true, true, false, false, false, false, false, false, false, false, false, false, false, false] rfl rfl (any_of HT_.out (by kernel_rfl)) (fun _ _ _ h => h) (Or.inl ⟨by rfl, ?_⟩) ?_ ?_
                  rotate_left
                  · intro w'
                    go_simp
                    with_reducible rfl
                  rotate_left
                  · simp only [Act.put, List.setIfInBounds_toArray, List.set_cons_zero, List.set_cons_succ, i64_w, i32_w]
                    rfl
                  refine pure_ (i := 3) (N := some 25) (v := undef) (a' := ?_) #[true, true, true, true, false, false, false, false, false, false, false, false, false, false, false] rfl rfl (any_of HT_.out (by kernel_rfl)) (fun _ _ _ h => h) (Or.inr ⟨by rfl, rfl⟩) ?_ ?_
                  rotate_left
                  · simp only [Act.put, List.setIfInBounds_toArray, List.set_cons_zero, List.set_cons_succ, i64_w, i32_w]
                    rfl
                  refine pure_ (i := 4) (N := some 26) (v := undef) (a' := ?_) #[true, true, true, true, true, false, false, false, false, false, false, false, false, false, false] rfl rfl (any_of HT_.out (by kernel_rfl)) (fun _ _ _ h => h) (Or.inr ⟨by rfl, rfl⟩) ?_ ?_
                  rotate_left
                  · simp only [Act.put, List.setIfInBounds_toArray, List.set_cons_zero, List.set_cons_succ, i64_w, i32_w]
                    rfl
                  refine pure_ (i := 5) (N := some 27) (v := undef) (a' := ?_) #[true, true, true, true, true, true, false, false, false, false, false, false, false, false, false] rfl rfl (any_of HT_.out (by kernel_rfl)) (fun _ _ _ h => h) (Or.inr ⟨by rfl, rfl⟩) ?_ ?_
                  rotate_left
                  · simp only [Act.put, List.setIfInBounds_toArray, List.set_cons_zero, List.set_cons_succ, i64_w, i32_w]
                    rfl
                  refine pure_ (i := 6) (N := some 28) (v := undef) (a' := ?_) #[true, true, true, true, true, true, true, false, false, false, false, false, false, false, false] rfl rfl (any_of HT_.out (by kernel_rfl)) (fun _ _ _ h => h) (Or.inr ⟨by rfl, rfl⟩) ?_ ?_
                  rotate_left
                  · simp only [Act.put, List.setIfInBounds_toArray, List.set_cons_zero, List.set_cons_succ, i64_w, i32_w]
                    rfl
                  refine pure_ (i := 7) (N := some 29) (v := undef) (a' := ?_) #[true, true, true, true, true, true, true, true, false, false, false, false, false, false, false] rfl rfl (any_of HT_.out (by kernel_rfl)) (fun _ _ _ h => h) (Or.inr ⟨by rfl, rfl⟩) ?_ ?_
                  rotate_left
                  · simp only [Act.put, List.setIfInBounds_toArray, List.set_cons_zero, List.set_cons_succ, i64_w, i32_w]
                    rfl
                  refine pure_ (i := 8) (N := some 30) (v := undef) (a' := ?_) #[true, true, true, true, true, true, true, true, true, false, false, false, false, false, false] rfl rfl (any_of HT_.out (by kernel_rfl)) (fun _ _ _ h => h) (Or.inr ⟨by rfl, rfl⟩) ?_ ?_
                  rotate_left
                  · simp only [Act.put, List.setIfInBounds_toArray, List.set_cons_zero, List.set_cons_succ, i64_w, i32_w]
                    rfl
                  refine pure_ (i := 9) (N := some 31) (v := undef) (a' := ?_) #[true, true, true, true, true, true, true, true, true, true, false, false, false, false, false] rfl rfl (any_of HT_.out (by kernel_rfl)) (fun _ _ _ h => h) (Or.inr ⟨by rfl, rfl⟩) ?_ ?_
                  rotate_left
                  · simp only [Act.put, List.setIfInBounds_toArray, List.set_cons_zero, List.set_cons_succ, i64_w, i32_w]
                    rfl
                  refine pure_ (i := 10) (N := some 32) (v := undef) (a' := ?_) #[true, true, true, true, true, true, true, true, true, true, true, false, false, false, false] rfl rfl (any_of HT_.out (by kernel_rfl)) (fun _ _ _ h => h) (Or.inr ⟨by rfl, rfl⟩) ?_ ?_
                  rotate_left
                  · simp only [Act.put, List.setIfInBounds_toArray, List.set_cons_zero, List.set_cons_succ, i64_w, i32_w]
                    rfl
                  refine pure_ (i := 11) (N := some 33) (v := undef) (a' := ?_) #[true, true, true, true, true, true, true, true, true, true, true, true, false, false, false] rfl rfl (any_of HT_.out (by kernel_rfl)) (fun _ _ _ h => h) (Or.inr ⟨by rfl, rfl⟩) ?_ ?_
                  rotate_left
                  · simp only [Act.put, List.setIfInBounds_toArray, List.set_cons_zero, List.set_cons_succ, i64_w, i32_w]
                    rfl
                  refine pure_ (i := 12) (N := some 34) (v := undef) (a' := ?_) #[true, true, true, true, true, true, true, true, true, true, true, true, true, false, false] rfl rfl (any_of HT_.out (by kernel_rfl)) (fun _ _ _ h => h) (Or.inr ⟨by rfl, rfl⟩) ?_ ?_
                  rotate_left
                  · simp only [Act.put, List.setIfInBounds_toArray, List.set_cons_zero, List.set_cons_succ, i64_w, i32_w]
                    rfl
                  refine pure_ (i := 13) (N := some 35) (v := undef) (a' := ?_) #[true, true, true, true, true, true, true, true, true, true, true, true, true, true, false] rfl rfl (any_of HT_.out (by kernel_rfl)) (fun _ _ _ h => h) (Or.inr ⟨by rfl, rfl⟩) ?_ ?_
                  rotate_left
                  · simp only [Act.put, List.setIfInBounds_toArray, List.set_cons_zero, List.set_cons_succ, i64_w, i32_w]
                    rfl
                  refine pure_ (i := 14) (N := some 36) (v := ?_) (a' := ?_) #[true, true, true, true, true, true, true, true, true, true, true, true, true, true, true] rfl rfl (any_of HT_.out (by kernel_rfl)) (fun _ _ _ h => h) (Or.inl ⟨by rfl, ?_⟩) ?_ ?_
                  rotate_left
                  · intro w'
                    go_simp
                    with_reducible rfl
                  rotate_left
                  · simp only [Act.put, List.setIfInBounds_toArray, List.set_cons_zero, List.set_cons_succ, i64_w, i32_w]
                    rfl
                  refine done_ (done_of HT_.out (by kernel_rfl)) ?_
                  (try (have iw47 : IntKind.i64.wrap ((x3_1.length : Int) - 1) = wrap64 ((x3_1.length : Int) - 1) := i64_w _))
                  try go_wp2
                  have n0_ := Aside0.mk (Kd.S_drew HO_3.out)
                  have n1_ := Aside0.mk (below_drew1 HB.out)
                  clear HO_3
                  clear HB
                  have HO_3 := n0_
                  have HB := n1_
                  clear n0_ n1_
                  have p194 : 0 ≤ (x4_1 : Int) := of_decide_eq_true (by first | (with_reducible assumption) | assumption)
                  have q194 : x4_1 < (l0.length : Int) := of_decide_eq_true (by first | (with_reducible assumption) | assumption)
                  obtain ⟨ad194, A194_2, c194_2, e194, hx194_0, hx194_1, hx194_2, hl194_2, hi194_2⟩ := at_T32 HR0.out x4_1 p194 q194
                  have hw194_2 := hx194_2
                  have hw194_1 := hx194_1
                  have hw194_0 := hx194_0
                  obtain rfl : ad173 = ad194 := (by injection e194)
                  replace hx194_0 := (HB.out.cell (World.block_lt_of_cell? w _ hx194_0)).trans hx194_0
                  replace hx194_1 := (HB.out.cell (World.block_lt_of_cell? w _ hx194_1)).trans hx194_1
                  replace hx194_2 := (HB.out.cell (World.block_lt_of_cell? w _ hx194_2)).trans hx194_2
                  have HR194_2 := Aside0.mk hi194_2
                  have HC194_2 := Aside0.mk hl194_2
                  clear hi194_2 hl194_2
                  replace p194 := eq_true p194
                  replace q194 := eq_true q194
                  have p195 : 0 ≤ (x4_1 : Int) := of_decide_eq_true (by first | (with_reducible assumption) | assumption)
                  have q195 : x4_1 < (l0.length : Int) := of_decide_eq_true (by first | (with_reducible assumption) | assumption)
                  obtain ⟨ad195, A195_2, c195_2, e195, hx195_0, hx195_1, hx195_2, hl195_2, hi195_2⟩ := at_T32 HR0.out x4_1 p195 q195
                  have hw195_2 := hx195_2
                  have hw195_1 := hx195_1
                  have hw195_0 := hx195_0
                  obtain rfl : ad173 = ad195 := (by injection e195)
                  replace hx195_0 := (HB.out.cell (World.block_lt_of_cell? w _ hx195_0)).trans hx195_0
                  replace hx195_1 := (HB.out.cell (World.block_lt_of_cell? w _ hx195_1)).trans hx195_1
                  replace hx195_2 := (HB.out.cell (World.block_lt_of_cell? w _ hx195_2)).trans hx195_2
                  have HR195_2 := Aside0.mk hi195_2
                  have HC195_2 := Aside0.mk hl195_2
                  clear hi195_2 hl195_2
                  replace p195 := eq_true p195
                  replace q195 := eq_true q195
                  have ea_ := Option.some.inj (hx194_2.symm.trans hx195_2)
                  injection ea_ with ea_ en_ ec_
                  subst ea_
                  subst ec_
                  clear en_
                  have p199 : 0 ≤ (x4_1 : Int) := of_decide_eq_true (by first | (with_reducible assumption) | assumption)
                  have q199 : x4_1 < (l0.length : Int) := of_decide_eq_true (by first | (with_reducible assumption) | assumption)
                  obtain ⟨ad199, A199_2, c199_2, e199, hx199_0, hx199_1, hx199_2, hl199_2, hi199_2⟩ := at_T32 HR0.out x4_1 p199 q199
                  have hw199_2 := hx199_2
                  have hw199_1 := hx199_1
                  have hw199_0 := hx199_0
                  obtain rfl : ad173 = ad199 := (by injection e199)
                  replace hx199_0 := (HB.out.cell (World.block_lt_of_cell? w _ hx199_0)).trans hx199_0
                  replace hx199_1 := (HB.out.cell (World.block_lt_of_cell? w _ hx199_1)).trans hx199_1
                  replace hx199_2 := (HB.out.cell (World.block_lt_of_cell? w _ hx199_2)).trans hx199_2
                  have HR199_2 := Aside0.mk hi199_2
                  have HC199_2 := Aside0.mk hl199_2
                  clear hi199_2 hl199_2
                  replace p199 := eq_true p199
                  replace q199 := eq_true q199
                  have ea_ := Option.some.inj (hx194_2.symm.trans hx199_2)
                  injection ea_ with ea_ en_ ec_
                  subst ea_
                  subst ec_
                  clear en_
                  refine start_ (n := 22) (S := fun w' => w'.cell? (ad173.add ((x4_1).toNat * 3)) = some (.int .i64 ((rd_T32 l0 x4_1).f0)) ∧ w'.cell? ⟨(ad173.add ((x4_1).toNat * 3)).block, (ad173.add ((x4_1).toNat * 3)).off + 1, none⟩ = some (.int .i64 ((rd_T32 l0 x4_1).f1)) ∧ w'.cell? ⟨(ad173.add ((x4_1).toNat * 3)).block, (ad173.add ((x4_1).toNat * 3)).off + 2, none⟩ = some (.slice A194_2 ((rd_T32 l0 x4_1).f2).length c194_2) ∧ w'.cell? (ad173.add ((x4_1).toNat * 3)) = some (.int .i64 ((rd_T32 l0 x4_1).f0)) ∧ w'.cell? ⟨(ad173.add ((x4_1).toNat * 3)).block, (ad173.add ((x4_1).toNat * 3)).off + 1, none⟩ = some (.int .i64 ((rd_T32 l0 x4_1).f1)) ∧ w'.cell? ⟨(ad173.add ((x4_1).toNat * 3)).block, (ad173.add ((x4_1).toNat * 3)).off + 2, none⟩ = some (.slice A194_2 ((rd_T32 l0 x4_1).f2).length c194_2) ∧ w'.cell? (ad173.add ((x4_1).toNat * 3)) = some (.int .i64 ((rd_T32 l0 x4_1).f0)) ∧ w'.cell? ⟨(ad173.add ((x4_1).toNat * 3)).block, (ad173.add ((x4_1).toNat * 3)).off + 1, none⟩ = some (.int .i64 ((rd_T32 l0 x4_1).f1)) ∧ w'.cell? ⟨(ad173.add ((x4_1).toNat * 3)).block, (ad173.add ((x4_1).toNat * 3)).off + 2, none⟩ = some (.slice A194_2 ((rd_T32 l0 x4_1).f2).length c194_2)) (ds := []) #[false, false, false, false, false, false, false, false, false, false, false, false, false, false, false, false, false, false, false, false, false, false] (by kernel_rfl) rfl rfl ⟨((HB.out.cell (World.block_lt_of_cell? w _ hw194_0)).trans hw194_0), ((HB.out.cell (World.block_lt_of_cell? w _ hw194_1)).trans hw194_1), ((HB.out.cell (World.block_lt_of_cell? w _ hw194_2)).trans hw194_2), ((HB.out.cell (World.block_lt_of_cell? w _ hw195_0)).trans hw195_0), ((HB.out.cell (World.block_lt_of_cell? w _ hw195_1)).trans hw195_1), ((HB.out.cell (World.block_lt_of_cell? w _ hw195_2)).trans hw195_2), ((HB.out.cell (World.block_lt_of_cell? w _ hw199_0)).trans hw199_0), ((HB.out.cell (World.block_lt_of_cell? w _ hw199_1)).trans hw199_1), ((HB.out.cell (World.block_lt_of_cell? w _ hw199_2)).trans hw199_2)⟩ (fun hHeld => ?_); refine with_tabW cuecardref04_Merge.tab9 cuecardref04_Merge.bits9 (fun HT_ HW_ => ?_)
                  generalize w39.drew = w40 at HO_3 HB HR194_2 HR195_2 HR199_2 hx194_0 hx194_1 hx194_2 hx195_0 hx195_1 hx195_2 hx199_0 hx199_1 hx199_2 hHeld ⊢
                  refine pure_ (i := 0) (N := some 52) (v := ?_) (a' := ?_) #[true, false, false, false, false, false, false, false, false, false, false, false, false, false, false, false, false, false, false, false, false, false] rfl rfl (any_of HT_.out (by kernel_rfl)) (fun _ _ _ h => h) (Or.inl ⟨by rfl, ?_⟩) ?_ ?_
                  rotate_left
                  · intro w'
                    go_simp
                    with_reducible rfl
                  rotate_left
                  · simp only [Act.put, List.setIfInBounds_toArray, List.set_cons_zero, List.set_cons_succ, i64_w, i32_w]
                    rfl
                  refine pure_ (i := 1) (N := some 53) (v := ?_) (a' := ?_) #[true, true, false, false, false, false, false, false, false, false, false, false, false, false, false, false, false, false, false, false, false, false] rfl rfl (any_of HT_.out (by kernel_rfl)) (fun _ _ _ h => h) (Or.inl ⟨by rfl, ?_⟩) ?_ ?_
                  rotate_left
                  · intro w'
                    go_simp
                    with_reducible rfl
                  rotate_left
                  · simp only [Act.put, List.setIfInBounds_toArray, List.set_cons_zero, List.set_cons_succ, i64_w, i32_w]
                    rfl
                  refine pure_ (i := 2) (N := some 54) (v := ?_) (a' := ?_) #[true, true, true, false, false, false, false, false, false, false, false, false, false, false, false, false, false, false, false, false, false, false] rfl rfl (any_of HT_.out (by kernel_rfl)) (fun _ _ _ h => h) (Or.inl ⟨by rfl, ?_⟩) ?_ ?_
                  rotate_left
                  · intro w'
                    go_simp
                    with_reducible rfl
                  rotate_left
                  · simp only [Act.put, List.setIfInBounds_toArray, List.set_cons_zero, List.set_cons_succ, i64_w, i32_w]
                    rfl
                  refine pure_ (i := 3) (N := some 55) (v := ?_) (a' := ?_) #[true, true, true, true, false, false, false, false, false, false, false, false, false, false, false, false, false, false, false, false, false, false] rfl rfl (any_of HT_.out (by kernel_rfl)) (fun _ _ _ h => h) (Or.inl ⟨by rfl, ?_⟩) ?_ ?_
                  rotate_left
                  · intro w'
                    go_simp
                    with_reducible rfl
                  rotate_left
                  · simp only [Act.put, List.setIfInBounds_toArray, List.set_cons_zero, List.set_cons_succ, i64_w, i32_w]
                    rfl
                  refine pure_ (i := 4) (N := some 56) (v := ?_) (a' := ?_) #[true, true, true, true, true, false, false, false, false, false, false, false, false, false, false, false, false, false, false, false, false, false] rfl rfl (any_of HT_.out (by kernel_rfl)) (fun _ _ _ h => h) (Or.inl ⟨by rfl, ?_⟩) ?_ ?_
                  rotate_left
                  · intro w'
                    go_simp
                    with_reducible rfl
                  rotate_left
                  · simp only [Act.put, List.setIfInBounds_toArray, List.set_cons_zero, List.set_cons_succ, i64_w, i32_w]
                    rfl
                  refine pure_ (i := 6) (N := some 58) (v := ?_) (a' := ?_) #[true, true, true, true, true, false, true, false, false, false, false, false, false, false, false, false, false, false, false, false, false, false] rfl rfl (any_of HT_.out (by kernel_rfl)) (fun _ _ _ h => h) (Or.inl ⟨by rfl, ?_⟩) ?_ ?_
                  rotate_left
                  · intro w'
                    go_simp
                    with_reducible rfl
                  rotate_left
                  · simp only [Act.put, List.setIfInBounds_toArray, List.set_cons_zero, List.set_cons_succ, i64_w, i32_w]
                    rfl
                  refine pure_ (i := 7) (N := some 59) (v := ?_) (a' := ?_) #[true, true, true, true, true, false, true, true, false, false, false, false, false, false, false, false, false, false, false, false, false, false] rfl rfl (any_of HT_.out (by kernel_rfl)) (fun _ _ _ h => h) (Or.inl ⟨by rfl, ?_⟩) ?_ ?_
                  rotate_left
                  · intro w'
                    go_simp
                    with_reducible rfl
                  rotate_left
                  · simp only [Act.put, List.setIfInBounds_toArray, List.set_cons_zero, List.set_cons_succ, i64_w, i32_w]
                    rfl
                  refine pure_ (i := 8) (N := some 60) (v := ?_) (a' := ?_) #[true, true, true, true, true, false, true, true, true, false, false, false, false, false, false, false, false, false, false, false, false, false] rfl rfl (any_of HT_.out (by kernel_rfl)) (fun _ _ _ h => h) (Or.inl ⟨by rfl, ?_⟩) ?_ ?_
                  rotate_left
                  · intro w'
                    go_simp
                    with_reducible rfl
                  rotate_left
                  · simp only [Act.put, List.setIfInBounds_toArray, List.set_cons_zero, List.set_cons_succ, i64_w, i32_w]
                    rfl
                  refine pure_ (i := 9) (N := some 61) (v := ?_) (a' := ?_) #[true, true, true, true, true, false, true, true, true, true, false, false, false, false, false, false, false, false, false, false, false, false] rfl rfl (any_of HT_.out (by kernel_rfl)) (fun _ _ _ h => h) (Or.inl ⟨by rfl, ?_⟩) ?_ ?_
                  rotate_left
                  · intro w'
                    go_simp
                    with_reducible rfl
                  rotate_left
                  · simp only [Act.put, List.setIfInBounds_toArray, List.set_cons_zero, List.set_cons_succ, i64_w, i32_w]
                    rfl
                  refine pure_ (i := 12) (N := some 64) (v := ?_) (a' := ?_) #[true, true, true, true, true, false, true, true, true, true, false, false, true, false, false, false, false, false, false, false, false, false] rfl rfl (any_of HT_.out (by kernel_rfl)) (fun _ _ _ h => h) (Or.inl ⟨by rfl, ?_⟩) ?_ ?_
                  rotate_left
                  · intro w'
                    go_simp
                    with_reducible rfl
                  rotate_left
                  · simp only [Act.put, List.setIfInBounds_toArray, List.set_cons_zero, List.set_cons_succ, i64_w, i32_w]
                    rfl
                  refine pure_ (i := 13) (N := some 65) (v := ?_) (a' := ?_) #[true, true, true, true, true, false, true, true, true, true, false, false, true, true, false, false, false, false, false, false, false, false] rfl rfl (any_of HT_.out (by kernel_rfl)) (fun _ _ _ h => h) (Or.inl ⟨by rfl, ?_⟩) ?_ ?_
                  rotate_left
                  · intro w'
                    go_simp
                    with_reducible rfl
                  rotate_left
                  · simp only [Act.put, List.setIfInBounds_toArray, List.set_cons_zero, List.set_cons_succ, i64_w, i32_w]
                    rfl
                  refine pure_ (i := 14) (N := some 66) (v := ?_) (a' := ?_) #[true, true, true, true, true, false, true, true, true, true, false, false, true, true, true, false, false, false, false, false, false, false] rfl rfl (any_of HT_.out (by kernel_rfl)) (fun _ _ _ h => h) (Or.inl ⟨by rfl, ?_⟩) ?_ ?_
                  rotate_left
                  · intro w'
                    go_simp
                    with_reducible rfl
                  rotate_left
                  · simp only [Act.put, List.setIfInBounds_toArray, List.set_cons_zero, List.set_cons_succ, i64_w, i32_w]
                    rfl
                  refine pure_ (i := 15) (N := some 67) (v := ?_) (a' := ?_) #[true, true, true, true, true, false, true, true, true, true, false, false, true, true, true, true, false, false, false, false, false, false] rfl rfl (any_of HT_.out (by kernel_rfl)) (fun _ _ _ h => h) (Or.inl ⟨by rfl, ?_⟩) ?_ ?_
                  rotate_left
                  · intro w'
                    go_simp
                    with_reducible rfl
                  rotate_left
                  · simp only [Act.put, List.setIfInBounds_toArray, List.set_cons_zero, List.set_cons_succ, i64_w, i32_w]
                    rfl
                  refine take_ (i := 5) (N := some 57) (v := ?_) (a' := ?_) #[true, true, true, true, true, true, true, true, true, true, false, false, true, true, true, true, false, false, false, false, false, false] rfl rfl (take_ofW HT_.out HW_.out (by kernel_rfl)) (fun _ _ _ h => h) (Or.inl ⟨by rfl, ?_⟩) hHeld ?_ ?_
                  rotate_left
                  · rintro w' ⟨s0, s1, s2, s3, s4, s5, s6, s7, s8⟩
                    go_simp
                    with_reducible rfl
                  rotate_left
                  · simp only [Act.put, List.setIfInBounds_toArray, List.set_cons_zero, List.set_cons_succ, i64_w, i32_w]
                    rfl
                  refine take_ (i := 10) (N := some 62) (v := ?_) (a' := ?_) #[true, true, true, true, true, true, true, true, true, true, true, false, true, true, true, true, false, false, false, false, false, false] rfl rfl (take_ofW HT_.out HW_.out (by kernel_rfl)) (fun _ _ _ h => h) (Or.inl ⟨by rfl, ?_⟩) hHeld ?_ ?_
                  rotate_left
                  · rintro w' ⟨s0, s1, s2, s3, s4, s5, s6, s7, s8⟩
                    go_simp
                    with_reducible rfl
                  rotate_left
                  · simp only [Act.put, List.setIfInBounds_toArray, List.set_cons_zero, List.set_cons_succ, i64_w, i32_w]
                    rfl
                  refine take_ (i := 16) (N := some 68) (v := ?_) (a' := ?_) #[true, true, true, true, true, true, true, true, true, true, true, false, true, true, true, true, true, false, false, false, false, false] rfl rfl (take_ofW HT_.out HW_.out (by kernel_rfl)) (fun _ _ _ h => h) (Or.inl ⟨by rfl, ?_⟩) hHeld ?_ ?_
                  rotate_left
                  · rintro w' ⟨s0, s1, s2, s3, s4, s5, s6, s7, s8⟩
                    go_simp
                    with_reducible rfl
                  rotate_left
                  · simp only [Act.put, List.setIfInBounds_toArray, List.set_cons_zero, List.set_cons_succ, i64_w, i32_w]
                    rfl
                  refine one_ (i := 11) (N := some 63) #[true, true, true, true, true, true, true, true, true, true, true, true, true, true, true, true, true, false, false, false, false, false] rfl rfl (one_of HT_.out (by kernel_rfl)) (by decide) (fun K hK => ?_)
                  refine Kd.R_lit_step (Kd.int .u8) _ 5 ?hg (N := 63) ?hd (xs := ([] : List Int)) (inner := []) (ok := fun _ => True) (okp := fun _ => True) ?hr ?hp (fun _ hk => hk) trivial (Below.refl _ _) (Nat.le_refl _) (by simp) ?_; (case hd => rfl); (case hg => rfl); (case hr => first | (go_simp; done) | (go_simp; rfl)); (case hp => exact (Reps.none _ _))
                  intro v197 w41 ho42 hb hg_ hnew_
                  clear hg_ hnew_
                  (first | rw [← Ny196.out] at ho42 | (simp only [Int.reduceToNat] at ho42; rw [← Ny196.out] at ho42))
                  have n0_ := Aside0.mk (Kd.S_elder' (by (with_reducible repeat (first | apply Kd.S_alloc | apply Kd.S_drewN | apply Kd.S_drew)); exact HO_3.out) (Kd.R_base ho42) hb)
                  have n1_ := Aside0.mk (Kd.R_lower ho42 (below_size (by repeat (first | (with_reducible first | exact HB.out | apply below_alloc | apply pw_below_drewN | apply below_drew1) | exact HB.out))))
                  have n2_ := Aside0.mk (below_step (by repeat (first | (with_reducible first | exact HB.out | apply below_alloc | apply pw_below_drewN | apply below_drew1) | exact HB.out)) hb)
                  clear HO_3
                  clear HB
                  have HO_3 := n0_
                  have HO198 := n1_
                  have HB := n2_
                  clear n0_ n1_ n2_
                  clear hb ho42
                  refine hK.out _ _ ⟨((HB.out.cell (World.block_lt_of_cell? w _ hw194_0)).trans hw194_0), ((HB.out.cell (World.block_lt_of_cell? w _ hw194_1)).trans hw194_1), ((HB.out.cell (World.block_lt_of_cell? w _ hw194_2)).trans hw194_2), ((HB.out.cell (World.block_lt_of_cell? w _ hw195_0)).trans hw195_0), ((HB.out.cell (World.block_lt_of_cell? w _ hw195_1)).trans hw195_1), ((HB.out.cell (World.block_lt_of_cell? w _ hw195_2)).trans hw195_2), ((HB.out.cell (World.block_lt_of_cell? w _ hw199_0)).trans hw199_0), ((HB.out.cell (World.block_lt_of_cell? w _ hw199_1)).trans hw199_1), ((HB.out.cell (World.block_lt_of_cell? w _ hw199_2)).trans hw199_2)⟩ (fun hHeld => ?_)
                  clear hK K
                  refine norm_ (a' := ?_) ?_ ?_
                  rotate_left
                  · show Act.put _ (some 63) _ = _
                    simp only [Act.put, List.setIfInBounds_toArray, List.set_cons_zero, List.set_cons_succ, i64_w, i32_w]
                    rfl
                  refine one_ (i := 17) (N := some 69) #[true, true, true, true, true, true, true, true, true, true, true, true, true, true, true, true, true, true, false, false, false, false] rfl rfl (one_of HT_.out (by kernel_rfl)) (by decide) (fun K hK => ?_)
                  refine Kd.R_append_rows_step (Kd.int .u8) (w0 := w) w.heap.size (by rfl) (.tmp 63) (.tmp 68) 26 5 (.int .u8 0) 1 rfl Try.underlying26 info5 rfl (by decide) (by omega) v197 y196 ((rd_T32 l0 x4_1).f2) _ _ _ (fun _ => True) (fun _ => False) rfl rfl ?aO ?aR (fun _ _ h => h) (fun _ h => h.elim) ?aF ?aB ?aS ?aL ?_
                  (case aR => repeat (first | exact (Kd.C_below HR199_2.out HB.out) | (with_reducible refine Kd.C_alloc ?_ _) | (with_reducible refine Kd.C_drewN ?_ _) | (with_reducible refine Kd.C_drew ?_)))
                  (case aB => exact (by repeat (first | (with_reducible first | exact HB.out | apply below_alloc | apply pw_below_drewN | apply below_drew1) | exact HB.out)))
                  (case aF => exact (fun _ _ => trivial))
                  (case aO => exact (by (with_reducible repeat (first | apply Kd.R_alloc | apply Kd.R_drewN | apply Kd.R_drew)); exact HO198.out))
                  (case aS => exact (below_size (by repeat (first | (with_reducible first | exact HB.out | apply below_alloc | apply pw_below_drewN | apply below_drew1) | exact HB.out))))
                  (case aL => have := LMc36.out; omega)
                  intro v201 w43 ho hb hg hat
                  rw [← Ny200.out] at ho
                  have n0_ := Aside0.mk (Kd.S_after (ok := (fun _ => True)) (by (with_reducible repeat (first | apply Kd.S_alloc | apply Kd.S_drewN | apply Kd.S_drew)); exact HO_3.out) hg hat)
                  have n1_ := Aside0.mk (hb)
                  have n2_ := Aside0.mk (ho)
                  clear HO_3
                  clear HB
                  clear HO198
                  have HO_3 := n0_
                  have HB := n1_
                  have HO202 := n2_
                  clear n0_ n1_ n2_
                  clear ho hb hg hat
                  obtain ⟨Ao44, co44, eo44⟩ := Kd.R_slice HO202.out
                  (first | subst eo44 | (injection eo44 with f1_ f2_ f3_; have f4_ := f1_.symm; have f5_ := f3_.symm; clear f1_ f2_ f3_; subst f4_; subst f5_))
                  refine hK.out _ _ ⟨((HB.out.cell (World.block_lt_of_cell? w _ hw194_0)).trans hw194_0), ((HB.out.cell (World.block_lt_of_cell? w _ hw194_1)).trans hw194_1), ((HB.out.cell (World.block_lt_of_cell? w _ hw194_2)).trans hw194_2), ((HB.out.cell (World.block_lt_of_cell? w _ hw195_0)).trans hw195_0), ((HB.out.cell (World.block_lt_of_cell? w _ hw195_1)).trans hw195_1), ((HB.out.cell (World.block_lt_of_cell? w _ hw195_2)).trans hw195_2), ((HB.out.cell (World.block_lt_of_cell? w _ hw199_0)).trans hw199_0), ((HB.out.cell (World.block_lt_of_cell? w _ hw199_1)).trans hw199_1), ((HB.out.cell (World.block_lt_of_cell? w _ hw199_2)).trans hw199_2)⟩ (fun hHeld => ?_)
                  clear hK K
                  refine norm_ (a' := ?_) ?_ ?_
                  rotate_left
                  · show Act.put _ (some 69) _ = _
                    simp only [Act.put, List.setIfInBounds_toArray, List.set_cons_zero, List.set_cons_succ, i64_w, i32_w]
                    rfl
                  refine pure_ (i := 18) (N := some 70) (v := ?_) (a' := ?_) #[true, true, true, true, true, true, true, true, true, true, true, true, true, true, true, true, true, true, true, false, false, false] rfl rfl (any_of HT_.out (by kernel_rfl)) (fun _ _ _ h => h) (Or.inl ⟨by rfl, ?_⟩) ?_ ?_
                  rotate_left
                  · intro w'
                    go_simp
                    with_reducible rfl
                  rotate_left
                  · simp only [Act.put, List.setIfInBounds_toArray, List.set_cons_zero, List.set_cons_succ, i64_w, i32_w]
                    rfl
                  refine one_ (i := 19) (N := some 71) #[true, true, true, true, true, true, true, true, true, true, true, true, true, true, true, true, true, true, true, true, false, false] rfl rfl (one_of HT_.out (by kernel_rfl)) (by decide) (fun K hK => ?_)
                  refine value_ (w1 := ?_) (v := ?_) (by rfl) rfl ?_ ?_
                  rotate_left 2
                  · go_simp
                    constructor
                    · rfl
                    · rfl
                  refine hK.out _ _ ⟨(World.cell?_alloc_lt _ _ _ (World.block_lt_of_cell? _ _ (((HB.out.cell (World.block_lt_of_cell? w _ hw194_0)).trans hw194_0)))).trans (((HB.out.cell (World.block_lt_of_cell? w _ hw194_0)).trans hw194_0)), (World.cell?_alloc_lt _ _ _ (World.block_lt_of_cell? _ _ (((HB.out.cell (World.block_lt_of_cell? w _ hw194_1)).trans hw194_1)))).trans (((HB.out.cell (World.block_lt_of_cell? w _ hw194_1)).trans hw194_1)), (World.cell?_alloc_lt _ _ _ (World.block_lt_of_cell? _ _ (((HB.out.cell (World.block_lt_of_cell? w _ hw194_2)).trans hw194_2)))).trans (((HB.out.cell (World.block_lt_of_cell? w _ hw194_2)).trans hw194_2)), (World.cell?_alloc_lt _ _ _ (World.block_lt_of_cell? _ _ (((HB.out.cell (World.block_lt_of_cell? w _ hw195_0)).trans hw195_0)))).trans (((HB.out.cell (World.block_lt_of_cell? w _ hw195_0)).trans hw195_0)), (World.cell?_alloc_lt _ _ _ (World.block_lt_of_cell? _ _ (((HB.out.cell (World.block_lt_of_cell? w _ hw195_1)).trans hw195_1)))).trans (((HB.out.cell (World.block_lt_of_cell? w _ hw195_1)).trans hw195_1)), (World.cell?_alloc_lt _ _ _ (World.block_lt_of_cell? _ _ (((HB.out.cell (World.block_lt_of_cell? w _ hw195_2)).trans hw195_2)))).trans (((HB.out.cell (World.block_lt_of_cell? w _ hw195_2)).trans hw195_2)), (World.cell?_alloc_lt _ _ _ (World.block_lt_of_cell? _ _ (((HB.out.cell (World.block_lt_of_cell? w _ hw199_0)).trans hw199_0)))).trans (((HB.out.cell (World.block_lt_of_cell? w _ hw199_0)).trans hw199_0)), (World.cell?_alloc_lt _ _ _ (World.block_lt_of_cell? _ _ (((HB.out.cell (World.block_lt_of_cell? w _ hw199_1)).trans hw199_1)))).trans (((HB.out.cell (World.block_lt_of_cell? w _ hw199_1)).trans hw199_1)), (World.cell?_alloc_lt _ _ _ (World.block_lt_of_cell? _ _ (((HB.out.cell (World.block_lt_of_cell? w _ hw199_2)).trans hw199_2)))).trans (((HB.out.cell (World.block_lt_of_cell? w _ hw199_2)).trans hw199_2))⟩ (fun hHeld => ?_)
                  clear hK K
                  refine norm_ (a' := ?_) ?_ ?_
                  rotate_left
                  · show Act.put _ (some 71) _ = _
                    simp only [Act.put, List.setIfInBounds_toArray, List.set_cons_zero, List.set_cons_succ, i64_w, i32_w]
                    rfl
                  refine one_ (i := 20) (N := some 72) #[true, true, true, true, true, true, true, true, true, true, true, true, true, true, true, true, true, true, true, true, true, false] rfl rfl (one_of HT_.out (by kernel_rfl)) (by decide) (fun K hK => ?_)
                  refine Kd.S_append_step k32 (w0 := w) w.heap.size (by rfl) (.tmp 52) (.tmp 71) 22 32 (.agg #[(.int .i64 0), (.int .i64 0), (.slice none 0 0)]) 40 rfl Try.underlying22 info32 rfl (by decide) (by omega) (.slice Ao38 x3_1.length co38) x3_1 (⟨(rd_T32 l0 x4_1).f0, (rd_T32 l0 x4_1).f1, y200⟩ : S32) [.int .i64 ((rd_T32 l0 x4_1).f0), .int .i64 ((rd_T32 l0 x4_1).f1), .slice Ao44 y200.length co44] (fun _ => True) (fun k_ => some k_ = (.slice Ao44 y200.length co44 : Value).ownBlock) rfl rfl ?aP (fun k_ hk_ => ((Kd.R_mono (ok' := fun k_ => ((fun _ => True)) k_ ∧ some k_ ≠ (.slice Ao38 x3_1.length co38 : Value).ownBlock) (Kd.R_apart' (HO202.out) (Kd.S_typed HO_3.out) (by decide)) (fun k_ hk => ⟨trivial, hk.2⟩))).1 k_ hk_.symm) ?aF ?aO ?aB ?aS ?aL ?_
                  (case aP => exact k32_mkM _ _ _ (⟨(rd_T32 l0 x4_1).f0, (rd_T32 l0 x4_1).f1, y200⟩ : S32) (Kd.R_mono (Kd.R_tight rfl (Kd.R_mono (ok' := fun k_ => ((fun _ => True)) k_ ∧ some k_ ≠ (.slice Ao38 x3_1.length co38 : Value).ownBlock) (Kd.R_apart' (HO202.out) (Kd.S_typed HO_3.out) (by decide)) (fun k_ hk => ⟨trivial, hk.2⟩))) (fun _ h_ => h_)))
                  (case aB => exact (by repeat (first | (with_reducible first | exact HB.out | apply below_alloc | apply pw_below_drewN | apply below_drew1) | exact HB.out)))
                  (case aF => exact (fun _ _ => trivial))
                  (case aO => exact (by (with_reducible repeat (first | apply Kd.S_alloc | apply Kd.S_drewN | apply Kd.S_drew)); exact Kd.S_mono HO_3.out (fun k_ hk => ⟨trivial, fun e_ => hk.2 e_⟩)))
                  (case aS => exact (below_size (by repeat (first | (with_reducible first | exact HB.out | apply below_alloc | apply pw_below_drewN | apply below_drew1) | exact HB.out))))
                  (case aL => have := LMc37.out; omega)
                  intro v204 w45 ho hb hg hat
                  rw [← Ny203.out] at ho
                  have n0_ := Aside0.mk (hb)
                  have n1_ := Aside0.mk (ho)
                  clear HB
                  clear HO_3
                  clear HO202
                  have HB := n0_
                  have HO205 := n1_
                  clear n0_ n1_
                  clear ho hb hg hat
                  refine hK.out _ _ ⟨((HB.out.cell (World.block_lt_of_cell? w _ hw194_0)).trans hw194_0), ((HB.out.cell (World.block_lt_of_cell? w _ hw194_1)).trans hw194_1), ((HB.out.cell (World.block_lt_of_cell? w _ hw194_2)).trans hw194_2), ((HB.out.cell (World.block_lt_of_cell? w _ hw195_0)).trans hw195_0), ((HB.out.cell (World.block_lt_of_cell? w _ hw195_1)).trans hw195_1), ((HB.out.cell (World.block_lt_of_cell? w _ hw195_2)).trans hw195_2), ((HB.out.cell (World.block_lt_of_cell? w _ hw199_0)).trans hw199_0), ((HB.out.cell (World.block_lt_of_cell? w _ hw199_1)).trans hw199_1), ((HB.out.cell (World.block_lt_of_cell? w _ hw199_2)).trans hw199_2)⟩ (fun hHeld => ?_)
                  clear hK K
                  refine norm_ (a' := ?_) ?_ ?_
                  rotate_left
                  · show Act.put _ (some 72) _ = _
                    simp only [Act.put, List.setIfInBounds_toArray, List.set_cons_zero, List.set_cons_succ, i64_w, i32_w]
                    rfl
                  refine pure_ (i := 21) (N := some 3) (v := ?_) (a' := ?_) #[true, true, true, true, true, true, true, true, true, true, true, true, true, true, true, true, true, true, true, true, true, true] rfl rfl (any_of HT_.out (by kernel_rfl)) (fun _ _ _ h => h) (Or.inl ⟨by rfl, ?_⟩) ?_ ?_
                  rotate_left
                  · intro w'
                    go_simp
                    with_reducible rfl
                  rotate_left
                  · simp only [Act.put, List.setIfInBounds_toArray, List.set_cons_zero, List.set_cons_succ, i64_w, i32_w]
                    rfl
                  refine done_ (done_of HT_.out (by kernel_rfl)) ?_
                  (try (have iw48 : IntKind.i64.wrap ((x3_1.length : Int) - 1) = wrap64 ((x3_1.length : Int) - 1) := i64_w _))
                  try go_wp2
                  go_roundg k1
                  case measure => have := HK1.out; omega
                  case rel => exact ⟨(y203), (wrap64 (x4_1 + 1)), (by first | rfl | (simp; done) | (simp [*]; done)), H', ⟨by have := HK1.out; omega⟩, ⟨by (with_reducible repeat (first | apply Kd.S_alloc | apply Kd.S_drewN | apply Kd.S_drew)); exact HO205.out⟩, ⟨by repeat (first | (with_reducible first | exact HB.out | apply below_alloc | apply pw_below_drewN | apply below_drew1) | exact HB.out)⟩⟩
                · rw [if_neg c37] at H
                  exact absurd H (by simp)
              · rw [if_neg c36] at H
                exact absurd H (by simp)
        · rw [if_neg c3] at H
          exact absurd H (by simp)
      · rw [if_neg c2] at H
        have c2b0 : decide (x4_1 < (l0.length : Int)) = false := decide_eq_false c2
        clear c2
        obtain rfl := Option.some.inj H
        go_wp2
        go_ret
        exact ⟨_, by first | rfl | (simp [errW_none, errW_some] <;> rfl) | (simp [*, errW_none, errW_some] <;> rfl), by (with_reducible repeat (first | apply Kd.S_alloc | apply Kd.S_drewN | apply Kd.S_drew)); exact HO_3.out, by repeat (first | (with_reducible first | exact HB.out | apply below_alloc | apply pw_below_drewN | apply below_drew1) | exact HB.out)⟩

end Go.Proofs.Ytdbnmccflbkcoaa.QA
