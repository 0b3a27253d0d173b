-- Written for this claim by a program of this session's, out of Lean's own print of the program; Lean checks it.
import Derived.Test.YtjcaflhlilckgaaQAx0
import Derived.Test.YtjcaflhlilckgaaGClone
namespace Go.Proofs.Ytjcaflhlilckgaa.QA
open Go.RowKit Go.Proofs.YtjcaflhlilckgaaW.PrintWords Go.Proofs.YtjcaflhlilckgaaW.PrintLast Go.Proofs.YtjcaflhlilckgaaW.PrintMore
attribute [local go_sem] max2_int min2_int max_two min_two max_three min_three max_four min_four   -- for this text's walks alone
set_option linter.unusedVariables false
set_option linter.unusedSimpArgs false

/-! ### event_Merge: function 26 -/
def event_Merge.l0 : Nat → List (S37) → List (S37) → Int → Int → Option ((List (S37)))
  | 0, _, _, _, _ => none
  | k + 1, x3, x7, x8, x9 => if x9 < x8 then (if 0 ≤ x9 then (if x9 < (x7.length : Int) then (if (((rd_T37 x7 x9).f2).length : Int) = 0 then (event_Merge.l0 k x3 x7 x8 (wrap64 (x9 + 1))) else (if (x3.length : Int) > 0 then (if 0 ≤ (wrap64 ((x3.length : Int) - 1)) then (if (wrap64 ((x3.length : Int) - 1)) < (x3.length : Int) then (if ((rd_T37 x3 (wrap64 ((x3.length : Int) - 1))).f0) = ((rd_T37 x7 x9).f0) then (if ((rd_T37 x3 (wrap64 ((x3.length : Int) - 1))).f2).length + ((rd_T37 x7 x9).f2).length < 140737488355328 then (event_Merge.l0 k (x3.set ((wrap64 ((x3.length : Int) - 1)) : Int).toNat (⟨(rd_T37 x3 (wrap64 ((x3.length : Int) - 1))).f0, (rd_T37 x3 (wrap64 ((x3.length : Int) - 1))).f1, (((rd_T37 x3 (wrap64 ((x3.length : Int) - 1))).f2) ++ ((rd_T37 x7 x9).f2))⟩ : S37)) x7 x8 (wrap64 (x9 + 1))) else (none)) else ((bytes_Clone.f k ((rd_T37 x7 x9).f2)).bind fun t317 => (if x3.length < 3518437208883 then (event_Merge.l0 k (x3 ++ [(⟨(rd_T37 x7 x9).f0, (rd_T37 x7 x9).f1, t317⟩ : S37)]) x7 x8 (wrap64 (x9 + 1))) else (none)))) else (none)) else (none)) else ((bytes_Clone.f k ((rd_T37 x7 x9).f2)).bind fun t323 => (if x3.length < 3518437208883 then (event_Merge.l0 k (x3 ++ [(⟨(rd_T37 x7 x9).f0, (rd_T37 x7 x9).f1, t323⟩ : S37)]) x7 x8 (wrap64 (x9 + 1))) else (none))))) else (none)) else (none)) else (some x3)
def event_Merge.f (k : Nat) (l0 : List (S37)) : Option ((List (S37))) := event_Merge.l0 k ([] : List (S37)) l0 (l0.length : Int) 0
theorem event_Merge.mono_l : ∀ k, (∀ y0 y1 y2 y3, LeO (event_Merge.l0 k y0 y1 y2 y3) (event_Merge.l0 (k + 1) y0 y1 y2 y3))
  | 0 => fun _ _ _ _ r h => by simp [event_Merge.l0] at h
  | k + 1 => by
    have ih0 := event_Merge.mono_l k
    · intro y0 y1 y2 y3
      unfold event_Merge.l0
      repeat' first
      | (with_reducible exact ih0 _ _ _ _)
      | (with_reducible exact bytes_Clone.mono _ _)
      | (with_reducible exact LeO.refl _)
      | (with_reducible exact LeO.none _)
      | (with_reducible refine LeO.ite ?_ ?_)
      | (with_reducible refine LeO.bind ?_ (fun _ => ?_))
      | exact ih0 _ _ _ _
      | exact bytes_Clone.mono _ _
      | exact LeO.none _
      | refine LeO.ite ?_ ?_
      | refine LeO.bind ?_ (fun _ => ?_)
theorem event_Merge.mono : ∀ a0 k, LeO (event_Merge.f k a0) (event_Merge.f (k + 1) a0) := by
  intro a0 k
  have ih0 := event_Merge.mono_l k
  unfold event_Merge.f
  repeat' first
      | (with_reducible exact ih0 _ _ _ _)
      | (with_reducible exact bytes_Clone.mono _ _)
      | (with_reducible exact LeO.refl _)
      | (with_reducible exact LeO.none _)
      | (with_reducible refine LeO.ite ?_ ?_)
      | (with_reducible refine LeO.bind ?_ (fun _ => ?_))
      | exact ih0 _ _ _ _
      | exact bytes_Clone.mono _ _
      | exact LeO.none _
      | refine LeO.ite ?_ ?_
      | refine LeO.bind ?_ (fun _ => ?_)
def event_Merge.T9 : Bool × List (List Nat × List Nat) := (true, [([], []), ([0], [0]), ([1], [1]), ([2], [2]), ([2], [2]), ([4, 2], [2, 4]), ([3, 5, 2], [2, 3, 5]), ([6, 2], [2, 6]), ([7, 2], [2, 7]), ([2], [2]), ([9, 2], [2, 9]), ([8, 10, 2], [2, 8, 10]), ([2, 11], [2, 11]), ([12, 2], [12])])
def event_Merge.B9 : List Nat := [0, 1, 3, 7, 7, 23, 63, 127, 255, 7, 519, 2047, 4095, 8191]
theorem event_Merge.tab9 : rtab .any (opsOf Try.f26 9) = event_Merge.T9 := by kernel_rfl
theorem event_Merge.bits9 : waitsOk event_Merge.T9.2 event_Merge.B9 = true := by kernel_rfl
def event_Merge.T10 : Bool × List (List Nat × List Nat) := (true, [([], []), ([], []), ([1], [1]), ([], []), ([], []), ([4], [4]), ([3, 5], [3, 5]), ([6], [6]), ([7], [7]), ([], []), ([9], [9]), ([8, 10], [8, 10]), ([0, 2, 0, 1, 2, 3, 4, 5, 6, 7, 8, 9, 10, 11], [0, 2]), ([12, 0, 1, 2, 3, 4, 5, 6, 7, 8, 9, 10, 11], [12]), ([13, 11, 11, 0, 1, 2, 3, 4, 5, 6, 7, 8, 9, 10, 11], [11, 13])])
def event_Merge.B10 : List Nat := [0, 0, 2, 0, 0, 16, 56, 120, 248, 0, 512, 2040, 4095, 8191, 16383]
theorem event_Merge.tab10 : rtab .any (opsOf Try.f26 10) = event_Merge.T10 := by kernel_rfl
theorem event_Merge.bits10 : waitsOk event_Merge.T10.2 event_Merge.B10 = true := by kernel_rfl
set_option maxHeartbeats 8000000 in
set_option maxRecDepth 100000 in
theorem event_Merge.calls (k : Nat) (A0 : Option Addr) (c0 : Nat) (l0 : List (S37)) (r : List (S37)) (w : World) (hr0 : Kd.C k37 w A0 l0.length l0) (hc0 : l0.length ≤ c0) (h : event_Merge.f k l0 = some r) :
    Calls Try.prog 26 #[.slice A0 l0.length c0] w fun e w' => ∃ v0_ : Value, e = .returned (v0_) ∧ Kd.S k37 37 w' w.heap.size (fun _ => True) v0_ r ∧ Below w.heap.size w w' := by
  have hu37 := Try.underlying37
  have HR0 := Aside0.mk hr0
  have HC0 := Aside0.mk hc0
  clear hr0 hc0
  have HB := Aside0.mk (Below.refl w.heap.size w)
  have H : (event_Merge.l0 k ([] : List (S37)) l0 (l0.length : Int) 0) = some r := h
  clear h
  have H' := Aside0.mk H
  clear H
  go_enter Try.func26, Try.ntmps26
  go_wp2
  go_loopg [3, 9] k (fun kq v3 v9 w' => ∃ (x3_1 : List (S37)) (x9_1 : Int), v9 = .int .i64 x9_1 ∧ Aside0 (event_Merge.l0 kq x3_1 l0 (l0.length : Int) x9_1 = some r) ∧ Aside0 (kq ≤ k) ∧ Aside0 (Kd.S k37 37 w' w.heap.size (fun _ => True) v3 x3_1) ∧ Aside0 (Below w.heap.size w w'))
  case atStart => exact ⟨(([] : List (S37))), (0), (by first | rfl | (simp; done) | (simp [*]; done)), H', ⟨Nat.le_refl _⟩, ⟨by first | exact Kd.S_nil _ _ _ _ _ | exact Kd.N_nil _ _ _ _ _ | exact Kd.V_nil _ _ _ _ _ | exact Kd.Q_nil _ _ _ _ _ | exact Kd.R_nil _ _ _ _ _⟩, ⟨by repeat (first | (with_reducible first | exact HB.out | apply below_alloc | apply pw_below_drewN | apply below_drew1) | exact HB.out)⟩⟩
  case round =>
    clear H'
    obtain ⟨x3_1, x9_1, rfl, HA, HK1, HO_3, HB⟩ := hrel
    cases gk with
    | zero => exact absurd HA.out (by simp [event_Merge.l0])
    | succ k1 =>
      have H := HA.out
      clear HA
      simp only [event_Merge.l0] at H
      by_cases c2 : x9_1 < (l0.length : Int)
      · rw [if_pos c2] at H
        have c2b0 : decide (x9_1 < (l0.length : Int)) = true := decide_eq_true c2
        clear c2
        by_cases c3 : 0 ≤ x9_1
        · rw [if_pos c3] at H
          have c3b0 : decide (0 ≤ x9_1) = true := decide_eq_true c3
          clear c3
          by_cases c4 : x9_1 < (l0.length : Int)
          · rw [if_pos c4] at H
            have c4b0 : decide (x9_1 < (l0.length : Int)) = true := decide_eq_true c4
            clear c4
            by_cases c5 : (((rd_T37 l0 x9_1).f2).length : Int) = 0
            · rw [if_pos c5] at H
              have c5b0 : ((((rd_T37 l0 x9_1).f2).length : Int) == 0) = true := beq_iff_eq.mpr c5
              have c5b1 : ((((rd_T37 l0 x9_1).f2).length : Int) != 0) = false := bne_eq_false_iff_eq.mpr c5
              clear c5
              have H' := Aside0.mk H
              clear H
              have p309 : 0 ≤ (x9_1 : Int) := of_decide_eq_true (by first | (with_reducible assumption) | assumption)
              have q309 : x9_1 < (l0.length : Int) := of_decide_eq_true (by first | (with_reducible assumption) | assumption)
              obtain ⟨ad309, A309_2, c309_2, e309, hx309_0, hx309_1, hx309_2, hl309_2, hi309_2⟩ := at_T37 HR0.out x9_1 p309 q309
              cases e309
              replace hx309_0 := (HB.out.cell (World.block_lt_of_cell? w _ hx309_0)).trans hx309_0
              replace hx309_1 := (HB.out.cell (World.block_lt_of_cell? w _ hx309_1)).trans hx309_1
              replace hx309_2 := (HB.out.cell (World.block_lt_of_cell? w _ hx309_2)).trans hx309_2
              have HR309_2 := Aside0.mk hi309_2
              have HC309_2 := Aside0.mk hl309_2
              clear hi309_2 hl309_2
              replace p309 := eq_true p309
              replace q309 := eq_true q309
              go_wp2_with (first | ((with_reducible refine gate_dst (N := 5) rfl ?_); refine box_event ?hg (N := 5) ?hd (cs := #[.int .i64 0, .int .i64 0, .slice none 0 0]) (t := 37) ?hr ?_; (case hd => rfl); (case hg => rfl); (case hr => first | (go_simp; done) | (go_simp; rfl)); intro gb310 hg w6 hbox hb; have n0_ := Aside0.mk (Kd.S_below (Kd.S_elderB (by (with_reducible repeat (first | apply Kd.S_alloc | apply Kd.S_drewN | apply Kd.S_drew)); exact HO_3.out) gb310 (Nat.le_of_eq hg.symm)) hb); have n1_ := Aside0.mk (below_step (by repeat (first | (with_reducible first | exact HB.out | apply below_alloc | apply pw_below_drewN | apply below_drew1) | exact HB.out)) hb); have n2_ := Aside0.mk (hbox); have n3_ := Aside0.mk ((by rw [hg]; exact (below_size (by repeat (first | (with_reducible first | exact HB.out | apply below_alloc | apply pw_below_drewN | apply below_drew1) | exact HB.out))) : w.heap.size ≤ gb310)); have n4_ := Aside0.mk ((by rw [hg]; exact (below_size (by repeat (first | (with_reducible first | exact HB.out | apply below_alloc | apply pw_below_drewN | apply below_drew1) | exact HB.out))) : w.heap.size ≤ gb310)); clear HO_3; clear HB; have HO_3 := n0_; have HB := n1_; have BK310 := n2_; have GW310 := n3_; have GE310 := n4_; clear n0_ n1_ n2_ n3_ n4_; clear hb hbox hg; have hcz7_0 : w6.cell? ⟨gb310, 0, none⟩ = some (.int .i64 0) := (blk_cell BK310.out 0).trans rfl; have hcz7_1 : w6.cell? ⟨gb310, 1, none⟩ = some (.int .i64 0) := (blk_cell BK310.out 1).trans rfl; have hcz7_2 : w6.cell? ⟨gb310, 2, none⟩ = some (.slice none 0 0) := (blk_cell BK310.out 2).trans rfl; have hfz7_0 := blk_frozen BK310.out 0; have hfz7_1 := blk_frozen BK310.out 1; have hfz7_2 := blk_frozen BK310.out 2; obtain ⟨Ao8, co8, eo8⟩ := Kd.S_slice HO_3.out; subst eo8))
              go_roundg k1
              case measure => have := HK1.out; omega
              case rel => exact ⟨(x3_1), (wrap64 (x9_1 + 1)), (by first | rfl | (simp; done) | (simp [*]; done)), H', ⟨by have := HK1.out; omega⟩, ⟨by (with_reducible repeat (first | apply Kd.S_alloc | apply Kd.S_drewN | apply Kd.S_drew)); exact Kd.S_mono (Kd.S_far (p := ⟨gb310, 2, none⟩) (Kd.S_far (p := ⟨gb310, 1, none⟩) (Kd.S_far (p := ⟨gb310, 0, none⟩) (Kd.S_mono HO_3.out (fun k_ hk => (⟨hk, hk.2⟩ : _ ∧ k_ ≠ gb310))) (fun _ hk => hk.2) (.int .i64 ((rd_T37 l0 x9_1).f0))) (fun _ hk => hk.2) (.int .i64 ((rd_T37 l0 x9_1).f1))) (fun _ hk => hk.2) (.slice A309_2 ((rd_T37 l0 x9_1).f2).length c309_2)) (fun _ hk => trivial)⟩, ⟨by repeat (first | (with_reducible first | exact HB.out | apply below_alloc | apply pw_below_drewN | apply below_drew1 | refine below_set ?_ GE310.out) | exact HB.out)⟩⟩
            · rw [if_neg c5] at H
              have c5b0 : ((((rd_T37 l0 x9_1).f2).length : Int) == 0) = false := beq_eq_false_iff_ne.mpr c5
              have c5b1 : ((((rd_T37 l0 x9_1).f2).length : Int) != 0) = true := bne_iff_ne.mpr c5
              have c5b2 : ¬ (((rd_T37 l0 x9_1).f2) = []) := fun h_ => c5 (by rw [h_]; rfl)
              by_cases c9 : (x3_1.length : Int) > 0
              · rw [if_pos c9] at H
                have c9b0 : decide (0 < (x3_1.length : Int)) = true := decide_eq_true c9
                have c9b1 : decide (0 < x3_1.length) = true := decide_eq_true (by omega)
                clear c9
                obtain ⟨ji10, hji10⟩ : ∃ j_ : Int, (wrap64 ((x3_1.length : Int) - 1)) = j_ := ⟨_, rfl⟩
                replace H : (if 0 ≤ (ji10) then (if (ji10) < (x3_1.length : Int) then (if ((rd_T37 x3_1 (ji10)).f0) = ((rd_T37 l0 x9_1).f0) then (if ((rd_T37 x3_1 (ji10)).f2).length + ((rd_T37 l0 x9_1).f2).length < 140737488355328 then (event_Merge.l0 k1 (x3_1.set ((ji10) : Int).toNat (⟨(rd_T37 x3_1 (ji10)).f0, (rd_T37 x3_1 (ji10)).f1, (((rd_T37 x3_1 (ji10)).f2) ++ ((rd_T37 l0 x9_1).f2))⟩ : S37)) l0 (l0.length : Int) (wrap64 (x9_1 + 1))) else (none)) else ((bytes_Clone.f k1 ((rd_T37 l0 x9_1).f2)).bind fun t317 => (if x3_1.length < 3518437208883 then (event_Merge.l0 k1 (x3_1 ++ [(⟨(rd_T37 l0 x9_1).f0, (rd_T37 l0 x9_1).f1, t317⟩ : S37)]) l0 (l0.length : Int) (wrap64 (x9_1 + 1))) else (none)))) else (none)) else (none)) = some r := by first | (rw [hji10] at H; exact H) | (simp only [hji10] at H ⊢; exact H)
                have hji10w : (IntKind.i64.wrap ((x3_1.length : Int) - 1)) = ji10 := (i64_w _).trans hji10
                by_cases c11 : 0 ≤ (ji10)
                · rw [if_pos c11] at H
                  have c11b0 : decide (0 ≤ (ji10)) = true := decide_eq_true c11
                  clear c11
                  by_cases c12 : (ji10) < (x3_1.length : Int)
                  · rw [if_pos c12] at H
                    have c12b0 : decide ((ji10) < (x3_1.length : Int)) = true := decide_eq_true c12
                    clear c12
                    by_cases c13 : ((rd_T37 x3_1 (ji10)).f0) = ((rd_T37 l0 x9_1).f0)
                    · rw [if_pos c13] at H
                      have c13b0 : (((rd_T37 x3_1 (ji10)).f0) == ((rd_T37 l0 x9_1).f0)) = true := beq_iff_eq.mpr c13
                      have c13b1 : (((rd_T37 x3_1 (ji10)).f0) != ((rd_T37 l0 x9_1).f0)) = false := bne_eq_false_iff_eq.mpr c13
                      clear c13
                      by_cases c14 : ((rd_T37 x3_1 (ji10)).f2).length + ((rd_T37 l0 x9_1).f2).length < 140737488355328
                      · rw [if_pos c14] at H
                        have LMc14 := Aside0.mk c14
                        clear c14
                        obtain ⟨y313, hy313⟩ : ∃ y_ : List Int, y_ = (((rd_T37 x3_1 (ji10)).f2) ++ ((rd_T37 l0 x9_1).f2)) := ⟨_, rfl⟩
                        replace H : (event_Merge.l0 k1 (x3_1.set ((ji10) : Int).toNat (⟨(rd_T37 x3_1 (ji10)).f0, (rd_T37 x3_1 (ji10)).f1, y313⟩ : S37)) l0 (l0.length : Int) (wrap64 (x9_1 + 1))) = some r := by first | (rw [hy313]; with_reducible exact H) | (have H2_ := (Option.bind_some _ _).symm.trans H; rw [hy313]; with_reducible exact H2_) | (have H2_ := (Option.bind_some _ _).symm.trans H; with_reducible exact H2_) | with_reducible exact H | (rw [hy313]; exact H) | exact H
                        have Ny313 := Aside0.mk hy313
                        clear hy313
                        obtain ⟨y316, hy316⟩ : ∃ y_ : List (S37), y_ = (x3_1.set ((ji10) : Int).toNat (⟨(rd_T37 x3_1 (ji10)).f0, (rd_T37 x3_1 (ji10)).f1, y313⟩ : S37)) := ⟨_, rfl⟩
                        replace H : (event_Merge.l0 k1 y316 l0 (l0.length : Int) (wrap64 (x9_1 + 1))) = some r := by first | (rw [hy316]; with_reducible exact H) | (have H2_ := (Option.bind_some _ _).symm.trans H; rw [hy316]; with_reducible exact H2_) | (have H2_ := (Option.bind_some _ _).symm.trans H; with_reducible exact H2_) | with_reducible exact H | (rw [hy316]; exact H) | exact H
                        have Ny316 := Aside0.mk hy316
                        clear hy316
                        have H' := Aside0.mk H
                        clear H
                        have p309 : 0 ≤ (x9_1 : Int) := of_decide_eq_true (by first | (with_reducible assumption) | assumption)
                        have q309 : x9_1 < (l0.length : Int) := of_decide_eq_true (by first | (with_reducible assumption) | assumption)
                        obtain ⟨ad309, A309_2, c309_2, e309, hx309_0, hx309_1, hx309_2, hl309_2, hi309_2⟩ := at_T37 HR0.out x9_1 p309 q309
                        cases e309
                        replace hx309_0 := (HB.out.cell (World.block_lt_of_cell? w _ hx309_0)).trans hx309_0
                        replace hx309_1 := (HB.out.cell (World.block_lt_of_cell? w _ hx309_1)).trans hx309_1
                        replace hx309_2 := (HB.out.cell (World.block_lt_of_cell? w _ hx309_2)).trans hx309_2
                        have HR309_2 := Aside0.mk hi309_2
                        have HC309_2 := Aside0.mk hl309_2
                        clear hi309_2 hl309_2
                        replace p309 := eq_true p309
                        replace q309 := eq_true q309
                        try go_wp2_with (first | ((with_reducible refine gate_dst (N := 5) rfl ?_); refine box_event ?hg (N := 5) ?hd (cs := #[.int .i64 0, .int .i64 0, .slice none 0 0]) (t := 37) ?hr ?_; (case hd => rfl); (case hg => rfl); (case hr => first | (go_simp; done) | (go_simp; rfl)); intro gb310 hg w16 hbox hb; have n0_ := Aside0.mk (Kd.S_below (Kd.S_elderB (by (with_reducible repeat (first | apply Kd.S_alloc | apply Kd.S_drewN | apply Kd.S_drew)); exact HO_3.out) gb310 (Nat.le_of_eq hg.symm)) hb); have n1_ := Aside0.mk (below_step (by repeat (first | (with_reducible first | exact HB.out | apply below_alloc | apply pw_below_drewN | apply below_drew1) | exact HB.out)) hb); have n2_ := Aside0.mk (hbox); have n3_ := Aside0.mk ((by rw [hg]; exact (below_size (by repeat (first | (with_reducible first | exact HB.out | apply below_alloc | apply pw_below_drewN | apply below_drew1) | exact HB.out))) : w.heap.size ≤ gb310)); have n4_ := Aside0.mk ((by rw [hg]; exact (below_size (by repeat (first | (with_reducible first | exact HB.out | apply below_alloc | apply pw_below_drewN | apply below_drew1) | exact HB.out))) : w.heap.size ≤ gb310)); clear HO_3; clear HB; have HO_3 := n0_; have HB := n1_; have BK310 := n2_; have GW310 := n3_; have GE310 := n4_; clear n0_ n1_ n2_ n3_ n4_; clear hb hbox hg; have hcz17_0 : w16.cell? ⟨gb310, 0, none⟩ = some (.int .i64 0) := (blk_cell BK310.out 0).trans rfl; have hcz17_1 : w16.cell? ⟨gb310, 1, none⟩ = some (.int .i64 0) := (blk_cell BK310.out 1).trans rfl; have hcz17_2 : w16.cell? ⟨gb310, 2, none⟩ = some (.slice none 0 0) := (blk_cell BK310.out 2).trans rfl; have hfz17_0 := blk_frozen BK310.out 0; have hfz17_1 := blk_frozen BK310.out 1; have hfz17_2 := blk_frozen BK310.out 2; obtain ⟨Ao18, co18, eo18⟩ := Kd.S_slice HO_3.out; subst eo18))
                        have n0_ : Aside0 (Kd.S k37 37 (((w16.setCell ⟨gb310, 0, none⟩ (.int .i64 ((rd_T37 l0 x9_1).f0))).setCell ⟨gb310, 1, none⟩ (.int .i64 ((rd_T37 l0 x9_1).f1))).setCell ⟨gb310, 2, none⟩ (.slice A309_2 ((rd_T37 l0 x9_1).f2).length c309_2)) w.heap.size (fun k_ => k_ ≠ gb310) (.slice Ao18 x3_1.length co18) x3_1) := ⟨by (with_reducible repeat (first | apply Kd.S_alloc | apply Kd.S_drewN | apply Kd.S_drew)); exact Kd.S_mono (Kd.S_far (p := ⟨gb310, 2, none⟩) (Kd.S_far (p := ⟨gb310, 1, none⟩) (Kd.S_far (p := ⟨gb310, 0, none⟩) (Kd.S_mono HO_3.out (fun k_ hk => (⟨hk, hk.2⟩ : _ ∧ k_ ≠ gb310))) (fun _ hk => hk.2) (.int .i64 ((rd_T37 l0 x9_1).f0))) (fun _ hk => hk.2) (.int .i64 ((rd_T37 l0 x9_1).f1))) (fun _ hk => hk.2) (.slice A309_2 ((rd_T37 l0 x9_1).f2).length c309_2)) (fun _ hk => hk.1.2)⟩
                        have n1_ : Aside0 ((((w16.setCell ⟨gb310, 0, none⟩ (.int .i64 ((rd_T37 l0 x9_1).f0))).setCell ⟨gb310, 1, none⟩ (.int .i64 ((rd_T37 l0 x9_1).f1))).setCell ⟨gb310, 2, none⟩ (.slice A309_2 ((rd_T37 l0 x9_1).f2).length c309_2)).heap[gb310]? = some (.cells #[.int .i64 ((rd_T37 l0 x9_1).f0), .int .i64 ((rd_T37 l0 x9_1).f1), .slice A309_2 ((rd_T37 l0 x9_1).f2).length c309_2] 37 (0, 0))) := ⟨by (with_reducible repeat (first | refine blk_drewN ?_ _ | refine blk_drew ?_ | refine blk_alloc ?_ _)); refine blk_put (cs := #[.int .i64 ((rd_T37 l0 x9_1).f0), .int .i64 ((rd_T37 l0 x9_1).f1), .slice none 0 0]) ?_ 2 _ rfl; (with_reducible repeat (first | refine blk_drewN ?_ _ | refine blk_drew ?_ | refine blk_alloc ?_ _)); refine blk_put (cs := #[.int .i64 ((rd_T37 l0 x9_1).f0), .int .i64 0, .slice none 0 0]) ?_ 1 _ rfl; (with_reducible repeat (first | refine blk_drewN ?_ _ | refine blk_drew ?_ | refine blk_alloc ?_ _)); refine blk_put (cs := #[.int .i64 0, .int .i64 0, .slice none 0 0]) ?_ 0 _ rfl; (with_reducible repeat (first | refine blk_drewN ?_ _ | refine blk_drew ?_ | refine blk_alloc ?_ _)); exact BK310.out⟩
                        have n2_ : Aside0 (Below w.heap.size w (((w16.setCell ⟨gb310, 0, none⟩ (.int .i64 ((rd_T37 l0 x9_1).f0))).setCell ⟨gb310, 1, none⟩ (.int .i64 ((rd_T37 l0 x9_1).f1))).setCell ⟨gb310, 2, none⟩ (.slice A309_2 ((rd_T37 l0 x9_1).f2).length c309_2))) := ⟨by repeat (first | (with_reducible first | exact HB.out | apply below_alloc | apply pw_below_drewN | apply below_drew1 | refine below_set ?_ GE310.out) | exact HB.out)⟩
                        (try clear HO_3)
                        (try clear BK310)
                        (try clear HB)
                        generalize (((w16.setCell ⟨gb310, 0, none⟩ (.int .i64 ((rd_T37 l0 x9_1).f0))).setCell ⟨gb310, 1, none⟩ (.int .i64 ((rd_T37 l0 x9_1).f1))).setCell ⟨gb310, 2, none⟩ (.slice A309_2 ((rd_T37 l0 x9_1).f2).length c309_2)) = w19 at n0_ n1_ n2_ ⊢
                        have HO_3 := n0_
                        have BK310 := n1_
                        have HB := n2_
                        clear n0_ n1_ n2_
                        have n0_ := Aside0.mk (Kd.S_drew HO_3.out)
                        have n1_ := Aside0.mk (blk_drew BK310.out)
                        have n2_ := Aside0.mk (below_drew1 HB.out)
                        clear HO_3
                        clear BK310
                        clear HB
                        have HO_3 := n0_
                        have BK310 := n1_
                        have HB := n2_
                        clear n0_ n1_ n2_
                        have p311 : 0 ≤ ((ji10) : Int) := of_decide_eq_true (by first | (with_reducible assumption) | assumption)
                        have q311 : (ji10) < (x3_1.length : Int) := of_decide_eq_true (by first | (with_reducible assumption) | assumption)
                        obtain ⟨ad311, A311_2, c311_2, e311, hx311_0, hx311_1, hx311_2, hl311_2, hi311_2⟩ := at_T37 (Kd.S_reads' HO_3.out).2.2 (ji10) p311 q311
                        cases e311
                        obtain ⟨ce311, hce311, hMe311, hcc311⟩ := Kd.S_get HO_3.out z37 (ji10) p311 (by first | exact q311 | exact of_decide_eq_true (by first | (with_reducible assumption) | assumption) | (have e_ := (Kd.S_reads' HO_3.out).1; omega))
                        obtain ⟨ve311_2, rfl, ge311_2⟩ := k37_openM hMe311
                        have hv311_2 := hcc311 2 _ rfl
                        rw [add_field _ _ 2 (by omega)] at hv311_2
                        replace hv311_2 := Option.some.inj (hv311_2.symm.trans hx311_2)
                        rw [hv311_2] at ge311_2
                        have HL311_2 := Aside0.mk (show Kd.R (Kd.int .u8) 5 _ _ _ _ ((rd_T37 x3_1 (ji10)).f2) from ge311_2)
                        clear hv311_2 ge311_2
                        have HX311_2 := Aside0.mk hx311_2
                        clear hcc311 hce311
                        have HR311_2 := Aside0.mk hi311_2
                        have HC311_2 := Aside0.mk hl311_2
                        clear hi311_2 hl311_2
                        replace p311 := eq_true p311
                        replace q311 := eq_true q311
                        refine start_ (n := 14) (S := fun w' => w'.cell? ⟨gb310, 0, none⟩ = some (.int .i64 ((rd_T37 l0 x9_1).f0)) ∧ w'.cell? ⟨gb310, 1, none⟩ = some (.int .i64 ((rd_T37 l0 x9_1).f1)) ∧ w'.cell? ⟨gb310, 2, none⟩ = some (.slice A309_2 ((rd_T37 l0 x9_1).f2).length c309_2) ∧ w'.cell? (ad311.add (((ji10)).toNat * 3)) = some (.int .i64 ((rd_T37 x3_1 (ji10)).f0)) ∧ w'.cell? ⟨(ad311.add (((ji10)).toNat * 3)).block, (ad311.add (((ji10)).toNat * 3)).off + 1, none⟩ = some (.int .i64 ((rd_T37 x3_1 (ji10)).f1)) ∧ w'.cell? ⟨(ad311.add (((ji10)).toNat * 3)).block, (ad311.add (((ji10)).toNat * 3)).off + 2, none⟩ = some (.slice A311_2 ((rd_T37 x3_1 (ji10)).f2).length c311_2)) (ds := []) #[false, false, false, false, false, false, false, false, false, false, false, false, false, false] (by kernel_rfl) rfl rfl ⟨(blk_cell BK310.out 0).trans rfl, (blk_cell BK310.out 1).trans rfl, (blk_cell BK310.out 2).trans rfl, hx311_0, hx311_1, hx311_2⟩ (fun hHeld => ?_); refine with_tabW event_Merge.tab9 event_Merge.bits9 (fun HT_ HW_ => ?_)
                        generalize w19.drew = w20 at HO_3 BK310 HB HL311_2 HR311_2 HX311_2 hx311_0 hx311_1 hx311_2 hHeld ⊢
                        refine pure_ (i := 0) (N := some 29) (v := ?_) (a' := ?_) #[true, false, false, false, false, false, false, false, false, false, false, false, false, false] rfl rfl (any_of HT_.out (by kernel_rfl)) (fun _ _ _ h => h) (Or.inl ⟨by rfl, ?_⟩) ?_ ?_
                        rotate_left
                        · intro w'
                          go_simp
                          with_reducible rfl
                        rotate_left
                        · simp only [Act.put, List.setIfInBounds_toArray, List.set_cons_zero, List.set_cons_succ, i64_w, i32_w]
                          rfl
                        refine pure_ (i := 1) (N := some 30) (v := ?_) (a' := ?_) #[true, true, false, false, false, false, false, false, false, false, false, false, false, false] rfl rfl (any_of HT_.out (by kernel_rfl)) (fun _ _ _ h => h) (Or.inl ⟨by rfl, ?_⟩) ?_ ?_
                        rotate_left
                        · intro w'
                          go_simp
                          with_reducible rfl
                        rotate_left
                        · simp only [Act.put, List.setIfInBounds_toArray, List.set_cons_zero, List.set_cons_succ, i64_w, i32_w]
                          rfl
                        refine pure_ (i := 2) (N := some 31) (v := ?_) (a' := ?_) #[true, true, true, false, false, false, false, false, false, false, false, false, false, false] rfl rfl (any_of HT_.out (by kernel_rfl)) (fun _ _ _ h => h) (Or.inl ⟨by rfl, ?_⟩) ?_ ?_
                        rotate_left
                        · intro w'
                          go_simp
                          with_reducible rfl
                        rotate_left
                        · simp only [Act.put, List.setIfInBounds_toArray, List.set_cons_zero, List.set_cons_succ, i64_w, i32_w]
                          rfl
                        refine pure_ (i := 3) (N := some 32) (v := ?_) (a' := ?_) #[true, true, true, true, false, false, false, false, false, false, false, false, false, false] rfl rfl (any_of HT_.out (by kernel_rfl)) (fun _ _ _ h => h) (Or.inl ⟨by rfl, ?_⟩) ?_ ?_
                        rotate_left
                        · intro w'
                          go_simp
                          with_reducible rfl
                        rotate_left
                        · simp only [Act.put, List.setIfInBounds_toArray, List.set_cons_zero, List.set_cons_succ, i64_w, i32_w]
                          rfl
                        refine pure_ (i := 4) (N := some 33) (v := ?_) (a' := ?_) #[true, true, true, true, true, false, false, false, false, false, false, false, false, false] rfl rfl (any_of HT_.out (by kernel_rfl)) (fun _ _ _ h => h) (Or.inl ⟨by rfl, ?_⟩) ?_ ?_
                        rotate_left
                        · intro w'
                          go_simp
                          with_reducible rfl
                        rotate_left
                        · simp only [Act.put, List.setIfInBounds_toArray, List.set_cons_zero, List.set_cons_succ, i64_w, i32_w]
                          rfl
                        refine pure_ (i := 5) (N := some 34) (v := ?_) (a' := ?_) #[true, true, true, true, true, true, false, false, false, false, false, false, false, false] rfl rfl (any_of HT_.out (by kernel_rfl)) (fun _ _ _ h => h) (Or.inl ⟨by rfl, ?_⟩) ?_ ?_
                        rotate_left
                        · intro w'
                          go_simp
                          with_reducible rfl
                        rotate_left
                        · simp only [Act.put, List.setIfInBounds_toArray, List.set_cons_zero, List.set_cons_succ, i64_w, i32_w]
                          rfl
                        refine pure_ (i := 6) (N := some 35) (v := ?_) (a' := ?_) #[true, true, true, true, true, true, true, false, false, false, false, false, false, false] rfl rfl (any_of HT_.out (by kernel_rfl)) (fun _ _ _ h => h) (Or.inl ⟨by rfl, ?_⟩) ?_ ?_
                        rotate_left
                        · intro w'
                          go_simp
                          with_reducible rfl
                        rotate_left
                        · simp only [Act.put, List.setIfInBounds_toArray, List.set_cons_zero, List.set_cons_succ, i64_w, i32_w]
                          rfl
                        refine pure_ (i := 7) (N := some 36) (v := ?_) (a' := ?_) #[true, true, true, true, true, true, true, true, false, false, false, false, false, false] rfl rfl (any_of HT_.out (by kernel_rfl)) (fun _ _ _ h => h) (Or.inl ⟨by rfl, ?_⟩) ?_ ?_
                        rotate_left
                        · intro w'
                          go_simp
                          with_reducible rfl
                        rotate_left
                        · simp only [Act.put, List.setIfInBounds_toArray, List.set_cons_zero, List.set_cons_succ, i64_w, i32_w]
                          rfl
                        refine pure_ (i := 9) (N := some 38) (v := ?_) (a' := ?_) #[true, true, true, true, true, true, true, true, false, true, false, false, false, false] rfl rfl (any_of HT_.out (by kernel_rfl)) (fun _ _ _ h => h) (Or.inl ⟨by rfl, ?_⟩) ?_ ?_
                        rotate_left
                        · intro w'
                          go_simp
                          with_reducible rfl
                        rotate_left
                        · simp only [Act.put, List.setIfInBounds_toArray, List.set_cons_zero, List.set_cons_succ, i64_w, i32_w]
                          rfl
                        refine take_ (i := 8) (N := some 37) (v := ?_) (a' := ?_) #[true, true, true, true, true, true, true, true, true, true, false, false, false, false] rfl rfl (take_ofW HT_.out HW_.out (by kernel_rfl)) (fun _ _ _ h => h) (Or.inl ⟨by rfl, ?_⟩) hHeld ?_ ?_
                        rotate_left
                        · rintro w' ⟨s0, s1, s2, s3, s4, s5⟩
                          go_simp
                          with_reducible rfl
                        rotate_left
                        · simp only [Act.put, List.setIfInBounds_toArray, List.set_cons_zero, List.set_cons_succ, i64_w, i32_w]
                          rfl
                        refine take_ (i := 10) (N := some 39) (v := ?_) (a' := ?_) #[true, true, true, true, true, true, true, true, true, true, true, false, false, false] rfl rfl (take_ofW HT_.out HW_.out (by kernel_rfl)) (fun _ _ _ h => h) (Or.inl ⟨by rfl, ?_⟩) hHeld ?_ ?_
                        rotate_left
                        · rintro w' ⟨s0, s1, s2, s3, s4, s5⟩
                          go_simp
                          with_reducible rfl
                        rotate_left
                        · simp only [Act.put, List.setIfInBounds_toArray, List.set_cons_zero, List.set_cons_succ, i64_w, i32_w]
                          rfl
                        refine pure_ (i := 11) (N := some 40) (v := ?_) (a' := ?_) #[true, true, true, true, true, true, true, true, true, true, true, true, false, false] rfl rfl (any_of HT_.out (by kernel_rfl)) (fun _ _ _ h => h) (Or.inl ⟨by rfl, ?_⟩) ?_ ?_
                        rotate_left
                        · intro w'
                          go_simp
                          with_reducible rfl
                        rotate_left
                        · simp only [Act.put, List.setIfInBounds_toArray, List.set_cons_zero, List.set_cons_succ, i64_w, i32_w]
                          rfl
                        refine pure_ (i := 12) (N := some 41) (v := ?_) (a' := ?_) #[true, true, true, true, true, true, true, true, true, true, true, true, true, false] rfl rfl (any_of HT_.out (by kernel_rfl)) (fun _ _ _ h => h) (Or.inl ⟨by rfl, ?_⟩) ?_ ?_
                        rotate_left
                        · intro w'
                          go_simp
                          with_reducible rfl
                        rotate_left
                        · simp only [Act.put, List.setIfInBounds_toArray, List.set_cons_zero, List.set_cons_succ, i64_w, i32_w]
                          rfl
                        refine pure_ (i := 13) (N := some 28) (v := ?_) (a' := ?_) #[true, true, true, true, true, true, true, true, true, true, true, true, true, true] rfl rfl (any_of HT_.out (by kernel_rfl)) (fun _ _ _ h => h) (Or.inl ⟨by rfl, ?_⟩) ?_ ?_
                        rotate_left
                        · intro w'
                          go_simp
                          with_reducible rfl
                        rotate_left
                        · simp only [Act.put, List.setIfInBounds_toArray, List.set_cons_zero, List.set_cons_succ, i64_w, i32_w]
                          rfl
                        refine done_ (done_of HT_.out (by kernel_rfl)) ?_
                        try go_wp2
                        have n0_ := Aside0.mk (Kd.S_drew HO_3.out)
                        have n1_ := Aside0.mk (Kd.R_drew HL311_2.out)
                        have n2_ := Aside0.mk (blk_drew BK310.out)
                        have n3_ := Aside0.mk (Kd.C_drew HR311_2.out)
                        have n4_ := Aside0.mk (below_drew1 HB.out)
                        clear HO_3
                        clear HL311_2
                        clear BK310
                        clear HR311_2
                        clear HB
                        have HO_3 := n0_
                        have HL311_2 := n1_
                        have BK310 := n2_
                        have HR311_2 := n3_
                        have HB := n4_
                        clear n0_ n1_ n2_ n3_ n4_
                        have p312 : 0 ≤ ((ji10) : Int) := of_decide_eq_true (by first | (with_reducible assumption) | assumption)
                        have q312 : (ji10) < (x3_1.length : Int) := of_decide_eq_true (by first | (with_reducible assumption) | assumption)
                        obtain ⟨ad312, A312_2, c312_2, e312, hx312_0, hx312_1, hx312_2, hl312_2, hi312_2⟩ := at_T37 (Kd.S_reads' HO_3.out).2.2 (ji10) p312 q312
                        obtain rfl : ad311 = ad312 := (by injection e312)
                        obtain ⟨ce312, hce312, hMe312, hcc312⟩ := Kd.S_get HO_3.out z37 (ji10) p312 (by first | exact q312 | exact of_decide_eq_true (by first | (with_reducible assumption) | assumption) | (have e_ := (Kd.S_reads' HO_3.out).1; omega))
                        obtain ⟨ve312_2, rfl, ge312_2⟩ := k37_openM hMe312
                        have hv312_2 := hcc312 2 _ rfl
                        rw [add_field _ _ 2 (by omega)] at hv312_2
                        replace hv312_2 := Option.some.inj (hv312_2.symm.trans hx312_2)
                        rw [hv312_2] at ge312_2
                        have HL312_2 := Aside0.mk (show Kd.R (Kd.int .u8) 5 _ _ _ _ ((rd_T37 x3_1 (ji10)).f2) from ge312_2)
                        clear hv312_2 ge312_2
                        have HX312_2 := Aside0.mk hx312_2
                        clear hcc312 hce312
                        have HR312_2 := Aside0.mk hi312_2
                        have HC312_2 := Aside0.mk hl312_2
                        clear hi312_2 hl312_2
                        replace p312 := eq_true p312
                        replace q312 := eq_true q312
                        obtain ⟨go22, co22, eo22, gb22, gl22, cl22, HG22⟩ := Kd.S_form HO_3.out (by have h_ : ((ji10) : Int) < ((x3_1.length : Int) : Int) := of_decide_eq_true (by first | (with_reducible assumption) | assumption); have h2_ : 0 ≤ ((ji10) : Int) := (of_decide_eq_true (by first | (with_reducible assumption) | assumption)); omega)
                        (first | cases eo22 | (injection eo22 with ea_ en_ ec_; (first | subst ea_ | (injection ea_ with ea_; subst ea_)); subst ec_; clear en_))
                        have GB22 := Aside0.mk gb22
                        have GG22 := Aside0.mk HG22
                        clear gb22 gl22 HG22
                        (first | simp only [add_plain] at hx311_0 | skip)
                        (first | simp only [add_plain] at hx311_1 | skip)
                        (first | simp only [add_plain] at hx311_2 | skip)
                        (first | simp only [add_plain] at hx312_0 | skip)
                        (first | simp only [add_plain] at hx312_1 | skip)
                        (first | simp only [add_plain] at hx312_2 | skip)
                        obtain ⟨oki22, ce22, hcl22, hM22, hcc22, _, _, hH22⟩ := Kd.S_elem HO_3.out z37 ((ji10) : Int) (of_decide_eq_true (by first | (with_reducible assumption) | assumption)) (by have h_ : ((ji10) : Int) < ((x3_1.length : Int) : Int) := of_decide_eq_true (by first | (with_reducible assumption) | assumption); first | exact h_ | (have e_ := (Kd.S_reads' HO_3.out).1; omega) | simpa using h_)
                        obtain ⟨ve22_2, rfl, ge22_2⟩ := k37_openM hM22
                        have hv22 := hcc22 2 _ rfl
                        have hX22 := HX312_2.out
                        (try simp only [add_plain] at hX22)
                        (try simp only [Nat.add_zero] at hv22)
                        replace hv22 := Option.some.inj (hv22.symm.trans hX22)
                        subst hv22
                        clear hX22 hcc22 hcl22
                        have UU22 := Aside0.mk (show Kd.R (Kd.int .u8) 5 _ w.heap.size oki22 (.slice A312_2 ((rd_T37 x3_1 (ji10)).f2).length c312_2) ((rd_T37 x3_1 (ji10)).f2) from ge22_2)
                        have HH22 := Aside0.mk hH22
                        have HN22 := Aside0.mk (Kd.S_reads' HO_3.out).1
                        clear hH22 ge22_2
                        refine start_ (n := 15) (S := fun w' => w'.cell? ⟨gb310, 0, none⟩ = some (.int .i64 ((rd_T37 l0 x9_1).f0)) ∧ w'.cell? ⟨gb310, 1, none⟩ = some (.int .i64 ((rd_T37 l0 x9_1).f1)) ∧ w'.cell? ⟨gb310, 2, none⟩ = some (.slice A309_2 ((rd_T37 l0 x9_1).f2).length c309_2) ∧ w'.cell? ⟨go22, (((ji10)).toNat * 3), none⟩ = some (.int .i64 ((rd_T37 x3_1 (ji10)).f0)) ∧ w'.cell? ⟨go22, (((ji10)).toNat * 3) + 1, none⟩ = some (.int .i64 ((rd_T37 x3_1 (ji10)).f1)) ∧ w'.cell? ⟨go22, (((ji10)).toNat * 3) + 2, none⟩ = some (.slice A312_2 ((rd_T37 x3_1 (ji10)).f2).length c312_2)) (ds := [14]) #[false, false, false, false, false, false, false, false, false, false, false, false, false, false, false] (by kernel_rfl) rfl rfl ⟨(blk_cell BK310.out 0).trans rfl, (blk_cell BK310.out 1).trans rfl, (blk_cell BK310.out 2).trans rfl, hx312_0, hx312_1, hx312_2⟩ (fun hHeld => ?_); refine with_tabW event_Merge.tab10 event_Merge.bits10 (fun HT_ HW_ => ?_)
                        generalize w20.drew = w21 at HO_3 HL311_2 BK310 HR311_2 HB GG22 HH22 HL312_2 HR312_2 HX312_2 UU22 hx311_0 hx311_1 hx311_2 hx312_0 hx312_1 hx312_2 hHeld ⊢
                        refine pure_ (i := 0) (N := some 42) (v := ?_) (a' := ?_) #[true, false, false, false, false, false, false, false, false, false, false, false, false, false, false] rfl rfl (any_of HT_.out (by kernel_rfl)) (fun _ _ _ h => h) (Or.inl ⟨by rfl, ?_⟩) ?_ ?_
                        rotate_left
                        · intro w'
                          go_simp
                          with_reducible rfl
                        rotate_left
                        · simp only [Act.put, List.setIfInBounds_toArray, List.set_cons_zero, List.set_cons_succ, i64_w, i32_w]
                          rfl
                        refine pure_ (i := 1) (N := some 43) (v := ?_) (a' := ?_) #[true, true, false, false, false, false, false, false, false, false, false, false, false, false, false] rfl rfl (any_of HT_.out (by kernel_rfl)) (fun _ _ _ h => h) (Or.inl ⟨by rfl, ?_⟩) ?_ ?_
                        rotate_left
                        · intro w'
                          go_simp
                          with_reducible rfl
                        rotate_left
                        · simp only [Act.put, List.setIfInBounds_toArray, List.set_cons_zero, List.set_cons_succ, i64_w, i32_w]
                          rfl
                        refine pure_ (i := 2) (N := some 44) (v := ?_) (a' := ?_) #[true, true, true, false, false, false, false, false, false, false, false, false, false, false, false] rfl rfl (any_of HT_.out (by kernel_rfl)) (fun _ _ _ h => h) (Or.inl ⟨by rfl, ?_⟩) ?_ ?_
                        rotate_left
                        · intro w'
                          go_simp
                          with_reducible rfl
                        rotate_left
                        · simp only [Act.put, List.setIfInBounds_toArray, List.set_cons_zero, List.set_cons_succ, i64_w, i32_w]
                          rfl
                        refine pure_ (i := 3) (N := some 45) (v := ?_) (a' := ?_) #[true, true, true, true, false, false, false, false, false, false, false, false, false, false, false] rfl rfl (any_of HT_.out (by kernel_rfl)) (fun _ _ _ h => h) (Or.inl ⟨by rfl, ?_⟩) ?_ ?_
                        rotate_left
                        · intro w'
                          go_simp
                          with_reducible rfl
                        rotate_left
                        · simp only [Act.put, List.setIfInBounds_toArray, List.set_cons_zero, List.set_cons_succ, i64_w, i32_w]
                          rfl
                        refine pure_ (i := 4) (N := some 46) (v := ?_) (a' := ?_) #[true, true, true, true, true, false, false, false, false, false, false, false, false, false, false] rfl rfl (any_of HT_.out (by kernel_rfl)) (fun _ _ _ h => h) (Or.inl ⟨by rfl, ?_⟩) ?_ ?_
                        rotate_left
                        · intro w'
                          go_simp
                          with_reducible rfl
                        rotate_left
                        · simp only [Act.put, List.setIfInBounds_toArray, List.set_cons_zero, List.set_cons_succ, i64_w, i32_w]
                          rfl
                        refine pure_ (i := 5) (N := some 47) (v := ?_) (a' := ?_) #[true, true, true, true, true, true, false, false, false, false, false, false, false, false, false] rfl rfl (any_of HT_.out (by kernel_rfl)) (fun _ _ _ h => h) (Or.inl ⟨by rfl, ?_⟩) ?_ ?_
                        rotate_left
                        · intro w'
                          go_simp
                          with_reducible rfl
                        rotate_left
                        · simp only [Act.put, List.setIfInBounds_toArray, List.set_cons_zero, List.set_cons_succ, i64_w, i32_w]
                          rfl
                        refine pure_ (i := 6) (N := some 48) (v := ?_) (a' := ?_) #[true, true, true, true, true, true, true, false, false, false, false, false, false, false, false] rfl rfl (any_of HT_.out (by kernel_rfl)) (fun _ _ _ h => h) (Or.inl ⟨by rfl, ?_⟩) ?_ ?_
                        rotate_left
                        · intro w'
                          go_simp
                          with_reducible rfl
                        rotate_left
                        · simp only [Act.put, List.setIfInBounds_toArray, List.set_cons_zero, List.set_cons_succ, i64_w, i32_w]
                          rfl
                        refine pure_ (i := 7) (N := some 49) (v := ?_) (a' := ?_) #[true, true, true, true, true, true, true, true, false, false, false, false, false, false, false] rfl rfl (any_of HT_.out (by kernel_rfl)) (fun _ _ _ h => h) (Or.inl ⟨by rfl, ?_⟩) ?_ ?_
                        rotate_left
                        · intro w'
                          go_simp
                          with_reducible rfl
                        rotate_left
                        · simp only [Act.put, List.setIfInBounds_toArray, List.set_cons_zero, List.set_cons_succ, i64_w, i32_w]
                          rfl
                        refine pure_ (i := 9) (N := some 51) (v := ?_) (a' := ?_) #[true, true, true, true, true, true, true, true, false, true, false, false, false, false, false] rfl rfl (any_of HT_.out (by kernel_rfl)) (fun _ _ _ h => h) (Or.inl ⟨by rfl, ?_⟩) ?_ ?_
                        rotate_left
                        · intro w'
                          go_simp
                          with_reducible rfl
                        rotate_left
                        · simp only [Act.put, List.setIfInBounds_toArray, List.set_cons_zero, List.set_cons_succ, i64_w, i32_w]
                          rfl
                        refine take_ (i := 8) (N := some 50) (v := ?_) (a' := ?_) #[true, true, true, true, true, true, true, true, true, true, false, false, false, false, false] rfl rfl (take_ofW HT_.out HW_.out (by kernel_rfl)) (fun _ _ _ h => h) (Or.inl ⟨by rfl, ?_⟩) hHeld ?_ ?_
                        rotate_left
                        · rintro w' ⟨s0, s1, s2, s3, s4, s5⟩
                          go_simp
                          with_reducible rfl
                        rotate_left
                        · simp only [Act.put, List.setIfInBounds_toArray, List.set_cons_zero, List.set_cons_succ, i64_w, i32_w]
                          rfl
                        refine take_ (i := 10) (N := some 52) (v := ?_) (a' := ?_) #[true, true, true, true, true, true, true, true, true, true, true, false, false, false, false] rfl rfl (take_ofW HT_.out HW_.out (by kernel_rfl)) (fun _ _ _ h => h) (Or.inl ⟨by rfl, ?_⟩) hHeld ?_ ?_
                        rotate_left
                        · rintro w' ⟨s0, s1, s2, s3, s4, s5⟩
                          go_simp
                          with_reducible rfl
                        rotate_left
                        · simp only [Act.put, List.setIfInBounds_toArray, List.set_cons_zero, List.set_cons_succ, i64_w, i32_w]
                          rfl
                        refine one_ (i := 11) (N := some 53) #[true, true, true, true, true, true, true, true, true, true, true, true, false, false, false] rfl rfl (one_of HT_.out (by kernel_rfl)) (by decide) (fun K hK => ?_)
                        refine Kd.R_append_rows_step (Kd.int .u8) (w0 := w) w.heap.size (by rfl) (.tmp 50) (.tmp 52) 31 5 (.int .u8 0) 1 rfl Try.underlying31 info5 rfl (by decide) (by omega) (.slice A312_2 ((rd_T37 x3_1 (ji10)).f2).length c312_2) ((rd_T37 x3_1 (ji10)).f2) ((rd_T37 l0 x9_1).f2) _ _ _ (fun k_ => oki22 k_ ∨ ((fun k_ => k_ ≠ gb310)) k_ ∧ w21.heap.size ≤ k_) (fun _ => False) rfl rfl ?aO ?aR (fun _ _ h => h) (fun _ h => h.elim) ?aF ?aB ?aS ?aL ?_
                        (case aR => repeat (first | exact (Kd.C_below HR309_2.out HB.out) | (with_reducible refine Kd.C_alloc ?_ _) | (with_reducible refine Kd.C_drewN ?_ _) | (with_reducible refine Kd.C_drew ?_)))
                        (case aB => exact (by repeat (first | (with_reducible first | exact HB.out | apply below_alloc | apply pw_below_drewN | apply below_drew1 | refine below_set ?_ GE310.out) | exact HB.out)))
                        (case aF => exact (fun k_ hk => .inr ⟨Kd.freshB (g := gb310) (o := .cells #[.int .i64 ((rd_T37 l0 x9_1).f0), .int .i64 ((rd_T37 l0 x9_1).f1), .slice A309_2 ((rd_T37 l0 x9_1).f2).length c309_2] 37 (0, 0)) (by (with_reducible repeat (first | refine blk_drewN ?_ _ | refine blk_drew ?_ | refine blk_alloc ?_ _)); exact BK310.out) k_ hk, hk⟩))
                        (case aO => exact (by (with_reducible repeat (first | apply Kd.R_alloc | apply Kd.R_drewN | apply Kd.R_drew)); exact Kd.R_mono UU22.out (fun _ hk => .inl hk)))
                        (case aS => exact (below_size (by repeat (first | (with_reducible first | exact HB.out | apply below_alloc | apply pw_below_drewN | apply below_drew1 | refine below_set ?_ GE310.out) | exact HB.out))))
                        (case aL => have := LMc14.out; omega)
                        intro v314 w23 ho hb hg hat
                        (first | have HS3_ := cell_grown hg (hHeld.2.2.2.1) (by first | (rw [add_block]; exact (fun e_ => ((HL312_2.out.1 _ e_.symm).2) rfl)) | (show some (Addr.add _ _).block ≠ _; rw [add_block]; exact (fun e_ => ((HL312_2.out.1 _ e_.symm).2) rfl)) | exact (fun e_ => ((HL312_2.out.1 _ e_.symm).2) rfl)) | have HS3_ := cell_grown hg (cell_unalloc (hHeld.2.2.2.1) (by first | (rw [add_block]; exact Kd.S_lt HO_3.out _ rfl) | (show (Addr.add _ _).block < _; rw [add_block]; exact Kd.S_lt HO_3.out _ rfl) | exact Kd.S_lt HO_3.out _ rfl)) (by first | (rw [add_block]; exact (fun e_ => ((HL312_2.out.1 _ e_.symm).2) rfl)) | (show some (Addr.add _ _).block ≠ _; rw [add_block]; exact (fun e_ => ((HL312_2.out.1 _ e_.symm).2) rfl)) | exact (fun e_ => ((HL312_2.out.1 _ e_.symm).2) rfl)))
                        (first | have HS4_ := cell_grown hg (hHeld.2.2.2.2.1) (by first | (rw [add_block]; exact (fun e_ => ((HL312_2.out.1 _ e_.symm).2) rfl)) | (show some (Addr.add _ _).block ≠ _; rw [add_block]; exact (fun e_ => ((HL312_2.out.1 _ e_.symm).2) rfl)) | exact (fun e_ => ((HL312_2.out.1 _ e_.symm).2) rfl)) | have HS4_ := cell_grown hg (cell_unalloc (hHeld.2.2.2.2.1) (by first | (rw [add_block]; exact Kd.S_lt HO_3.out _ rfl) | (show (Addr.add _ _).block < _; rw [add_block]; exact Kd.S_lt HO_3.out _ rfl) | exact Kd.S_lt HO_3.out _ rfl)) (by first | (rw [add_block]; exact (fun e_ => ((HL312_2.out.1 _ e_.symm).2) rfl)) | (show some (Addr.add _ _).block ≠ _; rw [add_block]; exact (fun e_ => ((HL312_2.out.1 _ e_.symm).2) rfl)) | exact (fun e_ => ((HL312_2.out.1 _ e_.symm).2) rfl)))
                        (first | have HS5_ := cell_grown hg (hHeld.2.2.2.2.2) (by first | (rw [add_block]; exact (fun e_ => ((HL312_2.out.1 _ e_.symm).2) rfl)) | (show some (Addr.add _ _).block ≠ _; rw [add_block]; exact (fun e_ => ((HL312_2.out.1 _ e_.symm).2) rfl)) | exact (fun e_ => ((HL312_2.out.1 _ e_.symm).2) rfl)) | have HS5_ := cell_grown hg (cell_unalloc (hHeld.2.2.2.2.2) (by first | (rw [add_block]; exact Kd.S_lt HO_3.out _ rfl) | (show (Addr.add _ _).block < _; rw [add_block]; exact Kd.S_lt HO_3.out _ rfl) | exact Kd.S_lt HO_3.out _ rfl)) (by first | (rw [add_block]; exact (fun e_ => ((HL312_2.out.1 _ e_.symm).2) rfl)) | (show some (Addr.add _ _).block ≠ _; rw [add_block]; exact (fun e_ => ((HL312_2.out.1 _ e_.symm).2) rfl)) | exact (fun e_ => ((HL312_2.out.1 _ e_.symm).2) rfl)))
                        rw [← Ny313.out] at ho
                        have n0_ := Aside0.mk (blk_grown (g := gb310) (o := .cells #[.int .i64 ((rd_T37 l0 x9_1).f0), .int .i64 ((rd_T37 l0 x9_1).f1), .slice A309_2 ((rd_T37 l0 x9_1).f2).length c309_2] 37 (0, 0)) (by (with_reducible repeat (first | refine blk_drewN ?_ _ | refine blk_drew ?_ | refine blk_alloc ?_ _)); exact BK310.out) hg (Kd.R_ne HL312_2.out BK310.out (by decide)))
                        have n1_ := Aside0.mk (hb)
                        have n2_ := Aside0.mk (Kd.H_grown (Kd.H_widen (by repeat (first | exact HH22.out | refine Kd.H_alloc ?_ _ | refine Kd.H_drewN ?_ _ | refine Kd.H_drew ?_))) hg (fun k_ e_ => .inl (UU22.out.1 k_ e_)))
                        have n3_ := Aside0.mk (ho)
                        clear BK310
                        clear HB
                        clear HH22
                        clear HO_3
                        clear UU22
                        clear HL311_2
                        clear HL312_2
                        have BK310 := n0_
                        have HB := n1_
                        have HH22 := n2_
                        have HO315 := n3_
                        clear n0_ n1_ n2_ n3_
                        clear ho hb hg hat
                        have p15 : 0 ≤ ((ji10) : Int) := of_decide_eq_true (by first | (with_reducible assumption) | assumption)
                        have q15 : ((ji10) : Int) < ((x3_1.length : Int) : Int) := of_decide_eq_true (by first | (with_reducible assumption) | assumption)
                        replace p15 := eq_true p15
                        replace q15 := eq_true q15
                        obtain ⟨Ao26, co26, eo26⟩ := Kd.R_slice HO315.out
                        (first | subst eo26 | (injection eo26 with f1_ f2_ f3_; have f4_ := f1_.symm; have f5_ := f3_.symm; clear f1_ f2_ f3_; subst f4_; subst f5_))
                        obtain ⟨_, _, hraw24, _, _, hcc24, _⟩ := Kd.H_raw HH22.out (of_decide_eq_true (by first | (with_reducible assumption) | assumption)) (by have h_ : ((ji10) : Int) < ((x3_1.length : Int) : Int) := of_decide_eq_true (by first | (with_reducible assumption) | assumption); first | exact h_ | (have e_ := (HN22.out); omega) | simpa using h_)
                        obtain ⟨_, hfr24⟩ := Kd.H_at HH22.out (of_decide_eq_true (by first | (with_reducible assumption) | assumption)) (by have h_ : ((ji10) : Int) < ((x3_1.length : Int) : Int) := of_decide_eq_true (by first | (with_reducible assumption) | assumption); first | exact h_ | (have e_ := (HN22.out); omega) | simpa using h_)
                        have hx24_0 := hcc24 2 _ rfl
                        have hf24_0 := hfr24 2
                        (try rw [show (k37).sz = 3 from rfl] at hx24_0)
                        (try rw [show (k37).sz = 3 from rfl] at hf24_0)
                        have HP24 := Kd.S_seg0 HH22.out (of_decide_eq_true (by first | (with_reducible assumption) | assumption)) (by have h_ : ((ji10) : Int) < ((x3_1.length : Int) : Int) := of_decide_eq_true (by first | (with_reducible assumption) | assumption); first | exact h_ | (have e_ := (HN22.out); omega) | simpa using h_) (seg := [.slice Ao26 y313.length co26]) (j := 2) (show 3 ≤ 3 from by decide) (x' := (⟨(rd_T37 x3_1 (ji10)).f0, (rd_T37 x3_1 (ji10)).f1, y313⟩ : S37)) (k37_mkM _ _ _ (⟨(rd_T37 x3_1 (ji10)).f0, (rd_T37 x3_1 (ji10)).f1, y313⟩ : S37) HO315.out) (fun _ hk => hk)
                        clear hcc24 hfr24
                        have HNB310_go22 := Aside0.mk (show gb310 ≠ go22 from by obtain ⟨_, f_, hR_⟩ := HH22.out; have hk := (hR_.1 _ rfl).1; exact fun e_ => (hk) e_.symm)
                        have HS24 := HP24.1
                        rw [← Ny316.out] at HS24
                        have HQ24 := Aside0.mk HS24
                        obtain ⟨_, hgg24⟩ := Kd.R_typed hraw24 go22 rfl
                        have GG24_ := Aside0.mk hgg24
                        clear HP24 HS24 hgg24
                        refine hK.out _ _ ⟨(blk_cell BK310.out 0).trans rfl, (blk_cell BK310.out 1).trans rfl, (blk_cell BK310.out 2).trans rfl, HS3_, HS4_, HS5_⟩ (fun hHeld => ?_)
                        clear hK K
                        refine norm_ (a' := ?_) ?_ ?_
                        rotate_left
                        · show Act.put _ (some 53) _ = _
                          simp only [Act.put, List.setIfInBounds_toArray, List.set_cons_zero, List.set_cons_succ, i64_w, i32_w]
                          rfl
                        refine pure_ (i := 12) (N := some 54) (v := ?_) (a' := ?_) #[true, true, true, true, true, true, true, true, true, true, true, true, true, false, false] rfl rfl (any_of HT_.out (by kernel_rfl)) (fun _ _ _ h => h) (Or.inl ⟨by rfl, ?_⟩) ?_ ?_
                        rotate_left
                        · intro w'
                          go_simp
                          with_reducible rfl
                        rotate_left
                        · simp only [Act.put, List.setIfInBounds_toArray, List.set_cons_zero, List.set_cons_succ, i64_w, i32_w]
                          rfl
                        refine pure_ (i := 13) (N := some 55) (v := ?_) (a' := ?_) #[true, true, true, true, true, true, true, true, true, true, true, true, true, true, false] rfl rfl (any_of HT_.out (by kernel_rfl)) (fun _ _ _ h => h) (Or.inl ⟨by rfl, ?_⟩) ?_ ?_
                        rotate_left
                        · intro w'
                          go_simp
                          with_reducible rfl
                        rotate_left
                        · simp only [Act.put, List.setIfInBounds_toArray, List.set_cons_zero, List.set_cons_succ, i64_w, i32_w]
                          rfl
                        refine last_ (i := 14) (N := none) #[true, true, true, true, true, true, true, true, true, true, true, true, true, true, true] rfl rfl (one_of HT_.out (by kernel_rfl)) (by decide) (fun K hK => ?_)
                        refine skip_ (w1 := ?_) (by rfl) rfl ?_ ?_
                        rotate_left
                        · go_simp
                          rfl
                        refine hK.out _ _ ?_
                        clear hK K
                        refine done_ (done_of HT_.out (by kernel_rfl)) ?_
                        try go_wp2
                        go_roundg k1
                        case measure => have := HK1.out; omega
                        case rel => exact ⟨(y316), (wrap64 (x9_1 + 1)), (by first | rfl | (simp; done) | (simp [*]; done)), H', ⟨by have := HK1.out; omega⟩, ⟨by (with_reducible repeat (first | apply Kd.S_alloc | apply Kd.S_drewN | apply Kd.S_drew)); exact Kd.S_mono HQ24.out (fun _ hk => trivial)⟩, ⟨by repeat (first | (with_reducible first | exact HB.out | apply below_alloc | apply pw_below_drewN | apply below_drew1 | refine below_set ?_ GB22.out | refine below_set ?_ GE310.out) | exact HB.out)⟩⟩
                      · rw [if_neg c14] at H
                        exact absurd H (by simp)
                    · rw [if_neg c13] at H
                      have c13b0 : (((rd_T37 x3_1 (ji10)).f0) == ((rd_T37 l0 x9_1).f0)) = false := beq_eq_false_iff_ne.mpr c13
                      have c13b1 : (((rd_T37 x3_1 (ji10)).f0) != ((rd_T37 l0 x9_1).f0)) = true := bne_iff_ne.mpr c13
                      replace H := Option.bind_eq_some_iff.mp H
                      obtain ⟨t317, A270, H⟩ := H
                      replace H : (if x3_1.length < 3518437208883 then (event_Merge.l0 k1 (x3_1 ++ [(⟨(rd_T37 l0 x9_1).f0, (rd_T37 l0 x9_1).f1, t317⟩ : S37)]) l0 (l0.length : Int) (wrap64 (x9_1 + 1))) else (none)) = some r := H
                      have A27 := Aside0.mk A270
                      clear A270
                      by_cases c28 : x3_1.length < 3518437208883
                      · rw [if_pos c28] at H
                        have LMc28 := Aside0.mk c28
                        clear c28
                        obtain ⟨y320, hy320⟩ : ∃ y_ : List (S37), y_ = (x3_1 ++ [(⟨(rd_T37 l0 x9_1).f0, (rd_T37 l0 x9_1).f1, t317⟩ : S37)]) := ⟨_, rfl⟩
                        replace H : (event_Merge.l0 k1 y320 l0 (l0.length : Int) (wrap64 (x9_1 + 1))) = some r := by first | (rw [hy320]; with_reducible exact H) | (have H2_ := (Option.bind_some _ _).symm.trans H; rw [hy320]; with_reducible exact H2_) | (have H2_ := (Option.bind_some _ _).symm.trans H; with_reducible exact H2_) | with_reducible exact H | (rw [hy320]; exact H) | exact H
                        have Ny320 := Aside0.mk hy320
                        clear hy320
                        have H' := Aside0.mk H
                        clear H
                        have p309 : 0 ≤ (x9_1 : Int) := of_decide_eq_true (by first | (with_reducible assumption) | assumption)
                        have q309 : x9_1 < (l0.length : Int) := of_decide_eq_true (by first | (with_reducible assumption) | assumption)
                        obtain ⟨ad309, A309_2, c309_2, e309, hx309_0, hx309_1, hx309_2, hl309_2, hi309_2⟩ := at_T37 HR0.out x9_1 p309 q309
                        cases e309
                        replace hx309_0 := (HB.out.cell (World.block_lt_of_cell? w _ hx309_0)).trans hx309_0
                        replace hx309_1 := (HB.out.cell (World.block_lt_of_cell? w _ hx309_1)).trans hx309_1
                        replace hx309_2 := (HB.out.cell (World.block_lt_of_cell? w _ hx309_2)).trans hx309_2
                        have HR309_2 := Aside0.mk hi309_2
                        have HC309_2 := Aside0.mk hl309_2
                        clear hi309_2 hl309_2
                        replace p309 := eq_true p309
                        replace q309 := eq_true q309
                        try go_wp2_with (first | ((with_reducible refine gate_dst (N := 5) rfl ?_); refine box_event ?hg (N := 5) ?hd (cs := #[.int .i64 0, .int .i64 0, .slice none 0 0]) (t := 37) ?hr ?_; (case hd => rfl); (case hg => rfl); (case hr => first | (go_simp; done) | (go_simp; rfl)); intro gb310 hg w29 hbox hb; have n0_ := Aside0.mk (Kd.S_below (Kd.S_elderB (by (with_reducible repeat (first | apply Kd.S_alloc | apply Kd.S_drewN | apply Kd.S_drew)); exact HO_3.out) gb310 (Nat.le_of_eq hg.symm)) hb); have n1_ := Aside0.mk (below_step (by repeat (first | (with_reducible first | exact HB.out | apply below_alloc | apply pw_below_drewN | apply below_drew1) | exact HB.out)) hb); have n2_ := Aside0.mk (hbox); have n3_ := Aside0.mk ((by rw [hg]; exact (below_size (by repeat (first | (with_reducible first | exact HB.out | apply below_alloc | apply pw_below_drewN | apply below_drew1) | exact HB.out))) : w.heap.size ≤ gb310)); have n4_ := Aside0.mk ((by rw [hg]; exact (below_size (by repeat (first | (with_reducible first | exact HB.out | apply below_alloc | apply pw_below_drewN | apply below_drew1) | exact HB.out))) : w.heap.size ≤ gb310)); clear HO_3; clear HB; have HO_3 := n0_; have HB := n1_; have BK310 := n2_; have GW310 := n3_; have GE310 := n4_; clear n0_ n1_ n2_ n3_ n4_; clear hb hbox hg; have hcz30_0 : w29.cell? ⟨gb310, 0, none⟩ = some (.int .i64 0) := (blk_cell BK310.out 0).trans rfl; have hcz30_1 : w29.cell? ⟨gb310, 1, none⟩ = some (.int .i64 0) := (blk_cell BK310.out 1).trans rfl; have hcz30_2 : w29.cell? ⟨gb310, 2, none⟩ = some (.slice none 0 0) := (blk_cell BK310.out 2).trans rfl; have hfz30_0 := blk_frozen BK310.out 0; have hfz30_1 := blk_frozen BK310.out 1; have hfz30_2 := blk_frozen BK310.out 2; obtain ⟨Ao31, co31, eo31⟩ := Kd.S_slice HO_3.out; subst eo31))
                        have n0_ : Aside0 (Kd.S k37 37 (((w29.setCell ⟨gb310, 0, none⟩ (.int .i64 ((rd_T37 l0 x9_1).f0))).setCell ⟨gb310, 1, none⟩ (.int .i64 ((rd_T37 l0 x9_1).f1))).setCell ⟨gb310, 2, none⟩ (.slice A309_2 ((rd_T37 l0 x9_1).f2).length c309_2)) w.heap.size (fun k_ => k_ ≠ gb310) (.slice Ao31 x3_1.length co31) x3_1) := ⟨by (with_reducible repeat (first | apply Kd.S_alloc | apply Kd.S_drewN | apply Kd.S_drew)); exact Kd.S_mono (Kd.S_far (p := ⟨gb310, 2, none⟩) (Kd.S_far (p := ⟨gb310, 1, none⟩) (Kd.S_far (p := ⟨gb310, 0, none⟩) (Kd.S_mono HO_3.out (fun k_ hk => (⟨hk, hk.2⟩ : _ ∧ k_ ≠ gb310))) (fun _ hk => hk.2) (.int .i64 ((rd_T37 l0 x9_1).f0))) (fun _ hk => hk.2) (.int .i64 ((rd_T37 l0 x9_1).f1))) (fun _ hk => hk.2) (.slice A309_2 ((rd_T37 l0 x9_1).f2).length c309_2)) (fun _ hk => hk.1.2)⟩
                        have n1_ : Aside0 ((((w29.setCell ⟨gb310, 0, none⟩ (.int .i64 ((rd_T37 l0 x9_1).f0))).setCell ⟨gb310, 1, none⟩ (.int .i64 ((rd_T37 l0 x9_1).f1))).setCell ⟨gb310, 2, none⟩ (.slice A309_2 ((rd_T37 l0 x9_1).f2).length c309_2)).heap[gb310]? = some (.cells #[.int .i64 ((rd_T37 l0 x9_1).f0), .int .i64 ((rd_T37 l0 x9_1).f1), .slice A309_2 ((rd_T37 l0 x9_1).f2).length c309_2] 37 (0, 0))) := ⟨by (with_reducible repeat (first | refine blk_drewN ?_ _ | refine blk_drew ?_ | refine blk_alloc ?_ _)); refine blk_put (cs := #[.int .i64 ((rd_T37 l0 x9_1).f0), .int .i64 ((rd_T37 l0 x9_1).f1), .slice none 0 0]) ?_ 2 _ rfl; (with_reducible repeat (first | refine blk_drewN ?_ _ | refine blk_drew ?_ | refine blk_alloc ?_ _)); refine blk_put (cs := #[.int .i64 ((rd_T37 l0 x9_1).f0), .int .i64 0, .slice none 0 0]) ?_ 1 _ rfl; (with_reducible repeat (first | refine blk_drewN ?_ _ | refine blk_drew ?_ | refine blk_alloc ?_ _)); refine blk_put (cs := #[.int .i64 0, .int .i64 0, .slice none 0 0]) ?_ 0 _ rfl; (with_reducible repeat (first | refine blk_drewN ?_ _ | refine blk_drew ?_ | refine blk_alloc ?_ _)); exact BK310.out⟩
                        have n2_ : Aside0 (Below w.heap.size w (((w29.setCell ⟨gb310, 0, none⟩ (.int .i64 ((rd_T37 l0 x9_1).f0))).setCell ⟨gb310, 1, none⟩ (.int .i64 ((rd_T37 l0 x9_1).f1))).setCell ⟨gb310, 2, none⟩ (.slice A309_2 ((rd_T37 l0 x9_1).f2).length c309_2))) := ⟨by repeat (first | (with_reducible first | exact HB.out | apply below_alloc | apply pw_below_drewN | apply below_drew1 | refine below_set ?_ GE310.out) | exact HB.out)⟩
                        (try clear HO_3)
                        (try clear BK310)
                        (try clear HB)
                        generalize (((w29.setCell ⟨gb310, 0, none⟩ (.int .i64 ((rd_T37 l0 x9_1).f0))).setCell ⟨gb310, 1, none⟩ (.int .i64 ((rd_T37 l0 x9_1).f1))).setCell ⟨gb310, 2, none⟩ (.slice A309_2 ((rd_T37 l0 x9_1).f2).length c309_2)) = w32 at n0_ n1_ n2_ ⊢
                        have HO_3 := n0_
                        have BK310 := n1_
                        have HB := n2_
                        clear n0_ n1_ n2_
                        have n0_ := Aside0.mk (Kd.S_drew HO_3.out)
                        have n1_ := Aside0.mk (blk_drew BK310.out)
                        have n2_ := Aside0.mk (below_drew1 HB.out)
                        clear HO_3
                        clear BK310
                        clear HB
                        have HO_3 := n0_
                        have BK310 := n1_
                        have HB := n2_
                        clear n0_ n1_ n2_
                        have p311 : 0 ≤ ((ji10) : Int) := of_decide_eq_true (by first | (with_reducible assumption) | assumption)
                        have q311 : (ji10) < (x3_1.length : Int) := of_decide_eq_true (by first | (with_reducible assumption) | assumption)
                        obtain ⟨ad311, A311_2, c311_2, e311, hx311_0, hx311_1, hx311_2, hl311_2, hi311_2⟩ := at_T37 (Kd.S_reads' HO_3.out).2.2 (ji10) p311 q311
                        cases e311
                        obtain ⟨ce311, hce311, hMe311, hcc311⟩ := Kd.S_get HO_3.out z37 (ji10) p311 (by first | exact q311 | exact of_decide_eq_true (by first | (with_reducible assumption) | assumption) | (have e_ := (Kd.S_reads' HO_3.out).1; omega))
                        obtain ⟨ve311_2, rfl, ge311_2⟩ := k37_openM hMe311
                        have hv311_2 := hcc311 2 _ rfl
                        rw [add_field _ _ 2 (by omega)] at hv311_2
                        replace hv311_2 := Option.some.inj (hv311_2.symm.trans hx311_2)
                        rw [hv311_2] at ge311_2
                        have HL311_2 := Aside0.mk (show Kd.R (Kd.int .u8) 5 _ _ _ _ ((rd_T37 x3_1 (ji10)).f2) from ge311_2)
                        clear hv311_2 ge311_2
                        have HX311_2 := Aside0.mk hx311_2
                        clear hcc311 hce311
                        have HR311_2 := Aside0.mk hi311_2
                        have HC311_2 := Aside0.mk hl311_2
                        clear hi311_2 hl311_2
                        replace p311 := eq_true p311
                        replace q311 := eq_true q311
                        refine start_ (n := 14) (S := fun w' => w'.cell? ⟨gb310, 0, none⟩ = some (.int .i64 ((rd_T37 l0 x9_1).f0)) ∧ w'.cell? ⟨gb310, 1, none⟩ = some (.int .i64 ((rd_T37 l0 x9_1).f1)) ∧ w'.cell? ⟨gb310, 2, none⟩ = some (.slice A309_2 ((rd_T37 l0 x9_1).f2).length c309_2) ∧ w'.cell? (ad311.add (((ji10)).toNat * 3)) = some (.int .i64 ((rd_T37 x3_1 (ji10)).f0)) ∧ w'.cell? ⟨(ad311.add (((ji10)).toNat * 3)).block, (ad311.add (((ji10)).toNat * 3)).off + 1, none⟩ = some (.int .i64 ((rd_T37 x3_1 (ji10)).f1)) ∧ w'.cell? ⟨(ad311.add (((ji10)).toNat * 3)).block, (ad311.add (((ji10)).toNat * 3)).off + 2, none⟩ = some (.slice A311_2 ((rd_T37 x3_1 (ji10)).f2).length c311_2)) (ds := []) #[false, false, false, false, false, false, false, false, false, false, false, false, false, false] (by kernel_rfl) rfl rfl ⟨(blk_cell BK310.out 0).trans rfl, (blk_cell BK310.out 1).trans rfl, (blk_cell BK310.out 2).trans rfl, hx311_0, hx311_1, hx311_2⟩ (fun hHeld => ?_); refine with_tabW event_Merge.tab9 event_Merge.bits9 (fun HT_ HW_ => ?_)
                        generalize w32.drew = w33 at HO_3 BK310 HB HL311_2 HR311_2 HX311_2 hx311_0 hx311_1 hx311_2 hHeld ⊢
                        refine pure_ (i := 0) (N := some 29) (v := ?_) (a' := ?_) #[true, false, false, false, false, false, false, false, false, false, false, false, false, false] rfl rfl (any_of HT_.out (by kernel_rfl)) (fun _ _ _ h => h) (Or.inl ⟨by rfl, ?_⟩) ?_ ?_
                        rotate_left
                        · intro w'
                          go_simp
                          with_reducible rfl
                        rotate_left
                        · simp only [Act.put, List.setIfInBounds_toArray, List.set_cons_zero, List.set_cons_succ, i64_w, i32_w]
                          rfl
                        refine pure_ (i := 1) (N := some 30) (v := ?_) (a' := ?_) #[true, true, false, false, false, false, false, false, false, false, false, false, false, false] rfl rfl (any_of HT_.out (by kernel_rfl)) (fun _ _ _ h => h) (Or.inl ⟨by rfl, ?_⟩) ?_ ?_
                        rotate_left
                        · intro w'
                          go_simp
                          with_reducible rfl
                        rotate_left
                        · simp only [Act.put, List.setIfInBounds_toArray, List.set_cons_zero, List.set_cons_succ, i64_w, i32_w]
                          rfl
                        refine pure_ (i := 2) (N := some 31) (v := ?_) (a' := ?_) #[true, true, true, false, false, false, false, false, false, false, false, false, false, false] rfl rfl (any_of HT_.out (by kernel_rfl)) (fun _ _ _ h => h) (Or.inl ⟨by rfl, ?_⟩) ?_ ?_
                        rotate_left
                        · intro w'
                          go_simp
                          with_reducible rfl
                        rotate_left
                        · simp only [Act.put, List.setIfInBounds_toArray, List.set_cons_zero, List.set_cons_succ, i64_w, i32_w]
                          rfl
                        refine pure_ (i := 3) (N := some 32) (v := ?_) (a' := ?_) #[true, true, true, true, false, false, false, false, false, false, false, false, false, false] rfl rfl (any_of HT_.out (by kernel_rfl)) (fun _ _ _ h => h) (Or.inl ⟨by rfl, ?_⟩) ?_ ?_
                        rotate_left
                        · intro w'
                          go_simp
                          with_reducible rfl
                        rotate_left
                        · simp only [Act.put, List.setIfInBounds_toArray, List.set_cons_zero, List.set_cons_succ, i64_w, i32_w]
                          rfl
                        refine pure_ (i := 4) (N := some 33) (v := ?_) (a' := ?_) #[true, true, true, true, true, false, false, false, false, false, false, false, false, false] rfl rfl (any_of HT_.out (by kernel_rfl)) (fun _ _ _ h => h) (Or.inl ⟨by rfl, ?_⟩) ?_ ?_
                        rotate_left
                        · intro w'
                          go_simp
                          with_reducible rfl
                        rotate_left
                        · simp only [Act.put, List.setIfInBounds_toArray, List.set_cons_zero, List.set_cons_succ, i64_w, i32_w]
                          rfl
                        refine pure_ (i := 5) (N := some 34) (v := ?_) (a' := ?_) #[true, true, true, true, true, true, false, false, false, false, false, false, false, false] rfl rfl (any_of HT_.out (by kernel_rfl)) (fun _ _ _ h => h) (Or.inl ⟨by rfl, ?_⟩) ?_ ?_
                        rotate_left
                        · intro w'
                          go_simp
                          with_reducible rfl
                        rotate_left
                        · simp only [Act.put, List.setIfInBounds_toArray, List.set_cons_zero, List.set_cons_succ, i64_w, i32_w]
                          rfl
                        refine pure_ (i := 6) (N := some 35) (v := ?_) (a' := ?_) #[true, true, true, true, true, true, true, false, false, false, false, false, false, false] rfl rfl (any_of HT_.out (by kernel_rfl)) (fun _ _ _ h => h) (Or.inl ⟨by rfl, ?_⟩) ?_ ?_
                        rotate_left
                        · intro w'
                          go_simp
                          with_reducible rfl
                        rotate_left
                        · simp only [Act.put, List.setIfInBounds_toArray, List.set_cons_zero, List.set_cons_succ, i64_w, i32_w]
                          rfl
                        refine pure_ (i := 7) (N := some 36) (v := ?_) (a' := ?_) #[true, true, true, true, true, true, true, true, false, false, false, false, false, false] rfl rfl (any_of HT_.out (by kernel_rfl)) (fun _ _ _ h => h) (Or.inl ⟨by rfl, ?_⟩) ?_ ?_
                        rotate_left
                        · intro w'
                          go_simp
                          with_reducible rfl
                        rotate_left
                        · simp only [Act.put, List.setIfInBounds_toArray, List.set_cons_zero, List.set_cons_succ, i64_w, i32_w]
                          rfl
                        refine pure_ (i := 9) (N := some 38) (v := ?_) (a' := ?_) #[true, true, true, true, true, true, true, true, false, true, false, false, false, false] rfl rfl (any_of HT_.out (by kernel_rfl)) (fun _ _ _ h => h) (Or.inl ⟨by rfl, ?_⟩) ?_ ?_
                        rotate_left
                        · intro w'
                          go_simp
                          with_reducible rfl
                        rotate_left
                        · simp only [Act.put, List.setIfInBounds_toArray, List.set_cons_zero, List.set_cons_succ, i64_w, i32_w]
                          rfl
                        refine take_ (i := 8) (N := some 37) (v := ?_) (a' := ?_) #[true, true, true, true, true, true, true, true, true, true, false, false, false, false] rfl rfl (take_ofW HT_.out HW_.out (by kernel_rfl)) (fun _ _ _ h => h) (Or.inl ⟨by rfl, ?_⟩) hHeld ?_ ?_
                        rotate_left
                        · rintro w' ⟨s0, s1, s2, s3, s4, s5⟩
                          go_simp
                          with_reducible rfl
                        rotate_left
                        · simp only [Act.put, List.setIfInBounds_toArray, List.set_cons_zero, List.set_cons_succ, i64_w, i32_w]
                          rfl
                        refine take_ (i := 10) (N := some 39) (v := ?_) (a' := ?_) #[true, true, true, true, true, true, true, true, true, true, true, false, false, false] rfl rfl (take_ofW HT_.out HW_.out (by kernel_rfl)) (fun _ _ _ h => h) (Or.inl ⟨by rfl, ?_⟩) hHeld ?_ ?_
                        rotate_left
                        · rintro w' ⟨s0, s1, s2, s3, s4, s5⟩
                          go_simp
                          with_reducible rfl
                        rotate_left
                        · simp only [Act.put, List.setIfInBounds_toArray, List.set_cons_zero, List.set_cons_succ, i64_w, i32_w]
                          rfl
                        refine pure_ (i := 11) (N := some 40) (v := ?_) (a' := ?_) #[true, true, true, true, true, true, true, true, true, true, true, true, false, false] rfl rfl (any_of HT_.out (by kernel_rfl)) (fun _ _ _ h => h) (Or.inl ⟨by rfl, ?_⟩) ?_ ?_
                        rotate_left
                        · intro w'
                          go_simp
                          with_reducible rfl
                        rotate_left
                        · simp only [Act.put, List.setIfInBounds_toArray, List.set_cons_zero, List.set_cons_succ, i64_w, i32_w]
                          rfl
                        refine pure_ (i := 12) (N := some 41) (v := ?_) (a' := ?_) #[true, true, true, true, true, true, true, true, true, true, true, true, true, false] rfl rfl (any_of HT_.out (by kernel_rfl)) (fun _ _ _ h => h) (Or.inl ⟨by rfl, ?_⟩) ?_ ?_
                        rotate_left
                        · intro w'
                          go_simp
                          with_reducible rfl
                        rotate_left
                        · simp only [Act.put, List.setIfInBounds_toArray, List.set_cons_zero, List.set_cons_succ, i64_w, i32_w]
                          rfl
                        refine pure_ (i := 13) (N := some 28) (v := ?_) (a' := ?_) #[true, true, true, true, true, true, true, true, true, true, true, true, true, true] rfl rfl (any_of HT_.out (by kernel_rfl)) (fun _ _ _ h => h) (Or.inl ⟨by rfl, ?_⟩) ?_ ?_
                        rotate_left
                        · intro w'
                          go_simp
                          with_reducible rfl
                        rotate_left
                        · simp only [Act.put, List.setIfInBounds_toArray, List.set_cons_zero, List.set_cons_succ, i64_w, i32_w]
                          rfl
                        refine done_ (done_of HT_.out (by kernel_rfl)) ?_
                        have hcz34_0 : w33.cell? ⟨gb310, 0, none⟩ = some (.int .i64 ((rd_T37 l0 x9_1).f0)) := (blk_cell BK310.out 0).trans rfl
                        have hcz34_1 : w33.cell? ⟨gb310, 1, none⟩ = some (.int .i64 ((rd_T37 l0 x9_1).f1)) := (blk_cell BK310.out 1).trans rfl
                        have hcz34_2 : w33.cell? ⟨gb310, 2, none⟩ = some (.slice A309_2 ((rd_T37 l0 x9_1).f2).length c309_2) := (blk_cell BK310.out 2).trans rfl
                        have hfz34_0 := blk_frozen BK310.out 0
                        have hfz34_1 := blk_frozen BK310.out 1
                        have hfz34_2 := blk_frozen BK310.out 2
                        try go_wp2_with (first | ((with_reducible refine gate_callee (f := 27) rfl ?_); refine goesL_ (some 17) rfl rfl Try.func27 (by kernel_rfl) rfl #[.slice A309_2 ((rd_T37 l0 x9_1).f2).length c309_2] rfl (by (try simp only [List.map_toArray, List.map_cons, List.map_nil]); first | done | rfl | (simp only [List.length_drop, List.length_take]; rfl)) ?_; (with_reducible refine (bytes_Clone.calls k1 _ _ ((rd_T37 l0 x9_1).f2) t317 _ ?side1 ?side2 A27.out).mono ?_); (case side1 => repeat (first | exact (Kd.C_below HR309_2.out HB.out) | (with_reducible refine Kd.C_alloc ?_ _) | (with_reducible refine Kd.C_drewN ?_ _) | (with_reducible refine Kd.C_drew ?_))); (case side2 => exact HC309_2.out); rintro e w35 ⟨v318, rfl, ho0, hb⟩; refine ⟨_, rfl, ?_⟩; have n0_ := Aside0.mk (Kd.S_elder' (by (with_reducible repeat (first | apply Kd.S_alloc | apply Kd.S_drewN | apply Kd.S_drew)); exact HO_3.out) (Kd.R_base ho0) hb); have n1_ := Aside0.mk (Kd.R_elder' (by (with_reducible repeat (first | apply Kd.R_alloc | apply Kd.R_drewN | apply Kd.R_drew)); exact HL311_2.out) (Kd.R_base ho0) hb); have n2_ := Aside0.mk (Kd.R_lower (Kd.R_new' ho0 (Kd.R_lt (by (with_reducible repeat (first | apply Kd.R_alloc | apply Kd.R_drewN | apply Kd.R_drew)); exact HL311_2.out))) (below_size (by repeat (first | (with_reducible first | exact HB.out | apply below_alloc | apply pw_below_drewN | apply below_drew1 | refine below_set ?_ GE310.out) | exact HB.out)))); have n3_ := Aside0.mk (blk_below (g := gb310) (o := .cells #[.int .i64 ((rd_T37 l0 x9_1).f0), .int .i64 ((rd_T37 l0 x9_1).f1), .slice A309_2 ((rd_T37 l0 x9_1).f2).length c309_2] 37 (0, 0)) (by (with_reducible repeat (first | refine blk_drewN ?_ _ | refine blk_drew ?_ | refine blk_alloc ?_ _)); exact BK310.out) hb); have n4_ := Aside0.mk (Kd.C_below (by repeat (first | (with_reducible exact HR311_2.out) | (with_reducible refine Kd.C_alloc ?_ _) | (with_reducible refine Kd.C_drewN ?_ _) | (with_reducible refine Kd.C_drew ?_) | exact HR311_2.out)) hb); have n5_ := Aside0.mk (pw_cell_below hb HX311_2.out); have n6_ := Aside0.mk (below_step (by repeat (first | (with_reducible first | exact HB.out | apply below_alloc | apply pw_below_drewN | apply below_drew1 | refine below_set ?_ GE310.out) | exact HB.out)) hb); clear HO_3; clear HL311_2; clear BK310; clear HR311_2; clear HX311_2; clear HB; have HO_3 := n0_; have HL311_2 := n1_; have HO319 := n2_; have BK310 := n3_; have HR311_2 := n4_; have HX311_2 := n5_; have HB := n6_; clear n0_ n1_ n2_ n3_ n4_ n5_ n6_; (try clear hb); (try clear hb2); (try clear hk); (try clear hi); (try clear ho0); obtain ⟨Ao36, co36, eo36⟩ := Kd.R_slice HO319.out; subst eo36; have hcz37_0 : w35.cell? ⟨gb310, 0, none⟩ = some (.int .i64 ((rd_T37 l0 x9_1).f0)) := (blk_cell BK310.out 0).trans rfl; have hcz37_1 : w35.cell? ⟨gb310, 1, none⟩ = some (.int .i64 ((rd_T37 l0 x9_1).f1)) := (blk_cell BK310.out 1).trans rfl; have hcz37_2 : w35.cell? ⟨gb310, 2, none⟩ = some (.slice A309_2 ((rd_T37 l0 x9_1).f2).length c309_2) := (blk_cell BK310.out 2).trans rfl; have hfz37_0 := blk_frozen BK310.out 0; have hfz37_1 := blk_frozen BK310.out 1; have hfz37_2 := blk_frozen BK310.out 2) | ((with_reducible refine gate_store (t := 31) (p := 18) rfl ?_); refine store_event (t := 31) (p := 18) (v := ?vo_w38) (w1 := (w35.setCell ⟨gb310, 2, none⟩ (.slice Ao36 t317.length co36))) ?hg ?ho ?hn ?hr ?_; (case ho => rfl); (case hg => rfl); (case hn => rfl); (case hr => first | (go_simp; done) | (go_simp; rfl)); intro w38 hw; have n0_ : Aside0 (Kd.S k37 37 w38 w.heap.size (fun k_ => some k_ ≠ (.slice Ao36 t317.length co36 : Value).ownBlock ∧ k_ ≠ gb310) (.slice (some ad311) x3_1.length co31) x3_1) := ⟨(by rw [hw]; exact (by (with_reducible repeat (first | apply Kd.S_alloc | apply Kd.S_drewN | apply Kd.S_drew)); exact Kd.S_mono (Kd.S_far (p := ⟨gb310, 2, none⟩) (Kd.S_mono HO_3.out (fun k_ hk => (⟨hk, hk.1⟩ : _ ∧ k_ ≠ gb310))) (fun _ hk => hk.2) (.slice Ao36 t317.length co36)) (fun _ hk => ⟨hk.1.2, hk.1.1⟩)))⟩; have n1_ : Aside0 (Kd.R (Kd.int .u8) 5 w38 w.heap.size (fun k_ => some k_ ≠ (.slice (some ad311) x3_1.length co31 : Value).ownBlock ∧ some k_ ≠ (.slice Ao36 t317.length co36 : Value).ownBlock ∧ k_ ≠ gb310) (.slice A311_2 ((rd_T37 x3_1 (ji10)).f2).length c311_2) ((rd_T37 x3_1 (ji10)).f2)) := ⟨(by rw [hw]; exact (by (with_reducible repeat (first | apply Kd.R_alloc | apply Kd.R_drewN | apply Kd.R_drew)); exact Kd.R_mono (Kd.R_far (p := ⟨gb310, 2, none⟩) (Kd.R_types HL311_2.out BK310.out (by decide)) (fun _ hk => hk.2) (.slice Ao36 t317.length co36)) (fun _ hk => ⟨hk.1.1.2, ⟨hk.1.2, hk.1.1.1⟩⟩)))⟩; have n2_ : Aside0 (Kd.R (Kd.int .u8) 5 w38 w.heap.size (fun k_ => some k_ ≠ (.slice A311_2 ((rd_T37 x3_1 (ji10)).f2).length c311_2 : Value).ownBlock) (.slice Ao36 t317.length co36) t317) := ⟨(by rw [hw]; exact (by (with_reducible repeat (first | apply Kd.R_alloc | apply Kd.R_drewN | apply Kd.R_drew)); exact Kd.R_mono (Kd.R_far (p := ⟨gb310, 2, none⟩) (Kd.R_types HO319.out BK310.out (by decide)) (fun _ hk => hk.2) (.slice Ao36 t317.length co36)) (fun _ hk => hk.1.2)))⟩; have n3_ : Aside0 (w38.heap[gb310]? = some (.cells #[.int .i64 ((rd_T37 l0 x9_1).f0), .int .i64 ((rd_T37 l0 x9_1).f1), .slice Ao36 t317.length co36] 37 (0, 0))) := ⟨(by rw [hw]; exact (by (with_reducible repeat (first | refine blk_drewN ?_ _ | refine blk_drew ?_ | refine blk_alloc ?_ _)); refine blk_put (cs := #[.int .i64 ((rd_T37 l0 x9_1).f0), .int .i64 ((rd_T37 l0 x9_1).f1), .slice A309_2 ((rd_T37 l0 x9_1).f2).length c309_2]) ?_ 2 _ rfl; (with_reducible repeat (first | refine blk_drewN ?_ _ | refine blk_drew ?_ | refine blk_alloc ?_ _)); exact BK310.out))⟩; have n4_ : Aside0 (Below w.heap.size w w38) := ⟨(by rw [hw]; exact (by repeat (first | (with_reducible first | exact HB.out | apply below_alloc | apply pw_below_drewN | apply below_drew1 | refine below_set ?_ GE310.out) | exact HB.out)))⟩; clear hw; clear HO_3; clear HL311_2; clear HO319; clear BK310; clear HB; have HO_3 := n0_; have HL311_2 := n1_; have HO319 := n2_; have BK310 := n3_; have HB := n4_; clear n0_ n1_ n2_ n3_ n4_; have hcz39_0 : w38.cell? ⟨gb310, 0, none⟩ = some (.int .i64 ((rd_T37 l0 x9_1).f0)) := (blk_cell BK310.out 0).trans rfl; have hcz39_1 : w38.cell? ⟨gb310, 1, none⟩ = some (.int .i64 ((rd_T37 l0 x9_1).f1)) := (blk_cell BK310.out 1).trans rfl; have hcz39_2 : w38.cell? ⟨gb310, 2, none⟩ = some (.slice Ao36 t317.length co36) := (blk_cell BK310.out 2).trans rfl; have hfz39_0 := blk_frozen BK310.out 0; have hfz39_1 := blk_frozen BK310.out 1; have hfz39_2 := blk_frozen BK310.out 2) | ((with_reducible refine gate_builtin (b := .append) (xs := #[.tmp 19, .tmp 21]) rfl ?_); at_builtin; refine Kd.S_append k37 (w0 := w) w.heap.size rfl (.tmp 19) (.tmp 21) 22 37 (.agg #[(.int .i64 0), (.int .i64 0), (.slice none 0 0)]) 40 rfl Try.underlying22 info37 rfl (by decide) (by omega) (.slice (some ad311) x3_1.length co31) x3_1 (⟨(rd_T37 l0 x9_1).f0, (rd_T37 l0 x9_1).f1, t317⟩ : S37) [.int .i64 ((rd_T37 l0 x9_1).f0), .int .i64 ((rd_T37 l0 x9_1).f1), .slice Ao36 t317.length co36] (fun k_ => k_ ≠ gb310) (fun k_ => some k_ = (.slice Ao36 t317.length co36 : Value).ownBlock) rfl rfl ?aP (fun k_ hk_ => ((Kd.R_mono (ok' := fun k_ => ((fun k_ => k_ ≠ gb310)) k_ ∧ some k_ ≠ (.slice (some ad311) x3_1.length co31 : Value).ownBlock) (Kd.R_types (Kd.R_apart' (HO319.out) (Kd.S_typed HO_3.out) (by decide)) BK310.out (by decide)) (fun k_ hk => ⟨hk.2, hk.1.2⟩))).1 k_ hk_.symm) ?aF ?aO ?aB ?aS ?aL ?_; (case aP => exact k37_mkM _ _ _ (⟨(rd_T37 l0 x9_1).f0, (rd_T37 l0 x9_1).f1, t317⟩ : S37) (Kd.R_mono (Kd.R_tight rfl (Kd.R_mono (ok' := fun k_ => ((fun k_ => k_ ≠ gb310)) k_ ∧ some k_ ≠ (.slice (some ad311) x3_1.length co31 : Value).ownBlock) (Kd.R_types (Kd.R_apart' (HO319.out) (Kd.S_typed HO_3.out) (by decide)) BK310.out (by decide)) (fun k_ hk => ⟨hk.2, hk.1.2⟩))) (fun _ h_ => h_))); (case aB => exact (by repeat (first | (with_reducible first | exact HB.out | apply below_alloc | apply pw_below_drewN | apply below_drew1 | refine below_set ?_ GE310.out) | exact HB.out))); (case aF => exact (fun k_ hk => Kd.freshB (g := gb310) (o := .cells #[.int .i64 ((rd_T37 l0 x9_1).f0), .int .i64 ((rd_T37 l0 x9_1).f1), .slice Ao36 t317.length co36] 37 (0, 0)) (by (with_reducible repeat (first | refine blk_drewN ?_ _ | refine blk_drew ?_ | refine blk_alloc ?_ _)); exact BK310.out) k_ hk)); (case aO => exact (by (with_reducible repeat (first | apply Kd.S_alloc | apply Kd.S_drewN | apply Kd.S_drew)); exact Kd.S_mono HO_3.out (fun k_ hk => ⟨hk.2, fun e_ => hk.1 e_⟩))); (case aS => exact (below_size (by repeat (first | (with_reducible first | exact HB.out | apply below_alloc | apply pw_below_drewN | apply below_drew1 | refine below_set ?_ GE310.out) | exact HB.out)))); (case aL => have := LMc28.out; omega); intro v321 w40 ho hb hg hat; rw [← Ny320.out] at ho; have n0_ := Aside0.mk (blk_grown (g := gb310) (o := .cells #[.int .i64 ((rd_T37 l0 x9_1).f0), .int .i64 ((rd_T37 l0 x9_1).f1), .slice Ao36 t317.length co36] 37 (0, 0)) (by (with_reducible repeat (first | refine blk_drewN ?_ _ | refine blk_drew ?_ | refine blk_alloc ?_ _)); exact BK310.out) hg (Kd.S_away HO_3.out (fun _ hk => hk.2))); have n1_ := Aside0.mk (Kd.R_after (ok := (fun k_ => some k_ ≠ (.slice Ao36 t317.length co36 : Value).ownBlock ∧ k_ ≠ gb310)) (by (with_reducible repeat (first | apply Kd.R_alloc | apply Kd.R_drewN | apply Kd.R_drew)); exact Kd.R_mono HL311_2.out (fun _ hk => ⟨⟨hk.2.1, hk.2.2⟩, hk.1⟩)) hg hat); have n2_ := Aside0.mk (hb); have n3_ := Aside0.mk (ho); clear BK310; clear HL311_2; clear HB; clear HO_3; clear HO319; have BK310 := n0_; have HL311_2 := n1_; have HB := n2_; have HO322 := n3_; clear n0_ n1_ n2_ n3_; clear ho hb hg hat))
                        go_roundg k1
                        case measure => have := HK1.out; omega
                        case rel => exact ⟨(y320), (wrap64 (x9_1 + 1)), (by first | rfl | (simp; done) | (simp [*]; done)), H', ⟨by have := HK1.out; omega⟩, ⟨by (with_reducible repeat (first | apply Kd.S_alloc | apply Kd.S_drewN | apply Kd.S_drew)); exact Kd.S_mono HO322.out (fun _ hk => trivial)⟩, ⟨by repeat (first | (with_reducible first | exact HB.out | apply below_alloc | apply pw_below_drewN | apply below_drew1 | refine below_set ?_ GE310.out) | exact HB.out)⟩⟩
                      · rw [if_neg c28] at H
                        exact absurd H (by simp)
                  · rw [if_neg c12] at H
                    exact absurd H (by simp)
                · rw [if_neg c11] at H
                  exact absurd H (by simp)
              · rw [if_neg c9] at H
                have c9b0 : decide (0 < (x3_1.length : Int)) = false := decide_eq_false c9
                have c9b1 : decide (0 < x3_1.length) = false := decide_eq_false (by omega)
                clear c9
                replace H := Option.bind_eq_some_iff.mp H
                obtain ⟨t323, A410, H⟩ := H
                replace H : (if x3_1.length < 3518437208883 then (event_Merge.l0 k1 (x3_1 ++ [(⟨(rd_T37 l0 x9_1).f0, (rd_T37 l0 x9_1).f1, t323⟩ : S37)]) l0 (l0.length : Int) (wrap64 (x9_1 + 1))) else (none)) = some r := H
                have A41 := Aside0.mk A410
                clear A410
                by_cases c42 : x3_1.length < 3518437208883
                · rw [if_pos c42] at H
                  have LMc42 := Aside0.mk c42
                  clear c42
                  obtain ⟨y326, hy326⟩ : ∃ y_ : List (S37), y_ = (x3_1 ++ [(⟨(rd_T37 l0 x9_1).f0, (rd_T37 l0 x9_1).f1, t323⟩ : S37)]) := ⟨_, rfl⟩
                  replace H : (event_Merge.l0 k1 y326 l0 (l0.length : Int) (wrap64 (x9_1 + 1))) = some r := by first | (rw [hy326]; with_reducible exact H) | (have H2_ := (Option.bind_some _ _).symm.trans H; rw [hy326]; with_reducible exact H2_) | (have H2_ := (Option.bind_some _ _).symm.trans H; with_reducible exact H2_) | with_reducible exact H | (rw [hy326]; exact H) | exact H
                  have Ny326 := Aside0.mk hy326
                  clear hy326
                  have H' := Aside0.mk H
                  clear H
                  have p309 : 0 ≤ (x9_1 : Int) := of_decide_eq_true (by first | (with_reducible assumption) | assumption)
                  have q309 : x9_1 < (l0.length : Int) := of_decide_eq_true (by first | (with_reducible assumption) | assumption)
                  obtain ⟨ad309, A309_2, c309_2, e309, hx309_0, hx309_1, hx309_2, hl309_2, hi309_2⟩ := at_T37 HR0.out x9_1 p309 q309
                  cases e309
                  replace hx309_0 := (HB.out.cell (World.block_lt_of_cell? w _ hx309_0)).trans hx309_0
                  replace hx309_1 := (HB.out.cell (World.block_lt_of_cell? w _ hx309_1)).trans hx309_1
                  replace hx309_2 := (HB.out.cell (World.block_lt_of_cell? w _ hx309_2)).trans hx309_2
                  have HR309_2 := Aside0.mk hi309_2
                  have HC309_2 := Aside0.mk hl309_2
                  clear hi309_2 hl309_2
                  replace p309 := eq_true p309
                  replace q309 := eq_true q309
                  try go_wp2_with (first | ((with_reducible refine gate_dst (N := 5) rfl ?_); refine box_event ?hg (N := 5) ?hd (cs := #[.int .i64 0, .int .i64 0, .slice none 0 0]) (t := 37) ?hr ?_; (case hd => rfl); (case hg => rfl); (case hr => first | (go_simp; done) | (go_simp; rfl)); intro gb310 hg w43 hbox hb; have n0_ := Aside0.mk (Kd.S_below (Kd.S_elderB (by (with_reducible repeat (first | apply Kd.S_alloc | apply Kd.S_drewN | apply Kd.S_drew)); exact HO_3.out) gb310 (Nat.le_of_eq hg.symm)) hb); have n1_ := Aside0.mk (below_step (by repeat (first | (with_reducible first | exact HB.out | apply below_alloc | apply pw_below_drewN | apply below_drew1) | exact HB.out)) hb); have n2_ := Aside0.mk (hbox); have n3_ := Aside0.mk ((by rw [hg]; exact (below_size (by repeat (first | (with_reducible first | exact HB.out | apply below_alloc | apply pw_below_drewN | apply below_drew1) | exact HB.out))) : w.heap.size ≤ gb310)); have n4_ := Aside0.mk ((by rw [hg]; exact (below_size (by repeat (first | (with_reducible first | exact HB.out | apply below_alloc | apply pw_below_drewN | apply below_drew1) | exact HB.out))) : w.heap.size ≤ gb310)); clear HO_3; clear HB; have HO_3 := n0_; have HB := n1_; have BK310 := n2_; have GW310 := n3_; have GE310 := n4_; clear n0_ n1_ n2_ n3_ n4_; clear hb hbox hg; have hcz44_0 : w43.cell? ⟨gb310, 0, none⟩ = some (.int .i64 0) := (blk_cell BK310.out 0).trans rfl; have hcz44_1 : w43.cell? ⟨gb310, 1, none⟩ = some (.int .i64 0) := (blk_cell BK310.out 1).trans rfl; have hcz44_2 : w43.cell? ⟨gb310, 2, none⟩ = some (.slice none 0 0) := (blk_cell BK310.out 2).trans rfl; have hfz44_0 := blk_frozen BK310.out 0; have hfz44_1 := blk_frozen BK310.out 1; have hfz44_2 := blk_frozen BK310.out 2; obtain ⟨Ao45, co45, eo45⟩ := Kd.S_slice HO_3.out; subst eo45))
                  have n0_ : Aside0 (Kd.S k37 37 (((w43.setCell ⟨gb310, 0, none⟩ (.int .i64 ((rd_T37 l0 x9_1).f0))).setCell ⟨gb310, 1, none⟩ (.int .i64 ((rd_T37 l0 x9_1).f1))).setCell ⟨gb310, 2, none⟩ (.slice A309_2 ((rd_T37 l0 x9_1).f2).length c309_2)) w.heap.size (fun k_ => k_ ≠ gb310) (.slice Ao45 x3_1.length co45) x3_1) := ⟨by (with_reducible repeat (first | apply Kd.S_alloc | apply Kd.S_drewN | apply Kd.S_drew)); exact Kd.S_mono (Kd.S_far (p := ⟨gb310, 2, none⟩) (Kd.S_far (p := ⟨gb310, 1, none⟩) (Kd.S_far (p := ⟨gb310, 0, none⟩) (Kd.S_mono HO_3.out (fun k_ hk => (⟨hk, hk.2⟩ : _ ∧ k_ ≠ gb310))) (fun _ hk => hk.2) (.int .i64 ((rd_T37 l0 x9_1).f0))) (fun _ hk => hk.2) (.int .i64 ((rd_T37 l0 x9_1).f1))) (fun _ hk => hk.2) (.slice A309_2 ((rd_T37 l0 x9_1).f2).length c309_2)) (fun _ hk => hk.1.2)⟩
                  have n1_ : Aside0 ((((w43.setCell ⟨gb310, 0, none⟩ (.int .i64 ((rd_T37 l0 x9_1).f0))).setCell ⟨gb310, 1, none⟩ (.int .i64 ((rd_T37 l0 x9_1).f1))).setCell ⟨gb310, 2, none⟩ (.slice A309_2 ((rd_T37 l0 x9_1).f2).length c309_2)).heap[gb310]? = some (.cells #[.int .i64 ((rd_T37 l0 x9_1).f0), .int .i64 ((rd_T37 l0 x9_1).f1), .slice A309_2 ((rd_T37 l0 x9_1).f2).length c309_2] 37 (0, 0))) := ⟨by (with_reducible repeat (first | refine blk_drewN ?_ _ | refine blk_drew ?_ | refine blk_alloc ?_ _)); refine blk_put (cs := #[.int .i64 ((rd_T37 l0 x9_1).f0), .int .i64 ((rd_T37 l0 x9_1).f1), .slice none 0 0]) ?_ 2 _ rfl; (with_reducible repeat (first | refine blk_drewN ?_ _ | refine blk_drew ?_ | refine blk_alloc ?_ _)); refine blk_put (cs := #[.int .i64 ((rd_T37 l0 x9_1).f0), .int .i64 0, .slice none 0 0]) ?_ 1 _ rfl; (with_reducible repeat (first | refine blk_drewN ?_ _ | refine blk_drew ?_ | refine blk_alloc ?_ _)); refine blk_put (cs := #[.int .i64 0, .int .i64 0, .slice none 0 0]) ?_ 0 _ rfl; (with_reducible repeat (first | refine blk_drewN ?_ _ | refine blk_drew ?_ | refine blk_alloc ?_ _)); exact BK310.out⟩
                  have n2_ : Aside0 (Below w.heap.size w (((w43.setCell ⟨gb310, 0, none⟩ (.int .i64 ((rd_T37 l0 x9_1).f0))).setCell ⟨gb310, 1, none⟩ (.int .i64 ((rd_T37 l0 x9_1).f1))).setCell ⟨gb310, 2, none⟩ (.slice A309_2 ((rd_T37 l0 x9_1).f2).length c309_2))) := ⟨by repeat (first | (with_reducible first | exact HB.out | apply below_alloc | apply pw_below_drewN | apply below_drew1 | refine below_set ?_ GE310.out) | exact HB.out)⟩
                  (try clear HO_3)
                  (try clear BK310)
                  (try clear HB)
                  generalize (((w43.setCell ⟨gb310, 0, none⟩ (.int .i64 ((rd_T37 l0 x9_1).f0))).setCell ⟨gb310, 1, none⟩ (.int .i64 ((rd_T37 l0 x9_1).f1))).setCell ⟨gb310, 2, none⟩ (.slice A309_2 ((rd_T37 l0 x9_1).f2).length c309_2)) = w46 at n0_ n1_ n2_ ⊢
                  have HO_3 := n0_
                  have BK310 := n1_
                  have HB := n2_
                  clear n0_ n1_ n2_
                  have n0_ := Aside0.mk (Kd.S_drew HO_3.out)
                  have n1_ := Aside0.mk (blk_drew BK310.out)
                  have n2_ := Aside0.mk (below_drew1 HB.out)
                  clear HO_3
                  clear BK310
                  clear HB
                  have HO_3 := n0_
                  have BK310 := n1_
                  have HB := n2_
                  clear n0_ n1_ n2_
                  refine start_ (n := 14) (S := fun w' => True) (ds := []) #[false, false, false, false, false, false, false, false, false, false, false, false, false, false] (by kernel_rfl) rfl rfl trivial (fun hHeld => ?_); refine with_tabW event_Merge.tab9 event_Merge.bits9 (fun HT_ HW_ => ?_)
                  generalize w46.drew = w47 at HO_3 BK310 HB hHeld ⊢
                  refine pure_ (i := 0) (N := some 29) (v := ?_) (a' := ?_) #[true, false, false, false, false, false, false, false, false, false, false, false, false, false] rfl rfl (any_of HT_.out (by kernel_rfl)) (fun _ _ _ h => h) (Or.inl ⟨by rfl, ?_⟩) ?_ ?_
                  rotate_left
                  · intro w'
                    go_simp
                    with_reducible rfl
                  rotate_left
                  · simp only [Act.put, List.setIfInBounds_toArray, List.set_cons_zero, List.set_cons_succ, i64_w, i32_w]
                    rfl
                  refine pure_ (i := 1) (N := some 30) (v := ?_) (a' := ?_) #[true, true, false, false, false, false, false, false, false, false, false, false, false, false] rfl rfl (any_of HT_.out (by kernel_rfl)) (fun _ _ _ h => h) (Or.inl ⟨by rfl, ?_⟩) ?_ ?_
                  rotate_left
                  · intro w'
                    go_simp
                    with_reducible rfl
                  rotate_left
                  · simp only [Act.put, List.setIfInBounds_toArray, List.set_cons_zero, List.set_cons_succ, i64_w, i32_w]
                    rfl
                  refine pure_ (i := 2) (N := some 31) (v := ?_) (a' := ?_) #[true, true, true, false, false, false, false, false, false, false, false, false, false, false] rfl rfl (any_of HT_.out (by kernel_rfl)) (fun _ _ _ h => h) (Or.inl ⟨by rfl, ?_⟩) ?_ ?_
                  rotate_left
                  · intro w'
                    go_simp
                    with_reducible rfl
                  rotate_left
                  · simp only [Act.put, List.setIfInBounds_toArray, List.set_cons_zero, List.set_cons_succ, i64_w, i32_w]
                    rfl
                  refine pure_ (i := 3) (N := some 32) (v := undef) (a' := ?_) #[true, true, true, true, false, false, false, false, false, false, false, false, false, false] rfl rfl (any_of HT_.out (by kernel_rfl)) (fun _ _ _ h => h) (Or.inr ⟨by rfl, rfl⟩) ?_ ?_
                  rotate_left
                  · simp only [Act.put, List.setIfInBounds_toArray, List.set_cons_zero, List.set_cons_succ, i64_w, i32_w]
                    rfl
                  refine pure_ (i := 4) (N := some 33) (v := undef) (a' := ?_) #[true, true, true, true, true, false, false, false, false, false, false, false, false, false] rfl rfl (any_of HT_.out (by kernel_rfl)) (fun _ _ _ h => h) (Or.inr ⟨by rfl, rfl⟩) ?_ ?_
                  rotate_left
                  · simp only [Act.put, List.setIfInBounds_toArray, List.set_cons_zero, List.set_cons_succ, i64_w, i32_w]
                    rfl
                  refine pure_ (i := 5) (N := some 34) (v := undef) (a' := ?_) #[true, true, true, true, true, true, false, false, false, false, false, false, false, false] rfl rfl (any_of HT_.out (by kernel_rfl)) (fun _ _ _ h => h) (Or.inr ⟨by rfl, rfl⟩) ?_ ?_
                  rotate_left
                  · simp only [Act.put, List.setIfInBounds_toArray, List.set_cons_zero, List.set_cons_succ, i64_w, i32_w]
                    rfl
                  refine pure_ (i := 6) (N := some 35) (v := undef) (a' := ?_) #[true, true, true, true, true, true, true, false, false, false, false, false, false, false] rfl rfl (any_of HT_.out (by kernel_rfl)) (fun _ _ _ h => h) (Or.inr ⟨by rfl, rfl⟩) ?_ ?_
                  rotate_left
                  · simp only [Act.put, List.setIfInBounds_toArray, List.set_cons_zero, List.set_cons_succ, i64_w, i32_w]
                    rfl
                  refine pure_ (i := 7) (N := some 36) (v := undef) (a' := ?_) #[true, true, true, true, true, true, true, true, false, false, false, false, false, false] rfl rfl (any_of HT_.out (by kernel_rfl)) (fun _ _ _ h => h) (Or.inr ⟨by rfl, rfl⟩) ?_ ?_
                  rotate_left
                  · simp only [Act.put, List.setIfInBounds_toArray, List.set_cons_zero, List.set_cons_succ, i64_w, i32_w]
                    rfl
                  refine pure_ (i := 8) (N := some 37) (v := undef) (a' := ?_) #[true, true, true, true, true, true, true, true, true, false, false, false, false, false] rfl rfl (any_of HT_.out (by kernel_rfl)) (fun _ _ _ h => h) (Or.inr ⟨by rfl, rfl⟩) ?_ ?_
                  rotate_left
                  · simp only [Act.put, List.setIfInBounds_toArray, List.set_cons_zero, List.set_cons_succ, i64_w, i32_w]
                    rfl
                  refine pure_ (i := 9) (N := some 38) (v := undef) (a' := ?_) #[true, true, true, true, true, true, true, true, true, true, false, false, false, false] rfl rfl (any_of HT_.out (by kernel_rfl)) (fun _ _ _ h => h) (Or.inr ⟨by rfl, rfl⟩) ?_ ?_
                  rotate_left
                  · simp only [Act.put, List.setIfInBounds_toArray, List.set_cons_zero, List.set_cons_succ, i64_w, i32_w]
                    rfl
                  refine pure_ (i := 10) (N := some 39) (v := undef) (a' := ?_) #[true, true, true, true, true, true, true, true, true, true, true, false, false, false] rfl rfl (any_of HT_.out (by kernel_rfl)) (fun _ _ _ h => h) (Or.inr ⟨by rfl, rfl⟩) ?_ ?_
                  rotate_left
                  · simp only [Act.put, List.setIfInBounds_toArray, List.set_cons_zero, List.set_cons_succ, i64_w, i32_w]
                    rfl
                  refine pure_ (i := 11) (N := some 40) (v := undef) (a' := ?_) #[true, true, true, true, true, true, true, true, true, true, true, true, false, false] rfl rfl (any_of HT_.out (by kernel_rfl)) (fun _ _ _ h => h) (Or.inr ⟨by rfl, rfl⟩) ?_ ?_
                  rotate_left
                  · simp only [Act.put, List.setIfInBounds_toArray, List.set_cons_zero, List.set_cons_succ, i64_w, i32_w]
                    rfl
                  refine pure_ (i := 12) (N := some 41) (v := ?_) (a' := ?_) #[true, true, true, true, true, true, true, true, true, true, true, true, true, false] rfl rfl (any_of HT_.out (by kernel_rfl)) (fun _ _ _ h => h) (Or.inl ⟨by rfl, ?_⟩) ?_ ?_
                  rotate_left
                  · intro w'
                    go_simp
                    with_reducible rfl
                  rotate_left
                  · simp only [Act.put, List.setIfInBounds_toArray, List.set_cons_zero, List.set_cons_succ, i64_w, i32_w]
                    rfl
                  refine pure_ (i := 13) (N := some 28) (v := ?_) (a' := ?_) #[true, true, true, true, true, true, true, true, true, true, true, true, true, true] rfl rfl (any_of HT_.out (by kernel_rfl)) (fun _ _ _ h => h) (Or.inl ⟨by rfl, ?_⟩) ?_ ?_
                  rotate_left
                  · intro w'
                    go_simp
                    with_reducible rfl
                  rotate_left
                  · simp only [Act.put, List.setIfInBounds_toArray, List.set_cons_zero, List.set_cons_succ, i64_w, i32_w]
                    rfl
                  refine done_ (done_of HT_.out (by kernel_rfl)) ?_
                  have hcz48_0 : w47.cell? ⟨gb310, 0, none⟩ = some (.int .i64 ((rd_T37 l0 x9_1).f0)) := (blk_cell BK310.out 0).trans rfl
                  have hcz48_1 : w47.cell? ⟨gb310, 1, none⟩ = some (.int .i64 ((rd_T37 l0 x9_1).f1)) := (blk_cell BK310.out 1).trans rfl
                  have hcz48_2 : w47.cell? ⟨gb310, 2, none⟩ = some (.slice A309_2 ((rd_T37 l0 x9_1).f2).length c309_2) := (blk_cell BK310.out 2).trans rfl
                  have hfz48_0 := blk_frozen BK310.out 0
                  have hfz48_1 := blk_frozen BK310.out 1
                  have hfz48_2 := blk_frozen BK310.out 2
                  try go_wp2_with (first | ((with_reducible refine gate_callee (f := 27) rfl ?_); refine goesL_ (some 17) rfl rfl Try.func27 (by kernel_rfl) rfl #[.slice A309_2 ((rd_T37 l0 x9_1).f2).length c309_2] rfl (by (try simp only [List.map_toArray, List.map_cons, List.map_nil]); first | done | rfl | (simp only [List.length_drop, List.length_take]; rfl)) ?_; (with_reducible refine (bytes_Clone.calls k1 _ _ ((rd_T37 l0 x9_1).f2) t323 _ ?side1 ?side2 A41.out).mono ?_); (case side1 => repeat (first | exact (Kd.C_below HR309_2.out HB.out) | (with_reducible refine Kd.C_alloc ?_ _) | (with_reducible refine Kd.C_drewN ?_ _) | (with_reducible refine Kd.C_drew ?_))); (case side2 => exact HC309_2.out); rintro e w49 ⟨v324, rfl, ho0, hb⟩; refine ⟨_, rfl, ?_⟩; have n0_ := Aside0.mk (Kd.S_elder' (by (with_reducible repeat (first | apply Kd.S_alloc | apply Kd.S_drewN | apply Kd.S_drew)); exact HO_3.out) (Kd.R_base ho0) hb); have n1_ := Aside0.mk (Kd.R_lower ho0 (below_size (by repeat (first | (with_reducible first | exact HB.out | apply below_alloc | apply pw_below_drewN | apply below_drew1 | refine below_set ?_ GE310.out) | exact HB.out)))); have n2_ := Aside0.mk (blk_below (g := gb310) (o := .cells #[.int .i64 ((rd_T37 l0 x9_1).f0), .int .i64 ((rd_T37 l0 x9_1).f1), .slice A309_2 ((rd_T37 l0 x9_1).f2).length c309_2] 37 (0, 0)) (by (with_reducible repeat (first | refine blk_drewN ?_ _ | refine blk_drew ?_ | refine blk_alloc ?_ _)); exact BK310.out) hb); have n3_ := Aside0.mk (below_step (by repeat (first | (with_reducible first | exact HB.out | apply below_alloc | apply pw_below_drewN | apply below_drew1 | refine below_set ?_ GE310.out) | exact HB.out)) hb); clear HO_3; clear BK310; clear HB; have HO_3 := n0_; have HO325 := n1_; have BK310 := n2_; have HB := n3_; clear n0_ n1_ n2_ n3_; (try clear hb); (try clear hb2); (try clear hk); (try clear hi); (try clear ho0); obtain ⟨Ao50, co50, eo50⟩ := Kd.R_slice HO325.out; subst eo50; have hcz51_0 : w49.cell? ⟨gb310, 0, none⟩ = some (.int .i64 ((rd_T37 l0 x9_1).f0)) := (blk_cell BK310.out 0).trans rfl; have hcz51_1 : w49.cell? ⟨gb310, 1, none⟩ = some (.int .i64 ((rd_T37 l0 x9_1).f1)) := (blk_cell BK310.out 1).trans rfl; have hcz51_2 : w49.cell? ⟨gb310, 2, none⟩ = some (.slice A309_2 ((rd_T37 l0 x9_1).f2).length c309_2) := (blk_cell BK310.out 2).trans rfl; have hfz51_0 := blk_frozen BK310.out 0; have hfz51_1 := blk_frozen BK310.out 1; have hfz51_2 := blk_frozen BK310.out 2) | ((with_reducible refine gate_store (t := 31) (p := 18) rfl ?_); refine store_event (t := 31) (p := 18) (v := ?vo_w52) (w1 := (w49.setCell ⟨gb310, 2, none⟩ (.slice Ao50 t323.length co50))) ?hg ?ho ?hn ?hr ?_; (case ho => rfl); (case hg => rfl); (case hn => rfl); (case hr => first | (go_simp; done) | (go_simp; rfl)); intro w52 hw; have n0_ : Aside0 (Kd.S k37 37 w52 w.heap.size (fun k_ => some k_ ≠ (.slice Ao50 t323.length co50 : Value).ownBlock ∧ k_ ≠ gb310) (.slice Ao45 x3_1.length co45) x3_1) := ⟨(by rw [hw]; exact (by (with_reducible repeat (first | apply Kd.S_alloc | apply Kd.S_drewN | apply Kd.S_drew)); exact Kd.S_mono (Kd.S_far (p := ⟨gb310, 2, none⟩) (Kd.S_mono HO_3.out (fun k_ hk => (⟨hk, hk.1⟩ : _ ∧ k_ ≠ gb310))) (fun _ hk => hk.2) (.slice Ao50 t323.length co50)) (fun _ hk => ⟨hk.1.2, hk.1.1⟩)))⟩; have n1_ : Aside0 (Kd.R (Kd.int .u8) 5 w52 w.heap.size (fun _ => True) (.slice Ao50 t323.length co50) t323) := ⟨(by rw [hw]; exact (by (with_reducible repeat (first | apply Kd.R_alloc | apply Kd.R_drewN | apply Kd.R_drew)); exact Kd.R_mono (Kd.R_far (p := ⟨gb310, 2, none⟩) (Kd.R_types HO325.out BK310.out (by decide)) (fun _ hk => hk.2) (.slice Ao50 t323.length co50)) (fun _ hk => trivial)))⟩; have n2_ : Aside0 (w52.heap[gb310]? = some (.cells #[.int .i64 ((rd_T37 l0 x9_1).f0), .int .i64 ((rd_T37 l0 x9_1).f1), .slice Ao50 t323.length co50] 37 (0, 0))) := ⟨(by rw [hw]; exact (by (with_reducible repeat (first | refine blk_drewN ?_ _ | refine blk_drew ?_ | refine blk_alloc ?_ _)); refine blk_put (cs := #[.int .i64 ((rd_T37 l0 x9_1).f0), .int .i64 ((rd_T37 l0 x9_1).f1), .slice A309_2 ((rd_T37 l0 x9_1).f2).length c309_2]) ?_ 2 _ rfl; (with_reducible repeat (first | refine blk_drewN ?_ _ | refine blk_drew ?_ | refine blk_alloc ?_ _)); exact BK310.out))⟩; have n3_ : Aside0 (Below w.heap.size w w52) := ⟨(by rw [hw]; exact (by repeat (first | (with_reducible first | exact HB.out | apply below_alloc | apply pw_below_drewN | apply below_drew1 | refine below_set ?_ GE310.out) | exact HB.out)))⟩; clear hw; clear HO_3; clear HO325; clear BK310; clear HB; have HO_3 := n0_; have HO325 := n1_; have BK310 := n2_; have HB := n3_; clear n0_ n1_ n2_ n3_; have hcz53_0 : w52.cell? ⟨gb310, 0, none⟩ = some (.int .i64 ((rd_T37 l0 x9_1).f0)) := (blk_cell BK310.out 0).trans rfl; have hcz53_1 : w52.cell? ⟨gb310, 1, none⟩ = some (.int .i64 ((rd_T37 l0 x9_1).f1)) := (blk_cell BK310.out 1).trans rfl; have hcz53_2 : w52.cell? ⟨gb310, 2, none⟩ = some (.slice Ao50 t323.length co50) := (blk_cell BK310.out 2).trans rfl; have hfz53_0 := blk_frozen BK310.out 0; have hfz53_1 := blk_frozen BK310.out 1; have hfz53_2 := blk_frozen BK310.out 2) | ((with_reducible refine gate_builtin (b := .append) (xs := #[.tmp 19, .tmp 21]) rfl ?_); at_builtin; refine Kd.S_append k37 (w0 := w) w.heap.size rfl (.tmp 19) (.tmp 21) 22 37 (.agg #[(.int .i64 0), (.int .i64 0), (.slice none 0 0)]) 40 rfl Try.underlying22 info37 rfl (by decide) (by omega) (.slice Ao45 x3_1.length co45) x3_1 (⟨(rd_T37 l0 x9_1).f0, (rd_T37 l0 x9_1).f1, t323⟩ : S37) [.int .i64 ((rd_T37 l0 x9_1).f0), .int .i64 ((rd_T37 l0 x9_1).f1), .slice Ao50 t323.length co50] (fun k_ => k_ ≠ gb310) (fun k_ => some k_ = (.slice Ao50 t323.length co50 : Value).ownBlock) rfl rfl ?aP (fun k_ hk_ => ((Kd.R_mono (ok' := fun k_ => ((fun k_ => k_ ≠ gb310)) k_ ∧ some k_ ≠ (.slice Ao45 x3_1.length co45 : Value).ownBlock) (Kd.R_types (Kd.R_apart' (HO325.out) (Kd.S_typed HO_3.out) (by decide)) BK310.out (by decide)) (fun k_ hk => ⟨hk.2, hk.1.2⟩))).1 k_ hk_.symm) ?aF ?aO ?aB ?aS ?aL ?_; (case aP => exact k37_mkM _ _ _ (⟨(rd_T37 l0 x9_1).f0, (rd_T37 l0 x9_1).f1, t323⟩ : S37) (Kd.R_mono (Kd.R_tight rfl (Kd.R_mono (ok' := fun k_ => ((fun k_ => k_ ≠ gb310)) k_ ∧ some k_ ≠ (.slice Ao45 x3_1.length co45 : Value).ownBlock) (Kd.R_types (Kd.R_apart' (HO325.out) (Kd.S_typed HO_3.out) (by decide)) BK310.out (by decide)) (fun k_ hk => ⟨hk.2, hk.1.2⟩))) (fun _ h_ => h_))); (case aB => exact (by repeat (first | (with_reducible first | exact HB.out | apply below_alloc | apply pw_below_drewN | apply below_drew1 | refine below_set ?_ GE310.out) | exact HB.out))); (case aF => exact (fun k_ hk => Kd.freshB (g := gb310) (o := .cells #[.int .i64 ((rd_T37 l0 x9_1).f0), .int .i64 ((rd_T37 l0 x9_1).f1), .slice Ao50 t323.length co50] 37 (0, 0)) (by (with_reducible repeat (first | refine blk_drewN ?_ _ | refine blk_drew ?_ | refine blk_alloc ?_ _)); exact BK310.out) k_ hk)); (case aO => exact (by (with_reducible repeat (first | apply Kd.S_alloc | apply Kd.S_drewN | apply Kd.S_drew)); exact Kd.S_mono HO_3.out (fun k_ hk => ⟨hk.2, fun e_ => hk.1 e_⟩))); (case aS => exact (below_size (by repeat (first | (with_reducible first | exact HB.out | apply below_alloc | apply pw_below_drewN | apply below_drew1 | refine below_set ?_ GE310.out) | exact HB.out)))); (case aL => have := LMc42.out; omega); intro v327 w54 ho hb hg hat; rw [← Ny326.out] at ho; have n0_ := Aside0.mk (blk_grown (g := gb310) (o := .cells #[.int .i64 ((rd_T37 l0 x9_1).f0), .int .i64 ((rd_T37 l0 x9_1).f1), .slice Ao50 t323.length co50] 37 (0, 0)) (by (with_reducible repeat (first | refine blk_drewN ?_ _ | refine blk_drew ?_ | refine blk_alloc ?_ _)); exact BK310.out) hg (Kd.S_away HO_3.out (fun _ hk => hk.2))); have n1_ := Aside0.mk (hb); have n2_ := Aside0.mk (ho); clear BK310; clear HB; clear HO_3; clear HO325; have BK310 := n0_; have HB := n1_; have HO328 := n2_; clear n0_ n1_ n2_; clear ho hb hg hat))
                  go_roundg k1
                  case measure => have := HK1.out; omega
                  case rel => exact ⟨(y326), (wrap64 (x9_1 + 1)), (by first | rfl | (simp; done) | (simp [*]; done)), H', ⟨by have := HK1.out; omega⟩, ⟨by (with_reducible repeat (first | apply Kd.S_alloc | apply Kd.S_drewN | apply Kd.S_drew)); exact Kd.S_mono HO328.out (fun _ hk => trivial)⟩, ⟨by repeat (first | (with_reducible first | exact HB.out | apply below_alloc | apply pw_below_drewN | apply below_drew1 | refine below_set ?_ GE310.out) | exact HB.out)⟩⟩
                · rw [if_neg c42] at H
                  exact absurd H (by simp)
          · rw [if_neg c4] at H
            exact absurd H (by simp)
        · rw [if_neg c3] at H
          exact absurd H (by simp)
      · rw [if_neg c2] at H
        have c2b0 : decide (x9_1 < (l0.length : Int)) = false := decide_eq_false c2
        clear c2
        obtain rfl := Option.some.inj H
        go_wp2
        go_ret
        exact ⟨_, by first | rfl | (simp [errW_none, errW_some] <;> rfl) | (simp [*, errW_none, errW_some] <;> rfl), by (with_reducible repeat (first | apply Kd.S_alloc | apply Kd.S_drewN | apply Kd.S_drew)); exact HO_3.out, by repeat (first | (with_reducible first | exact HB.out | apply below_alloc | apply pw_below_drewN | apply below_drew1) | exact HB.out)⟩

end Go.Proofs.Ytjcaflhlilckgaa.QA
