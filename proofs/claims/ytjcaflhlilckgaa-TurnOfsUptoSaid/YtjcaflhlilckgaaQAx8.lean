-- Written for this claim by a program of this session's, out of Lean's own print of the program; Lean checks it.
import Derived.Test.YtjcaflhlilckgaaQAx0
namespace Go.Proofs.Ytjcaflhlilckgaa.QA
open Go.RowKit Go.Proofs.YtjcaflhlilckgaaW.PrintWords Go.Proofs.YtjcaflhlilckgaaW.PrintLast Go.Proofs.YtjcaflhlilckgaaW.PrintMore
attribute [local go_sem] max2_int min2_int max_two min_two max_three min_three max_four min_four   -- for this text's walks alone
set_option linter.unusedVariables false
set_option linter.unusedSimpArgs false

/-! ### cuecardref04_Due: function 16 -/
def cuecardref04_Due.l0 : Nat → Int → List (S37) → Int → Int → Int → Option (Int)
  | 0, _, _, _, _, _ => none
  | k + 1, x0, x1, x5, x6, x7 => if x7 < (x1.length : Int) then (if 0 ≤ x7 then (if ((rd_T37 x1 x7).f0) = 1 then (if ((rd_T37 x1 x7).f0) = 0 then (if (wrap64 (x5 + (((rd_T37 x1 x7).f2).length : Int))) ≤ x0 then (cuecardref04_Due.l0 k x0 x1 (wrap64 (x5 + (((rd_T37 x1 x7).f2).length : Int))) (wrap64 (x6 + (((rd_T37 x1 x7).f2).length : Int))) (wrap64 (x7 + 1))) else (cuecardref04_Due.l0 k x0 x1 (wrap64 (x5 + (((rd_T37 x1 x7).f2).length : Int))) x6 (wrap64 (x7 + 1)))) else (cuecardref04_Due.l0 k x0 x1 (wrap64 (x5 + (((rd_T37 x1 x7).f2).length : Int))) x6 (wrap64 (x7 + 1)))) else (if ((rd_T37 x1 x7).f0) = 0 then (if x5 ≤ x0 then (cuecardref04_Due.l0 k x0 x1 x5 (wrap64 (x6 + (((rd_T37 x1 x7).f2).length : Int))) (wrap64 (x7 + 1))) else (cuecardref04_Due.l0 k x0 x1 x5 x6 (wrap64 (x7 + 1)))) else (cuecardref04_Due.l0 k x0 x1 x5 x6 (wrap64 (x7 + 1))))) else (none)) else (some x6)
def cuecardref04_Due.f (k : Nat) (a0 : Int) (l1 : List (S37)) : Option (Int) := cuecardref04_Due.l0 k a0 l1 0 0 0
theorem cuecardref04_Due.mono_l : ∀ k, (∀ y0 y1 y2 y3 y4, LeO (cuecardref04_Due.l0 k y0 y1 y2 y3 y4) (cuecardref04_Due.l0 (k + 1) y0 y1 y2 y3 y4))
  | 0 => fun _ _ _ _ _ r h => by simp [cuecardref04_Due.l0] at h
  | k + 1 => by
    have ih0 := cuecardref04_Due.mono_l k
    · intro y0 y1 y2 y3 y4
      unfold cuecardref04_Due.l0
      repeat' first
      | (with_reducible exact ih0 _ _ _ _ _)
      | (with_reducible exact LeO.refl _)
      | (with_reducible exact LeO.none _)
      | (with_reducible refine LeO.ite ?_ ?_)
      | (with_reducible refine LeO.bind ?_ (fun _ => ?_))
      | exact ih0 _ _ _ _ _
      | exact LeO.none _
      | refine LeO.ite ?_ ?_
      | refine LeO.bind ?_ (fun _ => ?_)
theorem cuecardref04_Due.mono : ∀ a0 a1 k, LeO (cuecardref04_Due.f k a0 a1) (cuecardref04_Due.f (k + 1) a0 a1) := by
  intro a0 a1 k
  have ih0 := cuecardref04_Due.mono_l k
  unfold cuecardref04_Due.f
  repeat' first
      | (with_reducible exact ih0 _ _ _ _ _)
      | (with_reducible exact LeO.refl _)
      | (with_reducible exact LeO.none _)
      | (with_reducible refine LeO.ite ?_ ?_)
      | (with_reducible refine LeO.bind ?_ (fun _ => ?_))
      | exact ih0 _ _ _ _ _
      | exact LeO.none _
      | refine LeO.ite ?_ ?_
      | refine LeO.bind ?_ (fun _ => ?_)
set_option maxHeartbeats 8000000 in
set_option maxRecDepth 100000 in
theorem cuecardref04_Due.calls (k : Nat) (a0 : Int) (A1 : Option Addr) (c1 : Nat) (l1 : List (S37)) (r : Int) (w : World) (hr1 : Kd.C k37 w A1 l1.length l1) (hc1 : l1.length ≤ c1) (h : cuecardref04_Due.f k a0 l1 = some r) :
    Calls Try.prog 16 #[.int .i64 a0, .slice A1 l1.length c1] w fun e w' => e = .returned (.int .i64 r) ∧ Below w.heap.size w w' := by
  have HR1 := Aside0.mk hr1
  have HC1 := Aside0.mk hc1
  clear hr1 hc1
  have HB := Aside0.mk (Below.refl w.heap.size w)
  have H : (cuecardref04_Due.l0 k a0 l1 0 0 0) = some r := h
  clear h
  have H' := Aside0.mk H
  clear H
  go_enter Try.func16, Try.ntmps16
  go_wp2
  go_loopg [5, 6, 7] k (fun kq v5 v6 v7 w' => ∃ (x5_1 : Int) (x6_1 : Int) (x7_1 : Int), v5 = .int .i64 x5_1 ∧ v6 = .int .i64 x6_1 ∧ v7 = .int .i64 x7_1 ∧ Aside0 (cuecardref04_Due.l0 kq a0 l1 x5_1 x6_1 x7_1 = some r) ∧ Aside0 (kq ≤ k) ∧ Aside0 (Below w.heap.size w w'))
  case atStart => exact ⟨(0), (0), (0), (by first | rfl | (simp; done) | (simp [*]; done)), (by first | rfl | (simp; done) | (simp [*]; done)), (by first | rfl | (simp; done) | (simp [*]; done)), H', ⟨Nat.le_refl _⟩, ⟨by repeat (first | (with_reducible first | exact HB.out | apply below_alloc | apply pw_below_drewN | apply below_drew1) | exact HB.out)⟩⟩
  case round =>
    clear H'
    try clear c1
    try clear p2
    obtain ⟨x5_1, x6_1, x7_1, rfl, rfl, rfl, HA, HK1, HB⟩ := hrel
    cases gk with
    | zero => exact absurd HA.out (by simp [cuecardref04_Due.l0])
    | succ k1 =>
      have H := HA.out
      clear HA
      simp only [cuecardref04_Due.l0] at H
      by_cases c3 : x7_1 < (l1.length : Int)
      · rw [if_pos c3] at H
        have c3b0 : decide (x7_1 < (l1.length : Int)) = true := decide_eq_true c3
        clear c3
        by_cases c4 : 0 ≤ x7_1
        · rw [if_pos c4] at H
          have c4b0 : decide (0 ≤ x7_1) = true := decide_eq_true c4
          clear c4
          by_cases c5 : ((rd_T37 l1 x7_1).f0) = 1
          · rw [if_pos c5] at H
            have c5b0 : (((rd_T37 l1 x7_1).f0) == 1) = true := beq_iff_eq.mpr c5
            have c5b1 : (((rd_T37 l1 x7_1).f0) != 1) = false := bne_eq_false_iff_eq.mpr c5
            clear c5
            by_cases c6 : ((rd_T37 l1 x7_1).f0) = 0
            · rw [if_pos c6] at H
              have c6b0 : (((rd_T37 l1 x7_1).f0) == 0) = true := beq_iff_eq.mpr c6
              have c6b1 : (((rd_T37 l1 x7_1).f0) != 0) = false := bne_eq_false_iff_eq.mpr c6
              clear c6
              by_cases c7 : (wrap64 (x5_1 + (((rd_T37 l1 x7_1).f2).length : Int))) ≤ a0
              · rw [if_pos c7] at H
                have c7b0 : decide ((wrap64 (x5_1 + (((rd_T37 l1 x7_1).f2).length : Int))) ≤ a0) = true := decide_eq_true c7
                clear c7
                have H' := Aside0.mk H
                clear H
                have p198 : 0 ≤ (x7_1 : Int) := of_decide_eq_true (by first | (with_reducible assumption) | assumption)
                have q198 : x7_1 < (l1.length : Int) := of_decide_eq_true (by first | (with_reducible assumption) | assumption)
                obtain ⟨ad198, A198_2, c198_2, e198, hx198_0, hx198_1, hx198_2, hl198_2, hi198_2⟩ := at_T37 HR1.out x7_1 p198 q198
                cases e198
                replace hx198_0 := (HB.out.cell (World.block_lt_of_cell? w _ hx198_0)).trans hx198_0
                replace hx198_1 := (HB.out.cell (World.block_lt_of_cell? w _ hx198_1)).trans hx198_1
                replace hx198_2 := (HB.out.cell (World.block_lt_of_cell? w _ hx198_2)).trans hx198_2
                have HR198_2 := Aside0.mk hi198_2
                have HC198_2 := Aside0.mk hl198_2
                clear hi198_2 hl198_2
                replace p198 := eq_true p198
                replace q198 := eq_true q198
                have p199 : 0 ≤ (x7_1 : Int) := of_decide_eq_true (by first | (with_reducible assumption) | assumption)
                have q199 : x7_1 < (l1.length : Int) := of_decide_eq_true (by first | (with_reducible assumption) | assumption)
                obtain ⟨ad199, A199_2, c199_2, e199, hx199_0, hx199_1, hx199_2, hl199_2, hi199_2⟩ := at_T37 HR1.out x7_1 p199 q199
                obtain rfl : ad198 = ad199 := (by injection e199)
                replace hx199_0 := (HB.out.cell (World.block_lt_of_cell? w _ hx199_0)).trans hx199_0
                replace hx199_1 := (HB.out.cell (World.block_lt_of_cell? w _ hx199_1)).trans hx199_1
                replace hx199_2 := (HB.out.cell (World.block_lt_of_cell? w _ hx199_2)).trans hx199_2
                have HR199_2 := Aside0.mk hi199_2
                have HC199_2 := Aside0.mk hl199_2
                clear hi199_2 hl199_2
                replace p199 := eq_true p199
                replace q199 := eq_true q199
                have ea_ := Option.some.inj (hx198_2.symm.trans hx199_2)
                injection ea_ with ea_ en_ ec_
                subst ea_
                subst ec_
                clear en_
                have p200 : 0 ≤ (x7_1 : Int) := of_decide_eq_true (by first | (with_reducible assumption) | assumption)
                have q200 : x7_1 < (l1.length : Int) := of_decide_eq_true (by first | (with_reducible assumption) | assumption)
                obtain ⟨ad200, A200_2, c200_2, e200, hx200_0, hx200_1, hx200_2, hl200_2, hi200_2⟩ := at_T37 HR1.out x7_1 p200 q200
                obtain rfl : ad198 = ad200 := (by injection e200)
                replace hx200_0 := (HB.out.cell (World.block_lt_of_cell? w _ hx200_0)).trans hx200_0
                replace hx200_1 := (HB.out.cell (World.block_lt_of_cell? w _ hx200_1)).trans hx200_1
                replace hx200_2 := (HB.out.cell (World.block_lt_of_cell? w _ hx200_2)).trans hx200_2
                have HR200_2 := Aside0.mk hi200_2
                have HC200_2 := Aside0.mk hl200_2
                clear hi200_2 hl200_2
                replace p200 := eq_true p200
                replace q200 := eq_true q200
                have ea_ := Option.some.inj (hx198_2.symm.trans hx200_2)
                injection ea_ with ea_ en_ ec_
                subst ea_
                subst ec_
                clear en_
                have p201 : 0 ≤ (x7_1 : Int) := of_decide_eq_true (by first | (with_reducible assumption) | assumption)
                have q201 : x7_1 < (l1.length : Int) := of_decide_eq_true (by first | (with_reducible assumption) | assumption)
                obtain ⟨ad201, A201_2, c201_2, e201, hx201_0, hx201_1, hx201_2, hl201_2, hi201_2⟩ := at_T37 HR1.out x7_1 p201 q201
                obtain rfl : ad198 = ad201 := (by injection e201)
                replace hx201_0 := (HB.out.cell (World.block_lt_of_cell? w _ hx201_0)).trans hx201_0
                replace hx201_1 := (HB.out.cell (World.block_lt_of_cell? w _ hx201_1)).trans hx201_1
                replace hx201_2 := (HB.out.cell (World.block_lt_of_cell? w _ hx201_2)).trans hx201_2
                have HR201_2 := Aside0.mk hi201_2
                have HC201_2 := Aside0.mk hl201_2
                clear hi201_2 hl201_2
                replace p201 := eq_true p201
                replace q201 := eq_true q201
                have ea_ := Option.some.inj (hx198_2.symm.trans hx201_2)
                injection ea_ with ea_ en_ ec_
                subst ea_
                subst ec_
                clear en_
                go_wp2
                go_roundg k1
                case measure => have := HK1.out; omega
                case rel => exact ⟨(wrap64 (x5_1 + (((rd_T37 l1 x7_1).f2).length : Int))), (wrap64 (x6_1 + (((rd_T37 l1 x7_1).f2).length : Int))), (wrap64 (x7_1 + 1)), (by first | rfl | (simp; done) | (simp [*]; done)), (by first | rfl | (simp; done) | (simp [*]; done)), (by first | rfl | (simp; done) | (simp [*]; done)), H', ⟨by have := HK1.out; omega⟩, ⟨by repeat (first | (with_reducible first | exact HB.out | apply below_alloc | apply pw_below_drewN | apply below_drew1) | exact HB.out)⟩⟩
              · rw [if_neg c7] at H
                have c7b0 : decide ((wrap64 (x5_1 + (((rd_T37 l1 x7_1).f2).length : Int))) ≤ a0) = false := decide_eq_false c7
                clear c7
                have H' := Aside0.mk H
                clear H
                have p198 : 0 ≤ (x7_1 : Int) := of_decide_eq_true (by first | (with_reducible assumption) | assumption)
                have q198 : x7_1 < (l1.length : Int) := of_decide_eq_true (by first | (with_reducible assumption) | assumption)
                obtain ⟨ad198, A198_2, c198_2, e198, hx198_0, hx198_1, hx198_2, hl198_2, hi198_2⟩ := at_T37 HR1.out x7_1 p198 q198
                cases e198
                replace hx198_0 := (HB.out.cell (World.block_lt_of_cell? w _ hx198_0)).trans hx198_0
                replace hx198_1 := (HB.out.cell (World.block_lt_of_cell? w _ hx198_1)).trans hx198_1
                replace hx198_2 := (HB.out.cell (World.block_lt_of_cell? w _ hx198_2)).trans hx198_2
                have HR198_2 := Aside0.mk hi198_2
                have HC198_2 := Aside0.mk hl198_2
                clear hi198_2 hl198_2
                replace p198 := eq_true p198
                replace q198 := eq_true q198
                have p199 : 0 ≤ (x7_1 : Int) := of_decide_eq_true (by first | (with_reducible assumption) | assumption)
                have q199 : x7_1 < (l1.length : Int) := of_decide_eq_true (by first | (with_reducible assumption) | assumption)
                obtain ⟨ad199, A199_2, c199_2, e199, hx199_0, hx199_1, hx199_2, hl199_2, hi199_2⟩ := at_T37 HR1.out x7_1 p199 q199
                obtain rfl : ad198 = ad199 := (by injection e199)
                replace hx199_0 := (HB.out.cell (World.block_lt_of_cell? w _ hx199_0)).trans hx199_0
                replace hx199_1 := (HB.out.cell (World.block_lt_of_cell? w _ hx199_1)).trans hx199_1
                replace hx199_2 := (HB.out.cell (World.block_lt_of_cell? w _ hx199_2)).trans hx199_2
                have HR199_2 := Aside0.mk hi199_2
                have HC199_2 := Aside0.mk hl199_2
                clear hi199_2 hl199_2
                replace p199 := eq_true p199
                replace q199 := eq_true q199
                have ea_ := Option.some.inj (hx198_2.symm.trans hx199_2)
                injection ea_ with ea_ en_ ec_
                subst ea_
                subst ec_
                clear en_
                have p200 : 0 ≤ (x7_1 : Int) := of_decide_eq_true (by first | (with_reducible assumption) | assumption)
                have q200 : x7_1 < (l1.length : Int) := of_decide_eq_true (by first | (with_reducible assumption) | assumption)
                obtain ⟨ad200, A200_2, c200_2, e200, hx200_0, hx200_1, hx200_2, hl200_2, hi200_2⟩ := at_T37 HR1.out x7_1 p200 q200
                obtain rfl : ad198 = ad200 := (by injection e200)
                replace hx200_0 := (HB.out.cell (World.block_lt_of_cell? w _ hx200_0)).trans hx200_0
                replace hx200_1 := (HB.out.cell (World.block_lt_of_cell? w _ hx200_1)).trans hx200_1
                replace hx200_2 := (HB.out.cell (World.block_lt_of_cell? w _ hx200_2)).trans hx200_2
                have HR200_2 := Aside0.mk hi200_2
                have HC200_2 := Aside0.mk hl200_2
                clear hi200_2 hl200_2
                replace p200 := eq_true p200
                replace q200 := eq_true q200
                have ea_ := Option.some.inj (hx198_2.symm.trans hx200_2)
                injection ea_ with ea_ en_ ec_
                subst ea_
                subst ec_
                clear en_
                go_wp2
                go_roundg k1
                case measure => have := HK1.out; omega
                case rel => exact ⟨(wrap64 (x5_1 + (((rd_T37 l1 x7_1).f2).length : Int))), (x6_1), (wrap64 (x7_1 + 1)), (by first | rfl | (simp; done) | (simp [*]; done)), (by first | rfl | (simp; done) | (simp [*]; done)), (by first | rfl | (simp; done) | (simp [*]; done)), H', ⟨by have := HK1.out; omega⟩, ⟨by repeat (first | (with_reducible first | exact HB.out | apply below_alloc | apply pw_below_drewN | apply below_drew1) | exact HB.out)⟩⟩
            · rw [if_neg c6] at H
              have c6b0 : (((rd_T37 l1 x7_1).f0) == 0) = false := beq_eq_false_iff_ne.mpr c6
              have c6b1 : (((rd_T37 l1 x7_1).f0) != 0) = true := bne_iff_ne.mpr c6
              have H' := Aside0.mk H
              clear H
              have p198 : 0 ≤ (x7_1 : Int) := of_decide_eq_true (by first | (with_reducible assumption) | assumption)
              have q198 : x7_1 < (l1.length : Int) := of_decide_eq_true (by first | (with_reducible assumption) | assumption)
              obtain ⟨ad198, A198_2, c198_2, e198, hx198_0, hx198_1, hx198_2, hl198_2, hi198_2⟩ := at_T37 HR1.out x7_1 p198 q198
              cases e198
              replace hx198_0 := (HB.out.cell (World.block_lt_of_cell? w _ hx198_0)).trans hx198_0
              replace hx198_1 := (HB.out.cell (World.block_lt_of_cell? w _ hx198_1)).trans hx198_1
              replace hx198_2 := (HB.out.cell (World.block_lt_of_cell? w _ hx198_2)).trans hx198_2
              have HR198_2 := Aside0.mk hi198_2
              have HC198_2 := Aside0.mk hl198_2
              clear hi198_2 hl198_2
              replace p198 := eq_true p198
              replace q198 := eq_true q198
              have p199 : 0 ≤ (x7_1 : Int) := of_decide_eq_true (by first | (with_reducible assumption) | assumption)
              have q199 : x7_1 < (l1.length : Int) := of_decide_eq_true (by first | (with_reducible assumption) | assumption)
              obtain ⟨ad199, A199_2, c199_2, e199, hx199_0, hx199_1, hx199_2, hl199_2, hi199_2⟩ := at_T37 HR1.out x7_1 p199 q199
              obtain rfl : ad198 = ad199 := (by injection e199)
              replace hx199_0 := (HB.out.cell (World.block_lt_of_cell? w _ hx199_0)).trans hx199_0
              replace hx199_1 := (HB.out.cell (World.block_lt_of_cell? w _ hx199_1)).trans hx199_1
              replace hx199_2 := (HB.out.cell (World.block_lt_of_cell? w _ hx199_2)).trans hx199_2
              have HR199_2 := Aside0.mk hi199_2
              have HC199_2 := Aside0.mk hl199_2
              clear hi199_2 hl199_2
              replace p199 := eq_true p199
              replace q199 := eq_true q199
              have ea_ := Option.some.inj (hx198_2.symm.trans hx199_2)
              injection ea_ with ea_ en_ ec_
              subst ea_
              subst ec_
              clear en_
              have p200 : 0 ≤ (x7_1 : Int) := of_decide_eq_true (by first | (with_reducible assumption) | assumption)
              have q200 : x7_1 < (l1.length : Int) := of_decide_eq_true (by first | (with_reducible assumption) | assumption)
              obtain ⟨ad200, A200_2, c200_2, e200, hx200_0, hx200_1, hx200_2, hl200_2, hi200_2⟩ := at_T37 HR1.out x7_1 p200 q200
              obtain rfl : ad198 = ad200 := (by injection e200)
              replace hx200_0 := (HB.out.cell (World.block_lt_of_cell? w _ hx200_0)).trans hx200_0
              replace hx200_1 := (HB.out.cell (World.block_lt_of_cell? w _ hx200_1)).trans hx200_1
              replace hx200_2 := (HB.out.cell (World.block_lt_of_cell? w _ hx200_2)).trans hx200_2
              have HR200_2 := Aside0.mk hi200_2
              have HC200_2 := Aside0.mk hl200_2
              clear hi200_2 hl200_2
              replace p200 := eq_true p200
              replace q200 := eq_true q200
              have ea_ := Option.some.inj (hx198_2.symm.trans hx200_2)
              injection ea_ with ea_ en_ ec_
              subst ea_
              subst ec_
              clear en_
              go_wp2
              go_roundg k1
              case measure => have := HK1.out; omega
              case rel => exact ⟨(wrap64 (x5_1 + (((rd_T37 l1 x7_1).f2).length : Int))), (x6_1), (wrap64 (x7_1 + 1)), (by first | rfl | (simp; done) | (simp [*]; done)), (by first | rfl | (simp; done) | (simp [*]; done)), (by first | rfl | (simp; done) | (simp [*]; done)), H', ⟨by have := HK1.out; omega⟩, ⟨by repeat (first | (with_reducible first | exact HB.out | apply below_alloc | apply pw_below_drewN | apply below_drew1) | exact HB.out)⟩⟩
          · rw [if_neg c5] at H
            have c5b0 : (((rd_T37 l1 x7_1).f0) == 1) = false := beq_eq_false_iff_ne.mpr c5
            have c5b1 : (((rd_T37 l1 x7_1).f0) != 1) = true := bne_iff_ne.mpr c5
            by_cases c8 : ((rd_T37 l1 x7_1).f0) = 0
            · rw [if_pos c8] at H
              have c8b0 : (((rd_T37 l1 x7_1).f0) == 0) = true := beq_iff_eq.mpr c8
              have c8b1 : (((rd_T37 l1 x7_1).f0) != 0) = false := bne_eq_false_iff_eq.mpr c8
              clear c8
              by_cases c9 : x5_1 ≤ a0
              · rw [if_pos c9] at H
                have c9b0 : decide (x5_1 ≤ a0) = true := decide_eq_true c9
                clear c9
                have H' := Aside0.mk H
                clear H
                have p198 : 0 ≤ (x7_1 : Int) := of_decide_eq_true (by first | (with_reducible assumption) | assumption)
                have q198 : x7_1 < (l1.length : Int) := of_decide_eq_true (by first | (with_reducible assumption) | assumption)
                obtain ⟨ad198, A198_2, c198_2, e198, hx198_0, hx198_1, hx198_2, hl198_2, hi198_2⟩ := at_T37 HR1.out x7_1 p198 q198
                cases e198
                replace hx198_0 := (HB.out.cell (World.block_lt_of_cell? w _ hx198_0)).trans hx198_0
                replace hx198_1 := (HB.out.cell (World.block_lt_of_cell? w _ hx198_1)).trans hx198_1
                replace hx198_2 := (HB.out.cell (World.block_lt_of_cell? w _ hx198_2)).trans hx198_2
                have HR198_2 := Aside0.mk hi198_2
                have HC198_2 := Aside0.mk hl198_2
                clear hi198_2 hl198_2
                replace p198 := eq_true p198
                replace q198 := eq_true q198
                have p202 : 0 ≤ (x7_1 : Int) := of_decide_eq_true (by first | (with_reducible assumption) | assumption)
                have q202 : x7_1 < (l1.length : Int) := of_decide_eq_true (by first | (with_reducible assumption) | assumption)
                obtain ⟨ad202, A202_2, c202_2, e202, hx202_0, hx202_1, hx202_2, hl202_2, hi202_2⟩ := at_T37 HR1.out x7_1 p202 q202
                obtain rfl : ad198 = ad202 := (by injection e202)
                replace hx202_0 := (HB.out.cell (World.block_lt_of_cell? w _ hx202_0)).trans hx202_0
                replace hx202_1 := (HB.out.cell (World.block_lt_of_cell? w _ hx202_1)).trans hx202_1
                replace hx202_2 := (HB.out.cell (World.block_lt_of_cell? w _ hx202_2)).trans hx202_2
                have HR202_2 := Aside0.mk hi202_2
                have HC202_2 := Aside0.mk hl202_2
                clear hi202_2 hl202_2
                replace p202 := eq_true p202
                replace q202 := eq_true q202
                have ea_ := Option.some.inj (hx198_2.symm.trans hx202_2)
                injection ea_ with ea_ en_ ec_
                subst ea_
                subst ec_
                clear en_
                have p203 : 0 ≤ (x7_1 : Int) := of_decide_eq_true (by first | (with_reducible assumption) | assumption)
                have q203 : x7_1 < (l1.length : Int) := of_decide_eq_true (by first | (with_reducible assumption) | assumption)
                obtain ⟨ad203, A203_2, c203_2, e203, hx203_0, hx203_1, hx203_2, hl203_2, hi203_2⟩ := at_T37 HR1.out x7_1 p203 q203
                obtain rfl : ad198 = ad203 := (by injection e203)
                replace hx203_0 := (HB.out.cell (World.block_lt_of_cell? w _ hx203_0)).trans hx203_0
                replace hx203_1 := (HB.out.cell (World.block_lt_of_cell? w _ hx203_1)).trans hx203_1
                replace hx203_2 := (HB.out.cell (World.block_lt_of_cell? w _ hx203_2)).trans hx203_2
                have HR203_2 := Aside0.mk hi203_2
                have HC203_2 := Aside0.mk hl203_2
                clear hi203_2 hl203_2
                replace p203 := eq_true p203
                replace q203 := eq_true q203
                have ea_ := Option.some.inj (hx198_2.symm.trans hx203_2)
                injection ea_ with ea_ en_ ec_
                subst ea_
                subst ec_
                clear en_
                go_wp2
                go_roundg k1
                case measure => have := HK1.out; omega
                case rel => exact ⟨(x5_1), (wrap64 (x6_1 + (((rd_T37 l1 x7_1).f2).length : Int))), (wrap64 (x7_1 + 1)), (by first | rfl | (simp; done) | (simp [*]; done)), (by first | rfl | (simp; done) | (simp [*]; done)), (by first | rfl | (simp; done) | (simp [*]; done)), H', ⟨by have := HK1.out; omega⟩, ⟨by repeat (first | (with_reducible first | exact HB.out | apply below_alloc | apply pw_below_drewN | apply below_drew1) | exact HB.out)⟩⟩
              · rw [if_neg c9] at H
                have c9b0 : decide (x5_1 ≤ a0) = false := decide_eq_false c9
                clear c9
                have H' := Aside0.mk H
                clear H
                have p198 : 0 ≤ (x7_1 : Int) := of_decide_eq_true (by first | (with_reducible assumption) | assumption)
                have q198 : x7_1 < (l1.length : Int) := of_decide_eq_true (by first | (with_reducible assumption) | assumption)
                obtain ⟨ad198, A198_2, c198_2, e198, hx198_0, hx198_1, hx198_2, hl198_2, hi198_2⟩ := at_T37 HR1.out x7_1 p198 q198
                cases e198
                replace hx198_0 := (HB.out.cell (World.block_lt_of_cell? w _ hx198_0)).trans hx198_0
                replace hx198_1 := (HB.out.cell (World.block_lt_of_cell? w _ hx198_1)).trans hx198_1
                replace hx198_2 := (HB.out.cell (World.block_lt_of_cell? w _ hx198_2)).trans hx198_2
                have HR198_2 := Aside0.mk hi198_2
                have HC198_2 := Aside0.mk hl198_2
                clear hi198_2 hl198_2
                replace p198 := eq_true p198
                replace q198 := eq_true q198
                have p202 : 0 ≤ (x7_1 : Int) := of_decide_eq_true (by first | (with_reducible assumption) | assumption)
                have q202 : x7_1 < (l1.length : Int) := of_decide_eq_true (by first | (with_reducible assumption) | assumption)
                obtain ⟨ad202, A202_2, c202_2, e202, hx202_0, hx202_1, hx202_2, hl202_2, hi202_2⟩ := at_T37 HR1.out x7_1 p202 q202
                obtain rfl : ad198 = ad202 := (by injection e202)
                replace hx202_0 := (HB.out.cell (World.block_lt_of_cell? w _ hx202_0)).trans hx202_0
                replace hx202_1 := (HB.out.cell (World.block_lt_of_cell? w _ hx202_1)).trans hx202_1
                replace hx202_2 := (HB.out.cell (World.block_lt_of_cell? w _ hx202_2)).trans hx202_2
                have HR202_2 := Aside0.mk hi202_2
                have HC202_2 := Aside0.mk hl202_2
                clear hi202_2 hl202_2
                replace p202 := eq_true p202
                replace q202 := eq_true q202
                have ea_ := Option.some.inj (hx198_2.symm.trans hx202_2)
                injection ea_ with ea_ en_ ec_
                subst ea_
                subst ec_
                clear en_
                go_wp2
                go_roundg k1
                case measure => have := HK1.out; omega
                case rel => exact ⟨(x5_1), (x6_1), (wrap64 (x7_1 + 1)), (by first | rfl | (simp; done) | (simp [*]; done)), (by first | rfl | (simp; done) | (simp [*]; done)), (by first | rfl | (simp; done) | (simp [*]; done)), H', ⟨by have := HK1.out; omega⟩, ⟨by repeat (first | (with_reducible first | exact HB.out | apply below_alloc | apply pw_below_drewN | apply below_drew1) | exact HB.out)⟩⟩
            · rw [if_neg c8] at H
              have c8b0 : (((rd_T37 l1 x7_1).f0) == 0) = false := beq_eq_false_iff_ne.mpr c8
              have c8b1 : (((rd_T37 l1 x7_1).f0) != 0) = true := bne_iff_ne.mpr c8
              have H' := Aside0.mk H
              clear H
              have p198 : 0 ≤ (x7_1 : Int) := of_decide_eq_true (by first | (with_reducible assumption) | assumption)
              have q198 : x7_1 < (l1.length : Int) := of_decide_eq_true (by first | (with_reducible assumption) | assumption)
              obtain ⟨ad198, A198_2, c198_2, e198, hx198_0, hx198_1, hx198_2, hl198_2, hi198_2⟩ := at_T37 HR1.out x7_1 p198 q198
              cases e198
              replace hx198_0 := (HB.out.cell (World.block_lt_of_cell? w _ hx198_0)).trans hx198_0
              replace hx198_1 := (HB.out.cell (World.block_lt_of_cell? w _ hx198_1)).trans hx198_1
              replace hx198_2 := (HB.out.cell (World.block_lt_of_cell? w _ hx198_2)).trans hx198_2
              have HR198_2 := Aside0.mk hi198_2
              have HC198_2 := Aside0.mk hl198_2
              clear hi198_2 hl198_2
              replace p198 := eq_true p198
              replace q198 := eq_true q198
              have p202 : 0 ≤ (x7_1 : Int) := of_decide_eq_true (by first | (with_reducible assumption) | assumption)
              have q202 : x7_1 < (l1.length : Int) := of_decide_eq_true (by first | (with_reducible assumption) | assumption)
              obtain ⟨ad202, A202_2, c202_2, e202, hx202_0, hx202_1, hx202_2, hl202_2, hi202_2⟩ := at_T37 HR1.out x7_1 p202 q202
              obtain rfl : ad198 = ad202 := (by injection e202)
              replace hx202_0 := (HB.out.cell (World.block_lt_of_cell? w _ hx202_0)).trans hx202_0
              replace hx202_1 := (HB.out.cell (World.block_lt_of_cell? w _ hx202_1)).trans hx202_1
              replace hx202_2 := (HB.out.cell (World.block_lt_of_cell? w _ hx202_2)).trans hx202_2
              have HR202_2 := Aside0.mk hi202_2
              have HC202_2 := Aside0.mk hl202_2
              clear hi202_2 hl202_2
              replace p202 := eq_true p202
              replace q202 := eq_true q202
              have ea_ := Option.some.inj (hx198_2.symm.trans hx202_2)
              injection ea_ with ea_ en_ ec_
              subst ea_
              subst ec_
              clear en_
              go_wp2
              go_roundg k1
              case measure => have := HK1.out; omega
              case rel => exact ⟨(x5_1), (x6_1), (wrap64 (x7_1 + 1)), (by first | rfl | (simp; done) | (simp [*]; done)), (by first | rfl | (simp; done) | (simp [*]; done)), (by first | rfl | (simp; done) | (simp [*]; done)), H', ⟨by have := HK1.out; omega⟩, ⟨by repeat (first | (with_reducible first | exact HB.out | apply below_alloc | apply pw_below_drewN | apply below_drew1) | exact HB.out)⟩⟩
        · rw [if_neg c4] at H
          exact absurd H (by simp)
      · rw [if_neg c3] at H
        have c3b0 : decide (x7_1 < (l1.length : Int)) = false := decide_eq_false c3
        clear c3
        obtain rfl := Option.some.inj H
        go_wp2
        go_ret
        exact ⟨by first | rfl | (simp [errW_none, errW_some] <;> rfl) | (simp [*, errW_none, errW_some] <;> rfl), by repeat (first | (with_reducible first | exact HB.out | apply below_alloc | apply pw_below_drewN | apply below_drew1) | exact HB.out)⟩

end Go.Proofs.Ytjcaflhlilckgaa.QA
