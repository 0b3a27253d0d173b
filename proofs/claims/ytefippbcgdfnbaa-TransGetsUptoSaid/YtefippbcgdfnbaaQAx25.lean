-- Written for this claim by a program of this session's, out of Lean's own print of the program; Lean checks it.
import Derived.Test.YtefippbcgdfnbaaQAx0
namespace Go.Proofs.Ytefippbcgdfnbaa.QA
open Go.RowKit Go.Proofs.YtefippbcgdfnbaaW.PrintWords Go.Proofs.YtefippbcgdfnbaaW.PrintLast Go.Proofs.YtefippbcgdfnbaaW.PrintMore
attribute [local go_sem] max2_int min2_int max_two min_two max_three min_three max_four min_four   -- for this text's walks alone
set_option linter.unusedVariables false
set_option linter.unusedSimpArgs false

/-! ### cuecardref04_Same: function 27 -/
def cuecardref04_Same.l0 : Nat → List (S43) → List (S43) → Int → Option (Bool)
  | 0, _, _, _ => none
  | k + 1, x0, x1, x5 => if x5 < (x0.length : Int) then (if 0 ≤ x5 then (if x5 < (x1.length : Int) then (if ((rd_T43 x0 x5).f0) = ((rd_T43 x1 x5).f0) then (if ((rd_T43 x0 x5).f1) = ((rd_T43 x1 x5).f1) then (if (strOfNums ((rd_T43 x0 x5).f2)).toList = (strOfNums ((rd_T43 x1 x5).f2)).toList then (cuecardref04_Same.l0 k x0 x1 (wrap64 (x5 + 1))) else (some false)) else (some false)) else (some false)) else (none)) else (none)) else (some true)
def cuecardref04_Same.f (k : Nat) (l0 : List (S43)) (l1 : List (S43)) : Option (Bool) := if (l0.length : Int) = (l1.length : Int) then (cuecardref04_Same.l0 k l0 l1 0) else (some false)
theorem cuecardref04_Same.mono_l : ∀ k, (∀ y0 y1 y2, LeO (cuecardref04_Same.l0 k y0 y1 y2) (cuecardref04_Same.l0 (k + 1) y0 y1 y2))
  | 0 => fun _ _ _ r h => by simp [cuecardref04_Same.l0] at h
  | k + 1 => by
    have ih0 := cuecardref04_Same.mono_l k
    · intro y0 y1 y2
      unfold cuecardref04_Same.l0
      repeat' first
      | (with_reducible exact ih0 _ _ _)
      | (with_reducible exact LeO.refl _)
      | (with_reducible exact LeO.none _)
      | (with_reducible refine LeO.ite ?_ ?_)
      | (with_reducible refine LeO.bind ?_ (fun _ => ?_))
      | exact ih0 _ _ _
      | exact LeO.none _
      | refine LeO.ite ?_ ?_
      | refine LeO.bind ?_ (fun _ => ?_)
theorem cuecardref04_Same.mono : ∀ a0 a1 k, LeO (cuecardref04_Same.f k a0 a1) (cuecardref04_Same.f (k + 1) a0 a1) := by
  intro a0 a1 k
  have ih0 := cuecardref04_Same.mono_l k
  unfold cuecardref04_Same.f
  repeat' first
      | (with_reducible exact ih0 _ _ _)
      | (with_reducible exact LeO.refl _)
      | (with_reducible exact LeO.none _)
      | (with_reducible refine LeO.ite ?_ ?_)
      | (with_reducible refine LeO.bind ?_ (fun _ => ?_))
      | exact ih0 _ _ _
      | exact LeO.none _
      | refine LeO.ite ?_ ?_
      | refine LeO.bind ?_ (fun _ => ?_)
set_option maxHeartbeats 8000000 in
set_option maxRecDepth 100000 in
theorem cuecardref04_Same.calls (k : Nat) (A0 : Option Addr) (c0 : Nat) (l0 : List (S43)) (A1 : Option Addr) (c1 : Nat) (l1 : List (S43)) (r : Bool) (w : World) (hr0 : Kd.C k43 w A0 l0.length l0) (hc0 : l0.length ≤ c0) (hr1 : Kd.C k43 w A1 l1.length l1) (hc1 : l1.length ≤ c1) (h : cuecardref04_Same.f k l0 l1 = some r) :
    Calls Try.prog 27 #[.slice A0 l0.length c0, .slice A1 l1.length c1] w fun e w' => e = .returned (.bool r) ∧ Below w.heap.size w w' := by
  have HR0 := Aside0.mk hr0
  have HC0 := Aside0.mk hc0
  clear hr0 hc0
  have HR1 := Aside0.mk hr1
  have HC1 := Aside0.mk hc1
  clear hr1 hc1
  have HB := Aside0.mk (Below.refl w.heap.size w)
  have H : (if (l0.length : Int) = (l1.length : Int) then (cuecardref04_Same.l0 k l0 l1 0) else (some false)) = some r := h
  clear h
  by_cases c3 : (l0.length : Int) = (l1.length : Int)
  · rw [if_pos c3] at H
    have c3b0 : ((l0.length : Int) == (l1.length : Int)) = true := beq_iff_eq.mpr c3
    have c3b1 : ((l0.length : Int) != (l1.length : Int)) = false := bne_eq_false_iff_eq.mpr c3
    have c3b2 : (l0.length == l1.length) = true := by first | simpa using c3 | (simp at c3 ⊢; omega)
    clear c3
    have H' := Aside0.mk H
    clear H
    go_enter Try.func27, Try.ntmps27
    go_wp2
    repeat (go_quiet (fail); try go_wp2)
    go_loopg [5] k (fun kq v5 w' => ∃ (x5_1 : Int), v5 = .int .i64 x5_1 ∧ Aside0 (cuecardref04_Same.l0 kq l0 l1 x5_1 = some r) ∧ Aside0 (kq ≤ k) ∧ Aside0 (Below w.heap.size w w'))
    case atStart => exact ⟨(0), (by first | rfl | (simp; done) | (simp [*]; done)), H', ⟨Nat.le_refl _⟩, ⟨by repeat (first | (with_reducible first | exact HB.out | apply below_alloc | apply pw_below_drewN | apply below_drew1) | exact HB.out)⟩⟩
    case round =>
      clear H'
      try clear c1
      try clear c2
      try clear p2
      try clear c3
      try clear c3b0
      try clear c3b1
      try clear c3b2
      obtain ⟨x5_1, rfl, HA, HK1, HB⟩ := hrel
      cases gk with
      | zero => exact absurd HA.out (by simp [cuecardref04_Same.l0])
      | succ k1 =>
        have H := HA.out
        clear HA
        simp only [cuecardref04_Same.l0] at H
        by_cases c4 : x5_1 < (l0.length : Int)
        · rw [if_pos c4] at H
          have c4b0 : decide (x5_1 < (l0.length : Int)) = true := decide_eq_true c4
          clear c4
          by_cases c5 : 0 ≤ x5_1
          · rw [if_pos c5] at H
            have c5b0 : decide (0 ≤ x5_1) = true := decide_eq_true c5
            clear c5
            by_cases c6 : x5_1 < (l1.length : Int)
            · rw [if_pos c6] at H
              have c6b0 : decide (x5_1 < (l1.length : Int)) = true := decide_eq_true c6
              clear c6
              by_cases c7 : ((rd_T43 l0 x5_1).f0) = ((rd_T43 l1 x5_1).f0)
              · rw [if_pos c7] at H
                have c7b0 : (((rd_T43 l0 x5_1).f0) == ((rd_T43 l1 x5_1).f0)) = true := beq_iff_eq.mpr c7
                have c7b1 : (((rd_T43 l0 x5_1).f0) != ((rd_T43 l1 x5_1).f0)) = false := bne_eq_false_iff_eq.mpr c7
                clear c7
                by_cases c8 : ((rd_T43 l0 x5_1).f1) = ((rd_T43 l1 x5_1).f1)
                · rw [if_pos c8] at H
                  have c8b0 : (((rd_T43 l0 x5_1).f1) == ((rd_T43 l1 x5_1).f1)) = true := beq_iff_eq.mpr c8
                  have c8b1 : (((rd_T43 l0 x5_1).f1) != ((rd_T43 l1 x5_1).f1)) = false := bne_eq_false_iff_eq.mpr c8
                  clear c8
                  by_cases c9 : (strOfNums ((rd_T43 l0 x5_1).f2)).toList = (strOfNums ((rd_T43 l1 x5_1).f2)).toList
                  · rw [if_pos c9] at H
                    have c9b0 : ((strOfNums ((rd_T43 l0 x5_1).f2)).toList == (strOfNums ((rd_T43 l1 x5_1).f2)).toList) = true := beq_iff_eq.mpr c9
                    have c9b1 : ((strOfNums ((rd_T43 l0 x5_1).f2)).toList != (strOfNums ((rd_T43 l1 x5_1).f2)).toList) = false := bne_eq_false_iff_eq.mpr c9
                    clear c9
                    have H' := Aside0.mk H
                    clear H
                    have p259 : 0 ≤ (x5_1 : Int) := of_decide_eq_true (by first | (with_reducible assumption) | assumption)
                    have q259 : x5_1 < (l0.length : Int) := of_decide_eq_true (by first | (with_reducible assumption) | assumption)
                    obtain ⟨ad259, A259_2, c259_2, e259, hx259_0, hx259_1, hx259_2, hl259_2, hi259_2⟩ := at_T43 HR0.out x5_1 p259 q259
                    cases e259
                    replace hx259_0 := (HB.out.cell (World.block_lt_of_cell? w _ hx259_0)).trans hx259_0
                    replace hx259_1 := (HB.out.cell (World.block_lt_of_cell? w _ hx259_1)).trans hx259_1
                    replace hx259_2 := (HB.out.cell (World.block_lt_of_cell? w _ hx259_2)).trans hx259_2
                    have HR259_2 := Aside0.mk hi259_2
                    have HC259_2 := Aside0.mk hl259_2
                    clear hi259_2 hl259_2
                    replace p259 := eq_true p259
                    replace q259 := eq_true q259
                    have p260 : 0 ≤ (x5_1 : Int) := of_decide_eq_true (by first | (with_reducible assumption) | assumption)
                    have q260 : x5_1 < (l1.length : Int) := of_decide_eq_true (by first | (with_reducible assumption) | assumption)
                    obtain ⟨ad260, A260_2, c260_2, e260, hx260_0, hx260_1, hx260_2, hl260_2, hi260_2⟩ := at_T43 HR1.out x5_1 p260 q260
                    cases e260
                    replace hx260_0 := (HB.out.cell (World.block_lt_of_cell? w _ hx260_0)).trans hx260_0
                    replace hx260_1 := (HB.out.cell (World.block_lt_of_cell? w _ hx260_1)).trans hx260_1
                    replace hx260_2 := (HB.out.cell (World.block_lt_of_cell? w _ hx260_2)).trans hx260_2
                    have HR260_2 := Aside0.mk hi260_2
                    have HC260_2 := Aside0.mk hl260_2
                    clear hi260_2 hl260_2
                    replace p260 := eq_true p260
                    replace q260 := eq_true q260
                    have p261 : 0 ≤ (x5_1 : Int) := of_decide_eq_true (by first | (with_reducible assumption) | assumption)
                    have q261 : x5_1 < (l0.length : Int) := of_decide_eq_true (by first | (with_reducible assumption) | assumption)
                    obtain ⟨ad261, A261_2, c261_2, e261, hx261_0, hx261_1, hx261_2, hl261_2, hi261_2⟩ := at_T43 HR0.out x5_1 p261 q261
                    obtain rfl : ad259 = ad261 := (by injection e261)
                    replace hx261_0 := (HB.out.cell (World.block_lt_of_cell? w _ hx261_0)).trans hx261_0
                    replace hx261_1 := (HB.out.cell (World.block_lt_of_cell? w _ hx261_1)).trans hx261_1
                    replace hx261_2 := (HB.out.cell (World.block_lt_of_cell? w _ hx261_2)).trans hx261_2
                    have HR261_2 := Aside0.mk hi261_2
                    have HC261_2 := Aside0.mk hl261_2
                    clear hi261_2 hl261_2
                    replace p261 := eq_true p261
                    replace q261 := eq_true q261
                    have ea_ := Option.some.inj (hx259_2.symm.trans hx261_2)
                    injection ea_ with ea_ en_ ec_
                    subst ea_
                    subst ec_
                    clear en_
                    have p262 : 0 ≤ (x5_1 : Int) := of_decide_eq_true (by first | (with_reducible assumption) | assumption)
                    have q262 : x5_1 < (l1.length : Int) := of_decide_eq_true (by first | (with_reducible assumption) | assumption)
                    obtain ⟨ad262, A262_2, c262_2, e262, hx262_0, hx262_1, hx262_2, hl262_2, hi262_2⟩ := at_T43 HR1.out x5_1 p262 q262
                    obtain rfl : ad260 = ad262 := (by injection e262)
                    replace hx262_0 := (HB.out.cell (World.block_lt_of_cell? w _ hx262_0)).trans hx262_0
                    replace hx262_1 := (HB.out.cell (World.block_lt_of_cell? w _ hx262_1)).trans hx262_1
                    replace hx262_2 := (HB.out.cell (World.block_lt_of_cell? w _ hx262_2)).trans hx262_2
                    have HR262_2 := Aside0.mk hi262_2
                    have HC262_2 := Aside0.mk hl262_2
                    clear hi262_2 hl262_2
                    replace p262 := eq_true p262
                    replace q262 := eq_true q262
                    have ea_ := Option.some.inj (hx260_2.symm.trans hx262_2)
                    injection ea_ with ea_ en_ ec_
                    subst ea_
                    subst ec_
                    clear en_
                    have p263 : 0 ≤ (x5_1 : Int) := of_decide_eq_true (by first | (with_reducible assumption) | assumption)
                    have q263 : x5_1 < (l0.length : Int) := of_decide_eq_true (by first | (with_reducible assumption) | assumption)
                    obtain ⟨ad263, A263_2, c263_2, e263, hx263_0, hx263_1, hx263_2, hl263_2, hi263_2⟩ := at_T43 HR0.out x5_1 p263 q263
                    obtain rfl : ad259 = ad263 := (by injection e263)
                    replace hx263_0 := (HB.out.cell (World.block_lt_of_cell? w _ hx263_0)).trans hx263_0
                    replace hx263_1 := (HB.out.cell (World.block_lt_of_cell? w _ hx263_1)).trans hx263_1
                    replace hx263_2 := (HB.out.cell (World.block_lt_of_cell? w _ hx263_2)).trans hx263_2
                    have HR263_2 := Aside0.mk hi263_2
                    have HC263_2 := Aside0.mk hl263_2
                    clear hi263_2 hl263_2
                    replace p263 := eq_true p263
                    replace q263 := eq_true q263
                    have ea_ := Option.some.inj (hx259_2.symm.trans hx263_2)
                    injection ea_ with ea_ en_ ec_
                    subst ea_
                    subst ec_
                    clear en_
                    have hcv10 := Kd.C_string (P := Try.prog) (A := A259_2) (c := c259_2) Try.underlying25 Try.underlying5 Try.underlying9 (Kd.C_below HR263_2.out HB.out)
                    (try (have hcw10 := fun (m_ : Nat) => Kd.C_string (P := Try.prog) (A := A259_2) (c := c259_2) Try.underlying25 Try.underlying5 Try.underlying9 (Kd.C_drewN (Kd.C_below HR263_2.out HB.out) m_)))
                    have p264 : 0 ≤ (x5_1 : Int) := of_decide_eq_true (by first | (with_reducible assumption) | assumption)
                    have q264 : x5_1 < (l1.length : Int) := of_decide_eq_true (by first | (with_reducible assumption) | assumption)
                    obtain ⟨ad264, A264_2, c264_2, e264, hx264_0, hx264_1, hx264_2, hl264_2, hi264_2⟩ := at_T43 HR1.out x5_1 p264 q264
                    obtain rfl : ad260 = ad264 := (by injection e264)
                    replace hx264_0 := (HB.out.cell (World.block_lt_of_cell? w _ hx264_0)).trans hx264_0
                    replace hx264_1 := (HB.out.cell (World.block_lt_of_cell? w _ hx264_1)).trans hx264_1
                    replace hx264_2 := (HB.out.cell (World.block_lt_of_cell? w _ hx264_2)).trans hx264_2
                    have HR264_2 := Aside0.mk hi264_2
                    have HC264_2 := Aside0.mk hl264_2
                    clear hi264_2 hl264_2
                    replace p264 := eq_true p264
                    replace q264 := eq_true q264
                    have ea_ := Option.some.inj (hx260_2.symm.trans hx264_2)
                    injection ea_ with ea_ en_ ec_
                    subst ea_
                    subst ec_
                    clear en_
                    have hcv11 := Kd.C_string (P := Try.prog) (A := A260_2) (c := c260_2) Try.underlying25 Try.underlying5 Try.underlying9 (Kd.C_below HR264_2.out HB.out)
                    (try (have hcw11 := fun (m_ : Nat) => Kd.C_string (P := Try.prog) (A := A260_2) (c := c260_2) Try.underlying25 Try.underlying5 Try.underlying9 (Kd.C_drewN (Kd.C_below HR264_2.out HB.out) m_)))
                    go_wp2
                    repeat (go_quiet (fail); try go_wp2)
                    go_roundg k1
                    case measure => have := HK1.out; omega
                    case rel => exact ⟨(wrap64 (x5_1 + 1)), (by first | rfl | (simp; done) | (simp [*]; done)), H', ⟨by have := HK1.out; omega⟩, ⟨by repeat (first | (with_reducible first | exact HB.out | apply below_alloc | apply pw_below_drewN | apply below_drew1) | exact HB.out)⟩⟩
                  · rw [if_neg c9] at H
                    have c9b0 : ((strOfNums ((rd_T43 l0 x5_1).f2)).toList == (strOfNums ((rd_T43 l1 x5_1).f2)).toList) = false := beq_eq_false_iff_ne.mpr c9
                    have c9b1 : ((strOfNums ((rd_T43 l0 x5_1).f2)).toList != (strOfNums ((rd_T43 l1 x5_1).f2)).toList) = true := bne_iff_ne.mpr c9
                    obtain rfl := Option.some.inj H
                    have p259 : 0 ≤ (x5_1 : Int) := of_decide_eq_true (by first | (with_reducible assumption) | assumption)
                    have q259 : x5_1 < (l0.length : Int) := of_decide_eq_true (by first | (with_reducible assumption) | assumption)
                    obtain ⟨ad259, A259_2, c259_2, e259, hx259_0, hx259_1, hx259_2, hl259_2, hi259_2⟩ := at_T43 HR0.out x5_1 p259 q259
                    cases e259
                    replace hx259_0 := (HB.out.cell (World.block_lt_of_cell? w _ hx259_0)).trans hx259_0
                    replace hx259_1 := (HB.out.cell (World.block_lt_of_cell? w _ hx259_1)).trans hx259_1
                    replace hx259_2 := (HB.out.cell (World.block_lt_of_cell? w _ hx259_2)).trans hx259_2
                    have HR259_2 := Aside0.mk hi259_2
                    have HC259_2 := Aside0.mk hl259_2
                    clear hi259_2 hl259_2
                    replace p259 := eq_true p259
                    replace q259 := eq_true q259
                    have p260 : 0 ≤ (x5_1 : Int) := of_decide_eq_true (by first | (with_reducible assumption) | assumption)
                    have q260 : x5_1 < (l1.length : Int) := of_decide_eq_true (by first | (with_reducible assumption) | assumption)
                    obtain ⟨ad260, A260_2, c260_2, e260, hx260_0, hx260_1, hx260_2, hl260_2, hi260_2⟩ := at_T43 HR1.out x5_1 p260 q260
                    cases e260
                    replace hx260_0 := (HB.out.cell (World.block_lt_of_cell? w _ hx260_0)).trans hx260_0
                    replace hx260_1 := (HB.out.cell (World.block_lt_of_cell? w _ hx260_1)).trans hx260_1
                    replace hx260_2 := (HB.out.cell (World.block_lt_of_cell? w _ hx260_2)).trans hx260_2
                    have HR260_2 := Aside0.mk hi260_2
                    have HC260_2 := Aside0.mk hl260_2
                    clear hi260_2 hl260_2
                    replace p260 := eq_true p260
                    replace q260 := eq_true q260
                    have p261 : 0 ≤ (x5_1 : Int) := of_decide_eq_true (by first | (with_reducible assumption) | assumption)
                    have q261 : x5_1 < (l0.length : Int) := of_decide_eq_true (by first | (with_reducible assumption) | assumption)
                    obtain ⟨ad261, A261_2, c261_2, e261, hx261_0, hx261_1, hx261_2, hl261_2, hi261_2⟩ := at_T43 HR0.out x5_1 p261 q261
                    obtain rfl : ad259 = ad261 := (by injection e261)
                    replace hx261_0 := (HB.out.cell (World.block_lt_of_cell? w _ hx261_0)).trans hx261_0
                    replace hx261_1 := (HB.out.cell (World.block_lt_of_cell? w _ hx261_1)).trans hx261_1
                    replace hx261_2 := (HB.out.cell (World.block_lt_of_cell? w _ hx261_2)).trans hx261_2
                    have HR261_2 := Aside0.mk hi261_2
                    have HC261_2 := Aside0.mk hl261_2
                    clear hi261_2 hl261_2
                    replace p261 := eq_true p261
                    replace q261 := eq_true q261
                    have ea_ := Option.some.inj (hx259_2.symm.trans hx261_2)
                    injection ea_ with ea_ en_ ec_
                    subst ea_
                    subst ec_
                    clear en_
                    have p262 : 0 ≤ (x5_1 : Int) := of_decide_eq_true (by first | (with_reducible assumption) | assumption)
                    have q262 : x5_1 < (l1.length : Int) := of_decide_eq_true (by first | (with_reducible assumption) | assumption)
                    obtain ⟨ad262, A262_2, c262_2, e262, hx262_0, hx262_1, hx262_2, hl262_2, hi262_2⟩ := at_T43 HR1.out x5_1 p262 q262
                    obtain rfl : ad260 = ad262 := (by injection e262)
                    replace hx262_0 := (HB.out.cell (World.block_lt_of_cell? w _ hx262_0)).trans hx262_0
                    replace hx262_1 := (HB.out.cell (World.block_lt_of_cell? w _ hx262_1)).trans hx262_1
                    replace hx262_2 := (HB.out.cell (World.block_lt_of_cell? w _ hx262_2)).trans hx262_2
                    have HR262_2 := Aside0.mk hi262_2
                    have HC262_2 := Aside0.mk hl262_2
                    clear hi262_2 hl262_2
                    replace p262 := eq_true p262
                    replace q262 := eq_true q262
                    have ea_ := Option.some.inj (hx260_2.symm.trans hx262_2)
                    injection ea_ with ea_ en_ ec_
                    subst ea_
                    subst ec_
                    clear en_
                    have p263 : 0 ≤ (x5_1 : Int) := of_decide_eq_true (by first | (with_reducible assumption) | assumption)
                    have q263 : x5_1 < (l0.length : Int) := of_decide_eq_true (by first | (with_reducible assumption) | assumption)
                    obtain ⟨ad263, A263_2, c263_2, e263, hx263_0, hx263_1, hx263_2, hl263_2, hi263_2⟩ := at_T43 HR0.out x5_1 p263 q263
                    obtain rfl : ad259 = ad263 := (by injection e263)
                    replace hx263_0 := (HB.out.cell (World.block_lt_of_cell? w _ hx263_0)).trans hx263_0
                    replace hx263_1 := (HB.out.cell (World.block_lt_of_cell? w _ hx263_1)).trans hx263_1
                    replace hx263_2 := (HB.out.cell (World.block_lt_of_cell? w _ hx263_2)).trans hx263_2
                    have HR263_2 := Aside0.mk hi263_2
                    have HC263_2 := Aside0.mk hl263_2
                    clear hi263_2 hl263_2
                    replace p263 := eq_true p263
                    replace q263 := eq_true q263
                    have ea_ := Option.some.inj (hx259_2.symm.trans hx263_2)
                    injection ea_ with ea_ en_ ec_
                    subst ea_
                    subst ec_
                    clear en_
                    have hcv12 := Kd.C_string (P := Try.prog) (A := A259_2) (c := c259_2) Try.underlying25 Try.underlying5 Try.underlying9 (Kd.C_below HR263_2.out HB.out)
                    (try (have hcw12 := fun (m_ : Nat) => Kd.C_string (P := Try.prog) (A := A259_2) (c := c259_2) Try.underlying25 Try.underlying5 Try.underlying9 (Kd.C_drewN (Kd.C_below HR263_2.out HB.out) m_)))
                    have p264 : 0 ≤ (x5_1 : Int) := of_decide_eq_true (by first | (with_reducible assumption) | assumption)
                    have q264 : x5_1 < (l1.length : Int) := of_decide_eq_true (by first | (with_reducible assumption) | assumption)
                    obtain ⟨ad264, A264_2, c264_2, e264, hx264_0, hx264_1, hx264_2, hl264_2, hi264_2⟩ := at_T43 HR1.out x5_1 p264 q264
                    obtain rfl : ad260 = ad264 := (by injection e264)
                    replace hx264_0 := (HB.out.cell (World.block_lt_of_cell? w _ hx264_0)).trans hx264_0
                    replace hx264_1 := (HB.out.cell (World.block_lt_of_cell? w _ hx264_1)).trans hx264_1
                    replace hx264_2 := (HB.out.cell (World.block_lt_of_cell? w _ hx264_2)).trans hx264_2
                    have HR264_2 := Aside0.mk hi264_2
                    have HC264_2 := Aside0.mk hl264_2
                    clear hi264_2 hl264_2
                    replace p264 := eq_true p264
                    replace q264 := eq_true q264
                    have ea_ := Option.some.inj (hx260_2.symm.trans hx264_2)
                    injection ea_ with ea_ en_ ec_
                    subst ea_
                    subst ec_
                    clear en_
                    have hcv13 := Kd.C_string (P := Try.prog) (A := A260_2) (c := c260_2) Try.underlying25 Try.underlying5 Try.underlying9 (Kd.C_below HR264_2.out HB.out)
                    (try (have hcw13 := fun (m_ : Nat) => Kd.C_string (P := Try.prog) (A := A260_2) (c := c260_2) Try.underlying25 Try.underlying5 Try.underlying9 (Kd.C_drewN (Kd.C_below HR264_2.out HB.out) m_)))
                    go_wp2
                    repeat (go_quiet (fail); try go_wp2)
                    go_ret
                    exact ⟨by first | rfl | (simp [errW_none, errW_some] <;> rfl) | (simp [*, errW_none, errW_some] <;> rfl), by repeat (first | (with_reducible first | exact HB.out | apply below_alloc | apply pw_below_drewN | apply below_drew1) | exact HB.out)⟩
                · rw [if_neg c8] at H
                  have c8b0 : (((rd_T43 l0 x5_1).f1) == ((rd_T43 l1 x5_1).f1)) = false := beq_eq_false_iff_ne.mpr c8
                  have c8b1 : (((rd_T43 l0 x5_1).f1) != ((rd_T43 l1 x5_1).f1)) = true := bne_iff_ne.mpr c8
                  obtain rfl := Option.some.inj H
                  have p259 : 0 ≤ (x5_1 : Int) := of_decide_eq_true (by first | (with_reducible assumption) | assumption)
                  have q259 : x5_1 < (l0.length : Int) := of_decide_eq_true (by first | (with_reducible assumption) | assumption)
                  obtain ⟨ad259, A259_2, c259_2, e259, hx259_0, hx259_1, hx259_2, hl259_2, hi259_2⟩ := at_T43 HR0.out x5_1 p259 q259
                  cases e259
                  replace hx259_0 := (HB.out.cell (World.block_lt_of_cell? w _ hx259_0)).trans hx259_0
                  replace hx259_1 := (HB.out.cell (World.block_lt_of_cell? w _ hx259_1)).trans hx259_1
                  replace hx259_2 := (HB.out.cell (World.block_lt_of_cell? w _ hx259_2)).trans hx259_2
                  have HR259_2 := Aside0.mk hi259_2
                  have HC259_2 := Aside0.mk hl259_2
                  clear hi259_2 hl259_2
                  replace p259 := eq_true p259
                  replace q259 := eq_true q259
                  have p260 : 0 ≤ (x5_1 : Int) := of_decide_eq_true (by first | (with_reducible assumption) | assumption)
                  have q260 : x5_1 < (l1.length : Int) := of_decide_eq_true (by first | (with_reducible assumption) | assumption)
                  obtain ⟨ad260, A260_2, c260_2, e260, hx260_0, hx260_1, hx260_2, hl260_2, hi260_2⟩ := at_T43 HR1.out x5_1 p260 q260
                  cases e260
                  replace hx260_0 := (HB.out.cell (World.block_lt_of_cell? w _ hx260_0)).trans hx260_0
                  replace hx260_1 := (HB.out.cell (World.block_lt_of_cell? w _ hx260_1)).trans hx260_1
                  replace hx260_2 := (HB.out.cell (World.block_lt_of_cell? w _ hx260_2)).trans hx260_2
                  have HR260_2 := Aside0.mk hi260_2
                  have HC260_2 := Aside0.mk hl260_2
                  clear hi260_2 hl260_2
                  replace p260 := eq_true p260
                  replace q260 := eq_true q260
                  have p261 : 0 ≤ (x5_1 : Int) := of_decide_eq_true (by first | (with_reducible assumption) | assumption)
                  have q261 : x5_1 < (l0.length : Int) := of_decide_eq_true (by first | (with_reducible assumption) | assumption)
                  obtain ⟨ad261, A261_2, c261_2, e261, hx261_0, hx261_1, hx261_2, hl261_2, hi261_2⟩ := at_T43 HR0.out x5_1 p261 q261
                  obtain rfl : ad259 = ad261 := (by injection e261)
                  replace hx261_0 := (HB.out.cell (World.block_lt_of_cell? w _ hx261_0)).trans hx261_0
                  replace hx261_1 := (HB.out.cell (World.block_lt_of_cell? w _ hx261_1)).trans hx261_1
                  replace hx261_2 := (HB.out.cell (World.block_lt_of_cell? w _ hx261_2)).trans hx261_2
                  have HR261_2 := Aside0.mk hi261_2
                  have HC261_2 := Aside0.mk hl261_2
                  clear hi261_2 hl261_2
                  replace p261 := eq_true p261
                  replace q261 := eq_true q261
                  have ea_ := Option.some.inj (hx259_2.symm.trans hx261_2)
                  injection ea_ with ea_ en_ ec_
                  subst ea_
                  subst ec_
                  clear en_
                  have p262 : 0 ≤ (x5_1 : Int) := of_decide_eq_true (by first | (with_reducible assumption) | assumption)
                  have q262 : x5_1 < (l1.length : Int) := of_decide_eq_true (by first | (with_reducible assumption) | assumption)
                  obtain ⟨ad262, A262_2, c262_2, e262, hx262_0, hx262_1, hx262_2, hl262_2, hi262_2⟩ := at_T43 HR1.out x5_1 p262 q262
                  obtain rfl : ad260 = ad262 := (by injection e262)
                  replace hx262_0 := (HB.out.cell (World.block_lt_of_cell? w _ hx262_0)).trans hx262_0
                  replace hx262_1 := (HB.out.cell (World.block_lt_of_cell? w _ hx262_1)).trans hx262_1
                  replace hx262_2 := (HB.out.cell (World.block_lt_of_cell? w _ hx262_2)).trans hx262_2
                  have HR262_2 := Aside0.mk hi262_2
                  have HC262_2 := Aside0.mk hl262_2
                  clear hi262_2 hl262_2
                  replace p262 := eq_true p262
                  replace q262 := eq_true q262
                  have ea_ := Option.some.inj (hx260_2.symm.trans hx262_2)
                  injection ea_ with ea_ en_ ec_
                  subst ea_
                  subst ec_
                  clear en_
                  go_wp2
                  repeat (go_quiet (fail); try go_wp2)
                  go_ret
                  exact ⟨by first | rfl | (simp [errW_none, errW_some] <;> rfl) | (simp [*, errW_none, errW_some] <;> rfl), by repeat (first | (with_reducible first | exact HB.out | apply below_alloc | apply pw_below_drewN | apply below_drew1) | exact HB.out)⟩
              · rw [if_neg c7] at H
                have c7b0 : (((rd_T43 l0 x5_1).f0) == ((rd_T43 l1 x5_1).f0)) = false := beq_eq_false_iff_ne.mpr c7
                have c7b1 : (((rd_T43 l0 x5_1).f0) != ((rd_T43 l1 x5_1).f0)) = true := bne_iff_ne.mpr c7
                obtain rfl := Option.some.inj H
                have p259 : 0 ≤ (x5_1 : Int) := of_decide_eq_true (by first | (with_reducible assumption) | assumption)
                have q259 : x5_1 < (l0.length : Int) := of_decide_eq_true (by first | (with_reducible assumption) | assumption)
                obtain ⟨ad259, A259_2, c259_2, e259, hx259_0, hx259_1, hx259_2, hl259_2, hi259_2⟩ := at_T43 HR0.out x5_1 p259 q259
                cases e259
                replace hx259_0 := (HB.out.cell (World.block_lt_of_cell? w _ hx259_0)).trans hx259_0
                replace hx259_1 := (HB.out.cell (World.block_lt_of_cell? w _ hx259_1)).trans hx259_1
                replace hx259_2 := (HB.out.cell (World.block_lt_of_cell? w _ hx259_2)).trans hx259_2
                have HR259_2 := Aside0.mk hi259_2
                have HC259_2 := Aside0.mk hl259_2
                clear hi259_2 hl259_2
                replace p259 := eq_true p259
                replace q259 := eq_true q259
                have p260 : 0 ≤ (x5_1 : Int) := of_decide_eq_true (by first | (with_reducible assumption) | assumption)
                have q260 : x5_1 < (l1.length : Int) := of_decide_eq_true (by first | (with_reducible assumption) | assumption)
                obtain ⟨ad260, A260_2, c260_2, e260, hx260_0, hx260_1, hx260_2, hl260_2, hi260_2⟩ := at_T43 HR1.out x5_1 p260 q260
                cases e260
                replace hx260_0 := (HB.out.cell (World.block_lt_of_cell? w _ hx260_0)).trans hx260_0
                replace hx260_1 := (HB.out.cell (World.block_lt_of_cell? w _ hx260_1)).trans hx260_1
                replace hx260_2 := (HB.out.cell (World.block_lt_of_cell? w _ hx260_2)).trans hx260_2
                have HR260_2 := Aside0.mk hi260_2
                have HC260_2 := Aside0.mk hl260_2
                clear hi260_2 hl260_2
                replace p260 := eq_true p260
                replace q260 := eq_true q260
                go_wp2
                repeat (go_quiet (fail); try go_wp2)
                go_ret
                exact ⟨by first | rfl | (simp [errW_none, errW_some] <;> rfl) | (simp [*, errW_none, errW_some] <;> rfl), by repeat (first | (with_reducible first | exact HB.out | apply below_alloc | apply pw_below_drewN | apply below_drew1) | exact HB.out)⟩
            · rw [if_neg c6] at H
              exact absurd H (by simp)
          · rw [if_neg c5] at H
            exact absurd H (by simp)
        · rw [if_neg c4] at H
          have c4b0 : decide (x5_1 < (l0.length : Int)) = false := decide_eq_false c4
          clear c4
          obtain rfl := Option.some.inj H
          go_wp2
          repeat (go_quiet (fail); try go_wp2)
          go_ret
          exact ⟨by first | rfl | (simp [errW_none, errW_some] <;> rfl) | (simp [*, errW_none, errW_some] <;> rfl), by repeat (first | (with_reducible first | exact HB.out | apply below_alloc | apply pw_below_drewN | apply below_drew1) | exact HB.out)⟩
  · rw [if_neg c3] at H
    have c3b0 : ((l0.length : Int) == (l1.length : Int)) = false := beq_eq_false_iff_ne.mpr c3
    have c3b1 : ((l0.length : Int) != (l1.length : Int)) = true := bne_iff_ne.mpr c3
    have c3b2 : (l0.length == l1.length) = false := by first | simpa using c3 | (simp at c3 ⊢; omega)
    obtain rfl := Option.some.inj H
    go_enter Try.func27, Try.ntmps27
    go_wp2
    repeat (go_quiet (fail); try go_wp2)
    go_ret
    exact ⟨by first | rfl | (simp [errW_none, errW_some] <;> rfl) | (simp [*, errW_none, errW_some] <;> rfl), by repeat (first | (with_reducible first | exact HB.out | apply below_alloc | apply pw_below_drewN | apply below_drew1) | exact HB.out)⟩

end Go.Proofs.Ytefippbcgdfnbaa.QA
