-- Written for this claim by a program of this session's, out of Lean's own print of the program; Lean checks it.
import Derived.Test.YtjcaflhlilckgaaQAx0
namespace Go.Proofs.Ytjcaflhlilckgaa.QA
open Go.RowKit Go.Proofs.YtjcaflhlilckgaaW.PrintWords Go.Proofs.YtjcaflhlilckgaaW.PrintLast Go.Proofs.YtjcaflhlilckgaaW.PrintMore
attribute [local go_sem] max2_int min2_int max_two min_two max_three min_three max_four min_four   -- for this text's walks alone
set_option linter.unusedVariables false
set_option linter.unusedSimpArgs false

/-! ### cuecardref10_Same: function 11 -/
def cuecardref10_Same.l0 : Nat → List (S33) → List (S33) → Int → Option (Bool)
  | 0, _, _, _ => none
  | k + 1, x0, x1, x5 => if x5 < (x0.length : Int) then (if 0 ≤ x5 then (if x5 < (x1.length : Int) then (if (strOfNums ((rd_T33 x0 x5).f0)).toList = (strOfNums ((rd_T33 x1 x5).f0)).toList then (if (strOfNums ((rd_T33 x0 x5).f1)).toList = (strOfNums ((rd_T33 x1 x5).f1)).toList then (cuecardref10_Same.l0 k x0 x1 (wrap64 (x5 + 1))) else (some false)) else (some false)) else (none)) else (none)) else (some true)
def cuecardref10_Same.f (k : Nat) (l0 : List (S33)) (l1 : List (S33)) : Option (Bool) := if (l0.length : Int) = (l1.length : Int) then (cuecardref10_Same.l0 k l0 l1 0) else (some false)
theorem cuecardref10_Same.mono_l : ∀ k, (∀ y0 y1 y2, LeO (cuecardref10_Same.l0 k y0 y1 y2) (cuecardref10_Same.l0 (k + 1) y0 y1 y2))
  | 0 => fun _ _ _ r h => by simp [cuecardref10_Same.l0] at h
  | k + 1 => by
    have ih0 := cuecardref10_Same.mono_l k
    · intro y0 y1 y2
      unfold cuecardref10_Same.l0
      repeat' first
      | (with_reducible exact ih0 _ _ _)
      | (with_reducible exact LeO.refl _)
      | (with_reducible exact LeO.none _)
      | (with_reducible refine LeO.ite ?_ ?_)
      | (with_reducible refine LeO.bind ?_ (fun _ => ?_))
      | exact ih0 _ _ _
      | exact LeO.none _
      | refine LeO.ite ?_ ?_
      | refine LeO.bind ?_ (fun _ => ?_)
theorem cuecardref10_Same.mono : ∀ a0 a1 k, LeO (cuecardref10_Same.f k a0 a1) (cuecardref10_Same.f (k + 1) a0 a1) := by
  intro a0 a1 k
  have ih0 := cuecardref10_Same.mono_l k
  unfold cuecardref10_Same.f
  repeat' first
      | (with_reducible exact ih0 _ _ _)
      | (with_reducible exact LeO.refl _)
      | (with_reducible exact LeO.none _)
      | (with_reducible refine LeO.ite ?_ ?_)
      | (with_reducible refine LeO.bind ?_ (fun _ => ?_))
      | exact ih0 _ _ _
      | exact LeO.none _
      | refine LeO.ite ?_ ?_
      | refine LeO.bind ?_ (fun _ => ?_)
set_option maxHeartbeats 8000000 in
set_option maxRecDepth 100000 in
theorem cuecardref10_Same.calls (k : Nat) (A0 : Option Addr) (c0 : Nat) (l0 : List (S33)) (A1 : Option Addr) (c1 : Nat) (l1 : List (S33)) (r : Bool) (w : World) (hr0 : Kd.C k33 w A0 l0.length l0) (hc0 : l0.length ≤ c0) (hr1 : Kd.C k33 w A1 l1.length l1) (hc1 : l1.length ≤ c1) (h : cuecardref10_Same.f k l0 l1 = some r) :
    Calls Try.prog 11 #[.slice A0 l0.length c0, .slice A1 l1.length c1] w fun e w' => e = .returned (.bool r) ∧ Below w.heap.size w w' := by
  have HR0 := Aside0.mk hr0
  have HC0 := Aside0.mk hc0
  clear hr0 hc0
  have HR1 := Aside0.mk hr1
  have HC1 := Aside0.mk hc1
  clear hr1 hc1
  have HB := Aside0.mk (Below.refl w.heap.size w)
  have H : (if (l0.length : Int) = (l1.length : Int) then (cuecardref10_Same.l0 k l0 l1 0) else (some false)) = some r := h
  clear h
  by_cases c3 : (l0.length : Int) = (l1.length : Int)
  · rw [if_pos c3] at H
    have c3b0 : ((l0.length : Int) == (l1.length : Int)) = true := beq_iff_eq.mpr c3
    have c3b1 : ((l0.length : Int) != (l1.length : Int)) = false := bne_eq_false_iff_eq.mpr c3
    have c3b2 : (l0.length == l1.length) = true := by first | simpa using c3 | (simp at c3 ⊢; omega)
    clear c3
    have H' := Aside0.mk H
    clear H
    go_enter Try.func11, Try.ntmps11
    go_wp2
    repeat (go_quiet (fail); try go_wp2)
    go_loopg [5] k (fun kq v5 w' => ∃ (x5_1 : Int), v5 = .int .i64 x5_1 ∧ Aside0 (cuecardref10_Same.l0 kq l0 l1 x5_1 = some r) ∧ Aside0 (kq ≤ k) ∧ Aside0 (Below w.heap.size w w'))
    case atStart => exact ⟨(0), (by first | rfl | (simp; done) | (simp [*]; done)), H', ⟨Nat.le_refl _⟩, ⟨by repeat (first | (with_reducible first | exact HB.out | apply below_alloc | apply pw_below_drewN | apply below_drew1) | exact HB.out)⟩⟩
    case round =>
      clear H'
      try clear c1
      try clear p2
      try clear c3
      try clear c3b0
      try clear c3b1
      try clear c3b2
      obtain ⟨x5_1, rfl, HA, HK1, HB⟩ := hrel
      cases gk with
      | zero => exact absurd HA.out (by simp [cuecardref10_Same.l0])
      | succ k1 =>
        have H := HA.out
        clear HA
        simp only [cuecardref10_Same.l0] at H
        by_cases c4 : x5_1 < (l0.length : Int)
        · rw [if_pos c4] at H
          have c4b0 : decide (x5_1 < (l0.length : Int)) = true := decide_eq_true c4
          clear c4
          by_cases c5 : 0 ≤ x5_1
          · rw [if_pos c5] at H
            have c5b0 : decide (0 ≤ x5_1) = true := decide_eq_true c5
            clear c5
            by_cases c6 : x5_1 < (l1.length : Int)
            · rw [if_pos c6] at H
              have c6b0 : decide (x5_1 < (l1.length : Int)) = true := decide_eq_true c6
              clear c6
              by_cases c7 : (strOfNums ((rd_T33 l0 x5_1).f0)).toList = (strOfNums ((rd_T33 l1 x5_1).f0)).toList
              · rw [if_pos c7] at H
                have c7b0 : ((strOfNums ((rd_T33 l0 x5_1).f0)).toList == (strOfNums ((rd_T33 l1 x5_1).f0)).toList) = true := beq_iff_eq.mpr c7
                have c7b1 : ((strOfNums ((rd_T33 l0 x5_1).f0)).toList != (strOfNums ((rd_T33 l1 x5_1).f0)).toList) = false := bne_eq_false_iff_eq.mpr c7
                clear c7
                by_cases c8 : (strOfNums ((rd_T33 l0 x5_1).f1)).toList = (strOfNums ((rd_T33 l1 x5_1).f1)).toList
                · rw [if_pos c8] at H
                  have c8b0 : ((strOfNums ((rd_T33 l0 x5_1).f1)).toList == (strOfNums ((rd_T33 l1 x5_1).f1)).toList) = true := beq_iff_eq.mpr c8
                  have c8b1 : ((strOfNums ((rd_T33 l0 x5_1).f1)).toList != (strOfNums ((rd_T33 l1 x5_1).f1)).toList) = false := bne_eq_false_iff_eq.mpr c8
                  clear c8
                  have H' := Aside0.mk H
                  clear H
                  have p101 : 0 ≤ (x5_1 : Int) := of_decide_eq_true (by first | (with_reducible assumption) | assumption)
                  have q101 : x5_1 < (l0.length : Int) := of_decide_eq_true (by first | (with_reducible assumption) | assumption)
                  obtain ⟨ad101, A101_0, c101_0, A101_1, c101_1, e101, hx101_0, hx101_1, hl101_0, hi101_0, hl101_1, hi101_1⟩ := at_T33 HR0.out x5_1 p101 q101
                  cases e101
                  replace hx101_0 := (HB.out.cell (World.block_lt_of_cell? w _ hx101_0)).trans hx101_0
                  replace hx101_1 := (HB.out.cell (World.block_lt_of_cell? w _ hx101_1)).trans hx101_1
                  have HR101_0 := Aside0.mk hi101_0
                  have HC101_0 := Aside0.mk hl101_0
                  clear hi101_0 hl101_0
                  have HR101_1 := Aside0.mk hi101_1
                  have HC101_1 := Aside0.mk hl101_1
                  clear hi101_1 hl101_1
                  replace p101 := eq_true p101
                  replace q101 := eq_true q101
                  have hcv9 := Kd.C_string (P := Try.prog) (A := A101_0) (c := c101_0) Try.underlying31 Try.underlying5 Try.underlying9 (Kd.C_below HR101_0.out HB.out)
                  (try (have hcw9 := fun (m_ : Nat) => Kd.C_string (P := Try.prog) (A := A101_0) (c := c101_0) Try.underlying31 Try.underlying5 Try.underlying9 (Kd.C_drewN (Kd.C_below HR101_0.out HB.out) m_)))
                  have p102 : 0 ≤ (x5_1 : Int) := of_decide_eq_true (by first | (with_reducible assumption) | assumption)
                  have q102 : x5_1 < (l1.length : Int) := of_decide_eq_true (by first | (with_reducible assumption) | assumption)
                  obtain ⟨ad102, A102_0, c102_0, A102_1, c102_1, e102, hx102_0, hx102_1, hl102_0, hi102_0, hl102_1, hi102_1⟩ := at_T33 HR1.out x5_1 p102 q102
                  cases e102
                  replace hx102_0 := (HB.out.cell (World.block_lt_of_cell? w _ hx102_0)).trans hx102_0
                  replace hx102_1 := (HB.out.cell (World.block_lt_of_cell? w _ hx102_1)).trans hx102_1
                  have HR102_0 := Aside0.mk hi102_0
                  have HC102_0 := Aside0.mk hl102_0
                  clear hi102_0 hl102_0
                  have HR102_1 := Aside0.mk hi102_1
                  have HC102_1 := Aside0.mk hl102_1
                  clear hi102_1 hl102_1
                  replace p102 := eq_true p102
                  replace q102 := eq_true q102
                  have hcv10 := Kd.C_string (P := Try.prog) (A := A102_0) (c := c102_0) Try.underlying31 Try.underlying5 Try.underlying9 (Kd.C_below HR102_0.out HB.out)
                  (try (have hcw10 := fun (m_ : Nat) => Kd.C_string (P := Try.prog) (A := A102_0) (c := c102_0) Try.underlying31 Try.underlying5 Try.underlying9 (Kd.C_drewN (Kd.C_below HR102_0.out HB.out) m_)))
                  have p103 : 0 ≤ (x5_1 : Int) := of_decide_eq_true (by first | (with_reducible assumption) | assumption)
                  have q103 : x5_1 < (l0.length : Int) := of_decide_eq_true (by first | (with_reducible assumption) | assumption)
                  obtain ⟨ad103, A103_0, c103_0, A103_1, c103_1, e103, hx103_0, hx103_1, hl103_0, hi103_0, hl103_1, hi103_1⟩ := at_T33 HR0.out x5_1 p103 q103
                  obtain rfl : ad101 = ad103 := (by injection e103)
                  replace hx103_0 := (HB.out.cell (World.block_lt_of_cell? w _ hx103_0)).trans hx103_0
                  replace hx103_1 := (HB.out.cell (World.block_lt_of_cell? w _ hx103_1)).trans hx103_1
                  have HR103_0 := Aside0.mk hi103_0
                  have HC103_0 := Aside0.mk hl103_0
                  clear hi103_0 hl103_0
                  have HR103_1 := Aside0.mk hi103_1
                  have HC103_1 := Aside0.mk hl103_1
                  clear hi103_1 hl103_1
                  replace p103 := eq_true p103
                  replace q103 := eq_true q103
                  have ea_ := Option.some.inj (hx101_0.symm.trans hx103_0)
                  injection ea_ with ea_ en_ ec_
                  subst ea_
                  subst ec_
                  clear en_
                  have ea_ := Option.some.inj (hx101_1.symm.trans hx103_1)
                  injection ea_ with ea_ en_ ec_
                  subst ea_
                  subst ec_
                  clear en_
                  have hcv11 := Kd.C_string (P := Try.prog) (A := A101_1) (c := c101_1) Try.underlying31 Try.underlying5 Try.underlying9 (Kd.C_below HR103_1.out HB.out)
                  (try (have hcw11 := fun (m_ : Nat) => Kd.C_string (P := Try.prog) (A := A101_1) (c := c101_1) Try.underlying31 Try.underlying5 Try.underlying9 (Kd.C_drewN (Kd.C_below HR103_1.out HB.out) m_)))
                  have p104 : 0 ≤ (x5_1 : Int) := of_decide_eq_true (by first | (with_reducible assumption) | assumption)
                  have q104 : x5_1 < (l1.length : Int) := of_decide_eq_true (by first | (with_reducible assumption) | assumption)
                  obtain ⟨ad104, A104_0, c104_0, A104_1, c104_1, e104, hx104_0, hx104_1, hl104_0, hi104_0, hl104_1, hi104_1⟩ := at_T33 HR1.out x5_1 p104 q104
                  obtain rfl : ad102 = ad104 := (by injection e104)
                  replace hx104_0 := (HB.out.cell (World.block_lt_of_cell? w _ hx104_0)).trans hx104_0
                  replace hx104_1 := (HB.out.cell (World.block_lt_of_cell? w _ hx104_1)).trans hx104_1
                  have HR104_0 := Aside0.mk hi104_0
                  have HC104_0 := Aside0.mk hl104_0
                  clear hi104_0 hl104_0
                  have HR104_1 := Aside0.mk hi104_1
                  have HC104_1 := Aside0.mk hl104_1
                  clear hi104_1 hl104_1
                  replace p104 := eq_true p104
                  replace q104 := eq_true q104
                  have ea_ := Option.some.inj (hx102_0.symm.trans hx104_0)
                  injection ea_ with ea_ en_ ec_
                  subst ea_
                  subst ec_
                  clear en_
                  have ea_ := Option.some.inj (hx102_1.symm.trans hx104_1)
                  injection ea_ with ea_ en_ ec_
                  subst ea_
                  subst ec_
                  clear en_
                  have hcv12 := Kd.C_string (P := Try.prog) (A := A102_1) (c := c102_1) Try.underlying31 Try.underlying5 Try.underlying9 (Kd.C_below HR104_1.out HB.out)
                  (try (have hcw12 := fun (m_ : Nat) => Kd.C_string (P := Try.prog) (A := A102_1) (c := c102_1) Try.underlying31 Try.underlying5 Try.underlying9 (Kd.C_drewN (Kd.C_below HR104_1.out HB.out) m_)))
                  go_wp2
                  repeat (go_quiet (fail); try go_wp2)
                  go_roundg k1
                  case measure => have := HK1.out; omega
                  case rel => exact ⟨(wrap64 (x5_1 + 1)), (by first | rfl | (simp; done) | (simp [*]; done)), H', ⟨by have := HK1.out; omega⟩, ⟨by repeat (first | (with_reducible first | exact HB.out | apply below_alloc | apply pw_below_drewN | apply below_drew1) | exact HB.out)⟩⟩
                · rw [if_neg c8] at H
                  have c8b0 : ((strOfNums ((rd_T33 l0 x5_1).f1)).toList == (strOfNums ((rd_T33 l1 x5_1).f1)).toList) = false := beq_eq_false_iff_ne.mpr c8
                  have c8b1 : ((strOfNums ((rd_T33 l0 x5_1).f1)).toList != (strOfNums ((rd_T33 l1 x5_1).f1)).toList) = true := bne_iff_ne.mpr c8
                  obtain rfl := Option.some.inj H
                  have p101 : 0 ≤ (x5_1 : Int) := of_decide_eq_true (by first | (with_reducible assumption) | assumption)
                  have q101 : x5_1 < (l0.length : Int) := of_decide_eq_true (by first | (with_reducible assumption) | assumption)
                  obtain ⟨ad101, A101_0, c101_0, A101_1, c101_1, e101, hx101_0, hx101_1, hl101_0, hi101_0, hl101_1, hi101_1⟩ := at_T33 HR0.out x5_1 p101 q101
                  cases e101
                  replace hx101_0 := (HB.out.cell (World.block_lt_of_cell? w _ hx101_0)).trans hx101_0
                  replace hx101_1 := (HB.out.cell (World.block_lt_of_cell? w _ hx101_1)).trans hx101_1
                  have HR101_0 := Aside0.mk hi101_0
                  have HC101_0 := Aside0.mk hl101_0
                  clear hi101_0 hl101_0
                  have HR101_1 := Aside0.mk hi101_1
                  have HC101_1 := Aside0.mk hl101_1
                  clear hi101_1 hl101_1
                  replace p101 := eq_true p101
                  replace q101 := eq_true q101
                  have hcv13 := Kd.C_string (P := Try.prog) (A := A101_0) (c := c101_0) Try.underlying31 Try.underlying5 Try.underlying9 (Kd.C_below HR101_0.out HB.out)
                  (try (have hcw13 := fun (m_ : Nat) => Kd.C_string (P := Try.prog) (A := A101_0) (c := c101_0) Try.underlying31 Try.underlying5 Try.underlying9 (Kd.C_drewN (Kd.C_below HR101_0.out HB.out) m_)))
                  have p102 : 0 ≤ (x5_1 : Int) := of_decide_eq_true (by first | (with_reducible assumption) | assumption)
                  have q102 : x5_1 < (l1.length : Int) := of_decide_eq_true (by first | (with_reducible assumption) | assumption)
                  obtain ⟨ad102, A102_0, c102_0, A102_1, c102_1, e102, hx102_0, hx102_1, hl102_0, hi102_0, hl102_1, hi102_1⟩ := at_T33 HR1.out x5_1 p102 q102
                  cases e102
                  replace hx102_0 := (HB.out.cell (World.block_lt_of_cell? w _ hx102_0)).trans hx102_0
                  replace hx102_1 := (HB.out.cell (World.block_lt_of_cell? w _ hx102_1)).trans hx102_1
                  have HR102_0 := Aside0.mk hi102_0
                  have HC102_0 := Aside0.mk hl102_0
                  clear hi102_0 hl102_0
                  have HR102_1 := Aside0.mk hi102_1
                  have HC102_1 := Aside0.mk hl102_1
                  clear hi102_1 hl102_1
                  replace p102 := eq_true p102
                  replace q102 := eq_true q102
                  have hcv14 := Kd.C_string (P := Try.prog) (A := A102_0) (c := c102_0) Try.underlying31 Try.underlying5 Try.underlying9 (Kd.C_below HR102_0.out HB.out)
                  (try (have hcw14 := fun (m_ : Nat) => Kd.C_string (P := Try.prog) (A := A102_0) (c := c102_0) Try.underlying31 Try.underlying5 Try.underlying9 (Kd.C_drewN (Kd.C_below HR102_0.out HB.out) m_)))
                  have p103 : 0 ≤ (x5_1 : Int) := of_decide_eq_true (by first | (with_reducible assumption) | assumption)
                  have q103 : x5_1 < (l0.length : Int) := of_decide_eq_true (by first | (with_reducible assumption) | assumption)
                  obtain ⟨ad103, A103_0, c103_0, A103_1, c103_1, e103, hx103_0, hx103_1, hl103_0, hi103_0, hl103_1, hi103_1⟩ := at_T33 HR0.out x5_1 p103 q103
                  obtain rfl : ad101 = ad103 := (by injection e103)
                  replace hx103_0 := (HB.out.cell (World.block_lt_of_cell? w _ hx103_0)).trans hx103_0
                  replace hx103_1 := (HB.out.cell (World.block_lt_of_cell? w _ hx103_1)).trans hx103_1
                  have HR103_0 := Aside0.mk hi103_0
                  have HC103_0 := Aside0.mk hl103_0
                  clear hi103_0 hl103_0
                  have HR103_1 := Aside0.mk hi103_1
                  have HC103_1 := Aside0.mk hl103_1
                  clear hi103_1 hl103_1
                  replace p103 := eq_true p103
                  replace q103 := eq_true q103
                  have ea_ := Option.some.inj (hx101_0.symm.trans hx103_0)
                  injection ea_ with ea_ en_ ec_
                  subst ea_
                  subst ec_
                  clear en_
                  have ea_ := Option.some.inj (hx101_1.symm.trans hx103_1)
                  injection ea_ with ea_ en_ ec_
                  subst ea_
                  subst ec_
                  clear en_
                  have hcv15 := Kd.C_string (P := Try.prog) (A := A101_1) (c := c101_1) Try.underlying31 Try.underlying5 Try.underlying9 (Kd.C_below HR103_1.out HB.out)
                  (try (have hcw15 := fun (m_ : Nat) => Kd.C_string (P := Try.prog) (A := A101_1) (c := c101_1) Try.underlying31 Try.underlying5 Try.underlying9 (Kd.C_drewN (Kd.C_below HR103_1.out HB.out) m_)))
                  have p104 : 0 ≤ (x5_1 : Int) := of_decide_eq_true (by first | (with_reducible assumption) | assumption)
                  have q104 : x5_1 < (l1.length : Int) := of_decide_eq_true (by first | (with_reducible assumption) | assumption)
                  obtain ⟨ad104, A104_0, c104_0, A104_1, c104_1, e104, hx104_0, hx104_1, hl104_0, hi104_0, hl104_1, hi104_1⟩ := at_T33 HR1.out x5_1 p104 q104
                  obtain rfl : ad102 = ad104 := (by injection e104)
                  replace hx104_0 := (HB.out.cell (World.block_lt_of_cell? w _ hx104_0)).trans hx104_0
                  replace hx104_1 := (HB.out.cell (World.block_lt_of_cell? w _ hx104_1)).trans hx104_1
                  have HR104_0 := Aside0.mk hi104_0
                  have HC104_0 := Aside0.mk hl104_0
                  clear hi104_0 hl104_0
                  have HR104_1 := Aside0.mk hi104_1
                  have HC104_1 := Aside0.mk hl104_1
                  clear hi104_1 hl104_1
                  replace p104 := eq_true p104
                  replace q104 := eq_true q104
                  have ea_ := Option.some.inj (hx102_0.symm.trans hx104_0)
                  injection ea_ with ea_ en_ ec_
                  subst ea_
                  subst ec_
                  clear en_
                  have ea_ := Option.some.inj (hx102_1.symm.trans hx104_1)
                  injection ea_ with ea_ en_ ec_
                  subst ea_
                  subst ec_
                  clear en_
                  have hcv16 := Kd.C_string (P := Try.prog) (A := A102_1) (c := c102_1) Try.underlying31 Try.underlying5 Try.underlying9 (Kd.C_below HR104_1.out HB.out)
                  (try (have hcw16 := fun (m_ : Nat) => Kd.C_string (P := Try.prog) (A := A102_1) (c := c102_1) Try.underlying31 Try.underlying5 Try.underlying9 (Kd.C_drewN (Kd.C_below HR104_1.out HB.out) m_)))
                  go_wp2
                  repeat (go_quiet (fail); try go_wp2)
                  go_ret
                  exact ⟨by first | rfl | (simp [errW_none, errW_some] <;> rfl) | (simp [*, errW_none, errW_some] <;> rfl), by repeat (first | (with_reducible first | exact HB.out | apply below_alloc | apply pw_below_drewN | apply below_drew1) | exact HB.out)⟩
              · rw [if_neg c7] at H
                have c7b0 : ((strOfNums ((rd_T33 l0 x5_1).f0)).toList == (strOfNums ((rd_T33 l1 x5_1).f0)).toList) = false := beq_eq_false_iff_ne.mpr c7
                have c7b1 : ((strOfNums ((rd_T33 l0 x5_1).f0)).toList != (strOfNums ((rd_T33 l1 x5_1).f0)).toList) = true := bne_iff_ne.mpr c7
                obtain rfl := Option.some.inj H
                have p101 : 0 ≤ (x5_1 : Int) := of_decide_eq_true (by first | (with_reducible assumption) | assumption)
                have q101 : x5_1 < (l0.length : Int) := of_decide_eq_true (by first | (with_reducible assumption) | assumption)
                obtain ⟨ad101, A101_0, c101_0, A101_1, c101_1, e101, hx101_0, hx101_1, hl101_0, hi101_0, hl101_1, hi101_1⟩ := at_T33 HR0.out x5_1 p101 q101
                cases e101
                replace hx101_0 := (HB.out.cell (World.block_lt_of_cell? w _ hx101_0)).trans hx101_0
                replace hx101_1 := (HB.out.cell (World.block_lt_of_cell? w _ hx101_1)).trans hx101_1
                have HR101_0 := Aside0.mk hi101_0
                have HC101_0 := Aside0.mk hl101_0
                clear hi101_0 hl101_0
                have HR101_1 := Aside0.mk hi101_1
                have HC101_1 := Aside0.mk hl101_1
                clear hi101_1 hl101_1
                replace p101 := eq_true p101
                replace q101 := eq_true q101
                have hcv17 := Kd.C_string (P := Try.prog) (A := A101_0) (c := c101_0) Try.underlying31 Try.underlying5 Try.underlying9 (Kd.C_below HR101_0.out HB.out)
                (try (have hcw17 := fun (m_ : Nat) => Kd.C_string (P := Try.prog) (A := A101_0) (c := c101_0) Try.underlying31 Try.underlying5 Try.underlying9 (Kd.C_drewN (Kd.C_below HR101_0.out HB.out) m_)))
                have p102 : 0 ≤ (x5_1 : Int) := of_decide_eq_true (by first | (with_reducible assumption) | assumption)
                have q102 : x5_1 < (l1.length : Int) := of_decide_eq_true (by first | (with_reducible assumption) | assumption)
                obtain ⟨ad102, A102_0, c102_0, A102_1, c102_1, e102, hx102_0, hx102_1, hl102_0, hi102_0, hl102_1, hi102_1⟩ := at_T33 HR1.out x5_1 p102 q102
                cases e102
                replace hx102_0 := (HB.out.cell (World.block_lt_of_cell? w _ hx102_0)).trans hx102_0
                replace hx102_1 := (HB.out.cell (World.block_lt_of_cell? w _ hx102_1)).trans hx102_1
                have HR102_0 := Aside0.mk hi102_0
                have HC102_0 := Aside0.mk hl102_0
                clear hi102_0 hl102_0
                have HR102_1 := Aside0.mk hi102_1
                have HC102_1 := Aside0.mk hl102_1
                clear hi102_1 hl102_1
                replace p102 := eq_true p102
                replace q102 := eq_true q102
                have hcv18 := Kd.C_string (P := Try.prog) (A := A102_0) (c := c102_0) Try.underlying31 Try.underlying5 Try.underlying9 (Kd.C_below HR102_0.out HB.out)
                (try (have hcw18 := fun (m_ : Nat) => Kd.C_string (P := Try.prog) (A := A102_0) (c := c102_0) Try.underlying31 Try.underlying5 Try.underlying9 (Kd.C_drewN (Kd.C_below HR102_0.out HB.out) m_)))
                go_wp2
                repeat (go_quiet (fail); try go_wp2)
                go_ret
                exact ⟨by first | rfl | (simp [errW_none, errW_some] <;> rfl) | (simp [*, errW_none, errW_some] <;> rfl), by repeat (first | (with_reducible first | exact HB.out | apply below_alloc | apply pw_below_drewN | apply below_drew1) | exact HB.out)⟩
            · rw [if_neg c6] at H
              exact absurd H (by simp)
          · rw [if_neg c5] at H
            exact absurd H (by simp)
        · rw [if_neg c4] at H
          have c4b0 : decide (x5_1 < (l0.length : Int)) = false := decide_eq_false c4
          clear c4
          obtain rfl := Option.some.inj H
          go_wp2
          repeat (go_quiet (fail); try go_wp2)
          go_ret
          exact ⟨by first | rfl | (simp [errW_none, errW_some] <;> rfl) | (simp [*, errW_none, errW_some] <;> rfl), by repeat (first | (with_reducible first | exact HB.out | apply below_alloc | apply pw_below_drewN | apply below_drew1) | exact HB.out)⟩
  · rw [if_neg c3] at H
    have c3b0 : ((l0.length : Int) == (l1.length : Int)) = false := beq_eq_false_iff_ne.mpr c3
    have c3b1 : ((l0.length : Int) != (l1.length : Int)) = true := bne_iff_ne.mpr c3
    have c3b2 : (l0.length == l1.length) = false := by first | simpa using c3 | (simp at c3 ⊢; omega)
    obtain rfl := Option.some.inj H
    go_enter Try.func11, Try.ntmps11
    go_wp2
    repeat (go_quiet (fail); try go_wp2)
    go_ret
    exact ⟨by first | rfl | (simp [errW_none, errW_some] <;> rfl) | (simp [*, errW_none, errW_some] <;> rfl), by repeat (first | (with_reducible first | exact HB.out | apply below_alloc | apply pw_below_drewN | apply below_drew1) | exact HB.out)⟩

end Go.Proofs.Ytjcaflhlilckgaa.QA
