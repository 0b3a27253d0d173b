-- Written for this claim by a program of this session's, out of Lean's own print of the program; Lean checks it.
import Derived.Test.YtjcaflhlilckgaaQAx0
namespace Go.Proofs.Ytjcaflhlilckgaa.QA
open Go.RowKit Go.Proofs.YtjcaflhlilckgaaW.PrintWords Go.Proofs.YtjcaflhlilckgaaW.PrintLast Go.Proofs.YtjcaflhlilckgaaW.PrintMore
attribute [local go_sem] max2_int min2_int max_two min_two max_three min_three max_four min_four   -- for this text's walks alone
set_option linter.unusedVariables false
set_option linter.unusedSimpArgs false

/-! ### turn_Told: function 14 -/
def turn_Told.l0 : Nat → Int → List (S33) → Int → Int → Option (Int)
  | 0, _, _, _, _ => none
  | k + 1, x5, x14, x15, x16 => if x16 < x15 then (if 0 ≤ x16 then (if x16 < (x14.length : Int) then (turn_Told.l0 k (wrap64 (x5 + (((rd_T33 x14 x16).f1).length : Int))) x14 x15 (wrap64 (x16 + 1))) else (none)) else (none)) else (some x5)
def turn_Told.f (k : Nat) (a0 : Int) (l1 : List (S33)) : Option (Int) := if 0 ≤ (mx 0 (mn a0 (l1.length : Int))) then (if (mx 0 (mn a0 (l1.length : Int))) ≤ (l1.length : Int) then ((some (l1.take ((mx 0 (mn a0 (l1.length : Int))) : Int).toNat : List (S33))).bind fun y186 => (turn_Told.l0 k 0 y186 (y186.length : Int) 0)) else (none)) else (none)
theorem turn_Told.mono_l : ∀ k, (∀ y0 y1 y2 y3, LeO (turn_Told.l0 k y0 y1 y2 y3) (turn_Told.l0 (k + 1) y0 y1 y2 y3))
  | 0 => fun _ _ _ _ r h => by simp [turn_Told.l0] at h
  | k + 1 => by
    have ih0 := turn_Told.mono_l k
    · intro y0 y1 y2 y3
      unfold turn_Told.l0
      repeat' first
      | (with_reducible exact ih0 _ _ _ _)
      | (with_reducible exact LeO.refl _)
      | (with_reducible exact LeO.none _)
      | (with_reducible refine LeO.ite ?_ ?_)
      | (with_reducible refine LeO.bind ?_ (fun _ => ?_))
      | exact ih0 _ _ _ _
      | exact LeO.none _
      | refine LeO.ite ?_ ?_
      | refine LeO.bind ?_ (fun _ => ?_)
theorem turn_Told.mono : ∀ a0 a1 k, LeO (turn_Told.f k a0 a1) (turn_Told.f (k + 1) a0 a1) := by
  intro a0 a1 k
  have ih0 := turn_Told.mono_l k
  unfold turn_Told.f
  repeat' first
      | (with_reducible exact ih0 _ _ _ _)
      | (with_reducible exact LeO.refl _)
      | (with_reducible exact LeO.none _)
      | (with_reducible refine LeO.ite ?_ ?_)
      | (with_reducible refine LeO.bind ?_ (fun _ => ?_))
      | exact ih0 _ _ _ _
      | exact LeO.none _
      | refine LeO.ite ?_ ?_
      | refine LeO.bind ?_ (fun _ => ?_)
set_option maxHeartbeats 8000000 in
set_option maxRecDepth 100000 in
theorem turn_Told.calls (k : Nat) (a0 : Int) (A1 : Option Addr) (c1 : Nat) (l1 : List (S33)) (r : Int) (w : World) (hr1 : Kd.C k33 w A1 l1.length l1) (hc1 : l1.length ≤ c1) (h : turn_Told.f k a0 l1 = some r) :
    Calls Try.prog 14 #[.int .i64 a0, .slice A1 l1.length c1] w fun e w' => e = .returned (.int .i64 r) ∧ Below w.heap.size w w' := by
  have hu33 := Try.underlying33
  have HR1 := Aside0.mk hr1
  have HC1 := Aside0.mk hc1
  clear hr1 hc1
  have HB := Aside0.mk (Below.refl w.heap.size w)
  have H : (if 0 ≤ (mx 0 (mn a0 (l1.length : Int))) then (if (mx 0 (mn a0 (l1.length : Int))) ≤ (l1.length : Int) then ((some (l1.take ((mx 0 (mn a0 (l1.length : Int))) : Int).toNat : List (S33))).bind fun y186 => (turn_Told.l0 k 0 y186 (y186.length : Int) 0)) else (none)) else (none)) = some r := h
  clear h
  obtain ⟨ji3, hji3⟩ : ∃ j_ : Int, (mn a0 (l1.length : Int)) = j_ := ⟨_, rfl⟩
  replace H : (if 0 ≤ (mx 0 (ji3)) then (if (mx 0 (ji3)) ≤ (l1.length : Int) then ((some (l1.take ((mx 0 (ji3)) : Int).toNat : List (S33))).bind fun y186 => (turn_Told.l0 k 0 y186 (y186.length : Int) 0)) else (none)) else (none)) = some r := by first | (rw [hji3] at H; exact H) | (simp only [hji3] at H ⊢; exact H)
  have hji3_ : (if (l1.length : Int) < a0 then (l1.length : Int) else a0) = ji3 := hji3
  obtain ⟨ji4, hji4⟩ : ∃ j_ : Int, (mx 0 (ji3)) = j_ := ⟨_, rfl⟩
  replace H : (if 0 ≤ (ji4) then (if (ji4) ≤ (l1.length : Int) then ((some (l1.take ((ji4) : Int).toNat : List (S33))).bind fun y186 => (turn_Told.l0 k 0 y186 (y186.length : Int) 0)) else (none)) else (none)) = some r := by first | (rw [hji4] at H; exact H) | (simp only [hji4] at H ⊢; exact H)
  have hji4_ : (if 0 < (ji3) then (ji3) else 0) = ji4 := hji4
  by_cases c5 : 0 ≤ (ji4)
  · rw [if_pos c5] at H
    have c5b0 := eq_true c5
    have c5b1 : decide (0 ≤ (ji4)) = true := decide_eq_true c5
    clear c5
    by_cases c6 : (ji4) ≤ (l1.length : Int)
    · rw [if_pos c6] at H
      have c6b0 := eq_true c6
      have c6b1 : decide ((ji4) ≤ (l1.length : Int)) = true := decide_eq_true c6
      clear c6
      obtain ⟨y186, hy186⟩ : ∃ y_ : List (S33), y_ = (l1.take ((ji4) : Int).toNat) := ⟨_, rfl⟩
      replace H : (turn_Told.l0 k 0 y186 (y186.length : Int) 0) = some r := by first | (rw [hy186]; with_reducible exact H) | (have H2_ := (Option.bind_some _ _).symm.trans H; rw [hy186]; with_reducible exact H2_) | (have H2_ := (Option.bind_some _ _).symm.trans H; with_reducible exact H2_) | with_reducible exact H | (rw [hy186]; exact H) | exact H
      have Ny186 := Aside0.mk hy186
      clear hy186
      have H' := Aside0.mk H
      clear H
      have q7 : ((ji4) : Int) ≤ ((l1.length : Int) : Int) := of_decide_eq_true (by first | (with_reducible assumption) | assumption)
      obtain ⟨i07, hi07, _, hsz7, _⟩ := info_parts info33
      have hroom7 : l1.length ≤ c1 := HC1.out
      have hC7 : Kd.C k33 _ A1 l1.length l1 := HR1.out
      have hcut7 := cut_to (P := Try.prog) 24 33 .i64 Try.underlying24 hi07 A1 l1.length c1 (ji4) (of_decide_eq_true (by first | (with_reducible assumption) | assumption)) q7 hroom7
      have hr7 := Kd.C_take (m := ((ji4) : Int).toNat) hC7 (by omega)
      have hy7 : y186.length = ((ji4) : Int).toNat := (by rw [Ny186.out, List.length_take]; omega)
      rw [← Ny186.out] at hr7
      rw [← hy7] at hcut7
      have HR189 := Aside0.mk hr7
      have HC189 := Aside0.mk (show y186.length ≤ c1 from by omega)
      clear hr7 hC7 hroom7 hi07 hsz7
      have KY7 := Aside0.mk hy7
      clear hy7
      replace q7 := eq_true q7
      go_enter Try.func14, Try.ntmps14
      go_wp2
      go_loopg [5, 16] k (fun kq v5 v16 w' => ∃ (x5_1 : Int) (x16_1 : Int), v5 = .int .i64 x5_1 ∧ v16 = .int .i64 x16_1 ∧ Aside0 (turn_Told.l0 kq x5_1 y186 (y186.length : Int) x16_1 = some r) ∧ Aside0 (kq ≤ k) ∧ Aside0 (Below w.heap.size w w'))
      case atStart => exact ⟨(0), (0), (by first | rfl | (simp; done) | (simp [*]; done)), (by first | rfl | (simp; done) | (simp [*]; done)), H', ⟨Nat.le_refl _⟩, ⟨by repeat (first | (with_reducible first | exact HB.out | apply below_alloc | apply pw_below_drewN | apply below_drew1) | exact HB.out)⟩⟩
      case round =>
        clear H'
        try clear c1
        try clear p2
        try clear c5
        try clear c5b0
        try clear c5b1
        try clear c6
        try clear c6b0
        try clear c6b1
        try clear q7
        try clear q7
        obtain ⟨x5_1, x16_1, rfl, rfl, HA, HK1, HB⟩ := hrel
        cases gk with
        | zero => exact absurd HA.out (by simp [turn_Told.l0])
        | succ k1 =>
          have H := HA.out
          clear HA
          simp only [turn_Told.l0] at H
          by_cases c8 : x16_1 < (y186.length : Int)
          · rw [if_pos c8] at H
            have c8b0 : decide (x16_1 < (y186.length : Int)) = true := decide_eq_true c8
            clear c8
            by_cases c9 : 0 ≤ x16_1
            · rw [if_pos c9] at H
              have c9b0 : decide (0 ≤ x16_1) = true := decide_eq_true c9
              clear c9
              by_cases c10 : x16_1 < (y186.length : Int)
              · rw [if_pos c10] at H
                have c10b0 : decide (x16_1 < (y186.length : Int)) = true := decide_eq_true c10
                clear c10
                have H' := Aside0.mk H
                clear H
                have p190 : 0 ≤ (x16_1 : Int) := of_decide_eq_true (by first | (with_reducible assumption) | assumption)
                have q190 : x16_1 < (y186.length : Int) := of_decide_eq_true (by first | (with_reducible assumption) | assumption)
                obtain ⟨ad190, A190_0, c190_0, A190_1, c190_1, e190, hx190_0, hx190_1, hl190_0, hi190_0, hl190_1, hi190_1⟩ := at_T33 HR189.out x16_1 p190 q190
                cases e190
                replace hx190_0 := (HB.out.cell (World.block_lt_of_cell? w _ hx190_0)).trans hx190_0
                replace hx190_1 := (HB.out.cell (World.block_lt_of_cell? w _ hx190_1)).trans hx190_1
                have HR190_0 := Aside0.mk hi190_0
                have HC190_0 := Aside0.mk hl190_0
                clear hi190_0 hl190_0
                have HR190_1 := Aside0.mk hi190_1
                have HC190_1 := Aside0.mk hl190_1
                clear hi190_1 hl190_1
                replace p190 := eq_true p190
                replace q190 := eq_true q190
                go_wp2_with (first | ((with_reducible refine gate_dst (N := 7) rfl ?_); refine box_event ?hg (N := 7) ?hd (cs := #[.slice none 0 0, .slice none 0 0]) (t := 33) ?hr ?_; (case hd => rfl); (case hg => rfl); (case hr => first | (go_simp; done) | (go_simp; rfl)); intro gb191 hg w11 hbox hb; have n0_ := Aside0.mk (below_step (by repeat (first | (with_reducible first | exact HB.out | apply below_alloc | apply pw_below_drewN | apply below_drew1) | exact HB.out)) hb); have n1_ := Aside0.mk (hbox); have n2_ := Aside0.mk ((by rw [hg]; exact (below_size (by repeat (first | (with_reducible first | exact HB.out | apply below_alloc | apply pw_below_drewN | apply below_drew1) | exact HB.out))) : w.heap.size ≤ gb191)); have n3_ := Aside0.mk ((by rw [hg]; exact (below_size (by repeat (first | (with_reducible first | exact HB.out | apply below_alloc | apply pw_below_drewN | apply below_drew1) | exact HB.out))) : w.heap.size ≤ gb191)); clear HB; have HB := n0_; have BK191 := n1_; have GW191 := n2_; have GE191 := n3_; clear n0_ n1_ n2_ n3_; clear hb hbox hg; have hcz12_0 : w11.cell? ⟨gb191, 0, none⟩ = some (.slice none 0 0) := (blk_cell BK191.out 0).trans rfl; have hcz12_1 : w11.cell? ⟨gb191, 1, none⟩ = some (.slice none 0 0) := (blk_cell BK191.out 1).trans rfl; have hfz12_0 := blk_frozen BK191.out 0; have hfz12_1 := blk_frozen BK191.out 1))
                go_roundg k1
                case measure => have := HK1.out; omega
                case rel => exact ⟨(wrap64 (x5_1 + (((rd_T33 y186 x16_1).f1).length : Int))), (wrap64 (x16_1 + 1)), (by first | rfl | (simp; done) | (simp [*]; done)), (by first | rfl | (simp; done) | (simp [*]; done)), H', ⟨by have := HK1.out; omega⟩, ⟨by repeat (first | (with_reducible first | exact HB.out | apply below_alloc | apply pw_below_drewN | apply below_drew1 | refine below_set ?_ GE191.out) | exact HB.out)⟩⟩
              · rw [if_neg c10] at H
                exact absurd H (by simp)
            · rw [if_neg c9] at H
              exact absurd H (by simp)
          · rw [if_neg c8] at H
            have c8b0 : decide (x16_1 < (y186.length : Int)) = false := decide_eq_false c8
            clear c8
            obtain rfl := Option.some.inj H
            go_wp2
            go_ret
            exact ⟨by first | rfl | (simp [errW_none, errW_some] <;> rfl) | (simp only [← hji3, ← hji4]; first | rfl | (simp [errW_none, errW_some] <;> rfl)) | (simp [*, errW_none, errW_some] <;> rfl), by repeat (first | (with_reducible first | exact HB.out | apply below_alloc | apply pw_below_drewN | apply below_drew1) | exact HB.out)⟩
    · rw [if_neg c6] at H
      exact absurd H (by simp)
  · rw [if_neg c5] at H
    exact absurd H (by simp)

end Go.Proofs.Ytjcaflhlilckgaa.QA
