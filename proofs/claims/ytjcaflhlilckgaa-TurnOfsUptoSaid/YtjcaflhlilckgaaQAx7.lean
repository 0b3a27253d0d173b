-- Written for this claim by a program of this session's, out of Lean's own print of the program; Lean checks it.
import Derived.Test.YtjcaflhlilckgaaQAx0
namespace Go.Proofs.Ytjcaflhlilckgaa.QA
open Go.RowKit Go.Proofs.YtjcaflhlilckgaaW.PrintWords Go.Proofs.YtjcaflhlilckgaaW.PrintLast Go.Proofs.YtjcaflhlilckgaaW.PrintMore
attribute [local go_sem] max2_int min2_int max_two min_two max_three min_three max_four min_four   -- for this text's walks alone
set_option linter.unusedVariables false
set_option linter.unusedSimpArgs false

/-! ### turn_Seen: function 15 -/
def turn_Seen.l0 : Nat → Int → List (S33) → Int → Int → Option (Int)
  | 0, _, _, _, _ => none
  | k + 1, x5, x16, x17, x18 => if x18 < x17 then (if 0 ≤ x18 then (if x18 < (x16.length : Int) then (turn_Seen.l0 k (wrap64 (x5 + (((rd_T33 x16 x18).f0).length : Int))) x16 x17 (wrap64 (x18 + 1))) else (none)) else (none)) else (some x5)
def turn_Seen.f (k : Nat) (a0 : Int) (l1 : List (S33)) : Option (Int) := if 0 ≤ (mx 0 (wrap64 ((mn a0 (wrap64 ((l1.length : Int) - 1))) + 1))) then (if (mx 0 (wrap64 ((mn a0 (wrap64 ((l1.length : Int) - 1))) + 1))) ≤ (l1.length : Int) then ((some (l1.take ((mx 0 (wrap64 ((mn a0 (wrap64 ((l1.length : Int) - 1))) + 1))) : Int).toNat : List (S33))).bind fun y192 => (turn_Seen.l0 k 0 y192 (y192.length : Int) 0)) else (none)) else (none)
theorem turn_Seen.mono_l : ∀ k, (∀ y0 y1 y2 y3, LeO (turn_Seen.l0 k y0 y1 y2 y3) (turn_Seen.l0 (k + 1) y0 y1 y2 y3))
  | 0 => fun _ _ _ _ r h => by simp [turn_Seen.l0] at h
  | k + 1 => by
    have ih0 := turn_Seen.mono_l k
    · intro y0 y1 y2 y3
      unfold turn_Seen.l0
      repeat' first
      | (with_reducible exact ih0 _ _ _ _)
      | (with_reducible exact LeO.refl _)
      | (with_reducible exact LeO.none _)
      | (with_reducible refine LeO.ite ?_ ?_)
      | (with_reducible refine LeO.bind ?_ (fun _ => ?_))
      | exact ih0 _ _ _ _
      | exact LeO.none _
      | refine LeO.ite ?_ ?_
      | refine LeO.bind ?_ (fun _ => ?_)
theorem turn_Seen.mono : ∀ a0 a1 k, LeO (turn_Seen.f k a0 a1) (turn_Seen.f (k + 1) a0 a1) := by
  intro a0 a1 k
  have ih0 := turn_Seen.mono_l k
  unfold turn_Seen.f
  repeat' first
      | (with_reducible exact ih0 _ _ _ _)
      | (with_reducible exact LeO.refl _)
      | (with_reducible exact LeO.none _)
      | (with_reducible refine LeO.ite ?_ ?_)
      | (with_reducible refine LeO.bind ?_ (fun _ => ?_))
      | exact ih0 _ _ _ _
      | exact LeO.none _
      | refine LeO.ite ?_ ?_
      | refine LeO.bind ?_ (fun _ => ?_)
set_option maxHeartbeats 8000000 in
set_option maxRecDepth 100000 in
theorem turn_Seen.calls (k : Nat) (a0 : Int) (A1 : Option Addr) (c1 : Nat) (l1 : List (S33)) (r : Int) (w : World) (hr1 : Kd.C k33 w A1 l1.length l1) (hc1 : l1.length ≤ c1) (h : turn_Seen.f k a0 l1 = some r) :
    Calls Try.prog 15 #[.int .i64 a0, .slice A1 l1.length c1] w fun e w' => e = .returned (.int .i64 r) ∧ Below w.heap.size w w' := by
  have hu33 := Try.underlying33
  have HR1 := Aside0.mk hr1
  have HC1 := Aside0.mk hc1
  clear hr1 hc1
  have HB := Aside0.mk (Below.refl w.heap.size w)
  have H : (if 0 ≤ (mx 0 (wrap64 ((mn a0 (wrap64 ((l1.length : Int) - 1))) + 1))) then (if (mx 0 (wrap64 ((mn a0 (wrap64 ((l1.length : Int) - 1))) + 1))) ≤ (l1.length : Int) then ((some (l1.take ((mx 0 (wrap64 ((mn a0 (wrap64 ((l1.length : Int) - 1))) + 1))) : Int).toNat : List (S33))).bind fun y192 => (turn_Seen.l0 k 0 y192 (y192.length : Int) 0)) else (none)) else (none)) = some r := h
  clear h
  obtain ⟨ji3, hji3⟩ : ∃ j_ : Int, (mn a0 (wrap64 ((l1.length : Int) - 1))) = j_ := ⟨_, rfl⟩
  replace H : (if 0 ≤ (mx 0 (wrap64 ((ji3) + 1))) then (if (mx 0 (wrap64 ((ji3) + 1))) ≤ (l1.length : Int) then ((some (l1.take ((mx 0 (wrap64 ((ji3) + 1))) : Int).toNat : List (S33))).bind fun y192 => (turn_Seen.l0 k 0 y192 (y192.length : Int) 0)) else (none)) else (none)) = some r := by first | (rw [hji3] at H; exact H) | (simp only [hji3] at H ⊢; exact H)
  have hji3_ : (if (wrap64 ((l1.length : Int) - 1)) < a0 then (wrap64 ((l1.length : Int) - 1)) else a0) = ji3 := hji3
  obtain ⟨ji4, hji4⟩ : ∃ j_ : Int, (mx 0 (wrap64 ((ji3) + 1))) = j_ := ⟨_, rfl⟩
  replace H : (if 0 ≤ (ji4) then (if (ji4) ≤ (l1.length : Int) then ((some (l1.take ((ji4) : Int).toNat : List (S33))).bind fun y192 => (turn_Seen.l0 k 0 y192 (y192.length : Int) 0)) else (none)) else (none)) = some r := by first | (rw [hji4] at H; exact H) | (simp only [hji4] at H ⊢; exact H)
  have hji4_ : (if 0 < (wrap64 ((ji3) + 1)) then (wrap64 ((ji3) + 1)) else 0) = ji4 := hji4
  by_cases c5 : 0 ≤ (ji4)
  · rw [if_pos c5] at H
    have c5b0 := eq_true c5
    have c5b1 : decide (0 ≤ (ji4)) = true := decide_eq_true c5
    clear c5
    by_cases c6 : (ji4) ≤ (l1.length : Int)
    · rw [if_pos c6] at H
      have c6b0 := eq_true c6
      have c6b1 : decide ((ji4) ≤ (l1.length : Int)) = true := decide_eq_true c6
      clear c6
      obtain ⟨y192, hy192⟩ : ∃ y_ : List (S33), y_ = (l1.take ((ji4) : Int).toNat) := ⟨_, rfl⟩
      replace H : (turn_Seen.l0 k 0 y192 (y192.length : Int) 0) = some r := by first | (rw [hy192]; with_reducible exact H) | (have H2_ := (Option.bind_some _ _).symm.trans H; rw [hy192]; with_reducible exact H2_) | (have H2_ := (Option.bind_some _ _).symm.trans H; with_reducible exact H2_) | with_reducible exact H | (rw [hy192]; exact H) | exact H
      have Ny192 := Aside0.mk hy192
      clear hy192
      have H' := Aside0.mk H
      clear H
      have q7 : ((ji4) : Int) ≤ ((l1.length : Int) : Int) := of_decide_eq_true (by first | (with_reducible assumption) | assumption)
      obtain ⟨i07, hi07, _, hsz7, _⟩ := info_parts info33
      have hroom7 : l1.length ≤ c1 := HC1.out
      have hC7 : Kd.C k33 _ A1 l1.length l1 := HR1.out
      have hcut7 := cut_to (P := Try.prog) 24 33 .i64 Try.underlying24 hi07 A1 l1.length c1 (ji4) (of_decide_eq_true (by first | (with_reducible assumption) | assumption)) q7 hroom7
      have hr7 := Kd.C_take (m := ((ji4) : Int).toNat) hC7 (by omega)
      have hy7 : y192.length = ((ji4) : Int).toNat := (by rw [Ny192.out, List.length_take]; omega)
      rw [← Ny192.out] at hr7
      rw [← hy7] at hcut7
      have HR195 := Aside0.mk hr7
      have HC195 := Aside0.mk (show y192.length ≤ c1 from by omega)
      clear hr7 hC7 hroom7 hi07 hsz7
      have KY7 := Aside0.mk hy7
      clear hy7
      replace q7 := eq_true q7
      go_enter Try.func15, Try.ntmps15
      go_wp2
      go_loopg [5, 18] k (fun kq v5 v18 w' => ∃ (x5_1 : Int) (x18_1 : Int), v5 = .int .i64 x5_1 ∧ v18 = .int .i64 x18_1 ∧ Aside0 (turn_Seen.l0 kq x5_1 y192 (y192.length : Int) x18_1 = some r) ∧ Aside0 (kq ≤ k) ∧ Aside0 (Below w.heap.size w w'))
      case atStart => exact ⟨(0), (0), (by first | rfl | (simp; done) | (simp [*]; done)), (by first | rfl | (simp; done) | (simp [*]; done)), H', ⟨Nat.le_refl _⟩, ⟨by repeat (first | (with_reducible first | exact HB.out | apply below_alloc | apply pw_below_drewN | apply below_drew1) | exact HB.out)⟩⟩
      case round =>
        clear H'
        try clear c1
        try clear p2
        try clear c5
        try clear c5b0
        try clear c5b1
        try clear c6
        try clear c6b0
        try clear c6b1
        try clear p6
        try clear q7
        try clear q7
        obtain ⟨x5_1, x18_1, rfl, rfl, HA, HK1, HB⟩ := hrel
        cases gk with
        | zero => exact absurd HA.out (by simp [turn_Seen.l0])
        | succ k1 =>
          have H := HA.out
          clear HA
          simp only [turn_Seen.l0] at H
          by_cases c8 : x18_1 < (y192.length : Int)
          · rw [if_pos c8] at H
            have c8b0 : decide (x18_1 < (y192.length : Int)) = true := decide_eq_true c8
            clear c8
            by_cases c9 : 0 ≤ x18_1
            · rw [if_pos c9] at H
              have c9b0 : decide (0 ≤ x18_1) = true := decide_eq_true c9
              clear c9
              by_cases c10 : x18_1 < (y192.length : Int)
              · rw [if_pos c10] at H
                have c10b0 : decide (x18_1 < (y192.length : Int)) = true := decide_eq_true c10
                clear c10
                have H' := Aside0.mk H
                clear H
                have p196 : 0 ≤ (x18_1 : Int) := of_decide_eq_true (by first | (with_reducible assumption) | assumption)
                have q196 : x18_1 < (y192.length : Int) := of_decide_eq_true (by first | (with_reducible assumption) | assumption)
                obtain ⟨ad196, A196_0, c196_0, A196_1, c196_1, e196, hx196_0, hx196_1, hl196_0, hi196_0, hl196_1, hi196_1⟩ := at_T33 HR195.out x18_1 p196 q196
                cases e196
                replace hx196_0 := (HB.out.cell (World.block_lt_of_cell? w _ hx196_0)).trans hx196_0
                replace hx196_1 := (HB.out.cell (World.block_lt_of_cell? w _ hx196_1)).trans hx196_1
                have HR196_0 := Aside0.mk hi196_0
                have HC196_0 := Aside0.mk hl196_0
                clear hi196_0 hl196_0
                have HR196_1 := Aside0.mk hi196_1
                have HC196_1 := Aside0.mk hl196_1
                clear hi196_1 hl196_1
                replace p196 := eq_true p196
                replace q196 := eq_true q196
                go_wp2_with (first | ((with_reducible refine gate_dst (N := 7) rfl ?_); refine box_event ?hg (N := 7) ?hd (cs := #[.slice none 0 0, .slice none 0 0]) (t := 33) ?hr ?_; (case hd => rfl); (case hg => rfl); (case hr => first | (go_simp; done) | (go_simp; rfl)); intro gb197 hg w11 hbox hb; have n0_ := Aside0.mk (below_step (by repeat (first | (with_reducible first | exact HB.out | apply below_alloc | apply pw_below_drewN | apply below_drew1) | exact HB.out)) hb); have n1_ := Aside0.mk (hbox); have n2_ := Aside0.mk ((by rw [hg]; exact (below_size (by repeat (first | (with_reducible first | exact HB.out | apply below_alloc | apply pw_below_drewN | apply below_drew1) | exact HB.out))) : w.heap.size ≤ gb197)); have n3_ := Aside0.mk ((by rw [hg]; exact (below_size (by repeat (first | (with_reducible first | exact HB.out | apply below_alloc | apply pw_below_drewN | apply below_drew1) | exact HB.out))) : w.heap.size ≤ gb197)); clear HB; have HB := n0_; have BK197 := n1_; have GW197 := n2_; have GE197 := n3_; clear n0_ n1_ n2_ n3_; clear hb hbox hg; have hcz12_0 : w11.cell? ⟨gb197, 0, none⟩ = some (.slice none 0 0) := (blk_cell BK197.out 0).trans rfl; have hcz12_1 : w11.cell? ⟨gb197, 1, none⟩ = some (.slice none 0 0) := (blk_cell BK197.out 1).trans rfl; have hfz12_0 := blk_frozen BK197.out 0; have hfz12_1 := blk_frozen BK197.out 1))
                go_roundg k1
                case measure => have := HK1.out; omega
                case rel => exact ⟨(wrap64 (x5_1 + (((rd_T33 y192 x18_1).f0).length : Int))), (wrap64 (x18_1 + 1)), (by first | rfl | (simp; done) | (simp [*]; done)), (by first | rfl | (simp; done) | (simp [*]; done)), H', ⟨by have := HK1.out; omega⟩, ⟨by repeat (first | (with_reducible first | exact HB.out | apply below_alloc | apply pw_below_drewN | apply below_drew1 | refine below_set ?_ GE197.out) | exact HB.out)⟩⟩
              · rw [if_neg c10] at H
                exact absurd H (by simp)
            · rw [if_neg c9] at H
              exact absurd H (by simp)
          · rw [if_neg c8] at H
            have c8b0 : decide (x18_1 < (y192.length : Int)) = false := decide_eq_false c8
            clear c8
            obtain rfl := Option.some.inj H
            go_wp2
            go_ret
            exact ⟨by first | rfl | (simp [errW_none, errW_some] <;> rfl) | (simp only [← hji3, ← hji4]; first | rfl | (simp [errW_none, errW_some] <;> rfl)) | (simp [*, errW_none, errW_some] <;> rfl), by repeat (first | (with_reducible first | exact HB.out | apply below_alloc | apply pw_below_drewN | apply below_drew1) | exact HB.out)⟩
    · rw [if_neg c6] at H
      exact absurd H (by simp)
  · rw [if_neg c5] at H
    exact absurd H (by simp)

end Go.Proofs.Ytjcaflhlilckgaa.QA
