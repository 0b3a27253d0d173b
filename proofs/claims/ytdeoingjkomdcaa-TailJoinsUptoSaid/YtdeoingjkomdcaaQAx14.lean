-- Written for this claim by a program of this session's, out of Lean's own print of the program; Lean checks it.
import Derived.Test.YtdeoingjkomdcaaQAx0
import Derived.Test.YtdeoingjkomdcaaGFirst
namespace Go.Proofs.Ytdeoingjkomdcaa.QA
open Go.RowKit Go.Proofs.YtdeoingjkomdcaaW.PrintWords Go.Proofs.YtdeoingjkomdcaaW.PrintLast Go.Proofs.YtdeoingjkomdcaaW.PrintMore
attribute [local go_sem] max2_int min2_int max_two min_two max_three min_three max_four min_four   -- for this text's walks alone
set_option linter.unusedVariables false
set_option linter.unusedSimpArgs false

/-! ### tail_Factors: function 15 -/
def tail_Factors.l0 : Nat → List Int → Int → List (List Int) → Int → Int → Option (Int × Bool)
  | 0, _, _, _, _, _ => none
  | k + 1, x0, x6, x11, x12, x13 => if x13 < x12 then (if 0 ≤ x13 then (if x13 < (x11.length : Int) then (if 0 ≤ x6 then (if x6 ≤ (x0.length : Int) then ((kmp_First_byte.f k (x0.drop (x6 : Int).toNat) (rd_L2 x11 x13)).bind fun bt279 => (if bt279.2 = true then (tail_Factors.l0 k x0 (wrap64 (x6 + (wrap64 (bt279.1 + ((rd_L2 x11 x13).length : Int))))) x11 x12 (wrap64 (x13 + 1))) else (some (0, false)))) else (none)) else (none)) else (none)) else (none)) else (some (x6, true))
def tail_Factors.f (k : Nat) (l0 : List Int) (l1 : List (List Int)) : Option (Int × Bool) := tail_Factors.l0 k l0 0 l1 (l1.length : Int) 0
theorem tail_Factors.mono_l : ∀ k, (∀ y0 y1 y2 y3 y4, LeO (tail_Factors.l0 k y0 y1 y2 y3 y4) (tail_Factors.l0 (k + 1) y0 y1 y2 y3 y4))
  | 0 => fun _ _ _ _ _ r h => by simp [tail_Factors.l0] at h
  | k + 1 => by
    have ih0 := tail_Factors.mono_l k
    · intro y0 y1 y2 y3 y4
      unfold tail_Factors.l0
      repeat' first
      | (with_reducible exact ih0 _ _ _ _ _)
      | (with_reducible exact kmp_First_byte.mono _ _ _)
      | (with_reducible exact LeO.refl _)
      | (with_reducible exact LeO.none _)
      | (with_reducible refine LeO.ite ?_ ?_)
      | (with_reducible refine LeO.bind ?_ (fun _ => ?_))
      | exact ih0 _ _ _ _ _
      | exact kmp_First_byte.mono _ _ _
      | exact LeO.none _
      | refine LeO.ite ?_ ?_
      | refine LeO.bind ?_ (fun _ => ?_)
theorem tail_Factors.mono : ∀ a0 a1 k, LeO (tail_Factors.f k a0 a1) (tail_Factors.f (k + 1) a0 a1) := by
  intro a0 a1 k
  have ih0 := tail_Factors.mono_l k
  unfold tail_Factors.f
  repeat' first
      | (with_reducible exact ih0 _ _ _ _ _)
      | (with_reducible exact kmp_First_byte.mono _ _ _)
      | (with_reducible exact LeO.refl _)
      | (with_reducible exact LeO.none _)
      | (with_reducible refine LeO.ite ?_ ?_)
      | (with_reducible refine LeO.bind ?_ (fun _ => ?_))
      | exact ih0 _ _ _ _ _
      | exact kmp_First_byte.mono _ _ _
      | exact LeO.none _
      | refine LeO.ite ?_ ?_
      | refine LeO.bind ?_ (fun _ => ?_)
set_option maxHeartbeats 8000000 in
set_option maxRecDepth 100000 in
theorem tail_Factors.calls (k : Nat) (A0 : Option Addr) (c0 : Nat) (l0 : List Int) (A1 : Option Addr) (c1 : Nat) (l1 : List (List Int)) (r1 : Int) (r2 : Bool) (w : World) (hr0 : Kd.C (Kd.int .u8) w A0 l0.length l0) (hc0 : l0.length ≤ c0) (hr1 : Kd.C (Kd.slice 5 (Kd.int .u8)) w A1 l1.length l1) (hc1 : l1.length ≤ c1) (h : tail_Factors.f k l0 l1 = some (r1, r2)) :
    Calls Try.prog 15 #[.slice A0 l0.length c0, .slice A1 l1.length c1] w fun e w' => e = .returned (.tuple #[.int .i64 r1, .bool r2]) ∧ Below w.heap.size w w' := by
  have HR0 := Aside0.mk hr0
  have HC0 := Aside0.mk hc0
  clear hr0 hc0
  have HR1 := Aside0.mk hr1
  have HC1 := Aside0.mk hc1
  clear hr1 hc1
  have HB := Aside0.mk (Below.refl w.heap.size w)
  have H : (tail_Factors.l0 k l0 0 l1 (l1.length : Int) 0) = some (r1, r2) := h
  clear h
  have H' := Aside0.mk H
  clear H
  go_enter Try.func15, Try.ntmps15
  go_wp2
  go_loopg [6, 13] k (fun kq v6 v13 w' => ∃ (x6_1 : Int) (x13_1 : Int), v6 = .int .i64 x6_1 ∧ v13 = .int .i64 x13_1 ∧ Aside0 (tail_Factors.l0 kq l0 x6_1 l1 (l1.length : Int) x13_1 = some (r1, r2)) ∧ Aside0 (kq ≤ k) ∧ Aside0 (Below w.heap.size w w'))
  case atStart => exact ⟨(0), (0), (by first | rfl | (simp; done) | (simp [*]; done)), (by first | rfl | (simp; done) | (simp [*]; done)), H', ⟨Nat.le_refl _⟩, ⟨by repeat (first | (with_reducible first | exact HB.out | apply below_alloc | apply pw_below_drewN | apply below_drew1) | exact HB.out)⟩⟩
  case round =>
    clear H'
    try clear c1
    try clear p2
    obtain ⟨x6_1, x13_1, rfl, rfl, HA, HK1, HB⟩ := hrel
    cases gk with
    | zero => exact absurd HA.out (by simp [tail_Factors.l0])
    | succ k1 =>
      have H := HA.out
      clear HA
      simp only [tail_Factors.l0] at H
      by_cases c3 : x13_1 < (l1.length : Int)
      · rw [if_pos c3] at H
        have c3b0 : decide (x13_1 < (l1.length : Int)) = true := decide_eq_true c3
        clear c3
        by_cases c4 : 0 ≤ x13_1
        · rw [if_pos c4] at H
          have c4b0 : decide (0 ≤ x13_1) = true := decide_eq_true c4
          clear c4
          by_cases c5 : x13_1 < (l1.length : Int)
          · rw [if_pos c5] at H
            have c5b0 : decide (x13_1 < (l1.length : Int)) = true := decide_eq_true c5
            clear c5
            by_cases c6 : 0 ≤ x6_1
            · rw [if_pos c6] at H
              have c6b0 := eq_true c6
              have c6b1 : decide (0 ≤ x6_1) = true := decide_eq_true c6
              clear c6
              by_cases c7 : x6_1 ≤ (l0.length : Int)
              · rw [if_pos c7] at H
                have c7b0 := eq_true c7
                have c7b1 : decide (x6_1 ≤ (l0.length : Int)) = true := decide_eq_true c7
                clear c7
                obtain ⟨y275, hy275⟩ : ∃ y_ : List Int, y_ = (l0.drop (x6_1 : Int).toNat) := ⟨_, rfl⟩
                replace H : ((kmp_First_byte.f k1 y275 (rd_L2 l1 x13_1)).bind fun bt279 => (if bt279.2 = true then (tail_Factors.l0 k1 l0 (wrap64 (x6_1 + (wrap64 (bt279.1 + ((rd_L2 l1 x13_1).length : Int))))) l1 (l1.length : Int) (wrap64 (x13_1 + 1))) else (some (0, false)))) = some (r1, r2) := by first | (rw [hy275]; with_reducible exact H) | (have H2_ := (Option.bind_some _ _).symm.trans H; rw [hy275]; with_reducible exact H2_) | (have H2_ := (Option.bind_some _ _).symm.trans H; with_reducible exact H2_) | with_reducible exact H | (rw [hy275]; exact H) | exact H
                have Ny275 := Aside0.mk hy275
                clear hy275
                replace H := Option.bind_eq_some_iff.mp H
                obtain ⟨⟨t279, t280⟩, A80, H⟩ := H
                replace H : (if t280 = true then (tail_Factors.l0 k1 l0 (wrap64 (x6_1 + (wrap64 (t279 + ((rd_L2 l1 x13_1).length : Int))))) l1 (l1.length : Int) (wrap64 (x13_1 + 1))) else (some (0, false))) = some (r1, r2) := H
                have A8 := Aside0.mk A80
                clear A80
                by_cases c9 : t280 = true
                · subst c9
                  have H1 : (tail_Factors.l0 k1 l0 (wrap64 (x6_1 + (wrap64 (t279 + ((rd_L2 l1 x13_1).length : Int))))) l1 (l1.length : Int) (wrap64 (x13_1 + 1))) = some (r1, r2) := by rw [if_pos rfl] at H; exact H
                  clear H
                  have H := H1
                  clear H1
                  have H' := Aside0.mk H
                  clear H
                  have p274 : 0 ≤ (x13_1 : Int) := of_decide_eq_true (by first | (with_reducible assumption) | assumption)
                  have q274 : x13_1 < (l1.length : Int) := of_decide_eq_true (by first | (with_reducible assumption) | assumption)
                  obtain ⟨ad274, A274_0, c274_0, e274, hx274_0, hl274_0, hi274_0⟩ := at_L2 HR1.out x13_1 p274 q274
                  cases e274
                  replace hx274_0 := (HB.out.cell (World.block_lt_of_cell? w _ hx274_0)).trans hx274_0
                  have HR274_0 := Aside0.mk hi274_0
                  have HC274_0 := Aside0.mk hl274_0
                  clear hi274_0 hl274_0
                  replace p274 := eq_true p274
                  replace q274 := eq_true q274
                  have q10 : (x6_1 : Int) ≤ ((l0.length : Int) : Int) := of_decide_eq_true (by first | (with_reducible assumption) | assumption)
                  obtain ⟨i010, hi010, _, hsz10, _⟩ := info_parts info5
                  have hroom10 : l0.length ≤ c0 := HC0.out
                  have hC10 : Kd.C (Kd.int .u8) _ A0 l0.length l0 := HR0.out
                  have q010 : (0 : Int) ≤ (x6_1 : Int) := of_decide_eq_true (by first | (with_reducible assumption) | assumption)
                  have hcut10 := cut_from (P := Try.prog) 22 5 .i64 Try.underlying22 hi010 1 hsz10 A0 l0.length c0 x6_1 q010 q10
                  have hr10 := Kd.C_drop (m := (x6_1 : Int).toNat) (c := c0) hC10 (by omega) hroom10
                  obtain ⟨A10, hA10⟩ : ∃ A1, A1 = (if c0 = (x6_1 : Int).toNat then A0 else (A0 : Option Addr).map (·.add ((x6_1 : Int).toNat * 1))) := ⟨_, rfl⟩
                  obtain ⟨c10, hc10⟩ : ∃ c1, c1 = c0 - (x6_1 : Int).toNat := ⟨_, rfl⟩
                  have hy10 : y275.length = l0.length - (x6_1 : Int).toNat := (by rw [Ny275.out, List.length_drop] <;> omega)
                  rw [show (l0).drop (x6_1 : Int).toNat = y275 from Ny275.out.symm] at hr10
                  replace hr10 : Kd.C (Kd.int .u8) _ A10 y275.length y275 := (by rw [hA10]; exact hr10)
                  rw [← hy10, ← hA10, ← hc10] at hcut10
                  have HR278 := Aside0.mk hr10
                  have HC278 := Aside0.mk (show y275.length ≤ c10 from by rw [hy10, hc10]; exact Nat.sub_le_sub_right hroom10 _)
                  clear hr10 hC10 hroom10 hi010 hsz10 hc10
                  have KY10 := Aside0.mk hy10
                  have KA10 := Aside0.mk hA10
                  clear hy10 hA10
                  replace q10 := eq_true q10
                  go_wp2_with (first | ((with_reducible refine gate_callee (f := 20) rfl ?_); refine goesL_ (some 22) rfl rfl Try.func20 (by kernel_rfl) rfl #[.slice A10 y275.length c10, .slice A274_0 (rd_L2 l1 x13_1).length c274_0] rfl (by (try simp only [List.map_toArray, List.map_cons, List.map_nil]); first | done | rfl | (simp only [List.length_drop, List.length_take]; rfl)) ?_; (with_reducible refine (kmp_First_byte.calls k1 _ _ y275 _ _ (rd_L2 l1 x13_1) t279 true _ ?side1 ?side2 ?side3 ?side4 A8.out).mono ?_); (case side1 => repeat (first | exact (Kd.C_below HR278.out HB.out) | (with_reducible refine Kd.C_alloc ?_ _) | (with_reducible refine Kd.C_drewN ?_ _) | (with_reducible refine Kd.C_drew ?_))); (case side2 => exact HC278.out); (case side3 => repeat (first | exact (Kd.C_below HR274_0.out HB.out) | (with_reducible refine Kd.C_alloc ?_ _) | (with_reducible refine Kd.C_drewN ?_ _) | (with_reducible refine Kd.C_drew ?_))); (case side4 => exact HC274_0.out); rintro e w11 ⟨rfl, hb⟩; refine ⟨_, rfl, ?_⟩; have n0_ := Aside0.mk (below_step (by repeat (first | (with_reducible first | exact HB.out | apply below_alloc | apply pw_below_drewN | apply below_drew1) | exact HB.out)) hb); clear HB; have HB := n0_; clear n0_; (try clear hb); (try clear hb2); (try clear hk); (try clear hi)))
                  go_roundg k1
                  case measure => have := HK1.out; omega
                  case rel => exact ⟨(wrap64 (x6_1 + (wrap64 (t279 + ((rd_L2 l1 x13_1).length : Int))))), (wrap64 (x13_1 + 1)), (by first | rfl | (simp; done) | (simp [*]; done)), (by first | rfl | (simp; done) | (simp [*]; done)), H', ⟨by have := HK1.out; omega⟩, ⟨by repeat (first | (with_reducible first | exact HB.out | apply below_alloc | apply pw_below_drewN | apply below_drew1) | exact HB.out)⟩⟩
                · replace c9 := Bool.eq_false_iff.mpr c9
                  subst c9
                  have H1 : (some (0, false)) = some (r1, r2) := by rw [if_neg (show ¬ (false = true) by decide)] at H; exact H
                  clear H
                  have H := H1
                  clear H1
                  simp only [Option.some.injEq, Prod.mk.injEq] at H
                  obtain ⟨rfl, rfl⟩ := H
                  have p274 : 0 ≤ (x13_1 : Int) := of_decide_eq_true (by first | (with_reducible assumption) | assumption)
                  have q274 : x13_1 < (l1.length : Int) := of_decide_eq_true (by first | (with_reducible assumption) | assumption)
                  obtain ⟨ad274, A274_0, c274_0, e274, hx274_0, hl274_0, hi274_0⟩ := at_L2 HR1.out x13_1 p274 q274
                  cases e274
                  replace hx274_0 := (HB.out.cell (World.block_lt_of_cell? w _ hx274_0)).trans hx274_0
                  have HR274_0 := Aside0.mk hi274_0
                  have HC274_0 := Aside0.mk hl274_0
                  clear hi274_0 hl274_0
                  replace p274 := eq_true p274
                  replace q274 := eq_true q274
                  have q12 : (x6_1 : Int) ≤ ((l0.length : Int) : Int) := of_decide_eq_true (by first | (with_reducible assumption) | assumption)
                  obtain ⟨i012, hi012, _, hsz12, _⟩ := info_parts info5
                  have hroom12 : l0.length ≤ c0 := HC0.out
                  have hC12 : Kd.C (Kd.int .u8) _ A0 l0.length l0 := HR0.out
                  have q012 : (0 : Int) ≤ (x6_1 : Int) := of_decide_eq_true (by first | (with_reducible assumption) | assumption)
                  have hcut12 := cut_from (P := Try.prog) 22 5 .i64 Try.underlying22 hi012 1 hsz12 A0 l0.length c0 x6_1 q012 q12
                  have hr12 := Kd.C_drop (m := (x6_1 : Int).toNat) (c := c0) hC12 (by omega) hroom12
                  obtain ⟨A12, hA12⟩ : ∃ A1, A1 = (if c0 = (x6_1 : Int).toNat then A0 else (A0 : Option Addr).map (·.add ((x6_1 : Int).toNat * 1))) := ⟨_, rfl⟩
                  obtain ⟨c12, hc12⟩ : ∃ c1, c1 = c0 - (x6_1 : Int).toNat := ⟨_, rfl⟩
                  have hy12 : y275.length = l0.length - (x6_1 : Int).toNat := (by rw [Ny275.out, List.length_drop] <;> omega)
                  rw [show (l0).drop (x6_1 : Int).toNat = y275 from Ny275.out.symm] at hr12
                  replace hr12 : Kd.C (Kd.int .u8) _ A12 y275.length y275 := (by rw [hA12]; exact hr12)
                  rw [← hy12, ← hA12, ← hc12] at hcut12
                  have HR278 := Aside0.mk hr12
                  have HC278 := Aside0.mk (show y275.length ≤ c12 from by rw [hy12, hc12]; exact Nat.sub_le_sub_right hroom12 _)
                  clear hr12 hC12 hroom12 hi012 hsz12 hc12
                  have KY12 := Aside0.mk hy12
                  have KA12 := Aside0.mk hA12
                  clear hy12 hA12
                  replace q12 := eq_true q12
                  go_wp2_with (first | ((with_reducible refine gate_callee (f := 20) rfl ?_); refine goesL_ (some 22) rfl rfl Try.func20 (by kernel_rfl) rfl #[.slice A12 y275.length c12, .slice A274_0 (rd_L2 l1 x13_1).length c274_0] rfl (by (try simp only [List.map_toArray, List.map_cons, List.map_nil]); first | done | rfl | (simp only [List.length_drop, List.length_take]; rfl)) ?_; (with_reducible refine (kmp_First_byte.calls k1 _ _ y275 _ _ (rd_L2 l1 x13_1) t279 false _ ?side1 ?side2 ?side3 ?side4 A8.out).mono ?_); (case side1 => repeat (first | exact (Kd.C_below HR278.out HB.out) | (with_reducible refine Kd.C_alloc ?_ _) | (with_reducible refine Kd.C_drewN ?_ _) | (with_reducible refine Kd.C_drew ?_))); (case side2 => exact HC278.out); (case side3 => repeat (first | exact (Kd.C_below HR274_0.out HB.out) | (with_reducible refine Kd.C_alloc ?_ _) | (with_reducible refine Kd.C_drewN ?_ _) | (with_reducible refine Kd.C_drew ?_))); (case side4 => exact HC274_0.out); rintro e w13 ⟨rfl, hb⟩; refine ⟨_, rfl, ?_⟩; have n0_ := Aside0.mk (below_step (by repeat (first | (with_reducible first | exact HB.out | apply below_alloc | apply pw_below_drewN | apply below_drew1) | exact HB.out)) hb); clear HB; have HB := n0_; clear n0_; (try clear hb); (try clear hb2); (try clear hk); (try clear hi)))
                  go_ret2
                  exact ⟨by first | rfl | (simp [errW_none, errW_some] <;> rfl) | (simp [*, errW_none, errW_some] <;> rfl), by repeat (first | (with_reducible first | exact HB.out | apply below_alloc | apply pw_below_drewN | apply below_drew1) | exact HB.out)⟩
              · rw [if_neg c7] at H
                exact absurd H (by simp)
            · rw [if_neg c6] at H
              exact absurd H (by simp)
          · rw [if_neg c5] at H
            exact absurd H (by simp)
        · rw [if_neg c4] at H
          exact absurd H (by simp)
      · rw [if_neg c3] at H
        have c3b0 : decide (x13_1 < (l1.length : Int)) = false := decide_eq_false c3
        clear c3
        simp only [Option.some.injEq, Prod.mk.injEq] at H
        obtain ⟨rfl, rfl⟩ := H
        go_wp2
        go_ret2
        exact ⟨by first | rfl | (simp [errW_none, errW_some] <;> rfl) | (simp [*, errW_none, errW_some] <;> rfl), by repeat (first | (with_reducible first | exact HB.out | apply below_alloc | apply pw_below_drewN | apply below_drew1) | exact HB.out)⟩

end Go.Proofs.Ytdeoingjkomdcaa.QA
