-- Written for this claim by a program of this session's, out of Lean's own print of the program; Lean checks it.
import Derived.Test.YtdeoingjkomdcaaQAx0
import Derived.Test.YtdeoingjkomdcaaQAx3
import Derived.Test.YtdeoingjkomdcaaGClone
namespace Go.Proofs.Ytdeoingjkomdcaa.QA
open Go.RowKit Go.Proofs.YtdeoingjkomdcaaW.PrintWords Go.Proofs.YtdeoingjkomdcaaW.PrintLast Go.Proofs.YtdeoingjkomdcaaW.PrintMore
attribute [local go_sem] max2_int min2_int max_two min_two max_three min_three max_four min_four   -- for this text's walks alone
set_option linter.unusedVariables false
set_option linter.unusedSimpArgs false

/-! ### tail_Pieces: function 9 -/
mutual
def tail_Pieces.j0 : Nat → List Int → Int → Bool → Option ((List (List Int)) × Int)
  | 0, _, _, _ => none
  | k + 1, x0, x1, x14 => if x14 = true then (some (([] : List (List Int)), 3)) else ((tail_Shortest.f k x0).bind fun t129 => (if t129 = 0 then (some (([] : List (List Int)), 0)) else (if t129 ≤ x1 then (if 0 ≤ (wrap64 ((x0.length : Int) - t129)) then (if (wrap64 ((x0.length : Int) - t129)) ≤ (x0.length : Int) then ((slices_Clone_byte_byte.f k (x0.drop ((wrap64 ((x0.length : Int) - t129)) : Int).toNat)).bind fun t134 => (if ([] : List (List Int)).length < 5864062014805 then (some ((([] : List (List Int)) ++ [t134]), 0)) else (none))) else (none)) else (none)) else (if x1 = 0 then (none) else (tail_Pieces.l0 k x0 x1 ([] : List (List Int)) (wrap64 (Int.tdiv (wrap64 ((wrap64 ((x0.length : Int) + x1)) - 1)) x1)) 0)))))
def tail_Pieces.l0 : Nat → List Int → Int → List (List Int) → Int → Int → Option ((List (List Int)) × Int)
  | 0, _, _, _, _, _ => none
  | k + 1, x0, x1, x6, x23, x24 => if x24 < x23 then (if 0 ≤ (wrap64 (x24 * x1)) then (if (wrap64 (x24 * x1)) ≤ (mn (x0.length : Int) (wrap64 ((wrap64 (x24 + 1)) * x1))) then (if (mn (x0.length : Int) (wrap64 ((wrap64 (x24 + 1)) * x1))) ≤ (x0.length : Int) then ((slices_Clone_byte_byte.f k ((x0.take ((mn (x0.length : Int) (wrap64 ((wrap64 (x24 + 1)) * x1))) : Int).toNat).drop ((wrap64 (x24 * x1)) : Int).toNat)).bind fun t144 => (if x6.length < 5864062014805 then (tail_Pieces.l0 k x0 x1 (x6 ++ [t144]) x23 (wrap64 (x24 + 1))) else (none))) else (none)) else (none)) else (none)) else (some (x6, 0))
end
def tail_Pieces.f (k : Nat) (l0 : List Int) (a1 : Int) : Option ((List (List Int)) × Int) := if a1 < 1 then (tail_Pieces.j0 k l0 a1 true) else (tail_Pieces.j0 k l0 a1 (decide (a1 > 1048576)))
theorem tail_Pieces.mono_l : ∀ k, (∀ y0 y1 y2, LeO (tail_Pieces.j0 k y0 y1 y2) (tail_Pieces.j0 (k + 1) y0 y1 y2)) ∧ (∀ y0 y1 y2 y3 y4, LeO (tail_Pieces.l0 k y0 y1 y2 y3 y4) (tail_Pieces.l0 (k + 1) y0 y1 y2 y3 y4))
  | 0 => ⟨fun _ _ _ r h => by simp [tail_Pieces.j0] at h, fun _ _ _ _ _ r h => by simp [tail_Pieces.l0] at h⟩
  | k + 1 => by
    obtain ⟨ih0, ih1⟩ := tail_Pieces.mono_l k
    refine ⟨?_, ?_⟩
    · intro y0 y1 y2
      unfold tail_Pieces.j0
      repeat' first
      | (with_reducible exact ih0 _ _ _)
      | (with_reducible exact ih1 _ _ _ _ _)
      | (with_reducible exact slices_Clone_byte_byte.mono _ _)
      | (with_reducible exact tail_Shortest.mono _ _)
      | (with_reducible exact LeO.refl _)
      | (with_reducible exact LeO.none _)
      | (with_reducible refine LeO.ite ?_ ?_)
      | (with_reducible refine LeO.bind ?_ (fun _ => ?_))
      | exact ih0 _ _ _
      | exact ih1 _ _ _ _ _
      | exact slices_Clone_byte_byte.mono _ _
      | exact tail_Shortest.mono _ _
      | exact LeO.none _
      | refine LeO.ite ?_ ?_
      | refine LeO.bind ?_ (fun _ => ?_)
    · intro y0 y1 y2 y3 y4
      unfold tail_Pieces.l0
      repeat' first
      | (with_reducible exact ih0 _ _ _)
      | (with_reducible exact ih1 _ _ _ _ _)
      | (with_reducible exact slices_Clone_byte_byte.mono _ _)
      | (with_reducible exact tail_Shortest.mono _ _)
      | (with_reducible exact LeO.refl _)
      | (with_reducible exact LeO.none _)
      | (with_reducible refine LeO.ite ?_ ?_)
      | (with_reducible refine LeO.bind ?_ (fun _ => ?_))
      | exact ih0 _ _ _
      | exact ih1 _ _ _ _ _
      | exact slices_Clone_byte_byte.mono _ _
      | exact tail_Shortest.mono _ _
      | exact LeO.none _
      | refine LeO.ite ?_ ?_
      | refine LeO.bind ?_ (fun _ => ?_)
theorem tail_Pieces.mono : ∀ a0 a1 k, LeO (tail_Pieces.f k a0 a1) (tail_Pieces.f (k + 1) a0 a1) := by
  intro a0 a1 k
  obtain ⟨ih0, ih1⟩ := tail_Pieces.mono_l k
  unfold tail_Pieces.f
  repeat' first
      | (with_reducible exact ih0 _ _ _)
      | (with_reducible exact ih1 _ _ _ _ _)
      | (with_reducible exact slices_Clone_byte_byte.mono _ _)
      | (with_reducible exact tail_Shortest.mono _ _)
      | (with_reducible exact LeO.refl _)
      | (with_reducible exact LeO.none _)
      | (with_reducible refine LeO.ite ?_ ?_)
      | (with_reducible refine LeO.bind ?_ (fun _ => ?_))
      | exact ih0 _ _ _
      | exact ih1 _ _ _ _ _
      | exact slices_Clone_byte_byte.mono _ _
      | exact tail_Shortest.mono _ _
      | exact LeO.none _
      | refine LeO.ite ?_ ?_
      | refine LeO.bind ?_ (fun _ => ?_)
set_option maxHeartbeats 8000000 in
set_option maxRecDepth 100000 in
theorem tail_Pieces.calls (k : Nat) (A0 : Option Addr) (c0 : Nat) (l0 : List Int) (a1 : Int) (r1 : List (List Int)) (r2 : Int) (w : World) (hr0 : Kd.C (Kd.int .u8) w A0 l0.length l0) (hc0 : l0.length ≤ c0) (h : tail_Pieces.f k l0 a1 = some (r1, r2)) :
    Calls Try.prog 9 #[.slice A0 l0.length c0, .int .i64 a1] w fun e w' => ∃ v0_ : Value, e = .returned (.tuple #[v0_, .int .i64 r2]) ∧ Kd.S (Kd.slice 5 (Kd.int .u8)) 22 w' w.heap.size (fun _ => True) v0_ r1 ∧ Below w.heap.size w w' := by
  have HR0 := Aside0.mk hr0
  have HC0 := Aside0.mk hc0
  clear hr0 hc0
  have HB := Aside0.mk (Below.refl w.heap.size w)
  have H : (if a1 < 1 then (tail_Pieces.j0 k l0 a1 true) else (tail_Pieces.j0 k l0 a1 (decide (a1 > 1048576)))) = some (r1, r2) := h
  clear h
  have HC3 := Aside0.mk H
  clear H
  go_enter Try.func9, Try.ntmps9
  go_upto_region 1 with (fail)
  go_cut [14] (fun v14 wc => ∃ (kq : Nat) (x14_2 : Bool), v14 = .bool x14_2 ∧ Aside0 (tail_Pieces.j0 kq l0 a1 x14_2 = some (r1, r2)) ∧ Aside0 (kq ≤ k) ∧ Aside0 (Below w.heap.size w wc))
  case first =>
    have H := HC3.out
    clear HC3
    by_cases c4 : a1 < 1
    · rw [if_pos c4] at H
      have c4b0 : decide (a1 < 1) = true := decide_eq_true c4
      clear c4
      (first | rw [c4b0] | (simp only [i64_w, i32_w]; rw [c4b0]) | skip)
      have H' := Aside0.mk H
      clear H
      go_wp2
      go_meet
      case rel => exact ⟨_, (true), (by first | rfl | (simp; done) | (simp [*]; done)), H', ⟨by first | omega | exact Nat.le_refl _⟩, ⟨by repeat (first | (with_reducible first | exact HB.out | apply below_alloc | apply pw_below_drewN | apply below_drew1) | exact HB.out)⟩⟩
    · rw [if_neg c4] at H
      have c4b0 : decide (a1 < 1) = false := decide_eq_false c4
      clear c4
      (first | rw [c4b0] | (simp only [i64_w, i32_w]; rw [c4b0]) | skip)
      have H' := Aside0.mk H
      clear H
      go_wp2
      go_meet
      case rel => exact ⟨_, (decide (a1 > 1048576)), (by first | rfl | (simp; done) | (simp [*]; done)), H', ⟨by first | omega | exact Nat.le_refl _⟩, ⟨by repeat (first | (with_reducible first | exact HB.out | apply below_alloc | apply pw_below_drewN | apply below_drew1) | exact HB.out)⟩⟩
  case rest =>
    clear HC3
    try clear p2
    try clear c4
    try clear c4b0
    obtain ⟨kq, x14_2, rfl, HA, HJ2, HB⟩ := hcut
    cases kq with
    | zero => exact absurd HA.out (by simp [tail_Pieces.j0])
    | succ kj2 =>
      have H := HA.out
      clear HA
      simp only [tail_Pieces.j0] at H
      by_cases c5 : x14_2 = true
      · subst c5
        have H1 : (some (([] : List (List Int)), 3)) = some (r1, r2) := by rw [if_pos rfl] at H; exact H
        clear H
        have H := H1
        clear H1
        simp only [Option.some.injEq, Prod.mk.injEq] at H
        obtain ⟨rfl, rfl⟩ := H
        go_wp2
        go_ret2
        exact ⟨_, by first | rfl | (simp [errW_none, errW_some] <;> rfl) | (simp [*, errW_none, errW_some] <;> rfl), by first | exact Kd.S_nil _ _ _ _ _ | exact Kd.N_nil _ _ _ _ _ | exact Kd.V_nil _ _ _ _ _ | exact Kd.Q_nil _ _ _ _ _ | exact Kd.R_nil _ _ _ _ _, by repeat (first | (with_reducible first | exact HB.out | apply below_alloc | apply pw_below_drewN | apply below_drew1) | exact HB.out)⟩
      · replace c5 := Bool.eq_false_iff.mpr c5
        subst c5
        have H1 : ((tail_Shortest.f kj2 l0).bind fun t129 => (if t129 = 0 then (some (([] : List (List Int)), 0)) else (if t129 ≤ a1 then (if 0 ≤ (wrap64 ((l0.length : Int) - t129)) then (if (wrap64 ((l0.length : Int) - t129)) ≤ (l0.length : Int) then ((slices_Clone_byte_byte.f kj2 (l0.drop ((wrap64 ((l0.length : Int) - t129)) : Int).toNat)).bind fun t134 => (if ([] : List (List Int)).length < 5864062014805 then (some ((([] : List (List Int)) ++ [t134]), 0)) else (none))) else (none)) else (none)) else (if a1 = 0 then (none) else (tail_Pieces.l0 kj2 l0 a1 ([] : List (List Int)) (wrap64 (Int.tdiv (wrap64 ((wrap64 ((l0.length : Int) + a1)) - 1)) a1)) 0))))) = some (r1, r2) := by rw [if_neg (show ¬ (false = true) by decide)] at H; exact H
        clear H
        have H := H1
        clear H1
        replace H := Option.bind_eq_some_iff.mp H
        obtain ⟨t129, A60, H⟩ := H
        replace H : (if t129 = 0 then (some (([] : List (List Int)), 0)) else (if t129 ≤ a1 then (if 0 ≤ (wrap64 ((l0.length : Int) - t129)) then (if (wrap64 ((l0.length : Int) - t129)) ≤ (l0.length : Int) then ((slices_Clone_byte_byte.f kj2 (l0.drop ((wrap64 ((l0.length : Int) - t129)) : Int).toNat)).bind fun t134 => (if ([] : List (List Int)).length < 5864062014805 then (some ((([] : List (List Int)) ++ [t134]), 0)) else (none))) else (none)) else (none)) else (if a1 = 0 then (none) else (tail_Pieces.l0 kj2 l0 a1 ([] : List (List Int)) (wrap64 (Int.tdiv (wrap64 ((wrap64 ((l0.length : Int) + a1)) - 1)) a1)) 0)))) = some (r1, r2) := H
        have A6 := Aside0.mk A60
        clear A60
        by_cases c7 : t129 = 0
        · rw [if_pos c7] at H
          have c7b0 : (t129 == 0) = true := beq_iff_eq.mpr c7
          have c7b1 : (t129 != 0) = false := bne_eq_false_iff_eq.mpr c7
          clear c7
          simp only [Option.some.injEq, Prod.mk.injEq] at H
          obtain ⟨rfl, rfl⟩ := H
          go_wp2_with (first | ((with_reducible refine gate_callee (f := 10) rfl ?_); refine goesL_ (some 16) rfl rfl Try.func10 (by kernel_rfl) rfl #[.slice A0 l0.length c0] rfl (by (try simp only [List.map_toArray, List.map_cons, List.map_nil]); first | done | rfl | (simp only [List.length_drop, List.length_take]; rfl)) ?_; (with_reducible refine (tail_Shortest.calls kj2 _ _ l0 t129 _ ?side1 ?side2 A6.out).mono ?_); (case side1 => repeat (first | exact (Kd.C_below HR0.out HB.out) | (with_reducible refine Kd.C_alloc ?_ _) | (with_reducible refine Kd.C_drewN ?_ _) | (with_reducible refine Kd.C_drew ?_))); (case side2 => exact HC0.out); rintro e w8 ⟨rfl, hb⟩; refine ⟨_, rfl, ?_⟩; have n0_ := Aside0.mk (below_step (by repeat (first | (with_reducible first | exact HB.out | apply below_alloc | apply pw_below_drewN | apply below_drew1) | exact HB.out)) hb); clear HB; have HB := n0_; clear n0_; (try clear hb); (try clear hb2); (try clear hk); (try clear hi)))
          go_ret2
          exact ⟨_, by first | rfl | (simp [errW_none, errW_some] <;> rfl) | (simp [*, errW_none, errW_some] <;> rfl), by first | exact Kd.S_nil _ _ _ _ _ | exact Kd.N_nil _ _ _ _ _ | exact Kd.V_nil _ _ _ _ _ | exact Kd.Q_nil _ _ _ _ _ | exact Kd.R_nil _ _ _ _ _, by repeat (first | (with_reducible first | exact HB.out | apply below_alloc | apply pw_below_drewN | apply below_drew1) | exact HB.out)⟩
        · rw [if_neg c7] at H
          have c7b0 : (t129 == 0) = false := beq_eq_false_iff_ne.mpr c7
          have c7b1 : (t129 != 0) = true := bne_iff_ne.mpr c7
          by_cases c9 : t129 ≤ a1
          · rw [if_pos c9] at H
            have c9b0 : decide (t129 ≤ a1) = true := decide_eq_true c9
            clear c9
            obtain ⟨ji10, hji10⟩ : ∃ j_ : Int, (wrap64 ((l0.length : Int) - t129)) = j_ := ⟨_, rfl⟩
            replace H : (if 0 ≤ (ji10) then (if (ji10) ≤ (l0.length : Int) then ((slices_Clone_byte_byte.f kj2 (l0.drop ((ji10) : Int).toNat)).bind fun t134 => (if ([] : List (List Int)).length < 5864062014805 then (some ((([] : List (List Int)) ++ [t134]), 0)) else (none))) else (none)) else (none)) = some (r1, r2) := by first | (rw [hji10] at H; exact H) | (simp only [hji10] at H ⊢; exact H)
            (try rw [hji10] at A6)
            have hji10w : (IntKind.i64.wrap ((l0.length : Int) - t129)) = ji10 := (i64_w _).trans hji10
            by_cases c11 : 0 ≤ (ji10)
            · rw [if_pos c11] at H
              have c11b0 := eq_true c11
              have c11b1 : decide (0 ≤ (ji10)) = true := decide_eq_true c11
              clear c11
              by_cases c12 : (ji10) ≤ (l0.length : Int)
              · rw [if_pos c12] at H
                have c12b0 := eq_true c12
                have c12b1 : decide ((ji10) ≤ (l0.length : Int)) = true := decide_eq_true c12
                clear c12
                obtain ⟨y130, hy130⟩ : ∃ y_ : List Int, y_ = (l0.drop ((ji10) : Int).toNat) := ⟨_, rfl⟩
                replace H : ((slices_Clone_byte_byte.f kj2 y130).bind fun t134 => (if ([] : List (List Int)).length < 5864062014805 then (some ((([] : List (List Int)) ++ [t134]), 0)) else (none))) = some (r1, r2) := by first | (rw [hy130]; with_reducible exact H) | (have H2_ := (Option.bind_some _ _).symm.trans H; rw [hy130]; with_reducible exact H2_) | (have H2_ := (Option.bind_some _ _).symm.trans H; with_reducible exact H2_) | with_reducible exact H | (rw [hy130]; exact H) | exact H
                have Ny130 := Aside0.mk hy130
                clear hy130
                replace H := Option.bind_eq_some_iff.mp H
                obtain ⟨t134, A130, H⟩ := H
                replace H : (if ([] : List (List Int)).length < 5864062014805 then (some ((([] : List (List Int)) ++ [t134]), 0)) else (none)) = some (r1, r2) := H
                have A13 := Aside0.mk A130
                clear A130
                by_cases c14 : ([] : List (List Int)).length < 5864062014805
                · rw [if_pos c14] at H
                  have LMc14 := Aside0.mk c14
                  clear c14
                  obtain ⟨y137, hy137⟩ : ∃ y_ : List (List Int), y_ = (([] : List (List Int)) ++ [t134]) := ⟨_, rfl⟩
                  replace H : (some (y137, 0)) = some (r1, r2) := by first | (rw [hy137]; with_reducible exact H) | (have H2_ := (Option.bind_some _ _).symm.trans H; rw [hy137]; with_reducible exact H2_) | (have H2_ := (Option.bind_some _ _).symm.trans H; with_reducible exact H2_) | with_reducible exact H | (rw [hy137]; exact H) | exact H
                  have Ny137 := Aside0.mk hy137
                  clear hy137
                  simp only [Option.some.injEq, Prod.mk.injEq] at H
                  obtain ⟨rfl, rfl⟩ := H
                  go_wp2_with (first | ((with_reducible refine gate_callee (f := 10) rfl ?_); refine goesL_ (some 16) rfl rfl Try.func10 (by kernel_rfl) rfl #[.slice A0 l0.length c0] rfl (by (try simp only [List.map_toArray, List.map_cons, List.map_nil]); first | done | rfl | (simp only [List.length_drop, List.length_take]; rfl)) ?_; (with_reducible refine (tail_Shortest.calls kj2 _ _ l0 t129 _ ?side1 ?side2 A6.out).mono ?_); (case side1 => repeat (first | exact (Kd.C_below HR0.out HB.out) | (with_reducible refine Kd.C_alloc ?_ _) | (with_reducible refine Kd.C_drewN ?_ _) | (with_reducible refine Kd.C_drew ?_))); (case side2 => exact HC0.out); rintro e w15 ⟨rfl, hb⟩; refine ⟨_, rfl, ?_⟩; have n0_ := Aside0.mk (below_step (by repeat (first | (with_reducible first | exact HB.out | apply below_alloc | apply pw_below_drewN | apply below_drew1) | exact HB.out)) hb); clear HB; have HB := n0_; clear n0_; (try clear hb); (try clear hb2); (try clear hk); (try clear hi); have q16 : ((ji10) : Int) ≤ ((l0.length : Int) : Int) := of_decide_eq_true (by first | (with_reducible assumption) | assumption); obtain ⟨i016, hi016, _, hsz16, _⟩ := info_parts info5; have hroom16 : l0.length ≤ c0 := HC0.out; have hC16 : Kd.C (Kd.int .u8) _ A0 l0.length l0 := HR0.out; have q016 : (0 : Int) ≤ ((ji10) : Int) := of_decide_eq_true (by first | (with_reducible assumption) | assumption); have hcut16 := cut_from (P := Try.prog) 22 5 .i64 Try.underlying22 hi016 1 hsz16 A0 l0.length c0 (ji10) q016 q16; have hr16 := Kd.C_drop (m := ((ji10) : Int).toNat) (c := c0) hC16 (by omega) hroom16; obtain ⟨A16, hA16⟩ : ∃ A1, A1 = (if c0 = ((ji10) : Int).toNat then A0 else (A0 : Option Addr).map (·.add (((ji10) : Int).toNat * 1))) := ⟨_, rfl⟩; obtain ⟨c16, hc16⟩ : ∃ c1, c1 = c0 - ((ji10) : Int).toNat := ⟨_, rfl⟩; have hy16 : y130.length = l0.length - ((ji10) : Int).toNat := (by rw [Ny130.out, List.length_drop] <;> omega); rw [show (l0).drop ((ji10) : Int).toNat = y130 from Ny130.out.symm] at hr16; replace hr16 : Kd.C (Kd.int .u8) _ A16 y130.length y130 := (by rw [hA16]; exact hr16); rw [← hy16, ← hA16, ← hc16] at hcut16; have HR133 := Aside0.mk hr16; have HC133 := Aside0.mk (show y130.length ≤ c16 from by rw [hy16, hc16]; exact Nat.sub_le_sub_right hroom16 _); clear hr16 hC16 hroom16 hi016 hsz16 hc16; have KY16 := Aside0.mk hy16; have KA16 := Aside0.mk hA16; clear hy16 hA16; replace q16 := eq_true q16) | ((with_reducible refine gate_callee (f := 16) rfl ?_); refine goesL_ (some 58) rfl rfl Try.func16 (by kernel_rfl) rfl #[.slice A16 y130.length c16] rfl (by (try simp only [List.map_toArray, List.map_cons, List.map_nil]); first | done | rfl | (simp only [List.length_drop, List.length_take]; rfl)) ?_; (with_reducible refine (slices_Clone_byte_byte.calls kj2 _ _ y130 t134 _ ?side1 ?side2 A13.out).mono ?_); (case side1 => repeat (first | exact (Kd.C_below HR133.out HB.out) | (with_reducible refine Kd.C_alloc ?_ _) | (with_reducible refine Kd.C_drewN ?_ _) | (with_reducible refine Kd.C_drew ?_))); (case side2 => exact HC133.out); rintro e w17 ⟨v135, rfl, ho0, hb⟩; refine ⟨_, rfl, ?_⟩; have n0_ := Aside0.mk (Kd.R_lower ho0 (below_size (by repeat (first | (with_reducible first | exact HB.out | apply below_alloc | apply pw_below_drewN | apply below_drew1) | exact HB.out)))); have n1_ := Aside0.mk (below_step (by repeat (first | (with_reducible first | exact HB.out | apply below_alloc | apply pw_below_drewN | apply below_drew1) | exact HB.out)) hb); clear HB; have HO136 := n0_; have HB := n1_; clear n0_ n1_; (try clear hb); (try clear hb2); (try clear hk); (try clear hi); (try clear ho0); obtain ⟨Ao19, co19, eo19⟩ := Kd.R_slice HO136.out; subst eo19) | ((with_reducible refine gate_builtin (b := .append) (xs := #[.tmp 51, .tmp 59]) rfl ?_); at_builtin; refine Kd.S_append (Kd.slice 5 (Kd.int .u8)) (w0 := w) w.heap.size rfl (.tmp 51) (.tmp 59) 23 22 (.slice none 0 0) 24 rfl Try.underlying23 info22 rfl (by decide) (by omega) (.slice none 0 0) ([] : List (List Int)) t134 [.slice Ao19 t134.length co19] (fun _ => True) (fun k_ => some k_ = (.slice Ao19 t134.length co19 : Value).ownBlock) rfl rfl ?aP (fun k_ hk_ => ((Kd.R_mono (ok' := fun k_ => ((fun _ => True)) k_ ∧ some k_ ≠ (.slice none 0 0 : Value).ownBlock) (HO136.out) (fun k_ hk => ⟨trivial, (by simp [Value.ownBlock])⟩))).1 k_ hk_.symm) ?aF ?aO ?aB ?aS ?aL ?_; (case aP => exact Kd.M_row (Kd.R_mono (Kd.R_tight rfl (Kd.R_mono (ok' := fun k_ => ((fun _ => True)) k_ ∧ some k_ ≠ (.slice none 0 0 : Value).ownBlock) (HO136.out) (fun k_ hk => ⟨trivial, (by simp [Value.ownBlock])⟩))) (fun _ h_ => h_))); (case aB => exact (by repeat (first | (with_reducible first | exact HB.out | apply below_alloc | apply pw_below_drewN | apply below_drew1) | exact HB.out))); (case aF => exact (fun _ _ => trivial)); (case aO => exact ((Kd.S_nil _ _ _ _ _))); (case aS => exact (below_size (by repeat (first | (with_reducible first | exact HB.out | apply below_alloc | apply pw_below_drewN | apply below_drew1) | exact HB.out)))); (case aL => have := LMc14.out; omega); intro v138 w18 ho hb hg hat; rw [← Ny137.out] at ho; have n0_ := Aside0.mk (hb); have n1_ := Aside0.mk (ho); clear HB; clear HO136; have HB := n0_; have HO139 := n1_; clear n0_ n1_; clear ho hb hg hat))
                  go_ret2
                  exact ⟨_, by first | rfl | (simp [errW_none, errW_some] <;> rfl) | (simp only [← hji10]; first | rfl | (simp [errW_none, errW_some] <;> rfl)) | (simp [*, errW_none, errW_some] <;> rfl), by (with_reducible repeat (first | apply Kd.S_alloc | apply Kd.S_drewN | apply Kd.S_drew)); exact HO139.out, by repeat (first | (with_reducible first | exact HB.out | apply below_alloc | apply pw_below_drewN | apply below_drew1) | exact HB.out)⟩
                · rw [if_neg c14] at H
                  exact absurd H (by simp)
              · rw [if_neg c12] at H
                exact absurd H (by simp)
            · rw [if_neg c11] at H
              exact absurd H (by simp)
          · rw [if_neg c9] at H
            have c9b0 : decide (t129 ≤ a1) = false := decide_eq_false c9
            clear c9
            by_cases c20 : a1 = 0
            · rw [if_pos c20] at H
              exact absurd H (by simp)
            · rw [if_neg c20] at H
              have c20b0 : (a1 == 0) = false := beq_eq_false_iff_ne.mpr c20
              have c20b1 : (a1 != 0) = true := bne_iff_ne.mpr c20
              have H' := Aside0.mk H
              clear H
              go_wp2_with (first | ((with_reducible refine gate_callee (f := 10) rfl ?_); refine goesL_ (some 16) rfl rfl Try.func10 (by kernel_rfl) rfl #[.slice A0 l0.length c0] rfl (by (try simp only [List.map_toArray, List.map_cons, List.map_nil]); first | done | rfl | (simp only [List.length_drop, List.length_take]; rfl)) ?_; (with_reducible refine (tail_Shortest.calls kj2 _ _ l0 t129 _ ?side1 ?side2 A6.out).mono ?_); (case side1 => repeat (first | exact (Kd.C_below HR0.out HB.out) | (with_reducible refine Kd.C_alloc ?_ _) | (with_reducible refine Kd.C_drewN ?_ _) | (with_reducible refine Kd.C_drew ?_))); (case side2 => exact HC0.out); rintro e w21 ⟨rfl, hb⟩; refine ⟨_, rfl, ?_⟩; have n0_ := Aside0.mk (below_step (by repeat (first | (with_reducible first | exact HB.out | apply below_alloc | apply pw_below_drewN | apply below_drew1) | exact HB.out)) hb); clear HB; have HB := n0_; clear n0_; (try clear hb); (try clear hb2); (try clear hk); (try clear hi)))
              go_loopg [6, 24] kj2 (fun kq v6 v24 w' => ∃ (x6_2 : List (List Int)) (x24_2 : Int), v24 = .int .i64 x24_2 ∧ Aside0 (tail_Pieces.l0 kq l0 a1 x6_2 (wrap64 (Int.tdiv (wrap64 ((wrap64 ((l0.length : Int) + a1)) - 1)) a1)) x24_2 = some (r1, r2)) ∧ Aside0 (kq ≤ kj2) ∧ Aside0 (Kd.S (Kd.slice 5 (Kd.int .u8)) 22 w' w.heap.size (fun _ => True) v6 x6_2) ∧ Aside0 (Below w.heap.size w w'))
              case atStart => exact ⟨(([] : List (List Int))), (0), (by first | rfl | (simp; done) | (simp [*]; done)), H', ⟨Nat.le_refl _⟩, ⟨by first | exact Kd.S_nil _ _ _ _ _ | exact Kd.N_nil _ _ _ _ _ | exact Kd.V_nil _ _ _ _ _ | exact Kd.Q_nil _ _ _ _ _ | exact Kd.R_nil _ _ _ _ _⟩, ⟨by repeat (first | (with_reducible first | exact HB.out | apply below_alloc | apply pw_below_drewN | apply below_drew1) | exact HB.out)⟩⟩
              case round =>
                clear H'
                try clear c1
                try clear q1
                try clear c2
                try clear p2
                try clear c4
                try clear c4b0
                try clear c5
                try clear p6
                try clear c7
                try clear c7b0
                try clear c7b1
                try clear c9
                try clear c9b0
                try clear c10
                try clear c11
                try clear c11b0
                try clear c11b1
                try clear c12
                try clear c12b0
                try clear c12b1
                try clear c14
                try clear c16
                try clear q16
                try clear c20
                try clear c20b0
                try clear c20b1
                try clear p2
                try clear q016
                try clear q16
                obtain ⟨x6_2, x24_2, rfl, HA, HK2, HO_6, HB⟩ := hrel
                cases gk with
                | zero => exact absurd HA.out (by simp [tail_Pieces.l0])
                | succ k2 =>
                  have H := HA.out
                  clear HA
                  simp only [tail_Pieces.l0] at H
                  by_cases c22 : x24_2 < (wrap64 (Int.tdiv (wrap64 ((wrap64 ((l0.length : Int) + a1)) - 1)) a1))
                  · rw [if_pos c22] at H
                    have c22b0 : decide (x24_2 < (wrap64 (Int.tdiv (wrap64 ((wrap64 ((l0.length : Int) + a1)) - 1)) a1))) = true := decide_eq_true c22
                    clear c22
                    obtain ⟨ji23, hji23⟩ : ∃ j_ : Int, (mn (l0.length : Int) (wrap64 ((wrap64 (x24_2 + 1)) * a1))) = j_ := ⟨_, rfl⟩
                    replace H : (if 0 ≤ (wrap64 (x24_2 * a1)) then (if (wrap64 (x24_2 * a1)) ≤ (ji23) then (if (ji23) ≤ (l0.length : Int) then ((slices_Clone_byte_byte.f k2 ((l0.take ((ji23) : Int).toNat).drop ((wrap64 (x24_2 * a1)) : Int).toNat)).bind fun t144 => (if x6_2.length < 5864062014805 then (tail_Pieces.l0 k2 l0 a1 (x6_2 ++ [t144]) (wrap64 (Int.tdiv (wrap64 ((wrap64 ((l0.length : Int) + a1)) - 1)) a1)) (wrap64 (x24_2 + 1))) else (none))) else (none)) else (none)) else (none)) = some (r1, r2) := by first | (rw [hji23] at H; exact H) | (simp only [hji23] at H ⊢; exact H)
                    have hji23_ : (if (wrap64 ((wrap64 (x24_2 + 1)) * a1)) < (l0.length : Int) then (wrap64 ((wrap64 (x24_2 + 1)) * a1)) else (l0.length : Int)) = ji23 := hji23
                    obtain ⟨ji24, hji24⟩ : ∃ j_ : Int, (wrap64 (x24_2 * a1)) = j_ := ⟨_, rfl⟩
                    replace H : (if 0 ≤ (ji24) then (if (ji24) ≤ (ji23) then (if (ji23) ≤ (l0.length : Int) then ((slices_Clone_byte_byte.f k2 ((l0.take ((ji23) : Int).toNat).drop ((ji24) : Int).toNat)).bind fun t144 => (if x6_2.length < 5864062014805 then (tail_Pieces.l0 k2 l0 a1 (x6_2 ++ [t144]) (wrap64 (Int.tdiv (wrap64 ((wrap64 ((l0.length : Int) + a1)) - 1)) a1)) (wrap64 (x24_2 + 1))) else (none))) else (none)) else (none)) else (none)) = some (r1, r2) := by first | (rw [hji24] at H; exact H) | (simp only [hji24] at H ⊢; exact H)
                    have hji24w : (IntKind.i64.wrap (x24_2 * a1)) = ji24 := (i64_w _).trans hji24
                    by_cases c25 : 0 ≤ (ji24)
                    · rw [if_pos c25] at H
                      have c25b0 := eq_true c25
                      have c25b1 : decide (0 ≤ (ji24)) = true := decide_eq_true c25
                      clear c25
                      by_cases c26 : (ji24) ≤ (ji23)
                      · rw [if_pos c26] at H
                        have c26b0 := eq_true c26
                        have c26b1 : decide ((ji24) ≤ (ji23)) = true := decide_eq_true c26
                        clear c26
                        by_cases c27 : (ji23) ≤ (l0.length : Int)
                        · rw [if_pos c27] at H
                          have c27b0 := eq_true c27
                          have c27b1 : decide ((ji23) ≤ (l0.length : Int)) = true := decide_eq_true c27
                          clear c27
                          obtain ⟨y140, hy140⟩ : ∃ y_ : List Int, y_ = ((l0.take ((ji23) : Int).toNat).drop ((ji24) : Int).toNat) := ⟨_, rfl⟩
                          replace H : ((slices_Clone_byte_byte.f k2 y140).bind fun t144 => (if x6_2.length < 5864062014805 then (tail_Pieces.l0 k2 l0 a1 (x6_2 ++ [t144]) (wrap64 (Int.tdiv (wrap64 ((wrap64 ((l0.length : Int) + a1)) - 1)) a1)) (wrap64 (x24_2 + 1))) else (none))) = some (r1, r2) := by first | (rw [hy140]; with_reducible exact H) | (have H2_ := (Option.bind_some _ _).symm.trans H; rw [hy140]; with_reducible exact H2_) | (have H2_ := (Option.bind_some _ _).symm.trans H; with_reducible exact H2_) | with_reducible exact H | (rw [hy140]; exact H) | exact H
                          have Ny140 := Aside0.mk hy140
                          clear hy140
                          replace H := Option.bind_eq_some_iff.mp H
                          obtain ⟨t144, A280, H⟩ := H
                          replace H : (if x6_2.length < 5864062014805 then (tail_Pieces.l0 k2 l0 a1 (x6_2 ++ [t144]) (wrap64 (Int.tdiv (wrap64 ((wrap64 ((l0.length : Int) + a1)) - 1)) a1)) (wrap64 (x24_2 + 1))) else (none)) = some (r1, r2) := H
                          have A28 := Aside0.mk A280
                          clear A280
                          by_cases c29 : x6_2.length < 5864062014805
                          · rw [if_pos c29] at H
                            have LMc29 := Aside0.mk c29
                            clear c29
                            obtain ⟨y147, hy147⟩ : ∃ y_ : List (List Int), y_ = (x6_2 ++ [t144]) := ⟨_, rfl⟩
                            replace H : (tail_Pieces.l0 k2 l0 a1 y147 (wrap64 (Int.tdiv (wrap64 ((wrap64 ((l0.length : Int) + a1)) - 1)) a1)) (wrap64 (x24_2 + 1))) = some (r1, r2) := by first | (rw [hy147]; with_reducible exact H) | (have H2_ := (Option.bind_some _ _).symm.trans H; rw [hy147]; with_reducible exact H2_) | (have H2_ := (Option.bind_some _ _).symm.trans H; with_reducible exact H2_) | with_reducible exact H | (rw [hy147]; exact H) | exact H
                            have Ny147 := Aside0.mk hy147
                            clear hy147
                            have H' := Aside0.mk H
                            clear H
                            have q30 : ((ji23) : Int) ≤ ((l0.length : Int) : Int) := of_decide_eq_true (by first | (with_reducible assumption) | assumption)
                            obtain ⟨i030, hi030, _, hsz30, _⟩ := info_parts info5
                            have hroom30 : l0.length ≤ c0 := HC0.out
                            have hC30 : Kd.C (Kd.int .u8) _ A0 l0.length l0 := HR0.out
                            have ql30 : ((ji24) : Int) ≤ ((ji23) : Int) := of_decide_eq_true (by first | (with_reducible assumption) | assumption)
                            have q030 : (0 : Int) ≤ ((ji24) : Int) := of_decide_eq_true (by first | (with_reducible assumption) | assumption)
                            have hcut30 := cut_mid (P := Try.prog) 22 5 .i64 .i64 Try.underlying22 hi030 1 hsz30 A0 l0.length c0 (ji24) (ji23) q030 ql30 q30 hroom30
                            have hr30 := Kd.C_mid (lo := ((ji24) : Int).toNat) (hi := ((ji23) : Int).toNat) (c := c0) hC30 (by omega) (by omega) hroom30
                            obtain ⟨A30, hA30⟩ : ∃ A1, A1 = (if c0 = ((ji24) : Int).toNat then A0 else (A0 : Option Addr).map (·.add (((ji24) : Int).toNat * 1))) := ⟨_, rfl⟩
                            obtain ⟨c30, hc30⟩ : ∃ c1, c1 = c0 - ((ji24) : Int).toNat := ⟨_, rfl⟩
                            have hy30 : y140.length = ((ji23) : Int).toNat - ((ji24) : Int).toNat := (by rw [Ny140.out, List.length_drop, List.length_take] <;> omega)
                            rw [show ((l0).take ((ji23) : Int).toNat).drop ((ji24) : Int).toNat = y140 from Ny140.out.symm] at hr30
                            replace hr30 : Kd.C (Kd.int .u8) _ A30 y140.length y140 := (by rw [hA30]; exact hr30)
                            rw [← hy30, ← hA30, ← hc30] at hcut30
                            have HR143 := Aside0.mk hr30
                            have HC143 := Aside0.mk (show y140.length ≤ c30 from by rw [hy30, hc30]; exact Nat.sub_le_sub_right (Nat.le_trans (by omega) hroom30) _)
                            clear hr30 hC30 hroom30 hi030 hsz30 hc30
                            have KY30 := Aside0.mk hy30
                            have KA30 := Aside0.mk hA30
                            clear hy30 hA30
                            replace q30 := eq_true q30
                            go_wp2_with (first | ((with_reducible refine gate_callee (f := 16) rfl ?_); refine goesL_ (some 40) rfl rfl Try.func16 (by kernel_rfl) rfl #[.slice A30 y140.length c30] rfl (by (try simp only [List.map_toArray, List.map_cons, List.map_nil]); first | done | rfl | (simp only [List.length_drop, List.length_take]; rfl)) ?_; (with_reducible refine (slices_Clone_byte_byte.calls k2 _ _ y140 t144 _ ?side1 ?side2 A28.out).mono ?_); (case side1 => repeat (first | exact (Kd.C_below HR143.out HB.out) | (with_reducible refine Kd.C_alloc ?_ _) | (with_reducible refine Kd.C_drewN ?_ _) | (with_reducible refine Kd.C_drew ?_))); (case side2 => exact HC143.out); rintro e w31 ⟨v145, rfl, ho0, hb⟩; refine ⟨_, rfl, ?_⟩; have n0_ := Aside0.mk (Kd.S_elder' (by (with_reducible repeat (first | apply Kd.S_alloc | apply Kd.S_drewN | apply Kd.S_drew)); exact HO_6.out) (Kd.R_base ho0) hb); have n1_ := Aside0.mk (Kd.R_lower ho0 (below_size (by repeat (first | (with_reducible first | exact HB.out | apply below_alloc | apply pw_below_drewN | apply below_drew1) | exact HB.out)))); have n2_ := Aside0.mk (below_step (by repeat (first | (with_reducible first | exact HB.out | apply below_alloc | apply pw_below_drewN | apply below_drew1) | exact HB.out)) hb); clear HO_6; clear HB; have HO_6 := n0_; have HO146 := n1_; have HB := n2_; clear n0_ n1_ n2_; (try clear hb); (try clear hb2); (try clear hk); (try clear hi); (try clear ho0); obtain ⟨Ao33, co33, eo33⟩ := Kd.R_slice HO146.out; subst eo33) | ((with_reducible refine gate_builtin (b := .append) (xs := #[.tmp 27, .tmp 41]) rfl ?_); at_builtin; refine Kd.S_append (Kd.slice 5 (Kd.int .u8)) (w0 := w) w.heap.size rfl (.tmp 27) (.tmp 41) 23 22 (.slice none 0 0) 24 rfl Try.underlying23 info22 rfl (by decide) (by omega) u6 x6_2 t144 [.slice Ao33 t144.length co33] (fun _ => True) (fun k_ => some k_ = (.slice Ao33 t144.length co33 : Value).ownBlock) rfl rfl ?aP (fun k_ hk_ => ((Kd.R_mono (ok' := fun k_ => ((fun _ => True)) k_ ∧ some k_ ≠ (u6 : Value).ownBlock) (Kd.R_apart' (HO146.out) (Kd.S_typed HO_6.out) (by decide)) (fun k_ hk => ⟨trivial, hk.2⟩))).1 k_ hk_.symm) ?aF ?aO ?aB ?aS ?aL ?_; (case aP => exact Kd.M_row (Kd.R_mono (Kd.R_tight rfl (Kd.R_mono (ok' := fun k_ => ((fun _ => True)) k_ ∧ some k_ ≠ (u6 : Value).ownBlock) (Kd.R_apart' (HO146.out) (Kd.S_typed HO_6.out) (by decide)) (fun k_ hk => ⟨trivial, hk.2⟩))) (fun _ h_ => h_))); (case aB => exact (by repeat (first | (with_reducible first | exact HB.out | apply below_alloc | apply pw_below_drewN | apply below_drew1) | exact HB.out))); (case aF => exact (fun _ _ => trivial)); (case aO => exact (by (with_reducible repeat (first | apply Kd.S_alloc | apply Kd.S_drewN | apply Kd.S_drew)); exact Kd.S_mono HO_6.out (fun k_ hk => ⟨trivial, fun e_ => hk.2 e_⟩))); (case aS => exact (below_size (by repeat (first | (with_reducible first | exact HB.out | apply below_alloc | apply pw_below_drewN | apply below_drew1) | exact HB.out)))); (case aL => have := LMc29.out; omega); intro v148 w32 ho hb hg hat; rw [← Ny147.out] at ho; have n0_ := Aside0.mk (hb); have n1_ := Aside0.mk (ho); clear HB; clear HO_6; clear HO146; have HB := n0_; have HO149 := n1_; clear n0_ n1_; clear ho hb hg hat))
                            go_roundg k2
                            case measure => have := HJ2.out; have := HK2.out; omega
                            case rel => exact ⟨(y147), (wrap64 (x24_2 + 1)), (by first | rfl | (simp; done) | (simp [*]; done)), H', ⟨by have := HJ2.out; have := HK2.out; omega⟩, ⟨by (with_reducible repeat (first | apply Kd.S_alloc | apply Kd.S_drewN | apply Kd.S_drew)); exact HO149.out⟩, ⟨by repeat (first | (with_reducible first | exact HB.out | apply below_alloc | apply pw_below_drewN | apply below_drew1) | exact HB.out)⟩⟩
                          · rw [if_neg c29] at H
                            exact absurd H (by simp)
                        · rw [if_neg c27] at H
                          exact absurd H (by simp)
                      · rw [if_neg c26] at H
                        exact absurd H (by simp)
                    · rw [if_neg c25] at H
                      exact absurd H (by simp)
                  · rw [if_neg c22] at H
                    have c22b0 : decide (x24_2 < (wrap64 (Int.tdiv (wrap64 ((wrap64 ((l0.length : Int) + a1)) - 1)) a1))) = false := decide_eq_false c22
                    clear c22
                    simp only [Option.some.injEq, Prod.mk.injEq] at H
                    obtain ⟨rfl, rfl⟩ := H
                    go_wp2
                    go_ret2
                    exact ⟨_, by first | rfl | (simp [errW_none, errW_some] <;> rfl) | (simp [*, errW_none, errW_some] <;> rfl), by (with_reducible repeat (first | apply Kd.S_alloc | apply Kd.S_drewN | apply Kd.S_drew)); exact HO_6.out, by repeat (first | (with_reducible first | exact HB.out | apply below_alloc | apply pw_below_drewN | apply below_drew1) | exact HB.out)⟩

end Go.Proofs.Ytdeoingjkomdcaa.QA
