-- Written for this claim by a program of this session's, out of Lean's own print of the program; Lean checks it.
import Derived.Test.YtdeoingjkomdcaaQAx0
import Derived.Test.YtdeoingjkomdcaaQAx4
import Derived.Test.YtdeoingjkomdcaaQAx9
import Derived.Test.YtdeoingjkomdcaaGAlive
namespace Go.Proofs.Ytdeoingjkomdcaa.QA
open Go.RowKit Go.Proofs.YtdeoingjkomdcaaW.PrintWords Go.Proofs.YtdeoingjkomdcaaW.PrintLast Go.Proofs.YtdeoingjkomdcaaW.PrintMore
attribute [local go_sem] max2_int min2_int max_two min_two max_three min_three max_four min_four   -- for this text's walks alone
set_option linter.unusedVariables false
set_option linter.unusedSimpArgs false

/-! ### cuecardlaw09_TailEnds: function 4 -/
mutual
def cuecardlaw09_TailEnds.j0 : Nat → List Int → List Int → Int → List (List Int) → Bool → Option (Bool)
  | 0, _, _, _, _, _ => none
  | k + 1, x0, x1, x7, x8, x48 => if x48 = true then (some false) else (cuecardlaw09_TailEnds.l0 k x0 x1 x7 x8 x8 (x8.length : Int) 0)
def cuecardlaw09_TailEnds.l0 : Nat → List Int → List Int → Int → List (List Int) → List (List Int) → Int → Int → Option (Bool)
  | 0, _, _, _, _, _, _, _ => none
  | k + 1, x0, x1, x7, x8, x49, x50, x51 => if x51 < x50 then (if 0 ≤ x51 then (if x51 < (x49.length : Int) then (if ((rd_L2 x49 x51).length : Int) = 0 then (some false) else (if ((rd_L2 x49 x51).length : Int) > x7 then (some false) else (cuecardlaw09_TailEnds.l0 k x0 x1 x7 x8 x49 x50 (wrap64 (x51 + 1))))) else (none)) else (none)) else ((some (([] : List Int) : List Int)).bind fun y218 => (if y218.length + x0.length < 140737488355328 then ((some (y218 ++ x0 : List Int)).bind fun y221 => (if y221.length + x1.length < 140737488355328 then ((some (y221 ++ x1 : List Int)).bind fun y224 => ((cuecardref09_Factors.f k y224 x8).bind fun bt227 => (cuecardlaw09_TailEnds.l1 k x0 x8 y224 bt227.1 bt227.2 (x0.length : Int) 0))) else (none))) else (none)))
def cuecardlaw09_TailEnds.l1 : Nat → List Int → List (List Int) → List Int → Int → Bool → Int → Int → Option (Bool)
  | 0, _, _, _, _, _, _, _ => none
  | k + 1, x0, x8, x12, x13, x14, x77, x78 => if x78 < x77 then (if 0 ≤ x78 then (if x78 ≤ (x12.length : Int) then ((cuecardref09_Factors.f k (x12.take (x78 : Int).toNat) x8).bind fun bt233 => (if bt233.2 = true then (if (x8.length : Int) > 0 then (some false) else (cuecardlaw09_TailEnds.l1 k x0 x8 x12 x13 x14 x77 (wrap64 (x78 + 1)))) else (cuecardlaw09_TailEnds.l1 k x0 x8 x12 x13 x14 x77 (wrap64 (x78 + 1))))) else (none)) else (none)) else ((cuecardlaw09_alive.f k).bind fun t235 => (if t235 = true then (if x14 = true then (some (x13 == (x0.length : Int))) else (some false)) else (some false)))
end
def cuecardlaw09_TailEnds.f (k : Nat) (l0 : List Int) (l1 : List Int) (a2 : Int) : Option (Bool) := if 0 ≤ (mn (l0.length : Int) 150) then (if (mn (l0.length : Int) 150) ≤ (l0.length : Int) then ((some (l0.take ((mn (l0.length : Int) 150) : Int).toNat : List Int)).bind fun y205 => (if 0 ≤ (mn (l1.length : Int) 150) then (if (mn (l1.length : Int) 150) ≤ (l1.length : Int) then ((some (l1.take ((mn (l1.length : Int) 150) : Int).toNat : List Int)).bind fun y209 => ((tail_Pieces.f k y205 (1 + ((mx 0 a2) % 40))).bind fun bt213 => (if bt213.2 = 0 then (cuecardlaw09_TailEnds.j0 k y205 y209 (1 + ((mx 0 a2) % 40)) bt213.1 (((bt213.1.length : Int) == 0) != ((y205.length : Int) == 0))) else (cuecardlaw09_TailEnds.j0 k y205 y209 (1 + ((mx 0 a2) % 40)) bt213.1 true)))) else (none)) else (none))) else (none)) else (none)
theorem cuecardlaw09_TailEnds.mono_l : ∀ k, (∀ y0 y1 y2 y3 y4, LeO (cuecardlaw09_TailEnds.j0 k y0 y1 y2 y3 y4) (cuecardlaw09_TailEnds.j0 (k + 1) y0 y1 y2 y3 y4)) ∧ (∀ y0 y1 y2 y3 y4 y5 y6, LeO (cuecardlaw09_TailEnds.l0 k y0 y1 y2 y3 y4 y5 y6) (cuecardlaw09_TailEnds.l0 (k + 1) y0 y1 y2 y3 y4 y5 y6)) ∧ (∀ y0 y1 y2 y3 y4 y5 y6, LeO (cuecardlaw09_TailEnds.l1 k y0 y1 y2 y3 y4 y5 y6) (cuecardlaw09_TailEnds.l1 (k + 1) y0 y1 y2 y3 y4 y5 y6))
  | 0 => ⟨fun _ _ _ _ _ r h => by simp [cuecardlaw09_TailEnds.j0] at h, fun _ _ _ _ _ _ _ r h => by simp [cuecardlaw09_TailEnds.l0] at h, fun _ _ _ _ _ _ _ r h => by simp [cuecardlaw09_TailEnds.l1] at h⟩
  | k + 1 => by
    obtain ⟨ih0, ih1, ih2⟩ := cuecardlaw09_TailEnds.mono_l k
    refine ⟨?_, ?_, ?_⟩
    · intro y0 y1 y2 y3 y4
      unfold cuecardlaw09_TailEnds.j0
      repeat' first
      | (with_reducible exact ih0 _ _ _ _ _)
      | (with_reducible exact ih1 _ _ _ _ _ _ _)
      | (with_reducible exact ih2 _ _ _ _ _ _ _)
      | (with_reducible exact cuecardlaw09_alive.mono _)
      | (with_reducible exact cuecardref09_Factors.mono _ _ _)
      | (with_reducible exact tail_Pieces.mono _ _ _)
      | (with_reducible exact LeO.refl _)
      | (with_reducible exact LeO.none _)
      | (with_reducible refine LeO.ite ?_ ?_)
      | (with_reducible refine LeO.bind ?_ (fun _ => ?_))
      | exact ih0 _ _ _ _ _
      | exact ih1 _ _ _ _ _ _ _
      | exact ih2 _ _ _ _ _ _ _
      | exact cuecardlaw09_alive.mono _
      | exact cuecardref09_Factors.mono _ _ _
      | exact tail_Pieces.mono _ _ _
      | exact LeO.none _
      | refine LeO.ite ?_ ?_
      | refine LeO.bind ?_ (fun _ => ?_)
    · intro y0 y1 y2 y3 y4 y5 y6
      unfold cuecardlaw09_TailEnds.l0
      repeat' first
      | (with_reducible exact ih0 _ _ _ _ _)
      | (with_reducible exact ih1 _ _ _ _ _ _ _)
      | (with_reducible exact ih2 _ _ _ _ _ _ _)
      | (with_reducible exact cuecardlaw09_alive.mono _)
      | (with_reducible exact cuecardref09_Factors.mono _ _ _)
      | (with_reducible exact tail_Pieces.mono _ _ _)
      | (with_reducible exact LeO.refl _)
      | (with_reducible exact LeO.none _)
      | (with_reducible refine LeO.ite ?_ ?_)
      | (with_reducible refine LeO.bind ?_ (fun _ => ?_))
      | exact ih0 _ _ _ _ _
      | exact ih1 _ _ _ _ _ _ _
      | exact ih2 _ _ _ _ _ _ _
      | exact cuecardlaw09_alive.mono _
      | exact cuecardref09_Factors.mono _ _ _
      | exact tail_Pieces.mono _ _ _
      | exact LeO.none _
      | refine LeO.ite ?_ ?_
      | refine LeO.bind ?_ (fun _ => ?_)
    · intro y0 y1 y2 y3 y4 y5 y6
      unfold cuecardlaw09_TailEnds.l1
      repeat' first
      | (with_reducible exact ih0 _ _ _ _ _)
      | (with_reducible exact ih1 _ _ _ _ _ _ _)
      | (with_reducible exact ih2 _ _ _ _ _ _ _)
      | (with_reducible exact cuecardlaw09_alive.mono _)
      | (with_reducible exact cuecardref09_Factors.mono _ _ _)
      | (with_reducible exact tail_Pieces.mono _ _ _)
      | (with_reducible exact LeO.refl _)
      | (with_reducible exact LeO.none _)
      | (with_reducible refine LeO.ite ?_ ?_)
      | (with_reducible refine LeO.bind ?_ (fun _ => ?_))
      | exact ih0 _ _ _ _ _
      | exact ih1 _ _ _ _ _ _ _
      | exact ih2 _ _ _ _ _ _ _
      | exact cuecardlaw09_alive.mono _
      | exact cuecardref09_Factors.mono _ _ _
      | exact tail_Pieces.mono _ _ _
      | exact LeO.none _
      | refine LeO.ite ?_ ?_
      | refine LeO.bind ?_ (fun _ => ?_)
theorem cuecardlaw09_TailEnds.mono : ∀ a0 a1 a2 k, LeO (cuecardlaw09_TailEnds.f k a0 a1 a2) (cuecardlaw09_TailEnds.f (k + 1) a0 a1 a2) := by
  intro a0 a1 a2 k
  obtain ⟨ih0, ih1, ih2⟩ := cuecardlaw09_TailEnds.mono_l k
  unfold cuecardlaw09_TailEnds.f
  repeat' first
      | (with_reducible exact ih0 _ _ _ _ _)
      | (with_reducible exact ih1 _ _ _ _ _ _ _)
      | (with_reducible exact ih2 _ _ _ _ _ _ _)
      | (with_reducible exact cuecardlaw09_alive.mono _)
      | (with_reducible exact cuecardref09_Factors.mono _ _ _)
      | (with_reducible exact tail_Pieces.mono _ _ _)
      | (with_reducible exact LeO.refl _)
      | (with_reducible exact LeO.none _)
      | (with_reducible refine LeO.ite ?_ ?_)
      | (with_reducible refine LeO.bind ?_ (fun _ => ?_))
      | exact ih0 _ _ _ _ _
      | exact ih1 _ _ _ _ _ _ _
      | exact ih2 _ _ _ _ _ _ _
      | exact cuecardlaw09_alive.mono _
      | exact cuecardref09_Factors.mono _ _ _
      | exact tail_Pieces.mono _ _ _
      | exact LeO.none _
      | refine LeO.ite ?_ ?_
      | refine LeO.bind ?_ (fun _ => ?_)
set_option maxHeartbeats 8000000 in
set_option maxRecDepth 100000 in
theorem cuecardlaw09_TailEnds.calls (k : Nat) (A0 : Option Addr) (c0 : Nat) (l0 : List Int) (A1 : Option Addr) (c1 : Nat) (l1 : List Int) (a2 : Int) (r : Bool) (w : World) (hr0 : Kd.C (Kd.int .u8) w A0 l0.length l0) (hc0 : l0.length ≤ c0) (hr1 : Kd.C (Kd.int .u8) w A1 l1.length l1) (hc1 : l1.length ≤ c1) (h : cuecardlaw09_TailEnds.f k l0 l1 a2 = some r) :
    Calls Try.prog 4 #[.slice A0 l0.length c0, .slice A1 l1.length c1, .int .i64 a2] w fun e w' => e = .returned (.bool r) ∧ Below w.heap.size w w' := by
  have HR0 := Aside0.mk hr0
  have HC0 := Aside0.mk hc0
  clear hr0 hc0
  have HR1 := Aside0.mk hr1
  have HC1 := Aside0.mk hc1
  clear hr1 hc1
  have HB := Aside0.mk (Below.refl w.heap.size w)
  have H : (if 0 ≤ (mn (l0.length : Int) 150) then (if (mn (l0.length : Int) 150) ≤ (l0.length : Int) then ((some (l0.take ((mn (l0.length : Int) 150) : Int).toNat : List Int)).bind fun y205 => (if 0 ≤ (mn (l1.length : Int) 150) then (if (mn (l1.length : Int) 150) ≤ (l1.length : Int) then ((some (l1.take ((mn (l1.length : Int) 150) : Int).toNat : List Int)).bind fun y209 => ((tail_Pieces.f k y205 (1 + ((mx 0 a2) % 40))).bind fun bt213 => (if bt213.2 = 0 then (cuecardlaw09_TailEnds.j0 k y205 y209 (1 + ((mx 0 a2) % 40)) bt213.1 (((bt213.1.length : Int) == 0) != ((y205.length : Int) == 0))) else (cuecardlaw09_TailEnds.j0 k y205 y209 (1 + ((mx 0 a2) % 40)) bt213.1 true)))) else (none)) else (none))) else (none)) else (none)) = some r := h
  clear h
  obtain ⟨ji4, hji4⟩ : ∃ j_ : Int, (mn (l0.length : Int) 150) = j_ := ⟨_, rfl⟩
  replace H : (if 0 ≤ (ji4) then (if (ji4) ≤ (l0.length : Int) then ((some (l0.take ((ji4) : Int).toNat : List Int)).bind fun y205 => (if 0 ≤ (mn (l1.length : Int) 150) then (if (mn (l1.length : Int) 150) ≤ (l1.length : Int) then ((some (l1.take ((mn (l1.length : Int) 150) : Int).toNat : List Int)).bind fun y209 => ((tail_Pieces.f k y205 (1 + ((mx 0 a2) % 40))).bind fun bt213 => (if bt213.2 = 0 then (cuecardlaw09_TailEnds.j0 k y205 y209 (1 + ((mx 0 a2) % 40)) bt213.1 (((bt213.1.length : Int) == 0) != ((y205.length : Int) == 0))) else (cuecardlaw09_TailEnds.j0 k y205 y209 (1 + ((mx 0 a2) % 40)) bt213.1 true)))) else (none)) else (none))) else (none)) else (none)) = some r := by first | (rw [hji4] at H; exact H) | (simp only [hji4] at H ⊢; exact H)
  (try (have hji4h : ji4 ≤ 150 := by (rw [← hji4]; unfold mn; (repeat' split) <;> omega)))
  (try (have hji4g : ji4 ≤ 64 := by omega))
  (try (have hji4l : 0 ≤ ji4 := by (rw [← hji4]; unfold mn; (repeat' split) <;> omega)))
  (try (have hji4m : 0 ≤ ji4 := by omega))
  have hji4_ : (if 150 < (l0.length : Int) then 150 else (l0.length : Int)) = ji4 := hji4
  by_cases c5 : 0 ≤ (ji4)
  · rw [if_pos c5] at H
    have c5b0 := eq_true c5
    have c5b1 : decide (0 ≤ (ji4)) = true := decide_eq_true c5
    clear c5
    by_cases c6 : (ji4) ≤ (l0.length : Int)
    · rw [if_pos c6] at H
      have c6b0 := eq_true c6
      have c6b1 : decide ((ji4) ≤ (l0.length : Int)) = true := decide_eq_true c6
      clear c6
      obtain ⟨y205, hy205⟩ : ∃ y_ : List Int, y_ = (l0.take ((ji4) : Int).toNat) := ⟨_, rfl⟩
      replace H : (if 0 ≤ (mn (l1.length : Int) 150) then (if (mn (l1.length : Int) 150) ≤ (l1.length : Int) then ((some (l1.take ((mn (l1.length : Int) 150) : Int).toNat : List Int)).bind fun y209 => ((tail_Pieces.f k y205 (1 + ((mx 0 a2) % 40))).bind fun bt213 => (if bt213.2 = 0 then (cuecardlaw09_TailEnds.j0 k y205 y209 (1 + ((mx 0 a2) % 40)) bt213.1 (((bt213.1.length : Int) == 0) != ((y205.length : Int) == 0))) else (cuecardlaw09_TailEnds.j0 k y205 y209 (1 + ((mx 0 a2) % 40)) bt213.1 true)))) else (none)) else (none)) = some r := by first | (rw [hy205]; with_reducible exact H) | (have H2_ := (Option.bind_some _ _).symm.trans H; rw [hy205]; with_reducible exact H2_) | (have H2_ := (Option.bind_some _ _).symm.trans H; with_reducible exact H2_) | with_reducible exact H | (rw [hy205]; exact H) | exact H
      have Ny205 := Aside0.mk hy205
      clear hy205
      obtain ⟨ji7, hji7⟩ : ∃ j_ : Int, (mn (l1.length : Int) 150) = j_ := ⟨_, rfl⟩
      replace H : (if 0 ≤ (ji7) then (if (ji7) ≤ (l1.length : Int) then ((some (l1.take ((ji7) : Int).toNat : List Int)).bind fun y209 => ((tail_Pieces.f k y205 (1 + ((mx 0 a2) % 40))).bind fun bt213 => (if bt213.2 = 0 then (cuecardlaw09_TailEnds.j0 k y205 y209 (1 + ((mx 0 a2) % 40)) bt213.1 (((bt213.1.length : Int) == 0) != ((y205.length : Int) == 0))) else (cuecardlaw09_TailEnds.j0 k y205 y209 (1 + ((mx 0 a2) % 40)) bt213.1 true)))) else (none)) else (none)) = some r := by first | (rw [hji7] at H; exact H) | (simp only [hji7] at H ⊢; exact H)
      (try (have hji7h : ji7 ≤ 150 := by (rw [← hji7]; unfold mn; (repeat' split) <;> omega)))
      (try (have hji7g : ji7 ≤ 64 := by omega))
      (try (have hji7l : 0 ≤ ji7 := by (rw [← hji7]; unfold mn; (repeat' split) <;> omega)))
      (try (have hji7m : 0 ≤ ji7 := by omega))
      have hji7_ : (if 150 < (l1.length : Int) then 150 else (l1.length : Int)) = ji7 := hji7
      by_cases c8 : 0 ≤ (ji7)
      · rw [if_pos c8] at H
        have c8b0 := eq_true c8
        have c8b1 : decide (0 ≤ (ji7)) = true := decide_eq_true c8
        clear c8
        by_cases c9 : (ji7) ≤ (l1.length : Int)
        · rw [if_pos c9] at H
          have c9b0 := eq_true c9
          have c9b1 : decide ((ji7) ≤ (l1.length : Int)) = true := decide_eq_true c9
          clear c9
          obtain ⟨y209, hy209⟩ : ∃ y_ : List Int, y_ = (l1.take ((ji7) : Int).toNat) := ⟨_, rfl⟩
          replace H : ((tail_Pieces.f k y205 (1 + ((mx 0 a2) % 40))).bind fun bt213 => (if bt213.2 = 0 then (cuecardlaw09_TailEnds.j0 k y205 y209 (1 + ((mx 0 a2) % 40)) bt213.1 (((bt213.1.length : Int) == 0) != ((y205.length : Int) == 0))) else (cuecardlaw09_TailEnds.j0 k y205 y209 (1 + ((mx 0 a2) % 40)) bt213.1 true))) = some r := by first | (rw [hy209]; with_reducible exact H) | (have H2_ := (Option.bind_some _ _).symm.trans H; rw [hy209]; with_reducible exact H2_) | (have H2_ := (Option.bind_some _ _).symm.trans H; with_reducible exact H2_) | with_reducible exact H | (rw [hy209]; exact H) | exact H
          have Ny209 := Aside0.mk hy209
          clear hy209
          obtain ⟨ji10, hji10⟩ : ∃ j_ : Int, (mx 0 a2) = j_ := ⟨_, rfl⟩
          replace H : ((tail_Pieces.f k y205 (1 + ((ji10) % 40))).bind fun bt213 => (if bt213.2 = 0 then (cuecardlaw09_TailEnds.j0 k y205 y209 (1 + ((ji10) % 40)) bt213.1 (((bt213.1.length : Int) == 0) != ((y205.length : Int) == 0))) else (cuecardlaw09_TailEnds.j0 k y205 y209 (1 + ((ji10) % 40)) bt213.1 true))) = some r := by first | (rw [hji10] at H; exact H) | (simp only [hji10] at H ⊢; exact H)
          (try (have hji10l : 0 ≤ ji10 := by (rw [← hji10]; unfold mx; (repeat' split) <;> omega)))
          (try (have hji10m : 0 ≤ ji10 := by omega))
          have hji10_ : (if 0 < a2 then a2 else 0) = ji10 := hji10
          replace H := Option.bind_eq_some_iff.mp H
          obtain ⟨⟨t213, t214⟩, A110, H⟩ := H
          replace H : (if t214 = 0 then (cuecardlaw09_TailEnds.j0 k y205 y209 (1 + ((ji10) % 40)) t213 (((t213.length : Int) == 0) != ((y205.length : Int) == 0))) else (cuecardlaw09_TailEnds.j0 k y205 y209 (1 + ((ji10) % 40)) t213 true)) = some r := H
          have A11 := Aside0.mk A110
          clear A110
          have HC12 := Aside0.mk H
          clear H
          have q13 : ((ji4) : Int) ≤ ((l0.length : Int) : Int) := of_decide_eq_true (by first | (with_reducible assumption) | assumption)
          obtain ⟨i013, hi013, _, hsz13, _⟩ := info_parts info5
          have hroom13 : l0.length ≤ c0 := HC0.out
          have hC13 : Kd.C (Kd.int .u8) _ A0 l0.length l0 := HR0.out
          have hcut13 := cut_to (P := Try.prog) 22 5 .i64 Try.underlying22 hi013 A0 l0.length c0 (ji4) (of_decide_eq_true (by first | (with_reducible assumption) | assumption)) q13 hroom13
          have hr13 := Kd.C_take (m := ((ji4) : Int).toNat) hC13 (by omega)
          have hy13 : y205.length = ((ji4) : Int).toNat := (by rw [Ny205.out, List.length_take]; omega)
          rw [← Ny205.out] at hr13
          rw [← hy13] at hcut13
          have HR208 := Aside0.mk hr13
          have HC208 := Aside0.mk (show y205.length ≤ c0 from by omega)
          clear hr13 hC13 hroom13 hi013 hsz13
          have KY13 := Aside0.mk hy13
          clear hy13
          replace q13 := eq_true q13
          have q14 : ((ji7) : Int) ≤ ((l1.length : Int) : Int) := of_decide_eq_true (by first | (with_reducible assumption) | assumption)
          obtain ⟨i014, hi014, _, hsz14, _⟩ := info_parts info5
          have hroom14 : l1.length ≤ c1 := HC1.out
          have hC14 : Kd.C (Kd.int .u8) _ A1 l1.length l1 := HR1.out
          have hcut14 := cut_to (P := Try.prog) 22 5 .i64 Try.underlying22 hi014 A1 l1.length c1 (ji7) (of_decide_eq_true (by first | (with_reducible assumption) | assumption)) q14 hroom14
          have hr14 := Kd.C_take (m := ((ji7) : Int).toNat) hC14 (by omega)
          have hy14 : y209.length = ((ji7) : Int).toNat := (by rw [Ny209.out, List.length_take]; omega)
          rw [← Ny209.out] at hr14
          rw [← hy14] at hcut14
          have HR212 := Aside0.mk hr14
          have HC212 := Aside0.mk (show y209.length ≤ c1 from by omega)
          clear hr14 hC14 hroom14 hi014 hsz14
          have KY14 := Aside0.mk hy14
          clear hy14
          replace q14 := eq_true q14
          go_enter Try.func4, Try.ntmps4
          go_upto_region 4 with (first | (go_at_call 9; (with_reducible refine (tail_Pieces.calls k _ _ y205 (1 + ((ji10) % 40)) t213 t214 _ ?side1 ?side2 A11.out).mono ?_); (case side1 => repeat (first | exact HR208.out | (with_reducible refine Kd.C_alloc ?_ _) | (with_reducible refine Kd.C_drewN ?_ _) | (with_reducible refine Kd.C_drew ?_))); (case side2 => exact HC208.out); rintro e w15 ⟨v215, rfl, ho0, hb⟩; have n0_ := Aside0.mk (Kd.S_lower ho0 (below_size (by repeat (first | (with_reducible first | exact HB.out | apply below_alloc | apply pw_below_drewN | apply below_drew1) | exact HB.out)))); have n1_ := Aside0.mk (below_step (by repeat (first | (with_reducible first | exact HB.out | apply below_alloc | apply pw_below_drewN | apply below_drew1) | exact HB.out)) hb); clear HB; have HO216 := n0_; have HB := n1_; clear n0_ n1_; (try clear hb); (try clear hb2); (try clear hk); (try clear hi); (try clear ho0)))
          repeat (go_quiet (first | (go_at_call 9; (with_reducible refine (tail_Pieces.calls k _ _ y205 (1 + ((ji10) % 40)) t213 t214 _ ?side1 ?side2 A11.out).mono ?_); (case side1 => repeat (first | exact HR208.out | (with_reducible refine Kd.C_alloc ?_ _) | (with_reducible refine Kd.C_drewN ?_ _) | (with_reducible refine Kd.C_drew ?_))); (case side2 => exact HC208.out); rintro e w15 ⟨v215, rfl, ho0, hb⟩; have n0_ := Aside0.mk (Kd.S_lower ho0 (below_size (by repeat (first | (with_reducible first | exact HB.out | apply below_alloc | apply pw_below_drewN | apply below_drew1) | exact HB.out)))); have n1_ := Aside0.mk (below_step (by repeat (first | (with_reducible first | exact HB.out | apply below_alloc | apply pw_below_drewN | apply below_drew1) | exact HB.out)) hb); clear HB; have HO216 := n0_; have HB := n1_; clear n0_ n1_; (try clear hb); (try clear hb2); (try clear hk); (try clear hi); (try clear ho0))); go_upto_region 4 with (first | (go_at_call 9; (with_reducible refine (tail_Pieces.calls k _ _ y205 (1 + ((ji10) % 40)) t213 t214 _ ?side1 ?side2 A11.out).mono ?_); (case side1 => repeat (first | exact HR208.out | (with_reducible refine Kd.C_alloc ?_ _) | (with_reducible refine Kd.C_drewN ?_ _) | (with_reducible refine Kd.C_drew ?_))); (case side2 => exact HC208.out); rintro e w15 ⟨v215, rfl, ho0, hb⟩; have n0_ := Aside0.mk (Kd.S_lower ho0 (below_size (by repeat (first | (with_reducible first | exact HB.out | apply below_alloc | apply pw_below_drewN | apply below_drew1) | exact HB.out)))); have n1_ := Aside0.mk (below_step (by repeat (first | (with_reducible first | exact HB.out | apply below_alloc | apply pw_below_drewN | apply below_drew1) | exact HB.out)) hb); clear HB; have HO216 := n0_; have HB := n1_; clear n0_ n1_; (try clear hb); (try clear hb2); (try clear hk); (try clear hi); (try clear ho0))))
          (try simp only [Act.put, List.setIfInBounds_toArray, List.set_cons_zero, List.set_cons_succ])
          go_cut [48] (fun v48 wc => ∃ (kq : Nat) (x48_11 : Bool), v48 = .bool x48_11 ∧ Aside0 (cuecardlaw09_TailEnds.j0 kq y205 y209 (1 + ((ji10) % 40)) t213 x48_11 = some r) ∧ Aside0 (kq ≤ k) ∧ Aside0 (Kd.S (Kd.slice 5 (Kd.int .u8)) 22 wc w.heap.size (fun _ => True) v215 t213) ∧ Aside0 (Below w.heap.size w wc))
          case first =>
            have H := HC12.out
            clear HC12
            by_cases c16 : t214 = 0
            · rw [if_pos c16] at H
              have c16b0 : (t214 == 0) = true := beq_iff_eq.mpr c16
              have c16b1 : (t214 != 0) = false := bne_eq_false_iff_eq.mpr c16
              clear c16
              (first | rw [c16b0] | (simp only [i64_w, i32_w]; rw [c16b0]) | skip)
              have H' := Aside0.mk H
              clear H
              obtain ⟨Ao17, co17, eo17⟩ := Kd.S_slice HO216.out
              subst eo17
              go_wp2
              repeat (go_quiet (fail); try go_wp2)
              go_meet
              case rel => exact ⟨_, ((((t213.length : Int) == 0) != ((y205.length : Int) == 0))), (by first | rfl | (simp; done) | (simp [*]; done)), H', ⟨by first | omega | exact Nat.le_refl _⟩, ⟨by (with_reducible repeat (first | apply Kd.S_alloc | apply Kd.S_drewN | apply Kd.S_drew)); exact HO216.out⟩, ⟨by repeat (first | (with_reducible first | exact HB.out | apply below_alloc | apply pw_below_drewN | apply below_drew1) | exact HB.out)⟩⟩
            · rw [if_neg c16] at H
              have c16b0 : (t214 == 0) = false := beq_eq_false_iff_ne.mpr c16
              have c16b1 : (t214 != 0) = true := bne_iff_ne.mpr c16
              (first | rw [c16b0] | (simp only [i64_w, i32_w]; rw [c16b0]) | skip)
              have H' := Aside0.mk H
              clear H
              go_wp2
              repeat (go_quiet (fail); try go_wp2)
              go_meet
              case rel => exact ⟨_, (true), (by first | rfl | (simp; done) | (simp [*]; done)), H', ⟨by first | omega | exact Nat.le_refl _⟩, ⟨by (with_reducible repeat (first | apply Kd.S_alloc | apply Kd.S_drewN | apply Kd.S_drew)); exact HO216.out⟩, ⟨by repeat (first | (with_reducible first | exact HB.out | apply below_alloc | apply pw_below_drewN | apply below_drew1) | exact HB.out)⟩⟩
          case rest =>
            clear HC12
            try clear c1
            try clear q1
            try clear p2
            try clear c4
            try clear c5
            try clear c5b0
            try clear c5b1
            try clear c6
            try clear c6b0
            try clear c6b1
            try clear c8
            try clear c8b0
            try clear c8b1
            try clear c9
            try clear c9b0
            try clear c9b1
            try clear q13
            try clear q14
            try clear c16
            try clear c16b0
            try clear c16b1
            try clear q13
            try clear q14
            obtain ⟨kq, x48_11, rfl, HA, HJ11, HO_8, HB⟩ := hcut
            cases kq with
            | zero => exact absurd HA.out (by simp [cuecardlaw09_TailEnds.j0])
            | succ kj11 =>
              have H := HA.out
              clear HA
              simp only [cuecardlaw09_TailEnds.j0] at H
              by_cases c18 : x48_11 = true
              · subst c18
                have H1 : (some false) = some r := by rw [if_pos rfl] at H; exact H
                clear H
                have H := H1
                clear H1
                obtain rfl := Option.some.inj H
                go_wp2
                repeat (go_quiet (fail); try go_wp2)
                go_ret
                exact ⟨by first | rfl | (simp [errW_none, errW_some] <;> rfl) | (simp only [← hji4, ← hji7, ← hji10]; first | rfl | (simp [errW_none, errW_some] <;> rfl)) | (simp [*, errW_none, errW_some] <;> rfl), by repeat (first | (with_reducible first | exact HB.out | apply below_alloc | apply pw_below_drewN | apply below_drew1) | exact HB.out)⟩
              · replace c18 := Bool.eq_false_iff.mpr c18
                subst c18
                have H1 : (cuecardlaw09_TailEnds.l0 kj11 y205 y209 (1 + ((ji10) % 40)) t213 t213 (t213.length : Int) 0) = some r := by rw [if_neg (show ¬ (false = true) by decide)] at H; exact H
                clear H
                have H := H1
                clear H1
                have H' := Aside0.mk H
                clear H
                obtain ⟨Ao19, co19, eo19⟩ := Kd.S_slice HO_8.out
                subst eo19
                go_wp2
                repeat (go_quiet (fail); try go_wp2)
                go_loopg [51] kj11 (fun kq v51 w' => ∃ (x51_2 : Int), v51 = .int .i64 x51_2 ∧ Aside0 (cuecardlaw09_TailEnds.l0 kq y205 y209 (1 + ((ji10) % 40)) t213 t213 (t213.length : Int) x51_2 = some r) ∧ Aside0 (kq ≤ kj11) ∧ Aside0 (Kd.S (Kd.slice 5 (Kd.int .u8)) 22 w' w.heap.size (fun _ => True) (.slice Ao19 t213.length co19) t213) ∧ Aside0 (Kd.S (Kd.slice 5 (Kd.int .u8)) 22 w' w.heap.size (fun _ => True) (.slice Ao19 t213.length co19) t213) ∧ Aside0 (Below w.heap.size w w'))
                case atStart => exact ⟨(0), (by first | rfl | (simp; done) | (simp [*]; done)), H', ⟨Nat.le_refl _⟩, ⟨by (with_reducible repeat (first | apply Kd.S_alloc | apply Kd.S_drewN | apply Kd.S_drew)); exact HO_8.out⟩, ⟨by (with_reducible repeat (first | apply Kd.S_alloc | apply Kd.S_drewN | apply Kd.S_drew)); exact HO_8.out⟩, ⟨by repeat (first | (with_reducible first | exact HB.out | apply below_alloc | apply pw_below_drewN | apply below_drew1) | exact HB.out)⟩⟩
                case round =>
                  clear H'
                  try clear c1
                  try clear q1
                  try clear p2
                  try clear c4
                  try clear c5
                  try clear c5b0
                  try clear c5b1
                  try clear c6
                  try clear c6b0
                  try clear c6b1
                  try clear c8
                  try clear c8b0
                  try clear c8b1
                  try clear c9
                  try clear c9b0
                  try clear c9b1
                  try clear q13
                  try clear q14
                  try clear c16
                  try clear c16b0
                  try clear c16b1
                  try clear c18
                  try clear p2
                  try clear q1
                  try clear q13
                  try clear q14
                  obtain ⟨x51_2, rfl, HA, HK2, HO_8, HO_49, HB⟩ := hrel
                  cases gk with
                  | zero => exact absurd HA.out (by simp [cuecardlaw09_TailEnds.l0])
                  | succ k2 =>
                    have H := HA.out
                    clear HA
                    simp only [cuecardlaw09_TailEnds.l0] at H
                    by_cases c20 : x51_2 < (t213.length : Int)
                    · rw [if_pos c20] at H
                      have c20b0 : decide (x51_2 < (t213.length : Int)) = true := decide_eq_true c20
                      clear c20
                      by_cases c21 : 0 ≤ x51_2
                      · rw [if_pos c21] at H
                        have c21b0 : decide (0 ≤ x51_2) = true := decide_eq_true c21
                        clear c21
                        by_cases c22 : x51_2 < (t213.length : Int)
                        · rw [if_pos c22] at H
                          have c22b0 : decide (x51_2 < (t213.length : Int)) = true := decide_eq_true c22
                          clear c22
                          by_cases c23 : ((rd_L2 t213 x51_2).length : Int) = 0
                          · rw [if_pos c23] at H
                            have c23b0 : (((rd_L2 t213 x51_2).length : Int) == 0) = true := beq_iff_eq.mpr c23
                            have c23b1 : (((rd_L2 t213 x51_2).length : Int) != 0) = false := bne_eq_false_iff_eq.mpr c23
                            clear c23
                            obtain rfl := Option.some.inj H
                            have p217 : 0 ≤ (x51_2 : Int) := of_decide_eq_true (by first | (with_reducible assumption) | assumption)
                            have q217 : x51_2 < (t213.length : Int) := of_decide_eq_true (by first | (with_reducible assumption) | assumption)
                            obtain ⟨ad217, A217_0, c217_0, e217, hx217_0, hl217_0, hi217_0⟩ := at_L2 (Kd.S_reads' HO_49.out).2.2 x51_2 p217 q217
                            cases e217
                            obtain ⟨ce217, hce217, hMe217, hcc217⟩ := Kd.S_get HO_49.out [] x51_2 p217 (by first | exact q217 | exact of_decide_eq_true (by first | (with_reducible assumption) | assumption) | (have e_ := (Kd.S_reads' HO_49.out).1; omega))
                            obtain ⟨ve217_0, rfl, ge217_0⟩ := hMe217
                            have hv217_0 := hcc217 0 _ rfl
                            rw [Nat.add_zero, show ((Kd.slice 5 (Kd.int .u8))).sz = 1 from rfl, Nat.mul_one] at hv217_0
                            replace hv217_0 := Option.some.inj (hv217_0.symm.trans hx217_0)
                            rw [hv217_0] at ge217_0
                            have HL217_0 := Aside0.mk (show Kd.R (Kd.int .u8) 5 _ _ _ _ (rd_L2 t213 x51_2) from ge217_0)
                            clear hv217_0 ge217_0
                            clear hcc217 hce217
                            have HR217_0 := Aside0.mk hi217_0
                            have HC217_0 := Aside0.mk hl217_0
                            clear hi217_0 hl217_0
                            replace p217 := eq_true p217
                            replace q217 := eq_true q217
                            go_wp2
                            repeat (go_quiet (fail); try go_wp2)
                            go_ret
                            exact ⟨by first | rfl | (simp [errW_none, errW_some] <;> rfl) | (simp only [← hji4, ← hji7, ← hji10]; first | rfl | (simp [errW_none, errW_some] <;> rfl)) | (simp [*, errW_none, errW_some] <;> rfl), by repeat (first | (with_reducible first | exact HB.out | apply below_alloc | apply pw_below_drewN | apply below_drew1) | exact HB.out)⟩
                          · rw [if_neg c23] at H
                            have c23b0 : (((rd_L2 t213 x51_2).length : Int) == 0) = false := beq_eq_false_iff_ne.mpr c23
                            have c23b1 : (((rd_L2 t213 x51_2).length : Int) != 0) = true := bne_iff_ne.mpr c23
                            have c23b2 : ¬ ((rd_L2 t213 x51_2) = []) := fun h_ => c23 (by rw [h_]; rfl)
                            by_cases c24 : ((rd_L2 t213 x51_2).length : Int) > (1 + ((ji10) % 40))
                            · rw [if_pos c24] at H
                              have c24b0 : decide ((1 + ((ji10) % 40)) < ((rd_L2 t213 x51_2).length : Int)) = true := decide_eq_true c24
                              clear c24
                              obtain rfl := Option.some.inj H
                              have p217 : 0 ≤ (x51_2 : Int) := of_decide_eq_true (by first | (with_reducible assumption) | assumption)
                              have q217 : x51_2 < (t213.length : Int) := of_decide_eq_true (by first | (with_reducible assumption) | assumption)
                              obtain ⟨ad217, A217_0, c217_0, e217, hx217_0, hl217_0, hi217_0⟩ := at_L2 (Kd.S_reads' HO_49.out).2.2 x51_2 p217 q217
                              cases e217
                              obtain ⟨ce217, hce217, hMe217, hcc217⟩ := Kd.S_get HO_49.out [] x51_2 p217 (by first | exact q217 | exact of_decide_eq_true (by first | (with_reducible assumption) | assumption) | (have e_ := (Kd.S_reads' HO_49.out).1; omega))
                              obtain ⟨ve217_0, rfl, ge217_0⟩ := hMe217
                              have hv217_0 := hcc217 0 _ rfl
                              rw [Nat.add_zero, show ((Kd.slice 5 (Kd.int .u8))).sz = 1 from rfl, Nat.mul_one] at hv217_0
                              replace hv217_0 := Option.some.inj (hv217_0.symm.trans hx217_0)
                              rw [hv217_0] at ge217_0
                              have HL217_0 := Aside0.mk (show Kd.R (Kd.int .u8) 5 _ _ _ _ (rd_L2 t213 x51_2) from ge217_0)
                              clear hv217_0 ge217_0
                              clear hcc217 hce217
                              have HR217_0 := Aside0.mk hi217_0
                              have HC217_0 := Aside0.mk hl217_0
                              clear hi217_0 hl217_0
                              replace p217 := eq_true p217
                              replace q217 := eq_true q217
                              go_wp2
                              repeat (go_quiet (fail); try go_wp2)
                              go_ret
                              exact ⟨by first | rfl | (simp [errW_none, errW_some] <;> rfl) | (simp only [← hji4, ← hji7, ← hji10]; first | rfl | (simp [errW_none, errW_some] <;> rfl)) | (simp [*, errW_none, errW_some] <;> rfl), by repeat (first | (with_reducible first | exact HB.out | apply below_alloc | apply pw_below_drewN | apply below_drew1) | exact HB.out)⟩
                            · rw [if_neg c24] at H
                              have c24b0 : decide ((1 + ((ji10) % 40)) < ((rd_L2 t213 x51_2).length : Int)) = false := decide_eq_false c24
                              clear c24
                              have H' := Aside0.mk H
                              clear H
                              have p217 : 0 ≤ (x51_2 : Int) := of_decide_eq_true (by first | (with_reducible assumption) | assumption)
                              have q217 : x51_2 < (t213.length : Int) := of_decide_eq_true (by first | (with_reducible assumption) | assumption)
                              obtain ⟨ad217, A217_0, c217_0, e217, hx217_0, hl217_0, hi217_0⟩ := at_L2 (Kd.S_reads' HO_49.out).2.2 x51_2 p217 q217
                              cases e217
                              obtain ⟨ce217, hce217, hMe217, hcc217⟩ := Kd.S_get HO_49.out [] x51_2 p217 (by first | exact q217 | exact of_decide_eq_true (by first | (with_reducible assumption) | assumption) | (have e_ := (Kd.S_reads' HO_49.out).1; omega))
                              obtain ⟨ve217_0, rfl, ge217_0⟩ := hMe217
                              have hv217_0 := hcc217 0 _ rfl
                              rw [Nat.add_zero, show ((Kd.slice 5 (Kd.int .u8))).sz = 1 from rfl, Nat.mul_one] at hv217_0
                              replace hv217_0 := Option.some.inj (hv217_0.symm.trans hx217_0)
                              rw [hv217_0] at ge217_0
                              have HL217_0 := Aside0.mk (show Kd.R (Kd.int .u8) 5 _ _ _ _ (rd_L2 t213 x51_2) from ge217_0)
                              clear hv217_0 ge217_0
                              clear hcc217 hce217
                              have HR217_0 := Aside0.mk hi217_0
                              have HC217_0 := Aside0.mk hl217_0
                              clear hi217_0 hl217_0
                              replace p217 := eq_true p217
                              replace q217 := eq_true q217
                              go_wp2
                              repeat (go_quiet (fail); try go_wp2)
                              go_roundg k2
                              case measure => have := HJ11.out; have := HK2.out; omega
                              case rel => exact ⟨(wrap64 (x51_2 + 1)), (by first | rfl | (simp; done) | (simp [*]; done)), H', ⟨by have := HJ11.out; have := HK2.out; omega⟩, ⟨by (with_reducible repeat (first | apply Kd.S_alloc | apply Kd.S_drewN | apply Kd.S_drew)); exact HO_8.out⟩, ⟨by (with_reducible repeat (first | apply Kd.S_alloc | apply Kd.S_drewN | apply Kd.S_drew)); exact HO_49.out⟩, ⟨by repeat (first | (with_reducible first | exact HB.out | apply below_alloc | apply pw_below_drewN | apply below_drew1) | exact HB.out)⟩⟩
                        · rw [if_neg c22] at H
                          exact absurd H (by simp)
                      · rw [if_neg c21] at H
                        exact absurd H (by simp)
                    · rw [if_neg c20] at H
                      have c20b0 : decide (x51_2 < (t213.length : Int)) = false := decide_eq_false c20
                      clear c20
                      obtain ⟨y218, hy218⟩ : ∃ y_ : List Int, y_ = (([] : List Int)) := ⟨_, rfl⟩
                      replace H : (if y218.length + y205.length < 140737488355328 then ((some (y218 ++ y205 : List Int)).bind fun y221 => (if y221.length + y209.length < 140737488355328 then ((some (y221 ++ y209 : List Int)).bind fun y224 => ((cuecardref09_Factors.f k2 y224 t213).bind fun bt227 => (cuecardlaw09_TailEnds.l1 k2 y205 t213 y224 bt227.1 bt227.2 (y205.length : Int) 0))) else (none))) else (none)) = some r := by first | (rw [hy218]; with_reducible exact H) | (have H2_ := (Option.bind_some _ _).symm.trans H; rw [hy218]; with_reducible exact H2_) | (have H2_ := (Option.bind_some _ _).symm.trans H; with_reducible exact H2_) | with_reducible exact H | (rw [hy218]; exact H) | exact H
                      have Ny218 := Aside0.mk hy218
                      clear hy218
                      by_cases c25 : y218.length + y205.length < 140737488355328
                      · rw [if_pos c25] at H
                        have LMc25 := Aside0.mk c25
                        clear c25
                        obtain ⟨y221, hy221⟩ : ∃ y_ : List Int, y_ = (y218 ++ y205) := ⟨_, rfl⟩
                        replace H : (if y221.length + y209.length < 140737488355328 then ((some (y221 ++ y209 : List Int)).bind fun y224 => ((cuecardref09_Factors.f k2 y224 t213).bind fun bt227 => (cuecardlaw09_TailEnds.l1 k2 y205 t213 y224 bt227.1 bt227.2 (y205.length : Int) 0))) else (none)) = some r := by first | (rw [hy221]; with_reducible exact H) | (have H2_ := (Option.bind_some _ _).symm.trans H; rw [hy221]; with_reducible exact H2_) | (have H2_ := (Option.bind_some _ _).symm.trans H; with_reducible exact H2_) | with_reducible exact H | (rw [hy221]; exact H) | exact H
                        have Ny221 := Aside0.mk hy221
                        clear hy221
                        by_cases c26 : y221.length + y209.length < 140737488355328
                        · rw [if_pos c26] at H
                          have LMc26 := Aside0.mk c26
                          clear c26
                          obtain ⟨y224, hy224⟩ : ∃ y_ : List Int, y_ = (y221 ++ y209) := ⟨_, rfl⟩
                          replace H : ((cuecardref09_Factors.f k2 y224 t213).bind fun bt227 => (cuecardlaw09_TailEnds.l1 k2 y205 t213 y224 bt227.1 bt227.2 (y205.length : Int) 0)) = some r := by first | (rw [hy224]; with_reducible exact H) | (have H2_ := (Option.bind_some _ _).symm.trans H; rw [hy224]; with_reducible exact H2_) | (have H2_ := (Option.bind_some _ _).symm.trans H; with_reducible exact H2_) | with_reducible exact H | (rw [hy224]; exact H) | exact H
                          have Ny224 := Aside0.mk hy224
                          clear hy224
                          replace H := Option.bind_eq_some_iff.mp H
                          obtain ⟨⟨t227, t228⟩, A270, H⟩ := H
                          replace H : (cuecardlaw09_TailEnds.l1 k2 y205 t213 y224 t227 t228 (y205.length : Int) 0) = some r := H
                          have A27 := Aside0.mk A270
                          clear A270
                          have H' := Aside0.mk H
                          clear H
                          go_wp2_with (first | ((with_reducible refine gate_dst (N := 65) rfl ?_); (try (refine gate_guard (by rfl) ?_; dsimp only)); refine Kd.R_lit (Kd.int .u8) _ 5 ?hg (N := 65) ?hd (xs := ([] : List Int)) (inner := []) (ok := fun _ => True) (okp := fun _ => True) ?hr ?hp (fun _ hk => hk) trivial (Below.refl _ _) (Nat.le_refl _) (by simp) ?_; (case hd => rfl); (case hg => rfl); (case hr => first | (go_simp; done) | (go_simp; rfl)); (case hp => exact (Reps.none _ _)); intro v219 w28 ho29 hb hg_ hnew_; clear hg_ hnew_; (first | rw [← Ny218.out] at ho29 | (simp only [Int.reduceToNat] at ho29; rw [← Ny218.out] at ho29)); have n0_ := Aside0.mk (Kd.S_elder' (by (with_reducible repeat (first | apply Kd.S_alloc | apply Kd.S_drewN | apply Kd.S_drew)); exact HO_8.out) (Kd.R_base ho29) hb); have n1_ := Aside0.mk (Kd.S_elder' (by (with_reducible repeat (first | apply Kd.S_alloc | apply Kd.S_drewN | apply Kd.S_drew)); exact HO_49.out) (Kd.R_base ho29) hb); have n2_ := Aside0.mk (Kd.R_lower ho29 (below_size (by repeat (first | (with_reducible first | exact HB.out | apply below_alloc | apply pw_below_drewN | apply below_drew1) | exact HB.out)))); have n3_ := Aside0.mk (below_step (by repeat (first | (with_reducible first | exact HB.out | apply below_alloc | apply pw_below_drewN | apply below_drew1) | exact HB.out)) hb); clear HO_8; clear HO_49; clear HB; have HO_8 := n0_; have HO_49 := n1_; have HO220 := n2_; have HB := n3_; clear n0_ n1_ n2_ n3_; clear hb ho29) | ((with_reducible refine gate_builtin (b := .append) (xs := #[.tmp 65, .tmp 66]) rfl ?_); (try (refine gate_guard (by rfl) ?_; dsimp only)); at_builtin; refine Kd.R_append_rows (Kd.int .u8) (w0 := w) w.heap.size rfl (.tmp 65) (.tmp 66) 22 5 (.int .u8 0) 1 rfl Try.underlying22 info5 rfl (by decide) (by omega) v219 y218 y205 _ _ _ (fun _ => True) (fun _ => False) rfl rfl ?aO ?aR (fun _ _ h => h) (fun _ h => h.elim) ?aF ?aB ?aS ?aL ?_; (case aR => repeat (first | exact (Kd.C_below HR208.out HB.out) | (with_reducible refine Kd.C_alloc ?_ _) | (with_reducible refine Kd.C_drewN ?_ _) | (with_reducible refine Kd.C_drew ?_))); (case aB => exact (by repeat (first | (with_reducible first | exact HB.out | apply below_alloc | apply pw_below_drewN | apply below_drew1) | exact HB.out))); (case aF => exact (fun _ _ => trivial)); (case aO => exact (by (with_reducible repeat (first | apply Kd.R_alloc | apply Kd.R_drewN | apply Kd.R_drew)); exact HO220.out)); (case aS => exact (below_size (by repeat (first | (with_reducible first | exact HB.out | apply below_alloc | apply pw_below_drewN | apply below_drew1) | exact HB.out)))); (case aL => have := LMc25.out; omega); intro v222 w30 ho hb hg hat; rw [← Ny221.out] at ho; have n0_ := Aside0.mk (Kd.S_after (ok := (fun _ => True)) (by (with_reducible repeat (first | apply Kd.S_alloc | apply Kd.S_drewN | apply Kd.S_drew)); exact HO_8.out) hg hat); have n1_ := Aside0.mk (Kd.S_after (ok := (fun _ => True)) (by (with_reducible repeat (first | apply Kd.S_alloc | apply Kd.S_drewN | apply Kd.S_drew)); exact HO_49.out) hg hat); have n2_ := Aside0.mk (hb); have n3_ := Aside0.mk (ho); clear HO_8; clear HO_49; clear HB; clear HO220; have HO_8 := n0_; have HO_49 := n1_; have HB := n2_; have HO223 := n3_; clear n0_ n1_ n2_ n3_; clear ho hb hg hat) | ((with_reducible refine gate_builtin (b := .append) (xs := #[.tmp 67, .tmp 68]) rfl ?_); (try (refine gate_guard (by rfl) ?_; dsimp only)); at_builtin; refine Kd.R_append_rows (Kd.int .u8) (w0 := w) w.heap.size rfl (.tmp 67) (.tmp 68) 22 5 (.int .u8 0) 1 rfl Try.underlying22 info5 rfl (by decide) (by omega) v222 y221 y209 _ _ _ (fun _ => True) (fun _ => False) rfl rfl ?aO ?aR (fun _ _ h => h) (fun _ h => h.elim) ?aF ?aB ?aS ?aL ?_; (case aR => repeat (first | exact (Kd.C_below HR212.out HB.out) | (with_reducible refine Kd.C_alloc ?_ _) | (with_reducible refine Kd.C_drewN ?_ _) | (with_reducible refine Kd.C_drew ?_))); (case aB => exact (by repeat (first | (with_reducible first | exact HB.out | apply below_alloc | apply pw_below_drewN | apply below_drew1) | exact HB.out))); (case aF => exact (fun _ _ => trivial)); (case aO => exact (by (with_reducible repeat (first | apply Kd.R_alloc | apply Kd.R_drewN | apply Kd.R_drew)); exact HO223.out)); (case aS => exact (below_size (by repeat (first | (with_reducible first | exact HB.out | apply below_alloc | apply pw_below_drewN | apply below_drew1) | exact HB.out)))); (case aL => have := LMc26.out; omega); intro v225 w31 ho hb hg hat; rw [← Ny224.out] at ho; have n0_ := Aside0.mk (Kd.S_after (ok := (fun _ => True)) (by (with_reducible repeat (first | apply Kd.S_alloc | apply Kd.S_drewN | apply Kd.S_drew)); exact HO_8.out) hg hat); have n1_ := Aside0.mk (Kd.S_after (ok := (fun _ => True)) (by (with_reducible repeat (first | apply Kd.S_alloc | apply Kd.S_drewN | apply Kd.S_drew)); exact HO_49.out) hg hat); have n2_ := Aside0.mk (hb); have n3_ := Aside0.mk (ho); clear HO_8; clear HO_49; clear HB; clear HO223; have HO_8 := n0_; have HO_49 := n1_; have HB := n2_; have HO226 := n3_; clear n0_ n1_ n2_ n3_; clear ho hb hg hat; obtain ⟨Ao32, co32, eo32⟩ := Kd.R_slice HO226.out; subst eo32) | (go_at_call 14; (with_reducible refine (cuecardref09_Factors.calls k2 _ _ y224 _ _ t213 t227 t228 _ ?side1 ?side2 ?side3 ?side4 A27.out).mono ?_); (case side1 => repeat (first | exact (Kd.R_reads' HO226.out).2.2 | (with_reducible refine Kd.C_alloc ?_ _) | (with_reducible refine Kd.C_drewN ?_ _) | (with_reducible refine Kd.C_drew ?_))); (case side2 => exact (Kd.R_reads' HO226.out).2.1); (case side3 => repeat (first | exact (Kd.S_reads' HO_8.out).2.2 | (with_reducible refine Kd.C_alloc ?_ _) | (with_reducible refine Kd.C_drewN ?_ _) | (with_reducible refine Kd.C_drew ?_))); (case side4 => exact (Kd.S_reads' HO_8.out).2.1); rintro e w33 ⟨rfl, hb⟩; have n0_ := Aside0.mk (Kd.S_below (by (with_reducible repeat (first | apply Kd.S_alloc | apply Kd.S_drewN | apply Kd.S_drew)); exact HO_8.out) hb); have n1_ := Aside0.mk (Kd.S_below (by (with_reducible repeat (first | apply Kd.S_alloc | apply Kd.S_drewN | apply Kd.S_drew)); exact HO_49.out) hb); have n2_ := Aside0.mk (Kd.R_below (by (with_reducible repeat (first | apply Kd.R_alloc | apply Kd.R_drewN | apply Kd.R_drew)); exact HO226.out) hb); have n3_ := Aside0.mk (below_step (by repeat (first | (with_reducible first | exact HB.out | apply below_alloc | apply pw_below_drewN | apply below_drew1) | exact HB.out)) hb); clear HO_8; clear HO_49; clear HO226; clear HB; have HO_8 := n0_; have HO_49 := n1_; have HO226 := n2_; have HB := n3_; clear n0_ n1_ n2_ n3_; (try clear hb); (try clear hb2); (try clear hk); (try clear hi)))
                          repeat (go_quiet (first | ((with_reducible refine gate_dst (N := 65) rfl ?_); (try (refine gate_guard (by rfl) ?_; dsimp only)); refine Kd.R_lit (Kd.int .u8) _ 5 ?hg (N := 65) ?hd (xs := ([] : List Int)) (inner := []) (ok := fun _ => True) (okp := fun _ => True) ?hr ?hp (fun _ hk => hk) trivial (Below.refl _ _) (Nat.le_refl _) (by simp) ?_; (case hd => rfl); (case hg => rfl); (case hr => first | (go_simp; done) | (go_simp; rfl)); (case hp => exact (Reps.none _ _)); intro v219 w28 ho29 hb hg_ hnew_; clear hg_ hnew_; (first | rw [← Ny218.out] at ho29 | (simp only [Int.reduceToNat] at ho29; rw [← Ny218.out] at ho29)); have n0_ := Aside0.mk (Kd.S_elder' (by (with_reducible repeat (first | apply Kd.S_alloc | apply Kd.S_drewN | apply Kd.S_drew)); exact HO_8.out) (Kd.R_base ho29) hb); have n1_ := Aside0.mk (Kd.S_elder' (by (with_reducible repeat (first | apply Kd.S_alloc | apply Kd.S_drewN | apply Kd.S_drew)); exact HO_49.out) (Kd.R_base ho29) hb); have n2_ := Aside0.mk (Kd.R_lower ho29 (below_size (by repeat (first | (with_reducible first | exact HB.out | apply below_alloc | apply pw_below_drewN | apply below_drew1) | exact HB.out)))); have n3_ := Aside0.mk (below_step (by repeat (first | (with_reducible first | exact HB.out | apply below_alloc | apply pw_below_drewN | apply below_drew1) | exact HB.out)) hb); clear HO_8; clear HO_49; clear HB; have HO_8 := n0_; have HO_49 := n1_; have HO220 := n2_; have HB := n3_; clear n0_ n1_ n2_ n3_; clear hb ho29) | ((with_reducible refine gate_builtin (b := .append) (xs := #[.tmp 65, .tmp 66]) rfl ?_); (try (refine gate_guard (by rfl) ?_; dsimp only)); at_builtin; refine Kd.R_append_rows (Kd.int .u8) (w0 := w) w.heap.size rfl (.tmp 65) (.tmp 66) 22 5 (.int .u8 0) 1 rfl Try.underlying22 info5 rfl (by decide) (by omega) v219 y218 y205 _ _ _ (fun _ => True) (fun _ => False) rfl rfl ?aO ?aR (fun _ _ h => h) (fun _ h => h.elim) ?aF ?aB ?aS ?aL ?_; (case aR => repeat (first | exact (Kd.C_below HR208.out HB.out) | (with_reducible refine Kd.C_alloc ?_ _) | (with_reducible refine Kd.C_drewN ?_ _) | (with_reducible refine Kd.C_drew ?_))); (case aB => exact (by repeat (first | (with_reducible first | exact HB.out | apply below_alloc | apply pw_below_drewN | apply below_drew1) | exact HB.out))); (case aF => exact (fun _ _ => trivial)); (case aO => exact (by (with_reducible repeat (first | apply Kd.R_alloc | apply Kd.R_drewN | apply Kd.R_drew)); exact HO220.out)); (case aS => exact (below_size (by repeat (first | (with_reducible first | exact HB.out | apply below_alloc | apply pw_below_drewN | apply below_drew1) | exact HB.out)))); (case aL => have := LMc25.out; omega); intro v222 w30 ho hb hg hat; rw [← Ny221.out] at ho; have n0_ := Aside0.mk (Kd.S_after (ok := (fun _ => True)) (by (with_reducible repeat (first | apply Kd.S_alloc | apply Kd.S_drewN | apply Kd.S_drew)); exact HO_8.out) hg hat); have n1_ := Aside0.mk (Kd.S_after (ok := (fun _ => True)) (by (with_reducible repeat (first | apply Kd.S_alloc | apply Kd.S_drewN | apply Kd.S_drew)); exact HO_49.out) hg hat); have n2_ := Aside0.mk (hb); have n3_ := Aside0.mk (ho); clear HO_8; clear HO_49; clear HB; clear HO220; have HO_8 := n0_; have HO_49 := n1_; have HB := n2_; have HO223 := n3_; clear n0_ n1_ n2_ n3_; clear ho hb hg hat) | ((with_reducible refine gate_builtin (b := .append) (xs := #[.tmp 67, .tmp 68]) rfl ?_); (try (refine gate_guard (by rfl) ?_; dsimp only)); at_builtin; refine Kd.R_append_rows (Kd.int .u8) (w0 := w) w.heap.size rfl (.tmp 67) (.tmp 68) 22 5 (.int .u8 0) 1 rfl Try.underlying22 info5 rfl (by decide) (by omega) v222 y221 y209 _ _ _ (fun _ => True) (fun _ => False) rfl rfl ?aO ?aR (fun _ _ h => h) (fun _ h => h.elim) ?aF ?aB ?aS ?aL ?_; (case aR => repeat (first | exact (Kd.C_below HR212.out HB.out) | (with_reducible refine Kd.C_alloc ?_ _) | (with_reducible refine Kd.C_drewN ?_ _) | (with_reducible refine Kd.C_drew ?_))); (case aB => exact (by repeat (first | (with_reducible first | exact HB.out | apply below_alloc | apply pw_below_drewN | apply below_drew1) | exact HB.out))); (case aF => exact (fun _ _ => trivial)); (case aO => exact (by (with_reducible repeat (first | apply Kd.R_alloc | apply Kd.R_drewN | apply Kd.R_drew)); exact HO223.out)); (case aS => exact (below_size (by repeat (first | (with_reducible first | exact HB.out | apply below_alloc | apply pw_below_drewN | apply below_drew1) | exact HB.out)))); (case aL => have := LMc26.out; omega); intro v225 w31 ho hb hg hat; rw [← Ny224.out] at ho; have n0_ := Aside0.mk (Kd.S_after (ok := (fun _ => True)) (by (with_reducible repeat (first | apply Kd.S_alloc | apply Kd.S_drewN | apply Kd.S_drew)); exact HO_8.out) hg hat); have n1_ := Aside0.mk (Kd.S_after (ok := (fun _ => True)) (by (with_reducible repeat (first | apply Kd.S_alloc | apply Kd.S_drewN | apply Kd.S_drew)); exact HO_49.out) hg hat); have n2_ := Aside0.mk (hb); have n3_ := Aside0.mk (ho); clear HO_8; clear HO_49; clear HB; clear HO223; have HO_8 := n0_; have HO_49 := n1_; have HB := n2_; have HO226 := n3_; clear n0_ n1_ n2_ n3_; clear ho hb hg hat; obtain ⟨Ao32, co32, eo32⟩ := Kd.R_slice HO226.out; subst eo32) | (go_at_call 14; (with_reducible refine (cuecardref09_Factors.calls k2 _ _ y224 _ _ t213 t227 t228 _ ?side1 ?side2 ?side3 ?side4 A27.out).mono ?_); (case side1 => repeat (first | exact (Kd.R_reads' HO226.out).2.2 | (with_reducible refine Kd.C_alloc ?_ _) | (with_reducible refine Kd.C_drewN ?_ _) | (with_reducible refine Kd.C_drew ?_))); (case side2 => exact (Kd.R_reads' HO226.out).2.1); (case side3 => repeat (first | exact (Kd.S_reads' HO_8.out).2.2 | (with_reducible refine Kd.C_alloc ?_ _) | (with_reducible refine Kd.C_drewN ?_ _) | (with_reducible refine Kd.C_drew ?_))); (case side4 => exact (Kd.S_reads' HO_8.out).2.1); rintro e w33 ⟨rfl, hb⟩; have n0_ := Aside0.mk (Kd.S_below (by (with_reducible repeat (first | apply Kd.S_alloc | apply Kd.S_drewN | apply Kd.S_drew)); exact HO_8.out) hb); have n1_ := Aside0.mk (Kd.S_below (by (with_reducible repeat (first | apply Kd.S_alloc | apply Kd.S_drewN | apply Kd.S_drew)); exact HO_49.out) hb); have n2_ := Aside0.mk (Kd.R_below (by (with_reducible repeat (first | apply Kd.R_alloc | apply Kd.R_drewN | apply Kd.R_drew)); exact HO226.out) hb); have n3_ := Aside0.mk (below_step (by repeat (first | (with_reducible first | exact HB.out | apply below_alloc | apply pw_below_drewN | apply below_drew1) | exact HB.out)) hb); clear HO_8; clear HO_49; clear HO226; clear HB; have HO_8 := n0_; have HO_49 := n1_; have HO226 := n2_; have HB := n3_; clear n0_ n1_ n2_ n3_; (try clear hb); (try clear hb2); (try clear hk); (try clear hi))); try go_wp2_with (first | ((with_reducible refine gate_dst (N := 65) rfl ?_); (try (refine gate_guard (by rfl) ?_; dsimp only)); refine Kd.R_lit (Kd.int .u8) _ 5 ?hg (N := 65) ?hd (xs := ([] : List Int)) (inner := []) (ok := fun _ => True) (okp := fun _ => True) ?hr ?hp (fun _ hk => hk) trivial (Below.refl _ _) (Nat.le_refl _) (by simp) ?_; (case hd => rfl); (case hg => rfl); (case hr => first | (go_simp; done) | (go_simp; rfl)); (case hp => exact (Reps.none _ _)); intro v219 w28 ho29 hb hg_ hnew_; clear hg_ hnew_; (first | rw [← Ny218.out] at ho29 | (simp only [Int.reduceToNat] at ho29; rw [← Ny218.out] at ho29)); have n0_ := Aside0.mk (Kd.S_elder' (by (with_reducible repeat (first | apply Kd.S_alloc | apply Kd.S_drewN | apply Kd.S_drew)); exact HO_8.out) (Kd.R_base ho29) hb); have n1_ := Aside0.mk (Kd.S_elder' (by (with_reducible repeat (first | apply Kd.S_alloc | apply Kd.S_drewN | apply Kd.S_drew)); exact HO_49.out) (Kd.R_base ho29) hb); have n2_ := Aside0.mk (Kd.R_lower ho29 (below_size (by repeat (first | (with_reducible first | exact HB.out | apply below_alloc | apply pw_below_drewN | apply below_drew1) | exact HB.out)))); have n3_ := Aside0.mk (below_step (by repeat (first | (with_reducible first | exact HB.out | apply below_alloc | apply pw_below_drewN | apply below_drew1) | exact HB.out)) hb); clear HO_8; clear HO_49; clear HB; have HO_8 := n0_; have HO_49 := n1_; have HO220 := n2_; have HB := n3_; clear n0_ n1_ n2_ n3_; clear hb ho29) | ((with_reducible refine gate_builtin (b := .append) (xs := #[.tmp 65, .tmp 66]) rfl ?_); (try (refine gate_guard (by rfl) ?_; dsimp only)); at_builtin; refine Kd.R_append_rows (Kd.int .u8) (w0 := w) w.heap.size rfl (.tmp 65) (.tmp 66) 22 5 (.int .u8 0) 1 rfl Try.underlying22 info5 rfl (by decide) (by omega) v219 y218 y205 _ _ _ (fun _ => True) (fun _ => False) rfl rfl ?aO ?aR (fun _ _ h => h) (fun _ h => h.elim) ?aF ?aB ?aS ?aL ?_; (case aR => repeat (first | exact (Kd.C_below HR208.out HB.out) | (with_reducible refine Kd.C_alloc ?_ _) | (with_reducible refine Kd.C_drewN ?_ _) | (with_reducible refine Kd.C_drew ?_))); (case aB => exact (by repeat (first | (with_reducible first | exact HB.out | apply below_alloc | apply pw_below_drewN | apply below_drew1) | exact HB.out))); (case aF => exact (fun _ _ => trivial)); (case aO => exact (by (with_reducible repeat (first | apply Kd.R_alloc | apply Kd.R_drewN | apply Kd.R_drew)); exact HO220.out)); (case aS => exact (below_size (by repeat (first | (with_reducible first | exact HB.out | apply below_alloc | apply pw_below_drewN | apply below_drew1) | exact HB.out)))); (case aL => have := LMc25.out; omega); intro v222 w30 ho hb hg hat; rw [← Ny221.out] at ho; have n0_ := Aside0.mk (Kd.S_after (ok := (fun _ => True)) (by (with_reducible repeat (first | apply Kd.S_alloc | apply Kd.S_drewN | apply Kd.S_drew)); exact HO_8.out) hg hat); have n1_ := Aside0.mk (Kd.S_after (ok := (fun _ => True)) (by (with_reducible repeat (first | apply Kd.S_alloc | apply Kd.S_drewN | apply Kd.S_drew)); exact HO_49.out) hg hat); have n2_ := Aside0.mk (hb); have n3_ := Aside0.mk (ho); clear HO_8; clear HO_49; clear HB; clear HO220; have HO_8 := n0_; have HO_49 := n1_; have HB := n2_; have HO223 := n3_; clear n0_ n1_ n2_ n3_; clear ho hb hg hat) | ((with_reducible refine gate_builtin (b := .append) (xs := #[.tmp 67, .tmp 68]) rfl ?_); (try (refine gate_guard (by rfl) ?_; dsimp only)); at_builtin; refine Kd.R_append_rows (Kd.int .u8) (w0 := w) w.heap.size rfl (.tmp 67) (.tmp 68) 22 5 (.int .u8 0) 1 rfl Try.underlying22 info5 rfl (by decide) (by omega) v222 y221 y209 _ _ _ (fun _ => True) (fun _ => False) rfl rfl ?aO ?aR (fun _ _ h => h) (fun _ h => h.elim) ?aF ?aB ?aS ?aL ?_; (case aR => repeat (first | exact (Kd.C_below HR212.out HB.out) | (with_reducible refine Kd.C_alloc ?_ _) | (with_reducible refine Kd.C_drewN ?_ _) | (with_reducible refine Kd.C_drew ?_))); (case aB => exact (by repeat (first | (with_reducible first | exact HB.out | apply below_alloc | apply pw_below_drewN | apply below_drew1) | exact HB.out))); (case aF => exact (fun _ _ => trivial)); (case aO => exact (by (with_reducible repeat (first | apply Kd.R_alloc | apply Kd.R_drewN | apply Kd.R_drew)); exact HO223.out)); (case aS => exact (below_size (by repeat (first | (with_reducible first | exact HB.out | apply below_alloc | apply pw_below_drewN | apply below_drew1) | exact HB.out)))); (case aL => have := LMc26.out; omega); intro v225 w31 ho hb hg hat; rw [← Ny224.out] at ho; have n0_ := Aside0.mk (Kd.S_after (ok := (fun _ => True)) (by (with_reducible repeat (first | apply Kd.S_alloc | apply Kd.S_drewN | apply Kd.S_drew)); exact HO_8.out) hg hat); have n1_ := Aside0.mk (Kd.S_after (ok := (fun _ => True)) (by (with_reducible repeat (first | apply Kd.S_alloc | apply Kd.S_drewN | apply Kd.S_drew)); exact HO_49.out) hg hat); have n2_ := Aside0.mk (hb); have n3_ := Aside0.mk (ho); clear HO_8; clear HO_49; clear HB; clear HO223; have HO_8 := n0_; have HO_49 := n1_; have HB := n2_; have HO226 := n3_; clear n0_ n1_ n2_ n3_; clear ho hb hg hat; obtain ⟨Ao32, co32, eo32⟩ := Kd.R_slice HO226.out; subst eo32) | (go_at_call 14; (with_reducible refine (cuecardref09_Factors.calls k2 _ _ y224 _ _ t213 t227 t228 _ ?side1 ?side2 ?side3 ?side4 A27.out).mono ?_); (case side1 => repeat (first | exact (Kd.R_reads' HO226.out).2.2 | (with_reducible refine Kd.C_alloc ?_ _) | (with_reducible refine Kd.C_drewN ?_ _) | (with_reducible refine Kd.C_drew ?_))); (case side2 => exact (Kd.R_reads' HO226.out).2.1); (case side3 => repeat (first | exact (Kd.S_reads' HO_8.out).2.2 | (with_reducible refine Kd.C_alloc ?_ _) | (with_reducible refine Kd.C_drewN ?_ _) | (with_reducible refine Kd.C_drew ?_))); (case side4 => exact (Kd.S_reads' HO_8.out).2.1); rintro e w33 ⟨rfl, hb⟩; have n0_ := Aside0.mk (Kd.S_below (by (with_reducible repeat (first | apply Kd.S_alloc | apply Kd.S_drewN | apply Kd.S_drew)); exact HO_8.out) hb); have n1_ := Aside0.mk (Kd.S_below (by (with_reducible repeat (first | apply Kd.S_alloc | apply Kd.S_drewN | apply Kd.S_drew)); exact HO_49.out) hb); have n2_ := Aside0.mk (Kd.R_below (by (with_reducible repeat (first | apply Kd.R_alloc | apply Kd.R_drewN | apply Kd.R_drew)); exact HO226.out) hb); have n3_ := Aside0.mk (below_step (by repeat (first | (with_reducible first | exact HB.out | apply below_alloc | apply pw_below_drewN | apply below_drew1) | exact HB.out)) hb); clear HO_8; clear HO_49; clear HO226; clear HB; have HO_8 := n0_; have HO_49 := n1_; have HO226 := n2_; have HB := n3_; clear n0_ n1_ n2_ n3_; (try clear hb); (try clear hb2); (try clear hk); (try clear hi))))
                          go_loopg [78] k2 (fun kq v78 w' => ∃ (x78_3 : Int), v78 = .int .i64 x78_3 ∧ Aside0 (cuecardlaw09_TailEnds.l1 kq y205 t213 y224 t227 t228 (y205.length : Int) x78_3 = some r) ∧ Aside0 (kq ≤ k2) ∧ Aside0 (Kd.S (Kd.slice 5 (Kd.int .u8)) 22 w' w.heap.size (fun k_ => some k_ ≠ ((.slice Ao32 y224.length co32) : Value).ownBlock) (.slice Ao19 t213.length co19) t213) ∧ Aside0 (Kd.R (Kd.int .u8) 5 w' w.heap.size (fun _ => True) (.slice Ao32 y224.length co32) y224) ∧ Aside0 (Below w.heap.size w w'))
                          case atStart => exact ⟨(0), (by first | rfl | (simp; done) | (simp [*]; done)), H', ⟨Nat.le_refl _⟩, ⟨by (with_reducible repeat (first | apply Kd.S_alloc | apply Kd.S_drewN | apply Kd.S_drew)); exact Kd.S_mono HO_8.out (fun _ hk => hk.2)⟩, ⟨by (with_reducible repeat (first | apply Kd.R_alloc | apply Kd.R_drewN | apply Kd.R_drew)); exact HO226.out⟩, ⟨by repeat (first | (with_reducible first | exact HB.out | apply below_alloc | apply pw_below_drewN | apply below_drew1) | exact HB.out)⟩⟩
                          case round =>
                            clear H'
                            try clear c1
                            try clear q1
                            try clear c2
                            try clear p2
                            try clear q2
                            try clear hx2
                            try clear c4
                            try clear c5
                            try clear c5b0
                            try clear c5b1
                            try clear c6
                            try clear c6b0
                            try clear c6b1
                            try clear p6
                            try clear c8
                            try clear c8b0
                            try clear c8b1
                            try clear c9
                            try clear c9b0
                            try clear c9b1
                            try clear q13
                            try clear q14
                            try clear c16
                            try clear c16b0
                            try clear c16b1
                            try clear c18
                            try clear c20
                            try clear c20b0
                            try clear c21
                            try clear c21b0
                            try clear p21
                            try clear q21
                            try clear hx21
                            try clear c22
                            try clear c22b0
                            try clear c23
                            try clear c23b0
                            try clear c23b1
                            try clear c23b2
                            try clear c24
                            try clear c24b0
                            try clear c25
                            try clear c26
                            try clear hx217_0
                            try clear p2
                            try clear p217
                            try clear q1
                            try clear q13
                            try clear q14
                            try clear q217
                            obtain ⟨x78_3, rfl, HA, HK3, HO_8, HO_12, HB⟩ := hrel
                            cases gk with
                            | zero => exact absurd HA.out (by simp [cuecardlaw09_TailEnds.l1])
                            | succ k3 =>
                              have H := HA.out
                              clear HA
                              simp only [cuecardlaw09_TailEnds.l1] at H
                              by_cases c34 : x78_3 < (y205.length : Int)
                              · rw [if_pos c34] at H
                                have c34b0 : decide (x78_3 < (y205.length : Int)) = true := decide_eq_true c34
                                clear c34
                                by_cases c35 : 0 ≤ x78_3
                                · rw [if_pos c35] at H
                                  have c35b0 := eq_true c35
                                  have c35b1 : decide (0 ≤ x78_3) = true := decide_eq_true c35
                                  clear c35
                                  by_cases c36 : x78_3 ≤ (y224.length : Int)
                                  · rw [if_pos c36] at H
                                    have c36b0 := eq_true c36
                                    have c36b1 : decide (x78_3 ≤ (y224.length : Int)) = true := decide_eq_true c36
                                    clear c36
                                    obtain ⟨y229, hy229⟩ : ∃ y_ : List Int, y_ = (y224.take (x78_3 : Int).toNat) := ⟨_, rfl⟩
                                    replace H : ((cuecardref09_Factors.f k3 y229 t213).bind fun bt233 => (if bt233.2 = true then (if (t213.length : Int) > 0 then (some false) else (cuecardlaw09_TailEnds.l1 k3 y205 t213 y224 t227 t228 (y205.length : Int) (wrap64 (x78_3 + 1)))) else (cuecardlaw09_TailEnds.l1 k3 y205 t213 y224 t227 t228 (y205.length : Int) (wrap64 (x78_3 + 1))))) = some r := by first | (rw [hy229]; with_reducible exact H) | (have H2_ := (Option.bind_some _ _).symm.trans H; rw [hy229]; with_reducible exact H2_) | (have H2_ := (Option.bind_some _ _).symm.trans H; with_reducible exact H2_) | with_reducible exact H | (rw [hy229]; exact H) | exact H
                                    have Ny229 := Aside0.mk hy229
                                    clear hy229
                                    replace H := Option.bind_eq_some_iff.mp H
                                    obtain ⟨⟨t233, t234⟩, A370, H⟩ := H
                                    replace H : (if t234 = true then (if (t213.length : Int) > 0 then (some false) else (cuecardlaw09_TailEnds.l1 k3 y205 t213 y224 t227 t228 (y205.length : Int) (wrap64 (x78_3 + 1)))) else (cuecardlaw09_TailEnds.l1 k3 y205 t213 y224 t227 t228 (y205.length : Int) (wrap64 (x78_3 + 1)))) = some r := H
                                    have A37 := Aside0.mk A370
                                    clear A370
                                    by_cases c38 : t234 = true
                                    · subst c38
                                      have H1 : (if (t213.length : Int) > 0 then (some false) else (cuecardlaw09_TailEnds.l1 k3 y205 t213 y224 t227 t228 (y205.length : Int) (wrap64 (x78_3 + 1)))) = some r := by rw [if_pos rfl] at H; exact H
                                      clear H
                                      have H := H1
                                      clear H1
                                      by_cases c39 : (t213.length : Int) > 0
                                      · rw [if_pos c39] at H
                                        have c39b0 : decide (0 < (t213.length : Int)) = true := decide_eq_true c39
                                        have c39b1 : decide (0 < t213.length) = true := decide_eq_true (by omega)
                                        clear c39
                                        obtain rfl := Option.some.inj H
                                        have q40 : (x78_3 : Int) ≤ ((y224.length : Int) : Int) := of_decide_eq_true (by first | (with_reducible assumption) | assumption)
                                        obtain ⟨i040, hi040, _, hsz40, _⟩ := info_parts info5
                                        have hroom40 : y224.length ≤ co32 := (Kd.R_reads' HO_12.out).2.1
                                        have hC40 : Kd.C (Kd.int .u8) _ Ao32 y224.length y224 := (Kd.R_reads' HO_12.out).2.2
                                        have hcut40 := cut_to (P := Try.prog) 22 5 .i64 Try.underlying22 hi040 Ao32 y224.length co32 x78_3 (of_decide_eq_true (by first | (with_reducible assumption) | assumption)) q40 hroom40
                                        have hr40 := Kd.C_take (m := (x78_3 : Int).toNat) hC40 (by omega)
                                        have hy40 : y229.length = (x78_3 : Int).toNat := (by rw [Ny229.out, List.length_take]; omega)
                                        rw [← Ny229.out] at hr40
                                        rw [← hy40] at hcut40
                                        have HR232 := Aside0.mk hr40
                                        have HC232 := Aside0.mk (show y229.length ≤ co32 from by omega)
                                        clear hr40 hC40 hroom40 hi040 hsz40
                                        have KY40 := Aside0.mk hy40
                                        clear hy40
                                        have KL40 := Aside0.mk (show (x78_3 : Int).toNat ≤ y224.length from by omega)
                                        replace q40 := eq_true q40
                                        go_wp2_with (first | (go_at_call 14; (with_reducible refine (cuecardref09_Factors.calls k3 _ _ y229 _ _ t213 t233 true _ ?side1 ?side2 ?side3 ?side4 A37.out).mono ?_); (case side1 => repeat (first | exact (by repeat (first | (with_reducible exact HR232.out) | (with_reducible refine Kd.C_alloc ?_ _) | (with_reducible refine Kd.C_drewN ?_ _) | (with_reducible refine Kd.C_drew ?_) | exact HR232.out)) | (with_reducible refine Kd.C_alloc ?_ _) | (with_reducible refine Kd.C_drewN ?_ _) | (with_reducible refine Kd.C_drew ?_))); (case side2 => exact HC232.out); (case side3 => repeat (first | exact (Kd.S_reads' HO_8.out).2.2 | (with_reducible refine Kd.C_alloc ?_ _) | (with_reducible refine Kd.C_drewN ?_ _) | (with_reducible refine Kd.C_drew ?_))); (case side4 => exact (Kd.S_reads' HO_8.out).2.1); rintro e w41 ⟨rfl, hb⟩; have n0_ := Aside0.mk (Kd.S_below (by (with_reducible repeat (first | apply Kd.S_alloc | apply Kd.S_drewN | apply Kd.S_drew)); exact HO_8.out) hb); have n1_ := Aside0.mk (Kd.R_below (by (with_reducible repeat (first | apply Kd.R_alloc | apply Kd.R_drewN | apply Kd.R_drew)); exact HO_12.out) hb); have n2_ := Aside0.mk (Kd.C_below (by repeat (first | (with_reducible exact HR232.out) | (with_reducible refine Kd.C_alloc ?_ _) | (with_reducible refine Kd.C_drewN ?_ _) | (with_reducible refine Kd.C_drew ?_) | exact HR232.out)) hb); have n3_ := Aside0.mk (below_step (by repeat (first | (with_reducible first | exact HB.out | apply below_alloc | apply pw_below_drewN | apply below_drew1) | exact HB.out)) hb); clear HO_8; clear HO_12; clear HR232; clear HB; have HO_8 := n0_; have HO_12 := n1_; have HR232 := n2_; have HB := n3_; clear n0_ n1_ n2_ n3_; (try clear hb); (try clear hb2); (try clear hk); (try clear hi)))
                                        repeat (go_quiet (first | (go_at_call 14; (with_reducible refine (cuecardref09_Factors.calls k3 _ _ y229 _ _ t213 t233 true _ ?side1 ?side2 ?side3 ?side4 A37.out).mono ?_); (case side1 => repeat (first | exact (by repeat (first | (with_reducible exact HR232.out) | (with_reducible refine Kd.C_alloc ?_ _) | (with_reducible refine Kd.C_drewN ?_ _) | (with_reducible refine Kd.C_drew ?_) | exact HR232.out)) | (with_reducible refine Kd.C_alloc ?_ _) | (with_reducible refine Kd.C_drewN ?_ _) | (with_reducible refine Kd.C_drew ?_))); (case side2 => exact HC232.out); (case side3 => repeat (first | exact (Kd.S_reads' HO_8.out).2.2 | (with_reducible refine Kd.C_alloc ?_ _) | (with_reducible refine Kd.C_drewN ?_ _) | (with_reducible refine Kd.C_drew ?_))); (case side4 => exact (Kd.S_reads' HO_8.out).2.1); rintro e w41 ⟨rfl, hb⟩; have n0_ := Aside0.mk (Kd.S_below (by (with_reducible repeat (first | apply Kd.S_alloc | apply Kd.S_drewN | apply Kd.S_drew)); exact HO_8.out) hb); have n1_ := Aside0.mk (Kd.R_below (by (with_reducible repeat (first | apply Kd.R_alloc | apply Kd.R_drewN | apply Kd.R_drew)); exact HO_12.out) hb); have n2_ := Aside0.mk (Kd.C_below (by repeat (first | (with_reducible exact HR232.out) | (with_reducible refine Kd.C_alloc ?_ _) | (with_reducible refine Kd.C_drewN ?_ _) | (with_reducible refine Kd.C_drew ?_) | exact HR232.out)) hb); have n3_ := Aside0.mk (below_step (by repeat (first | (with_reducible first | exact HB.out | apply below_alloc | apply pw_below_drewN | apply below_drew1) | exact HB.out)) hb); clear HO_8; clear HO_12; clear HR232; clear HB; have HO_8 := n0_; have HO_12 := n1_; have HR232 := n2_; have HB := n3_; clear n0_ n1_ n2_ n3_; (try clear hb); (try clear hb2); (try clear hk); (try clear hi))); try go_wp2_with (first | (go_at_call 14; (with_reducible refine (cuecardref09_Factors.calls k3 _ _ y229 _ _ t213 t233 true _ ?side1 ?side2 ?side3 ?side4 A37.out).mono ?_); (case side1 => repeat (first | exact (by repeat (first | (with_reducible exact HR232.out) | (with_reducible refine Kd.C_alloc ?_ _) | (with_reducible refine Kd.C_drewN ?_ _) | (with_reducible refine Kd.C_drew ?_) | exact HR232.out)) | (with_reducible refine Kd.C_alloc ?_ _) | (with_reducible refine Kd.C_drewN ?_ _) | (with_reducible refine Kd.C_drew ?_))); (case side2 => exact HC232.out); (case side3 => repeat (first | exact (Kd.S_reads' HO_8.out).2.2 | (with_reducible refine Kd.C_alloc ?_ _) | (with_reducible refine Kd.C_drewN ?_ _) | (with_reducible refine Kd.C_drew ?_))); (case side4 => exact (Kd.S_reads' HO_8.out).2.1); rintro e w41 ⟨rfl, hb⟩; have n0_ := Aside0.mk (Kd.S_below (by (with_reducible repeat (first | apply Kd.S_alloc | apply Kd.S_drewN | apply Kd.S_drew)); exact HO_8.out) hb); have n1_ := Aside0.mk (Kd.R_below (by (with_reducible repeat (first | apply Kd.R_alloc | apply Kd.R_drewN | apply Kd.R_drew)); exact HO_12.out) hb); have n2_ := Aside0.mk (Kd.C_below (by repeat (first | (with_reducible exact HR232.out) | (with_reducible refine Kd.C_alloc ?_ _) | (with_reducible refine Kd.C_drewN ?_ _) | (with_reducible refine Kd.C_drew ?_) | exact HR232.out)) hb); have n3_ := Aside0.mk (below_step (by repeat (first | (with_reducible first | exact HB.out | apply below_alloc | apply pw_below_drewN | apply below_drew1) | exact HB.out)) hb); clear HO_8; clear HO_12; clear HR232; clear HB; have HO_8 := n0_; have HO_12 := n1_; have HR232 := n2_; have HB := n3_; clear n0_ n1_ n2_ n3_; (try clear hb); (try clear hb2); (try clear hk); (try clear hi))))
                                        go_ret
                                        exact ⟨by first | rfl | (simp [errW_none, errW_some] <;> rfl) | (simp only [← hji4, ← hji7, ← hji10]; first | rfl | (simp [errW_none, errW_some] <;> rfl)) | (simp [*, errW_none, errW_some] <;> rfl), by repeat (first | (with_reducible first | exact HB.out | apply below_alloc | apply pw_below_drewN | apply below_drew1) | exact HB.out)⟩
                                      · rw [if_neg c39] at H
                                        have c39b0 : decide (0 < (t213.length : Int)) = false := decide_eq_false c39
                                        have c39b1 : decide (0 < t213.length) = false := decide_eq_false (by omega)
                                        clear c39
                                        have H' := Aside0.mk H
                                        clear H
                                        have q42 : (x78_3 : Int) ≤ ((y224.length : Int) : Int) := of_decide_eq_true (by first | (with_reducible assumption) | assumption)
                                        obtain ⟨i042, hi042, _, hsz42, _⟩ := info_parts info5
                                        have hroom42 : y224.length ≤ co32 := (Kd.R_reads' HO_12.out).2.1
                                        have hC42 : Kd.C (Kd.int .u8) _ Ao32 y224.length y224 := (Kd.R_reads' HO_12.out).2.2
                                        have hcut42 := cut_to (P := Try.prog) 22 5 .i64 Try.underlying22 hi042 Ao32 y224.length co32 x78_3 (of_decide_eq_true (by first | (with_reducible assumption) | assumption)) q42 hroom42
                                        have hr42 := Kd.C_take (m := (x78_3 : Int).toNat) hC42 (by omega)
                                        have hy42 : y229.length = (x78_3 : Int).toNat := (by rw [Ny229.out, List.length_take]; omega)
                                        rw [← Ny229.out] at hr42
                                        rw [← hy42] at hcut42
                                        have HR232 := Aside0.mk hr42
                                        have HC232 := Aside0.mk (show y229.length ≤ co32 from by omega)
                                        clear hr42 hC42 hroom42 hi042 hsz42
                                        have KY42 := Aside0.mk hy42
                                        clear hy42
                                        have KL42 := Aside0.mk (show (x78_3 : Int).toNat ≤ y224.length from by omega)
                                        replace q42 := eq_true q42
                                        go_wp2_with (first | (go_at_call 14; (with_reducible refine (cuecardref09_Factors.calls k3 _ _ y229 _ _ t213 t233 true _ ?side1 ?side2 ?side3 ?side4 A37.out).mono ?_); (case side1 => repeat (first | exact (by repeat (first | (with_reducible exact HR232.out) | (with_reducible refine Kd.C_alloc ?_ _) | (with_reducible refine Kd.C_drewN ?_ _) | (with_reducible refine Kd.C_drew ?_) | exact HR232.out)) | (with_reducible refine Kd.C_alloc ?_ _) | (with_reducible refine Kd.C_drewN ?_ _) | (with_reducible refine Kd.C_drew ?_))); (case side2 => exact HC232.out); (case side3 => repeat (first | exact (Kd.S_reads' HO_8.out).2.2 | (with_reducible refine Kd.C_alloc ?_ _) | (with_reducible refine Kd.C_drewN ?_ _) | (with_reducible refine Kd.C_drew ?_))); (case side4 => exact (Kd.S_reads' HO_8.out).2.1); rintro e w43 ⟨rfl, hb⟩; have n0_ := Aside0.mk (Kd.S_below (by (with_reducible repeat (first | apply Kd.S_alloc | apply Kd.S_drewN | apply Kd.S_drew)); exact HO_8.out) hb); have n1_ := Aside0.mk (Kd.R_below (by (with_reducible repeat (first | apply Kd.R_alloc | apply Kd.R_drewN | apply Kd.R_drew)); exact HO_12.out) hb); have n2_ := Aside0.mk (Kd.C_below (by repeat (first | (with_reducible exact HR232.out) | (with_reducible refine Kd.C_alloc ?_ _) | (with_reducible refine Kd.C_drewN ?_ _) | (with_reducible refine Kd.C_drew ?_) | exact HR232.out)) hb); have n3_ := Aside0.mk (below_step (by repeat (first | (with_reducible first | exact HB.out | apply below_alloc | apply pw_below_drewN | apply below_drew1) | exact HB.out)) hb); clear HO_8; clear HO_12; clear HR232; clear HB; have HO_8 := n0_; have HO_12 := n1_; have HR232 := n2_; have HB := n3_; clear n0_ n1_ n2_ n3_; (try clear hb); (try clear hb2); (try clear hk); (try clear hi)))
                                        repeat (go_quiet (first | (go_at_call 14; (with_reducible refine (cuecardref09_Factors.calls k3 _ _ y229 _ _ t213 t233 true _ ?side1 ?side2 ?side3 ?side4 A37.out).mono ?_); (case side1 => repeat (first | exact (by repeat (first | (with_reducible exact HR232.out) | (with_reducible refine Kd.C_alloc ?_ _) | (with_reducible refine Kd.C_drewN ?_ _) | (with_reducible refine Kd.C_drew ?_) | exact HR232.out)) | (with_reducible refine Kd.C_alloc ?_ _) | (with_reducible refine Kd.C_drewN ?_ _) | (with_reducible refine Kd.C_drew ?_))); (case side2 => exact HC232.out); (case side3 => repeat (first | exact (Kd.S_reads' HO_8.out).2.2 | (with_reducible refine Kd.C_alloc ?_ _) | (with_reducible refine Kd.C_drewN ?_ _) | (with_reducible refine Kd.C_drew ?_))); (case side4 => exact (Kd.S_reads' HO_8.out).2.1); rintro e w43 ⟨rfl, hb⟩; have n0_ := Aside0.mk (Kd.S_below (by (with_reducible repeat (first | apply Kd.S_alloc | apply Kd.S_drewN | apply Kd.S_drew)); exact HO_8.out) hb); have n1_ := Aside0.mk (Kd.R_below (by (with_reducible repeat (first | apply Kd.R_alloc | apply Kd.R_drewN | apply Kd.R_drew)); exact HO_12.out) hb); have n2_ := Aside0.mk (Kd.C_below (by repeat (first | (with_reducible exact HR232.out) | (with_reducible refine Kd.C_alloc ?_ _) | (with_reducible refine Kd.C_drewN ?_ _) | (with_reducible refine Kd.C_drew ?_) | exact HR232.out)) hb); have n3_ := Aside0.mk (below_step (by repeat (first | (with_reducible first | exact HB.out | apply below_alloc | apply pw_below_drewN | apply below_drew1) | exact HB.out)) hb); clear HO_8; clear HO_12; clear HR232; clear HB; have HO_8 := n0_; have HO_12 := n1_; have HR232 := n2_; have HB := n3_; clear n0_ n1_ n2_ n3_; (try clear hb); (try clear hb2); (try clear hk); (try clear hi))); try go_wp2_with (first | (go_at_call 14; (with_reducible refine (cuecardref09_Factors.calls k3 _ _ y229 _ _ t213 t233 true _ ?side1 ?side2 ?side3 ?side4 A37.out).mono ?_); (case side1 => repeat (first | exact (by repeat (first | (with_reducible exact HR232.out) | (with_reducible refine Kd.C_alloc ?_ _) | (with_reducible refine Kd.C_drewN ?_ _) | (with_reducible refine Kd.C_drew ?_) | exact HR232.out)) | (with_reducible refine Kd.C_alloc ?_ _) | (with_reducible refine Kd.C_drewN ?_ _) | (with_reducible refine Kd.C_drew ?_))); (case side2 => exact HC232.out); (case side3 => repeat (first | exact (Kd.S_reads' HO_8.out).2.2 | (with_reducible refine Kd.C_alloc ?_ _) | (with_reducible refine Kd.C_drewN ?_ _) | (with_reducible refine Kd.C_drew ?_))); (case side4 => exact (Kd.S_reads' HO_8.out).2.1); rintro e w43 ⟨rfl, hb⟩; have n0_ := Aside0.mk (Kd.S_below (by (with_reducible repeat (first | apply Kd.S_alloc | apply Kd.S_drewN | apply Kd.S_drew)); exact HO_8.out) hb); have n1_ := Aside0.mk (Kd.R_below (by (with_reducible repeat (first | apply Kd.R_alloc | apply Kd.R_drewN | apply Kd.R_drew)); exact HO_12.out) hb); have n2_ := Aside0.mk (Kd.C_below (by repeat (first | (with_reducible exact HR232.out) | (with_reducible refine Kd.C_alloc ?_ _) | (with_reducible refine Kd.C_drewN ?_ _) | (with_reducible refine Kd.C_drew ?_) | exact HR232.out)) hb); have n3_ := Aside0.mk (below_step (by repeat (first | (with_reducible first | exact HB.out | apply below_alloc | apply pw_below_drewN | apply below_drew1) | exact HB.out)) hb); clear HO_8; clear HO_12; clear HR232; clear HB; have HO_8 := n0_; have HO_12 := n1_; have HR232 := n2_; have HB := n3_; clear n0_ n1_ n2_ n3_; (try clear hb); (try clear hb2); (try clear hk); (try clear hi))))
                                        go_roundg k3
                                        case measure => have := HJ11.out; have := HK2.out; have := HK3.out; omega
                                        case rel => exact ⟨(wrap64 (x78_3 + 1)), (by first | rfl | (simp; done) | (simp [*]; done)), H', ⟨by have := HJ11.out; have := HK2.out; have := HK3.out; omega⟩, ⟨by (with_reducible repeat (first | apply Kd.S_alloc | apply Kd.S_drewN | apply Kd.S_drew)); exact HO_8.out⟩, ⟨by (with_reducible repeat (first | apply Kd.R_alloc | apply Kd.R_drewN | apply Kd.R_drew)); exact HO_12.out⟩, ⟨by repeat (first | (with_reducible first | exact HB.out | apply below_alloc | apply pw_below_drewN | apply below_drew1) | exact HB.out)⟩⟩
                                    · replace c38 := Bool.eq_false_iff.mpr c38
                                      subst c38
                                      have H1 : (cuecardlaw09_TailEnds.l1 k3 y205 t213 y224 t227 t228 (y205.length : Int) (wrap64 (x78_3 + 1))) = some r := by rw [if_neg (show ¬ (false = true) by decide)] at H; exact H
                                      clear H
                                      have H := H1
                                      clear H1
                                      have H' := Aside0.mk H
                                      clear H
                                      have q44 : (x78_3 : Int) ≤ ((y224.length : Int) : Int) := of_decide_eq_true (by first | (with_reducible assumption) | assumption)
                                      obtain ⟨i044, hi044, _, hsz44, _⟩ := info_parts info5
                                      have hroom44 : y224.length ≤ co32 := (Kd.R_reads' HO_12.out).2.1
                                      have hC44 : Kd.C (Kd.int .u8) _ Ao32 y224.length y224 := (Kd.R_reads' HO_12.out).2.2
                                      have hcut44 := cut_to (P := Try.prog) 22 5 .i64 Try.underlying22 hi044 Ao32 y224.length co32 x78_3 (of_decide_eq_true (by first | (with_reducible assumption) | assumption)) q44 hroom44
                                      have hr44 := Kd.C_take (m := (x78_3 : Int).toNat) hC44 (by omega)
                                      have hy44 : y229.length = (x78_3 : Int).toNat := (by rw [Ny229.out, List.length_take]; omega)
                                      rw [← Ny229.out] at hr44
                                      rw [← hy44] at hcut44
                                      have HR232 := Aside0.mk hr44
                                      have HC232 := Aside0.mk (show y229.length ≤ co32 from by omega)
                                      clear hr44 hC44 hroom44 hi044 hsz44
                                      have KY44 := Aside0.mk hy44
                                      clear hy44
                                      have KL44 := Aside0.mk (show (x78_3 : Int).toNat ≤ y224.length from by omega)
                                      replace q44 := eq_true q44
                                      go_wp2_with (first | (go_at_call 14; (with_reducible refine (cuecardref09_Factors.calls k3 _ _ y229 _ _ t213 t233 false _ ?side1 ?side2 ?side3 ?side4 A37.out).mono ?_); (case side1 => repeat (first | exact (by repeat (first | (with_reducible exact HR232.out) | (with_reducible refine Kd.C_alloc ?_ _) | (with_reducible refine Kd.C_drewN ?_ _) | (with_reducible refine Kd.C_drew ?_) | exact HR232.out)) | (with_reducible refine Kd.C_alloc ?_ _) | (with_reducible refine Kd.C_drewN ?_ _) | (with_reducible refine Kd.C_drew ?_))); (case side2 => exact HC232.out); (case side3 => repeat (first | exact (Kd.S_reads' HO_8.out).2.2 | (with_reducible refine Kd.C_alloc ?_ _) | (with_reducible refine Kd.C_drewN ?_ _) | (with_reducible refine Kd.C_drew ?_))); (case side4 => exact (Kd.S_reads' HO_8.out).2.1); rintro e w45 ⟨rfl, hb⟩; have n0_ := Aside0.mk (Kd.S_below (by (with_reducible repeat (first | apply Kd.S_alloc | apply Kd.S_drewN | apply Kd.S_drew)); exact HO_8.out) hb); have n1_ := Aside0.mk (Kd.R_below (by (with_reducible repeat (first | apply Kd.R_alloc | apply Kd.R_drewN | apply Kd.R_drew)); exact HO_12.out) hb); have n2_ := Aside0.mk (Kd.C_below (by repeat (first | (with_reducible exact HR232.out) | (with_reducible refine Kd.C_alloc ?_ _) | (with_reducible refine Kd.C_drewN ?_ _) | (with_reducible refine Kd.C_drew ?_) | exact HR232.out)) hb); have n3_ := Aside0.mk (below_step (by repeat (first | (with_reducible first | exact HB.out | apply below_alloc | apply pw_below_drewN | apply below_drew1) | exact HB.out)) hb); clear HO_8; clear HO_12; clear HR232; clear HB; have HO_8 := n0_; have HO_12 := n1_; have HR232 := n2_; have HB := n3_; clear n0_ n1_ n2_ n3_; (try clear hb); (try clear hb2); (try clear hk); (try clear hi)))
                                      repeat (go_quiet (first | (go_at_call 14; (with_reducible refine (cuecardref09_Factors.calls k3 _ _ y229 _ _ t213 t233 false _ ?side1 ?side2 ?side3 ?side4 A37.out).mono ?_); (case side1 => repeat (first | exact (by repeat (first | (with_reducible exact HR232.out) | (with_reducible refine Kd.C_alloc ?_ _) | (with_reducible refine Kd.C_drewN ?_ _) | (with_reducible refine Kd.C_drew ?_) | exact HR232.out)) | (with_reducible refine Kd.C_alloc ?_ _) | (with_reducible refine Kd.C_drewN ?_ _) | (with_reducible refine Kd.C_drew ?_))); (case side2 => exact HC232.out); (case side3 => repeat (first | exact (Kd.S_reads' HO_8.out).2.2 | (with_reducible refine Kd.C_alloc ?_ _) | (with_reducible refine Kd.C_drewN ?_ _) | (with_reducible refine Kd.C_drew ?_))); (case side4 => exact (Kd.S_reads' HO_8.out).2.1); rintro e w45 ⟨rfl, hb⟩; have n0_ := Aside0.mk (Kd.S_below (by (with_reducible repeat (first | apply Kd.S_alloc | apply Kd.S_drewN | apply Kd.S_drew)); exact HO_8.out) hb); have n1_ := Aside0.mk (Kd.R_below (by (with_reducible repeat (first | apply Kd.R_alloc | apply Kd.R_drewN | apply Kd.R_drew)); exact HO_12.out) hb); have n2_ := Aside0.mk (Kd.C_below (by repeat (first | (with_reducible exact HR232.out) | (with_reducible refine Kd.C_alloc ?_ _) | (with_reducible refine Kd.C_drewN ?_ _) | (with_reducible refine Kd.C_drew ?_) | exact HR232.out)) hb); have n3_ := Aside0.mk (below_step (by repeat (first | (with_reducible first | exact HB.out | apply below_alloc | apply pw_below_drewN | apply below_drew1) | exact HB.out)) hb); clear HO_8; clear HO_12; clear HR232; clear HB; have HO_8 := n0_; have HO_12 := n1_; have HR232 := n2_; have HB := n3_; clear n0_ n1_ n2_ n3_; (try clear hb); (try clear hb2); (try clear hk); (try clear hi))); try go_wp2_with (first | (go_at_call 14; (with_reducible refine (cuecardref09_Factors.calls k3 _ _ y229 _ _ t213 t233 false _ ?side1 ?side2 ?side3 ?side4 A37.out).mono ?_); (case side1 => repeat (first | exact (by repeat (first | (with_reducible exact HR232.out) | (with_reducible refine Kd.C_alloc ?_ _) | (with_reducible refine Kd.C_drewN ?_ _) | (with_reducible refine Kd.C_drew ?_) | exact HR232.out)) | (with_reducible refine Kd.C_alloc ?_ _) | (with_reducible refine Kd.C_drewN ?_ _) | (with_reducible refine Kd.C_drew ?_))); (case side2 => exact HC232.out); (case side3 => repeat (first | exact (Kd.S_reads' HO_8.out).2.2 | (with_reducible refine Kd.C_alloc ?_ _) | (with_reducible refine Kd.C_drewN ?_ _) | (with_reducible refine Kd.C_drew ?_))); (case side4 => exact (Kd.S_reads' HO_8.out).2.1); rintro e w45 ⟨rfl, hb⟩; have n0_ := Aside0.mk (Kd.S_below (by (with_reducible repeat (first | apply Kd.S_alloc | apply Kd.S_drewN | apply Kd.S_drew)); exact HO_8.out) hb); have n1_ := Aside0.mk (Kd.R_below (by (with_reducible repeat (first | apply Kd.R_alloc | apply Kd.R_drewN | apply Kd.R_drew)); exact HO_12.out) hb); have n2_ := Aside0.mk (Kd.C_below (by repeat (first | (with_reducible exact HR232.out) | (with_reducible refine Kd.C_alloc ?_ _) | (with_reducible refine Kd.C_drewN ?_ _) | (with_reducible refine Kd.C_drew ?_) | exact HR232.out)) hb); have n3_ := Aside0.mk (below_step (by repeat (first | (with_reducible first | exact HB.out | apply below_alloc | apply pw_below_drewN | apply below_drew1) | exact HB.out)) hb); clear HO_8; clear HO_12; clear HR232; clear HB; have HO_8 := n0_; have HO_12 := n1_; have HR232 := n2_; have HB := n3_; clear n0_ n1_ n2_ n3_; (try clear hb); (try clear hb2); (try clear hk); (try clear hi))))
                                      go_roundg k3
                                      case measure => have := HJ11.out; have := HK2.out; have := HK3.out; omega
                                      case rel => exact ⟨(wrap64 (x78_3 + 1)), (by first | rfl | (simp; done) | (simp [*]; done)), H', ⟨by have := HJ11.out; have := HK2.out; have := HK3.out; omega⟩, ⟨by (with_reducible repeat (first | apply Kd.S_alloc | apply Kd.S_drewN | apply Kd.S_drew)); exact HO_8.out⟩, ⟨by (with_reducible repeat (first | apply Kd.R_alloc | apply Kd.R_drewN | apply Kd.R_drew)); exact HO_12.out⟩, ⟨by repeat (first | (with_reducible first | exact HB.out | apply below_alloc | apply pw_below_drewN | apply below_drew1) | exact HB.out)⟩⟩
                                  · rw [if_neg c36] at H
                                    exact absurd H (by simp)
                                · rw [if_neg c35] at H
                                  exact absurd H (by simp)
                              · rw [if_neg c34] at H
                                have c34b0 : decide (x78_3 < (y205.length : Int)) = false := decide_eq_false c34
                                clear c34
                                replace H := Option.bind_eq_some_iff.mp H
                                obtain ⟨t235, A460, H⟩ := H
                                replace H : (if t235 = true then (if t228 = true then (some (t227 == (y205.length : Int))) else (some false)) else (some false)) = some r := H
                                have A46 := Aside0.mk A460
                                clear A460
                                by_cases c47 : t235 = true
                                · subst c47
                                  have H1 : (if t228 = true then (some (t227 == (y205.length : Int))) else (some false)) = some r := by rw [if_pos rfl] at H; exact H
                                  clear H
                                  have H := H1
                                  clear H1
                                  by_cases c48 : t228 = true
                                  · subst c48
                                    have H1 : (some (t227 == (y205.length : Int))) = some r := by rw [if_pos rfl] at H; exact H
                                    clear H
                                    have H := H1
                                    clear H1
                                    obtain rfl := Option.some.inj H
                                    go_wp2_with (first | (go_at_call 12; (with_reducible refine (cuecardlaw09_alive.calls k3  true _ A46.out).mono ?_); rintro e w49 ⟨rfl, hb⟩; have n0_ := Aside0.mk (Kd.S_below (by (with_reducible repeat (first | apply Kd.S_alloc | apply Kd.S_drewN | apply Kd.S_drew)); exact HO_8.out) hb); have n1_ := Aside0.mk (Kd.R_below (by (with_reducible repeat (first | apply Kd.R_alloc | apply Kd.R_drewN | apply Kd.R_drew)); exact HO_12.out) hb); have n2_ := Aside0.mk (below_step (by repeat (first | (with_reducible first | exact HB.out | apply below_alloc | apply pw_below_drewN | apply below_drew1) | exact HB.out)) hb); clear HO_8; clear HO_12; clear HB; have HO_8 := n0_; have HO_12 := n1_; have HB := n2_; clear n0_ n1_ n2_; (try clear hb); (try clear hb2); (try clear hk); (try clear hi)))
                                    repeat (go_quiet (first | (go_at_call 12; (with_reducible refine (cuecardlaw09_alive.calls k3  true _ A46.out).mono ?_); rintro e w49 ⟨rfl, hb⟩; have n0_ := Aside0.mk (Kd.S_below (by (with_reducible repeat (first | apply Kd.S_alloc | apply Kd.S_drewN | apply Kd.S_drew)); exact HO_8.out) hb); have n1_ := Aside0.mk (Kd.R_below (by (with_reducible repeat (first | apply Kd.R_alloc | apply Kd.R_drewN | apply Kd.R_drew)); exact HO_12.out) hb); have n2_ := Aside0.mk (below_step (by repeat (first | (with_reducible first | exact HB.out | apply below_alloc | apply pw_below_drewN | apply below_drew1) | exact HB.out)) hb); clear HO_8; clear HO_12; clear HB; have HO_8 := n0_; have HO_12 := n1_; have HB := n2_; clear n0_ n1_ n2_; (try clear hb); (try clear hb2); (try clear hk); (try clear hi))); try go_wp2_with (first | (go_at_call 12; (with_reducible refine (cuecardlaw09_alive.calls k3  true _ A46.out).mono ?_); rintro e w49 ⟨rfl, hb⟩; have n0_ := Aside0.mk (Kd.S_below (by (with_reducible repeat (first | apply Kd.S_alloc | apply Kd.S_drewN | apply Kd.S_drew)); exact HO_8.out) hb); have n1_ := Aside0.mk (Kd.R_below (by (with_reducible repeat (first | apply Kd.R_alloc | apply Kd.R_drewN | apply Kd.R_drew)); exact HO_12.out) hb); have n2_ := Aside0.mk (below_step (by repeat (first | (with_reducible first | exact HB.out | apply below_alloc | apply pw_below_drewN | apply below_drew1) | exact HB.out)) hb); clear HO_8; clear HO_12; clear HB; have HO_8 := n0_; have HO_12 := n1_; have HB := n2_; clear n0_ n1_ n2_; (try clear hb); (try clear hb2); (try clear hk); (try clear hi))))
                                    go_ret
                                    exact ⟨by first | rfl | (simp [errW_none, errW_some] <;> rfl) | (simp only [← hji4, ← hji7, ← hji10]; first | rfl | (simp [errW_none, errW_some] <;> rfl)) | (simp [*, errW_none, errW_some] <;> rfl), by repeat (first | (with_reducible first | exact HB.out | apply below_alloc | apply pw_below_drewN | apply below_drew1) | exact HB.out)⟩
                                  · replace c48 := Bool.eq_false_iff.mpr c48
                                    subst c48
                                    have H1 : (some false) = some r := by rw [if_neg (show ¬ (false = true) by decide)] at H; exact H
                                    clear H
                                    have H := H1
                                    clear H1
                                    obtain rfl := Option.some.inj H
                                    go_wp2_with (first | (go_at_call 12; (with_reducible refine (cuecardlaw09_alive.calls k3  true _ A46.out).mono ?_); rintro e w50 ⟨rfl, hb⟩; have n0_ := Aside0.mk (Kd.S_below (by (with_reducible repeat (first | apply Kd.S_alloc | apply Kd.S_drewN | apply Kd.S_drew)); exact HO_8.out) hb); have n1_ := Aside0.mk (Kd.R_below (by (with_reducible repeat (first | apply Kd.R_alloc | apply Kd.R_drewN | apply Kd.R_drew)); exact HO_12.out) hb); have n2_ := Aside0.mk (below_step (by repeat (first | (with_reducible first | exact HB.out | apply below_alloc | apply pw_below_drewN | apply below_drew1) | exact HB.out)) hb); clear HO_8; clear HO_12; clear HB; have HO_8 := n0_; have HO_12 := n1_; have HB := n2_; clear n0_ n1_ n2_; (try clear hb); (try clear hb2); (try clear hk); (try clear hi)))
                                    repeat (go_quiet (first | (go_at_call 12; (with_reducible refine (cuecardlaw09_alive.calls k3  true _ A46.out).mono ?_); rintro e w50 ⟨rfl, hb⟩; have n0_ := Aside0.mk (Kd.S_below (by (with_reducible repeat (first | apply Kd.S_alloc | apply Kd.S_drewN | apply Kd.S_drew)); exact HO_8.out) hb); have n1_ := Aside0.mk (Kd.R_below (by (with_reducible repeat (first | apply Kd.R_alloc | apply Kd.R_drewN | apply Kd.R_drew)); exact HO_12.out) hb); have n2_ := Aside0.mk (below_step (by repeat (first | (with_reducible first | exact HB.out | apply below_alloc | apply pw_below_drewN | apply below_drew1) | exact HB.out)) hb); clear HO_8; clear HO_12; clear HB; have HO_8 := n0_; have HO_12 := n1_; have HB := n2_; clear n0_ n1_ n2_; (try clear hb); (try clear hb2); (try clear hk); (try clear hi))); try go_wp2_with (first | (go_at_call 12; (with_reducible refine (cuecardlaw09_alive.calls k3  true _ A46.out).mono ?_); rintro e w50 ⟨rfl, hb⟩; have n0_ := Aside0.mk (Kd.S_below (by (with_reducible repeat (first | apply Kd.S_alloc | apply Kd.S_drewN | apply Kd.S_drew)); exact HO_8.out) hb); have n1_ := Aside0.mk (Kd.R_below (by (with_reducible repeat (first | apply Kd.R_alloc | apply Kd.R_drewN | apply Kd.R_drew)); exact HO_12.out) hb); have n2_ := Aside0.mk (below_step (by repeat (first | (with_reducible first | exact HB.out | apply below_alloc | apply pw_below_drewN | apply below_drew1) | exact HB.out)) hb); clear HO_8; clear HO_12; clear HB; have HO_8 := n0_; have HO_12 := n1_; have HB := n2_; clear n0_ n1_ n2_; (try clear hb); (try clear hb2); (try clear hk); (try clear hi))))
                                    go_ret
                                    exact ⟨by first | rfl | (simp [errW_none, errW_some] <;> rfl) | (simp only [← hji4, ← hji7, ← hji10]; first | rfl | (simp [errW_none, errW_some] <;> rfl)) | (simp [*, errW_none, errW_some] <;> rfl), by repeat (first | (with_reducible first | exact HB.out | apply below_alloc | apply pw_below_drewN | apply below_drew1) | exact HB.out)⟩
                                · replace c47 := Bool.eq_false_iff.mpr c47
                                  subst c47
                                  have H1 : (some false) = some r := by rw [if_neg (show ¬ (false = true) by decide)] at H; exact H
                                  clear H
                                  have H := H1
                                  clear H1
                                  obtain rfl := Option.some.inj H
                                  go_wp2_with (first | (go_at_call 12; (with_reducible refine (cuecardlaw09_alive.calls k3  false _ A46.out).mono ?_); rintro e w51 ⟨rfl, hb⟩; have n0_ := Aside0.mk (Kd.S_below (by (with_reducible repeat (first | apply Kd.S_alloc | apply Kd.S_drewN | apply Kd.S_drew)); exact HO_8.out) hb); have n1_ := Aside0.mk (Kd.R_below (by (with_reducible repeat (first | apply Kd.R_alloc | apply Kd.R_drewN | apply Kd.R_drew)); exact HO_12.out) hb); have n2_ := Aside0.mk (below_step (by repeat (first | (with_reducible first | exact HB.out | apply below_alloc | apply pw_below_drewN | apply below_drew1) | exact HB.out)) hb); clear HO_8; clear HO_12; clear HB; have HO_8 := n0_; have HO_12 := n1_; have HB := n2_; clear n0_ n1_ n2_; (try clear hb); (try clear hb2); (try clear hk); (try clear hi)))
                                  repeat (go_quiet (first | (go_at_call 12; (with_reducible refine (cuecardlaw09_alive.calls k3  false _ A46.out).mono ?_); rintro e w51 ⟨rfl, hb⟩; have n0_ := Aside0.mk (Kd.S_below (by (with_reducible repeat (first | apply Kd.S_alloc | apply Kd.S_drewN | apply Kd.S_drew)); exact HO_8.out) hb); have n1_ := Aside0.mk (Kd.R_below (by (with_reducible repeat (first | apply Kd.R_alloc | apply Kd.R_drewN | apply Kd.R_drew)); exact HO_12.out) hb); have n2_ := Aside0.mk (below_step (by repeat (first | (with_reducible first | exact HB.out | apply below_alloc | apply pw_below_drewN | apply below_drew1) | exact HB.out)) hb); clear HO_8; clear HO_12; clear HB; have HO_8 := n0_; have HO_12 := n1_; have HB := n2_; clear n0_ n1_ n2_; (try clear hb); (try clear hb2); (try clear hk); (try clear hi))); try go_wp2_with (first | (go_at_call 12; (with_reducible refine (cuecardlaw09_alive.calls k3  false _ A46.out).mono ?_); rintro e w51 ⟨rfl, hb⟩; have n0_ := Aside0.mk (Kd.S_below (by (with_reducible repeat (first | apply Kd.S_alloc | apply Kd.S_drewN | apply Kd.S_drew)); exact HO_8.out) hb); have n1_ := Aside0.mk (Kd.R_below (by (with_reducible repeat (first | apply Kd.R_alloc | apply Kd.R_drewN | apply Kd.R_drew)); exact HO_12.out) hb); have n2_ := Aside0.mk (below_step (by repeat (first | (with_reducible first | exact HB.out | apply below_alloc | apply pw_below_drewN | apply below_drew1) | exact HB.out)) hb); clear HO_8; clear HO_12; clear HB; have HO_8 := n0_; have HO_12 := n1_; have HB := n2_; clear n0_ n1_ n2_; (try clear hb); (try clear hb2); (try clear hk); (try clear hi))))
                                  go_ret
                                  exact ⟨by first | rfl | (simp [errW_none, errW_some] <;> rfl) | (simp only [← hji4, ← hji7, ← hji10]; first | rfl | (simp [errW_none, errW_some] <;> rfl)) | (simp [*, errW_none, errW_some] <;> rfl), by repeat (first | (with_reducible first | exact HB.out | apply below_alloc | apply pw_below_drewN | apply below_drew1) | exact HB.out)⟩
                        · rw [if_neg c26] at H
                          exact absurd H (by simp)
                      · rw [if_neg c25] at H
                        exact absurd H (by simp)
        · rw [if_neg c9] at H
          exact absurd H (by simp)
      · rw [if_neg c8] at H
        exact absurd H (by simp)
    · rw [if_neg c6] at H
      exact absurd H (by simp)
  · rw [if_neg c5] at H
    exact absurd H (by simp)

end Go.Proofs.Ytdeoingjkomdcaa.QA
