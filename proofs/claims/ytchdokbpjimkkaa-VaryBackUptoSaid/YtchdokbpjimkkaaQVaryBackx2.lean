-- Written for this claim by a program of this session's, out of Lean's own print of the program; Lean checks it.
import Derived.Test.YtchdokbpjimkkaaQVaryBackx0
import Derived.Test.YtchdokbpjimkkaaQVaryBackx1
namespace Go.Proofs.Ytchdokbpjimkkaa.QVaryBack
open Go.RowKit Go.Proofs.YtchdokbpjimkkaaW.PrintWords Go.Proofs.YtchdokbpjimkkaaW.PrintLast Go.Proofs.YtchdokbpjimkkaaW.PrintMore
attribute [local go_sem] max2_int min2_int max_two min_two max_three min_three max_four min_four   -- for this text's walks alone
set_option linter.unusedVariables false
set_option linter.unusedSimpArgs false

/-! ### cuecardlaw02_VaryBack: function 4 -/
mutual
def cuecardlaw02_VaryBack.j0 : Nat → List Int → Bool → Option (Bool)
  | 0, _, _ => none
  | k + 1, x7, x58 => if x58 = true then (some false) else (cuecardlaw02_VaryBack.l0 k x7 (x7.length : Int) 0)
def cuecardlaw02_VaryBack.l0 : Nat → List Int → Int → Int → Option (Bool)
  | 0, _, _, _ => none
  | k + 1, x7, x60, x61 => if x61 < x60 then (if 0 ≤ x61 then (if x61 ≤ (x7.length : Int) then ((vary_Get.f k (x7.take (x61 : Int).toNat) 0).bind fun bt151 => (if bt151.2.2 = 5 then (cuecardlaw02_VaryBack.l0 k x7 x60 (wrap64 (x61 + 1))) else (some false))) else (none)) else (none)) else ((cuecardlaw02_alive.f k).bind fun t154 => (some t154))
end
def cuecardlaw02_VaryBack.f (k : Nat) (a0 : Int) (l1 : List Int) (l2 : List Int) : Option (Bool) := (vary_Put.f k a0).bind fun t129 => ((some (([] : List Int) : List Int)).bind fun y132 => (if y132.length + l1.length < 140737488355328 then ((some (y132 ++ l1 : List Int)).bind fun y135 => (if y135.length + t129.length < 140737488355328 then ((some (y135 ++ t129 : List Int)).bind fun y138 => (if y138.length + l2.length < 140737488355328 then ((vary_Get.f k (y138 ++ l2) (l1.length : Int)).bind fun bt144 => (if bt144.2.2 = 0 then (if bt144.1 = a0 then (if bt144.2.1 = (wrap64 ((l1.length : Int) + (t129.length : Int))) then (if (t129.length : Int) = 0 then (cuecardlaw02_VaryBack.j0 k t129 true) else (cuecardlaw02_VaryBack.j0 k t129 (decide ((t129.length : Int) > 10)))) else (cuecardlaw02_VaryBack.j0 k t129 true)) else (cuecardlaw02_VaryBack.j0 k t129 true)) else (cuecardlaw02_VaryBack.j0 k t129 true))) else (none))) else (none))) else (none)))
theorem cuecardlaw02_VaryBack.mono_l : ∀ k, (∀ y0 y1, LeO (cuecardlaw02_VaryBack.j0 k y0 y1) (cuecardlaw02_VaryBack.j0 (k + 1) y0 y1)) ∧ (∀ y0 y1 y2, LeO (cuecardlaw02_VaryBack.l0 k y0 y1 y2) (cuecardlaw02_VaryBack.l0 (k + 1) y0 y1 y2))
  | 0 => ⟨fun _ _ r h => by simp [cuecardlaw02_VaryBack.j0] at h, fun _ _ _ r h => by simp [cuecardlaw02_VaryBack.l0] at h⟩
  | k + 1 => by
    obtain ⟨ih0, ih1⟩ := cuecardlaw02_VaryBack.mono_l k
    refine ⟨?_, ?_⟩
    · intro y0 y1
      unfold cuecardlaw02_VaryBack.j0
      repeat' first
      | (with_reducible exact ih0 _ _)
      | (with_reducible exact ih1 _ _ _)
      | (with_reducible exact cuecardlaw02_alive.mono _)
      | (with_reducible exact vary_Get.mono _ _ _)
      | (with_reducible exact vary_Put.mono _ _)
      | (with_reducible exact LeO.refl _)
      | (with_reducible exact LeO.none _)
      | (with_reducible refine LeO.ite ?_ ?_)
      | (with_reducible refine LeO.bind ?_ (fun _ => ?_))
      | exact ih0 _ _
      | exact ih1 _ _ _
      | exact cuecardlaw02_alive.mono _
      | exact vary_Get.mono _ _ _
      | exact vary_Put.mono _ _
      | exact LeO.none _
      | refine LeO.ite ?_ ?_
      | refine LeO.bind ?_ (fun _ => ?_)
    · intro y0 y1 y2
      unfold cuecardlaw02_VaryBack.l0
      repeat' first
      | (with_reducible exact ih0 _ _)
      | (with_reducible exact ih1 _ _ _)
      | (with_reducible exact cuecardlaw02_alive.mono _)
      | (with_reducible exact vary_Get.mono _ _ _)
      | (with_reducible exact vary_Put.mono _ _)
      | (with_reducible exact LeO.refl _)
      | (with_reducible exact LeO.none _)
      | (with_reducible refine LeO.ite ?_ ?_)
      | (with_reducible refine LeO.bind ?_ (fun _ => ?_))
      | exact ih0 _ _
      | exact ih1 _ _ _
      | exact cuecardlaw02_alive.mono _
      | exact vary_Get.mono _ _ _
      | exact vary_Put.mono _ _
      | exact LeO.none _
      | refine LeO.ite ?_ ?_
      | refine LeO.bind ?_ (fun _ => ?_)
theorem cuecardlaw02_VaryBack.mono : ∀ a0 a1 a2 k, LeO (cuecardlaw02_VaryBack.f k a0 a1 a2) (cuecardlaw02_VaryBack.f (k + 1) a0 a1 a2) := by
  intro a0 a1 a2 k
  obtain ⟨ih0, ih1⟩ := cuecardlaw02_VaryBack.mono_l k
  unfold cuecardlaw02_VaryBack.f
  repeat' first
      | (with_reducible exact ih0 _ _)
      | (with_reducible exact ih1 _ _ _)
      | (with_reducible exact cuecardlaw02_alive.mono _)
      | (with_reducible exact vary_Get.mono _ _ _)
      | (with_reducible exact vary_Put.mono _ _)
      | (with_reducible exact LeO.refl _)
      | (with_reducible exact LeO.none _)
      | (with_reducible refine LeO.ite ?_ ?_)
      | (with_reducible refine LeO.bind ?_ (fun _ => ?_))
      | exact ih0 _ _
      | exact ih1 _ _ _
      | exact cuecardlaw02_alive.mono _
      | exact vary_Get.mono _ _ _
      | exact vary_Put.mono _ _
      | exact LeO.none _
      | refine LeO.ite ?_ ?_
      | refine LeO.bind ?_ (fun _ => ?_)
set_option maxHeartbeats 8000000 in
set_option maxRecDepth 100000 in
theorem cuecardlaw02_VaryBack.calls (k : Nat) (a0 : Int) (A1 : Option Addr) (c1 : Nat) (l1 : List Int) (A2 : Option Addr) (c2 : Nat) (l2 : List Int) (r : Bool) (w : World) (hr1 : Kd.C (Kd.int .u8) w A1 l1.length l1) (hc1 : l1.length ≤ c1) (hr2 : Kd.C (Kd.int .u8) w A2 l2.length l2) (hc2 : l2.length ≤ c2) (h : cuecardlaw02_VaryBack.f k a0 l1 l2 = some r) :
    Calls Try.prog 4 #[.int .u64 a0, .slice A1 l1.length c1, .slice A2 l2.length c2] w fun e w' => e = .returned (.bool r) ∧ Below w.heap.size w w' := by
  have HR1 := Aside0.mk hr1
  have HC1 := Aside0.mk hc1
  clear hr1 hc1
  have HR2 := Aside0.mk hr2
  have HC2 := Aside0.mk hc2
  clear hr2 hc2
  have HB := Aside0.mk (Below.refl w.heap.size w)
  have H : ((vary_Put.f k a0).bind fun t129 => ((some (([] : List Int) : List Int)).bind fun y132 => (if y132.length + l1.length < 140737488355328 then ((some (y132 ++ l1 : List Int)).bind fun y135 => (if y135.length + t129.length < 140737488355328 then ((some (y135 ++ t129 : List Int)).bind fun y138 => (if y138.length + l2.length < 140737488355328 then ((vary_Get.f k (y138 ++ l2) (l1.length : Int)).bind fun bt144 => (if bt144.2.2 = 0 then (if bt144.1 = a0 then (if bt144.2.1 = (wrap64 ((l1.length : Int) + (t129.length : Int))) then (if (t129.length : Int) = 0 then (cuecardlaw02_VaryBack.j0 k t129 true) else (cuecardlaw02_VaryBack.j0 k t129 (decide ((t129.length : Int) > 10)))) else (cuecardlaw02_VaryBack.j0 k t129 true)) else (cuecardlaw02_VaryBack.j0 k t129 true)) else (cuecardlaw02_VaryBack.j0 k t129 true))) else (none))) else (none))) else (none)))) = some r := h
  clear h
  replace H := Option.bind_eq_some_iff.mp H
  obtain ⟨t129, A40, H⟩ := H
  replace H : ((some (([] : List Int) : List Int)).bind fun y132 => (if y132.length + l1.length < 140737488355328 then ((some (y132 ++ l1 : List Int)).bind fun y135 => (if y135.length + t129.length < 140737488355328 then ((some (y135 ++ t129 : List Int)).bind fun y138 => (if y138.length + l2.length < 140737488355328 then ((vary_Get.f k (y138 ++ l2) (l1.length : Int)).bind fun bt144 => (if bt144.2.2 = 0 then (if bt144.1 = a0 then (if bt144.2.1 = (wrap64 ((l1.length : Int) + (t129.length : Int))) then (if (t129.length : Int) = 0 then (cuecardlaw02_VaryBack.j0 k t129 true) else (cuecardlaw02_VaryBack.j0 k t129 (decide ((t129.length : Int) > 10)))) else (cuecardlaw02_VaryBack.j0 k t129 true)) else (cuecardlaw02_VaryBack.j0 k t129 true)) else (cuecardlaw02_VaryBack.j0 k t129 true))) else (none))) else (none))) else (none))) = some r := H
  have A4 := Aside0.mk A40
  clear A40
  obtain ⟨y132, hy132⟩ : ∃ y_ : List Int, y_ = (([] : List Int)) := ⟨_, rfl⟩
  replace H : (if y132.length + l1.length < 140737488355328 then ((some (y132 ++ l1 : List Int)).bind fun y135 => (if y135.length + t129.length < 140737488355328 then ((some (y135 ++ t129 : List Int)).bind fun y138 => (if y138.length + l2.length < 140737488355328 then ((vary_Get.f k (y138 ++ l2) (l1.length : Int)).bind fun bt144 => (if bt144.2.2 = 0 then (if bt144.1 = a0 then (if bt144.2.1 = (wrap64 ((l1.length : Int) + (t129.length : Int))) then (if (t129.length : Int) = 0 then (cuecardlaw02_VaryBack.j0 k t129 true) else (cuecardlaw02_VaryBack.j0 k t129 (decide ((t129.length : Int) > 10)))) else (cuecardlaw02_VaryBack.j0 k t129 true)) else (cuecardlaw02_VaryBack.j0 k t129 true)) else (cuecardlaw02_VaryBack.j0 k t129 true))) else (none))) else (none))) else (none)) = some r := by first | (rw [hy132]; with_reducible exact H) | (have H2_ := (Option.bind_some _ _).symm.trans H; rw [hy132]; with_reducible exact H2_) | (have H2_ := (Option.bind_some _ _).symm.trans H; with_reducible exact H2_) | with_reducible exact H | (rw [hy132]; exact H) | exact H
  have Ny132 := Aside0.mk hy132
  clear hy132
  by_cases c5 : y132.length + l1.length < 140737488355328
  · rw [if_pos c5] at H
    have LMc5 := Aside0.mk c5
    clear c5
    obtain ⟨y135, hy135⟩ : ∃ y_ : List Int, y_ = (y132 ++ l1) := ⟨_, rfl⟩
    replace H : (if y135.length + t129.length < 140737488355328 then ((some (y135 ++ t129 : List Int)).bind fun y138 => (if y138.length + l2.length < 140737488355328 then ((vary_Get.f k (y138 ++ l2) (l1.length : Int)).bind fun bt144 => (if bt144.2.2 = 0 then (if bt144.1 = a0 then (if bt144.2.1 = (wrap64 ((l1.length : Int) + (t129.length : Int))) then (if (t129.length : Int) = 0 then (cuecardlaw02_VaryBack.j0 k t129 true) else (cuecardlaw02_VaryBack.j0 k t129 (decide ((t129.length : Int) > 10)))) else (cuecardlaw02_VaryBack.j0 k t129 true)) else (cuecardlaw02_VaryBack.j0 k t129 true)) else (cuecardlaw02_VaryBack.j0 k t129 true))) else (none))) else (none)) = some r := by first | (rw [hy135]; with_reducible exact H) | (have H2_ := (Option.bind_some _ _).symm.trans H; rw [hy135]; with_reducible exact H2_) | (have H2_ := (Option.bind_some _ _).symm.trans H; with_reducible exact H2_) | with_reducible exact H | (rw [hy135]; exact H) | exact H
    have Ny135 := Aside0.mk hy135
    clear hy135
    by_cases c6 : y135.length + t129.length < 140737488355328
    · rw [if_pos c6] at H
      have LMc6 := Aside0.mk c6
      clear c6
      obtain ⟨y138, hy138⟩ : ∃ y_ : List Int, y_ = (y135 ++ t129) := ⟨_, rfl⟩
      replace H : (if y138.length + l2.length < 140737488355328 then ((vary_Get.f k (y138 ++ l2) (l1.length : Int)).bind fun bt144 => (if bt144.2.2 = 0 then (if bt144.1 = a0 then (if bt144.2.1 = (wrap64 ((l1.length : Int) + (t129.length : Int))) then (if (t129.length : Int) = 0 then (cuecardlaw02_VaryBack.j0 k t129 true) else (cuecardlaw02_VaryBack.j0 k t129 (decide ((t129.length : Int) > 10)))) else (cuecardlaw02_VaryBack.j0 k t129 true)) else (cuecardlaw02_VaryBack.j0 k t129 true)) else (cuecardlaw02_VaryBack.j0 k t129 true))) else (none)) = some r := by first | (rw [hy138]; with_reducible exact H) | (have H2_ := (Option.bind_some _ _).symm.trans H; rw [hy138]; with_reducible exact H2_) | (have H2_ := (Option.bind_some _ _).symm.trans H; with_reducible exact H2_) | with_reducible exact H | (rw [hy138]; exact H) | exact H
      have Ny138 := Aside0.mk hy138
      clear hy138
      by_cases c7 : y138.length + l2.length < 140737488355328
      · rw [if_pos c7] at H
        have LMc7 := Aside0.mk c7
        clear c7
        obtain ⟨y141, hy141⟩ : ∃ y_ : List Int, y_ = (y138 ++ l2) := ⟨_, rfl⟩
        replace H : ((vary_Get.f k y141 (l1.length : Int)).bind fun bt144 => (if bt144.2.2 = 0 then (if bt144.1 = a0 then (if bt144.2.1 = (wrap64 ((l1.length : Int) + (t129.length : Int))) then (if (t129.length : Int) = 0 then (cuecardlaw02_VaryBack.j0 k t129 true) else (cuecardlaw02_VaryBack.j0 k t129 (decide ((t129.length : Int) > 10)))) else (cuecardlaw02_VaryBack.j0 k t129 true)) else (cuecardlaw02_VaryBack.j0 k t129 true)) else (cuecardlaw02_VaryBack.j0 k t129 true))) = some r := by first | (rw [hy141]; with_reducible exact H) | (have H2_ := (Option.bind_some _ _).symm.trans H; rw [hy141]; with_reducible exact H2_) | (have H2_ := (Option.bind_some _ _).symm.trans H; with_reducible exact H2_) | with_reducible exact H | (rw [hy141]; exact H) | exact H
        have Ny141 := Aside0.mk hy141
        clear hy141
        replace H := Option.bind_eq_some_iff.mp H
        obtain ⟨⟨t144, t145, t146⟩, A80, H⟩ := H
        replace H : (if t146 = 0 then (if t144 = a0 then (if t145 = (wrap64 ((l1.length : Int) + (t129.length : Int))) then (if (t129.length : Int) = 0 then (cuecardlaw02_VaryBack.j0 k t129 true) else (cuecardlaw02_VaryBack.j0 k t129 (decide ((t129.length : Int) > 10)))) else (cuecardlaw02_VaryBack.j0 k t129 true)) else (cuecardlaw02_VaryBack.j0 k t129 true)) else (cuecardlaw02_VaryBack.j0 k t129 true)) = some r := H
        have A8 := Aside0.mk A80
        clear A80
        have HC9 := Aside0.mk H
        clear H
        go_enter Try.func4, Try.ntmps4
        go_upto_region 4 with (first | ((with_reducible refine gate_callee (f := 12) rfl ?_); refine goesL_ (some 17) rfl rfl Try.func12 (by kernel_rfl) rfl #[.int .u64 a0] rfl (by (try simp only [List.map_toArray, List.map_cons, List.map_nil]); first | done | rfl | (simp only [List.length_drop, List.length_take]; rfl)) ?_; (with_reducible refine (vary_Put.calls k a0 t129 _ A4.out).mono ?_); rintro e w10 ⟨v130, rfl, ho0, hb⟩; refine ⟨_, rfl, ?_⟩; have n0_ := Aside0.mk (Kd.R_lower ho0 (below_size (by repeat (first | (with_reducible first | exact HB.out | apply below_alloc | apply pw_below_drewN | apply below_drew1) | exact HB.out)))); have n1_ := Aside0.mk (below_step (by repeat (first | (with_reducible first | exact HB.out | apply below_alloc | apply pw_below_drewN | apply below_drew1) | exact HB.out)) hb); clear HB; have HO131 := n0_; have HB := n1_; clear n0_ n1_; (try clear hb); (try clear hb2); (try clear hk); (try clear hi); (try clear ho0)) | ((with_reducible refine gate_dst (N := 18) rfl ?_); (try (refine gate_guard (by rfl) ?_; dsimp only)); refine Kd.R_lit (Kd.int .u8) _ 5 ?hg (N := 18) ?hd (xs := ([] : List Int)) (inner := []) (ok := fun _ => True) (okp := fun _ => True) ?hr ?hp (fun _ hk => hk) trivial (Below.refl _ _) (Nat.le_refl _) (by simp) ?_; (case hd => rfl); (case hg => rfl); (case hr => first | (go_simp; done) | (go_simp; rfl)); (case hp => exact (Reps.none _ _)); intro v133 w11 ho12 hb hg_ hnew_; clear hg_ hnew_; (first | rw [← Ny132.out] at ho12 | (simp only [Int.reduceToNat] at ho12; rw [← Ny132.out] at ho12)); have n0_ := Aside0.mk (Kd.R_elder' (by (with_reducible repeat (first | apply Kd.R_alloc | apply Kd.R_drewN | apply Kd.R_drew)); exact HO131.out) (Kd.R_base ho12) hb); have n1_ := Aside0.mk (Kd.R_lower (Kd.R_new' ho12 (Kd.R_lt (by (with_reducible repeat (first | apply Kd.R_alloc | apply Kd.R_drewN | apply Kd.R_drew)); exact HO131.out))) (below_size (by repeat (first | (with_reducible first | exact HB.out | apply below_alloc | apply pw_below_drewN | apply below_drew1) | exact HB.out)))); have n2_ := Aside0.mk (below_step (by repeat (first | (with_reducible first | exact HB.out | apply below_alloc | apply pw_below_drewN | apply below_drew1) | exact HB.out)) hb); clear HO131; clear HB; have HO131 := n0_; have HO134 := n1_; have HB := n2_; clear n0_ n1_ n2_; clear hb ho12) | ((with_reducible refine gate_builtin (b := .append) (xs := #[.tmp 18, .tmp 19]) rfl ?_); (try (refine gate_guard (by rfl) ?_; dsimp only)); at_builtin; refine Kd.R_append_rows (Kd.int .u8) (w0 := w) w.heap.size rfl (.tmp 18) (.tmp 19) 22 5 (.int .u8 0) 1 rfl Try.underlying22 info5 rfl (by decide) (by omega) v133 y132 l1 _ _ _ (fun k_ => some k_ ≠ (v130 : Value).ownBlock) (fun _ => False) rfl rfl ?aO ?aR (fun _ _ h => h) (fun _ h => h.elim) ?aF ?aB ?aS ?aL ?_; (case aR => repeat (first | exact (Kd.C_below HR1.out HB.out) | (with_reducible refine Kd.C_alloc ?_ _) | (with_reducible refine Kd.C_drewN ?_ _) | (with_reducible refine Kd.C_drew ?_))); (case aB => exact (by repeat (first | (with_reducible first | exact HB.out | apply below_alloc | apply pw_below_drewN | apply below_drew1) | exact HB.out))); (case aF => exact (fun k_ hk => Kd.fresh' (Kd.R_lt (by (with_reducible repeat (first | apply Kd.R_alloc | apply Kd.R_drewN | apply Kd.R_drew)); exact HO131.out)) k_ hk)); (case aO => exact (by (with_reducible repeat (first | apply Kd.R_alloc | apply Kd.R_drewN | apply Kd.R_drew)); exact Kd.R_mono HO134.out (fun _ hk => hk.2))); (case aS => exact (below_size (by repeat (first | (with_reducible first | exact HB.out | apply below_alloc | apply pw_below_drewN | apply below_drew1) | exact HB.out)))); (case aL => have := LMc5.out; omega); intro v136 w13 ho hb hg hat; rw [← Ny135.out] at ho; have n0_ := Aside0.mk (Kd.R_after (ok := (fun _ => True)) (by (with_reducible repeat (first | apply Kd.R_alloc | apply Kd.R_drewN | apply Kd.R_drew)); exact HO131.out) hg hat); have n1_ := Aside0.mk (hb); have n2_ := Aside0.mk (ho); clear HO131; clear HB; clear HO134; have HO131 := n0_; have HB := n1_; have HO137 := n2_; clear n0_ n1_ n2_; clear ho hb hg hat; obtain ⟨Ao15, co15, eo15⟩ := Kd.R_slice HO131.out; subst eo15) | ((with_reducible refine gate_builtin (b := .append) (xs := #[.tmp 20, .tmp 21]) rfl ?_); (try (refine gate_guard (by rfl) ?_; dsimp only)); at_builtin; refine Kd.R_append_rows (Kd.int .u8) (w0 := w) w.heap.size rfl (.tmp 20) (.tmp 21) 22 5 (.int .u8 0) 1 rfl Try.underlying22 info5 rfl (by decide) (by omega) v136 y135 t129 _ _ _ (fun k_ => some k_ ≠ (.slice Ao15 t129.length co15 : Value).ownBlock) (fun _ => False) rfl rfl ?aO ?aR (fun _ _ h => h) (fun _ h => h.elim) ?aF ?aB ?aS ?aL ?_; (case aR => repeat (first | exact (Kd.R_reads' HO131.out).2.2 | (with_reducible refine Kd.C_alloc ?_ _) | (with_reducible refine Kd.C_drewN ?_ _) | (with_reducible refine Kd.C_drew ?_))); (case aB => exact (by repeat (first | (with_reducible first | exact HB.out | apply below_alloc | apply pw_below_drewN | apply below_drew1) | exact HB.out))); (case aF => exact (fun k_ hk => Kd.fresh' (Kd.R_lt (by (with_reducible repeat (first | apply Kd.R_alloc | apply Kd.R_drewN | apply Kd.R_drew)); exact HO131.out)) k_ hk)); (case aO => exact (by (with_reducible repeat (first | apply Kd.R_alloc | apply Kd.R_drewN | apply Kd.R_drew)); exact HO137.out)); (case aS => exact (below_size (by repeat (first | (with_reducible first | exact HB.out | apply below_alloc | apply pw_below_drewN | apply below_drew1) | exact HB.out)))); (case aL => have := LMc6.out; omega); intro v139 w14 ho hb hg hat; rw [← Ny138.out] at ho; have n0_ := Aside0.mk (Kd.R_after (ok := (fun _ => True)) (by (with_reducible repeat (first | apply Kd.R_alloc | apply Kd.R_drewN | apply Kd.R_drew)); exact HO131.out) hg hat); have n1_ := Aside0.mk (hb); have n2_ := Aside0.mk (ho); clear HO131; clear HB; clear HO137; have HO131 := n0_; have HB := n1_; have HO140 := n2_; clear n0_ n1_ n2_; clear ho hb hg hat) | ((with_reducible refine gate_builtin (b := .append) (xs := #[.tmp 22, .tmp 23]) rfl ?_); (try (refine gate_guard (by rfl) ?_; dsimp only)); at_builtin; refine Kd.R_append_rows (Kd.int .u8) (w0 := w) w.heap.size rfl (.tmp 22) (.tmp 23) 22 5 (.int .u8 0) 1 rfl Try.underlying22 info5 rfl (by decide) (by omega) v139 y138 l2 _ _ _ (fun k_ => some k_ ≠ (.slice Ao15 t129.length co15 : Value).ownBlock) (fun _ => False) rfl rfl ?aO ?aR (fun _ _ h => h) (fun _ h => h.elim) ?aF ?aB ?aS ?aL ?_; (case aR => repeat (first | exact (Kd.C_below HR2.out HB.out) | (with_reducible refine Kd.C_alloc ?_ _) | (with_reducible refine Kd.C_drewN ?_ _) | (with_reducible refine Kd.C_drew ?_))); (case aB => exact (by repeat (first | (with_reducible first | exact HB.out | apply below_alloc | apply pw_below_drewN | apply below_drew1) | exact HB.out))); (case aF => exact (fun k_ hk => Kd.fresh' (Kd.R_lt (by (with_reducible repeat (first | apply Kd.R_alloc | apply Kd.R_drewN | apply Kd.R_drew)); exact HO131.out)) k_ hk)); (case aO => exact (by (with_reducible repeat (first | apply Kd.R_alloc | apply Kd.R_drewN | apply Kd.R_drew)); exact HO140.out)); (case aS => exact (below_size (by repeat (first | (with_reducible first | exact HB.out | apply below_alloc | apply pw_below_drewN | apply below_drew1) | exact HB.out)))); (case aL => have := LMc7.out; omega); intro v142 w16 ho hb hg hat; rw [← Ny141.out] at ho; have n0_ := Aside0.mk (Kd.R_after (ok := (fun _ => True)) (by (with_reducible repeat (first | apply Kd.R_alloc | apply Kd.R_drewN | apply Kd.R_drew)); exact HO131.out) hg hat); have n1_ := Aside0.mk (hb); have n2_ := Aside0.mk (ho); clear HO131; clear HB; clear HO140; have HO131 := n0_; have HB := n1_; have HO143 := n2_; clear n0_ n1_ n2_; clear ho hb hg hat; obtain ⟨Ao17, co17, eo17⟩ := Kd.R_slice HO143.out; subst eo17) | ((with_reducible refine gate_callee (f := 9) rfl ?_); refine goesL_ (some 29) rfl rfl Try.func9 (by kernel_rfl) rfl #[.slice Ao17 y141.length co17, .int .i64 (l1.length : Int)] rfl (by (try simp only [List.map_toArray, List.map_cons, List.map_nil]); first | done | rfl | (simp only [List.length_drop, List.length_take]; rfl)) ?_; (with_reducible refine (vary_Get.calls k _ _ y141 (l1.length : Int) t144 t145 t146 _ ?side1 ?side2 A8.out).mono ?_); (case side1 => repeat (first | exact (Kd.R_reads' HO143.out).2.2 | (with_reducible refine Kd.C_alloc ?_ _) | (with_reducible refine Kd.C_drewN ?_ _) | (with_reducible refine Kd.C_drew ?_))); (case side2 => exact (Kd.R_reads' HO143.out).2.1); rintro e w' ⟨rfl, ⟨nd, rfl⟩⟩; refine ⟨_, rfl, ?_⟩))
        (try simp only [Act.put, List.setIfInBounds_toArray, List.set_cons_zero, List.set_cons_succ])
        go_cut [58] (fun v58 wc => ∃ (kq : Nat) (x58_8 : Bool), v58 = .bool x58_8 ∧ Aside0 (cuecardlaw02_VaryBack.j0 kq t129 x58_8 = some r) ∧ Aside0 (kq ≤ k) ∧ Aside0 (Kd.R (Kd.int .u8) 5 wc w.heap.size (fun _ => True) (.slice Ao15 t129.length co15) t129) ∧ Aside0 (Below w.heap.size w wc))
        case first =>
          have H := HC9.out
          clear HC9
          by_cases c18 : t146 = 0
          · rw [if_pos c18] at H
            have c18b0 : (t146 == 0) = true := beq_iff_eq.mpr c18
            have c18b1 : (t146 != 0) = false := bne_eq_false_iff_eq.mpr c18
            clear c18
            (first | rw [c18b0] | (simp only [i64_w, i32_w]; rw [c18b0]) | skip)
            by_cases c19 : t144 = a0
            · rw [if_pos c19] at H
              have c19b0 : (t144 == a0) = true := beq_iff_eq.mpr c19
              have c19b1 : (t144 != a0) = false := bne_eq_false_iff_eq.mpr c19
              clear c19
              by_cases c20 : t145 = (wrap64 ((l1.length : Int) + (t129.length : Int)))
              · rw [if_pos c20] at H
                have c20b0 : (t145 == (wrap64 ((l1.length : Int) + (t129.length : Int)))) = true := beq_iff_eq.mpr c20
                have c20b1 : (t145 != (wrap64 ((l1.length : Int) + (t129.length : Int)))) = false := bne_eq_false_iff_eq.mpr c20
                clear c20
                by_cases c21 : (t129.length : Int) = 0
                · rw [if_pos c21] at H
                  have c21b0 : ((t129.length : Int) == 0) = true := beq_iff_eq.mpr c21
                  have c21b1 : ((t129.length : Int) != 0) = false := bne_eq_false_iff_eq.mpr c21
                  clear c21
                  have H' := Aside0.mk H
                  clear H
                  go_wp2
                  go_meet
                  case rel => exact ⟨_, (true), (by first | rfl | (simp; done) | (simp [*]; done)), H', ⟨by first | omega | exact Nat.le_refl _⟩, ⟨by (with_reducible repeat (first | apply Kd.R_alloc | apply Kd.R_drewN | apply Kd.R_drew)); exact Kd.R_mono HO131.out (fun _ hk => trivial)⟩, ⟨by repeat (first | (with_reducible first | exact HB.out | apply below_alloc | apply pw_below_drewN | apply below_drew1) | exact HB.out)⟩⟩
                · rw [if_neg c21] at H
                  have c21b0 : ((t129.length : Int) == 0) = false := beq_eq_false_iff_ne.mpr c21
                  have c21b1 : ((t129.length : Int) != 0) = true := bne_iff_ne.mpr c21
                  have c21b2 : ¬ (t129 = []) := fun h_ => c21 (by rw [h_]; rfl)
                  have H' := Aside0.mk H
                  clear H
                  go_wp2
                  go_meet
                  case rel => exact ⟨_, (decide ((t129.length : Int) > 10)), (by first | rfl | (simp; done) | (simp [*]; done)), H', ⟨by first | omega | exact Nat.le_refl _⟩, ⟨by (with_reducible repeat (first | apply Kd.R_alloc | apply Kd.R_drewN | apply Kd.R_drew)); exact Kd.R_mono HO131.out (fun _ hk => trivial)⟩, ⟨by repeat (first | (with_reducible first | exact HB.out | apply below_alloc | apply pw_below_drewN | apply below_drew1) | exact HB.out)⟩⟩
              · rw [if_neg c20] at H
                have c20b0 : (t145 == (wrap64 ((l1.length : Int) + (t129.length : Int)))) = false := beq_eq_false_iff_ne.mpr c20
                have c20b1 : (t145 != (wrap64 ((l1.length : Int) + (t129.length : Int)))) = true := bne_iff_ne.mpr c20
                have H' := Aside0.mk H
                clear H
                go_wp2
                go_meet
                case rel => exact ⟨_, (true), (by first | rfl | (simp; done) | (simp [*]; done)), H', ⟨by first | omega | exact Nat.le_refl _⟩, ⟨by (with_reducible repeat (first | apply Kd.R_alloc | apply Kd.R_drewN | apply Kd.R_drew)); exact Kd.R_mono HO131.out (fun _ hk => trivial)⟩, ⟨by repeat (first | (with_reducible first | exact HB.out | apply below_alloc | apply pw_below_drewN | apply below_drew1) | exact HB.out)⟩⟩
            · rw [if_neg c19] at H
              have c19b0 : (t144 == a0) = false := beq_eq_false_iff_ne.mpr c19
              have c19b1 : (t144 != a0) = true := bne_iff_ne.mpr c19
              have H' := Aside0.mk H
              clear H
              go_wp2
              go_meet
              case rel => exact ⟨_, (true), (by first | rfl | (simp; done) | (simp [*]; done)), H', ⟨by first | omega | exact Nat.le_refl _⟩, ⟨by (with_reducible repeat (first | apply Kd.R_alloc | apply Kd.R_drewN | apply Kd.R_drew)); exact Kd.R_mono HO131.out (fun _ hk => trivial)⟩, ⟨by repeat (first | (with_reducible first | exact HB.out | apply below_alloc | apply pw_below_drewN | apply below_drew1) | exact HB.out)⟩⟩
          · rw [if_neg c18] at H
            have c18b0 : (t146 == 0) = false := beq_eq_false_iff_ne.mpr c18
            have c18b1 : (t146 != 0) = true := bne_iff_ne.mpr c18
            (first | rw [c18b0] | (simp only [i64_w, i32_w]; rw [c18b0]) | skip)
            have H' := Aside0.mk H
            clear H
            go_wp2
            go_meet
            case rel => exact ⟨_, (true), (by first | rfl | (simp; done) | (simp [*]; done)), H', ⟨by first | omega | exact Nat.le_refl _⟩, ⟨by (with_reducible repeat (first | apply Kd.R_alloc | apply Kd.R_drewN | apply Kd.R_drew)); exact Kd.R_mono HO131.out (fun _ hk => trivial)⟩, ⟨by repeat (first | (with_reducible first | exact HB.out | apply below_alloc | apply pw_below_drewN | apply below_drew1) | exact HB.out)⟩⟩
        case rest =>
          clear HC9
          try clear c1
          try clear c2
          try clear p2
          try clear c4
          try clear c5
          try clear c6
          try clear p6
          try clear c7
          try clear c9
          try clear c12
          try clear c18
          try clear c18b0
          try clear c18b1
          try clear c19
          try clear c19b0
          try clear c19b1
          try clear c20
          try clear c20b0
          try clear c20b1
          try clear c21
          try clear c21b0
          try clear c21b1
          try clear c21b2
          obtain ⟨kq, x58_8, rfl, HA, HJ8, HO_7, HB⟩ := hcut
          cases kq with
          | zero => exact absurd HA.out (by simp [cuecardlaw02_VaryBack.j0])
          | succ kj8 =>
            have H := HA.out
            clear HA
            simp only [cuecardlaw02_VaryBack.j0] at H
            by_cases c22 : x58_8 = true
            · subst c22
              have H1 : (some false) = some r := by rw [if_pos rfl] at H; exact H
              clear H
              have H := H1
              clear H1
              obtain rfl := Option.some.inj H
              go_wp2
              go_ret
              exact ⟨by first | rfl | (simp [errW_none, errW_some] <;> rfl) | (simp [*, errW_none, errW_some] <;> rfl), by repeat (first | (with_reducible first | exact HB.out | apply below_alloc | apply pw_below_drewN | apply below_drew1) | exact HB.out)⟩
            · replace c22 := Bool.eq_false_iff.mpr c22
              subst c22
              have H1 : (cuecardlaw02_VaryBack.l0 kj8 t129 (t129.length : Int) 0) = some r := by rw [if_neg (show ¬ (false = true) by decide)] at H; exact H
              clear H
              have H := H1
              clear H1
              have H' := Aside0.mk H
              clear H
              go_wp2
              go_loopg [61] kj8 (fun kq v61 w' => ∃ (x61_2 : Int), v61 = .int .i64 x61_2 ∧ Aside0 (cuecardlaw02_VaryBack.l0 kq t129 (t129.length : Int) x61_2 = some r) ∧ Aside0 (kq ≤ kj8) ∧ Aside0 (Kd.R (Kd.int .u8) 5 w' w.heap.size (fun _ => True) (.slice Ao15 t129.length co15) t129) ∧ Aside0 (Below w.heap.size w w'))
              case atStart => exact ⟨(0), (by first | rfl | (simp; done) | (simp [*]; done)), H', ⟨Nat.le_refl _⟩, ⟨by (with_reducible repeat (first | apply Kd.R_alloc | apply Kd.R_drewN | apply Kd.R_drew)); exact HO_7.out⟩, ⟨by repeat (first | (with_reducible first | exact HB.out | apply below_alloc | apply pw_below_drewN | apply below_drew1) | exact HB.out)⟩⟩
              case round =>
                clear H'
                try clear c1
                try clear c2
                try clear p2
                try clear c4
                try clear c5
                try clear c6
                try clear p6
                try clear c7
                try clear c9
                try clear c12
                try clear c18
                try clear c18b0
                try clear c18b1
                try clear c19
                try clear c19b0
                try clear c19b1
                try clear c20
                try clear c20b0
                try clear c20b1
                try clear c21
                try clear c21b0
                try clear c21b1
                try clear c21b2
                try clear c22
                try clear p2
                try clear p6
                obtain ⟨x61_2, rfl, HA, HK2, HO_7, HB⟩ := hrel
                cases gk with
                | zero => exact absurd HA.out (by simp [cuecardlaw02_VaryBack.l0])
                | succ k2 =>
                  have H := HA.out
                  clear HA
                  simp only [cuecardlaw02_VaryBack.l0] at H
                  by_cases c23 : x61_2 < (t129.length : Int)
                  · rw [if_pos c23] at H
                    have c23b0 : decide (x61_2 < (t129.length : Int)) = true := decide_eq_true c23
                    clear c23
                    by_cases c24 : 0 ≤ x61_2
                    · rw [if_pos c24] at H
                      have c24b0 := eq_true c24
                      have c24b1 : decide (0 ≤ x61_2) = true := decide_eq_true c24
                      clear c24
                      by_cases c25 : x61_2 ≤ (t129.length : Int)
                      · rw [if_pos c25] at H
                        have c25b0 := eq_true c25
                        have c25b1 : decide (x61_2 ≤ (t129.length : Int)) = true := decide_eq_true c25
                        clear c25
                        obtain ⟨y147, hy147⟩ : ∃ y_ : List Int, y_ = (t129.take (x61_2 : Int).toNat) := ⟨_, rfl⟩
                        replace H : ((vary_Get.f k2 y147 0).bind fun bt151 => (if bt151.2.2 = 5 then (cuecardlaw02_VaryBack.l0 k2 t129 (t129.length : Int) (wrap64 (x61_2 + 1))) else (some false))) = some r := by first | (rw [hy147]; with_reducible exact H) | (have H2_ := (Option.bind_some _ _).symm.trans H; rw [hy147]; with_reducible exact H2_) | (have H2_ := (Option.bind_some _ _).symm.trans H; with_reducible exact H2_) | with_reducible exact H | (rw [hy147]; exact H) | exact H
                        have Ny147 := Aside0.mk hy147
                        clear hy147
                        replace H := Option.bind_eq_some_iff.mp H
                        obtain ⟨⟨t151, t152, t153⟩, A260, H⟩ := H
                        replace H : (if t153 = 5 then (cuecardlaw02_VaryBack.l0 k2 t129 (t129.length : Int) (wrap64 (x61_2 + 1))) else (some false)) = some r := H
                        have A26 := Aside0.mk A260
                        clear A260
                        by_cases c27 : t153 = 5
                        · rw [if_pos c27] at H
                          have c27b0 : (t153 == 5) = true := beq_iff_eq.mpr c27
                          have c27b1 : (t153 != 5) = false := bne_eq_false_iff_eq.mpr c27
                          clear c27
                          have H' := Aside0.mk H
                          clear H
                          have q28 : (x61_2 : Int) ≤ ((t129.length : Int) : Int) := of_decide_eq_true (by first | (with_reducible assumption) | assumption)
                          obtain ⟨i028, hi028, _, hsz28, _⟩ := info_parts info5
                          have hroom28 : t129.length ≤ co15 := (Kd.R_reads' HO_7.out).2.1
                          have hC28 : Kd.C (Kd.int .u8) _ Ao15 t129.length t129 := (Kd.R_reads' HO_7.out).2.2
                          have hcut28 := cut_to (P := Try.prog) 22 5 .i64 Try.underlying22 hi028 Ao15 t129.length co15 x61_2 (of_decide_eq_true (by first | (with_reducible assumption) | assumption)) q28 hroom28
                          have hr28 := Kd.C_take (m := (x61_2 : Int).toNat) hC28 (by omega)
                          have hy28 : y147.length = (x61_2 : Int).toNat := (by rw [Ny147.out, List.length_take]; omega)
                          rw [← Ny147.out] at hr28
                          rw [← hy28] at hcut28
                          have HR150 := Aside0.mk hr28
                          have HC150 := Aside0.mk (show y147.length ≤ co15 from by omega)
                          clear hr28 hC28 hroom28 hi028 hsz28
                          have KY28 := Aside0.mk hy28
                          clear hy28
                          have KL28 := Aside0.mk (show (x61_2 : Int).toNat ≤ t129.length from by omega)
                          replace q28 := eq_true q28
                          go_wp2_with (first | ((with_reducible refine gate_callee (f := 9) rfl ?_); refine goesL_ (some 68) rfl rfl Try.func9 (by kernel_rfl) rfl #[.slice Ao15 y147.length co15, .int .i64 0] rfl (by (try simp only [List.map_toArray, List.map_cons, List.map_nil]); first | done | rfl | (simp only [List.length_drop, List.length_take]; rfl)) ?_; (with_reducible refine (vary_Get.calls k2 _ _ y147 0 t151 t152 t153 _ ?side1 ?side2 A26.out).mono ?_); (case side1 => repeat (first | exact (by repeat (first | (with_reducible exact HR150.out) | (with_reducible refine Kd.C_alloc ?_ _) | (with_reducible refine Kd.C_drewN ?_ _) | (with_reducible refine Kd.C_drew ?_) | exact HR150.out)) | (with_reducible refine Kd.C_alloc ?_ _) | (with_reducible refine Kd.C_drewN ?_ _) | (with_reducible refine Kd.C_drew ?_))); (case side2 => exact HC150.out); rintro e w' ⟨rfl, ⟨nd, rfl⟩⟩; refine ⟨_, rfl, ?_⟩))
                          go_roundg k2
                          case measure => have := HJ8.out; have := HK2.out; omega
                          case rel => exact ⟨(wrap64 (x61_2 + 1)), (by first | rfl | (simp; done) | (simp [*]; done)), H', ⟨by have := HJ8.out; have := HK2.out; omega⟩, ⟨by (with_reducible repeat (first | apply Kd.R_alloc | apply Kd.R_drewN | apply Kd.R_drew)); exact HO_7.out⟩, ⟨by repeat (first | (with_reducible first | exact HB.out | apply below_alloc | apply pw_below_drewN | apply below_drew1) | exact HB.out)⟩⟩
                        · rw [if_neg c27] at H
                          have c27b0 : (t153 == 5) = false := beq_eq_false_iff_ne.mpr c27
                          have c27b1 : (t153 != 5) = true := bne_iff_ne.mpr c27
                          obtain rfl := Option.some.inj H
                          have q29 : (x61_2 : Int) ≤ ((t129.length : Int) : Int) := of_decide_eq_true (by first | (with_reducible assumption) | assumption)
                          obtain ⟨i029, hi029, _, hsz29, _⟩ := info_parts info5
                          have hroom29 : t129.length ≤ co15 := (Kd.R_reads' HO_7.out).2.1
                          have hC29 : Kd.C (Kd.int .u8) _ Ao15 t129.length t129 := (Kd.R_reads' HO_7.out).2.2
                          have hcut29 := cut_to (P := Try.prog) 22 5 .i64 Try.underlying22 hi029 Ao15 t129.length co15 x61_2 (of_decide_eq_true (by first | (with_reducible assumption) | assumption)) q29 hroom29
                          have hr29 := Kd.C_take (m := (x61_2 : Int).toNat) hC29 (by omega)
                          have hy29 : y147.length = (x61_2 : Int).toNat := (by rw [Ny147.out, List.length_take]; omega)
                          rw [← Ny147.out] at hr29
                          rw [← hy29] at hcut29
                          have HR150 := Aside0.mk hr29
                          have HC150 := Aside0.mk (show y147.length ≤ co15 from by omega)
                          clear hr29 hC29 hroom29 hi029 hsz29
                          have KY29 := Aside0.mk hy29
                          clear hy29
                          have KL29 := Aside0.mk (show (x61_2 : Int).toNat ≤ t129.length from by omega)
                          replace q29 := eq_true q29
                          go_wp2_with (first | ((with_reducible refine gate_callee (f := 9) rfl ?_); refine goesL_ (some 68) rfl rfl Try.func9 (by kernel_rfl) rfl #[.slice Ao15 y147.length co15, .int .i64 0] rfl (by (try simp only [List.map_toArray, List.map_cons, List.map_nil]); first | done | rfl | (simp only [List.length_drop, List.length_take]; rfl)) ?_; (with_reducible refine (vary_Get.calls k2 _ _ y147 0 t151 t152 t153 _ ?side1 ?side2 A26.out).mono ?_); (case side1 => repeat (first | exact (by repeat (first | (with_reducible exact HR150.out) | (with_reducible refine Kd.C_alloc ?_ _) | (with_reducible refine Kd.C_drewN ?_ _) | (with_reducible refine Kd.C_drew ?_) | exact HR150.out)) | (with_reducible refine Kd.C_alloc ?_ _) | (with_reducible refine Kd.C_drewN ?_ _) | (with_reducible refine Kd.C_drew ?_))); (case side2 => exact HC150.out); rintro e w' ⟨rfl, ⟨nd, rfl⟩⟩; refine ⟨_, rfl, ?_⟩))
                          go_ret
                          exact ⟨by first | rfl | (simp [errW_none, errW_some] <;> rfl) | (simp [*, errW_none, errW_some] <;> rfl), by repeat (first | (with_reducible first | exact HB.out | apply below_alloc | apply pw_below_drewN | apply below_drew1) | exact HB.out)⟩
                      · rw [if_neg c25] at H
                        exact absurd H (by simp)
                    · rw [if_neg c24] at H
                      exact absurd H (by simp)
                  · rw [if_neg c23] at H
                    have c23b0 : decide (x61_2 < (t129.length : Int)) = false := decide_eq_false c23
                    clear c23
                    replace H := Option.bind_eq_some_iff.mp H
                    obtain ⟨t154, A300, H⟩ := H
                    replace H : (some t154) = some r := H
                    have A30 := Aside0.mk A300
                    clear A300
                    obtain rfl := Option.some.inj H
                    go_wp2_with (first | ((with_reducible refine gate_callee (f := 11) rfl ?_); refine goesL_ (some 75) rfl rfl Try.func11 (by kernel_rfl) rfl #[] rfl (by (try simp only [List.map_toArray, List.map_cons, List.map_nil]); first | done | rfl | (simp only [List.length_drop, List.length_take]; rfl)) ?_; (with_reducible refine (cuecardlaw02_alive.calls k2  t154 _ A30.out).mono ?_); rintro e w31 ⟨rfl, hb⟩; refine ⟨_, rfl, ?_⟩; have n0_ := Aside0.mk (Kd.R_below (by (with_reducible repeat (first | apply Kd.R_alloc | apply Kd.R_drewN | apply Kd.R_drew)); exact HO_7.out) hb); have n1_ := Aside0.mk (below_step (by repeat (first | (with_reducible first | exact HB.out | apply below_alloc | apply pw_below_drewN | apply below_drew1) | exact HB.out)) hb); clear HO_7; clear HB; have HO_7 := n0_; have HB := n1_; clear n0_ n1_; (try clear hb); (try clear hb2); (try clear hk); (try clear hi)))
                    go_ret
                    exact ⟨by first | rfl | (simp [errW_none, errW_some] <;> rfl) | (simp [*, errW_none, errW_some] <;> rfl), by repeat (first | (with_reducible first | exact HB.out | apply below_alloc | apply pw_below_drewN | apply below_drew1) | exact HB.out)⟩
      · rw [if_neg c7] at H
        exact absurd H (by simp)
    · rw [if_neg c6] at H
      exact absurd H (by simp)
  · rw [if_neg c5] at H
    exact absurd H (by simp)

/-- THE ONE PURE STATEMENT of cuecardlaw02_VaryBack: yours. -/
def cuecardlaw02_VaryBack.Pure : Prop := ∀ (a0 : Int) (l1 : List Int) (l2 : List Int), (Lit.int .u64 a0).wf = true → l1.length ≤ maxLen → l1.length * 1 ≤ 140737488351232 → (∀ x ∈ l1, (Lit.int .u8 x).wf = true) → l2.length ≤ maxLen → l2.length * 1 ≤ 140737488351232 → (∀ x ∈ l2, (Lit.int .u8 x).wf = true) → ∃ k, cuecardlaw02_VaryBack.f k a0 l1 l2 = some true
theorem cuecardlaw02_VaryBack.walk (P : cuecardlaw02_VaryBack.Pure) (a0 : Int) (a1 : Option Addr) (len1 cap1 : Nat) (z1 : List Int) (a2 : Option Addr) (len2 cap2 : Nat) (z2 : List Int) (w : World) (w0 : (Lit.int .u64 a0).wf = true) (w1 : (a1 = none ∧ len1 = 0 ∧ cap1 = 0 ∧ z1 = []) ∨ ∃ x, a1 = some x ∧ len1 ≤ cap1 ∧ cap1 ≤ maxLen ∧ z1.length = cap1 ∧ (∀ i, i < z1.length → w.cell? (x.add i) = some (.int .u8 (z1.getD i 0))) ∧ ∀ n ∈ z1, (Lit.int .u8 n).wf = true) (y1 : len1 * 1 ≤ 140737488351232) (w2 : (a2 = none ∧ len2 = 0 ∧ cap2 = 0 ∧ z2 = []) ∨ ∃ x, a2 = some x ∧ len2 ≤ cap2 ∧ cap2 ≤ maxLen ∧ z2.length = cap2 ∧ (∀ i, i < z2.length → w.cell? (x.add i) = some (.int .u8 (z2.getD i 0))) ∧ ∀ n ∈ z2, (Lit.int .u8 n).wf = true) (y2 : len2 * 1 ≤ 140737488351232) :
    Calls Try.prog 4 #[.int .u64 a0, .slice a1 len1 cap1, .slice a2 len2 cap2] w fun e w' => e = .returned (.bool true) ∧ Below w.heap.size w w' := by
  obtain ⟨l1, rfl, hr1, hm1, hw1, hc1⟩ := ReadsInt.ofRowC w1
  obtain ⟨l2, rfl, hr2, hm2, hw2, hc2⟩ := ReadsInt.ofRowC w2
  obtain ⟨k, h⟩ := P a0 l1 l2 w0 hm1 y1 hw1 hm2 y2 hw2
  refine (cuecardlaw02_VaryBack.calls k a0 _ _ l1 _ _ l2 true w (Kd.C_of_reads (d := (0 : Int)) (h1 := fun _ => rfl) hr1) hc1 (Kd.C_of_reads (d := (0 : Int)) (h1 := fun _ => rfl) hr2) hc2 h).mono ?_
  rintro e w' ⟨rfl, hd⟩
  exact ⟨rfl, hd⟩

end Go.Proofs.Ytchdokbpjimkkaa.QVaryBack
