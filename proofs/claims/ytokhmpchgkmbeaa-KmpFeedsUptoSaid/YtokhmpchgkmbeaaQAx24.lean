-- Written for this claim by a program of this session's, out of Lean's own print of the program; Lean checks it.
import Derived.Test.YtokhmpchgkmbeaaQAx0
import Derived.Test.YtokhmpchgkmbeaaQAx5
import Derived.Test.YtokhmpchgkmbeaaQAx6
import Derived.Test.YtokhmpchgkmbeaaQAx7
import Derived.Test.YtokhmpchgkmbeaaGAll
import Derived.Test.YtokhmpchgkmbeaaGFirst
namespace Go.Proofs.Ytokhmpchgkmbeaa.QA
open Go.RowKit Go.Proofs.YtokhmpchgkmbeaaW.PrintWords Go.Proofs.YtokhmpchgkmbeaaW.PrintLast Go.Proofs.YtokhmpchgkmbeaaW.PrintMore
attribute [local go_sem] max2_int min2_int max_two min_two max_three min_three max_four min_four   -- for this text's walks alone
set_option linter.unusedVariables false
set_option linter.unusedSimpArgs false

/-! ### cuecardlaw08_KmpCuts: function 8 -/
mutual
def cuecardlaw08_KmpCuts.j0 : Nat → List Int → Int → Int → Bool → Option (Bool)
  | 0, _, _, _, _ => none
  | k + 1, x0, x1, x2, x22 => if x22 = true then ((cuecardlaw08_alive.f k).bind fun t307 => (some t307)) else (if (IntKind.u64.wrap (wrap64 ((x0.length : Int) + 1))) = 0 then (none) else (if (IntKind.u64.wrap (wrap64 ((wrap64 ((x0.length : Int) - (wrap64 (Int.tmod (IntKind.u64.wrap (x1)) (IntKind.u64.wrap (wrap64 ((x0.length : Int) + 1))))))) + 1))) = 0 then (none) else (if 0 ≤ (wrap64 (Int.tmod (IntKind.u64.wrap (x1)) (IntKind.u64.wrap (wrap64 ((x0.length : Int) + 1))))) then (if (wrap64 (Int.tmod (IntKind.u64.wrap (x1)) (IntKind.u64.wrap (wrap64 ((x0.length : Int) + 1))))) ≤ (wrap64 ((wrap64 (Int.tmod (IntKind.u64.wrap (x1)) (IntKind.u64.wrap (wrap64 ((x0.length : Int) + 1))))) + (wrap64 (Int.tmod (IntKind.u64.wrap (x2)) (IntKind.u64.wrap (wrap64 ((wrap64 ((x0.length : Int) - (wrap64 (Int.tmod (IntKind.u64.wrap (x1)) (IntKind.u64.wrap (wrap64 ((x0.length : Int) + 1))))))) + 1))))))) then (if (wrap64 ((wrap64 (Int.tmod (IntKind.u64.wrap (x1)) (IntKind.u64.wrap (wrap64 ((x0.length : Int) + 1))))) + (wrap64 (Int.tmod (IntKind.u64.wrap (x2)) (IntKind.u64.wrap (wrap64 ((wrap64 ((x0.length : Int) - (wrap64 (Int.tmod (IntKind.u64.wrap (x1)) (IntKind.u64.wrap (wrap64 ((x0.length : Int) + 1))))))) + 1))))))) ≤ (x0.length : Int) then ((some ((x0.take ((wrap64 ((wrap64 (Int.tmod (IntKind.u64.wrap (x1)) (IntKind.u64.wrap (wrap64 ((x0.length : Int) + 1))))) + (wrap64 (Int.tmod (IntKind.u64.wrap (x2)) (IntKind.u64.wrap (wrap64 ((wrap64 ((x0.length : Int) - (wrap64 (Int.tmod (IntKind.u64.wrap (x1)) (IntKind.u64.wrap (wrap64 ((x0.length : Int) + 1))))))) + 1))))))) : Int).toNat).drop ((wrap64 (Int.tmod (IntKind.u64.wrap (x1)) (IntKind.u64.wrap (wrap64 ((x0.length : Int) + 1))))) : Int).toNat : List Int)).bind fun y308 => ((cuecardlaw08_all.f k x0 y308).bind fun t313 => (cuecardlaw08_KmpCuts.l0 k x0 (wrap64 (Int.tmod (IntKind.u64.wrap (x1)) (IntKind.u64.wrap (wrap64 ((x0.length : Int) + 1))))) y308 t313 false t313 (t313.length : Int) 0))) else (none)) else (none)) else (none))))
def cuecardlaw08_KmpCuts.l0 : Nat → List Int → Int → List Int → List Int → Bool → List Int → Int → Int → Option (Bool)
  | 0, _, _, _, _, _, _, _, _ => none
  | k + 1, x0, x7, x9, x10, x11, x51, x52, x53 => if x53 < x52 then (if 0 ≤ x53 then (if x53 < (x51.length : Int) then (if x11 = true then (if x53 > 0 then (if 0 ≤ (wrap64 (x53 - 1)) then (if (wrap64 (x53 - 1)) < (x10.length : Int) then (if (rd x10 (wrap64 (x53 - 1))) ≥ (rd x51 x53) then (some false) else ((cuecardref08_At.f k x0 x9 (rd x51 x53)).bind fun t318 => (if t318 = true then (cuecardlaw08_KmpCuts.l0 k x0 x7 x9 x10 true x51 x52 (wrap64 (x53 + 1))) else (some false)))) else (none)) else (none)) else ((cuecardref08_At.f k x0 x9 (rd x51 x53)).bind fun t319 => (if t319 = true then (cuecardlaw08_KmpCuts.l0 k x0 x7 x9 x10 true x51 x52 (wrap64 (x53 + 1))) else (some false)))) else (if x53 > 0 then (if 0 ≤ (wrap64 (x53 - 1)) then (if (wrap64 (x53 - 1)) < (x10.length : Int) then (if (rd x10 (wrap64 (x53 - 1))) ≥ (rd x51 x53) then (some false) else ((cuecardref08_At.f k x0 x9 (rd x51 x53)).bind fun t321 => (if t321 = true then (cuecardlaw08_KmpCuts.l0 k x0 x7 x9 x10 ((rd x51 x53) == x7) x51 x52 (wrap64 (x53 + 1))) else (some false)))) else (none)) else (none)) else ((cuecardref08_At.f k x0 x9 (rd x51 x53)).bind fun t322 => (if t322 = true then (cuecardlaw08_KmpCuts.l0 k x0 x7 x9 x10 ((rd x51 x53) == x7) x51 x52 (wrap64 (x53 + 1))) else (some false))))) else (none)) else (none)) else ((kmp_First_int.f k x0 x9).bind fun bt323 => (if x11 = true then (if bt323.2 = true then (if bt323.1 ≤ x7 then (if 0 < (x10.length : Int) then (some (bt323.1 == (rd x10 0))) else (none)) else (some false)) else (some false)) else (some false)))
end
def cuecardlaw08_KmpCuts.f (k : Nat) (l0 : List Int) (a1 : Int) (a2 : Int) : Option (Bool) := (cuecardlaw08_alive.f k).bind fun t302 => (if t302 = true then ((cuecardlaw08_great.f k (([l0] : List (List Int)))).bind fun t306 => (cuecardlaw08_KmpCuts.j0 k l0 a1 a2 t306)) else (cuecardlaw08_KmpCuts.j0 k l0 a1 a2 true))
theorem cuecardlaw08_KmpCuts.mono_l : ∀ k, (∀ y0 y1 y2 y3, LeO (cuecardlaw08_KmpCuts.j0 k y0 y1 y2 y3) (cuecardlaw08_KmpCuts.j0 (k + 1) y0 y1 y2 y3)) ∧ (∀ y0 y1 y2 y3 y4 y5 y6 y7, LeO (cuecardlaw08_KmpCuts.l0 k y0 y1 y2 y3 y4 y5 y6 y7) (cuecardlaw08_KmpCuts.l0 (k + 1) y0 y1 y2 y3 y4 y5 y6 y7))
  | 0 => ⟨fun _ _ _ _ r h => by simp [cuecardlaw08_KmpCuts.j0] at h, fun _ _ _ _ _ _ _ _ r h => by simp [cuecardlaw08_KmpCuts.l0] at h⟩
  | k + 1 => by
    obtain ⟨ih0, ih1⟩ := cuecardlaw08_KmpCuts.mono_l k
    refine ⟨?_, ?_⟩
    · intro y0 y1 y2 y3
      unfold cuecardlaw08_KmpCuts.j0
      repeat' first
      | (with_reducible exact ih0 _ _ _ _)
      | (with_reducible exact ih1 _ _ _ _ _ _ _ _)
      | (with_reducible exact cuecardlaw08_alive.mono _)
      | (with_reducible exact cuecardlaw08_all.mono _ _ _)
      | (with_reducible exact cuecardlaw08_great.mono _ _)
      | (with_reducible exact cuecardref08_At.mono _ _ _ _)
      | (with_reducible exact kmp_First_int.mono _ _ _)
      | (with_reducible exact LeO.refl _)
      | (with_reducible exact LeO.none _)
      | (with_reducible refine LeO.ite ?_ ?_)
      | (with_reducible refine LeO.bind ?_ (fun _ => ?_))
      | exact ih0 _ _ _ _
      | exact ih1 _ _ _ _ _ _ _ _
      | exact cuecardlaw08_alive.mono _
      | exact cuecardlaw08_all.mono _ _ _
      | exact cuecardlaw08_great.mono _ _
      | exact cuecardref08_At.mono _ _ _ _
      | exact kmp_First_int.mono _ _ _
      | exact LeO.none _
      | refine LeO.ite ?_ ?_
      | refine LeO.bind ?_ (fun _ => ?_)
    · intro y0 y1 y2 y3 y4 y5 y6 y7
      unfold cuecardlaw08_KmpCuts.l0
      repeat' first
      | (with_reducible exact ih0 _ _ _ _)
      | (with_reducible exact ih1 _ _ _ _ _ _ _ _)
      | (with_reducible exact cuecardlaw08_alive.mono _)
      | (with_reducible exact cuecardlaw08_all.mono _ _ _)
      | (with_reducible exact cuecardlaw08_great.mono _ _)
      | (with_reducible exact cuecardref08_At.mono _ _ _ _)
      | (with_reducible exact kmp_First_int.mono _ _ _)
      | (with_reducible exact LeO.refl _)
      | (with_reducible exact LeO.none _)
      | (with_reducible refine LeO.ite ?_ ?_)
      | (with_reducible refine LeO.bind ?_ (fun _ => ?_))
      | exact ih0 _ _ _ _
      | exact ih1 _ _ _ _ _ _ _ _
      | exact cuecardlaw08_alive.mono _
      | exact cuecardlaw08_all.mono _ _ _
      | exact cuecardlaw08_great.mono _ _
      | exact cuecardref08_At.mono _ _ _ _
      | exact kmp_First_int.mono _ _ _
      | exact LeO.none _
      | refine LeO.ite ?_ ?_
      | refine LeO.bind ?_ (fun _ => ?_)
theorem cuecardlaw08_KmpCuts.mono : ∀ a0 a1 a2 k, LeO (cuecardlaw08_KmpCuts.f k a0 a1 a2) (cuecardlaw08_KmpCuts.f (k + 1) a0 a1 a2) := by
  intro a0 a1 a2 k
  obtain ⟨ih0, ih1⟩ := cuecardlaw08_KmpCuts.mono_l k
  unfold cuecardlaw08_KmpCuts.f
  repeat' first
      | (with_reducible exact ih0 _ _ _ _)
      | (with_reducible exact ih1 _ _ _ _ _ _ _ _)
      | (with_reducible exact cuecardlaw08_alive.mono _)
      | (with_reducible exact cuecardlaw08_all.mono _ _ _)
      | (with_reducible exact cuecardlaw08_great.mono _ _)
      | (with_reducible exact cuecardref08_At.mono _ _ _ _)
      | (with_reducible exact kmp_First_int.mono _ _ _)
      | (with_reducible exact LeO.refl _)
      | (with_reducible exact LeO.none _)
      | (with_reducible refine LeO.ite ?_ ?_)
      | (with_reducible refine LeO.bind ?_ (fun _ => ?_))
      | exact ih0 _ _ _ _
      | exact ih1 _ _ _ _ _ _ _ _
      | exact cuecardlaw08_alive.mono _
      | exact cuecardlaw08_all.mono _ _ _
      | exact cuecardlaw08_great.mono _ _
      | exact cuecardref08_At.mono _ _ _ _
      | exact kmp_First_int.mono _ _ _
      | exact LeO.none _
      | refine LeO.ite ?_ ?_
      | refine LeO.bind ?_ (fun _ => ?_)
set_option maxHeartbeats 8000000 in
set_option maxRecDepth 100000 in
theorem cuecardlaw08_KmpCuts.calls (k : Nat) (P0_ : Nat → Prop) (A0 : Option Addr) (c0 : Nat) (l0 : List Int) (a1 : Int) (a2 : Int) (r : Bool) (w : World) (hs0 : Kd.V (Kd.int .i64) 3 w w.heap.size (fun k_ => P0_ k_) (.slice A0 l0.length c0) l0) (h : cuecardlaw08_KmpCuts.f k l0 a1 a2 = some r) :
    Calls Try.prog 8 #[.slice A0 l0.length c0, .int .i64 a1, .int .i64 a2] w fun e w' => e = .returned (.bool r) ∧ Below w.heap.size w w' := by
  have HO0 := Aside0.mk (show Kd.V (Kd.int .i64) 3 w w.heap.size (fun k_ => (P0_ k_ ∨ w.heap.size ≤ k_)) (.slice A0 l0.length c0) l0 from Kd.V_mono hs0 (fun k_ hk => .inl hk))
  have HB := Aside0.mk (Below.refl w.heap.size w)
  have H : ((cuecardlaw08_alive.f k).bind fun t302 => (if t302 = true then ((cuecardlaw08_great.f k (([l0] : List (List Int)))).bind fun t306 => (cuecardlaw08_KmpCuts.j0 k l0 a1 a2 t306)) else (cuecardlaw08_KmpCuts.j0 k l0 a1 a2 true))) = some r := h
  clear h
  have HC4 := Aside0.mk H
  clear H
  go_enter Try.func8, Try.ntmps8
  go_upto_region 1 with (fail)
  go_cut [22] (fun v22 wc => ∃ (kq : Nat) (x22_3 : Bool), v22 = .bool x22_3 ∧ Aside0 (cuecardlaw08_KmpCuts.j0 kq l0 a1 a2 x22_3 = some r) ∧ Aside0 (kq ≤ k) ∧ Aside0 (Kd.V (Kd.int .i64) 3 wc w.heap.size (fun k_ => (P0_ k_ ∨ w.heap.size ≤ k_)) (.slice A0 l0.length c0) l0) ∧ Aside0 (Below w.heap.size w wc))
  case first =>
    have H := HC4.out
    clear HC4
    replace H := Option.bind_eq_some_iff.mp H
    obtain ⟨t302, A50, H⟩ := H
    replace H : (if t302 = true then ((cuecardlaw08_great.f k (([l0] : List (List Int)))).bind fun t306 => (cuecardlaw08_KmpCuts.j0 k l0 a1 a2 t306)) else (cuecardlaw08_KmpCuts.j0 k l0 a1 a2 true)) = some r := H
    have A5 := Aside0.mk A50
    clear A50
    by_cases c6 : t302 = true
    · subst c6
      have H1 : ((cuecardlaw08_great.f k (([l0] : List (List Int)))).bind fun t306 => (cuecardlaw08_KmpCuts.j0 k l0 a1 a2 t306)) = some r := by rw [if_pos rfl] at H; exact H
      clear H
      have H := H1
      clear H1
      obtain ⟨y303, hy303⟩ : ∃ y_ : List (List Int), y_ = (([l0] : List (List Int))) := ⟨_, rfl⟩
      replace H : ((cuecardlaw08_great.f k y303).bind fun t306 => (cuecardlaw08_KmpCuts.j0 k l0 a1 a2 t306)) = some r := by first | (rw [hy303]; with_reducible exact H) | (have H2_ := (Option.bind_some _ _).symm.trans H; rw [hy303]; with_reducible exact H2_) | (have H2_ := (Option.bind_some _ _).symm.trans H; with_reducible exact H2_) | with_reducible exact H | (rw [hy303]; exact H) | exact H
      have Ny303 := Aside0.mk hy303
      clear hy303
      replace H := Option.bind_eq_some_iff.mp H
      obtain ⟨t306, A70, H⟩ := H
      replace H : (cuecardlaw08_KmpCuts.j0 k l0 a1 a2 t306) = some r := H
      have A7 := Aside0.mk A70
      clear A70
      have H' := Aside0.mk H
      clear H
      go_wp2_with (first | ((with_reducible refine gate_callee (f := 10) rfl ?_); refine goesL_ (some 16) rfl rfl Try.func10 (by kernel_rfl) rfl #[] rfl (by (try simp only [List.map_toArray, List.map_cons, List.map_nil]); first | done | rfl | (simp only [List.length_drop, List.length_take]; rfl)) ?_; (with_reducible refine (cuecardlaw08_alive.calls k  true _ A5.out).mono ?_); rintro e w8 ⟨rfl, hb⟩; refine ⟨_, rfl, ?_⟩; have n0_ := Aside0.mk (Kd.V_below (by (with_reducible repeat (first | apply Kd.V_alloc | apply Kd.V_drewN | apply Kd.V_drew)); exact HO0.out) hb); have n1_ := Aside0.mk (below_step (by repeat (first | (with_reducible first | exact HB.out | apply below_alloc | apply pw_below_drewN | apply below_drew1) | exact HB.out)) hb); clear HO0; clear HB; have HO0 := n0_; have HB := n1_; clear n0_ n1_; (try clear hb); (try clear hb2); (try clear hk); (try clear hi)) | ((with_reducible refine gate_dst (N := 20) rfl ?_); (try (refine gate_guard (by rfl) ?_; dsimp only)); refine Kd.N_lit (Kd.slice 3 (Kd.int .i64)) _ 22 ?hg (N' := 20) ?hd (xs := ([l0] : List (List Int))) (inner := [.slice A0 l0.length c0]) (ok := (fun k_ => (P0_ k_ ∨ w.heap.size ≤ k_))) (okp := (fun k_ => (P0_ k_ ∨ w.heap.size ≤ k_))) ?hr ?hp (fun _ hk => hk) ((show ∀ k_, w8.heap.size ≤ k_ → (fun k_ => (P0_ k_ ∨ w.heap.size ≤ k_)) k_ from fun k_ hk => (.inr (Nat.le_trans (below_size (by repeat (first | (with_reducible first | exact HB.out | apply below_alloc | apply pw_below_drewN | apply below_drew1) | exact HB.out))) hk))) _ (Nat.le_refl _)) (Below.refl _ _) (Nat.le_refl _) (by simp) ?_; (case hd => rfl); (case hg => rfl); (case hr => first | (go_simp; done) | (go_simp; rfl)); (case hp => exact (Reps.one (show Kd.FK (Kd.slice 3 (Kd.int .i64)) _ _ l0 [.slice A0 l0.length c0] from (Kd.FK_slice_mk (Kd.V_reads' (Kd.V_mono (ok' := (fun k_ => (P0_ k_ ∨ w.heap.size ≤ k_))) (HO0.out) (fun k_ hk => hk))).2.1 (Kd.V_F (Kd.V_mono (ok' := (fun k_ => (P0_ k_ ∨ w.heap.size ≤ k_))) (HO0.out) (fun k_ hk => hk))))) (Reps.none _ _))); intro v304 w9 ho10 hb hg_ hnew_; clear hg_ hnew_; (first | rw [← Ny303.out] at ho10 | (simp only [Int.reduceToNat] at ho10; rw [← Ny303.out] at ho10)); have n0_ := Aside0.mk (Kd.V_elder' (by (with_reducible repeat (first | apply Kd.V_alloc | apply Kd.V_drewN | apply Kd.V_drew)); exact HO0.out) (Kd.N_base ho10) hb); have n1_ := Aside0.mk (Kd.N_lower ho10 (below_size (by repeat (first | (with_reducible first | exact HB.out | apply below_alloc | apply pw_below_drewN | apply below_drew1) | exact HB.out)))); have n2_ := Aside0.mk (below_step (by repeat (first | (with_reducible first | exact HB.out | apply below_alloc | apply pw_below_drewN | apply below_drew1) | exact HB.out)) hb); clear HO0; clear HB; have HO0 := n0_; have HO305 := n1_; have HB := n2_; clear n0_ n1_ n2_; clear hb ho10; obtain ⟨Ao11, co11, eo11⟩ := Kd.N_slice HO305.out; subst eo11) | (go_at_call 11; (with_reducible refine (cuecardlaw08_great.calls k _ _ y303 t306 _ ?side1 ?side2 A7.out).mono ?_); (case side1 => repeat (first | exact (Kd.N_reads' HO305.out).2.2 | (with_reducible refine Kd.C_alloc ?_ _) | (with_reducible refine Kd.C_drewN ?_ _) | (with_reducible refine Kd.C_drew ?_))); (case side2 => exact (Kd.N_reads' HO305.out).2.1); rintro e w12 ⟨rfl, hb⟩; have n0_ := Aside0.mk (Kd.V_below (by (with_reducible repeat (first | apply Kd.V_alloc | apply Kd.V_drewN | apply Kd.V_drew)); exact HO0.out) hb); have n1_ := Aside0.mk (Kd.N_below (by (with_reducible repeat (first | apply Kd.N_alloc | apply Kd.N_drewN | apply Kd.N_drew)); exact HO305.out) hb); have n2_ := Aside0.mk (below_step (by repeat (first | (with_reducible first | exact HB.out | apply below_alloc | apply pw_below_drewN | apply below_drew1) | exact HB.out)) hb); clear HO0; clear HO305; clear HB; have HO0 := n0_; have HO305 := n1_; have HB := n2_; clear n0_ n1_ n2_; (try clear hb); (try clear hb2); (try clear hk); (try clear hi)))
      go_meet
      case rel => exact ⟨_, (t306), (by first | rfl | (simp; done) | (simp [*]; done)), H', ⟨by first | omega | exact Nat.le_refl _⟩, ⟨by (with_reducible repeat (first | apply Kd.V_alloc | apply Kd.V_drewN | apply Kd.V_drew)); exact Kd.V_mono HO0.out (fun _ hk => hk.1)⟩, ⟨by repeat (first | (with_reducible first | exact HB.out | apply below_alloc | apply pw_below_drewN | apply below_drew1) | exact HB.out)⟩⟩
    · replace c6 := Bool.eq_false_iff.mpr c6
      subst c6
      have H1 : (cuecardlaw08_KmpCuts.j0 k l0 a1 a2 true) = some r := by rw [if_neg (show ¬ (false = true) by decide)] at H; exact H
      clear H
      have H := H1
      clear H1
      have H' := Aside0.mk H
      clear H
      go_wp2_with (first | ((with_reducible refine gate_callee (f := 10) rfl ?_); refine goesL_ (some 16) rfl rfl Try.func10 (by kernel_rfl) rfl #[] rfl (by (try simp only [List.map_toArray, List.map_cons, List.map_nil]); first | done | rfl | (simp only [List.length_drop, List.length_take]; rfl)) ?_; (with_reducible refine (cuecardlaw08_alive.calls k  false _ A5.out).mono ?_); rintro e w13 ⟨rfl, hb⟩; refine ⟨_, rfl, ?_⟩; have n0_ := Aside0.mk (Kd.V_below (by (with_reducible repeat (first | apply Kd.V_alloc | apply Kd.V_drewN | apply Kd.V_drew)); exact HO0.out) hb); have n1_ := Aside0.mk (below_step (by repeat (first | (with_reducible first | exact HB.out | apply below_alloc | apply pw_below_drewN | apply below_drew1) | exact HB.out)) hb); clear HO0; clear HB; have HO0 := n0_; have HB := n1_; clear n0_ n1_; (try clear hb); (try clear hb2); (try clear hk); (try clear hi)))
      go_meet
      case rel => exact ⟨_, (true), (by first | rfl | (simp; done) | (simp [*]; done)), H', ⟨by first | omega | exact Nat.le_refl _⟩, ⟨by (with_reducible repeat (first | apply Kd.V_alloc | apply Kd.V_drewN | apply Kd.V_drew)); exact HO0.out⟩, ⟨by repeat (first | (with_reducible first | exact HB.out | apply below_alloc | apply pw_below_drewN | apply below_drew1) | exact HB.out)⟩⟩
  case rest =>
    clear HC4
    try clear c1
    try clear p2
    try clear c6
    try clear c8
    try clear c10
    obtain ⟨kq, x22_3, rfl, HA, HJ3, HO_0, HB⟩ := hcut
    cases kq with
    | zero => exact absurd HA.out (by simp [cuecardlaw08_KmpCuts.j0])
    | succ kj3 =>
      have H := HA.out
      clear HA
      simp only [cuecardlaw08_KmpCuts.j0] at H
      by_cases c14 : x22_3 = true
      · subst c14
        have H1 : ((cuecardlaw08_alive.f kj3).bind fun t307 => (some t307)) = some r := by rw [if_pos rfl] at H; exact H
        clear H
        have H := H1
        clear H1
        replace H := Option.bind_eq_some_iff.mp H
        obtain ⟨t307, A150, H⟩ := H
        replace H : (some t307) = some r := H
        have A15 := Aside0.mk A150
        clear A150
        obtain rfl := Option.some.inj H
        go_wp2_with (first | ((with_reducible refine gate_callee (f := 10) rfl ?_); refine goesL_ (some 23) rfl rfl Try.func10 (by kernel_rfl) rfl #[] rfl (by (try simp only [List.map_toArray, List.map_cons, List.map_nil]); first | done | rfl | (simp only [List.length_drop, List.length_take]; rfl)) ?_; (with_reducible refine (cuecardlaw08_alive.calls kj3  t307 _ A15.out).mono ?_); rintro e w16 ⟨rfl, hb⟩; refine ⟨_, rfl, ?_⟩; have n0_ := Aside0.mk (Kd.V_below (by (with_reducible repeat (first | apply Kd.V_alloc | apply Kd.V_drewN | apply Kd.V_drew)); exact HO_0.out) hb); have n1_ := Aside0.mk (below_step (by repeat (first | (with_reducible first | exact HB.out | apply below_alloc | apply pw_below_drewN | apply below_drew1) | exact HB.out)) hb); clear HO_0; clear HB; have HO_0 := n0_; have HB := n1_; clear n0_ n1_; (try clear hb); (try clear hb2); (try clear hk); (try clear hi)))
        go_ret
        exact ⟨by first | rfl | (simp [errW_none, errW_some] <;> rfl) | (simp [*, errW_none, errW_some] <;> rfl), by repeat (first | (with_reducible first | exact HB.out | apply below_alloc | apply pw_below_drewN | apply below_drew1) | exact HB.out)⟩
      · replace c14 := Bool.eq_false_iff.mpr c14
        subst c14
        have H1 : (if (IntKind.u64.wrap (wrap64 ((l0.length : Int) + 1))) = 0 then (none) else (if (IntKind.u64.wrap (wrap64 ((wrap64 ((l0.length : Int) - (wrap64 (Int.tmod (IntKind.u64.wrap (a1)) (IntKind.u64.wrap (wrap64 ((l0.length : Int) + 1))))))) + 1))) = 0 then (none) else (if 0 ≤ (wrap64 (Int.tmod (IntKind.u64.wrap (a1)) (IntKind.u64.wrap (wrap64 ((l0.length : Int) + 1))))) then (if (wrap64 (Int.tmod (IntKind.u64.wrap (a1)) (IntKind.u64.wrap (wrap64 ((l0.length : Int) + 1))))) ≤ (wrap64 ((wrap64 (Int.tmod (IntKind.u64.wrap (a1)) (IntKind.u64.wrap (wrap64 ((l0.length : Int) + 1))))) + (wrap64 (Int.tmod (IntKind.u64.wrap (a2)) (IntKind.u64.wrap (wrap64 ((wrap64 ((l0.length : Int) - (wrap64 (Int.tmod (IntKind.u64.wrap (a1)) (IntKind.u64.wrap (wrap64 ((l0.length : Int) + 1))))))) + 1))))))) then (if (wrap64 ((wrap64 (Int.tmod (IntKind.u64.wrap (a1)) (IntKind.u64.wrap (wrap64 ((l0.length : Int) + 1))))) + (wrap64 (Int.tmod (IntKind.u64.wrap (a2)) (IntKind.u64.wrap (wrap64 ((wrap64 ((l0.length : Int) - (wrap64 (Int.tmod (IntKind.u64.wrap (a1)) (IntKind.u64.wrap (wrap64 ((l0.length : Int) + 1))))))) + 1))))))) ≤ (l0.length : Int) then ((some ((l0.take ((wrap64 ((wrap64 (Int.tmod (IntKind.u64.wrap (a1)) (IntKind.u64.wrap (wrap64 ((l0.length : Int) + 1))))) + (wrap64 (Int.tmod (IntKind.u64.wrap (a2)) (IntKind.u64.wrap (wrap64 ((wrap64 ((l0.length : Int) - (wrap64 (Int.tmod (IntKind.u64.wrap (a1)) (IntKind.u64.wrap (wrap64 ((l0.length : Int) + 1))))))) + 1))))))) : Int).toNat).drop ((wrap64 (Int.tmod (IntKind.u64.wrap (a1)) (IntKind.u64.wrap (wrap64 ((l0.length : Int) + 1))))) : Int).toNat : List Int)).bind fun y308 => ((cuecardlaw08_all.f kj3 l0 y308).bind fun t313 => (cuecardlaw08_KmpCuts.l0 kj3 l0 (wrap64 (Int.tmod (IntKind.u64.wrap (a1)) (IntKind.u64.wrap (wrap64 ((l0.length : Int) + 1))))) y308 t313 false t313 (t313.length : Int) 0))) else (none)) else (none)) else (none)))) = some r := by rw [if_neg (show ¬ (false = true) by decide)] at H; exact H
        clear H
        have H := H1
        clear H1
        by_cases c17 : (IntKind.u64.wrap (wrap64 ((l0.length : Int) + 1))) = 0
        · rw [if_pos c17] at H
          exact absurd H (by simp)
        · rw [if_neg c17] at H
          have c17b0 : ((IntKind.u64.wrap (wrap64 ((l0.length : Int) + 1))) == 0) = false := beq_eq_false_iff_ne.mpr c17
          have c17b1 : ((IntKind.u64.wrap (wrap64 ((l0.length : Int) + 1))) != 0) = true := bne_iff_ne.mpr c17
          by_cases c18 : (IntKind.u64.wrap (wrap64 ((wrap64 ((l0.length : Int) - (wrap64 (Int.tmod (IntKind.u64.wrap (a1)) (IntKind.u64.wrap (wrap64 ((l0.length : Int) + 1))))))) + 1))) = 0
          · rw [if_pos c18] at H
            exact absurd H (by simp)
          · rw [if_neg c18] at H
            have c18b0 : ((IntKind.u64.wrap (wrap64 ((wrap64 ((l0.length : Int) - (wrap64 (Int.tmod (IntKind.u64.wrap (a1)) (IntKind.u64.wrap (wrap64 ((l0.length : Int) + 1))))))) + 1))) == 0) = false := beq_eq_false_iff_ne.mpr c18
            have c18b1 : ((IntKind.u64.wrap (wrap64 ((wrap64 ((l0.length : Int) - (wrap64 (Int.tmod (IntKind.u64.wrap (a1)) (IntKind.u64.wrap (wrap64 ((l0.length : Int) + 1))))))) + 1))) != 0) = true := bne_iff_ne.mpr c18
            obtain ⟨ji19, hji19⟩ : ∃ j_ : Int, (wrap64 (Int.tmod (IntKind.u64.wrap (a1)) (IntKind.u64.wrap (wrap64 ((l0.length : Int) + 1))))) = j_ := ⟨_, rfl⟩
            replace H : (if 0 ≤ (ji19) then (if (ji19) ≤ (wrap64 ((ji19) + (wrap64 (Int.tmod (IntKind.u64.wrap (a2)) (IntKind.u64.wrap (wrap64 ((wrap64 ((l0.length : Int) - (ji19))) + 1))))))) then (if (wrap64 ((ji19) + (wrap64 (Int.tmod (IntKind.u64.wrap (a2)) (IntKind.u64.wrap (wrap64 ((wrap64 ((l0.length : Int) - (ji19))) + 1))))))) ≤ (l0.length : Int) then ((some ((l0.take ((wrap64 ((ji19) + (wrap64 (Int.tmod (IntKind.u64.wrap (a2)) (IntKind.u64.wrap (wrap64 ((wrap64 ((l0.length : Int) - (ji19))) + 1))))))) : Int).toNat).drop ((ji19) : Int).toNat : List Int)).bind fun y308 => ((cuecardlaw08_all.f kj3 l0 y308).bind fun t313 => (cuecardlaw08_KmpCuts.l0 kj3 l0 ji19 y308 t313 false t313 (t313.length : Int) 0))) else (none)) else (none)) else (none)) = some r := by first | (rw [hji19] at H; exact H) | (simp only [hji19] at H ⊢; exact H)
            (try rw [hji19] at c18b0)
            (try rw [hji19] at c18)
            (try rw [hji19] at c18b1)
            (try rw [hji19] at c18)
            have hji19w : (IntKind.i64.wrap (Int.tmod (IntKind.u64.wrap (a1)) (IntKind.u64.wrap (wrap64 ((l0.length : Int) + 1))))) = ji19 := (i64_w _).trans hji19
            by_cases c20 : 0 ≤ (ji19)
            · rw [if_pos c20] at H
              have c20b0 := eq_true c20
              have c20b1 : decide (0 ≤ (ji19)) = true := decide_eq_true c20
              clear c20
              by_cases c21 : (ji19) ≤ (wrap64 ((ji19) + (wrap64 (Int.tmod (IntKind.u64.wrap (a2)) (IntKind.u64.wrap (wrap64 ((wrap64 ((l0.length : Int) - (ji19))) + 1)))))))
              · rw [if_pos c21] at H
                have c21b0 := eq_true c21
                have c21b1 : decide ((ji19) ≤ (wrap64 ((ji19) + (wrap64 (Int.tmod (IntKind.u64.wrap (a2)) (IntKind.u64.wrap (wrap64 ((wrap64 ((l0.length : Int) - (ji19))) + 1)))))))) = true := decide_eq_true c21
                by_cases c22 : (wrap64 ((ji19) + (wrap64 (Int.tmod (IntKind.u64.wrap (a2)) (IntKind.u64.wrap (wrap64 ((wrap64 ((l0.length : Int) - (ji19))) + 1))))))) ≤ (l0.length : Int)
                · rw [if_pos c22] at H
                  have c22b0 := eq_true c22
                  have c22b1 : decide ((wrap64 ((ji19) + (wrap64 (Int.tmod (IntKind.u64.wrap (a2)) (IntKind.u64.wrap (wrap64 ((wrap64 ((l0.length : Int) - (ji19))) + 1))))))) ≤ (l0.length : Int)) = true := decide_eq_true c22
                  obtain ⟨y308, hy308⟩ : ∃ y_ : List Int, y_ = ((l0.take ((wrap64 ((ji19) + (wrap64 (Int.tmod (IntKind.u64.wrap (a2)) (IntKind.u64.wrap (wrap64 ((wrap64 ((l0.length : Int) - (ji19))) + 1))))))) : Int).toNat).drop ((ji19) : Int).toNat) := ⟨_, rfl⟩
                  replace H : ((cuecardlaw08_all.f kj3 l0 y308).bind fun t313 => (cuecardlaw08_KmpCuts.l0 kj3 l0 ji19 y308 t313 false t313 (t313.length : Int) 0)) = some r := by first | (rw [hy308]; with_reducible exact H) | (have H2_ := (Option.bind_some _ _).symm.trans H; rw [hy308]; with_reducible exact H2_) | (have H2_ := (Option.bind_some _ _).symm.trans H; with_reducible exact H2_) | with_reducible exact H | (rw [hy308]; exact H) | exact H
                  have Ny308 := Aside0.mk hy308
                  clear hy308
                  replace H := Option.bind_eq_some_iff.mp H
                  obtain ⟨t313, A230, H⟩ := H
                  replace H : (cuecardlaw08_KmpCuts.l0 kj3 l0 ji19 y308 t313 false t313 (t313.length : Int) 0) = some r := H
                  have A23 := Aside0.mk A230
                  clear A230
                  have H' := Aside0.mk H
                  clear H
                  have q24 : ((wrap64 ((ji19) + (wrap64 (Int.tmod (IntKind.u64.wrap (a2)) (IntKind.u64.wrap (wrap64 ((wrap64 ((l0.length : Int) - (ji19))) + 1))))))) : Int) ≤ ((l0.length : Int) : Int) := of_decide_eq_true (by first | (with_reducible assumption) | assumption)
                  obtain ⟨i024, hi024, _, hsz24, _⟩ := info_parts info3
                  have hroom24 : l0.length ≤ c0 := (Kd.V_reads' HO_0.out).2.1
                  have hC24 : Kd.F (Kd.int .i64) _ _ A0 l0.length l0 := (Kd.V_at (base := w.heap.size) HO_0.out).2.2
                  have ql24 : ((ji19) : Int) ≤ ((wrap64 ((ji19) + (wrap64 (Int.tmod (IntKind.u64.wrap (a2)) (IntKind.u64.wrap (wrap64 ((wrap64 ((l0.length : Int) - (ji19))) + 1))))))) : Int) := of_decide_eq_true (by first | (with_reducible assumption) | assumption)
                  have q024 : (0 : Int) ≤ ((ji19) : Int) := of_decide_eq_true (by first | (with_reducible assumption) | assumption)
                  have hcut24 := cut_mid (P := Try.prog) 22 3 .i64 .i64 Try.underlying22 hi024 1 hsz24 A0 l0.length c0 (ji19) (wrap64 ((ji19) + (wrap64 (Int.tmod (IntKind.u64.wrap (a2)) (IntKind.u64.wrap (wrap64 ((wrap64 ((l0.length : Int) - (ji19))) + 1))))))) q024 ql24 q24 hroom24
                  have hr24 := Kd.F_mid (lo := ((ji19) : Int).toNat) (hi := ((wrap64 ((ji19) + (wrap64 (Int.tmod (IntKind.u64.wrap (a2)) (IntKind.u64.wrap (wrap64 ((wrap64 ((l0.length : Int) - (ji19))) + 1))))))) : Int).toNat) (c := c0) hC24 (by omega) (by omega) hroom24
                  obtain ⟨A24, hA24⟩ : ∃ A1, A1 = (if c0 = ((ji19) : Int).toNat then A0 else (A0 : Option Addr).map (·.add (((ji19) : Int).toNat * 1))) := ⟨_, rfl⟩
                  obtain ⟨c24, hc24⟩ : ∃ c1, c1 = c0 - ((ji19) : Int).toNat := ⟨_, rfl⟩
                  have hy24 : y308.length = ((wrap64 ((ji19) + (wrap64 (Int.tmod (IntKind.u64.wrap (a2)) (IntKind.u64.wrap (wrap64 ((wrap64 ((l0.length : Int) - (ji19))) + 1))))))) : Int).toNat - ((ji19) : Int).toNat := (by rw [Ny308.out, List.length_drop, List.length_take] <;> omega)
                  rw [show ((l0).take ((wrap64 ((ji19) + (wrap64 (Int.tmod (IntKind.u64.wrap (a2)) (IntKind.u64.wrap (wrap64 ((wrap64 ((l0.length : Int) - (ji19))) + 1))))))) : Int).toNat).drop ((ji19) : Int).toNat = y308 from Ny308.out.symm] at hr24
                  replace hr24 : Kd.F (Kd.int .i64) _ _ A24 y308.length y308 := (by rw [hA24]; exact hr24)
                  rw [← hy24, ← hA24, ← hc24] at hcut24
                  have HO312 := Aside0.mk (show Kd.V (Kd.int .i64) 3 _ w.heap.size _ (.slice A24 y308.length c24) y308 from Kd.V_mk (by rw [hy24, hc24]; exact Nat.sub_le_sub_right (Nat.le_trans (by omega) hroom24) _) hr24)
                  have HC312 := Aside0.mk (show y308.length ≤ c24 from by rw [hy24, hc24]; exact Nat.sub_le_sub_right (Nat.le_trans (by omega) hroom24) _)
                  clear hr24 hC24 hroom24 hi024 hsz24 hc24
                  have KY24 := Aside0.mk hy24
                  have KA24 := Aside0.mk hA24
                  clear hy24 hA24
                  replace q24 := eq_true q24
                  go_wp2_with (first | ((with_reducible refine gate_callee (f := 14) rfl ?_); refine goesL_ (some 50) rfl rfl Try.func14 (by kernel_rfl) rfl #[.slice A0 l0.length c0, .slice A24 y308.length c24] rfl (by (try simp only [List.map_toArray, List.map_cons, List.map_nil]); first | done | rfl | (simp only [List.length_drop, List.length_take]; rfl)) ?_; (with_reducible refine (cuecardlaw08_all.calls kj3 _ _ l0 _ _ y308 t313 _ ?side1 ?side2 ?side3 ?side4 A23.out).mono ?_); (case side1 => repeat (first | exact (Kd.V_reads' HO_0.out).2.2 | (with_reducible refine Kd.C_alloc ?_ _) | (with_reducible refine Kd.C_drewN ?_ _) | (with_reducible refine Kd.C_drew ?_))); (case side2 => exact (Kd.V_reads' HO_0.out).2.1); (case side3 => repeat (first | exact (Kd.V_reads' HO312.out).2.2 | (with_reducible refine Kd.C_alloc ?_ _) | (with_reducible refine Kd.C_drewN ?_ _) | (with_reducible refine Kd.C_drew ?_))); (case side4 => exact (Kd.V_reads' HO312.out).2.1); rintro e w25 ⟨v314, rfl, ho0, hb⟩; refine ⟨_, rfl, ?_⟩; have n0_ := Aside0.mk (Kd.V_elder' (by (with_reducible repeat (first | apply Kd.V_alloc | apply Kd.V_drewN | apply Kd.V_drew)); exact HO_0.out) (Kd.R_base ho0) hb); have n1_ := Aside0.mk (Kd.V_elder' (by (with_reducible repeat (first | apply Kd.V_alloc | apply Kd.V_drewN | apply Kd.V_drew)); exact HO312.out) (Kd.R_base ho0) hb); have n2_ := Aside0.mk (Kd.R_lower (Kd.R_newM (M := fun k_ => (w.heap.size ≤ k_)) ho0 (below_size (by repeat (first | (with_reducible first | exact HB.out | apply below_alloc | apply pw_below_drewN | apply below_drew1) | exact HB.out))) (fun k_ h_ => h_)) (below_size (by repeat (first | (with_reducible first | exact HB.out | apply below_alloc | apply pw_below_drewN | apply below_drew1) | exact HB.out)))); have n3_ := Aside0.mk (below_step (by repeat (first | (with_reducible first | exact HB.out | apply below_alloc | apply pw_below_drewN | apply below_drew1) | exact HB.out)) hb); clear HO_0; clear HO312; clear HB; have HO_0 := n0_; have HO312 := n1_; have HO315 := n2_; have HB := n3_; clear n0_ n1_ n2_ n3_; (try clear hb); (try clear hb2); (try clear hk); (try clear hi); (try clear ho0); obtain ⟨Ao26, co26, eo26⟩ := Kd.R_slice HO315.out; subst eo26))
                  go_loopg [11, 53] kj3 (fun kq v11 v53 w' => ∃ (x11_2 : Bool) (x53_2 : Int), v11 = .bool x11_2 ∧ v53 = .int .i64 x53_2 ∧ Aside0 (cuecardlaw08_KmpCuts.l0 kq l0 ji19 y308 t313 x11_2 t313 (t313.length : Int) x53_2 = some r) ∧ Aside0 (kq ≤ kj3) ∧ Aside0 (Kd.V (Kd.int .i64) 3 w' w.heap.size (fun k_ => (P0_ k_ ∨ w.heap.size ≤ k_) ∧ some k_ ≠ ((.slice Ao26 t313.length co26) : Value).ownBlock ∧ some k_ ≠ ((.slice Ao26 t313.length co26) : Value).ownBlock) (.slice A0 l0.length c0) l0) ∧ Aside0 (Kd.V (Kd.int .i64) 3 w' w.heap.size (fun k_ => (P0_ k_ ∨ w.heap.size ≤ k_) ∧ some k_ ≠ ((.slice Ao26 t313.length co26) : Value).ownBlock ∧ some k_ ≠ ((.slice Ao26 t313.length co26) : Value).ownBlock) (.slice A24 y308.length c24) y308) ∧ Aside0 (Kd.R (Kd.int .i64) 3 w' w.heap.size (fun k_ => (w.heap.size ≤ k_)) (.slice Ao26 t313.length co26) t313) ∧ Aside0 (Kd.R (Kd.int .i64) 3 w' w.heap.size (fun k_ => (w.heap.size ≤ k_)) (.slice Ao26 t313.length co26) t313) ∧ Aside0 (Below w.heap.size w w'))
                  case atStart => exact ⟨(false), (0), (by first | rfl | (simp; done) | (simp [*]; done)), (by first | rfl | (simp; done) | (simp [*]; done)), H', ⟨Nat.le_refl _⟩, ⟨by (with_reducible repeat (first | apply Kd.V_alloc | apply Kd.V_drewN | apply Kd.V_drew)); exact Kd.V_mono HO_0.out (fun _ hk => ⟨hk.1, ⟨hk.2, hk.2⟩⟩)⟩, ⟨by (with_reducible repeat (first | apply Kd.V_alloc | apply Kd.V_drewN | apply Kd.V_drew)); exact Kd.V_mono HO312.out (fun _ hk => ⟨hk.1, ⟨hk.2, hk.2⟩⟩)⟩, ⟨by (with_reducible repeat (first | apply Kd.R_alloc | apply Kd.R_drewN | apply Kd.R_drew)); exact Kd.R_mono HO315.out (fun _ hk => hk.1)⟩, ⟨by (with_reducible repeat (first | apply Kd.R_alloc | apply Kd.R_drewN | apply Kd.R_drew)); exact Kd.R_mono HO315.out (fun _ hk => hk.1)⟩, ⟨by repeat (first | (with_reducible first | exact HB.out | apply below_alloc | apply pw_below_drewN | apply below_drew1) | exact HB.out)⟩⟩
                  case round =>
                    clear H'
                    try clear c1
                    try clear c2
                    try clear p2
                    try clear q2
                    try clear c6
                    try clear p6
                    try clear c8
                    try clear c10
                    try clear c14
                    try clear c17
                    try clear c17b0
                    try clear c17b1
                    try clear c18
                    try clear c18b0
                    try clear c18b1
                    try clear c20
                    try clear c20b0
                    try clear c20b1
                    try clear c21
                    try clear c21b0
                    try clear c21b1
                    try clear c22
                    try clear c22b0
                    try clear c22b1
                    try clear c24
                    try clear q24
                    try clear p2
                    try clear q024
                    try clear q24
                    obtain ⟨x11_2, x53_2, rfl, rfl, HA, HK2, HO_0, HO_9, HO_10, HO_51, HB⟩ := hrel
                    cases gk with
                    | zero => exact absurd HA.out (by simp [cuecardlaw08_KmpCuts.l0])
                    | succ k2 =>
                      have H := HA.out
                      clear HA
                      simp only [cuecardlaw08_KmpCuts.l0] at H
                      by_cases c27 : x53_2 < (t313.length : Int)
                      · rw [if_pos c27] at H
                        have c27b0 : decide (x53_2 < (t313.length : Int)) = true := decide_eq_true c27
                        clear c27
                        by_cases c28 : 0 ≤ x53_2
                        · rw [if_pos c28] at H
                          have c28b0 : decide (0 ≤ x53_2) = true := decide_eq_true c28
                          clear c28
                          by_cases c29 : x53_2 < (t313.length : Int)
                          · rw [if_pos c29] at H
                            have c29b0 : decide (x53_2 < (t313.length : Int)) = true := decide_eq_true c29
                            clear c29
                            by_cases c30 : x11_2 = true
                            · subst c30
                              have H1 : (if x53_2 > 0 then (if 0 ≤ (wrap64 (x53_2 - 1)) then (if (wrap64 (x53_2 - 1)) < (t313.length : Int) then (if (rd t313 (wrap64 (x53_2 - 1))) ≥ (rd t313 x53_2) then (some false) else ((cuecardref08_At.f k2 l0 y308 (rd t313 x53_2)).bind fun t318 => (if t318 = true then (cuecardlaw08_KmpCuts.l0 k2 l0 ji19 y308 t313 true t313 (t313.length : Int) (wrap64 (x53_2 + 1))) else (some false)))) else (none)) else (none)) else ((cuecardref08_At.f k2 l0 y308 (rd t313 x53_2)).bind fun t319 => (if t319 = true then (cuecardlaw08_KmpCuts.l0 k2 l0 ji19 y308 t313 true t313 (t313.length : Int) (wrap64 (x53_2 + 1))) else (some false)))) = some r := by rw [if_pos rfl] at H; exact H
                              clear H
                              have H := H1
                              clear H1
                              by_cases c31 : x53_2 > 0
                              · rw [if_pos c31] at H
                                have c31b0 : decide (0 < x53_2) = true := decide_eq_true c31
                                clear c31
                                obtain ⟨ji32, hji32⟩ : ∃ j_ : Int, (wrap64 (x53_2 - 1)) = j_ := ⟨_, rfl⟩
                                replace H : (if 0 ≤ (ji32) then (if (ji32) < (t313.length : Int) then (if (rd t313 (ji32)) ≥ (rd t313 x53_2) then (some false) else ((cuecardref08_At.f k2 l0 y308 (rd t313 x53_2)).bind fun t318 => (if t318 = true then (cuecardlaw08_KmpCuts.l0 k2 l0 ji19 y308 t313 true t313 (t313.length : Int) (wrap64 (x53_2 + 1))) else (some false)))) else (none)) else (none)) = some r := by first | (rw [hji32] at H; exact H) | (simp only [hji32] at H ⊢; exact H)
                                have hji32w : (IntKind.i64.wrap (x53_2 - 1)) = ji32 := (i64_w _).trans hji32
                                by_cases c33 : 0 ≤ (ji32)
                                · rw [if_pos c33] at H
                                  have c33b0 : decide (0 ≤ (ji32)) = true := decide_eq_true c33
                                  clear c33
                                  by_cases c34 : (ji32) < (t313.length : Int)
                                  · rw [if_pos c34] at H
                                    have c34b0 : decide ((ji32) < (t313.length : Int)) = true := decide_eq_true c34
                                    clear c34
                                    by_cases c35 : (rd t313 (ji32)) ≥ (rd t313 x53_2)
                                    · rw [if_pos c35] at H
                                      have c35b0 : decide ((rd t313 x53_2) ≤ (rd t313 (ji32))) = true := decide_eq_true c35
                                      clear c35
                                      obtain rfl := Option.some.inj H
                                      have p316 : 0 ≤ (x53_2 : Int) := of_decide_eq_true (by first | (with_reducible assumption) | assumption)
                                      have q316 : x53_2 < (t313.length : Int) := of_decide_eq_true (by first | (with_reducible assumption) | assumption)
                                      obtain ⟨ad316, e316, hx316_0⟩ := Kd.at_int (Kd.R_reads' HO_51.out).2.2 x53_2 p316 q316
                                      cases e316
                                      replace p316 := eq_true p316
                                      replace q316 := eq_true q316
                                      have p317 : 0 ≤ ((ji32) : Int) := of_decide_eq_true (by first | (with_reducible assumption) | assumption)
                                      have q317 : (ji32) < (t313.length : Int) := of_decide_eq_true (by first | (with_reducible assumption) | assumption)
                                      obtain ⟨ad317, e317, hx317_0⟩ := Kd.at_int (Kd.R_reads' HO_10.out).2.2 (ji32) p317 q317
                                      obtain rfl : ad316 = ad317 := (by injection e317)
                                      replace p317 := eq_true p317
                                      replace q317 := eq_true q317
                                      go_wp2
                                      go_ret
                                      exact ⟨by first | rfl | (simp [errW_none, errW_some] <;> rfl) | (simp only [← hji19, ← hji32]; first | rfl | (simp [errW_none, errW_some] <;> rfl)) | (simp [*, errW_none, errW_some] <;> rfl), by repeat (first | (with_reducible first | exact HB.out | apply below_alloc | apply pw_below_drewN | apply below_drew1) | exact HB.out)⟩
                                    · rw [if_neg c35] at H
                                      have c35b0 : decide ((rd t313 x53_2) ≤ (rd t313 (ji32))) = false := decide_eq_false c35
                                      clear c35
                                      replace H := Option.bind_eq_some_iff.mp H
                                      obtain ⟨t318, A360, H⟩ := H
                                      replace H : (if t318 = true then (cuecardlaw08_KmpCuts.l0 k2 l0 ji19 y308 t313 true t313 (t313.length : Int) (wrap64 (x53_2 + 1))) else (some false)) = some r := H
                                      have A36 := Aside0.mk A360
                                      clear A360
                                      by_cases c37 : t318 = true
                                      · subst c37
                                        have H1 : (cuecardlaw08_KmpCuts.l0 k2 l0 ji19 y308 t313 true t313 (t313.length : Int) (wrap64 (x53_2 + 1))) = some r := by rw [if_pos rfl] at H; exact H
                                        clear H
                                        have H := H1
                                        clear H1
                                        have H' := Aside0.mk H
                                        clear H
                                        have p316 : 0 ≤ (x53_2 : Int) := of_decide_eq_true (by first | (with_reducible assumption) | assumption)
                                        have q316 : x53_2 < (t313.length : Int) := of_decide_eq_true (by first | (with_reducible assumption) | assumption)
                                        obtain ⟨ad316, e316, hx316_0⟩ := Kd.at_int (Kd.R_reads' HO_51.out).2.2 x53_2 p316 q316
                                        cases e316
                                        replace p316 := eq_true p316
                                        replace q316 := eq_true q316
                                        have p317 : 0 ≤ ((ji32) : Int) := of_decide_eq_true (by first | (with_reducible assumption) | assumption)
                                        have q317 : (ji32) < (t313.length : Int) := of_decide_eq_true (by first | (with_reducible assumption) | assumption)
                                        obtain ⟨ad317, e317, hx317_0⟩ := Kd.at_int (Kd.R_reads' HO_10.out).2.2 (ji32) p317 q317
                                        obtain rfl : ad316 = ad317 := (by injection e317)
                                        replace p317 := eq_true p317
                                        replace q317 := eq_true q317
                                        go_wp2_with (first | (go_at_call 13; (with_reducible refine (cuecardref08_At.calls k2 _ _ l0 _ _ y308 (rd t313 x53_2) true _ ?side1 ?side2 ?side3 ?side4 A36.out).mono ?_); (case side1 => repeat (first | exact (Kd.V_reads' HO_0.out).2.2 | (with_reducible refine Kd.C_alloc ?_ _) | (with_reducible refine Kd.C_drewN ?_ _) | (with_reducible refine Kd.C_drew ?_))); (case side2 => exact (Kd.V_reads' HO_0.out).2.1); (case side3 => repeat (first | exact (Kd.V_reads' HO_9.out).2.2 | (with_reducible refine Kd.C_alloc ?_ _) | (with_reducible refine Kd.C_drewN ?_ _) | (with_reducible refine Kd.C_drew ?_))); (case side4 => exact (Kd.V_reads' HO_9.out).2.1); rintro e w38 ⟨rfl, hb⟩; have n0_ := Aside0.mk (Kd.V_below (by (with_reducible repeat (first | apply Kd.V_alloc | apply Kd.V_drewN | apply Kd.V_drew)); exact HO_0.out) hb); have n1_ := Aside0.mk (Kd.V_below (by (with_reducible repeat (first | apply Kd.V_alloc | apply Kd.V_drewN | apply Kd.V_drew)); exact HO_9.out) hb); have n2_ := Aside0.mk (Kd.R_below (by (with_reducible repeat (first | apply Kd.R_alloc | apply Kd.R_drewN | apply Kd.R_drew)); exact HO_10.out) hb); have n3_ := Aside0.mk (Kd.R_below (by (with_reducible repeat (first | apply Kd.R_alloc | apply Kd.R_drewN | apply Kd.R_drew)); exact HO_51.out) hb); have n4_ := Aside0.mk (below_step (by repeat (first | (with_reducible first | exact HB.out | apply below_alloc | apply pw_below_drewN | apply below_drew1) | exact HB.out)) hb); clear HO_0; clear HO_9; clear HO_10; clear HO_51; clear HB; have HO_0 := n0_; have HO_9 := n1_; have HO_10 := n2_; have HO_51 := n3_; have HB := n4_; clear n0_ n1_ n2_ n3_ n4_; (try clear hb); (try clear hb2); (try clear hk); (try clear hi)))
                                        go_roundg k2
                                        case measure => have := HJ3.out; have := HK2.out; omega
                                        case rel => exact ⟨(true), (wrap64 (x53_2 + 1)), (by first | rfl | (simp; done) | (simp [*]; done)), (by first | rfl | (simp; done) | (simp [*]; done)), H', ⟨by have := HJ3.out; have := HK2.out; omega⟩, ⟨by (with_reducible repeat (first | apply Kd.V_alloc | apply Kd.V_drewN | apply Kd.V_drew)); exact HO_0.out⟩, ⟨by (with_reducible repeat (first | apply Kd.V_alloc | apply Kd.V_drewN | apply Kd.V_drew)); exact HO_9.out⟩, ⟨by (with_reducible repeat (first | apply Kd.R_alloc | apply Kd.R_drewN | apply Kd.R_drew)); exact HO_10.out⟩, ⟨by (with_reducible repeat (first | apply Kd.R_alloc | apply Kd.R_drewN | apply Kd.R_drew)); exact HO_51.out⟩, ⟨by repeat (first | (with_reducible first | exact HB.out | apply below_alloc | apply pw_below_drewN | apply below_drew1) | exact HB.out)⟩⟩
                                      · replace c37 := Bool.eq_false_iff.mpr c37
                                        subst c37
                                        have H1 : (some false) = some r := by rw [if_neg (show ¬ (false = true) by decide)] at H; exact H
                                        clear H
                                        have H := H1
                                        clear H1
                                        obtain rfl := Option.some.inj H
                                        have p316 : 0 ≤ (x53_2 : Int) := of_decide_eq_true (by first | (with_reducible assumption) | assumption)
                                        have q316 : x53_2 < (t313.length : Int) := of_decide_eq_true (by first | (with_reducible assumption) | assumption)
                                        obtain ⟨ad316, e316, hx316_0⟩ := Kd.at_int (Kd.R_reads' HO_51.out).2.2 x53_2 p316 q316
                                        cases e316
                                        replace p316 := eq_true p316
                                        replace q316 := eq_true q316
                                        have p317 : 0 ≤ ((ji32) : Int) := of_decide_eq_true (by first | (with_reducible assumption) | assumption)
                                        have q317 : (ji32) < (t313.length : Int) := of_decide_eq_true (by first | (with_reducible assumption) | assumption)
                                        obtain ⟨ad317, e317, hx317_0⟩ := Kd.at_int (Kd.R_reads' HO_10.out).2.2 (ji32) p317 q317
                                        obtain rfl : ad316 = ad317 := (by injection e317)
                                        replace p317 := eq_true p317
                                        replace q317 := eq_true q317
                                        go_wp2_with (first | (go_at_call 13; (with_reducible refine (cuecardref08_At.calls k2 _ _ l0 _ _ y308 (rd t313 x53_2) false _ ?side1 ?side2 ?side3 ?side4 A36.out).mono ?_); (case side1 => repeat (first | exact (Kd.V_reads' HO_0.out).2.2 | (with_reducible refine Kd.C_alloc ?_ _) | (with_reducible refine Kd.C_drewN ?_ _) | (with_reducible refine Kd.C_drew ?_))); (case side2 => exact (Kd.V_reads' HO_0.out).2.1); (case side3 => repeat (first | exact (Kd.V_reads' HO_9.out).2.2 | (with_reducible refine Kd.C_alloc ?_ _) | (with_reducible refine Kd.C_drewN ?_ _) | (with_reducible refine Kd.C_drew ?_))); (case side4 => exact (Kd.V_reads' HO_9.out).2.1); rintro e w39 ⟨rfl, hb⟩; have n0_ := Aside0.mk (Kd.V_below (by (with_reducible repeat (first | apply Kd.V_alloc | apply Kd.V_drewN | apply Kd.V_drew)); exact HO_0.out) hb); have n1_ := Aside0.mk (Kd.V_below (by (with_reducible repeat (first | apply Kd.V_alloc | apply Kd.V_drewN | apply Kd.V_drew)); exact HO_9.out) hb); have n2_ := Aside0.mk (Kd.R_below (by (with_reducible repeat (first | apply Kd.R_alloc | apply Kd.R_drewN | apply Kd.R_drew)); exact HO_10.out) hb); have n3_ := Aside0.mk (Kd.R_below (by (with_reducible repeat (first | apply Kd.R_alloc | apply Kd.R_drewN | apply Kd.R_drew)); exact HO_51.out) hb); have n4_ := Aside0.mk (below_step (by repeat (first | (with_reducible first | exact HB.out | apply below_alloc | apply pw_below_drewN | apply below_drew1) | exact HB.out)) hb); clear HO_0; clear HO_9; clear HO_10; clear HO_51; clear HB; have HO_0 := n0_; have HO_9 := n1_; have HO_10 := n2_; have HO_51 := n3_; have HB := n4_; clear n0_ n1_ n2_ n3_ n4_; (try clear hb); (try clear hb2); (try clear hk); (try clear hi)))
                                        go_ret
                                        exact ⟨by first | rfl | (simp [errW_none, errW_some] <;> rfl) | (simp only [← hji19, ← hji32]; first | rfl | (simp [errW_none, errW_some] <;> rfl)) | (simp [*, errW_none, errW_some] <;> rfl), by repeat (first | (with_reducible first | exact HB.out | apply below_alloc | apply pw_below_drewN | apply below_drew1) | exact HB.out)⟩
                                  · rw [if_neg c34] at H
                                    exact absurd H (by simp)
                                · rw [if_neg c33] at H
                                  exact absurd H (by simp)
                              · rw [if_neg c31] at H
                                have c31b0 : decide (0 < x53_2) = false := decide_eq_false c31
                                clear c31
                                replace H := Option.bind_eq_some_iff.mp H
                                obtain ⟨t319, A400, H⟩ := H
                                replace H : (if t319 = true then (cuecardlaw08_KmpCuts.l0 k2 l0 ji19 y308 t313 true t313 (t313.length : Int) (wrap64 (x53_2 + 1))) else (some false)) = some r := H
                                have A40 := Aside0.mk A400
                                clear A400
                                by_cases c41 : t319 = true
                                · subst c41
                                  have H1 : (cuecardlaw08_KmpCuts.l0 k2 l0 ji19 y308 t313 true t313 (t313.length : Int) (wrap64 (x53_2 + 1))) = some r := by rw [if_pos rfl] at H; exact H
                                  clear H
                                  have H := H1
                                  clear H1
                                  have H' := Aside0.mk H
                                  clear H
                                  have p316 : 0 ≤ (x53_2 : Int) := of_decide_eq_true (by first | (with_reducible assumption) | assumption)
                                  have q316 : x53_2 < (t313.length : Int) := of_decide_eq_true (by first | (with_reducible assumption) | assumption)
                                  obtain ⟨ad316, e316, hx316_0⟩ := Kd.at_int (Kd.R_reads' HO_51.out).2.2 x53_2 p316 q316
                                  cases e316
                                  replace p316 := eq_true p316
                                  replace q316 := eq_true q316
                                  go_wp2_with (first | (go_at_call 13; (with_reducible refine (cuecardref08_At.calls k2 _ _ l0 _ _ y308 (rd t313 x53_2) true _ ?side1 ?side2 ?side3 ?side4 A40.out).mono ?_); (case side1 => repeat (first | exact (Kd.V_reads' HO_0.out).2.2 | (with_reducible refine Kd.C_alloc ?_ _) | (with_reducible refine Kd.C_drewN ?_ _) | (with_reducible refine Kd.C_drew ?_))); (case side2 => exact (Kd.V_reads' HO_0.out).2.1); (case side3 => repeat (first | exact (Kd.V_reads' HO_9.out).2.2 | (with_reducible refine Kd.C_alloc ?_ _) | (with_reducible refine Kd.C_drewN ?_ _) | (with_reducible refine Kd.C_drew ?_))); (case side4 => exact (Kd.V_reads' HO_9.out).2.1); rintro e w42 ⟨rfl, hb⟩; have n0_ := Aside0.mk (Kd.V_below (by (with_reducible repeat (first | apply Kd.V_alloc | apply Kd.V_drewN | apply Kd.V_drew)); exact HO_0.out) hb); have n1_ := Aside0.mk (Kd.V_below (by (with_reducible repeat (first | apply Kd.V_alloc | apply Kd.V_drewN | apply Kd.V_drew)); exact HO_9.out) hb); have n2_ := Aside0.mk (Kd.R_below (by (with_reducible repeat (first | apply Kd.R_alloc | apply Kd.R_drewN | apply Kd.R_drew)); exact HO_10.out) hb); have n3_ := Aside0.mk (Kd.R_below (by (with_reducible repeat (first | apply Kd.R_alloc | apply Kd.R_drewN | apply Kd.R_drew)); exact HO_51.out) hb); have n4_ := Aside0.mk (below_step (by repeat (first | (with_reducible first | exact HB.out | apply below_alloc | apply pw_below_drewN | apply below_drew1) | exact HB.out)) hb); clear HO_0; clear HO_9; clear HO_10; clear HO_51; clear HB; have HO_0 := n0_; have HO_9 := n1_; have HO_10 := n2_; have HO_51 := n3_; have HB := n4_; clear n0_ n1_ n2_ n3_ n4_; (try clear hb); (try clear hb2); (try clear hk); (try clear hi)))
                                  go_roundg k2
                                  case measure => have := HJ3.out; have := HK2.out; omega
                                  case rel => exact ⟨(true), (wrap64 (x53_2 + 1)), (by first | rfl | (simp; done) | (simp [*]; done)), (by first | rfl | (simp; done) | (simp [*]; done)), H', ⟨by have := HJ3.out; have := HK2.out; omega⟩, ⟨by (with_reducible repeat (first | apply Kd.V_alloc | apply Kd.V_drewN | apply Kd.V_drew)); exact HO_0.out⟩, ⟨by (with_reducible repeat (first | apply Kd.V_alloc | apply Kd.V_drewN | apply Kd.V_drew)); exact HO_9.out⟩, ⟨by (with_reducible repeat (first | apply Kd.R_alloc | apply Kd.R_drewN | apply Kd.R_drew)); exact HO_10.out⟩, ⟨by (with_reducible repeat (first | apply Kd.R_alloc | apply Kd.R_drewN | apply Kd.R_drew)); exact HO_51.out⟩, ⟨by repeat (first | (with_reducible first | exact HB.out | apply below_alloc | apply pw_below_drewN | apply below_drew1) | exact HB.out)⟩⟩
                                · replace c41 := Bool.eq_false_iff.mpr c41
                                  subst c41
                                  have H1 : (some false) = some r := by rw [if_neg (show ¬ (false = true) by decide)] at H; exact H
                                  clear H
                                  have H := H1
                                  clear H1
                                  obtain rfl := Option.some.inj H
                                  have p316 : 0 ≤ (x53_2 : Int) := of_decide_eq_true (by first | (with_reducible assumption) | assumption)
                                  have q316 : x53_2 < (t313.length : Int) := of_decide_eq_true (by first | (with_reducible assumption) | assumption)
                                  obtain ⟨ad316, e316, hx316_0⟩ := Kd.at_int (Kd.R_reads' HO_51.out).2.2 x53_2 p316 q316
                                  cases e316
                                  replace p316 := eq_true p316
                                  replace q316 := eq_true q316
                                  go_wp2_with (first | (go_at_call 13; (with_reducible refine (cuecardref08_At.calls k2 _ _ l0 _ _ y308 (rd t313 x53_2) false _ ?side1 ?side2 ?side3 ?side4 A40.out).mono ?_); (case side1 => repeat (first | exact (Kd.V_reads' HO_0.out).2.2 | (with_reducible refine Kd.C_alloc ?_ _) | (with_reducible refine Kd.C_drewN ?_ _) | (with_reducible refine Kd.C_drew ?_))); (case side2 => exact (Kd.V_reads' HO_0.out).2.1); (case side3 => repeat (first | exact (Kd.V_reads' HO_9.out).2.2 | (with_reducible refine Kd.C_alloc ?_ _) | (with_reducible refine Kd.C_drewN ?_ _) | (with_reducible refine Kd.C_drew ?_))); (case side4 => exact (Kd.V_reads' HO_9.out).2.1); rintro e w43 ⟨rfl, hb⟩; have n0_ := Aside0.mk (Kd.V_below (by (with_reducible repeat (first | apply Kd.V_alloc | apply Kd.V_drewN | apply Kd.V_drew)); exact HO_0.out) hb); have n1_ := Aside0.mk (Kd.V_below (by (with_reducible repeat (first | apply Kd.V_alloc | apply Kd.V_drewN | apply Kd.V_drew)); exact HO_9.out) hb); have n2_ := Aside0.mk (Kd.R_below (by (with_reducible repeat (first | apply Kd.R_alloc | apply Kd.R_drewN | apply Kd.R_drew)); exact HO_10.out) hb); have n3_ := Aside0.mk (Kd.R_below (by (with_reducible repeat (first | apply Kd.R_alloc | apply Kd.R_drewN | apply Kd.R_drew)); exact HO_51.out) hb); have n4_ := Aside0.mk (below_step (by repeat (first | (with_reducible first | exact HB.out | apply below_alloc | apply pw_below_drewN | apply below_drew1) | exact HB.out)) hb); clear HO_0; clear HO_9; clear HO_10; clear HO_51; clear HB; have HO_0 := n0_; have HO_9 := n1_; have HO_10 := n2_; have HO_51 := n3_; have HB := n4_; clear n0_ n1_ n2_ n3_ n4_; (try clear hb); (try clear hb2); (try clear hk); (try clear hi)))
                                  go_ret
                                  exact ⟨by first | rfl | (simp [errW_none, errW_some] <;> rfl) | (simp only [← hji19]; first | rfl | (simp [errW_none, errW_some] <;> rfl)) | (simp [*, errW_none, errW_some] <;> rfl), by repeat (first | (with_reducible first | exact HB.out | apply below_alloc | apply pw_below_drewN | apply below_drew1) | exact HB.out)⟩
                            · replace c30 := Bool.eq_false_iff.mpr c30
                              subst c30
                              have H1 : (if x53_2 > 0 then (if 0 ≤ (wrap64 (x53_2 - 1)) then (if (wrap64 (x53_2 - 1)) < (t313.length : Int) then (if (rd t313 (wrap64 (x53_2 - 1))) ≥ (rd t313 x53_2) then (some false) else ((cuecardref08_At.f k2 l0 y308 (rd t313 x53_2)).bind fun t321 => (if t321 = true then (cuecardlaw08_KmpCuts.l0 k2 l0 ji19 y308 t313 ((rd t313 x53_2) == ji19) t313 (t313.length : Int) (wrap64 (x53_2 + 1))) else (some false)))) else (none)) else (none)) else ((cuecardref08_At.f k2 l0 y308 (rd t313 x53_2)).bind fun t322 => (if t322 = true then (cuecardlaw08_KmpCuts.l0 k2 l0 ji19 y308 t313 ((rd t313 x53_2) == ji19) t313 (t313.length : Int) (wrap64 (x53_2 + 1))) else (some false)))) = some r := by rw [if_neg (show ¬ (false = true) by decide)] at H; exact H
                              clear H
                              have H := H1
                              clear H1
                              by_cases c44 : x53_2 > 0
                              · rw [if_pos c44] at H
                                have c44b0 : decide (0 < x53_2) = true := decide_eq_true c44
                                clear c44
                                obtain ⟨ji45, hji45⟩ : ∃ j_ : Int, (wrap64 (x53_2 - 1)) = j_ := ⟨_, rfl⟩
                                replace H : (if 0 ≤ (ji45) then (if (ji45) < (t313.length : Int) then (if (rd t313 (ji45)) ≥ (rd t313 x53_2) then (some false) else ((cuecardref08_At.f k2 l0 y308 (rd t313 x53_2)).bind fun t321 => (if t321 = true then (cuecardlaw08_KmpCuts.l0 k2 l0 ji19 y308 t313 ((rd t313 x53_2) == ji19) t313 (t313.length : Int) (wrap64 (x53_2 + 1))) else (some false)))) else (none)) else (none)) = some r := by first | (rw [hji45] at H; exact H) | (simp only [hji45] at H ⊢; exact H)
                                have hji45w : (IntKind.i64.wrap (x53_2 - 1)) = ji45 := (i64_w _).trans hji45
                                by_cases c46 : 0 ≤ (ji45)
                                · rw [if_pos c46] at H
                                  have c46b0 : decide (0 ≤ (ji45)) = true := decide_eq_true c46
                                  clear c46
                                  by_cases c47 : (ji45) < (t313.length : Int)
                                  · rw [if_pos c47] at H
                                    have c47b0 : decide ((ji45) < (t313.length : Int)) = true := decide_eq_true c47
                                    clear c47
                                    by_cases c48 : (rd t313 (ji45)) ≥ (rd t313 x53_2)
                                    · rw [if_pos c48] at H
                                      have c48b0 : decide ((rd t313 x53_2) ≤ (rd t313 (ji45))) = true := decide_eq_true c48
                                      clear c48
                                      obtain rfl := Option.some.inj H
                                      have p316 : 0 ≤ (x53_2 : Int) := of_decide_eq_true (by first | (with_reducible assumption) | assumption)
                                      have q316 : x53_2 < (t313.length : Int) := of_decide_eq_true (by first | (with_reducible assumption) | assumption)
                                      obtain ⟨ad316, e316, hx316_0⟩ := Kd.at_int (Kd.R_reads' HO_51.out).2.2 x53_2 p316 q316
                                      cases e316
                                      replace p316 := eq_true p316
                                      replace q316 := eq_true q316
                                      have p320 : 0 ≤ ((ji45) : Int) := of_decide_eq_true (by first | (with_reducible assumption) | assumption)
                                      have q320 : (ji45) < (t313.length : Int) := of_decide_eq_true (by first | (with_reducible assumption) | assumption)
                                      obtain ⟨ad320, e320, hx320_0⟩ := Kd.at_int (Kd.R_reads' HO_10.out).2.2 (ji45) p320 q320
                                      obtain rfl : ad316 = ad320 := (by injection e320)
                                      replace p320 := eq_true p320
                                      replace q320 := eq_true q320
                                      go_wp2
                                      go_ret
                                      exact ⟨by first | rfl | (simp [errW_none, errW_some] <;> rfl) | (simp only [← hji19, ← hji45]; first | rfl | (simp [errW_none, errW_some] <;> rfl)) | (simp [*, errW_none, errW_some] <;> rfl), by repeat (first | (with_reducible first | exact HB.out | apply below_alloc | apply pw_below_drewN | apply below_drew1) | exact HB.out)⟩
                                    · rw [if_neg c48] at H
                                      have c48b0 : decide ((rd t313 x53_2) ≤ (rd t313 (ji45))) = false := decide_eq_false c48
                                      clear c48
                                      replace H := Option.bind_eq_some_iff.mp H
                                      obtain ⟨t321, A490, H⟩ := H
                                      replace H : (if t321 = true then (cuecardlaw08_KmpCuts.l0 k2 l0 ji19 y308 t313 ((rd t313 x53_2) == ji19) t313 (t313.length : Int) (wrap64 (x53_2 + 1))) else (some false)) = some r := H
                                      have A49 := Aside0.mk A490
                                      clear A490
                                      by_cases c50 : t321 = true
                                      · subst c50
                                        have H1 : (cuecardlaw08_KmpCuts.l0 k2 l0 ji19 y308 t313 ((rd t313 x53_2) == ji19) t313 (t313.length : Int) (wrap64 (x53_2 + 1))) = some r := by rw [if_pos rfl] at H; exact H
                                        clear H
                                        have H := H1
                                        clear H1
                                        have H' := Aside0.mk H
                                        clear H
                                        have p316 : 0 ≤ (x53_2 : Int) := of_decide_eq_true (by first | (with_reducible assumption) | assumption)
                                        have q316 : x53_2 < (t313.length : Int) := of_decide_eq_true (by first | (with_reducible assumption) | assumption)
                                        obtain ⟨ad316, e316, hx316_0⟩ := Kd.at_int (Kd.R_reads' HO_51.out).2.2 x53_2 p316 q316
                                        cases e316
                                        replace p316 := eq_true p316
                                        replace q316 := eq_true q316
                                        have p320 : 0 ≤ ((ji45) : Int) := of_decide_eq_true (by first | (with_reducible assumption) | assumption)
                                        have q320 : (ji45) < (t313.length : Int) := of_decide_eq_true (by first | (with_reducible assumption) | assumption)
                                        obtain ⟨ad320, e320, hx320_0⟩ := Kd.at_int (Kd.R_reads' HO_10.out).2.2 (ji45) p320 q320
                                        obtain rfl : ad316 = ad320 := (by injection e320)
                                        replace p320 := eq_true p320
                                        replace q320 := eq_true q320
                                        go_wp2_with (first | (go_at_call 13; (with_reducible refine (cuecardref08_At.calls k2 _ _ l0 _ _ y308 (rd t313 x53_2) true _ ?side1 ?side2 ?side3 ?side4 A49.out).mono ?_); (case side1 => repeat (first | exact (Kd.V_reads' HO_0.out).2.2 | (with_reducible refine Kd.C_alloc ?_ _) | (with_reducible refine Kd.C_drewN ?_ _) | (with_reducible refine Kd.C_drew ?_))); (case side2 => exact (Kd.V_reads' HO_0.out).2.1); (case side3 => repeat (first | exact (Kd.V_reads' HO_9.out).2.2 | (with_reducible refine Kd.C_alloc ?_ _) | (with_reducible refine Kd.C_drewN ?_ _) | (with_reducible refine Kd.C_drew ?_))); (case side4 => exact (Kd.V_reads' HO_9.out).2.1); rintro e w51 ⟨rfl, hb⟩; have n0_ := Aside0.mk (Kd.V_below (by (with_reducible repeat (first | apply Kd.V_alloc | apply Kd.V_drewN | apply Kd.V_drew)); exact HO_0.out) hb); have n1_ := Aside0.mk (Kd.V_below (by (with_reducible repeat (first | apply Kd.V_alloc | apply Kd.V_drewN | apply Kd.V_drew)); exact HO_9.out) hb); have n2_ := Aside0.mk (Kd.R_below (by (with_reducible repeat (first | apply Kd.R_alloc | apply Kd.R_drewN | apply Kd.R_drew)); exact HO_10.out) hb); have n3_ := Aside0.mk (Kd.R_below (by (with_reducible repeat (first | apply Kd.R_alloc | apply Kd.R_drewN | apply Kd.R_drew)); exact HO_51.out) hb); have n4_ := Aside0.mk (below_step (by repeat (first | (with_reducible first | exact HB.out | apply below_alloc | apply pw_below_drewN | apply below_drew1) | exact HB.out)) hb); clear HO_0; clear HO_9; clear HO_10; clear HO_51; clear HB; have HO_0 := n0_; have HO_9 := n1_; have HO_10 := n2_; have HO_51 := n3_; have HB := n4_; clear n0_ n1_ n2_ n3_ n4_; (try clear hb); (try clear hb2); (try clear hk); (try clear hi)))
                                        go_roundg k2
                                        case measure => have := HJ3.out; have := HK2.out; omega
                                        case rel => exact ⟨(((rd t313 x53_2) == ji19)), (wrap64 (x53_2 + 1)), (by first | rfl | (simp; done) | (simp only [← hji19] <;> (first | rfl | simp)) | (simp [*]; done)), (by first | rfl | (simp; done) | (simp [*]; done)), H', ⟨by have := HJ3.out; have := HK2.out; omega⟩, ⟨by (with_reducible repeat (first | apply Kd.V_alloc | apply Kd.V_drewN | apply Kd.V_drew)); exact HO_0.out⟩, ⟨by (with_reducible repeat (first | apply Kd.V_alloc | apply Kd.V_drewN | apply Kd.V_drew)); exact HO_9.out⟩, ⟨by (with_reducible repeat (first | apply Kd.R_alloc | apply Kd.R_drewN | apply Kd.R_drew)); exact HO_10.out⟩, ⟨by (with_reducible repeat (first | apply Kd.R_alloc | apply Kd.R_drewN | apply Kd.R_drew)); exact HO_51.out⟩, ⟨by repeat (first | (with_reducible first | exact HB.out | apply below_alloc | apply pw_below_drewN | apply below_drew1) | exact HB.out)⟩⟩
                                      · replace c50 := Bool.eq_false_iff.mpr c50
                                        subst c50
                                        have H1 : (some false) = some r := by rw [if_neg (show ¬ (false = true) by decide)] at H; exact H
                                        clear H
                                        have H := H1
                                        clear H1
                                        obtain rfl := Option.some.inj H
                                        have p316 : 0 ≤ (x53_2 : Int) := of_decide_eq_true (by first | (with_reducible assumption) | assumption)
                                        have q316 : x53_2 < (t313.length : Int) := of_decide_eq_true (by first | (with_reducible assumption) | assumption)
                                        obtain ⟨ad316, e316, hx316_0⟩ := Kd.at_int (Kd.R_reads' HO_51.out).2.2 x53_2 p316 q316
                                        cases e316
                                        replace p316 := eq_true p316
                                        replace q316 := eq_true q316
                                        have p320 : 0 ≤ ((ji45) : Int) := of_decide_eq_true (by first | (with_reducible assumption) | assumption)
                                        have q320 : (ji45) < (t313.length : Int) := of_decide_eq_true (by first | (with_reducible assumption) | assumption)
                                        obtain ⟨ad320, e320, hx320_0⟩ := Kd.at_int (Kd.R_reads' HO_10.out).2.2 (ji45) p320 q320
                                        obtain rfl : ad316 = ad320 := (by injection e320)
                                        replace p320 := eq_true p320
                                        replace q320 := eq_true q320
                                        go_wp2_with (first | (go_at_call 13; (with_reducible refine (cuecardref08_At.calls k2 _ _ l0 _ _ y308 (rd t313 x53_2) false _ ?side1 ?side2 ?side3 ?side4 A49.out).mono ?_); (case side1 => repeat (first | exact (Kd.V_reads' HO_0.out).2.2 | (with_reducible refine Kd.C_alloc ?_ _) | (with_reducible refine Kd.C_drewN ?_ _) | (with_reducible refine Kd.C_drew ?_))); (case side2 => exact (Kd.V_reads' HO_0.out).2.1); (case side3 => repeat (first | exact (Kd.V_reads' HO_9.out).2.2 | (with_reducible refine Kd.C_alloc ?_ _) | (with_reducible refine Kd.C_drewN ?_ _) | (with_reducible refine Kd.C_drew ?_))); (case side4 => exact (Kd.V_reads' HO_9.out).2.1); rintro e w52 ⟨rfl, hb⟩; have n0_ := Aside0.mk (Kd.V_below (by (with_reducible repeat (first | apply Kd.V_alloc | apply Kd.V_drewN | apply Kd.V_drew)); exact HO_0.out) hb); have n1_ := Aside0.mk (Kd.V_below (by (with_reducible repeat (first | apply Kd.V_alloc | apply Kd.V_drewN | apply Kd.V_drew)); exact HO_9.out) hb); have n2_ := Aside0.mk (Kd.R_below (by (with_reducible repeat (first | apply Kd.R_alloc | apply Kd.R_drewN | apply Kd.R_drew)); exact HO_10.out) hb); have n3_ := Aside0.mk (Kd.R_below (by (with_reducible repeat (first | apply Kd.R_alloc | apply Kd.R_drewN | apply Kd.R_drew)); exact HO_51.out) hb); have n4_ := Aside0.mk (below_step (by repeat (first | (with_reducible first | exact HB.out | apply below_alloc | apply pw_below_drewN | apply below_drew1) | exact HB.out)) hb); clear HO_0; clear HO_9; clear HO_10; clear HO_51; clear HB; have HO_0 := n0_; have HO_9 := n1_; have HO_10 := n2_; have HO_51 := n3_; have HB := n4_; clear n0_ n1_ n2_ n3_ n4_; (try clear hb); (try clear hb2); (try clear hk); (try clear hi)))
                                        go_ret
                                        exact ⟨by first | rfl | (simp [errW_none, errW_some] <;> rfl) | (simp only [← hji19, ← hji45]; first | rfl | (simp [errW_none, errW_some] <;> rfl)) | (simp [*, errW_none, errW_some] <;> rfl), by repeat (first | (with_reducible first | exact HB.out | apply below_alloc | apply pw_below_drewN | apply below_drew1) | exact HB.out)⟩
                                  · rw [if_neg c47] at H
                                    exact absurd H (by simp)
                                · rw [if_neg c46] at H
                                  exact absurd H (by simp)
                              · rw [if_neg c44] at H
                                have c44b0 : decide (0 < x53_2) = false := decide_eq_false c44
                                clear c44
                                replace H := Option.bind_eq_some_iff.mp H
                                obtain ⟨t322, A530, H⟩ := H
                                replace H : (if t322 = true then (cuecardlaw08_KmpCuts.l0 k2 l0 ji19 y308 t313 ((rd t313 x53_2) == ji19) t313 (t313.length : Int) (wrap64 (x53_2 + 1))) else (some false)) = some r := H
                                have A53 := Aside0.mk A530
                                clear A530
                                by_cases c54 : t322 = true
                                · subst c54
                                  have H1 : (cuecardlaw08_KmpCuts.l0 k2 l0 ji19 y308 t313 ((rd t313 x53_2) == ji19) t313 (t313.length : Int) (wrap64 (x53_2 + 1))) = some r := by rw [if_pos rfl] at H; exact H
                                  clear H
                                  have H := H1
                                  clear H1
                                  have H' := Aside0.mk H
                                  clear H
                                  have p316 : 0 ≤ (x53_2 : Int) := of_decide_eq_true (by first | (with_reducible assumption) | assumption)
                                  have q316 : x53_2 < (t313.length : Int) := of_decide_eq_true (by first | (with_reducible assumption) | assumption)
                                  obtain ⟨ad316, e316, hx316_0⟩ := Kd.at_int (Kd.R_reads' HO_51.out).2.2 x53_2 p316 q316
                                  cases e316
                                  replace p316 := eq_true p316
                                  replace q316 := eq_true q316
                                  go_wp2_with (first | (go_at_call 13; (with_reducible refine (cuecardref08_At.calls k2 _ _ l0 _ _ y308 (rd t313 x53_2) true _ ?side1 ?side2 ?side3 ?side4 A53.out).mono ?_); (case side1 => repeat (first | exact (Kd.V_reads' HO_0.out).2.2 | (with_reducible refine Kd.C_alloc ?_ _) | (with_reducible refine Kd.C_drewN ?_ _) | (with_reducible refine Kd.C_drew ?_))); (case side2 => exact (Kd.V_reads' HO_0.out).2.1); (case side3 => repeat (first | exact (Kd.V_reads' HO_9.out).2.2 | (with_reducible refine Kd.C_alloc ?_ _) | (with_reducible refine Kd.C_drewN ?_ _) | (with_reducible refine Kd.C_drew ?_))); (case side4 => exact (Kd.V_reads' HO_9.out).2.1); rintro e w55 ⟨rfl, hb⟩; have n0_ := Aside0.mk (Kd.V_below (by (with_reducible repeat (first | apply Kd.V_alloc | apply Kd.V_drewN | apply Kd.V_drew)); exact HO_0.out) hb); have n1_ := Aside0.mk (Kd.V_below (by (with_reducible repeat (first | apply Kd.V_alloc | apply Kd.V_drewN | apply Kd.V_drew)); exact HO_9.out) hb); have n2_ := Aside0.mk (Kd.R_below (by (with_reducible repeat (first | apply Kd.R_alloc | apply Kd.R_drewN | apply Kd.R_drew)); exact HO_10.out) hb); have n3_ := Aside0.mk (Kd.R_below (by (with_reducible repeat (first | apply Kd.R_alloc | apply Kd.R_drewN | apply Kd.R_drew)); exact HO_51.out) hb); have n4_ := Aside0.mk (below_step (by repeat (first | (with_reducible first | exact HB.out | apply below_alloc | apply pw_below_drewN | apply below_drew1) | exact HB.out)) hb); clear HO_0; clear HO_9; clear HO_10; clear HO_51; clear HB; have HO_0 := n0_; have HO_9 := n1_; have HO_10 := n2_; have HO_51 := n3_; have HB := n4_; clear n0_ n1_ n2_ n3_ n4_; (try clear hb); (try clear hb2); (try clear hk); (try clear hi)))
                                  go_roundg k2
                                  case measure => have := HJ3.out; have := HK2.out; omega
                                  case rel => exact ⟨(((rd t313 x53_2) == ji19)), (wrap64 (x53_2 + 1)), (by first | rfl | (simp; done) | (simp only [← hji19] <;> (first | rfl | simp)) | (simp [*]; done)), (by first | rfl | (simp; done) | (simp [*]; done)), H', ⟨by have := HJ3.out; have := HK2.out; omega⟩, ⟨by (with_reducible repeat (first | apply Kd.V_alloc | apply Kd.V_drewN | apply Kd.V_drew)); exact HO_0.out⟩, ⟨by (with_reducible repeat (first | apply Kd.V_alloc | apply Kd.V_drewN | apply Kd.V_drew)); exact HO_9.out⟩, ⟨by (with_reducible repeat (first | apply Kd.R_alloc | apply Kd.R_drewN | apply Kd.R_drew)); exact HO_10.out⟩, ⟨by (with_reducible repeat (first | apply Kd.R_alloc | apply Kd.R_drewN | apply Kd.R_drew)); exact HO_51.out⟩, ⟨by repeat (first | (with_reducible first | exact HB.out | apply below_alloc | apply pw_below_drewN | apply below_drew1) | exact HB.out)⟩⟩
                                · replace c54 := Bool.eq_false_iff.mpr c54
                                  subst c54
                                  have H1 : (some false) = some r := by rw [if_neg (show ¬ (false = true) by decide)] at H; exact H
                                  clear H
                                  have H := H1
                                  clear H1
                                  obtain rfl := Option.some.inj H
                                  have p316 : 0 ≤ (x53_2 : Int) := of_decide_eq_true (by first | (with_reducible assumption) | assumption)
                                  have q316 : x53_2 < (t313.length : Int) := of_decide_eq_true (by first | (with_reducible assumption) | assumption)
                                  obtain ⟨ad316, e316, hx316_0⟩ := Kd.at_int (Kd.R_reads' HO_51.out).2.2 x53_2 p316 q316
                                  cases e316
                                  replace p316 := eq_true p316
                                  replace q316 := eq_true q316
                                  go_wp2_with (first | (go_at_call 13; (with_reducible refine (cuecardref08_At.calls k2 _ _ l0 _ _ y308 (rd t313 x53_2) false _ ?side1 ?side2 ?side3 ?side4 A53.out).mono ?_); (case side1 => repeat (first | exact (Kd.V_reads' HO_0.out).2.2 | (with_reducible refine Kd.C_alloc ?_ _) | (with_reducible refine Kd.C_drewN ?_ _) | (with_reducible refine Kd.C_drew ?_))); (case side2 => exact (Kd.V_reads' HO_0.out).2.1); (case side3 => repeat (first | exact (Kd.V_reads' HO_9.out).2.2 | (with_reducible refine Kd.C_alloc ?_ _) | (with_reducible refine Kd.C_drewN ?_ _) | (with_reducible refine Kd.C_drew ?_))); (case side4 => exact (Kd.V_reads' HO_9.out).2.1); rintro e w56 ⟨rfl, hb⟩; have n0_ := Aside0.mk (Kd.V_below (by (with_reducible repeat (first | apply Kd.V_alloc | apply Kd.V_drewN | apply Kd.V_drew)); exact HO_0.out) hb); have n1_ := Aside0.mk (Kd.V_below (by (with_reducible repeat (first | apply Kd.V_alloc | apply Kd.V_drewN | apply Kd.V_drew)); exact HO_9.out) hb); have n2_ := Aside0.mk (Kd.R_below (by (with_reducible repeat (first | apply Kd.R_alloc | apply Kd.R_drewN | apply Kd.R_drew)); exact HO_10.out) hb); have n3_ := Aside0.mk (Kd.R_below (by (with_reducible repeat (first | apply Kd.R_alloc | apply Kd.R_drewN | apply Kd.R_drew)); exact HO_51.out) hb); have n4_ := Aside0.mk (below_step (by repeat (first | (with_reducible first | exact HB.out | apply below_alloc | apply pw_below_drewN | apply below_drew1) | exact HB.out)) hb); clear HO_0; clear HO_9; clear HO_10; clear HO_51; clear HB; have HO_0 := n0_; have HO_9 := n1_; have HO_10 := n2_; have HO_51 := n3_; have HB := n4_; clear n0_ n1_ n2_ n3_ n4_; (try clear hb); (try clear hb2); (try clear hk); (try clear hi)))
                                  go_ret
                                  exact ⟨by first | rfl | (simp [errW_none, errW_some] <;> rfl) | (simp only [← hji19]; first | rfl | (simp [errW_none, errW_some] <;> rfl)) | (simp [*, errW_none, errW_some] <;> rfl), by repeat (first | (with_reducible first | exact HB.out | apply below_alloc | apply pw_below_drewN | apply below_drew1) | exact HB.out)⟩
                          · rw [if_neg c29] at H
                            exact absurd H (by simp)
                        · rw [if_neg c28] at H
                          exact absurd H (by simp)
                      · rw [if_neg c27] at H
                        have c27b0 : decide (x53_2 < (t313.length : Int)) = false := decide_eq_false c27
                        clear c27
                        replace H := Option.bind_eq_some_iff.mp H
                        obtain ⟨⟨t323, t324⟩, A570, H⟩ := H
                        replace H : (if x11_2 = true then (if t324 = true then (if t323 ≤ ji19 then (if 0 < (t313.length : Int) then (some (t323 == (rd t313 0))) else (none)) else (some false)) else (some false)) else (some false)) = some r := H
                        have A57 := Aside0.mk A570
                        clear A570
                        by_cases c58 : x11_2 = true
                        · subst c58
                          have H1 : (if t324 = true then (if t323 ≤ ji19 then (if 0 < (t313.length : Int) then (some (t323 == (rd t313 0))) else (none)) else (some false)) else (some false)) = some r := by rw [if_pos rfl] at H; exact H
                          clear H
                          have H := H1
                          clear H1
                          by_cases c59 : t324 = true
                          · subst c59
                            have H1 : (if t323 ≤ ji19 then (if 0 < (t313.length : Int) then (some (t323 == (rd t313 0))) else (none)) else (some false)) = some r := by rw [if_pos rfl] at H; exact H
                            clear H
                            have H := H1
                            clear H1
                            by_cases c60 : t323 ≤ ji19
                            · rw [if_pos c60] at H
                              have c60b0 : decide (t323 ≤ ji19) = true := decide_eq_true c60
                              clear c60
                              by_cases c61 : 0 < (t313.length : Int)
                              · rw [if_pos c61] at H
                                have c61b0 : decide (0 < (t313.length : Int)) = true := decide_eq_true c61
                                have c61b1 : decide (0 < t313.length) = true := decide_eq_true (by omega)
                                clear c61
                                obtain rfl := Option.some.inj H
                                go_wp2_with (first | ((with_reducible refine gate_callee (f := 20) rfl ?_); refine goesL_ (some 86) rfl rfl Try.func20 (by kernel_rfl) rfl #[.slice A0 l0.length c0, .slice A24 y308.length c24] rfl (by (try simp only [List.map_toArray, List.map_cons, List.map_nil]); first | done | rfl | (simp only [List.length_drop, List.length_take]; rfl)) ?_; (with_reducible refine (kmp_First_int.calls k2 _ _ l0 _ _ y308 t323 true _ ?side1 ?side2 ?side3 ?side4 A57.out).mono ?_); (case side1 => repeat (first | exact (Kd.V_reads' HO_0.out).2.2 | (with_reducible refine Kd.C_alloc ?_ _) | (with_reducible refine Kd.C_drewN ?_ _) | (with_reducible refine Kd.C_drew ?_))); (case side2 => exact (Kd.V_reads' HO_0.out).2.1); (case side3 => repeat (first | exact (Kd.V_reads' HO_9.out).2.2 | (with_reducible refine Kd.C_alloc ?_ _) | (with_reducible refine Kd.C_drewN ?_ _) | (with_reducible refine Kd.C_drew ?_))); (case side4 => exact (Kd.V_reads' HO_9.out).2.1); rintro e w62 ⟨rfl, hb⟩; refine ⟨_, rfl, ?_⟩; have n0_ := Aside0.mk (Kd.V_below (by (with_reducible repeat (first | apply Kd.V_alloc | apply Kd.V_drewN | apply Kd.V_drew)); exact HO_0.out) hb); have n1_ := Aside0.mk (Kd.V_below (by (with_reducible repeat (first | apply Kd.V_alloc | apply Kd.V_drewN | apply Kd.V_drew)); exact HO_9.out) hb); have n2_ := Aside0.mk (Kd.R_below (by (with_reducible repeat (first | apply Kd.R_alloc | apply Kd.R_drewN | apply Kd.R_drew)); exact HO_10.out) hb); have n3_ := Aside0.mk (Kd.R_below (by (with_reducible repeat (first | apply Kd.R_alloc | apply Kd.R_drewN | apply Kd.R_drew)); exact HO_51.out) hb); have n4_ := Aside0.mk (below_step (by repeat (first | (with_reducible first | exact HB.out | apply below_alloc | apply pw_below_drewN | apply below_drew1) | exact HB.out)) hb); clear HO_0; clear HO_9; clear HO_10; clear HO_51; clear HB; have HO_0 := n0_; have HO_9 := n1_; have HO_10 := n2_; have HO_51 := n3_; have HB := n4_; clear n0_ n1_ n2_ n3_ n4_; (try clear hb); (try clear hb2); (try clear hk); (try clear hi); have p325 : 0 ≤ (0 : Int) := (by omega); have q325 : 0 < (t313.length : Int) := of_decide_eq_true (by first | (with_reducible assumption) | assumption); obtain ⟨ad325, e325, hx325_0⟩ := Kd.at_int (Kd.R_reads' HO_10.out).2.2 0 p325 q325; cases e325; have qi325 : (0 < t313.length) = True := eq_true (by omega); (try rw [show ((0 : Int)).toNat = 0 from rfl] at hx325_0); (try rw [Addr.add_zero'] at hx325_0); replace p325 := eq_true p325; replace q325 := eq_true q325))
                                go_ret
                                exact ⟨by first | rfl | (simp [errW_none, errW_some] <;> rfl) | (simp only [← hji19]; first | rfl | (simp [errW_none, errW_some] <;> rfl)) | (simp [*, errW_none, errW_some] <;> rfl), by repeat (first | (with_reducible first | exact HB.out | apply below_alloc | apply pw_below_drewN | apply below_drew1) | exact HB.out)⟩
                              · rw [if_neg c61] at H
                                exact absurd H (by simp)
                            · rw [if_neg c60] at H
                              have c60b0 : decide (t323 ≤ ji19) = false := decide_eq_false c60
                              clear c60
                              obtain rfl := Option.some.inj H
                              go_wp2_with (first | ((with_reducible refine gate_callee (f := 20) rfl ?_); refine goesL_ (some 86) rfl rfl Try.func20 (by kernel_rfl) rfl #[.slice A0 l0.length c0, .slice A24 y308.length c24] rfl (by (try simp only [List.map_toArray, List.map_cons, List.map_nil]); first | done | rfl | (simp only [List.length_drop, List.length_take]; rfl)) ?_; (with_reducible refine (kmp_First_int.calls k2 _ _ l0 _ _ y308 t323 true _ ?side1 ?side2 ?side3 ?side4 A57.out).mono ?_); (case side1 => repeat (first | exact (Kd.V_reads' HO_0.out).2.2 | (with_reducible refine Kd.C_alloc ?_ _) | (with_reducible refine Kd.C_drewN ?_ _) | (with_reducible refine Kd.C_drew ?_))); (case side2 => exact (Kd.V_reads' HO_0.out).2.1); (case side3 => repeat (first | exact (Kd.V_reads' HO_9.out).2.2 | (with_reducible refine Kd.C_alloc ?_ _) | (with_reducible refine Kd.C_drewN ?_ _) | (with_reducible refine Kd.C_drew ?_))); (case side4 => exact (Kd.V_reads' HO_9.out).2.1); rintro e w63 ⟨rfl, hb⟩; refine ⟨_, rfl, ?_⟩; have n0_ := Aside0.mk (Kd.V_below (by (with_reducible repeat (first | apply Kd.V_alloc | apply Kd.V_drewN | apply Kd.V_drew)); exact HO_0.out) hb); have n1_ := Aside0.mk (Kd.V_below (by (with_reducible repeat (first | apply Kd.V_alloc | apply Kd.V_drewN | apply Kd.V_drew)); exact HO_9.out) hb); have n2_ := Aside0.mk (Kd.R_below (by (with_reducible repeat (first | apply Kd.R_alloc | apply Kd.R_drewN | apply Kd.R_drew)); exact HO_10.out) hb); have n3_ := Aside0.mk (Kd.R_below (by (with_reducible repeat (first | apply Kd.R_alloc | apply Kd.R_drewN | apply Kd.R_drew)); exact HO_51.out) hb); have n4_ := Aside0.mk (below_step (by repeat (first | (with_reducible first | exact HB.out | apply below_alloc | apply pw_below_drewN | apply below_drew1) | exact HB.out)) hb); clear HO_0; clear HO_9; clear HO_10; clear HO_51; clear HB; have HO_0 := n0_; have HO_9 := n1_; have HO_10 := n2_; have HO_51 := n3_; have HB := n4_; clear n0_ n1_ n2_ n3_ n4_; (try clear hb); (try clear hb2); (try clear hk); (try clear hi)))
                              go_ret
                              exact ⟨by first | rfl | (simp [errW_none, errW_some] <;> rfl) | (simp only [← hji19]; first | rfl | (simp [errW_none, errW_some] <;> rfl)) | (simp [*, errW_none, errW_some] <;> rfl), by repeat (first | (with_reducible first | exact HB.out | apply below_alloc | apply pw_below_drewN | apply below_drew1) | exact HB.out)⟩
                          · replace c59 := Bool.eq_false_iff.mpr c59
                            subst c59
                            have H1 : (some false) = some r := by rw [if_neg (show ¬ (false = true) by decide)] at H; exact H
                            clear H
                            have H := H1
                            clear H1
                            obtain rfl := Option.some.inj H
                            go_wp2_with (first | ((with_reducible refine gate_callee (f := 20) rfl ?_); refine goesL_ (some 86) rfl rfl Try.func20 (by kernel_rfl) rfl #[.slice A0 l0.length c0, .slice A24 y308.length c24] rfl (by (try simp only [List.map_toArray, List.map_cons, List.map_nil]); first | done | rfl | (simp only [List.length_drop, List.length_take]; rfl)) ?_; (with_reducible refine (kmp_First_int.calls k2 _ _ l0 _ _ y308 t323 false _ ?side1 ?side2 ?side3 ?side4 A57.out).mono ?_); (case side1 => repeat (first | exact (Kd.V_reads' HO_0.out).2.2 | (with_reducible refine Kd.C_alloc ?_ _) | (with_reducible refine Kd.C_drewN ?_ _) | (with_reducible refine Kd.C_drew ?_))); (case side2 => exact (Kd.V_reads' HO_0.out).2.1); (case side3 => repeat (first | exact (Kd.V_reads' HO_9.out).2.2 | (with_reducible refine Kd.C_alloc ?_ _) | (with_reducible refine Kd.C_drewN ?_ _) | (with_reducible refine Kd.C_drew ?_))); (case side4 => exact (Kd.V_reads' HO_9.out).2.1); rintro e w64 ⟨rfl, hb⟩; refine ⟨_, rfl, ?_⟩; have n0_ := Aside0.mk (Kd.V_below (by (with_reducible repeat (first | apply Kd.V_alloc | apply Kd.V_drewN | apply Kd.V_drew)); exact HO_0.out) hb); have n1_ := Aside0.mk (Kd.V_below (by (with_reducible repeat (first | apply Kd.V_alloc | apply Kd.V_drewN | apply Kd.V_drew)); exact HO_9.out) hb); have n2_ := Aside0.mk (Kd.R_below (by (with_reducible repeat (first | apply Kd.R_alloc | apply Kd.R_drewN | apply Kd.R_drew)); exact HO_10.out) hb); have n3_ := Aside0.mk (Kd.R_below (by (with_reducible repeat (first | apply Kd.R_alloc | apply Kd.R_drewN | apply Kd.R_drew)); exact HO_51.out) hb); have n4_ := Aside0.mk (below_step (by repeat (first | (with_reducible first | exact HB.out | apply below_alloc | apply pw_below_drewN | apply below_drew1) | exact HB.out)) hb); clear HO_0; clear HO_9; clear HO_10; clear HO_51; clear HB; have HO_0 := n0_; have HO_9 := n1_; have HO_10 := n2_; have HO_51 := n3_; have HB := n4_; clear n0_ n1_ n2_ n3_ n4_; (try clear hb); (try clear hb2); (try clear hk); (try clear hi)))
                            go_ret
                            exact ⟨by first | rfl | (simp [errW_none, errW_some] <;> rfl) | (simp only [← hji19]; first | rfl | (simp [errW_none, errW_some] <;> rfl)) | (simp [*, errW_none, errW_some] <;> rfl), by repeat (first | (with_reducible first | exact HB.out | apply below_alloc | apply pw_below_drewN | apply below_drew1) | exact HB.out)⟩
                        · replace c58 := Bool.eq_false_iff.mpr c58
                          subst c58
                          have H1 : (some false) = some r := by rw [if_neg (show ¬ (false = true) by decide)] at H; exact H
                          clear H
                          have H := H1
                          clear H1
                          obtain rfl := Option.some.inj H
                          go_wp2_with (first | ((with_reducible refine gate_callee (f := 20) rfl ?_); refine goesL_ (some 86) rfl rfl Try.func20 (by kernel_rfl) rfl #[.slice A0 l0.length c0, .slice A24 y308.length c24] rfl (by (try simp only [List.map_toArray, List.map_cons, List.map_nil]); first | done | rfl | (simp only [List.length_drop, List.length_take]; rfl)) ?_; (with_reducible refine (kmp_First_int.calls k2 _ _ l0 _ _ y308 t323 t324 _ ?side1 ?side2 ?side3 ?side4 A57.out).mono ?_); (case side1 => repeat (first | exact (Kd.V_reads' HO_0.out).2.2 | (with_reducible refine Kd.C_alloc ?_ _) | (with_reducible refine Kd.C_drewN ?_ _) | (with_reducible refine Kd.C_drew ?_))); (case side2 => exact (Kd.V_reads' HO_0.out).2.1); (case side3 => repeat (first | exact (Kd.V_reads' HO_9.out).2.2 | (with_reducible refine Kd.C_alloc ?_ _) | (with_reducible refine Kd.C_drewN ?_ _) | (with_reducible refine Kd.C_drew ?_))); (case side4 => exact (Kd.V_reads' HO_9.out).2.1); rintro e w65 ⟨rfl, hb⟩; refine ⟨_, rfl, ?_⟩; have n0_ := Aside0.mk (Kd.V_below (by (with_reducible repeat (first | apply Kd.V_alloc | apply Kd.V_drewN | apply Kd.V_drew)); exact HO_0.out) hb); have n1_ := Aside0.mk (Kd.V_below (by (with_reducible repeat (first | apply Kd.V_alloc | apply Kd.V_drewN | apply Kd.V_drew)); exact HO_9.out) hb); have n2_ := Aside0.mk (Kd.R_below (by (with_reducible repeat (first | apply Kd.R_alloc | apply Kd.R_drewN | apply Kd.R_drew)); exact HO_10.out) hb); have n3_ := Aside0.mk (Kd.R_below (by (with_reducible repeat (first | apply Kd.R_alloc | apply Kd.R_drewN | apply Kd.R_drew)); exact HO_51.out) hb); have n4_ := Aside0.mk (below_step (by repeat (first | (with_reducible first | exact HB.out | apply below_alloc | apply pw_below_drewN | apply below_drew1) | exact HB.out)) hb); clear HO_0; clear HO_9; clear HO_10; clear HO_51; clear HB; have HO_0 := n0_; have HO_9 := n1_; have HO_10 := n2_; have HO_51 := n3_; have HB := n4_; clear n0_ n1_ n2_ n3_ n4_; (try clear hb); (try clear hb2); (try clear hk); (try clear hi)))
                          go_ret
                          exact ⟨by first | rfl | (simp [errW_none, errW_some] <;> rfl) | (simp only [← hji19]; first | rfl | (simp [errW_none, errW_some] <;> rfl)) | (simp [*, errW_none, errW_some] <;> rfl), by repeat (first | (with_reducible first | exact HB.out | apply below_alloc | apply pw_below_drewN | apply below_drew1) | exact HB.out)⟩
                · rw [if_neg c22] at H
                  exact absurd H (by simp)
              · rw [if_neg c21] at H
                exact absurd H (by simp)
            · rw [if_neg c20] at H
              exact absurd H (by simp)

end Go.Proofs.Ytokhmpchgkmbeaa.QA
