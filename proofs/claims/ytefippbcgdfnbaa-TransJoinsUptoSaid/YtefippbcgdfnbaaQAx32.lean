-- Written for this claim by a program of this session's, out of Lean's own print of the program; Lean checks it.
import Derived.Test.YtefippbcgdfnbaaQAx0
import Derived.Test.YtefippbcgdfnbaaQAx6
import Derived.Test.YtefippbcgdfnbaaQAx7
import Derived.Test.YtefippbcgdfnbaaGAlive
namespace Go.Proofs.Ytefippbcgdfnbaa.QA
open Go.RowKit Go.Proofs.YtefippbcgdfnbaaW.PrintWords Go.Proofs.YtefippbcgdfnbaaW.PrintLast Go.Proofs.YtefippbcgdfnbaaW.PrintMore
attribute [local go_sem] max2_int min2_int max_two min_two max_three min_three max_four min_four   -- for this text's walks alone
set_option linter.unusedVariables false
set_option linter.unusedSimpArgs false

/-! ### cuecardlaw05_TransJoins: function 9 -/
def cuecardlaw05_TransJoins.j0 : Nat → List (S43) → List Int → Int → List Int → Bool → Option (Bool)
  | 0, _, _, _, _, _ => none
  | k + 1, x0, x5, x6, x7, x33 => if x33 = true then ((cuecardlaw05_alive.f k).bind fun t372 => (if t372 = true then ((cuecardref04_Check.f k x0).bind fun t373 => (some ((t373 != 0) == (x6 != 0)))) else (some false))) else ((trans_Encode.f k x0 true).bind fun bt374 => ((cuecardlaw05_alive.f k).bind fun t378 => (if t378 = true then (if bt374.2 = 0 then (if (x7.length : Int) > (x5.length : Int) then (if 0 ≤ (x5.length : Int) then (if (x5.length : Int) ≤ (x7.length : Int) then (if (strOfNums (x7.take ((x5.length : Int) : Int).toNat)).toList = (strOfNums x5).toList then (if (strOfNums x5).size + 1 ≤ 9223372036854775807 then (some ((strOfNums bt374.1).toList == ((strOfNums x5) ++ (⟨#[3]⟩ : ByteArray)).toList)) else (none)) else (some false)) else (none)) else (none)) else (some false)) else (some false)) else (some false))))
def cuecardlaw05_TransJoins.f (k : Nat) (l0 : List (S43)) (a1_0 : Int) (a1_1 : Int) (l1_2 : List Int) : Option (Bool) := (trans_Encode.f k l0 false).bind fun bt352 => ((some (([] : List (S43)) : List (S43))).bind fun y356 => (if y356.length + l0.length < 3518437208883 then ((some (y356 ++ l0 : List (S43))).bind fun y359 => ((some (([(⟨a1_0, a1_1, l1_2⟩ : S43)] : List (S43)) : List (S43))).bind fun y362 => (if y359.length + y362.length < 3518437208883 then ((trans_Encode.f k (y359 ++ y362) false).bind fun bt368 => (if bt352.2 = 0 then (cuecardlaw05_TransJoins.j0 k l0 bt352.1 bt352.2 bt368.1 (bt368.2 != 0)) else (cuecardlaw05_TransJoins.j0 k l0 bt352.1 bt352.2 bt368.1 true))) else (none)))) else (none)))
theorem cuecardlaw05_TransJoins.mono_l : ∀ k, (∀ y0 y1 y2 y3 y4, LeO (cuecardlaw05_TransJoins.j0 k y0 y1 y2 y3 y4) (cuecardlaw05_TransJoins.j0 (k + 1) y0 y1 y2 y3 y4))
  | 0 => fun _ _ _ _ _ r h => by simp [cuecardlaw05_TransJoins.j0] at h
  | k + 1 => by
    have ih0 := cuecardlaw05_TransJoins.mono_l k
    · intro y0 y1 y2 y3 y4
      unfold cuecardlaw05_TransJoins.j0
      repeat' first
      | (with_reducible exact ih0 _ _ _ _ _)
      | (with_reducible exact cuecardlaw05_alive.mono _)
      | (with_reducible exact cuecardref04_Check.mono _ _)
      | (with_reducible exact trans_Encode.mono _ _ _)
      | (with_reducible exact LeO.refl _)
      | (with_reducible exact LeO.none _)
      | (with_reducible refine LeO.ite ?_ ?_)
      | (with_reducible refine LeO.bind ?_ (fun _ => ?_))
      | exact ih0 _ _ _ _ _
      | exact cuecardlaw05_alive.mono _
      | exact cuecardref04_Check.mono _ _
      | exact trans_Encode.mono _ _ _
      | exact LeO.none _
      | refine LeO.ite ?_ ?_
      | refine LeO.bind ?_ (fun _ => ?_)
theorem cuecardlaw05_TransJoins.mono : ∀ a0 a1 a2 a3 k, LeO (cuecardlaw05_TransJoins.f k a0 a1 a2 a3) (cuecardlaw05_TransJoins.f (k + 1) a0 a1 a2 a3) := by
  intro a0 a1 a2 a3 k
  have ih0 := cuecardlaw05_TransJoins.mono_l k
  unfold cuecardlaw05_TransJoins.f
  repeat' first
      | (with_reducible exact ih0 _ _ _ _ _)
      | (with_reducible exact cuecardlaw05_alive.mono _)
      | (with_reducible exact cuecardref04_Check.mono _ _)
      | (with_reducible exact trans_Encode.mono _ _ _)
      | (with_reducible exact LeO.refl _)
      | (with_reducible exact LeO.none _)
      | (with_reducible refine LeO.ite ?_ ?_)
      | (with_reducible refine LeO.bind ?_ (fun _ => ?_))
      | exact ih0 _ _ _ _ _
      | exact cuecardlaw05_alive.mono _
      | exact cuecardref04_Check.mono _ _
      | exact trans_Encode.mono _ _ _
      | exact LeO.none _
      | refine LeO.ite ?_ ?_
      | refine LeO.bind ?_ (fun _ => ?_)
def cuecardlaw05_TransJoins.T2 : Bool × List (List Nat × List Nat) := (true, [([], []), ([], []), ([0, 1], [0, 1]), ([], []), ([3], [3]), ([2, 4, 2], [2, 4]), ([5], [5]), ([6, 5], [6]), ([7], [7]), ([8], [8]), ([8], [8]), ([9, 7, 0, 1, 2, 3, 4, 5, 6, 7, 8, 9], [9]), ([10, 11, 0, 1, 2, 3, 4, 5, 6, 7, 8, 9, 10, 11], [10])])
def cuecardlaw05_TransJoins.B2 : List Nat := [0, 0, 3, 0, 8, 31, 63, 127, 255, 511, 511, 1023, 4095]
theorem cuecardlaw05_TransJoins.tab2 : rtab .any (opsOf Try.f9 2) = cuecardlaw05_TransJoins.T2 := by kernel_rfl
theorem cuecardlaw05_TransJoins.bits2 : waitsOk cuecardlaw05_TransJoins.T2.2 cuecardlaw05_TransJoins.B2 = true := by kernel_rfl
def cuecardlaw05_TransJoins.T6 : Bool × List (List Nat × List Nat) := (true, [([], []), ([0, 0], [0]), ([1], [1]), ([2, 1], [1, 2]), ([1, 3], [1, 3]), ([4, 1], [4]), ([5], [5]), ([6, 5], [5, 6]), ([5], [5]), ([8, 5], [5, 8]), ([7, 9, 5], [5, 7, 9]), ([5, 10], [5, 10]), ([11, 5], [11]), ([12], [12]), ([12], [12]), ([14, 12], [12, 14]), ([13, 15, 12], [12, 13, 15]), ([16, 12], [12, 16]), ([12], [12]), ([18, 12], [12, 18]), ([17, 19, 12], [12, 17, 19]), ([12, 20], [12, 20]), ([21, 12], [21]), ([22], [22]), ([23, 22], [22, 23]), ([22], [22]), ([25, 22], [22, 25]), ([26, 22], [22, 26]), ([24, 27, 22], [22, 24, 27]), ([22, 28], [22, 28]), ([29, 22, 0, 1, 2, 3, 4, 5, 6, 7, 8, 9, 10, 11, 12, 13, 14, 15, 16, 17, 18, 19, 20, 21, 22, 23, 24, 25, 26, 27, 28, 29], [29])])
def cuecardlaw05_TransJoins.B6 : List Nat := [0, 1, 3, 7, 15, 31, 63, 127, 63, 319, 1023, 2047, 4095, 8191, 8191, 24575, 65535, 131071, 8191, 270335, 1048575, 2097151, 4194303, 8388607, 16777215, 8388607, 41943039, 109051903, 268435455, 536870911, 1073741823]
theorem cuecardlaw05_TransJoins.tab6 : rtab .any (opsOf Try.f9 6) = cuecardlaw05_TransJoins.T6 := by kernel_rfl
theorem cuecardlaw05_TransJoins.bits6 : waitsOk cuecardlaw05_TransJoins.T6.2 cuecardlaw05_TransJoins.B6 = true := by kernel_rfl
set_option maxHeartbeats 8000000 in
set_option maxRecDepth 100000 in
theorem cuecardlaw05_TransJoins.calls (k : Nat) (P0_ : Nat → Prop) (A0 : Option Addr) (c0 : Nat) (l0 : List (S43)) (a1_0 : Int) (a1_1 : Int) (P1_2_ : Nat → Prop) (A1_2 : Option Addr) (c1_2 : Nat) (l1_2 : List Int) (r : Bool) (w : World) (hs0 : Kd.V k43 43 w w.heap.size (fun k_ => P0_ k_) (.slice A0 l0.length c0) l0) (hs1_2 : Kd.V (Kd.int .u8) 5 w w.heap.size (fun k_ => P1_2_ k_) (.slice A1_2 l1_2.length c1_2) l1_2) (h : cuecardlaw05_TransJoins.f k l0 a1_0 a1_1 l1_2 = some r) :
    Calls Try.prog 9 #[.slice A0 l0.length c0, .agg #[.int .i64 a1_0, .int .i64 a1_1, .slice A1_2 l1_2.length c1_2]] w fun e w' => e = .returned (.bool r) ∧ Below w.heap.size w w' := by
  have hu43 := Try.underlying43
  have hu24 := Try.underlying24
  have HO0 := Aside0.mk (show Kd.V k43 43 w w.heap.size (fun k_ => ((P0_ k_ ∨ P1_2_ k_) ∨ w.heap.size ≤ k_)) (.slice A0 l0.length c0) l0 from Kd.V_mono hs0 (fun k_ hk => .inl (.inl hk)))
  have HO1_2 := Aside0.mk (show Kd.V (Kd.int .u8) 5 w w.heap.size (fun k_ => ((P0_ k_ ∨ P1_2_ k_) ∨ w.heap.size ≤ k_)) (.slice A1_2 l1_2.length c1_2) l1_2 from Kd.V_mono hs1_2 (fun k_ hk => .inl (.inr hk)))
  have HB := Aside0.mk (Below.refl w.heap.size w)
  have H : ((trans_Encode.f k l0 false).bind fun bt352 => ((some (([] : List (S43)) : List (S43))).bind fun y356 => (if y356.length + l0.length < 3518437208883 then ((some (y356 ++ l0 : List (S43))).bind fun y359 => ((some (([(⟨a1_0, a1_1, l1_2⟩ : S43)] : List (S43)) : List (S43))).bind fun y362 => (if y359.length + y362.length < 3518437208883 then ((trans_Encode.f k (y359 ++ y362) false).bind fun bt368 => (if bt352.2 = 0 then (cuecardlaw05_TransJoins.j0 k l0 bt352.1 bt352.2 bt368.1 (bt368.2 != 0)) else (cuecardlaw05_TransJoins.j0 k l0 bt352.1 bt352.2 bt368.1 true))) else (none)))) else (none)))) = some r := h
  clear h
  replace H := Option.bind_eq_some_iff.mp H
  obtain ⟨⟨t352, t355⟩, A30, H⟩ := H
  replace H : ((some (([] : List (S43)) : List (S43))).bind fun y356 => (if y356.length + l0.length < 3518437208883 then ((some (y356 ++ l0 : List (S43))).bind fun y359 => ((some (([(⟨a1_0, a1_1, l1_2⟩ : S43)] : List (S43)) : List (S43))).bind fun y362 => (if y359.length + y362.length < 3518437208883 then ((trans_Encode.f k (y359 ++ y362) false).bind fun bt368 => (if t355 = 0 then (cuecardlaw05_TransJoins.j0 k l0 t352 t355 bt368.1 (bt368.2 != 0)) else (cuecardlaw05_TransJoins.j0 k l0 t352 t355 bt368.1 true))) else (none)))) else (none))) = some r := H
  have A3 := Aside0.mk A30
  clear A30
  obtain ⟨y356, hy356⟩ : ∃ y_ : List (S43), y_ = (([] : List (S43))) := ⟨_, rfl⟩
  replace H : (if y356.length + l0.length < 3518437208883 then ((some (y356 ++ l0 : List (S43))).bind fun y359 => ((some (([(⟨a1_0, a1_1, l1_2⟩ : S43)] : List (S43)) : List (S43))).bind fun y362 => (if y359.length + y362.length < 3518437208883 then ((trans_Encode.f k (y359 ++ y362) false).bind fun bt368 => (if t355 = 0 then (cuecardlaw05_TransJoins.j0 k l0 t352 t355 bt368.1 (bt368.2 != 0)) else (cuecardlaw05_TransJoins.j0 k l0 t352 t355 bt368.1 true))) else (none)))) else (none)) = some r := by first | (rw [hy356]; with_reducible exact H) | (have H2_ := (Option.bind_some _ _).symm.trans H; rw [hy356]; with_reducible exact H2_) | (have H2_ := (Option.bind_some _ _).symm.trans H; with_reducible exact H2_) | with_reducible exact H | (rw [hy356]; exact H) | exact H
  have Ny356 := Aside0.mk hy356
  clear hy356
  by_cases c4 : y356.length + l0.length < 3518437208883
  · rw [if_pos c4] at H
    have LMc4 := Aside0.mk c4
    clear c4
    obtain ⟨y359, hy359⟩ : ∃ y_ : List (S43), y_ = (y356 ++ l0) := ⟨_, rfl⟩
    replace H : ((some (([(⟨a1_0, a1_1, l1_2⟩ : S43)] : List (S43)) : List (S43))).bind fun y362 => (if y359.length + y362.length < 3518437208883 then ((trans_Encode.f k (y359 ++ y362) false).bind fun bt368 => (if t355 = 0 then (cuecardlaw05_TransJoins.j0 k l0 t352 t355 bt368.1 (bt368.2 != 0)) else (cuecardlaw05_TransJoins.j0 k l0 t352 t355 bt368.1 true))) else (none))) = some r := by first | (rw [hy359]; with_reducible exact H) | (have H2_ := (Option.bind_some _ _).symm.trans H; rw [hy359]; with_reducible exact H2_) | (have H2_ := (Option.bind_some _ _).symm.trans H; with_reducible exact H2_) | with_reducible exact H | (rw [hy359]; exact H) | exact H
    have Ny359 := Aside0.mk hy359
    clear hy359
    obtain ⟨y362, hy362⟩ : ∃ y_ : List (S43), y_ = (([(⟨a1_0, a1_1, l1_2⟩ : S43)] : List (S43))) := ⟨_, rfl⟩
    replace H : (if y359.length + y362.length < 3518437208883 then ((trans_Encode.f k (y359 ++ y362) false).bind fun bt368 => (if t355 = 0 then (cuecardlaw05_TransJoins.j0 k l0 t352 t355 bt368.1 (bt368.2 != 0)) else (cuecardlaw05_TransJoins.j0 k l0 t352 t355 bt368.1 true))) else (none)) = some r := by first | (rw [hy362]; with_reducible exact H) | (have H2_ := (Option.bind_some _ _).symm.trans H; rw [hy362]; with_reducible exact H2_) | (have H2_ := (Option.bind_some _ _).symm.trans H; with_reducible exact H2_) | with_reducible exact H | (rw [hy362]; exact H) | exact H
    have Ny362 := Aside0.mk hy362
    clear hy362
    by_cases c5 : y359.length + y362.length < 3518437208883
    · rw [if_pos c5] at H
      have LMc5 := Aside0.mk c5
      clear c5
      obtain ⟨y365, hy365⟩ : ∃ y_ : List (S43), y_ = (y359 ++ y362) := ⟨_, rfl⟩
      replace H : ((trans_Encode.f k y365 false).bind fun bt368 => (if t355 = 0 then (cuecardlaw05_TransJoins.j0 k l0 t352 t355 bt368.1 (bt368.2 != 0)) else (cuecardlaw05_TransJoins.j0 k l0 t352 t355 bt368.1 true))) = some r := by first | (rw [hy365]; with_reducible exact H) | (have H2_ := (Option.bind_some _ _).symm.trans H; rw [hy365]; with_reducible exact H2_) | (have H2_ := (Option.bind_some _ _).symm.trans H; with_reducible exact H2_) | with_reducible exact H | (rw [hy365]; exact H) | exact H
      have Ny365 := Aside0.mk hy365
      clear hy365
      replace H := Option.bind_eq_some_iff.mp H
      obtain ⟨⟨t368, t371⟩, A60, H⟩ := H
      replace H : (if t355 = 0 then (cuecardlaw05_TransJoins.j0 k l0 t352 t355 t368 (t371 != 0)) else (cuecardlaw05_TransJoins.j0 k l0 t352 t355 t368 true)) = some r := H
      have A6 := Aside0.mk A60
      clear A60
      have HC7 := Aside0.mk H
      clear H
      go_enter Try.func9, Try.ntmps9
      try go_wp2_with (first | ((with_reducible refine gate_dst (N := 3) rfl ?_); (try (refine gate_guard (by rfl) ?_; dsimp only)); refine box_event ?hg (N := 3) ?hd (cs := #[.int .i64 a1_0, .int .i64 a1_1, .slice A1_2 l1_2.length c1_2]) (t := 43) ?hr ?_; (case hd => rfl); (case hg => rfl); (case hr => first | (go_simp; done) | (go_simp; rfl)); intro gb351 hg w8 hbox hb; have n0_ := Aside0.mk (Kd.V_below (Kd.V_elderB (by (with_reducible repeat (first | apply Kd.V_alloc | apply Kd.V_drewN | apply Kd.V_drew)); exact HO0.out) gb351 (Nat.le_of_eq hg.symm)) hb); have n1_ := Aside0.mk (Kd.V_below (Kd.V_elderB (by (with_reducible repeat (first | apply Kd.V_alloc | apply Kd.V_drewN | apply Kd.V_drew)); exact HO1_2.out) gb351 (Nat.le_of_eq hg.symm)) hb); have n2_ := Aside0.mk (below_step (by repeat (first | (with_reducible first | exact HB.out | apply below_alloc | apply pw_below_drewN | apply below_drew1) | exact HB.out)) hb); have n3_ := Aside0.mk (hbox); have n4_ := Aside0.mk ((by rw [hg]; exact (below_size (by repeat (first | (with_reducible first | exact HB.out | apply below_alloc | apply pw_below_drewN | apply below_drew1) | exact HB.out))) : w.heap.size ≤ gb351)); have n5_ := Aside0.mk ((by rw [hg]; exact (below_size (by repeat (first | (with_reducible first | exact HB.out | apply below_alloc | apply pw_below_drewN | apply below_drew1) | exact HB.out))) : w.heap.size ≤ gb351)); clear HO0; clear HO1_2; clear HB; have HO0 := n0_; have HO1_2 := n1_; have HB := n2_; have BK351 := n3_; have GW351 := n4_; have GE351 := n5_; clear n0_ n1_ n2_ n3_ n4_ n5_; clear hb hbox hg) | ((with_reducible refine gate_callee (f := 10) rfl ?_); refine goesL_ (some 14) rfl rfl Try.func10 (by kernel_rfl) rfl #[.agg #[.slice A0 l0.length c0, .bool false]] rfl (by (try simp only [List.map_toArray, List.map_cons, List.map_nil]); first | done | rfl | (simp only [List.length_drop, List.length_take]; rfl)) ?_; (with_reducible refine (trans_Encode.calls k _ _ l0 false t352 t355 _ ?side1 ?side2 A3.out).mono ?_); (case side1 => repeat (first | exact (Kd.V_reads' HO0.out).2.2 | (with_reducible refine Kd.C_alloc ?_ _) | (with_reducible refine Kd.C_drewN ?_ _) | (with_reducible refine Kd.C_drew ?_))); (case side2 => exact (Kd.V_reads' HO0.out).2.1); rintro e w9 ⟨v353, rfl, ho0, hb⟩; refine ⟨_, rfl, ?_⟩; have n0_ := Aside0.mk (Kd.V_elder' (by (with_reducible repeat (first | apply Kd.V_alloc | apply Kd.V_drewN | apply Kd.V_drew)); exact HO0.out) (KL.R_base ho0) hb); have n1_ := Aside0.mk (Kd.V_elder' (by (with_reducible repeat (first | apply Kd.V_alloc | apply Kd.V_drewN | apply Kd.V_drew)); exact HO1_2.out) (KL.R_base ho0) hb); have n2_ := Aside0.mk (KL.R_lower (KL.R_newM (M := fun k_ => (w.heap.size ≤ k_)) ho0 (below_size (by repeat (first | (with_reducible first | exact HB.out | apply below_alloc | apply pw_below_drewN | apply below_drew1 | refine below_set ?_ GE351.out) | exact HB.out))) (fun k_ h_ => h_)) (below_size (by repeat (first | (with_reducible first | exact HB.out | apply below_alloc | apply pw_below_drewN | apply below_drew1 | refine below_set ?_ GE351.out) | exact HB.out)))); have n3_ := Aside0.mk (blk_below (g := gb351) (o := .cells #[.int .i64 a1_0, .int .i64 a1_1, .slice A1_2 l1_2.length c1_2] 43 (0, 0)) (by (with_reducible repeat (first | refine blk_drewN ?_ _ | refine blk_drew ?_ | refine blk_alloc ?_ _)); exact BK351.out) hb); have n4_ := Aside0.mk (below_step (by repeat (first | (with_reducible first | exact HB.out | apply below_alloc | apply pw_below_drewN | apply below_drew1 | refine below_set ?_ GE351.out) | exact HB.out)) hb); clear HO0; clear HO1_2; clear BK351; clear HB; have HO0 := n0_; have HO1_2 := n1_; have HO354 := n2_; have BK351 := n3_; have HB := n4_; clear n0_ n1_ n2_ n3_ n4_; (try clear hb); (try clear hb2); (try clear hk); (try clear hi); (try clear ho0)))
      have n0_ := Aside0.mk (Kd.V_drew HO0.out)
      have n1_ := Aside0.mk (Kd.V_drew HO1_2.out)
      have n2_ := Aside0.mk (KL.R_drew HO354.out)
      have n3_ := Aside0.mk (blk_drew BK351.out)
      have n4_ := Aside0.mk (below_drew1 HB.out)
      clear HO0
      clear HO1_2
      clear HO354
      clear BK351
      clear HB
      have HO0 := n0_
      have HO1_2 := n1_
      have HO354 := n2_
      have BK351 := n3_
      have HB := n4_
      clear n0_ n1_ n2_ n3_ n4_
      refine start_ (n := 13) (S := fun w' => w'.cell? ⟨gb351, 0, none⟩ = some (.int .i64 a1_0) ∧ w'.cell? ⟨gb351, 1, none⟩ = some (.int .i64 a1_1) ∧ w'.cell? ⟨gb351, 2, none⟩ = some (.slice A1_2 l1_2.length c1_2)) (ds := []) #[false, false, false, false, false, false, false, false, false, false, false, false, false] (by kernel_rfl) rfl rfl ⟨(blk_cell BK351.out 0).trans rfl, (blk_cell BK351.out 1).trans rfl, (blk_cell BK351.out 2).trans rfl⟩ (fun hHeld => ?_); refine with_tabW cuecardlaw05_TransJoins.tab2 cuecardlaw05_TransJoins.bits2 (fun HT_ HW_ => ?_)
      generalize w9.drew = w10 at HO0 HO1_2 HO354 BK351 HB hHeld ⊢
      refine pure_ (i := 1) (N := some 19) (v := ?_) (a' := ?_) #[false, true, false, false, false, false, false, false, false, false, false, false, false] rfl rfl (any_of HT_.out (by kernel_rfl)) (fun _ _ _ h => h) (Or.inl ⟨by rfl, ?_⟩) ?_ ?_
      rotate_left
      · intro w'
        go_simp
        with_reducible rfl
      rotate_left
      · simp only [Act.put, List.setIfInBounds_toArray, List.set_cons_zero, List.set_cons_succ, i64_w, i32_w]
        rfl
      refine take_ (i := 3) (N := some 21) (v := ?_) (a' := ?_) #[false, true, false, true, false, false, false, false, false, false, false, false, false] rfl rfl (take_ofW HT_.out HW_.out (by kernel_rfl)) (fun _ _ _ h => h) (Or.inl ⟨by rfl, ?_⟩) hHeld ?_ ?_
      rotate_left
      · rintro w' ⟨s0, s1, s2⟩
        go_simp
        with_reducible rfl
      rotate_left
      · simp only [Act.put, List.setIfInBounds_toArray, List.set_cons_zero, List.set_cons_succ, i64_w, i32_w]
        rfl
      refine join_ (σ := Value × Value × Value) 8 #[true, true, true, true, true, false, false, false, false, false, false, false, false] (fun s_ => [(18, s_.1), (20, s_.2.1), (22, s_.2.2)]) (fun s_ w' => (w'.cell? ⟨gb351, 0, none⟩ = some (.int .i64 a1_0) ∧ w'.cell? ⟨gb351, 1, none⟩ = some (.int .i64 a1_1) ∧ w'.cell? ⟨gb351, 2, none⟩ = some (.slice A1_2 l1_2.length c1_2)) ∧ (Kd.V k43 43 w' w.heap.size (fun k_ => ((P0_ k_ ∨ P1_2_ k_) ∨ w.heap.size ≤ k_) ∧ some k_ ≠ (v353 : Value).ownBlock ∧ some k_ ≠ (s_.2.1 : Value).ownBlock ∧ some k_ ≠ (s_.2.2 : Value).ownBlock ∧ k_ ≠ gb351) (.slice A0 l0.length c0) l0) ∧ (Kd.V (Kd.int .u8) 5 w' w.heap.size (fun k_ => ((P0_ k_ ∨ P1_2_ k_) ∨ w.heap.size ≤ k_) ∧ some k_ ≠ (v353 : Value).ownBlock ∧ some k_ ≠ (s_.2.1 : Value).ownBlock ∧ some k_ ≠ (s_.2.2 : Value).ownBlock ∧ k_ ≠ gb351) (.slice A1_2 l1_2.length c1_2) l1_2) ∧ (KL.R w' w.heap.size (fun k_ => (w.heap.size ≤ k_)) v353 t352) ∧ (Kd.N k43 43 w' w.heap.size (fun k_ => ((P0_ k_ ∨ P1_2_ k_) ∨ w.heap.size ≤ k_) ∧ some k_ ≠ (v353 : Value).ownBlock ∧ some k_ ≠ (s_.2.2 : Value).ownBlock ∧ k_ ≠ gb351) s_.2.1 y359) ∧ (Kd.N k43 43 w' w.heap.size (fun k_ => ((P0_ k_ ∨ P1_2_ k_) ∨ w.heap.size ≤ k_) ∧ some k_ ≠ (v353 : Value).ownBlock ∧ some k_ ≠ (s_.2.1 : Value).ownBlock ∧ k_ ≠ gb351) s_.2.2 y362) ∧ (w'.heap[gb351]? = some (.cells #[.int .i64 a1_0, .int .i64 a1_1, .slice A1_2 l1_2.length c1_2] 43 (0, 0))) ∧ (Below w.heap.size w w')) ?_ ?_
      rotate_left
      · intro hCont
        refine two_ (i := 0) (j := 4) (Ni := some 18) (Nj := some 22) #[true, true, false, true, false, false, false, false, false, false, false, false, false] #[false, true, false, true, true, false, false, false, false, false, false, false, false] rfl rfl rfl rfl (two_of HT_.out (by kernel_rfl)) (by decide) (by decide) (fun K hK => ?_) (fun K hK => ?_)
        · skip
          refine Kd.N_lit_step k43 _ 43 ?hg (N' := 18) ?hd (xs := ([] : List (S43))) (inner := []) (ok := (fun k_ => ((P0_ k_ ∨ P1_2_ k_) ∨ w.heap.size ≤ k_) ∧ some k_ ≠ (v353 : Value).ownBlock ∧ k_ ≠ gb351)) (okp := (fun k_ => ((P0_ k_ ∨ P1_2_ k_) ∨ w.heap.size ≤ k_) ∧ some k_ ≠ (v353 : Value).ownBlock ∧ k_ ≠ gb351)) ?hr ?hp (fun _ hk => hk) ((show ∀ k_, w10.heap.size ≤ k_ → (fun k_ => ((P0_ k_ ∨ P1_2_ k_) ∨ w.heap.size ≤ k_) ∧ some k_ ≠ (v353 : Value).ownBlock ∧ k_ ≠ gb351) k_ from fun k_ hk => ⟨(.inr (Nat.le_trans (below_size (by repeat (first | (with_reducible first | exact HB.out | apply below_alloc | apply pw_below_drewN | apply below_drew1 | refine below_set ?_ GE351.out) | exact HB.out))) hk)), Kd.fresh' (KL.R_lt (by (with_reducible repeat (first | apply KL.R_alloc | apply KL.R_drewN | apply KL.R_drew)); exact HO354.out)) k_ hk, Kd.freshB (g := gb351) (o := .cells #[.int .i64 a1_0, .int .i64 a1_1, .slice A1_2 l1_2.length c1_2] 43 (0, 0)) (by (with_reducible repeat (first | refine blk_drewN ?_ _ | refine blk_drew ?_ | refine blk_alloc ?_ _)); exact BK351.out) k_ hk⟩) _ (Nat.le_refl _)) (Below.refl _ _) (Nat.le_refl _) (by simp) ?_; (case hd => rfl); (case hg => rfl); (case hr => first | (go_simp; done) | (go_simp; rfl)); (case hp => exact (Reps.none _ _))
          intro v357 w11 ho12 hb hg_ hnew_
          clear hg_ hnew_
          (first | rw [← Ny356.out] at ho12 | (simp only [Int.reduceToNat] at ho12; rw [← Ny356.out] at ho12))
          have n0_ := Aside0.mk (Kd.V_elder' (by (with_reducible repeat (first | apply Kd.V_alloc | apply Kd.V_drewN | apply Kd.V_drew)); exact HO0.out) (Kd.N_base ho12) hb)
          have n1_ := Aside0.mk (Kd.V_elder' (by (with_reducible repeat (first | apply Kd.V_alloc | apply Kd.V_drewN | apply Kd.V_drew)); exact HO1_2.out) (Kd.N_base ho12) hb)
          have n2_ := Aside0.mk (KL.R_below (by (with_reducible repeat (first | apply KL.R_alloc | apply KL.R_drewN | apply KL.R_drew)); exact HO354.out) hb)
          have n3_ := Aside0.mk (Kd.N_lower ho12 (below_size (by repeat (first | (with_reducible first | exact HB.out | apply below_alloc | apply pw_below_drewN | apply below_drew1 | refine below_set ?_ GE351.out) | exact HB.out))))
          have n4_ := Aside0.mk (blk_below (g := gb351) (o := .cells #[.int .i64 a1_0, .int .i64 a1_1, .slice A1_2 l1_2.length c1_2] 43 (0, 0)) (by (with_reducible repeat (first | refine blk_drewN ?_ _ | refine blk_drew ?_ | refine blk_alloc ?_ _)); exact BK351.out) hb)
          have n5_ := Aside0.mk (below_step (by repeat (first | (with_reducible first | exact HB.out | apply below_alloc | apply pw_below_drewN | apply below_drew1 | refine below_set ?_ GE351.out) | exact HB.out)) hb)
          clear HO0
          clear HO1_2
          clear HO354
          clear BK351
          clear HB
          have HO0 := n0_
          have HO1_2 := n1_
          have HO354 := n2_
          have HO358 := n3_
          have BK351 := n4_
          have HB := n5_
          clear n0_ n1_ n2_ n3_ n4_ n5_
          clear hb ho12
          refine hK.out _ _ ⟨(blk_cell BK351.out 0).trans rfl, (blk_cell BK351.out 1).trans rfl, (blk_cell BK351.out 2).trans rfl⟩ (fun hHeld => ?_)
          clear hK K
          refine norm_ (a' := ?_) ?_ ?_
          rotate_left
          · show Act.put _ (some 18) _ = _
            simp only [Act.put, List.setIfInBounds_toArray, List.set_cons_zero, List.set_cons_succ, i64_w, i32_w]
            rfl
          refine two_ (i := 2) (j := 4) (Ni := some 20) (Nj := some 22) #[true, true, true, true, false, false, false, false, false, false, false, false, false] #[true, true, false, true, true, false, false, false, false, false, false, false, false] rfl rfl rfl rfl (two_of HT_.out (by kernel_rfl)) (by decide) (by decide) (fun K hK => ?_) (fun K hK => ?_)
          · skip
            refine Kd.N_append_rows_step k43 (w0 := w) w.heap.size (by rfl) (.tmp 18) (.tmp 19) 22 43 (.agg #[(.int .i64 0), (.int .i64 0), (.slice none 0 0)]) 40 rfl Try.underlying22 info43 rfl (by decide) (by omega) v357 y356 l0 _ _ _ (fun k_ => ((P0_ k_ ∨ P1_2_ k_) ∨ w.heap.size ≤ k_) ∧ some k_ ≠ (v353 : Value).ownBlock ∧ k_ ≠ gb351) (fun k_ => ((fun k_ => ((P0_ k_ ∨ P1_2_ k_) ∨ w.heap.size ≤ k_) ∧ some k_ ≠ (v353 : Value).ownBlock ∧ k_ ≠ gb351)) k_ ∧ some k_ ≠ (v357 : Value).ownBlock) rfl rfl ?aO ?aR (fun _ hk => hk) ?aF ?aB ?aS ?aL ?_
            (case aR => exact (by skip; exact Kd.V_F (Kd.V_mono (ok' := (fun k_ => ((fun k_ => ((P0_ k_ ∨ P1_2_ k_) ∨ w.heap.size ≤ k_) ∧ some k_ ≠ (v353 : Value).ownBlock ∧ k_ ≠ gb351)) k_ ∧ some k_ ≠ (v357 : Value).ownBlock)) (HO0.out) (fun k_ hk => ⟨⟨hk.1.1.1, ⟨hk.1.2, hk.1.1.2⟩⟩, hk.2⟩))))
            (case aB => exact (by repeat (first | (with_reducible first | exact HB.out | apply below_alloc | apply pw_below_drewN | apply below_drew1 | refine below_set ?_ GE351.out) | exact HB.out)))
            (case aF => exact (fun k_ hk => ⟨(.inr (Nat.le_trans (below_size (by repeat (first | (with_reducible first | exact HB.out | apply below_alloc | apply pw_below_drewN | apply below_drew1 | refine below_set ?_ GE351.out) | exact HB.out))) hk)), Kd.fresh' (KL.R_lt (by (with_reducible repeat (first | apply KL.R_alloc | apply KL.R_drewN | apply KL.R_drew)); exact HO354.out)) k_ hk, Kd.freshB (g := gb351) (o := .cells #[.int .i64 a1_0, .int .i64 a1_1, .slice A1_2 l1_2.length c1_2] 43 (0, 0)) (by (with_reducible repeat (first | refine blk_drewN ?_ _ | refine blk_drew ?_ | refine blk_alloc ?_ _)); exact BK351.out) k_ hk⟩))
            (case aO => exact (by (with_reducible repeat (first | apply Kd.N_alloc | apply Kd.N_drewN | apply Kd.N_drew)); exact HO358.out))
            (case aS => exact (below_size (by repeat (first | (with_reducible first | exact HB.out | apply below_alloc | apply pw_below_drewN | apply below_drew1 | refine below_set ?_ GE351.out) | exact HB.out))))
            (case aL => have := LMc4.out; omega)
            intro v360 w13 ho hb hg hat
            rw [← Ny359.out] at ho
            have n0_ := Aside0.mk (Kd.V_afterv (ok := (fun k_ => ((P0_ k_ ∨ P1_2_ k_) ∨ w.heap.size ≤ k_) ∧ some k_ ≠ (v353 : Value).ownBlock ∧ k_ ≠ gb351)) (by (with_reducible repeat (first | apply Kd.V_alloc | apply Kd.V_drewN | apply Kd.V_drew)); exact Kd.V_mono HO0.out (fun _ hk => ⟨⟨hk.1.1.1, ⟨hk.1.2, hk.1.1.2⟩⟩, hk.2⟩)) hg hat)
            have n1_ := Aside0.mk (Kd.V_afterv (ok := (fun k_ => ((P0_ k_ ∨ P1_2_ k_) ∨ w.heap.size ≤ k_) ∧ some k_ ≠ (v353 : Value).ownBlock ∧ k_ ≠ gb351)) (by (with_reducible repeat (first | apply Kd.V_alloc | apply Kd.V_drewN | apply Kd.V_drew)); exact Kd.V_mono HO1_2.out (fun _ hk => ⟨⟨hk.1.1.1, ⟨hk.1.2, hk.1.1.2⟩⟩, hk.2⟩)) hg hat)
            have n2_ := Aside0.mk (blk_grown (g := gb351) (o := .cells #[.int .i64 a1_0, .int .i64 a1_1, .slice A1_2 l1_2.length c1_2] 43 (0, 0)) (by (with_reducible repeat (first | refine blk_drewN ?_ _ | refine blk_drew ?_ | refine blk_alloc ?_ _)); exact BK351.out) hg (Kd.N_away HO358.out (fun _ hk => hk.2.2)))
            have n3_ := Aside0.mk (KL.R_over' (by (with_reducible repeat (first | apply KL.R_alloc | apply KL.R_drewN | apply KL.R_drew)); exact HO354.out) (Kd.N_typed (by (with_reducible repeat (first | apply Kd.N_alloc | apply Kd.N_drewN | apply Kd.N_drew)); exact HO358.out)) (by decide) hg)
            have n4_ := Aside0.mk (hb)
            have n5_ := Aside0.mk (ho)
            clear HO0
            clear HO1_2
            clear BK351
            clear HO354
            clear HB
            clear HO358
            have HO0 := n0_
            have HO1_2 := n1_
            have BK351 := n2_
            have HO354 := n3_
            have HB := n4_
            have HO361 := n5_
            clear n0_ n1_ n2_ n3_ n4_ n5_
            clear ho hb hg hat
            refine hK.out _ _ ⟨(blk_cell BK351.out 0).trans rfl, (blk_cell BK351.out 1).trans rfl, (blk_cell BK351.out 2).trans rfl⟩ (fun hHeld => ?_)
            clear hK K
            refine norm_ (a' := ?_) ?_ ?_
            rotate_left
            · show Act.put _ (some 20) _ = _
              simp only [Act.put, List.setIfInBounds_toArray, List.set_cons_zero, List.set_cons_succ, i64_w, i32_w]
              rfl
            refine one_ (i := 4) (N := some 22) #[true, true, true, true, true, false, false, false, false, false, false, false, false] rfl rfl (one_of HT_.out (by kernel_rfl)) (by decide) (fun K hK => ?_)
            refine Kd.N_lit_step k43 _ 43 ?hg (N' := 22) ?hd (xs := ([(⟨a1_0, a1_1, l1_2⟩ : S43)] : List (S43))) (inner := [.int .i64 a1_0, .int .i64 a1_1, .slice A1_2 l1_2.length c1_2]) (ok := (fun k_ => ((P0_ k_ ∨ P1_2_ k_) ∨ w.heap.size ≤ k_) ∧ some k_ ≠ (v353 : Value).ownBlock ∧ some k_ ≠ (v360 : Value).ownBlock ∧ k_ ≠ gb351)) (okp := (fun k_ => ((P0_ k_ ∨ P1_2_ k_) ∨ w.heap.size ≤ k_) ∧ some k_ ≠ (v353 : Value).ownBlock ∧ some k_ ≠ (v360 : Value).ownBlock ∧ k_ ≠ gb351)) ?hr ?hp (fun _ hk => hk) ((show ∀ k_, w13.heap.size ≤ k_ → (fun k_ => ((P0_ k_ ∨ P1_2_ k_) ∨ w.heap.size ≤ k_) ∧ some k_ ≠ (v353 : Value).ownBlock ∧ some k_ ≠ (v360 : Value).ownBlock ∧ k_ ≠ gb351) k_ from fun k_ hk => ⟨(.inr (Nat.le_trans (below_size (by repeat (first | (with_reducible first | exact HB.out | apply below_alloc | apply pw_below_drewN | apply below_drew1 | refine below_set ?_ GE351.out) | exact HB.out))) hk)), Kd.fresh' (KL.R_lt (by (with_reducible repeat (first | apply KL.R_alloc | apply KL.R_drewN | apply KL.R_drew)); exact HO354.out)) k_ hk, Kd.fresh' (Kd.N_lt (by (with_reducible repeat (first | apply Kd.N_alloc | apply Kd.N_drewN | apply Kd.N_drew)); exact HO361.out)) k_ hk, Kd.freshB (g := gb351) (o := .cells #[.int .i64 a1_0, .int .i64 a1_1, .slice A1_2 l1_2.length c1_2] 43 (0, 0)) (by (with_reducible repeat (first | refine blk_drewN ?_ _ | refine blk_drew ?_ | refine blk_alloc ?_ _)); exact BK351.out) k_ hk⟩) _ (Nat.le_refl _)) (Below.refl _ _) (Nat.le_refl _) (by simp) ?_; (case hd => rfl); (case hg => rfl); (case hr => first | (go_simp; done) | (go_simp; rfl)); (case hp => exact (Reps.c3 (show Kd.FK k43 _ _ (⟨a1_0, a1_1, l1_2⟩ : S43) [.int .i64 a1_0, .int .i64 a1_1, .slice A1_2 l1_2.length c1_2] from (k43_mkF _ _ (⟨a1_0, a1_1, l1_2⟩ : S43) (Kd.V_reads' (Kd.V_mono (ok' := (fun k_ => ((P0_ k_ ∨ P1_2_ k_) ∨ w.heap.size ≤ k_) ∧ some k_ ≠ (v353 : Value).ownBlock ∧ some k_ ≠ (v360 : Value).ownBlock ∧ k_ ≠ gb351)) (HO1_2.out) (fun k_ hk => ⟨hk.1.1, ⟨hk.1.2.1, ⟨hk.2, hk.1.2.2⟩⟩⟩))).2.1 (Kd.V_F (Kd.V_mono (ok' := (fun k_ => ((P0_ k_ ∨ P1_2_ k_) ∨ w.heap.size ≤ k_) ∧ some k_ ≠ (v353 : Value).ownBlock ∧ some k_ ≠ (v360 : Value).ownBlock ∧ k_ ≠ gb351)) (HO1_2.out) (fun k_ hk => ⟨hk.1.1, ⟨hk.1.2.1, ⟨hk.2, hk.1.2.2⟩⟩⟩))))) (Reps.none _ _)))
            intro v363 w14 ho15 hb hg_ hnew_
            clear hg_ hnew_
            (first | rw [← Ny362.out] at ho15 | (simp only [Int.reduceToNat] at ho15; rw [← Ny362.out] at ho15))
            have n0_ := Aside0.mk (Kd.V_elder' (by (with_reducible repeat (first | apply Kd.V_alloc | apply Kd.V_drewN | apply Kd.V_drew)); exact HO0.out) (Kd.N_base ho15) hb)
            have n1_ := Aside0.mk (Kd.V_elder' (by (with_reducible repeat (first | apply Kd.V_alloc | apply Kd.V_drewN | apply Kd.V_drew)); exact HO1_2.out) (Kd.N_base ho15) hb)
            have n2_ := Aside0.mk (KL.R_below (by (with_reducible repeat (first | apply KL.R_alloc | apply KL.R_drewN | apply KL.R_drew)); exact HO354.out) hb)
            have n3_ := Aside0.mk (Kd.N_elder' (by (with_reducible repeat (first | apply Kd.N_alloc | apply Kd.N_drewN | apply Kd.N_drew)); exact HO361.out) (Kd.N_base ho15) hb)
            have n4_ := Aside0.mk (Kd.N_lower ho15 (below_size (by repeat (first | (with_reducible first | exact HB.out | apply below_alloc | apply pw_below_drewN | apply below_drew1 | refine below_set ?_ GE351.out) | exact HB.out))))
            have n5_ := Aside0.mk (blk_below (g := gb351) (o := .cells #[.int .i64 a1_0, .int .i64 a1_1, .slice A1_2 l1_2.length c1_2] 43 (0, 0)) (by (with_reducible repeat (first | refine blk_drewN ?_ _ | refine blk_drew ?_ | refine blk_alloc ?_ _)); exact BK351.out) hb)
            have n6_ := Aside0.mk (below_step (by repeat (first | (with_reducible first | exact HB.out | apply below_alloc | apply pw_below_drewN | apply below_drew1 | refine below_set ?_ GE351.out) | exact HB.out)) hb)
            clear HO0
            clear HO1_2
            clear HO354
            clear HO361
            clear BK351
            clear HB
            have HO0 := n0_
            have HO1_2 := n1_
            have HO354 := n2_
            have HO361 := n3_
            have HO364 := n4_
            have BK351 := n5_
            have HB := n6_
            clear n0_ n1_ n2_ n3_ n4_ n5_ n6_
            clear hb ho15
            refine hK.out _ _ ⟨(blk_cell BK351.out 0).trans rfl, (blk_cell BK351.out 1).trans rfl, (blk_cell BK351.out 2).trans rfl⟩ (fun hHeld => ?_)
            clear hK K
            refine norm_ (a' := ?_) ?_ ?_
            rotate_left
            · show Act.put _ (some 22) _ = _
              simp only [Act.put, List.setIfInBounds_toArray, List.set_cons_zero, List.set_cons_succ, i64_w, i32_w]
              rfl
            exact norm_ (by simp only [putAll, Act.put, List.setIfInBounds_toArray, List.set_cons_zero, List.set_cons_succ]) (hCont (v357, v360, v363) _ ⟨hHeld, (by (with_reducible repeat (first | apply Kd.V_alloc | apply Kd.V_drewN | apply Kd.V_drew)); exact Kd.V_mono HO0.out (fun _ hk => ⟨hk.1.1.1, ⟨hk.1.1.2.1, ⟨hk.1.2, ⟨hk.2, hk.1.1.2.2⟩⟩⟩⟩)), (by (with_reducible repeat (first | apply Kd.V_alloc | apply Kd.V_drewN | apply Kd.V_drew)); exact Kd.V_mono HO1_2.out (fun _ hk => ⟨hk.1.1.1, ⟨hk.1.1.2.1, ⟨hk.1.2, ⟨hk.2, hk.1.1.2.2⟩⟩⟩⟩)), (by (with_reducible repeat (first | apply KL.R_alloc | apply KL.R_drewN | apply KL.R_drew)); exact KL.R_mono HO354.out (fun _ hk => hk.1)), (by (with_reducible repeat (first | apply Kd.N_alloc | apply Kd.N_drewN | apply Kd.N_drew)); exact Kd.N_mono HO361.out (fun _ hk => ⟨hk.1.1, ⟨hk.1.2.1, ⟨hk.2, hk.1.2.2⟩⟩⟩)), (by (with_reducible repeat (first | apply Kd.N_alloc | apply Kd.N_drewN | apply Kd.N_drew)); exact HO364.out), (by (with_reducible repeat (first | refine blk_drewN ?_ _ | refine blk_drew ?_ | refine blk_alloc ?_ _)); exact BK351.out), (by repeat (first | (with_reducible first | exact HB.out | apply below_alloc | apply pw_below_drewN | apply below_drew1 | refine below_set ?_ GE351.out) | exact HB.out))⟩)
          · skip
            refine Kd.N_lit_step k43 _ 43 ?hg (N' := 22) ?hd (xs := ([(⟨a1_0, a1_1, l1_2⟩ : S43)] : List (S43))) (inner := [.int .i64 a1_0, .int .i64 a1_1, .slice A1_2 l1_2.length c1_2]) (ok := (fun k_ => ((P0_ k_ ∨ P1_2_ k_) ∨ w.heap.size ≤ k_) ∧ some k_ ≠ (v353 : Value).ownBlock ∧ some k_ ≠ (v357 : Value).ownBlock ∧ k_ ≠ gb351)) (okp := (fun k_ => ((P0_ k_ ∨ P1_2_ k_) ∨ w.heap.size ≤ k_) ∧ some k_ ≠ (v353 : Value).ownBlock ∧ some k_ ≠ (v357 : Value).ownBlock ∧ k_ ≠ gb351)) ?hr ?hp (fun _ hk => hk) ((show ∀ k_, w11.heap.size ≤ k_ → (fun k_ => ((P0_ k_ ∨ P1_2_ k_) ∨ w.heap.size ≤ k_) ∧ some k_ ≠ (v353 : Value).ownBlock ∧ some k_ ≠ (v357 : Value).ownBlock ∧ k_ ≠ gb351) k_ from fun k_ hk => ⟨(.inr (Nat.le_trans (below_size (by repeat (first | (with_reducible first | exact HB.out | apply below_alloc | apply pw_below_drewN | apply below_drew1 | refine below_set ?_ GE351.out) | exact HB.out))) hk)), Kd.fresh' (KL.R_lt (by (with_reducible repeat (first | apply KL.R_alloc | apply KL.R_drewN | apply KL.R_drew)); exact HO354.out)) k_ hk, Kd.fresh' (Kd.N_lt (by (with_reducible repeat (first | apply Kd.N_alloc | apply Kd.N_drewN | apply Kd.N_drew)); exact HO358.out)) k_ hk, Kd.freshB (g := gb351) (o := .cells #[.int .i64 a1_0, .int .i64 a1_1, .slice A1_2 l1_2.length c1_2] 43 (0, 0)) (by (with_reducible repeat (first | refine blk_drewN ?_ _ | refine blk_drew ?_ | refine blk_alloc ?_ _)); exact BK351.out) k_ hk⟩) _ (Nat.le_refl _)) (Below.refl _ _) (Nat.le_refl _) (by simp) ?_; (case hd => rfl); (case hg => rfl); (case hr => first | (go_simp; done) | (go_simp; rfl)); (case hp => exact (Reps.c3 (show Kd.FK k43 _ _ (⟨a1_0, a1_1, l1_2⟩ : S43) [.int .i64 a1_0, .int .i64 a1_1, .slice A1_2 l1_2.length c1_2] from (k43_mkF _ _ (⟨a1_0, a1_1, l1_2⟩ : S43) (Kd.V_reads' (Kd.V_mono (ok' := (fun k_ => ((P0_ k_ ∨ P1_2_ k_) ∨ w.heap.size ≤ k_) ∧ some k_ ≠ (v353 : Value).ownBlock ∧ some k_ ≠ (v357 : Value).ownBlock ∧ k_ ≠ gb351)) (HO1_2.out) (fun k_ hk => ⟨hk.1.1.1, ⟨hk.1.2, ⟨hk.2, hk.1.1.2⟩⟩⟩))).2.1 (Kd.V_F (Kd.V_mono (ok' := (fun k_ => ((P0_ k_ ∨ P1_2_ k_) ∨ w.heap.size ≤ k_) ∧ some k_ ≠ (v353 : Value).ownBlock ∧ some k_ ≠ (v357 : Value).ownBlock ∧ k_ ≠ gb351)) (HO1_2.out) (fun k_ hk => ⟨hk.1.1.1, ⟨hk.1.2, ⟨hk.2, hk.1.1.2⟩⟩⟩))))) (Reps.none _ _)))
            intro v363 w13 ho14 hb hg_ hnew_
            clear hg_ hnew_
            (first | rw [← Ny362.out] at ho14 | (simp only [Int.reduceToNat] at ho14; rw [← Ny362.out] at ho14))
            have n0_ := Aside0.mk (Kd.V_elder' (by (with_reducible repeat (first | apply Kd.V_alloc | apply Kd.V_drewN | apply Kd.V_drew)); exact HO0.out) (Kd.N_base ho14) hb)
            have n1_ := Aside0.mk (Kd.V_elder' (by (with_reducible repeat (first | apply Kd.V_alloc | apply Kd.V_drewN | apply Kd.V_drew)); exact HO1_2.out) (Kd.N_base ho14) hb)
            have n2_ := Aside0.mk (KL.R_below (by (with_reducible repeat (first | apply KL.R_alloc | apply KL.R_drewN | apply KL.R_drew)); exact HO354.out) hb)
            have n3_ := Aside0.mk (Kd.N_elder' (by (with_reducible repeat (first | apply Kd.N_alloc | apply Kd.N_drewN | apply Kd.N_drew)); exact HO358.out) (Kd.N_base ho14) hb)
            have n4_ := Aside0.mk (Kd.N_lower ho14 (below_size (by repeat (first | (with_reducible first | exact HB.out | apply below_alloc | apply pw_below_drewN | apply below_drew1 | refine below_set ?_ GE351.out) | exact HB.out))))
            have n5_ := Aside0.mk (blk_below (g := gb351) (o := .cells #[.int .i64 a1_0, .int .i64 a1_1, .slice A1_2 l1_2.length c1_2] 43 (0, 0)) (by (with_reducible repeat (first | refine blk_drewN ?_ _ | refine blk_drew ?_ | refine blk_alloc ?_ _)); exact BK351.out) hb)
            have n6_ := Aside0.mk (below_step (by repeat (first | (with_reducible first | exact HB.out | apply below_alloc | apply pw_below_drewN | apply below_drew1 | refine below_set ?_ GE351.out) | exact HB.out)) hb)
            clear HO0
            clear HO1_2
            clear HO354
            clear HO358
            clear BK351
            clear HB
            have HO0 := n0_
            have HO1_2 := n1_
            have HO354 := n2_
            have HO358 := n3_
            have HO364 := n4_
            have BK351 := n5_
            have HB := n6_
            clear n0_ n1_ n2_ n3_ n4_ n5_ n6_
            clear hb ho14
            refine hK.out _ _ ⟨(blk_cell BK351.out 0).trans rfl, (blk_cell BK351.out 1).trans rfl, (blk_cell BK351.out 2).trans rfl⟩ (fun hHeld => ?_)
            clear hK K
            refine norm_ (a' := ?_) ?_ ?_
            rotate_left
            · show Act.put _ (some 22) _ = _
              simp only [Act.put, List.setIfInBounds_toArray, List.set_cons_zero, List.set_cons_succ, i64_w, i32_w]
              rfl
            refine one_ (i := 2) (N := some 20) #[true, true, true, true, true, false, false, false, false, false, false, false, false] rfl rfl (one_of HT_.out (by kernel_rfl)) (by decide) (fun K hK => ?_)
            refine Kd.N_append_rows_step k43 (w0 := w) w.heap.size (by rfl) (.tmp 18) (.tmp 19) 22 43 (.agg #[(.int .i64 0), (.int .i64 0), (.slice none 0 0)]) 40 rfl Try.underlying22 info43 rfl (by decide) (by omega) v357 y356 l0 _ _ _ (fun k_ => ((P0_ k_ ∨ P1_2_ k_) ∨ w.heap.size ≤ k_) ∧ some k_ ≠ (v353 : Value).ownBlock ∧ some k_ ≠ (v363 : Value).ownBlock ∧ k_ ≠ gb351) (fun k_ => ((fun k_ => ((P0_ k_ ∨ P1_2_ k_) ∨ w.heap.size ≤ k_) ∧ some k_ ≠ (v353 : Value).ownBlock ∧ some k_ ≠ (v363 : Value).ownBlock ∧ k_ ≠ gb351)) k_ ∧ some k_ ≠ (v357 : Value).ownBlock) rfl rfl ?aO ?aR (fun _ hk => hk) ?aF ?aB ?aS ?aL ?_
            (case aR => exact (by skip; exact Kd.V_F (Kd.V_mono (ok' := (fun k_ => ((fun k_ => ((P0_ k_ ∨ P1_2_ k_) ∨ w.heap.size ≤ k_) ∧ some k_ ≠ (v353 : Value).ownBlock ∧ some k_ ≠ (v363 : Value).ownBlock ∧ k_ ≠ gb351)) k_ ∧ some k_ ≠ (v357 : Value).ownBlock)) (HO0.out) (fun k_ hk => ⟨⟨hk.1.1.1.1, ⟨hk.1.1.2, ⟨hk.2, hk.1.1.1.2⟩⟩⟩, hk.1.2⟩))))
            (case aB => exact (by repeat (first | (with_reducible first | exact HB.out | apply below_alloc | apply pw_below_drewN | apply below_drew1 | refine below_set ?_ GE351.out) | exact HB.out)))
            (case aF => exact (fun k_ hk => ⟨(.inr (Nat.le_trans (below_size (by repeat (first | (with_reducible first | exact HB.out | apply below_alloc | apply pw_below_drewN | apply below_drew1 | refine below_set ?_ GE351.out) | exact HB.out))) hk)), Kd.fresh' (KL.R_lt (by (with_reducible repeat (first | apply KL.R_alloc | apply KL.R_drewN | apply KL.R_drew)); exact HO354.out)) k_ hk, Kd.fresh' (Kd.N_lt (by (with_reducible repeat (first | apply Kd.N_alloc | apply Kd.N_drewN | apply Kd.N_drew)); exact HO364.out)) k_ hk, Kd.freshB (g := gb351) (o := .cells #[.int .i64 a1_0, .int .i64 a1_1, .slice A1_2 l1_2.length c1_2] 43 (0, 0)) (by (with_reducible repeat (first | refine blk_drewN ?_ _ | refine blk_drew ?_ | refine blk_alloc ?_ _)); exact BK351.out) k_ hk⟩))
            (case aO => exact (by (with_reducible repeat (first | apply Kd.N_alloc | apply Kd.N_drewN | apply Kd.N_drew)); exact Kd.N_mono HO358.out (fun _ hk => ⟨hk.1.1, ⟨hk.1.2.1, ⟨hk.2, hk.1.2.2⟩⟩⟩)))
            (case aS => exact (below_size (by repeat (first | (with_reducible first | exact HB.out | apply below_alloc | apply pw_below_drewN | apply below_drew1 | refine below_set ?_ GE351.out) | exact HB.out))))
            (case aL => have := LMc4.out; omega)
            intro v360 w15 ho hb hg hat
            rw [← Ny359.out] at ho
            have n0_ := Aside0.mk (Kd.V_afterv (ok := (fun k_ => ((P0_ k_ ∨ P1_2_ k_) ∨ w.heap.size ≤ k_) ∧ some k_ ≠ (v353 : Value).ownBlock ∧ some k_ ≠ (v363 : Value).ownBlock ∧ k_ ≠ gb351)) (by (with_reducible repeat (first | apply Kd.V_alloc | apply Kd.V_drewN | apply Kd.V_drew)); exact Kd.V_mono HO0.out (fun _ hk => ⟨⟨hk.1.1.1.1, ⟨hk.1.1.2, ⟨hk.2, hk.1.1.1.2⟩⟩⟩, hk.1.2⟩)) hg hat)
            have n1_ := Aside0.mk (Kd.V_afterv (ok := (fun k_ => ((P0_ k_ ∨ P1_2_ k_) ∨ w.heap.size ≤ k_) ∧ some k_ ≠ (v353 : Value).ownBlock ∧ some k_ ≠ (v363 : Value).ownBlock ∧ k_ ≠ gb351)) (by (with_reducible repeat (first | apply Kd.V_alloc | apply Kd.V_drewN | apply Kd.V_drew)); exact Kd.V_mono HO1_2.out (fun _ hk => ⟨⟨hk.1.1.1.1, ⟨hk.1.1.2, ⟨hk.2, hk.1.1.1.2⟩⟩⟩, hk.1.2⟩)) hg hat)
            have n2_ := Aside0.mk (blk_grown (g := gb351) (o := .cells #[.int .i64 a1_0, .int .i64 a1_1, .slice A1_2 l1_2.length c1_2] 43 (0, 0)) (by (with_reducible repeat (first | refine blk_drewN ?_ _ | refine blk_drew ?_ | refine blk_alloc ?_ _)); exact BK351.out) hg (Kd.N_away HO358.out (fun _ hk => hk.1.2.2)))
            have n3_ := Aside0.mk (KL.R_over' (by (with_reducible repeat (first | apply KL.R_alloc | apply KL.R_drewN | apply KL.R_drew)); exact HO354.out) (Kd.N_typed (by (with_reducible repeat (first | apply Kd.N_alloc | apply Kd.N_drewN | apply Kd.N_drew)); exact HO358.out)) (by decide) hg)
            have n4_ := Aside0.mk (Kd.N_afterv (ok := (fun k_ => ((P0_ k_ ∨ P1_2_ k_) ∨ w.heap.size ≤ k_) ∧ some k_ ≠ (v353 : Value).ownBlock ∧ k_ ≠ gb351)) (by (with_reducible repeat (first | apply Kd.N_alloc | apply Kd.N_drewN | apply Kd.N_drew)); exact Kd.N_mono HO364.out (fun _ hk => ⟨⟨hk.1, ⟨hk.2.1, hk.2.2.2⟩⟩, hk.2.2.1⟩)) hg hat)
            have n5_ := Aside0.mk (hb)
            have n6_ := Aside0.mk (ho)
            clear HO0
            clear HO1_2
            clear BK351
            clear HO354
            clear HO364
            clear HB
            clear HO358
            have HO0 := n0_
            have HO1_2 := n1_
            have BK351 := n2_
            have HO354 := n3_
            have HO364 := n4_
            have HB := n5_
            have HO361 := n6_
            clear n0_ n1_ n2_ n3_ n4_ n5_ n6_
            clear ho hb hg hat
            refine hK.out _ _ ⟨(blk_cell BK351.out 0).trans rfl, (blk_cell BK351.out 1).trans rfl, (blk_cell BK351.out 2).trans rfl⟩ (fun hHeld => ?_)
            clear hK K
            refine norm_ (a' := ?_) ?_ ?_
            rotate_left
            · show Act.put _ (some 20) _ = _
              simp only [Act.put, List.setIfInBounds_toArray, List.set_cons_zero, List.set_cons_succ, i64_w, i32_w]
              rfl
            exact norm_ (by simp only [putAll, Act.put, List.setIfInBounds_toArray, List.set_cons_zero, List.set_cons_succ]) (hCont (v357, v360, v363) _ ⟨hHeld, (by (with_reducible repeat (first | apply Kd.V_alloc | apply Kd.V_drewN | apply Kd.V_drew)); exact Kd.V_mono HO0.out (fun _ hk => ⟨hk.1.1, ⟨hk.1.2.1, ⟨hk.2, ⟨hk.1.2.2.1, hk.1.2.2.2⟩⟩⟩⟩)), (by (with_reducible repeat (first | apply Kd.V_alloc | apply Kd.V_drewN | apply Kd.V_drew)); exact Kd.V_mono HO1_2.out (fun _ hk => ⟨hk.1.1, ⟨hk.1.2.1, ⟨hk.2, ⟨hk.1.2.2.1, hk.1.2.2.2⟩⟩⟩⟩)), (by (with_reducible repeat (first | apply KL.R_alloc | apply KL.R_drewN | apply KL.R_drew)); exact KL.R_mono HO354.out (fun _ hk => hk.1)), (by (with_reducible repeat (first | apply Kd.N_alloc | apply Kd.N_drewN | apply Kd.N_drew)); exact HO361.out), (by (with_reducible repeat (first | apply Kd.N_alloc | apply Kd.N_drewN | apply Kd.N_drew)); exact Kd.N_mono HO364.out (fun _ hk => ⟨hk.1.1, ⟨hk.1.2.1, ⟨hk.2, hk.1.2.2⟩⟩⟩)), (by (with_reducible repeat (first | refine blk_drewN ?_ _ | refine blk_drew ?_ | refine blk_alloc ?_ _)); exact BK351.out), (by repeat (first | (with_reducible first | exact HB.out | apply below_alloc | apply pw_below_drewN | apply below_drew1 | refine below_set ?_ GE351.out) | exact HB.out))⟩)
        · skip
          refine Kd.N_lit_step k43 _ 43 ?hg (N' := 22) ?hd (xs := ([(⟨a1_0, a1_1, l1_2⟩ : S43)] : List (S43))) (inner := [.int .i64 a1_0, .int .i64 a1_1, .slice A1_2 l1_2.length c1_2]) (ok := (fun k_ => ((P0_ k_ ∨ P1_2_ k_) ∨ w.heap.size ≤ k_) ∧ some k_ ≠ (v353 : Value).ownBlock ∧ k_ ≠ gb351)) (okp := (fun k_ => ((P0_ k_ ∨ P1_2_ k_) ∨ w.heap.size ≤ k_) ∧ some k_ ≠ (v353 : Value).ownBlock ∧ k_ ≠ gb351)) ?hr ?hp (fun _ hk => hk) ((show ∀ k_, w10.heap.size ≤ k_ → (fun k_ => ((P0_ k_ ∨ P1_2_ k_) ∨ w.heap.size ≤ k_) ∧ some k_ ≠ (v353 : Value).ownBlock ∧ k_ ≠ gb351) k_ from fun k_ hk => ⟨(.inr (Nat.le_trans (below_size (by repeat (first | (with_reducible first | exact HB.out | apply below_alloc | apply pw_below_drewN | apply below_drew1 | refine below_set ?_ GE351.out) | exact HB.out))) hk)), Kd.fresh' (KL.R_lt (by (with_reducible repeat (first | apply KL.R_alloc | apply KL.R_drewN | apply KL.R_drew)); exact HO354.out)) k_ hk, Kd.freshB (g := gb351) (o := .cells #[.int .i64 a1_0, .int .i64 a1_1, .slice A1_2 l1_2.length c1_2] 43 (0, 0)) (by (with_reducible repeat (first | refine blk_drewN ?_ _ | refine blk_drew ?_ | refine blk_alloc ?_ _)); exact BK351.out) k_ hk⟩) _ (Nat.le_refl _)) (Below.refl _ _) (Nat.le_refl _) (by simp) ?_; (case hd => rfl); (case hg => rfl); (case hr => first | (go_simp; done) | (go_simp; rfl)); (case hp => exact (Reps.c3 (show Kd.FK k43 _ _ (⟨a1_0, a1_1, l1_2⟩ : S43) [.int .i64 a1_0, .int .i64 a1_1, .slice A1_2 l1_2.length c1_2] from (k43_mkF _ _ (⟨a1_0, a1_1, l1_2⟩ : S43) (Kd.V_reads' (Kd.V_mono (ok' := (fun k_ => ((P0_ k_ ∨ P1_2_ k_) ∨ w.heap.size ≤ k_) ∧ some k_ ≠ (v353 : Value).ownBlock ∧ k_ ≠ gb351)) (HO1_2.out) (fun k_ hk => ⟨hk.1.1, ⟨hk.2, hk.1.2⟩⟩))).2.1 (Kd.V_F (Kd.V_mono (ok' := (fun k_ => ((P0_ k_ ∨ P1_2_ k_) ∨ w.heap.size ≤ k_) ∧ some k_ ≠ (v353 : Value).ownBlock ∧ k_ ≠ gb351)) (HO1_2.out) (fun k_ hk => ⟨hk.1.1, ⟨hk.2, hk.1.2⟩⟩))))) (Reps.none _ _)))
          intro v363 w11 ho12 hb hg_ hnew_
          clear hg_ hnew_
          (first | rw [← Ny362.out] at ho12 | (simp only [Int.reduceToNat] at ho12; rw [← Ny362.out] at ho12))
          have n0_ := Aside0.mk (Kd.V_elder' (by (with_reducible repeat (first | apply Kd.V_alloc | apply Kd.V_drewN | apply Kd.V_drew)); exact HO0.out) (Kd.N_base ho12) hb)
          have n1_ := Aside0.mk (Kd.V_elder' (by (with_reducible repeat (first | apply Kd.V_alloc | apply Kd.V_drewN | apply Kd.V_drew)); exact HO1_2.out) (Kd.N_base ho12) hb)
          have n2_ := Aside0.mk (KL.R_below (by (with_reducible repeat (first | apply KL.R_alloc | apply KL.R_drewN | apply KL.R_drew)); exact HO354.out) hb)
          have n3_ := Aside0.mk (Kd.N_lower ho12 (below_size (by repeat (first | (with_reducible first | exact HB.out | apply below_alloc | apply pw_below_drewN | apply below_drew1 | refine below_set ?_ GE351.out) | exact HB.out))))
          have n4_ := Aside0.mk (blk_below (g := gb351) (o := .cells #[.int .i64 a1_0, .int .i64 a1_1, .slice A1_2 l1_2.length c1_2] 43 (0, 0)) (by (with_reducible repeat (first | refine blk_drewN ?_ _ | refine blk_drew ?_ | refine blk_alloc ?_ _)); exact BK351.out) hb)
          have n5_ := Aside0.mk (below_step (by repeat (first | (with_reducible first | exact HB.out | apply below_alloc | apply pw_below_drewN | apply below_drew1 | refine below_set ?_ GE351.out) | exact HB.out)) hb)
          clear HO0
          clear HO1_2
          clear HO354
          clear BK351
          clear HB
          have HO0 := n0_
          have HO1_2 := n1_
          have HO354 := n2_
          have HO364 := n3_
          have BK351 := n4_
          have HB := n5_
          clear n0_ n1_ n2_ n3_ n4_ n5_
          clear hb ho12
          refine hK.out _ _ ⟨(blk_cell BK351.out 0).trans rfl, (blk_cell BK351.out 1).trans rfl, (blk_cell BK351.out 2).trans rfl⟩ (fun hHeld => ?_)
          clear hK K
          refine norm_ (a' := ?_) ?_ ?_
          rotate_left
          · show Act.put _ (some 22) _ = _
            simp only [Act.put, List.setIfInBounds_toArray, List.set_cons_zero, List.set_cons_succ, i64_w, i32_w]
            rfl
          refine one_ (i := 0) (N := some 18) #[true, true, false, true, true, false, false, false, false, false, false, false, false] rfl rfl (one_of HT_.out (by kernel_rfl)) (by decide) (fun K hK => ?_)
          refine Kd.N_lit_step k43 _ 43 ?hg (N' := 18) ?hd (xs := ([] : List (S43))) (inner := []) (ok := (fun k_ => ((P0_ k_ ∨ P1_2_ k_) ∨ w.heap.size ≤ k_) ∧ some k_ ≠ (v353 : Value).ownBlock ∧ some k_ ≠ (v363 : Value).ownBlock ∧ k_ ≠ gb351)) (okp := (fun k_ => ((P0_ k_ ∨ P1_2_ k_) ∨ w.heap.size ≤ k_) ∧ some k_ ≠ (v353 : Value).ownBlock ∧ some k_ ≠ (v363 : Value).ownBlock ∧ k_ ≠ gb351)) ?hr ?hp (fun _ hk => hk) ((show ∀ k_, w11.heap.size ≤ k_ → (fun k_ => ((P0_ k_ ∨ P1_2_ k_) ∨ w.heap.size ≤ k_) ∧ some k_ ≠ (v353 : Value).ownBlock ∧ some k_ ≠ (v363 : Value).ownBlock ∧ k_ ≠ gb351) k_ from fun k_ hk => ⟨(.inr (Nat.le_trans (below_size (by repeat (first | (with_reducible first | exact HB.out | apply below_alloc | apply pw_below_drewN | apply below_drew1 | refine below_set ?_ GE351.out) | exact HB.out))) hk)), Kd.fresh' (KL.R_lt (by (with_reducible repeat (first | apply KL.R_alloc | apply KL.R_drewN | apply KL.R_drew)); exact HO354.out)) k_ hk, Kd.fresh' (Kd.N_lt (by (with_reducible repeat (first | apply Kd.N_alloc | apply Kd.N_drewN | apply Kd.N_drew)); exact HO364.out)) k_ hk, Kd.freshB (g := gb351) (o := .cells #[.int .i64 a1_0, .int .i64 a1_1, .slice A1_2 l1_2.length c1_2] 43 (0, 0)) (by (with_reducible repeat (first | refine blk_drewN ?_ _ | refine blk_drew ?_ | refine blk_alloc ?_ _)); exact BK351.out) k_ hk⟩) _ (Nat.le_refl _)) (Below.refl _ _) (Nat.le_refl _) (by simp) ?_; (case hd => rfl); (case hg => rfl); (case hr => first | (go_simp; done) | (go_simp; rfl)); (case hp => exact (Reps.none _ _))
          intro v357 w13 ho14 hb hg_ hnew_
          clear hg_ hnew_
          (first | rw [← Ny356.out] at ho14 | (simp only [Int.reduceToNat] at ho14; rw [← Ny356.out] at ho14))
          have n0_ := Aside0.mk (Kd.V_elder' (by (with_reducible repeat (first | apply Kd.V_alloc | apply Kd.V_drewN | apply Kd.V_drew)); exact HO0.out) (Kd.N_base ho14) hb)
          have n1_ := Aside0.mk (Kd.V_elder' (by (with_reducible repeat (first | apply Kd.V_alloc | apply Kd.V_drewN | apply Kd.V_drew)); exact HO1_2.out) (Kd.N_base ho14) hb)
          have n2_ := Aside0.mk (KL.R_below (by (with_reducible repeat (first | apply KL.R_alloc | apply KL.R_drewN | apply KL.R_drew)); exact HO354.out) hb)
          have n3_ := Aside0.mk (Kd.N_elder' (by (with_reducible repeat (first | apply Kd.N_alloc | apply Kd.N_drewN | apply Kd.N_drew)); exact HO364.out) (Kd.N_base ho14) hb)
          have n4_ := Aside0.mk (Kd.N_lower ho14 (below_size (by repeat (first | (with_reducible first | exact HB.out | apply below_alloc | apply pw_below_drewN | apply below_drew1 | refine below_set ?_ GE351.out) | exact HB.out))))
          have n5_ := Aside0.mk (blk_below (g := gb351) (o := .cells #[.int .i64 a1_0, .int .i64 a1_1, .slice A1_2 l1_2.length c1_2] 43 (0, 0)) (by (with_reducible repeat (first | refine blk_drewN ?_ _ | refine blk_drew ?_ | refine blk_alloc ?_ _)); exact BK351.out) hb)
          have n6_ := Aside0.mk (below_step (by repeat (first | (with_reducible first | exact HB.out | apply below_alloc | apply pw_below_drewN | apply below_drew1 | refine below_set ?_ GE351.out) | exact HB.out)) hb)
          clear HO0
          clear HO1_2
          clear HO354
          clear HO364
          clear BK351
          clear HB
          have HO0 := n0_
          have HO1_2 := n1_
          have HO354 := n2_
          have HO364 := n3_
          have HO358 := n4_
          have BK351 := n5_
          have HB := n6_
          clear n0_ n1_ n2_ n3_ n4_ n5_ n6_
          clear hb ho14
          refine hK.out _ _ ⟨(blk_cell BK351.out 0).trans rfl, (blk_cell BK351.out 1).trans rfl, (blk_cell BK351.out 2).trans rfl⟩ (fun hHeld => ?_)
          clear hK K
          refine norm_ (a' := ?_) ?_ ?_
          rotate_left
          · show Act.put _ (some 18) _ = _
            simp only [Act.put, List.setIfInBounds_toArray, List.set_cons_zero, List.set_cons_succ, i64_w, i32_w]
            rfl
          refine one_ (i := 2) (N := some 20) #[true, true, true, true, true, false, false, false, false, false, false, false, false] rfl rfl (one_of HT_.out (by kernel_rfl)) (by decide) (fun K hK => ?_)
          refine Kd.N_append_rows_step k43 (w0 := w) w.heap.size (by rfl) (.tmp 18) (.tmp 19) 22 43 (.agg #[(.int .i64 0), (.int .i64 0), (.slice none 0 0)]) 40 rfl Try.underlying22 info43 rfl (by decide) (by omega) v357 y356 l0 _ _ _ (fun k_ => ((P0_ k_ ∨ P1_2_ k_) ∨ w.heap.size ≤ k_) ∧ some k_ ≠ (v353 : Value).ownBlock ∧ some k_ ≠ (v363 : Value).ownBlock ∧ k_ ≠ gb351) (fun k_ => ((fun k_ => ((P0_ k_ ∨ P1_2_ k_) ∨ w.heap.size ≤ k_) ∧ some k_ ≠ (v353 : Value).ownBlock ∧ some k_ ≠ (v363 : Value).ownBlock ∧ k_ ≠ gb351)) k_ ∧ some k_ ≠ (v357 : Value).ownBlock) rfl rfl ?aO ?aR (fun _ hk => hk) ?aF ?aB ?aS ?aL ?_
          (case aR => exact (by skip; exact Kd.V_F (Kd.V_mono (ok' := (fun k_ => ((fun k_ => ((P0_ k_ ∨ P1_2_ k_) ∨ w.heap.size ≤ k_) ∧ some k_ ≠ (v353 : Value).ownBlock ∧ some k_ ≠ (v363 : Value).ownBlock ∧ k_ ≠ gb351)) k_ ∧ some k_ ≠ (v357 : Value).ownBlock)) (HO0.out) (fun k_ hk => ⟨⟨hk.1.1.1.1, ⟨hk.1.1.2, ⟨hk.1.2, hk.1.1.1.2⟩⟩⟩, hk.2⟩))))
          (case aB => exact (by repeat (first | (with_reducible first | exact HB.out | apply below_alloc | apply pw_below_drewN | apply below_drew1 | refine below_set ?_ GE351.out) | exact HB.out)))
          (case aF => exact (fun k_ hk => ⟨(.inr (Nat.le_trans (below_size (by repeat (first | (with_reducible first | exact HB.out | apply below_alloc | apply pw_below_drewN | apply below_drew1 | refine below_set ?_ GE351.out) | exact HB.out))) hk)), Kd.fresh' (KL.R_lt (by (with_reducible repeat (first | apply KL.R_alloc | apply KL.R_drewN | apply KL.R_drew)); exact HO354.out)) k_ hk, Kd.fresh' (Kd.N_lt (by (with_reducible repeat (first | apply Kd.N_alloc | apply Kd.N_drewN | apply Kd.N_drew)); exact HO364.out)) k_ hk, Kd.freshB (g := gb351) (o := .cells #[.int .i64 a1_0, .int .i64 a1_1, .slice A1_2 l1_2.length c1_2] 43 (0, 0)) (by (with_reducible repeat (first | refine blk_drewN ?_ _ | refine blk_drew ?_ | refine blk_alloc ?_ _)); exact BK351.out) k_ hk⟩))
          (case aO => exact (by (with_reducible repeat (first | apply Kd.N_alloc | apply Kd.N_drewN | apply Kd.N_drew)); exact HO358.out))
          (case aS => exact (below_size (by repeat (first | (with_reducible first | exact HB.out | apply below_alloc | apply pw_below_drewN | apply below_drew1 | refine below_set ?_ GE351.out) | exact HB.out))))
          (case aL => have := LMc4.out; omega)
          intro v360 w15 ho hb hg hat
          rw [← Ny359.out] at ho
          have n0_ := Aside0.mk (Kd.V_afterv (ok := (fun k_ => ((P0_ k_ ∨ P1_2_ k_) ∨ w.heap.size ≤ k_) ∧ some k_ ≠ (v353 : Value).ownBlock ∧ some k_ ≠ (v363 : Value).ownBlock ∧ k_ ≠ gb351)) (by (with_reducible repeat (first | apply Kd.V_alloc | apply Kd.V_drewN | apply Kd.V_drew)); exact Kd.V_mono HO0.out (fun _ hk => ⟨⟨hk.1.1.1.1, ⟨hk.1.1.2, ⟨hk.1.2, hk.1.1.1.2⟩⟩⟩, hk.2⟩)) hg hat)
          have n1_ := Aside0.mk (Kd.V_afterv (ok := (fun k_ => ((P0_ k_ ∨ P1_2_ k_) ∨ w.heap.size ≤ k_) ∧ some k_ ≠ (v353 : Value).ownBlock ∧ some k_ ≠ (v363 : Value).ownBlock ∧ k_ ≠ gb351)) (by (with_reducible repeat (first | apply Kd.V_alloc | apply Kd.V_drewN | apply Kd.V_drew)); exact Kd.V_mono HO1_2.out (fun _ hk => ⟨⟨hk.1.1.1.1, ⟨hk.1.1.2, ⟨hk.1.2, hk.1.1.1.2⟩⟩⟩, hk.2⟩)) hg hat)
          have n2_ := Aside0.mk (blk_grown (g := gb351) (o := .cells #[.int .i64 a1_0, .int .i64 a1_1, .slice A1_2 l1_2.length c1_2] 43 (0, 0)) (by (with_reducible repeat (first | refine blk_drewN ?_ _ | refine blk_drew ?_ | refine blk_alloc ?_ _)); exact BK351.out) hg (Kd.N_away HO358.out (fun _ hk => hk.2.2.2)))
          have n3_ := Aside0.mk (KL.R_over' (by (with_reducible repeat (first | apply KL.R_alloc | apply KL.R_drewN | apply KL.R_drew)); exact HO354.out) (Kd.N_typed (by (with_reducible repeat (first | apply Kd.N_alloc | apply Kd.N_drewN | apply Kd.N_drew)); exact HO358.out)) (by decide) hg)
          have n4_ := Aside0.mk (Kd.N_afterv (ok := (fun k_ => ((P0_ k_ ∨ P1_2_ k_) ∨ w.heap.size ≤ k_) ∧ some k_ ≠ (v353 : Value).ownBlock ∧ k_ ≠ gb351)) (by (with_reducible repeat (first | apply Kd.N_alloc | apply Kd.N_drewN | apply Kd.N_drew)); exact HO364.out) hg hat)
          have n5_ := Aside0.mk (hb)
          have n6_ := Aside0.mk (ho)
          clear HO0
          clear HO1_2
          clear BK351
          clear HO354
          clear HO364
          clear HB
          clear HO358
          have HO0 := n0_
          have HO1_2 := n1_
          have BK351 := n2_
          have HO354 := n3_
          have HO364 := n4_
          have HB := n5_
          have HO361 := n6_
          clear n0_ n1_ n2_ n3_ n4_ n5_ n6_
          clear ho hb hg hat
          refine hK.out _ _ ⟨(blk_cell BK351.out 0).trans rfl, (blk_cell BK351.out 1).trans rfl, (blk_cell BK351.out 2).trans rfl⟩ (fun hHeld => ?_)
          clear hK K
          refine norm_ (a' := ?_) ?_ ?_
          rotate_left
          · show Act.put _ (some 20) _ = _
            simp only [Act.put, List.setIfInBounds_toArray, List.set_cons_zero, List.set_cons_succ, i64_w, i32_w]
            rfl
          exact norm_ (by simp only [putAll, Act.put, List.setIfInBounds_toArray, List.set_cons_zero, List.set_cons_succ]) (hCont (v357, v360, v363) _ ⟨hHeld, (by (with_reducible repeat (first | apply Kd.V_alloc | apply Kd.V_drewN | apply Kd.V_drew)); exact Kd.V_mono HO0.out (fun _ hk => ⟨hk.1.1, ⟨hk.1.2.1, ⟨hk.2, ⟨hk.1.2.2.1, hk.1.2.2.2⟩⟩⟩⟩)), (by (with_reducible repeat (first | apply Kd.V_alloc | apply Kd.V_drewN | apply Kd.V_drew)); exact Kd.V_mono HO1_2.out (fun _ hk => ⟨hk.1.1, ⟨hk.1.2.1, ⟨hk.2, ⟨hk.1.2.2.1, hk.1.2.2.2⟩⟩⟩⟩)), (by (with_reducible repeat (first | apply KL.R_alloc | apply KL.R_drewN | apply KL.R_drew)); exact KL.R_mono HO354.out (fun _ hk => hk.1)), (by (with_reducible repeat (first | apply Kd.N_alloc | apply Kd.N_drewN | apply Kd.N_drew)); exact HO361.out), (by (with_reducible repeat (first | apply Kd.N_alloc | apply Kd.N_drewN | apply Kd.N_drew)); exact Kd.N_mono HO364.out (fun _ hk => ⟨hk.1.1, ⟨hk.1.2.1, ⟨hk.2, hk.1.2.2⟩⟩⟩)), (by (with_reducible repeat (first | refine blk_drewN ?_ _ | refine blk_drew ?_ | refine blk_alloc ?_ _)); exact BK351.out), (by repeat (first | (with_reducible first | exact HB.out | apply below_alloc | apply pw_below_drewN | apply below_drew1 | refine below_set ?_ GE351.out) | exact HB.out))⟩)
      rintro ⟨v357, v360, v363⟩ w16 ⟨hS_, h0_, h1_, h2_, h3_, h4_, h5_, h6_⟩
      have n0_ : Aside0 (Kd.V k43 43 w16 w.heap.size (fun k_ => ((P0_ k_ ∨ P1_2_ k_) ∨ w.heap.size ≤ k_) ∧ some k_ ≠ (v353 : Value).ownBlock ∧ some k_ ≠ (v360 : Value).ownBlock ∧ some k_ ≠ (v363 : Value).ownBlock ∧ k_ ≠ gb351) (.slice A0 l0.length c0) l0) := ⟨h0_⟩
      have n1_ : Aside0 (Kd.V (Kd.int .u8) 5 w16 w.heap.size (fun k_ => ((P0_ k_ ∨ P1_2_ k_) ∨ w.heap.size ≤ k_) ∧ some k_ ≠ (v353 : Value).ownBlock ∧ some k_ ≠ (v360 : Value).ownBlock ∧ some k_ ≠ (v363 : Value).ownBlock ∧ k_ ≠ gb351) (.slice A1_2 l1_2.length c1_2) l1_2) := ⟨h1_⟩
      have n2_ : Aside0 (KL.R w16 w.heap.size (fun k_ => (w.heap.size ≤ k_)) v353 t352) := ⟨h2_⟩
      have n3_ : Aside0 (Kd.N k43 43 w16 w.heap.size (fun k_ => ((P0_ k_ ∨ P1_2_ k_) ∨ w.heap.size ≤ k_) ∧ some k_ ≠ (v353 : Value).ownBlock ∧ some k_ ≠ (v363 : Value).ownBlock ∧ k_ ≠ gb351) v360 y359) := ⟨h3_⟩
      have n4_ : Aside0 (Kd.N k43 43 w16 w.heap.size (fun k_ => ((P0_ k_ ∨ P1_2_ k_) ∨ w.heap.size ≤ k_) ∧ some k_ ≠ (v353 : Value).ownBlock ∧ some k_ ≠ (v360 : Value).ownBlock ∧ k_ ≠ gb351) v363 y362) := ⟨h4_⟩
      have n5_ : Aside0 (w16.heap[gb351]? = some (.cells #[.int .i64 a1_0, .int .i64 a1_1, .slice A1_2 l1_2.length c1_2] 43 (0, 0))) := ⟨h5_⟩
      have n6_ : Aside0 (Below w.heap.size w w16) := ⟨h6_⟩
      clear HO0
      clear HO1_2
      clear HO354
      clear BK351
      clear HB
      clear h0_ h1_ h2_ h3_ h4_ h5_ h6_
      have HO0 := n0_
      have HO1_2 := n1_
      have HO354 := n2_
      have HO361 := n3_
      have HO364 := n4_
      have BK351 := n5_
      have HB := n6_
      clear n0_ n1_ n2_ n3_ n4_ n5_ n6_
      have hHeld : w16.cell? ⟨gb351, 0, none⟩ = some (.int .i64 a1_0) ∧ w16.cell? ⟨gb351, 1, none⟩ = some (.int .i64 a1_1) ∧ w16.cell? ⟨gb351, 2, none⟩ = some (.slice A1_2 l1_2.length c1_2) := hS_
      obtain ⟨Ao18, co18, eo18⟩ := Kd.N_slice HO364.out
      (first | subst eo18 | (injection eo18 with f1_ f2_ f3_; have f4_ := f1_.symm; have f5_ := f3_.symm; clear f1_ f2_ f3_; subst f4_; subst f5_))
      refine norm_ (a' := ?_) ?_ ?_
      rotate_left
      · simp only [putAll, Act.put, List.setIfInBounds_toArray, List.set_cons_zero, List.set_cons_succ]
        rfl
      refine one_ (i := 5) (N := some 23) #[true, true, true, true, true, true, false, false, false, false, false, false, false] rfl rfl (one_of HT_.out (by kernel_rfl)) (by decide) (fun K hK => ?_)
      refine Kd.N_append_rows_step k43 (w0 := w) w.heap.size (by rfl) (.tmp 20) (.tmp 22) 22 43 (.agg #[(.int .i64 0), (.int .i64 0), (.slice none 0 0)]) 40 rfl Try.underlying22 info43 rfl (by decide) (by omega) v360 y359 y362 _ _ _ (fun k_ => ((P0_ k_ ∨ P1_2_ k_) ∨ w.heap.size ≤ k_) ∧ some k_ ≠ (v353 : Value).ownBlock ∧ k_ ≠ gb351) (fun k_ => ((fun k_ => ((P0_ k_ ∨ P1_2_ k_) ∨ w.heap.size ≤ k_) ∧ some k_ ≠ (v353 : Value).ownBlock ∧ k_ ≠ gb351)) k_ ∧ some k_ ≠ (v360 : Value).ownBlock) rfl rfl ?aO ?aR (fun _ hk => hk) ?aF ?aB ?aS ?aL ?_
      (case aR => exact (by skip; exact Kd.N_F (Kd.N_mono (ok' := (fun k_ => ((fun k_ => ((P0_ k_ ∨ P1_2_ k_) ∨ w.heap.size ≤ k_) ∧ some k_ ≠ (v353 : Value).ownBlock ∧ k_ ≠ gb351)) k_ ∧ some k_ ≠ (v360 : Value).ownBlock)) (HO364.out) (fun k_ hk => ⟨⟨hk.1, ⟨hk.2.1, hk.2.2.2⟩⟩, hk.2.2.1⟩))))
      (case aB => exact (by repeat (first | (with_reducible first | exact HB.out | apply below_alloc | apply pw_below_drewN | apply below_drew1 | refine below_set ?_ GE351.out) | exact HB.out)))
      (case aF => exact (fun k_ hk => ⟨(.inr (Nat.le_trans (below_size (by repeat (first | (with_reducible first | exact HB.out | apply below_alloc | apply pw_below_drewN | apply below_drew1 | refine below_set ?_ GE351.out) | exact HB.out))) hk)), Kd.fresh' (KL.R_lt (by (with_reducible repeat (first | apply KL.R_alloc | apply KL.R_drewN | apply KL.R_drew)); exact HO354.out)) k_ hk, Kd.freshB (g := gb351) (o := .cells #[.int .i64 a1_0, .int .i64 a1_1, .slice A1_2 l1_2.length c1_2] 43 (0, 0)) (by (with_reducible repeat (first | refine blk_drewN ?_ _ | refine blk_drew ?_ | refine blk_alloc ?_ _)); exact BK351.out) k_ hk⟩))
      (case aO => exact (by (with_reducible repeat (first | apply Kd.N_alloc | apply Kd.N_drewN | apply Kd.N_drew)); exact Kd.N_mono HO361.out (fun _ hk => ⟨hk.1, ⟨hk.2.1, hk.2.2.2⟩⟩)))
      (case aS => exact (below_size (by repeat (first | (with_reducible first | exact HB.out | apply below_alloc | apply pw_below_drewN | apply below_drew1 | refine below_set ?_ GE351.out) | exact HB.out))))
      (case aL => have := LMc5.out; omega)
      intro v366 w17 ho hb hg hat
      rw [← Ny365.out] at ho
      have n0_ := Aside0.mk (Kd.V_afterv (ok := (fun k_ => ((P0_ k_ ∨ P1_2_ k_) ∨ w.heap.size ≤ k_) ∧ some k_ ≠ (v353 : Value).ownBlock ∧ some k_ ≠ (.slice Ao18 y362.length co18 : Value).ownBlock ∧ k_ ≠ gb351)) (by (with_reducible repeat (first | apply Kd.V_alloc | apply Kd.V_drewN | apply Kd.V_drew)); exact Kd.V_mono HO0.out (fun _ hk => ⟨⟨hk.1, ⟨hk.2.1, ⟨hk.2.2.2.1, hk.2.2.2.2⟩⟩⟩, hk.2.2.1⟩)) hg hat)
      have n1_ := Aside0.mk (Kd.V_afterv (ok := (fun k_ => ((P0_ k_ ∨ P1_2_ k_) ∨ w.heap.size ≤ k_) ∧ some k_ ≠ (v353 : Value).ownBlock ∧ some k_ ≠ (.slice Ao18 y362.length co18 : Value).ownBlock ∧ k_ ≠ gb351)) (by (with_reducible repeat (first | apply Kd.V_alloc | apply Kd.V_drewN | apply Kd.V_drew)); exact Kd.V_mono HO1_2.out (fun _ hk => ⟨⟨hk.1, ⟨hk.2.1, ⟨hk.2.2.2.1, hk.2.2.2.2⟩⟩⟩, hk.2.2.1⟩)) hg hat)
      have n2_ := Aside0.mk (blk_grown (g := gb351) (o := .cells #[.int .i64 a1_0, .int .i64 a1_1, .slice A1_2 l1_2.length c1_2] 43 (0, 0)) (by (with_reducible repeat (first | refine blk_drewN ?_ _ | refine blk_drew ?_ | refine blk_alloc ?_ _)); exact BK351.out) hg (Kd.N_away HO361.out (fun _ hk => hk.2.2.2)))
      have n3_ := Aside0.mk (KL.R_over' (by (with_reducible repeat (first | apply KL.R_alloc | apply KL.R_drewN | apply KL.R_drew)); exact HO354.out) (Kd.N_typed (by (with_reducible repeat (first | apply Kd.N_alloc | apply Kd.N_drewN | apply Kd.N_drew)); exact HO361.out)) (by decide) hg)
      have n4_ := Aside0.mk (Kd.N_afterv (ok := (fun k_ => ((P0_ k_ ∨ P1_2_ k_) ∨ w.heap.size ≤ k_) ∧ some k_ ≠ (v353 : Value).ownBlock ∧ k_ ≠ gb351)) (by (with_reducible repeat (first | apply Kd.N_alloc | apply Kd.N_drewN | apply Kd.N_drew)); exact Kd.N_mono HO364.out (fun _ hk => ⟨⟨hk.1, ⟨hk.2.1, hk.2.2.2⟩⟩, hk.2.2.1⟩)) hg hat)
      have n5_ := Aside0.mk (hb)
      have n6_ := Aside0.mk (ho)
      clear HO0
      clear HO1_2
      clear BK351
      clear HO354
      clear HO364
      clear HB
      clear HO361
      have HO0 := n0_
      have HO1_2 := n1_
      have BK351 := n2_
      have HO354 := n3_
      have HO364 := n4_
      have HB := n5_
      have HO367 := n6_
      clear n0_ n1_ n2_ n3_ n4_ n5_ n6_
      clear ho hb hg hat
      obtain ⟨Ao19, co19, eo19⟩ := Kd.N_slice HO367.out
      (first | subst eo19 | (injection eo19 with f1_ f2_ f3_; have f4_ := f1_.symm; have f5_ := f3_.symm; clear f1_ f2_ f3_; subst f4_; subst f5_))
      refine hK.out _ _ ⟨(blk_cell BK351.out 0).trans rfl, (blk_cell BK351.out 1).trans rfl, (blk_cell BK351.out 2).trans rfl⟩ (fun hHeld => ?_)
      clear hK K
      refine norm_ (a' := ?_) ?_ ?_
      rotate_left
      · show Act.put _ (some 23) _ = _
        simp only [Act.put, List.setIfInBounds_toArray, List.set_cons_zero, List.set_cons_succ, i64_w, i32_w]
        rfl
      refine pure_ (i := 6) (N := some 24) (v := ?_) (a' := ?_) #[true, true, true, true, true, true, true, false, false, false, false, false, false] rfl rfl (any_of HT_.out (by kernel_rfl)) (fun _ _ _ h => h) (Or.inl ⟨by rfl, ?_⟩) ?_ ?_
      rotate_left
      · intro w'
        go_simp
        with_reducible rfl
      rotate_left
      · simp only [Act.put, List.setIfInBounds_toArray, List.set_cons_zero, List.set_cons_succ, i64_w, i32_w]
        rfl
      refine one_ (i := 7) (N := some 25) #[true, true, true, true, true, true, true, true, false, false, false, false, false] rfl rfl (one_of HT_.out (by kernel_rfl)) (by decide) (fun K hK => ?_)
      refine goes_ Try.func10 (by kernel_rfl) rfl #[.agg #[.slice Ao19 y365.length co19, .bool false]] (by rfl) rfl rfl (by (try simp only [List.map_toArray, List.map_cons, List.map_nil]); first | done | rfl | (simp only [List.length_drop, List.length_take]; rfl)) ?_
      with_reducible refine (trans_Encode.calls k _ _ y365 false t368 t371 _ ?side1 ?side2 A6.out).mono ?_
      (case side1 => repeat (first | exact (Kd.N_reads' HO367.out).2.2 | (with_reducible refine Kd.C_alloc ?_ _) | (with_reducible refine Kd.C_drewN ?_ _) | (with_reducible refine Kd.C_drew ?_)))
      (case side2 => exact (Kd.N_reads' HO367.out).2.1)
      rintro e w20 ⟨v369, rfl, ho0, hb⟩
      refine ⟨_, rfl, ?_⟩
      have n0_ := Aside0.mk (Kd.V_elder' (by (with_reducible repeat (first | apply Kd.V_alloc | apply Kd.V_drewN | apply Kd.V_drew)); exact HO0.out) (KL.R_base ho0) hb)
      have n1_ := Aside0.mk (Kd.V_elder' (by (with_reducible repeat (first | apply Kd.V_alloc | apply Kd.V_drewN | apply Kd.V_drew)); exact HO1_2.out) (KL.R_base ho0) hb)
      have n2_ := Aside0.mk (KL.R_elder' (by (with_reducible repeat (first | apply KL.R_alloc | apply KL.R_drewN | apply KL.R_drew)); exact HO354.out) (KL.R_base ho0) hb)
      have n3_ := Aside0.mk (Kd.N_elder' (by (with_reducible repeat (first | apply Kd.N_alloc | apply Kd.N_drewN | apply Kd.N_drew)); exact HO364.out) (KL.R_base ho0) hb)
      have n4_ := Aside0.mk (Kd.N_elder' (by (with_reducible repeat (first | apply Kd.N_alloc | apply Kd.N_drewN | apply Kd.N_drew)); exact HO367.out) (KL.R_base ho0) hb)
      have n5_ := Aside0.mk (KL.R_lower (KL.R_new' (KL.R_newM (M := fun k_ => (w.heap.size ≤ k_)) ho0 (below_size (by repeat (first | (with_reducible first | exact HB.out | apply below_alloc | apply pw_below_drewN | apply below_drew1 | refine below_set ?_ GE351.out) | exact HB.out))) (fun k_ h_ => h_)) (KL.R_lt (by (with_reducible repeat (first | apply KL.R_alloc | apply KL.R_drewN | apply KL.R_drew)); exact HO354.out))) (below_size (by repeat (first | (with_reducible first | exact HB.out | apply below_alloc | apply pw_below_drewN | apply below_drew1 | refine below_set ?_ GE351.out) | exact HB.out))))
      have n6_ := Aside0.mk (blk_below (g := gb351) (o := .cells #[.int .i64 a1_0, .int .i64 a1_1, .slice A1_2 l1_2.length c1_2] 43 (0, 0)) (by (with_reducible repeat (first | refine blk_drewN ?_ _ | refine blk_drew ?_ | refine blk_alloc ?_ _)); exact BK351.out) hb)
      have n7_ := Aside0.mk (below_step (by repeat (first | (with_reducible first | exact HB.out | apply below_alloc | apply pw_below_drewN | apply below_drew1 | refine below_set ?_ GE351.out) | exact HB.out)) hb)
      clear HO0
      clear HO1_2
      clear HO354
      clear HO364
      clear HO367
      clear BK351
      clear HB
      have HO0 := n0_
      have HO1_2 := n1_
      have HO354 := n2_
      have HO364 := n3_
      have HO367 := n4_
      have HO370 := n5_
      have BK351 := n6_
      have HB := n7_
      clear n0_ n1_ n2_ n3_ n4_ n5_ n6_ n7_
      (try clear hb)
      (try clear hb2)
      (try clear hk)
      (try clear hi)
      (try clear ho0)
      refine hK.out _ _ ⟨(blk_cell BK351.out 0).trans rfl, (blk_cell BK351.out 1).trans rfl, (blk_cell BK351.out 2).trans rfl⟩ (fun hHeld => ?_)
      clear hK K
      refine norm_ (a' := ?_) ?_ ?_
      rotate_left
      · show Act.put _ (some 25) _ = _
        simp only [Act.put, List.setIfInBounds_toArray, List.set_cons_zero, List.set_cons_succ, i64_w, i32_w]
        rfl
      refine pure_ (i := 8) (N := some 17) (v := ?_) (a' := ?_) #[true, true, true, true, true, true, true, true, true, false, false, false, false] rfl rfl (any_of HT_.out (by kernel_rfl)) (fun _ _ _ h => h) (Or.inl ⟨by rfl, ?_⟩) ?_ ?_
      rotate_left
      · intro w'
        go_simp
        with_reducible rfl
      rotate_left
      · simp only [Act.put, List.setIfInBounds_toArray, List.set_cons_zero, List.set_cons_succ, i64_w, i32_w]
        rfl
      refine pure_ (i := 9) (N := some 26) (v := ?_) (a' := ?_) #[true, true, true, true, true, true, true, true, true, true, false, false, false] rfl rfl (any_of HT_.out (by kernel_rfl)) (fun _ _ _ h => h) (Or.inl ⟨by rfl, ?_⟩) ?_ ?_
      rotate_left
      · intro w'
        go_simp
        with_reducible rfl
      rotate_left
      · simp only [Act.put, List.setIfInBounds_toArray, List.set_cons_zero, List.set_cons_succ, i64_w, i32_w]
        rfl
      refine pure_ (i := 10) (N := some 27) (v := ?_) (a' := ?_) #[true, true, true, true, true, true, true, true, true, true, true, false, false] rfl rfl (any_of HT_.out (by kernel_rfl)) (fun _ _ _ h => h) (Or.inl ⟨by rfl, ?_⟩) ?_ ?_
      rotate_left
      · intro w'
        go_simp
        with_reducible rfl
      rotate_left
      · simp only [Act.put, List.setIfInBounds_toArray, List.set_cons_zero, List.set_cons_succ, i64_w, i32_w]
        rfl
      refine pure_ (i := 11) (N := some 7) (v := ?_) (a' := ?_) #[true, true, true, true, true, true, true, true, true, true, true, true, false] rfl rfl (any_of HT_.out (by kernel_rfl)) (fun _ _ _ h => h) (Or.inl ⟨by rfl, ?_⟩) ?_ ?_
      rotate_left
      · intro w'
        go_simp
        with_reducible rfl
      rotate_left
      · simp only [Act.put, List.setIfInBounds_toArray, List.set_cons_zero, List.set_cons_succ, i64_w, i32_w]
        rfl
      refine pure_ (i := 12) (N := some 8) (v := ?_) (a' := ?_) #[true, true, true, true, true, true, true, true, true, true, true, true, true] rfl rfl (any_of HT_.out (by kernel_rfl)) (fun _ _ _ h => h) (Or.inl ⟨by rfl, ?_⟩) ?_ ?_
      rotate_left
      · intro w'
        go_simp
        with_reducible rfl
      rotate_left
      · simp only [Act.put, List.setIfInBounds_toArray, List.set_cons_zero, List.set_cons_succ, i64_w, i32_w]
        rfl
      refine done_ (done_of HT_.out (by kernel_rfl)) ?_
      go_upto_region 3 with (fail)
      go_cut [33] (fun v33 wc => ∃ (kq : Nat) (x33_6 : Bool), v33 = .bool x33_6 ∧ Aside0 (cuecardlaw05_TransJoins.j0 kq l0 t352 t355 t368 x33_6 = some r) ∧ Aside0 (kq ≤ k) ∧ Aside0 (Kd.V k43 43 wc w.heap.size (fun k_ => ((P0_ k_ ∨ P1_2_ k_) ∨ w.heap.size ≤ k_) ∧ some k_ ≠ (v353 : Value).ownBlock ∧ some k_ ≠ (v369 : Value).ownBlock ∧ k_ ≠ gb351) (.slice A0 l0.length c0) l0) ∧ Aside0 (KL.R wc w.heap.size (fun k_ => (w.heap.size ≤ k_) ∧ some k_ ≠ (v369 : Value).ownBlock) v353 t352) ∧ Aside0 (KL.R wc w.heap.size (fun k_ => (w.heap.size ≤ k_) ∧ some k_ ≠ (v353 : Value).ownBlock) v369 t368) ∧ Aside0 (Kd.V (Kd.int .u8) 5 wc w.heap.size (fun k_ => ((P0_ k_ ∨ P1_2_ k_) ∨ w.heap.size ≤ k_) ∧ some k_ ≠ (v353 : Value).ownBlock ∧ some k_ ≠ (v369 : Value).ownBlock ∧ k_ ≠ gb351) (.slice A1_2 l1_2.length c1_2) l1_2) ∧ Aside0 (wc.heap[gb351]? = some (.cells #[.int .i64 a1_0, .int .i64 a1_1, (.slice A1_2 l1_2.length c1_2)] 43 (0, 0))) ∧ Aside0 (Below w.heap.size w wc))
      case first =>
        have H := HC7.out
        clear HC7
        by_cases c21 : t355 = 0
        · rw [if_pos c21] at H
          have c21b0 : (t355 == 0) = true := beq_iff_eq.mpr c21
          have c21b1 : (t355 != 0) = false := bne_eq_false_iff_eq.mpr c21
          clear c21
          (first | rw [c21b0] | (simp only [i64_w, i32_w]; rw [c21b0]) | skip)
          have H' := Aside0.mk H
          clear H
          go_wp2
          go_meet
          case rel => exact ⟨_, ((t371 != 0)), (by first | rfl | (simp; done) | (simp [*]; done)), H', ⟨by first | omega | exact Nat.le_refl _⟩, ⟨by (with_reducible repeat (first | apply Kd.V_alloc | apply Kd.V_drewN | apply Kd.V_drew)); exact Kd.V_mono HO0.out (fun _ hk => ⟨hk.1.1.1, ⟨hk.1.1.2.1, ⟨hk.2, hk.1.1.2.2.2⟩⟩⟩)⟩, ⟨by (with_reducible repeat (first | apply KL.R_alloc | apply KL.R_drewN | apply KL.R_drew)); exact HO354.out⟩, ⟨by (with_reducible repeat (first | apply KL.R_alloc | apply KL.R_drewN | apply KL.R_drew)); exact KL.R_mono HO370.out (fun _ hk => ⟨hk.1.1, hk.2⟩)⟩, ⟨by (with_reducible repeat (first | apply Kd.V_alloc | apply Kd.V_drewN | apply Kd.V_drew)); exact Kd.V_mono HO1_2.out (fun _ hk => ⟨hk.1.1.1, ⟨hk.1.1.2.1, ⟨hk.2, hk.1.1.2.2.2⟩⟩⟩)⟩, ⟨by (with_reducible repeat (first | refine blk_drewN ?_ _ | refine blk_drew ?_ | refine blk_alloc ?_ _)); exact BK351.out⟩, ⟨by repeat (first | (with_reducible first | exact HB.out | apply below_alloc | apply pw_below_drewN | apply below_drew1 | refine below_set ?_ GE351.out) | exact HB.out)⟩⟩
        · rw [if_neg c21] at H
          have c21b0 : (t355 == 0) = false := beq_eq_false_iff_ne.mpr c21
          have c21b1 : (t355 != 0) = true := bne_iff_ne.mpr c21
          (first | rw [c21b0] | (simp only [i64_w, i32_w]; rw [c21b0]) | skip)
          have H' := Aside0.mk H
          clear H
          go_wp2
          go_meet
          case rel => exact ⟨_, (true), (by first | rfl | (simp; done) | (simp [*]; done)), H', ⟨by first | omega | exact Nat.le_refl _⟩, ⟨by (with_reducible repeat (first | apply Kd.V_alloc | apply Kd.V_drewN | apply Kd.V_drew)); exact Kd.V_mono HO0.out (fun _ hk => ⟨hk.1.1.1, ⟨hk.1.1.2.1, ⟨hk.2, hk.1.1.2.2.2⟩⟩⟩)⟩, ⟨by (with_reducible repeat (first | apply KL.R_alloc | apply KL.R_drewN | apply KL.R_drew)); exact HO354.out⟩, ⟨by (with_reducible repeat (first | apply KL.R_alloc | apply KL.R_drewN | apply KL.R_drew)); exact KL.R_mono HO370.out (fun _ hk => ⟨hk.1.1, hk.2⟩)⟩, ⟨by (with_reducible repeat (first | apply Kd.V_alloc | apply Kd.V_drewN | apply Kd.V_drew)); exact Kd.V_mono HO1_2.out (fun _ hk => ⟨hk.1.1.1, ⟨hk.1.1.2.1, ⟨hk.2, hk.1.1.2.2.2⟩⟩⟩)⟩, ⟨by (with_reducible repeat (first | refine blk_drewN ?_ _ | refine blk_drew ?_ | refine blk_alloc ?_ _)); exact BK351.out⟩, ⟨by repeat (first | (with_reducible first | exact HB.out | apply below_alloc | apply pw_below_drewN | apply below_drew1 | refine below_set ?_ GE351.out) | exact HB.out)⟩⟩
      case rest =>
        clear HC7
        try clear c1
        try clear c2
        try clear p2
        try clear c3
        try clear c4
        try clear c5
        try clear c9
        try clear c10
        try clear c21
        try clear c21b0
        try clear c21b1
        obtain ⟨kq, x33_6, rfl, HA, HJ6, HO_0, HO_5, HO_7, HO_352002, BK351, HB⟩ := hcut
        cases kq with
        | zero => exact absurd HA.out (by simp [cuecardlaw05_TransJoins.j0])
        | succ kj6 =>
          have H := HA.out
          clear HA
          simp only [cuecardlaw05_TransJoins.j0] at H
          by_cases c22 : x33_6 = true
          · subst c22
            have H1 : ((cuecardlaw05_alive.f kj6).bind fun t372 => (if t372 = true then ((cuecardref04_Check.f kj6 l0).bind fun t373 => (some ((t373 != 0) == (t355 != 0)))) else (some false))) = some r := by rw [if_pos rfl] at H; exact H
            clear H
            have H := H1
            clear H1
            replace H := Option.bind_eq_some_iff.mp H
            obtain ⟨t372, A230, H⟩ := H
            replace H : (if t372 = true then ((cuecardref04_Check.f kj6 l0).bind fun t373 => (some ((t373 != 0) == (t355 != 0)))) else (some false)) = some r := H
            have A23 := Aside0.mk A230
            clear A230
            by_cases c24 : t372 = true
            · subst c24
              have H1 : ((cuecardref04_Check.f kj6 l0).bind fun t373 => (some ((t373 != 0) == (t355 != 0)))) = some r := by rw [if_pos rfl] at H; exact H
              clear H
              have H := H1
              clear H1
              replace H := Option.bind_eq_some_iff.mp H
              obtain ⟨t373, A250, H⟩ := H
              replace H : (some ((t373 != 0) == (t355 != 0))) = some r := H
              have A25 := Aside0.mk A250
              clear A250
              obtain rfl := Option.some.inj H
              go_wp2_with (first | ((with_reducible refine gate_callee (f := 12) rfl ?_); refine goesL_ (some 34) rfl rfl Try.func12 (by kernel_rfl) rfl #[] rfl (by (try simp only [List.map_toArray, List.map_cons, List.map_nil]); first | done | rfl | (simp only [List.length_drop, List.length_take]; rfl)) ?_; (with_reducible refine (cuecardlaw05_alive.calls kj6  true _ A23.out).mono ?_); rintro e w26 ⟨rfl, hb⟩; refine ⟨_, rfl, ?_⟩; have n0_ := Aside0.mk (Kd.V_below (by (with_reducible repeat (first | apply Kd.V_alloc | apply Kd.V_drewN | apply Kd.V_drew)); exact HO_0.out) hb); have n1_ := Aside0.mk (KL.R_below (by (with_reducible repeat (first | apply KL.R_alloc | apply KL.R_drewN | apply KL.R_drew)); exact HO_5.out) hb); have n2_ := Aside0.mk (KL.R_below (by (with_reducible repeat (first | apply KL.R_alloc | apply KL.R_drewN | apply KL.R_drew)); exact HO_7.out) hb); have n3_ := Aside0.mk (Kd.V_below (by (with_reducible repeat (first | apply Kd.V_alloc | apply Kd.V_drewN | apply Kd.V_drew)); exact HO_352002.out) hb); have n4_ := Aside0.mk (blk_below (g := gb351) (o := .cells #[.int .i64 a1_0, .int .i64 a1_1, .slice A1_2 l1_2.length c1_2] 43 (0, 0)) (by (with_reducible repeat (first | refine blk_drewN ?_ _ | refine blk_drew ?_ | refine blk_alloc ?_ _)); exact BK351.out) hb); have n5_ := Aside0.mk (below_step (by repeat (first | (with_reducible first | exact HB.out | apply below_alloc | apply pw_below_drewN | apply below_drew1 | refine below_set ?_ GE351.out) | exact HB.out)) hb); clear HO_0; clear HO_5; clear HO_7; clear HO_352002; clear BK351; clear HB; have HO_0 := n0_; have HO_5 := n1_; have HO_7 := n2_; have HO_352002 := n3_; have BK351 := n4_; have HB := n5_; clear n0_ n1_ n2_ n3_ n4_ n5_; (try clear hb); (try clear hb2); (try clear hk); (try clear hi)) | (go_at_call 11; (with_reducible refine (cuecardref04_Check.calls kj6 _ _ l0 t373 _ ?side1 ?side2 A25.out).mono ?_); (case side1 => repeat (first | exact (Kd.V_reads' HO_0.out).2.2 | (with_reducible refine Kd.C_alloc ?_ _) | (with_reducible refine Kd.C_drewN ?_ _) | (with_reducible refine Kd.C_drew ?_))); (case side2 => exact (Kd.V_reads' HO_0.out).2.1); rintro e w27 ⟨rfl, hb⟩; have n0_ := Aside0.mk (Kd.V_below (by (with_reducible repeat (first | apply Kd.V_alloc | apply Kd.V_drewN | apply Kd.V_drew)); exact HO_0.out) hb); have n1_ := Aside0.mk (KL.R_below (by (with_reducible repeat (first | apply KL.R_alloc | apply KL.R_drewN | apply KL.R_drew)); exact HO_5.out) hb); have n2_ := Aside0.mk (KL.R_below (by (with_reducible repeat (first | apply KL.R_alloc | apply KL.R_drewN | apply KL.R_drew)); exact HO_7.out) hb); have n3_ := Aside0.mk (Kd.V_below (by (with_reducible repeat (first | apply Kd.V_alloc | apply Kd.V_drewN | apply Kd.V_drew)); exact HO_352002.out) hb); have n4_ := Aside0.mk (blk_below (g := gb351) (o := .cells #[.int .i64 a1_0, .int .i64 a1_1, .slice A1_2 l1_2.length c1_2] 43 (0, 0)) (by (with_reducible repeat (first | refine blk_drewN ?_ _ | refine blk_drew ?_ | refine blk_alloc ?_ _)); exact BK351.out) hb); have n5_ := Aside0.mk (below_step (by repeat (first | (with_reducible first | exact HB.out | apply below_alloc | apply pw_below_drewN | apply below_drew1 | refine below_set ?_ GE351.out) | exact HB.out)) hb); clear HO_0; clear HO_5; clear HO_7; clear HO_352002; clear BK351; clear HB; have HO_0 := n0_; have HO_5 := n1_; have HO_7 := n2_; have HO_352002 := n3_; have BK351 := n4_; have HB := n5_; clear n0_ n1_ n2_ n3_ n4_ n5_; (try clear hb); (try clear hb2); (try clear hk); (try clear hi)))
              go_ret
              exact ⟨by first | rfl | (simp [errW_none, errW_some] <;> rfl) | (simp [*, errW_none, errW_some] <;> rfl), by repeat (first | (with_reducible first | exact HB.out | apply below_alloc | apply pw_below_drewN | apply below_drew1 | refine below_set ?_ GE351.out) | exact HB.out)⟩
            · replace c24 := Bool.eq_false_iff.mpr c24
              subst c24
              have H1 : (some false) = some r := by rw [if_neg (show ¬ (false = true) by decide)] at H; exact H
              clear H
              have H := H1
              clear H1
              obtain rfl := Option.some.inj H
              go_wp2_with (first | ((with_reducible refine gate_callee (f := 12) rfl ?_); refine goesL_ (some 34) rfl rfl Try.func12 (by kernel_rfl) rfl #[] rfl (by (try simp only [List.map_toArray, List.map_cons, List.map_nil]); first | done | rfl | (simp only [List.length_drop, List.length_take]; rfl)) ?_; (with_reducible refine (cuecardlaw05_alive.calls kj6  false _ A23.out).mono ?_); rintro e w28 ⟨rfl, hb⟩; refine ⟨_, rfl, ?_⟩; have n0_ := Aside0.mk (Kd.V_below (by (with_reducible repeat (first | apply Kd.V_alloc | apply Kd.V_drewN | apply Kd.V_drew)); exact HO_0.out) hb); have n1_ := Aside0.mk (KL.R_below (by (with_reducible repeat (first | apply KL.R_alloc | apply KL.R_drewN | apply KL.R_drew)); exact HO_5.out) hb); have n2_ := Aside0.mk (KL.R_below (by (with_reducible repeat (first | apply KL.R_alloc | apply KL.R_drewN | apply KL.R_drew)); exact HO_7.out) hb); have n3_ := Aside0.mk (Kd.V_below (by (with_reducible repeat (first | apply Kd.V_alloc | apply Kd.V_drewN | apply Kd.V_drew)); exact HO_352002.out) hb); have n4_ := Aside0.mk (blk_below (g := gb351) (o := .cells #[.int .i64 a1_0, .int .i64 a1_1, .slice A1_2 l1_2.length c1_2] 43 (0, 0)) (by (with_reducible repeat (first | refine blk_drewN ?_ _ | refine blk_drew ?_ | refine blk_alloc ?_ _)); exact BK351.out) hb); have n5_ := Aside0.mk (below_step (by repeat (first | (with_reducible first | exact HB.out | apply below_alloc | apply pw_below_drewN | apply below_drew1 | refine below_set ?_ GE351.out) | exact HB.out)) hb); clear HO_0; clear HO_5; clear HO_7; clear HO_352002; clear BK351; clear HB; have HO_0 := n0_; have HO_5 := n1_; have HO_7 := n2_; have HO_352002 := n3_; have BK351 := n4_; have HB := n5_; clear n0_ n1_ n2_ n3_ n4_ n5_; (try clear hb); (try clear hb2); (try clear hk); (try clear hi)))
              go_ret
              exact ⟨by first | rfl | (simp [errW_none, errW_some] <;> rfl) | (simp [*, errW_none, errW_some] <;> rfl), by repeat (first | (with_reducible first | exact HB.out | apply below_alloc | apply pw_below_drewN | apply below_drew1 | refine below_set ?_ GE351.out) | exact HB.out)⟩
          · replace c22 := Bool.eq_false_iff.mpr c22
            subst c22
            have H1 : ((trans_Encode.f kj6 l0 true).bind fun bt374 => ((cuecardlaw05_alive.f kj6).bind fun t378 => (if t378 = true then (if bt374.2 = 0 then (if (t368.length : Int) > (t352.length : Int) then (if 0 ≤ (t352.length : Int) then (if (t352.length : Int) ≤ (t368.length : Int) then (if (strOfNums (t368.take ((t352.length : Int) : Int).toNat)).toList = (strOfNums t352).toList then (if (strOfNums t352).size + 1 ≤ 9223372036854775807 then (some ((strOfNums bt374.1).toList == ((strOfNums t352) ++ (⟨#[3]⟩ : ByteArray)).toList)) else (none)) else (some false)) else (none)) else (none)) else (some false)) else (some false)) else (some false)))) = some r := by rw [if_neg (show ¬ (false = true) by decide)] at H; exact H
            clear H
            have H := H1
            clear H1
            replace H := Option.bind_eq_some_iff.mp H
            obtain ⟨⟨t374, t377⟩, A290, H⟩ := H
            replace H : ((cuecardlaw05_alive.f kj6).bind fun t378 => (if t378 = true then (if t377 = 0 then (if (t368.length : Int) > (t352.length : Int) then (if 0 ≤ (t352.length : Int) then (if (t352.length : Int) ≤ (t368.length : Int) then (if (strOfNums (t368.take ((t352.length : Int) : Int).toNat)).toList = (strOfNums t352).toList then (if (strOfNums t352).size + 1 ≤ 9223372036854775807 then (some ((strOfNums t374).toList == ((strOfNums t352) ++ (⟨#[3]⟩ : ByteArray)).toList)) else (none)) else (some false)) else (none)) else (none)) else (some false)) else (some false)) else (some false))) = some r := H
            have A29 := Aside0.mk A290
            clear A290
            replace H := Option.bind_eq_some_iff.mp H
            obtain ⟨t378, A300, H⟩ := H
            replace H : (if t378 = true then (if t377 = 0 then (if (t368.length : Int) > (t352.length : Int) then (if 0 ≤ (t352.length : Int) then (if (t352.length : Int) ≤ (t368.length : Int) then (if (strOfNums (t368.take ((t352.length : Int) : Int).toNat)).toList = (strOfNums t352).toList then (if (strOfNums t352).size + 1 ≤ 9223372036854775807 then (some ((strOfNums t374).toList == ((strOfNums t352) ++ (⟨#[3]⟩ : ByteArray)).toList)) else (none)) else (some false)) else (none)) else (none)) else (some false)) else (some false)) else (some false)) = some r := H
            have A30 := Aside0.mk A300
            clear A300
            by_cases c31 : t378 = true
            · subst c31
              have H1 : (if t377 = 0 then (if (t368.length : Int) > (t352.length : Int) then (if 0 ≤ (t352.length : Int) then (if (t352.length : Int) ≤ (t368.length : Int) then (if (strOfNums (t368.take ((t352.length : Int) : Int).toNat)).toList = (strOfNums t352).toList then (if (strOfNums t352).size + 1 ≤ 9223372036854775807 then (some ((strOfNums t374).toList == ((strOfNums t352) ++ (⟨#[3]⟩ : ByteArray)).toList)) else (none)) else (some false)) else (none)) else (none)) else (some false)) else (some false)) = some r := by rw [if_pos rfl] at H; exact H
              clear H
              have H := H1
              clear H1
              by_cases c32 : t377 = 0
              · rw [if_pos c32] at H
                have c32b0 : (t377 == 0) = true := beq_iff_eq.mpr c32
                have c32b1 : (t377 != 0) = false := bne_eq_false_iff_eq.mpr c32
                clear c32
                by_cases c33 : (t368.length : Int) > (t352.length : Int)
                · rw [if_pos c33] at H
                  have c33b0 : decide ((t352.length : Int) < (t368.length : Int)) = true := decide_eq_true c33
                  have c33b1 : decide (t352.length < t368.length) = true := decide_eq_true (Int.ofNat_lt.mp c33)
                  clear c33
                  by_cases c34 : 0 ≤ (t352.length : Int)
                  · rw [if_pos c34] at H
                    have c34b0 := eq_true c34
                    have c34b1 : decide (0 ≤ (t352.length : Int)) = true := decide_eq_true c34
                    clear c34
                    by_cases c35 : (t352.length : Int) ≤ (t368.length : Int)
                    · rw [if_pos c35] at H
                      have c35b0 := eq_true c35
                      have c35b1 : decide ((t352.length : Int) ≤ (t368.length : Int)) = true := decide_eq_true c35
                      clear c35
                      obtain ⟨y379, hy379⟩ : ∃ y_ : List Int, y_ = (t368.take ((t352.length : Int) : Int).toNat) := ⟨_, rfl⟩
                      replace H : (if (strOfNums y379).toList = (strOfNums t352).toList then (if (strOfNums t352).size + 1 ≤ 9223372036854775807 then (some ((strOfNums t374).toList == ((strOfNums t352) ++ (⟨#[3]⟩ : ByteArray)).toList)) else (none)) else (some false)) = some r := by first | (rw [hy379]; with_reducible exact H) | (have H2_ := (Option.bind_some _ _).symm.trans H; rw [hy379]; with_reducible exact H2_) | (have H2_ := (Option.bind_some _ _).symm.trans H; with_reducible exact H2_) | with_reducible exact H | (rw [hy379]; exact H) | exact H
                      have Ny379 := Aside0.mk hy379
                      clear hy379
                      by_cases c36 : (strOfNums y379).toList = (strOfNums t352).toList
                      · rw [if_pos c36] at H
                        have c36b0 : ((strOfNums y379).toList == (strOfNums t352).toList) = true := beq_iff_eq.mpr c36
                        have c36b1 : ((strOfNums y379).toList != (strOfNums t352).toList) = false := bne_eq_false_iff_eq.mpr c36
                        clear c36
                        by_cases c37 : (strOfNums t352).size + 1 ≤ 9223372036854775807
                        · rw [if_pos c37] at H
                          have c37b0 := eq_true c37
                          have c37b1 : decide ((strOfNums t352).size + 1 ≤ 9223372036854775807) = true := decide_eq_true c37
                          try have c37b2 : (9223372036854775807 < (strOfNums t352).size + 1) = False := eq_false (Nat.not_lt.2 c37)
                          obtain rfl := Option.some.inj H
                          try go_wp2_with (first | ((with_reducible refine gate_callee (f := 10) rfl ?_); refine goesL_ (some 46) rfl rfl Try.func10 (by kernel_rfl) rfl #[.agg #[.slice A0 l0.length c0, .bool true]] rfl (by (try simp only [List.map_toArray, List.map_cons, List.map_nil]); first | done | rfl | (simp only [List.length_drop, List.length_take]; rfl)) ?_; (with_reducible refine (trans_Encode.calls kj6 _ _ l0 true t374 t377 _ ?side1 ?side2 A29.out).mono ?_); (case side1 => repeat (first | exact (Kd.V_reads' HO_0.out).2.2 | (with_reducible refine Kd.C_alloc ?_ _) | (with_reducible refine Kd.C_drewN ?_ _) | (with_reducible refine Kd.C_drew ?_))); (case side2 => exact (Kd.V_reads' HO_0.out).2.1); rintro e w38 ⟨v375, rfl, ho0, hb⟩; refine ⟨_, rfl, ?_⟩; have n0_ := Aside0.mk (Kd.V_elder' (by (with_reducible repeat (first | apply Kd.V_alloc | apply Kd.V_drewN | apply Kd.V_drew)); exact HO_0.out) (KL.R_base ho0) hb); have n1_ := Aside0.mk (KL.R_elder' (by (with_reducible repeat (first | apply KL.R_alloc | apply KL.R_drewN | apply KL.R_drew)); exact HO_5.out) (KL.R_base ho0) hb); have n2_ := Aside0.mk (KL.R_elder' (by (with_reducible repeat (first | apply KL.R_alloc | apply KL.R_drewN | apply KL.R_drew)); exact HO_7.out) (KL.R_base ho0) hb); have n3_ := Aside0.mk (Kd.V_elder' (by (with_reducible repeat (first | apply Kd.V_alloc | apply Kd.V_drewN | apply Kd.V_drew)); exact HO_352002.out) (KL.R_base ho0) hb); have n4_ := Aside0.mk (KL.R_lower (KL.R_new' (KL.R_new' (KL.R_newM (M := fun k_ => (w.heap.size ≤ k_)) ho0 (below_size (by repeat (first | (with_reducible first | exact HB.out | apply below_alloc | apply pw_below_drewN | apply below_drew1 | refine below_set ?_ GE351.out) | exact HB.out))) (fun k_ h_ => h_)) (KL.R_lt (by (with_reducible repeat (first | apply KL.R_alloc | apply KL.R_drewN | apply KL.R_drew)); exact HO_5.out))) (KL.R_lt (by (with_reducible repeat (first | apply KL.R_alloc | apply KL.R_drewN | apply KL.R_drew)); exact HO_7.out))) (below_size (by repeat (first | (with_reducible first | exact HB.out | apply below_alloc | apply pw_below_drewN | apply below_drew1 | refine below_set ?_ GE351.out) | exact HB.out)))); have n5_ := Aside0.mk (blk_below (g := gb351) (o := .cells #[.int .i64 a1_0, .int .i64 a1_1, .slice A1_2 l1_2.length c1_2] 43 (0, 0)) (by (with_reducible repeat (first | refine blk_drewN ?_ _ | refine blk_drew ?_ | refine blk_alloc ?_ _)); exact BK351.out) hb); have n6_ := Aside0.mk (below_step (by repeat (first | (with_reducible first | exact HB.out | apply below_alloc | apply pw_below_drewN | apply below_drew1 | refine below_set ?_ GE351.out) | exact HB.out)) hb); clear HO_0; clear HO_5; clear HO_7; clear HO_352002; clear BK351; clear HB; have HO_0 := n0_; have HO_5 := n1_; have HO_7 := n2_; have HO_352002 := n3_; have HO376 := n4_; have BK351 := n5_; have HB := n6_; clear n0_ n1_ n2_ n3_ n4_ n5_ n6_; (try clear hb); (try clear hb2); (try clear hk); (try clear hi); (try clear ho0)))
                          have n0_ := Aside0.mk (Kd.V_drew HO_0.out)
                          have n1_ := Aside0.mk (KL.R_drew HO_5.out)
                          have n2_ := Aside0.mk (KL.R_drew HO_7.out)
                          have n3_ := Aside0.mk (Kd.V_drew HO_352002.out)
                          have n4_ := Aside0.mk (KL.R_drew HO376.out)
                          have n5_ := Aside0.mk (blk_drew BK351.out)
                          have n6_ := Aside0.mk (below_drew1 HB.out)
                          clear HO_0
                          clear HO_5
                          clear HO_7
                          clear HO_352002
                          clear HO376
                          clear BK351
                          clear HB
                          have HO_0 := n0_
                          have HO_5 := n1_
                          have HO_7 := n2_
                          have HO_352002 := n3_
                          have HO376 := n4_
                          have BK351 := n5_
                          have HB := n6_
                          clear n0_ n1_ n2_ n3_ n4_ n5_ n6_
                          refine start_ (n := 31) (S := fun w' => True) (ds := []) #[false, false, false, false, false, false, false, false, false, false, false, false, false, false, false, false, false, false, false, false, false, false, false, false, false, false, false, false, false, false, false] (by kernel_rfl) rfl rfl trivial (fun hHeld => ?_); refine with_tabW cuecardlaw05_TransJoins.tab6 cuecardlaw05_TransJoins.bits6 (fun HT_ HW_ => ?_)
                          generalize w38.drew = w39 at HO_0 HO_5 HO_7 HO_352002 HO376 BK351 HB hHeld ⊢
                          refine one_ (i := 0) (N := some 49) #[true, false, false, false, false, false, false, false, false, false, false, false, false, false, false, false, false, false, false, false, false, false, false, false, false, false, false, false, false, false, false] rfl rfl (one_of HT_.out (by kernel_rfl)) (by decide) (fun K hK => ?_)
                          refine goes_ Try.func12 (by kernel_rfl) rfl #[] (by rfl) rfl rfl (by (try simp only [List.map_toArray, List.map_cons, List.map_nil]); first | done | rfl | (simp only [List.length_drop, List.length_take]; rfl)) ?_
                          with_reducible refine (cuecardlaw05_alive.calls kj6  true _ A30.out).mono ?_
                          rintro e w40 ⟨rfl, hb⟩
                          refine ⟨_, rfl, ?_⟩
                          have n0_ := Aside0.mk (Kd.V_below (by (with_reducible repeat (first | apply Kd.V_alloc | apply Kd.V_drewN | apply Kd.V_drew)); exact HO_0.out) hb)
                          have n1_ := Aside0.mk (KL.R_below (by (with_reducible repeat (first | apply KL.R_alloc | apply KL.R_drewN | apply KL.R_drew)); exact HO_5.out) hb)
                          have n2_ := Aside0.mk (KL.R_below (by (with_reducible repeat (first | apply KL.R_alloc | apply KL.R_drewN | apply KL.R_drew)); exact HO_7.out) hb)
                          have n3_ := Aside0.mk (Kd.V_below (by (with_reducible repeat (first | apply Kd.V_alloc | apply Kd.V_drewN | apply Kd.V_drew)); exact HO_352002.out) hb)
                          have n4_ := Aside0.mk (KL.R_below (by (with_reducible repeat (first | apply KL.R_alloc | apply KL.R_drewN | apply KL.R_drew)); exact HO376.out) hb)
                          have n5_ := Aside0.mk (blk_below (g := gb351) (o := .cells #[.int .i64 a1_0, .int .i64 a1_1, .slice A1_2 l1_2.length c1_2] 43 (0, 0)) (by (with_reducible repeat (first | refine blk_drewN ?_ _ | refine blk_drew ?_ | refine blk_alloc ?_ _)); exact BK351.out) hb)
                          have n6_ := Aside0.mk (below_step (by repeat (first | (with_reducible first | exact HB.out | apply below_alloc | apply pw_below_drewN | apply below_drew1 | refine below_set ?_ GE351.out) | exact HB.out)) hb)
                          clear HO_0
                          clear HO_5
                          clear HO_7
                          clear HO_352002
                          clear HO376
                          clear BK351
                          clear HB
                          have HO_0 := n0_
                          have HO_5 := n1_
                          have HO_7 := n2_
                          have HO_352002 := n3_
                          have HO376 := n4_
                          have BK351 := n5_
                          have HB := n6_
                          clear n0_ n1_ n2_ n3_ n4_ n5_ n6_
                          (try clear hb)
                          (try clear hb2)
                          (try clear hk)
                          (try clear hi)
                          obtain ⟨Ao41, co41, eo41⟩ := KL.R_slice HO_7.out
                          (first | subst eo41 | (injection eo41 with f1_ f2_ f3_; have f4_ := f1_.symm; have f5_ := f3_.symm; clear f1_ f2_ f3_; subst f4_; subst f5_))
                          obtain ⟨Ao42, co42, eo42⟩ := KL.R_slice HO_5.out
                          (first | subst eo42 | (injection eo42 with f1_ f2_ f3_; have f4_ := f1_.symm; have f5_ := f3_.symm; clear f1_ f2_ f3_; subst f4_; subst f5_))
                          have q43 : ((t352.length : Int) : Int) ≤ ((t368.length : Int) : Int) := of_decide_eq_true (by first | (with_reducible assumption) | assumption)
                          obtain ⟨i043, hi043, _, hsz43, _⟩ := info_parts info5
                          have hroom43 : t368.length ≤ co41 := (KL.R_reads' HO_7.out).2.1
                          have hC43 : Kd.F (Kd.int .u8) _ _ Ao41 t368.length t368 := (Kd.V_at (base := w.heap.size) (Kd.V_mono (ok' := (fun k_ => (((((P0_ k_ ∨ P1_2_ k_) ∨ w.heap.size ≤ k_) ∧ some k_ ≠ (.slice Ao42 t352.length co42 : Value).ownBlock) ∧ some k_ ≠ (v375 : Value).ownBlock) ∧ k_ ≠ gb351))) (KL.R_V (KL.R_types (HO_7.out) BK351.out (by decide))) (fun k_ hk => ⟨⟨⟨(.inr (hk.1.1.1)), hk.1.1.2⟩, hk.1.2⟩, hk.2⟩))).2.2
                          have hcut43 := cut_to (P := Try.prog) 25 5 .i64 Try.underlying25 hi043 Ao41 t368.length co41 (t352.length : Int) (of_decide_eq_true (by first | (with_reducible assumption) | assumption)) q43 hroom43
                          have hr43 := Kd.F_take (m := ((t352.length : Int) : Int).toNat) hC43 (by omega)
                          have hy43 : y379.length = ((t352.length : Int) : Int).toNat := (by rw [Ny379.out, List.length_take]; omega)
                          rw [← Ny379.out] at hr43
                          rw [← hy43] at hcut43
                          have HO383 := Aside0.mk (show Kd.V (Kd.int .u8) 5 _ w.heap.size _ (.slice Ao41 y379.length co41) y379 from Kd.V_mk (by omega) hr43)
                          have HC383 := Aside0.mk (show y379.length ≤ co41 from by omega)
                          clear hr43 hC43 hroom43 hi043 hsz43
                          have KY43 := Aside0.mk hy43
                          clear hy43
                          replace q43 := eq_true q43
                          refine hK.out _ _ trivial (fun hHeld => ?_)
                          clear hK K
                          refine norm_ (a' := ?_) ?_ ?_
                          rotate_left
                          · show Act.put _ (some 49) _ = _
                            simp only [Act.put, List.setIfInBounds_toArray, List.set_cons_zero, List.set_cons_succ, i64_w, i32_w]
                            rfl
                          refine pure_ (i := 1) (N := some 50) (v := ?_) (a' := ?_) #[true, true, false, false, false, false, false, false, false, false, false, false, false, false, false, false, false, false, false, false, false, false, false, false, false, false, false, false, false, false, false] rfl rfl (any_of HT_.out (by kernel_rfl)) (fun _ _ _ h => h) (Or.inl ⟨by rfl, ?_⟩) ?_ ?_
                          rotate_left
                          · intro w'
                            go_simp
                            with_reducible rfl
                          rotate_left
                          · simp only [Act.put, List.setIfInBounds_toArray, List.set_cons_zero, List.set_cons_succ, i64_w, i32_w]
                            rfl
                          refine pure_ (i := 2) (N := some 51) (v := ?_) (a' := ?_) #[true, true, true, false, false, false, false, false, false, false, false, false, false, false, false, false, false, false, false, false, false, false, false, false, false, false, false, false, false, false, false] rfl rfl (any_of HT_.out (by kernel_rfl)) (fun _ _ _ h => h) (Or.inl ⟨by rfl, ?_⟩) ?_ ?_
                          rotate_left
                          · intro w'
                            go_simp
                            with_reducible rfl
                          rotate_left
                          · simp only [Act.put, List.setIfInBounds_toArray, List.set_cons_zero, List.set_cons_succ, i64_w, i32_w]
                            rfl
                          refine pure_ (i := 3) (N := some 52) (v := ?_) (a' := ?_) #[true, true, true, true, false, false, false, false, false, false, false, false, false, false, false, false, false, false, false, false, false, false, false, false, false, false, false, false, false, false, false] rfl rfl (any_of HT_.out (by kernel_rfl)) (fun _ _ _ h => h) (Or.inl ⟨by rfl, ?_⟩) ?_ ?_
                          rotate_left
                          · intro w'
                            go_simp
                            with_reducible rfl
                          rotate_left
                          · simp only [Act.put, List.setIfInBounds_toArray, List.set_cons_zero, List.set_cons_succ, i64_w, i32_w]
                            rfl
                          refine pure_ (i := 4) (N := some 53) (v := ?_) (a' := ?_) #[true, true, true, true, true, false, false, false, false, false, false, false, false, false, false, false, false, false, false, false, false, false, false, false, false, false, false, false, false, false, false] rfl rfl (any_of HT_.out (by kernel_rfl)) (fun _ _ _ h => h) (Or.inl ⟨by rfl, ?_⟩) ?_ ?_
                          rotate_left
                          · intro w'
                            go_simp
                            with_reducible rfl
                          rotate_left
                          · simp only [Act.put, List.setIfInBounds_toArray, List.set_cons_zero, List.set_cons_succ, i64_w, i32_w]
                            rfl
                          refine pure_ (i := 5) (N := some 54) (v := ?_) (a' := ?_) #[true, true, true, true, true, true, false, false, false, false, false, false, false, false, false, false, false, false, false, false, false, false, false, false, false, false, false, false, false, false, false] rfl rfl (any_of HT_.out (by kernel_rfl)) (fun _ _ _ h => h) (Or.inl ⟨by rfl, ?_⟩) ?_ ?_
                          rotate_left
                          · intro w'
                            go_simp
                            with_reducible rfl
                          rotate_left
                          · simp only [Act.put, List.setIfInBounds_toArray, List.set_cons_zero, List.set_cons_succ, i64_w, i32_w]
                            rfl
                          refine pure_ (i := 6) (N := some 55) (v := ?_) (a' := ?_) #[true, true, true, true, true, true, true, false, false, false, false, false, false, false, false, false, false, false, false, false, false, false, false, false, false, false, false, false, false, false, false] rfl rfl (any_of HT_.out (by kernel_rfl)) (fun _ _ _ h => h) (Or.inl ⟨by rfl, ?_⟩) ?_ ?_
                          rotate_left
                          · intro w'
                            go_simp
                            with_reducible rfl
                          rotate_left
                          · simp only [Act.put, List.setIfInBounds_toArray, List.set_cons_zero, List.set_cons_succ, i64_w, i32_w]
                            rfl
                          refine pure_ (i := 7) (N := some 56) (v := ?_) (a' := ?_) #[true, true, true, true, true, true, true, true, false, false, false, false, false, false, false, false, false, false, false, false, false, false, false, false, false, false, false, false, false, false, false] rfl rfl (any_of HT_.out (by kernel_rfl)) (fun _ _ _ h => h) (Or.inl ⟨by rfl, ?_⟩) ?_ ?_
                          rotate_left
                          · intro w'
                            go_simp
                            with_reducible rfl
                          rotate_left
                          · simp only [Act.put, List.setIfInBounds_toArray, List.set_cons_zero, List.set_cons_succ, i64_w, i32_w]
                            rfl
                          refine pure_ (i := 8) (N := some 57) (v := ?_) (a' := ?_) #[true, true, true, true, true, true, true, true, true, false, false, false, false, false, false, false, false, false, false, false, false, false, false, false, false, false, false, false, false, false, false] rfl rfl (any_of HT_.out (by kernel_rfl)) (fun _ _ _ h => h) (Or.inl ⟨by rfl, ?_⟩) ?_ ?_
                          rotate_left
                          · intro w'
                            go_simp
                            with_reducible rfl
                          rotate_left
                          · simp only [Act.put, List.setIfInBounds_toArray, List.set_cons_zero, List.set_cons_succ, i64_w, i32_w]
                            rfl
                          refine pure_ (i := 9) (N := some 58) (v := ?_) (a' := ?_) #[true, true, true, true, true, true, true, true, true, true, false, false, false, false, false, false, false, false, false, false, false, false, false, false, false, false, false, false, false, false, false] rfl rfl (any_of HT_.out (by kernel_rfl)) (fun _ _ _ h => h) (Or.inl ⟨by rfl, ?_⟩) ?_ ?_
                          rotate_left
                          · intro w'
                            go_simp
                            with_reducible rfl
                          rotate_left
                          · simp only [Act.put, List.setIfInBounds_toArray, List.set_cons_zero, List.set_cons_succ, i64_w, i32_w]
                            rfl
                          refine pure_ (i := 10) (N := some 59) (v := ?_) (a' := ?_) #[true, true, true, true, true, true, true, true, true, true, true, false, false, false, false, false, false, false, false, false, false, false, false, false, false, false, false, false, false, false, false] rfl rfl (any_of HT_.out (by kernel_rfl)) (fun _ _ _ h => h) (Or.inl ⟨by rfl, ?_⟩) ?_ ?_
                          rotate_left
                          · intro w'
                            go_simp
                            with_reducible rfl
                          rotate_left
                          · simp only [Act.put, List.setIfInBounds_toArray, List.set_cons_zero, List.set_cons_succ, i64_w, i32_w]
                            rfl
                          refine pure_ (i := 11) (N := some 60) (v := ?_) (a' := ?_) #[true, true, true, true, true, true, true, true, true, true, true, true, false, false, false, false, false, false, false, false, false, false, false, false, false, false, false, false, false, false, false] rfl rfl (any_of HT_.out (by kernel_rfl)) (fun _ _ _ h => h) (Or.inl ⟨by rfl, ?_⟩) ?_ ?_
                          rotate_left
                          · intro w'
                            go_simp
                            with_reducible rfl
                          rotate_left
                          · simp only [Act.put, List.setIfInBounds_toArray, List.set_cons_zero, List.set_cons_succ, i64_w, i32_w]
                            rfl
                          refine pure_ (i := 12) (N := some 61) (v := ?_) (a' := ?_) #[true, true, true, true, true, true, true, true, true, true, true, true, true, false, false, false, false, false, false, false, false, false, false, false, false, false, false, false, false, false, false] rfl rfl (any_of HT_.out (by kernel_rfl)) (fun _ _ _ h => h) (Or.inl ⟨by rfl, ?_⟩) ?_ ?_
                          rotate_left
                          · intro w'
                            go_simp
                            with_reducible rfl
                          rotate_left
                          · simp only [Act.put, List.setIfInBounds_toArray, List.set_cons_zero, List.set_cons_succ, i64_w, i32_w]
                            rfl
                          refine pure_ (i := 13) (N := some 62) (v := ?_) (a' := ?_) #[true, true, true, true, true, true, true, true, true, true, true, true, true, true, false, false, false, false, false, false, false, false, false, false, false, false, false, false, false, false, false] rfl rfl (any_of HT_.out (by kernel_rfl)) (fun _ _ _ h => h) (Or.inl ⟨by rfl, ?_⟩) ?_ ?_
                          rotate_left
                          · intro w'
                            go_simp
                            with_reducible rfl
                          rotate_left
                          · simp only [Act.put, List.setIfInBounds_toArray, List.set_cons_zero, List.set_cons_succ, i64_w, i32_w]
                            rfl
                          refine pure_ (i := 14) (N := some 63) (v := ?_) (a' := ?_) #[true, true, true, true, true, true, true, true, true, true, true, true, true, true, true, false, false, false, false, false, false, false, false, false, false, false, false, false, false, false, false] rfl rfl (any_of HT_.out (by kernel_rfl)) (fun _ _ _ h => h) (Or.inl ⟨by rfl, ?_⟩) ?_ ?_
                          rotate_left
                          · intro w'
                            go_simp
                            with_reducible rfl
                          rotate_left
                          · simp only [Act.put, List.setIfInBounds_toArray, List.set_cons_zero, List.set_cons_succ, i64_w, i32_w]
                            rfl
                          refine pure_ (i := 15) (N := some 64) (v := ?_) (a' := ?_) #[true, true, true, true, true, true, true, true, true, true, true, true, true, true, true, true, false, false, false, false, false, false, false, false, false, false, false, false, false, false, false] rfl rfl (any_of HT_.out (by kernel_rfl)) (fun _ _ _ h => h) (Or.inl ⟨by rfl, ?_⟩) ?_ ?_
                          rotate_left
                          · intro w'
                            go_simp
                            with_reducible rfl
                          rotate_left
                          · simp only [Act.put, List.setIfInBounds_toArray, List.set_cons_zero, List.set_cons_succ, i64_w, i32_w]
                            rfl
                          refine pure_ (i := 16) (N := some 65) (v := ?_) (a' := ?_) #[true, true, true, true, true, true, true, true, true, true, true, true, true, true, true, true, true, false, false, false, false, false, false, false, false, false, false, false, false, false, false] rfl rfl (any_of HT_.out (by kernel_rfl)) (fun _ _ _ h => h) (Or.inl ⟨by rfl, ?_⟩) ?_ ?_
                          rotate_left
                          · intro w'
                            go_simp
                            with_reducible rfl
                          rotate_left
                          · simp only [Act.put, List.setIfInBounds_toArray, List.set_cons_zero, List.set_cons_succ, i64_w, i32_w]
                            rfl
                          refine pure_ (i := 18) (N := some 67) (v := ?_) (a' := ?_) #[true, true, true, true, true, true, true, true, true, true, true, true, true, true, true, true, true, false, true, false, false, false, false, false, false, false, false, false, false, false, false] rfl rfl (any_of HT_.out (by kernel_rfl)) (fun _ _ _ h => h) (Or.inl ⟨by rfl, ?_⟩) ?_ ?_
                          rotate_left
                          · intro w'
                            go_simp
                            with_reducible rfl
                          rotate_left
                          · simp only [Act.put, List.setIfInBounds_toArray, List.set_cons_zero, List.set_cons_succ, i64_w, i32_w]
                            rfl
                          refine join_ (σ := Unit) 3 #[true, true, true, true, true, true, true, true, true, true, true, true, true, true, true, true, true, true, true, true, true, true, true, true, true, true, true, true, false, false, false] (fun s_ => [(66, .string (strOfNums y379)), (68, .string (strOfNums t352)), (73, .string (strOfNums t374)), (75, .string (strOfNums t352)), (69, .bool true), (70, .bool true), (71, .bool true), (72, v375), (74, .slice Ao42 t352.length co42), (76, .string ((strOfNums t352) ++ (⟨#[3]⟩ : ByteArray)))]) (fun s_ w' => (KL.R w' w.heap.size (fun k_ => (w.heap.size ≤ k_) ∧ some k_ ≠ (.slice Ao42 t352.length co42 : Value).ownBlock ∧ some k_ ≠ (.slice Ao41 t368.length co41 : Value).ownBlock) v375 t374) ∧ (Kd.V (Kd.int .u8) 5 w' w.heap.size (fun k_ => ((P0_ k_ ∨ P1_2_ k_) ∨ w.heap.size ≤ k_) ∧ some k_ ≠ (v375 : Value).ownBlock ∧ some k_ ≠ (.slice Ao42 t352.length co42 : Value).ownBlock ∧ k_ ≠ gb351) (.slice Ao41 y379.length co41) y379) ∧ (Kd.V k43 43 w' w.heap.size (fun k_ => ((P0_ k_ ∨ P1_2_ k_) ∨ w.heap.size ≤ k_) ∧ some k_ ≠ (v375 : Value).ownBlock ∧ some k_ ≠ (.slice Ao42 t352.length co42 : Value).ownBlock ∧ some k_ ≠ (.slice Ao41 t368.length co41 : Value).ownBlock ∧ k_ ≠ gb351) (.slice A0 l0.length c0) l0) ∧ (Kd.V (Kd.int .u8) 5 w' w.heap.size (fun k_ => ((P0_ k_ ∨ P1_2_ k_) ∨ w.heap.size ≤ k_) ∧ some k_ ≠ (v375 : Value).ownBlock ∧ some k_ ≠ (.slice Ao42 t352.length co42 : Value).ownBlock ∧ some k_ ≠ (.slice Ao41 t368.length co41 : Value).ownBlock ∧ k_ ≠ gb351) (.slice A1_2 l1_2.length c1_2) l1_2) ∧ (KL.R w' w.heap.size (fun k_ => (w.heap.size ≤ k_) ∧ some k_ ≠ (v375 : Value).ownBlock ∧ some k_ ≠ (.slice Ao41 t368.length co41 : Value).ownBlock) (.slice Ao42 t352.length co42) t352) ∧ (KL.R w' w.heap.size (fun k_ => (w.heap.size ≤ k_) ∧ some k_ ≠ (v375 : Value).ownBlock ∧ some k_ ≠ (.slice Ao42 t352.length co42 : Value).ownBlock) (.slice Ao41 t368.length co41) t368) ∧ (w'.heap[gb351]? = some (.cells #[.int .i64 a1_0, .int .i64 a1_1, .slice A1_2 l1_2.length c1_2] 43 (0, 0))) ∧ (Below w.heap.size w w')) ?_ ?_
                          rotate_left
                          · intro hCont
                            refine two_ (i := 17) (j := 19) (Ni := some 66) (Nj := some 68) #[true, true, true, true, true, true, true, true, true, true, true, true, true, true, true, true, true, true, true, false, false, false, false, false, false, false, false, false, false, false, false] #[true, true, true, true, true, true, true, true, true, true, true, true, true, true, true, true, true, false, true, true, false, false, false, false, false, false, false, false, false, false, false] rfl rfl rfl rfl (two_of HT_.out (by kernel_rfl)) (by decide) (by decide) (fun K hK => ?_) (fun K hK => ?_)
                            · skip
                              have hcv44 := KL.V_string (P := Try.prog) Try.underlying25 Try.underlying5 Try.underlying9 HO383.out
                              refine value_ (w1 := ?_) (v := ?_) (by rfl) rfl ?_ ?_
                              rotate_left 2
                              · go_simp
                                constructor
                                · rfl
                                · rfl
                              clear hcv44
                              refine hK.out _ _ trivial (fun hHeld => ?_)
                              clear hK K
                              refine norm_ (a' := ?_) ?_ ?_
                              rotate_left
                              · show Act.put _ (some 66) _ = _
                                simp only [Act.put, List.setIfInBounds_toArray, List.set_cons_zero, List.set_cons_succ, i64_w, i32_w]
                                rfl
                              refine one_ (i := 19) (N := some 68) #[true, true, true, true, true, true, true, true, true, true, true, true, true, true, true, true, true, true, true, true, false, false, false, false, false, false, false, false, false, false, false] rfl rfl (one_of HT_.out (by kernel_rfl)) (by decide) (fun K hK => ?_)
                              have hcv45 := KL.R_string (P := Try.prog) Try.underlying25 Try.underlying5 Try.underlying9 (HO_5.out)
                              refine value_ (w1 := ?_) (v := ?_) (by rfl) rfl ?_ ?_
                              rotate_left 2
                              · go_simp
                                constructor
                                · rfl
                                · rfl
                              clear hcv45
                              refine hK.out _ _ trivial (fun hHeld => ?_)
                              clear hK K
                              refine norm_ (a' := ?_) ?_ ?_
                              rotate_left
                              · show Act.put _ (some 68) _ = _
                                simp only [Act.put, List.setIfInBounds_toArray, List.set_cons_zero, List.set_cons_succ, i64_w, i32_w]
                                rfl
                              refine pure_ (i := 20) (N := some 69) (v := ?_) (a' := ?_) #[true, true, true, true, true, true, true, true, true, true, true, true, true, true, true, true, true, true, true, true, true, false, false, false, false, false, false, false, false, false, false] rfl rfl (any_of HT_.out (by kernel_rfl)) (fun _ _ _ h => h) (Or.inl ⟨by rfl, ?_⟩) ?_ ?_
                              rotate_left
                              · intro w'
                                go_simp
                                with_reducible rfl
                              rotate_left
                              · simp only [Act.put, List.setIfInBounds_toArray, List.set_cons_zero, List.set_cons_succ, i64_w, i32_w]
                                rfl
                              refine pure_ (i := 21) (N := some 70) (v := ?_) (a' := ?_) #[true, true, true, true, true, true, true, true, true, true, true, true, true, true, true, true, true, true, true, true, true, true, false, false, false, false, false, false, false, false, false] rfl rfl (any_of HT_.out (by kernel_rfl)) (fun _ _ _ h => h) (Or.inl ⟨by rfl, ?_⟩) ?_ ?_
                              rotate_left
                              · intro w'
                                go_simp
                                with_reducible rfl
                              rotate_left
                              · simp only [Act.put, List.setIfInBounds_toArray, List.set_cons_zero, List.set_cons_succ, i64_w, i32_w]
                                rfl
                              refine pure_ (i := 22) (N := some 71) (v := ?_) (a' := ?_) #[true, true, true, true, true, true, true, true, true, true, true, true, true, true, true, true, true, true, true, true, true, true, true, false, false, false, false, false, false, false, false] rfl rfl (any_of HT_.out (by kernel_rfl)) (fun _ _ _ h => h) (Or.inl ⟨by rfl, ?_⟩) ?_ ?_
                              rotate_left
                              · intro w'
                                go_simp
                                with_reducible rfl
                              rotate_left
                              · simp only [Act.put, List.setIfInBounds_toArray, List.set_cons_zero, List.set_cons_succ, i64_w, i32_w]
                                rfl
                              refine pure_ (i := 23) (N := some 72) (v := ?_) (a' := ?_) #[true, true, true, true, true, true, true, true, true, true, true, true, true, true, true, true, true, true, true, true, true, true, true, true, false, false, false, false, false, false, false] rfl rfl (any_of HT_.out (by kernel_rfl)) (fun _ _ _ h => h) (Or.inl ⟨by rfl, ?_⟩) ?_ ?_
                              rotate_left
                              · intro w'
                                go_simp
                                with_reducible rfl
                              rotate_left
                              · simp only [Act.put, List.setIfInBounds_toArray, List.set_cons_zero, List.set_cons_succ, i64_w, i32_w]
                                rfl
                              refine pure_ (i := 25) (N := some 74) (v := ?_) (a' := ?_) #[true, true, true, true, true, true, true, true, true, true, true, true, true, true, true, true, true, true, true, true, true, true, true, true, false, true, false, false, false, false, false] rfl rfl (any_of HT_.out (by kernel_rfl)) (fun _ _ _ h => h) (Or.inl ⟨by rfl, ?_⟩) ?_ ?_
                              rotate_left
                              · intro w'
                                go_simp
                                with_reducible rfl
                              rotate_left
                              · simp only [Act.put, List.setIfInBounds_toArray, List.set_cons_zero, List.set_cons_succ, i64_w, i32_w]
                                rfl
                              refine two_ (i := 24) (j := 26) (Ni := some 73) (Nj := some 75) #[true, true, true, true, true, true, true, true, true, true, true, true, true, true, true, true, true, true, true, true, true, true, true, true, true, true, false, false, false, false, false] #[true, true, true, true, true, true, true, true, true, true, true, true, true, true, true, true, true, true, true, true, true, true, true, true, false, true, true, false, false, false, false] rfl rfl rfl rfl (two_of HT_.out (by kernel_rfl)) (by decide) (by decide) (fun K hK => ?_) (fun K hK => ?_)
                              · skip
                                have hcv46 := KL.R_string (P := Try.prog) Try.underlying25 Try.underlying5 Try.underlying9 (HO376.out)
                                refine value_ (w1 := ?_) (v := ?_) (by rfl) rfl ?_ ?_
                                rotate_left 2
                                · go_simp
                                  constructor
                                  · rfl
                                  · rfl
                                clear hcv46
                                refine hK.out _ _ trivial (fun hHeld => ?_)
                                clear hK K
                                refine norm_ (a' := ?_) ?_ ?_
                                rotate_left
                                · show Act.put _ (some 73) _ = _
                                  simp only [Act.put, List.setIfInBounds_toArray, List.set_cons_zero, List.set_cons_succ, i64_w, i32_w]
                                  rfl
                                refine one_ (i := 26) (N := some 75) #[true, true, true, true, true, true, true, true, true, true, true, true, true, true, true, true, true, true, true, true, true, true, true, true, true, true, true, false, false, false, false] rfl rfl (one_of HT_.out (by kernel_rfl)) (by decide) (fun K hK => ?_)
                                have hcv47 := KL.R_string (P := Try.prog) Try.underlying25 Try.underlying5 Try.underlying9 (HO_5.out)
                                refine value_ (w1 := ?_) (v := ?_) (by rfl) rfl ?_ ?_
                                rotate_left 2
                                · go_simp
                                  constructor
                                  · rfl
                                  · rfl
                                clear hcv47
                                refine hK.out _ _ trivial (fun hHeld => ?_)
                                clear hK K
                                refine norm_ (a' := ?_) ?_ ?_
                                rotate_left
                                · show Act.put _ (some 75) _ = _
                                  simp only [Act.put, List.setIfInBounds_toArray, List.set_cons_zero, List.set_cons_succ, i64_w, i32_w]
                                  rfl
                                refine pure_ (i := 27) (N := some 76) (v := ?_) (a' := ?_) #[true, true, true, true, true, true, true, true, true, true, true, true, true, true, true, true, true, true, true, true, true, true, true, true, true, true, true, true, false, false, false] rfl rfl (any_of HT_.out (by kernel_rfl)) (fun _ _ _ h => h) (Or.inl ⟨by rfl, ?_⟩) ?_ ?_
                                rotate_left
                                · intro w'
                                  go_simp
                                  with_reducible rfl
                                rotate_left
                                · simp only [Act.put, List.setIfInBounds_toArray, List.set_cons_zero, List.set_cons_succ, i64_w, i32_w]
                                  rfl
                                exact norm_ (by simp only [putAll, Act.put, List.setIfInBounds_toArray, List.set_cons_zero, List.set_cons_succ]) (hCont () _ ⟨(by (with_reducible repeat (first | apply KL.R_alloc | apply KL.R_drewN | apply KL.R_drew)); exact KL.R_mono HO376.out (fun _ hk => ⟨hk.1.1.1, ⟨hk.1.2, hk.2⟩⟩)), (by (with_reducible repeat (first | apply Kd.V_alloc | apply Kd.V_drewN | apply Kd.V_drew)); exact Kd.V_mono HO383.out (fun _ hk => ⟨hk.1.1.1, ⟨hk.1.2, ⟨hk.1.1.2, hk.2⟩⟩⟩)), (by (with_reducible repeat (first | apply Kd.V_alloc | apply Kd.V_drewN | apply Kd.V_drew)); exact Kd.V_mono HO_0.out (fun _ hk => ⟨hk.1.1, ⟨hk.2, ⟨hk.1.2.1, ⟨hk.1.2.2.1, hk.1.2.2.2⟩⟩⟩⟩)), (by (with_reducible repeat (first | apply Kd.V_alloc | apply Kd.V_drewN | apply Kd.V_drew)); exact Kd.V_mono HO_352002.out (fun _ hk => ⟨hk.1.1, ⟨hk.2, ⟨hk.1.2.1, ⟨hk.1.2.2.1, hk.1.2.2.2⟩⟩⟩⟩)), (by (with_reducible repeat (first | apply KL.R_alloc | apply KL.R_drewN | apply KL.R_drew)); exact KL.R_mono HO_5.out (fun _ hk => ⟨hk.1.1, ⟨hk.2, hk.1.2⟩⟩)), (by (with_reducible repeat (first | apply KL.R_alloc | apply KL.R_drewN | apply KL.R_drew)); exact KL.R_mono HO_7.out (fun _ hk => ⟨hk.1.1, ⟨hk.2, hk.1.2⟩⟩)), (by (with_reducible repeat (first | refine blk_drewN ?_ _ | refine blk_drew ?_ | refine blk_alloc ?_ _)); exact BK351.out), (by repeat (first | (with_reducible first | exact HB.out | apply below_alloc | apply pw_below_drewN | apply below_drew1 | refine below_set ?_ GE351.out) | exact HB.out))⟩)
                              · skip
                                have hcv46 := KL.R_string (P := Try.prog) Try.underlying25 Try.underlying5 Try.underlying9 (HO_5.out)
                                refine value_ (w1 := ?_) (v := ?_) (by rfl) rfl ?_ ?_
                                rotate_left 2
                                · go_simp
                                  constructor
                                  · rfl
                                  · rfl
                                clear hcv46
                                refine hK.out _ _ trivial (fun hHeld => ?_)
                                clear hK K
                                refine norm_ (a' := ?_) ?_ ?_
                                rotate_left
                                · show Act.put _ (some 75) _ = _
                                  simp only [Act.put, List.setIfInBounds_toArray, List.set_cons_zero, List.set_cons_succ, i64_w, i32_w]
                                  rfl
                                refine pure_ (i := 27) (N := some 76) (v := ?_) (a' := ?_) #[true, true, true, true, true, true, true, true, true, true, true, true, true, true, true, true, true, true, true, true, true, true, true, true, false, true, true, true, false, false, false] rfl rfl (any_of HT_.out (by kernel_rfl)) (fun _ _ _ h => h) (Or.inl ⟨by rfl, ?_⟩) ?_ ?_
                                rotate_left
                                · intro w'
                                  go_simp
                                  with_reducible rfl
                                rotate_left
                                · simp only [Act.put, List.setIfInBounds_toArray, List.set_cons_zero, List.set_cons_succ, i64_w, i32_w]
                                  rfl
                                refine one_ (i := 24) (N := some 73) #[true, true, true, true, true, true, true, true, true, true, true, true, true, true, true, true, true, true, true, true, true, true, true, true, true, true, true, true, false, false, false] rfl rfl (one_of HT_.out (by kernel_rfl)) (by decide) (fun K hK => ?_)
                                have hcv47 := KL.R_string (P := Try.prog) Try.underlying25 Try.underlying5 Try.underlying9 (HO376.out)
                                refine value_ (w1 := ?_) (v := ?_) (by rfl) rfl ?_ ?_
                                rotate_left 2
                                · go_simp
                                  constructor
                                  · rfl
                                  · rfl
                                clear hcv47
                                refine hK.out _ _ trivial (fun hHeld => ?_)
                                clear hK K
                                refine norm_ (a' := ?_) ?_ ?_
                                rotate_left
                                · show Act.put _ (some 73) _ = _
                                  simp only [Act.put, List.setIfInBounds_toArray, List.set_cons_zero, List.set_cons_succ, i64_w, i32_w]
                                  rfl
                                exact norm_ (by simp only [putAll, Act.put, List.setIfInBounds_toArray, List.set_cons_zero, List.set_cons_succ]) (hCont () _ ⟨(by (with_reducible repeat (first | apply KL.R_alloc | apply KL.R_drewN | apply KL.R_drew)); exact KL.R_mono HO376.out (fun _ hk => ⟨hk.1.1.1, ⟨hk.1.2, hk.2⟩⟩)), (by (with_reducible repeat (first | apply Kd.V_alloc | apply Kd.V_drewN | apply Kd.V_drew)); exact Kd.V_mono HO383.out (fun _ hk => ⟨hk.1.1.1, ⟨hk.1.2, ⟨hk.1.1.2, hk.2⟩⟩⟩)), (by (with_reducible repeat (first | apply Kd.V_alloc | apply Kd.V_drewN | apply Kd.V_drew)); exact Kd.V_mono HO_0.out (fun _ hk => ⟨hk.1.1, ⟨hk.2, ⟨hk.1.2.1, ⟨hk.1.2.2.1, hk.1.2.2.2⟩⟩⟩⟩)), (by (with_reducible repeat (first | apply Kd.V_alloc | apply Kd.V_drewN | apply Kd.V_drew)); exact Kd.V_mono HO_352002.out (fun _ hk => ⟨hk.1.1, ⟨hk.2, ⟨hk.1.2.1, ⟨hk.1.2.2.1, hk.1.2.2.2⟩⟩⟩⟩)), (by (with_reducible repeat (first | apply KL.R_alloc | apply KL.R_drewN | apply KL.R_drew)); exact KL.R_mono HO_5.out (fun _ hk => ⟨hk.1.1, ⟨hk.2, hk.1.2⟩⟩)), (by (with_reducible repeat (first | apply KL.R_alloc | apply KL.R_drewN | apply KL.R_drew)); exact KL.R_mono HO_7.out (fun _ hk => ⟨hk.1.1, ⟨hk.2, hk.1.2⟩⟩)), (by (with_reducible repeat (first | refine blk_drewN ?_ _ | refine blk_drew ?_ | refine blk_alloc ?_ _)); exact BK351.out), (by repeat (first | (with_reducible first | exact HB.out | apply below_alloc | apply pw_below_drewN | apply below_drew1 | refine below_set ?_ GE351.out) | exact HB.out))⟩)
                            · skip
                              have hcv44 := KL.R_string (P := Try.prog) Try.underlying25 Try.underlying5 Try.underlying9 (HO_5.out)
                              refine value_ (w1 := ?_) (v := ?_) (by rfl) rfl ?_ ?_
                              rotate_left 2
                              · go_simp
                                constructor
                                · rfl
                                · rfl
                              clear hcv44
                              refine hK.out _ _ trivial (fun hHeld => ?_)
                              clear hK K
                              refine norm_ (a' := ?_) ?_ ?_
                              rotate_left
                              · show Act.put _ (some 68) _ = _
                                simp only [Act.put, List.setIfInBounds_toArray, List.set_cons_zero, List.set_cons_succ, i64_w, i32_w]
                                rfl
                              refine one_ (i := 17) (N := some 66) #[true, true, true, true, true, true, true, true, true, true, true, true, true, true, true, true, true, true, true, true, false, false, false, false, false, false, false, false, false, false, false] rfl rfl (one_of HT_.out (by kernel_rfl)) (by decide) (fun K hK => ?_)
                              have hcv45 := KL.V_string (P := Try.prog) Try.underlying25 Try.underlying5 Try.underlying9 HO383.out
                              refine value_ (w1 := ?_) (v := ?_) (by rfl) rfl ?_ ?_
                              rotate_left 2
                              · go_simp
                                constructor
                                · rfl
                                · rfl
                              clear hcv45
                              refine hK.out _ _ trivial (fun hHeld => ?_)
                              clear hK K
                              refine norm_ (a' := ?_) ?_ ?_
                              rotate_left
                              · show Act.put _ (some 66) _ = _
                                simp only [Act.put, List.setIfInBounds_toArray, List.set_cons_zero, List.set_cons_succ, i64_w, i32_w]
                                rfl
                              refine pure_ (i := 20) (N := some 69) (v := ?_) (a' := ?_) #[true, true, true, true, true, true, true, true, true, true, true, true, true, true, true, true, true, true, true, true, true, false, false, false, false, false, false, false, false, false, false] rfl rfl (any_of HT_.out (by kernel_rfl)) (fun _ _ _ h => h) (Or.inl ⟨by rfl, ?_⟩) ?_ ?_
                              rotate_left
                              · intro w'
                                go_simp
                                with_reducible rfl
                              rotate_left
                              · simp only [Act.put, List.setIfInBounds_toArray, List.set_cons_zero, List.set_cons_succ, i64_w, i32_w]
                                rfl
                              refine pure_ (i := 21) (N := some 70) (v := ?_) (a' := ?_) #[true, true, true, true, true, true, true, true, true, true, true, true, true, true, true, true, true, true, true, true, true, true, false, false, false, false, false, false, false, false, false] rfl rfl (any_of HT_.out (by kernel_rfl)) (fun _ _ _ h => h) (Or.inl ⟨by rfl, ?_⟩) ?_ ?_
                              rotate_left
                              · intro w'
                                go_simp
                                with_reducible rfl
                              rotate_left
                              · simp only [Act.put, List.setIfInBounds_toArray, List.set_cons_zero, List.set_cons_succ, i64_w, i32_w]
                                rfl
                              refine pure_ (i := 22) (N := some 71) (v := ?_) (a' := ?_) #[true, true, true, true, true, true, true, true, true, true, true, true, true, true, true, true, true, true, true, true, true, true, true, false, false, false, false, false, false, false, false] rfl rfl (any_of HT_.out (by kernel_rfl)) (fun _ _ _ h => h) (Or.inl ⟨by rfl, ?_⟩) ?_ ?_
                              rotate_left
                              · intro w'
                                go_simp
                                with_reducible rfl
                              rotate_left
                              · simp only [Act.put, List.setIfInBounds_toArray, List.set_cons_zero, List.set_cons_succ, i64_w, i32_w]
                                rfl
                              refine pure_ (i := 23) (N := some 72) (v := ?_) (a' := ?_) #[true, true, true, true, true, true, true, true, true, true, true, true, true, true, true, true, true, true, true, true, true, true, true, true, false, false, false, false, false, false, false] rfl rfl (any_of HT_.out (by kernel_rfl)) (fun _ _ _ h => h) (Or.inl ⟨by rfl, ?_⟩) ?_ ?_
                              rotate_left
                              · intro w'
                                go_simp
                                with_reducible rfl
                              rotate_left
                              · simp only [Act.put, List.setIfInBounds_toArray, List.set_cons_zero, List.set_cons_succ, i64_w, i32_w]
                                rfl
                              refine pure_ (i := 25) (N := some 74) (v := ?_) (a' := ?_) #[true, true, true, true, true, true, true, true, true, true, true, true, true, true, true, true, true, true, true, true, true, true, true, true, false, true, false, false, false, false, false] rfl rfl (any_of HT_.out (by kernel_rfl)) (fun _ _ _ h => h) (Or.inl ⟨by rfl, ?_⟩) ?_ ?_
                              rotate_left
                              · intro w'
                                go_simp
                                with_reducible rfl
                              rotate_left
                              · simp only [Act.put, List.setIfInBounds_toArray, List.set_cons_zero, List.set_cons_succ, i64_w, i32_w]
                                rfl
                              refine two_ (i := 24) (j := 26) (Ni := some 73) (Nj := some 75) #[true, true, true, true, true, true, true, true, true, true, true, true, true, true, true, true, true, true, true, true, true, true, true, true, true, true, false, false, false, false, false] #[true, true, true, true, true, true, true, true, true, true, true, true, true, true, true, true, true, true, true, true, true, true, true, true, false, true, true, false, false, false, false] rfl rfl rfl rfl (two_of HT_.out (by kernel_rfl)) (by decide) (by decide) (fun K hK => ?_) (fun K hK => ?_)
                              · skip
                                have hcv46 := KL.R_string (P := Try.prog) Try.underlying25 Try.underlying5 Try.underlying9 (HO376.out)
                                refine value_ (w1 := ?_) (v := ?_) (by rfl) rfl ?_ ?_
                                rotate_left 2
                                · go_simp
                                  constructor
                                  · rfl
                                  · rfl
                                clear hcv46
                                refine hK.out _ _ trivial (fun hHeld => ?_)
                                clear hK K
                                refine norm_ (a' := ?_) ?_ ?_
                                rotate_left
                                · show Act.put _ (some 73) _ = _
                                  simp only [Act.put, List.setIfInBounds_toArray, List.set_cons_zero, List.set_cons_succ, i64_w, i32_w]
                                  rfl
                                refine one_ (i := 26) (N := some 75) #[true, true, true, true, true, true, true, true, true, true, true, true, true, true, true, true, true, true, true, true, true, true, true, true, true, true, true, false, false, false, false] rfl rfl (one_of HT_.out (by kernel_rfl)) (by decide) (fun K hK => ?_)
                                have hcv47 := KL.R_string (P := Try.prog) Try.underlying25 Try.underlying5 Try.underlying9 (HO_5.out)
                                refine value_ (w1 := ?_) (v := ?_) (by rfl) rfl ?_ ?_
                                rotate_left 2
                                · go_simp
                                  constructor
                                  · rfl
                                  · rfl
                                clear hcv47
                                refine hK.out _ _ trivial (fun hHeld => ?_)
                                clear hK K
                                refine norm_ (a' := ?_) ?_ ?_
                                rotate_left
                                · show Act.put _ (some 75) _ = _
                                  simp only [Act.put, List.setIfInBounds_toArray, List.set_cons_zero, List.set_cons_succ, i64_w, i32_w]
                                  rfl
                                refine pure_ (i := 27) (N := some 76) (v := ?_) (a' := ?_) #[true, true, true, true, true, true, true, true, true, true, true, true, true, true, true, true, true, true, true, true, true, true, true, true, true, true, true, true, false, false, false] rfl rfl (any_of HT_.out (by kernel_rfl)) (fun _ _ _ h => h) (Or.inl ⟨by rfl, ?_⟩) ?_ ?_
                                rotate_left
                                · intro w'
                                  go_simp
                                  with_reducible rfl
                                rotate_left
                                · simp only [Act.put, List.setIfInBounds_toArray, List.set_cons_zero, List.set_cons_succ, i64_w, i32_w]
                                  rfl
                                exact norm_ (by simp only [putAll, Act.put, List.setIfInBounds_toArray, List.set_cons_zero, List.set_cons_succ]) (hCont () _ ⟨(by (with_reducible repeat (first | apply KL.R_alloc | apply KL.R_drewN | apply KL.R_drew)); exact KL.R_mono HO376.out (fun _ hk => ⟨hk.1.1.1, ⟨hk.1.2, hk.2⟩⟩)), (by (with_reducible repeat (first | apply Kd.V_alloc | apply Kd.V_drewN | apply Kd.V_drew)); exact Kd.V_mono HO383.out (fun _ hk => ⟨hk.1.1.1, ⟨hk.1.2, ⟨hk.1.1.2, hk.2⟩⟩⟩)), (by (with_reducible repeat (first | apply Kd.V_alloc | apply Kd.V_drewN | apply Kd.V_drew)); exact Kd.V_mono HO_0.out (fun _ hk => ⟨hk.1.1, ⟨hk.2, ⟨hk.1.2.1, ⟨hk.1.2.2.1, hk.1.2.2.2⟩⟩⟩⟩)), (by (with_reducible repeat (first | apply Kd.V_alloc | apply Kd.V_drewN | apply Kd.V_drew)); exact Kd.V_mono HO_352002.out (fun _ hk => ⟨hk.1.1, ⟨hk.2, ⟨hk.1.2.1, ⟨hk.1.2.2.1, hk.1.2.2.2⟩⟩⟩⟩)), (by (with_reducible repeat (first | apply KL.R_alloc | apply KL.R_drewN | apply KL.R_drew)); exact KL.R_mono HO_5.out (fun _ hk => ⟨hk.1.1, ⟨hk.2, hk.1.2⟩⟩)), (by (with_reducible repeat (first | apply KL.R_alloc | apply KL.R_drewN | apply KL.R_drew)); exact KL.R_mono HO_7.out (fun _ hk => ⟨hk.1.1, ⟨hk.2, hk.1.2⟩⟩)), (by (with_reducible repeat (first | refine blk_drewN ?_ _ | refine blk_drew ?_ | refine blk_alloc ?_ _)); exact BK351.out), (by repeat (first | (with_reducible first | exact HB.out | apply below_alloc | apply pw_below_drewN | apply below_drew1 | refine below_set ?_ GE351.out) | exact HB.out))⟩)
                              · skip
                                have hcv46 := KL.R_string (P := Try.prog) Try.underlying25 Try.underlying5 Try.underlying9 (HO_5.out)
                                refine value_ (w1 := ?_) (v := ?_) (by rfl) rfl ?_ ?_
                                rotate_left 2
                                · go_simp
                                  constructor
                                  · rfl
                                  · rfl
                                clear hcv46
                                refine hK.out _ _ trivial (fun hHeld => ?_)
                                clear hK K
                                refine norm_ (a' := ?_) ?_ ?_
                                rotate_left
                                · show Act.put _ (some 75) _ = _
                                  simp only [Act.put, List.setIfInBounds_toArray, List.set_cons_zero, List.set_cons_succ, i64_w, i32_w]
                                  rfl
                                refine pure_ (i := 27) (N := some 76) (v := ?_) (a' := ?_) #[true, true, true, true, true, true, true, true, true, true, true, true, true, true, true, true, true, true, true, true, true, true, true, true, false, true, true, true, false, false, false] rfl rfl (any_of HT_.out (by kernel_rfl)) (fun _ _ _ h => h) (Or.inl ⟨by rfl, ?_⟩) ?_ ?_
                                rotate_left
                                · intro w'
                                  go_simp
                                  with_reducible rfl
                                rotate_left
                                · simp only [Act.put, List.setIfInBounds_toArray, List.set_cons_zero, List.set_cons_succ, i64_w, i32_w]
                                  rfl
                                refine one_ (i := 24) (N := some 73) #[true, true, true, true, true, true, true, true, true, true, true, true, true, true, true, true, true, true, true, true, true, true, true, true, true, true, true, true, false, false, false] rfl rfl (one_of HT_.out (by kernel_rfl)) (by decide) (fun K hK => ?_)
                                have hcv47 := KL.R_string (P := Try.prog) Try.underlying25 Try.underlying5 Try.underlying9 (HO376.out)
                                refine value_ (w1 := ?_) (v := ?_) (by rfl) rfl ?_ ?_
                                rotate_left 2
                                · go_simp
                                  constructor
                                  · rfl
                                  · rfl
                                clear hcv47
                                refine hK.out _ _ trivial (fun hHeld => ?_)
                                clear hK K
                                refine norm_ (a' := ?_) ?_ ?_
                                rotate_left
                                · show Act.put _ (some 73) _ = _
                                  simp only [Act.put, List.setIfInBounds_toArray, List.set_cons_zero, List.set_cons_succ, i64_w, i32_w]
                                  rfl
                                exact norm_ (by simp only [putAll, Act.put, List.setIfInBounds_toArray, List.set_cons_zero, List.set_cons_succ]) (hCont () _ ⟨(by (with_reducible repeat (first | apply KL.R_alloc | apply KL.R_drewN | apply KL.R_drew)); exact KL.R_mono HO376.out (fun _ hk => ⟨hk.1.1.1, ⟨hk.1.2, hk.2⟩⟩)), (by (with_reducible repeat (first | apply Kd.V_alloc | apply Kd.V_drewN | apply Kd.V_drew)); exact Kd.V_mono HO383.out (fun _ hk => ⟨hk.1.1.1, ⟨hk.1.2, ⟨hk.1.1.2, hk.2⟩⟩⟩)), (by (with_reducible repeat (first | apply Kd.V_alloc | apply Kd.V_drewN | apply Kd.V_drew)); exact Kd.V_mono HO_0.out (fun _ hk => ⟨hk.1.1, ⟨hk.2, ⟨hk.1.2.1, ⟨hk.1.2.2.1, hk.1.2.2.2⟩⟩⟩⟩)), (by (with_reducible repeat (first | apply Kd.V_alloc | apply Kd.V_drewN | apply Kd.V_drew)); exact Kd.V_mono HO_352002.out (fun _ hk => ⟨hk.1.1, ⟨hk.2, ⟨hk.1.2.1, ⟨hk.1.2.2.1, hk.1.2.2.2⟩⟩⟩⟩)), (by (with_reducible repeat (first | apply KL.R_alloc | apply KL.R_drewN | apply KL.R_drew)); exact KL.R_mono HO_5.out (fun _ hk => ⟨hk.1.1, ⟨hk.2, hk.1.2⟩⟩)), (by (with_reducible repeat (first | apply KL.R_alloc | apply KL.R_drewN | apply KL.R_drew)); exact KL.R_mono HO_7.out (fun _ hk => ⟨hk.1.1, ⟨hk.2, hk.1.2⟩⟩)), (by (with_reducible repeat (first | refine blk_drewN ?_ _ | refine blk_drew ?_ | refine blk_alloc ?_ _)); exact BK351.out), (by repeat (first | (with_reducible first | exact HB.out | apply below_alloc | apply pw_below_drewN | apply below_drew1 | refine below_set ?_ GE351.out) | exact HB.out))⟩)
                          rintro _ w48 ⟨h0_, h1_, h2_, h3_, h4_, h5_, h6_, h7_⟩
                          have n0_ : Aside0 (KL.R w48 w.heap.size (fun k_ => (w.heap.size ≤ k_) ∧ some k_ ≠ (.slice Ao42 t352.length co42 : Value).ownBlock ∧ some k_ ≠ (.slice Ao41 t368.length co41 : Value).ownBlock) v375 t374) := ⟨h0_⟩
                          have n1_ : Aside0 (Kd.V (Kd.int .u8) 5 w48 w.heap.size (fun k_ => ((P0_ k_ ∨ P1_2_ k_) ∨ w.heap.size ≤ k_) ∧ some k_ ≠ (v375 : Value).ownBlock ∧ some k_ ≠ (.slice Ao42 t352.length co42 : Value).ownBlock ∧ k_ ≠ gb351) (.slice Ao41 y379.length co41) y379) := ⟨h1_⟩
                          have n2_ : Aside0 (Kd.V k43 43 w48 w.heap.size (fun k_ => ((P0_ k_ ∨ P1_2_ k_) ∨ w.heap.size ≤ k_) ∧ some k_ ≠ (v375 : Value).ownBlock ∧ some k_ ≠ (.slice Ao42 t352.length co42 : Value).ownBlock ∧ some k_ ≠ (.slice Ao41 t368.length co41 : Value).ownBlock ∧ k_ ≠ gb351) (.slice A0 l0.length c0) l0) := ⟨h2_⟩
                          have n3_ : Aside0 (Kd.V (Kd.int .u8) 5 w48 w.heap.size (fun k_ => ((P0_ k_ ∨ P1_2_ k_) ∨ w.heap.size ≤ k_) ∧ some k_ ≠ (v375 : Value).ownBlock ∧ some k_ ≠ (.slice Ao42 t352.length co42 : Value).ownBlock ∧ some k_ ≠ (.slice Ao41 t368.length co41 : Value).ownBlock ∧ k_ ≠ gb351) (.slice A1_2 l1_2.length c1_2) l1_2) := ⟨h3_⟩
                          have n4_ : Aside0 (KL.R w48 w.heap.size (fun k_ => (w.heap.size ≤ k_) ∧ some k_ ≠ (v375 : Value).ownBlock ∧ some k_ ≠ (.slice Ao41 t368.length co41 : Value).ownBlock) (.slice Ao42 t352.length co42) t352) := ⟨h4_⟩
                          have n5_ : Aside0 (KL.R w48 w.heap.size (fun k_ => (w.heap.size ≤ k_) ∧ some k_ ≠ (v375 : Value).ownBlock ∧ some k_ ≠ (.slice Ao42 t352.length co42 : Value).ownBlock) (.slice Ao41 t368.length co41) t368) := ⟨h5_⟩
                          have n6_ : Aside0 (w48.heap[gb351]? = some (.cells #[.int .i64 a1_0, .int .i64 a1_1, .slice A1_2 l1_2.length c1_2] 43 (0, 0))) := ⟨h6_⟩
                          have n7_ : Aside0 (Below w.heap.size w w48) := ⟨h7_⟩
                          clear HO_0
                          clear HO_5
                          clear HO_7
                          clear HO_352002
                          clear HO376
                          clear BK351
                          clear HB
                          clear h0_ h1_ h2_ h3_ h4_ h5_ h6_ h7_
                          have HO376 := n0_
                          have HO383 := n1_
                          have HO_0 := n2_
                          have HO_352002 := n3_
                          have HO_5 := n4_
                          have HO_7 := n5_
                          have BK351 := n6_
                          have HB := n7_
                          clear n0_ n1_ n2_ n3_ n4_ n5_ n6_ n7_
                          have hHeld := trivial
                          refine norm_ (a' := ?_) ?_ ?_
                          rotate_left
                          · simp only [putAll, Act.put, List.setIfInBounds_toArray, List.set_cons_zero, List.set_cons_succ]
                            rfl
                          refine pure_ (i := 28) (N := some 77) (v := ?_) (a' := ?_) #[true, true, true, true, true, true, true, true, true, true, true, true, true, true, true, true, true, true, true, true, true, true, true, true, true, true, true, true, true, false, false] rfl rfl (any_of HT_.out (by kernel_rfl)) (fun _ _ _ h => h) (Or.inl ⟨by rfl, ?_⟩) ?_ ?_
                          rotate_left
                          · intro w'
                            go_simp
                            with_reducible rfl
                          rotate_left
                          · simp only [Act.put, List.setIfInBounds_toArray, List.set_cons_zero, List.set_cons_succ, i64_w, i32_w]
                            rfl
                          refine pure_ (i := 29) (N := some 78) (v := ?_) (a' := ?_) #[true, true, true, true, true, true, true, true, true, true, true, true, true, true, true, true, true, true, true, true, true, true, true, true, true, true, true, true, true, true, false] rfl rfl (any_of HT_.out (by kernel_rfl)) (fun _ _ _ h => h) (Or.inl ⟨by rfl, ?_⟩) ?_ ?_
                          rotate_left
                          · intro w'
                            go_simp
                            with_reducible rfl
                          rotate_left
                          · simp only [Act.put, List.setIfInBounds_toArray, List.set_cons_zero, List.set_cons_succ, i64_w, i32_w]
                            rfl
                          refine pure_ (i := 30) (N := some 4) (v := ?_) (a' := ?_) #[true, true, true, true, true, true, true, true, true, true, true, true, true, true, true, true, true, true, true, true, true, true, true, true, true, true, true, true, true, true, true] rfl rfl (any_of HT_.out (by kernel_rfl)) (fun _ _ _ h => h) (Or.inl ⟨by rfl, ?_⟩) ?_ ?_
                          rotate_left
                          · intro w'
                            go_simp
                            with_reducible rfl
                          rotate_left
                          · simp only [Act.put, List.setIfInBounds_toArray, List.set_cons_zero, List.set_cons_succ, i64_w, i32_w]
                            rfl
                          refine done_ (done_of HT_.out (by kernel_rfl)) ?_
                          try go_wp2
                          go_ret
                          exact ⟨by first | rfl | (simp [errW_none, errW_some] <;> rfl) | (simp [*, errW_none, errW_some] <;> rfl), by repeat (first | (with_reducible first | exact HB.out | apply below_alloc | apply pw_below_drewN | apply below_drew1 | refine below_set ?_ GE351.out) | exact HB.out)⟩
                        · rw [if_neg c37] at H
                          exact absurd H (by simp)
                      · rw [if_neg c36] at H
                        have c36b0 : ((strOfNums y379).toList == (strOfNums t352).toList) = false := beq_eq_false_iff_ne.mpr c36
                        have c36b1 : ((strOfNums y379).toList != (strOfNums t352).toList) = true := bne_iff_ne.mpr c36
                        obtain rfl := Option.some.inj H
                        try go_wp2_with (first | ((with_reducible refine gate_callee (f := 10) rfl ?_); refine goesL_ (some 46) rfl rfl Try.func10 (by kernel_rfl) rfl #[.agg #[.slice A0 l0.length c0, .bool true]] rfl (by (try simp only [List.map_toArray, List.map_cons, List.map_nil]); first | done | rfl | (simp only [List.length_drop, List.length_take]; rfl)) ?_; (with_reducible refine (trans_Encode.calls kj6 _ _ l0 true t374 t377 _ ?side1 ?side2 A29.out).mono ?_); (case side1 => repeat (first | exact (Kd.V_reads' HO_0.out).2.2 | (with_reducible refine Kd.C_alloc ?_ _) | (with_reducible refine Kd.C_drewN ?_ _) | (with_reducible refine Kd.C_drew ?_))); (case side2 => exact (Kd.V_reads' HO_0.out).2.1); rintro e w49 ⟨v375, rfl, ho0, hb⟩; refine ⟨_, rfl, ?_⟩; have n0_ := Aside0.mk (Kd.V_elder' (by (with_reducible repeat (first | apply Kd.V_alloc | apply Kd.V_drewN | apply Kd.V_drew)); exact HO_0.out) (KL.R_base ho0) hb); have n1_ := Aside0.mk (KL.R_elder' (by (with_reducible repeat (first | apply KL.R_alloc | apply KL.R_drewN | apply KL.R_drew)); exact HO_5.out) (KL.R_base ho0) hb); have n2_ := Aside0.mk (KL.R_elder' (by (with_reducible repeat (first | apply KL.R_alloc | apply KL.R_drewN | apply KL.R_drew)); exact HO_7.out) (KL.R_base ho0) hb); have n3_ := Aside0.mk (Kd.V_elder' (by (with_reducible repeat (first | apply Kd.V_alloc | apply Kd.V_drewN | apply Kd.V_drew)); exact HO_352002.out) (KL.R_base ho0) hb); have n4_ := Aside0.mk (KL.R_lower (KL.R_new' (KL.R_new' (KL.R_newM (M := fun k_ => (w.heap.size ≤ k_)) ho0 (below_size (by repeat (first | (with_reducible first | exact HB.out | apply below_alloc | apply pw_below_drewN | apply below_drew1 | refine below_set ?_ GE351.out) | exact HB.out))) (fun k_ h_ => h_)) (KL.R_lt (by (with_reducible repeat (first | apply KL.R_alloc | apply KL.R_drewN | apply KL.R_drew)); exact HO_5.out))) (KL.R_lt (by (with_reducible repeat (first | apply KL.R_alloc | apply KL.R_drewN | apply KL.R_drew)); exact HO_7.out))) (below_size (by repeat (first | (with_reducible first | exact HB.out | apply below_alloc | apply pw_below_drewN | apply below_drew1 | refine below_set ?_ GE351.out) | exact HB.out)))); have n5_ := Aside0.mk (blk_below (g := gb351) (o := .cells #[.int .i64 a1_0, .int .i64 a1_1, .slice A1_2 l1_2.length c1_2] 43 (0, 0)) (by (with_reducible repeat (first | refine blk_drewN ?_ _ | refine blk_drew ?_ | refine blk_alloc ?_ _)); exact BK351.out) hb); have n6_ := Aside0.mk (below_step (by repeat (first | (with_reducible first | exact HB.out | apply below_alloc | apply pw_below_drewN | apply below_drew1 | refine below_set ?_ GE351.out) | exact HB.out)) hb); clear HO_0; clear HO_5; clear HO_7; clear HO_352002; clear BK351; clear HB; have HO_0 := n0_; have HO_5 := n1_; have HO_7 := n2_; have HO_352002 := n3_; have HO376 := n4_; have BK351 := n5_; have HB := n6_; clear n0_ n1_ n2_ n3_ n4_ n5_ n6_; (try clear hb); (try clear hb2); (try clear hk); (try clear hi); (try clear ho0)))
                        have n0_ := Aside0.mk (Kd.V_drew HO_0.out)
                        have n1_ := Aside0.mk (KL.R_drew HO_5.out)
                        have n2_ := Aside0.mk (KL.R_drew HO_7.out)
                        have n3_ := Aside0.mk (Kd.V_drew HO_352002.out)
                        have n4_ := Aside0.mk (KL.R_drew HO376.out)
                        have n5_ := Aside0.mk (blk_drew BK351.out)
                        have n6_ := Aside0.mk (below_drew1 HB.out)
                        clear HO_0
                        clear HO_5
                        clear HO_7
                        clear HO_352002
                        clear HO376
                        clear BK351
                        clear HB
                        have HO_0 := n0_
                        have HO_5 := n1_
                        have HO_7 := n2_
                        have HO_352002 := n3_
                        have HO376 := n4_
                        have BK351 := n5_
                        have HB := n6_
                        clear n0_ n1_ n2_ n3_ n4_ n5_ n6_
                        refine start_ (n := 31) (S := fun w' => True) (ds := []) #[false, false, false, false, false, false, false, false, false, false, false, false, false, false, false, false, false, false, false, false, false, false, false, false, false, false, false, false, false, false, false] (by kernel_rfl) rfl rfl trivial (fun hHeld => ?_); refine with_tabW cuecardlaw05_TransJoins.tab6 cuecardlaw05_TransJoins.bits6 (fun HT_ HW_ => ?_)
                        generalize w49.drew = w50 at HO_0 HO_5 HO_7 HO_352002 HO376 BK351 HB hHeld ⊢
                        refine one_ (i := 0) (N := some 49) #[true, false, false, false, false, false, false, false, false, false, false, false, false, false, false, false, false, false, false, false, false, false, false, false, false, false, false, false, false, false, false] rfl rfl (one_of HT_.out (by kernel_rfl)) (by decide) (fun K hK => ?_)
                        refine goes_ Try.func12 (by kernel_rfl) rfl #[] (by rfl) rfl rfl (by (try simp only [List.map_toArray, List.map_cons, List.map_nil]); first | done | rfl | (simp only [List.length_drop, List.length_take]; rfl)) ?_
                        with_reducible refine (cuecardlaw05_alive.calls kj6  true _ A30.out).mono ?_
                        rintro e w51 ⟨rfl, hb⟩
                        refine ⟨_, rfl, ?_⟩
                        have n0_ := Aside0.mk (Kd.V_below (by (with_reducible repeat (first | apply Kd.V_alloc | apply Kd.V_drewN | apply Kd.V_drew)); exact HO_0.out) hb)
                        have n1_ := Aside0.mk (KL.R_below (by (with_reducible repeat (first | apply KL.R_alloc | apply KL.R_drewN | apply KL.R_drew)); exact HO_5.out) hb)
                        have n2_ := Aside0.mk (KL.R_below (by (with_reducible repeat (first | apply KL.R_alloc | apply KL.R_drewN | apply KL.R_drew)); exact HO_7.out) hb)
                        have n3_ := Aside0.mk (Kd.V_below (by (with_reducible repeat (first | apply Kd.V_alloc | apply Kd.V_drewN | apply Kd.V_drew)); exact HO_352002.out) hb)
                        have n4_ := Aside0.mk (KL.R_below (by (with_reducible repeat (first | apply KL.R_alloc | apply KL.R_drewN | apply KL.R_drew)); exact HO376.out) hb)
                        have n5_ := Aside0.mk (blk_below (g := gb351) (o := .cells #[.int .i64 a1_0, .int .i64 a1_1, .slice A1_2 l1_2.length c1_2] 43 (0, 0)) (by (with_reducible repeat (first | refine blk_drewN ?_ _ | refine blk_drew ?_ | refine blk_alloc ?_ _)); exact BK351.out) hb)
                        have n6_ := Aside0.mk (below_step (by repeat (first | (with_reducible first | exact HB.out | apply below_alloc | apply pw_below_drewN | apply below_drew1 | refine below_set ?_ GE351.out) | exact HB.out)) hb)
                        clear HO_0
                        clear HO_5
                        clear HO_7
                        clear HO_352002
                        clear HO376
                        clear BK351
                        clear HB
                        have HO_0 := n0_
                        have HO_5 := n1_
                        have HO_7 := n2_
                        have HO_352002 := n3_
                        have HO376 := n4_
                        have BK351 := n5_
                        have HB := n6_
                        clear n0_ n1_ n2_ n3_ n4_ n5_ n6_
                        (try clear hb)
                        (try clear hb2)
                        (try clear hk)
                        (try clear hi)
                        obtain ⟨Ao52, co52, eo52⟩ := KL.R_slice HO_7.out
                        (first | subst eo52 | (injection eo52 with f1_ f2_ f3_; have f4_ := f1_.symm; have f5_ := f3_.symm; clear f1_ f2_ f3_; subst f4_; subst f5_))
                        obtain ⟨Ao53, co53, eo53⟩ := KL.R_slice HO_5.out
                        (first | subst eo53 | (injection eo53 with f1_ f2_ f3_; have f4_ := f1_.symm; have f5_ := f3_.symm; clear f1_ f2_ f3_; subst f4_; subst f5_))
                        have q54 : ((t352.length : Int) : Int) ≤ ((t368.length : Int) : Int) := of_decide_eq_true (by first | (with_reducible assumption) | assumption)
                        obtain ⟨i054, hi054, _, hsz54, _⟩ := info_parts info5
                        have hroom54 : t368.length ≤ co52 := (KL.R_reads' HO_7.out).2.1
                        have hC54 : Kd.F (Kd.int .u8) _ _ Ao52 t368.length t368 := (Kd.V_at (base := w.heap.size) (Kd.V_mono (ok' := (fun k_ => (((((P0_ k_ ∨ P1_2_ k_) ∨ w.heap.size ≤ k_) ∧ some k_ ≠ (.slice Ao53 t352.length co53 : Value).ownBlock) ∧ some k_ ≠ (v375 : Value).ownBlock) ∧ k_ ≠ gb351))) (KL.R_V (KL.R_types (HO_7.out) BK351.out (by decide))) (fun k_ hk => ⟨⟨⟨(.inr (hk.1.1.1)), hk.1.1.2⟩, hk.1.2⟩, hk.2⟩))).2.2
                        have hcut54 := cut_to (P := Try.prog) 25 5 .i64 Try.underlying25 hi054 Ao52 t368.length co52 (t352.length : Int) (of_decide_eq_true (by first | (with_reducible assumption) | assumption)) q54 hroom54
                        have hr54 := Kd.F_take (m := ((t352.length : Int) : Int).toNat) hC54 (by omega)
                        have hy54 : y379.length = ((t352.length : Int) : Int).toNat := (by rw [Ny379.out, List.length_take]; omega)
                        rw [← Ny379.out] at hr54
                        rw [← hy54] at hcut54
                        have HO383 := Aside0.mk (show Kd.V (Kd.int .u8) 5 _ w.heap.size _ (.slice Ao52 y379.length co52) y379 from Kd.V_mk (by omega) hr54)
                        have HC383 := Aside0.mk (show y379.length ≤ co52 from by omega)
                        clear hr54 hC54 hroom54 hi054 hsz54
                        have KY54 := Aside0.mk hy54
                        clear hy54
                        replace q54 := eq_true q54
                        refine hK.out _ _ trivial (fun hHeld => ?_)
                        clear hK K
                        refine norm_ (a' := ?_) ?_ ?_
                        rotate_left
                        · show Act.put _ (some 49) _ = _
                          simp only [Act.put, List.setIfInBounds_toArray, List.set_cons_zero, List.set_cons_succ, i64_w, i32_w]
                          rfl
                        refine pure_ (i := 1) (N := some 50) (v := ?_) (a' := ?_) #[true, true, false, false, false, false, false, false, false, false, false, false, false, false, false, false, false, false, false, false, false, false, false, false, false, false, false, false, false, false, false] rfl rfl (any_of HT_.out (by kernel_rfl)) (fun _ _ _ h => h) (Or.inl ⟨by rfl, ?_⟩) ?_ ?_
                        rotate_left
                        · intro w'
                          go_simp
                          with_reducible rfl
                        rotate_left
                        · simp only [Act.put, List.setIfInBounds_toArray, List.set_cons_zero, List.set_cons_succ, i64_w, i32_w]
                          rfl
                        refine pure_ (i := 2) (N := some 51) (v := ?_) (a' := ?_) #[true, true, true, false, false, false, false, false, false, false, false, false, false, false, false, false, false, false, false, false, false, false, false, false, false, false, false, false, false, false, false] rfl rfl (any_of HT_.out (by kernel_rfl)) (fun _ _ _ h => h) (Or.inl ⟨by rfl, ?_⟩) ?_ ?_
                        rotate_left
                        · intro w'
                          go_simp
                          with_reducible rfl
                        rotate_left
                        · simp only [Act.put, List.setIfInBounds_toArray, List.set_cons_zero, List.set_cons_succ, i64_w, i32_w]
                          rfl
                        refine pure_ (i := 3) (N := some 52) (v := ?_) (a' := ?_) #[true, true, true, true, false, false, false, false, false, false, false, false, false, false, false, false, false, false, false, false, false, false, false, false, false, false, false, false, false, false, false] rfl rfl (any_of HT_.out (by kernel_rfl)) (fun _ _ _ h => h) (Or.inl ⟨by rfl, ?_⟩) ?_ ?_
                        rotate_left
                        · intro w'
                          go_simp
                          with_reducible rfl
                        rotate_left
                        · simp only [Act.put, List.setIfInBounds_toArray, List.set_cons_zero, List.set_cons_succ, i64_w, i32_w]
                          rfl
                        refine pure_ (i := 4) (N := some 53) (v := ?_) (a' := ?_) #[true, true, true, true, true, false, false, false, false, false, false, false, false, false, false, false, false, false, false, false, false, false, false, false, false, false, false, false, false, false, false] rfl rfl (any_of HT_.out (by kernel_rfl)) (fun _ _ _ h => h) (Or.inl ⟨by rfl, ?_⟩) ?_ ?_
                        rotate_left
                        · intro w'
                          go_simp
                          with_reducible rfl
                        rotate_left
                        · simp only [Act.put, List.setIfInBounds_toArray, List.set_cons_zero, List.set_cons_succ, i64_w, i32_w]
                          rfl
                        refine pure_ (i := 5) (N := some 54) (v := ?_) (a' := ?_) #[true, true, true, true, true, true, false, false, false, false, false, false, false, false, false, false, false, false, false, false, false, false, false, false, false, false, false, false, false, false, false] rfl rfl (any_of HT_.out (by kernel_rfl)) (fun _ _ _ h => h) (Or.inl ⟨by rfl, ?_⟩) ?_ ?_
                        rotate_left
                        · intro w'
                          go_simp
                          with_reducible rfl
                        rotate_left
                        · simp only [Act.put, List.setIfInBounds_toArray, List.set_cons_zero, List.set_cons_succ, i64_w, i32_w]
                          rfl
                        refine pure_ (i := 6) (N := some 55) (v := ?_) (a' := ?_) #[true, true, true, true, true, true, true, false, false, false, false, false, false, false, false, false, false, false, false, false, false, false, false, false, false, false, false, false, false, false, false] rfl rfl (any_of HT_.out (by kernel_rfl)) (fun _ _ _ h => h) (Or.inl ⟨by rfl, ?_⟩) ?_ ?_
                        rotate_left
                        · intro w'
                          go_simp
                          with_reducible rfl
                        rotate_left
                        · simp only [Act.put, List.setIfInBounds_toArray, List.set_cons_zero, List.set_cons_succ, i64_w, i32_w]
                          rfl
                        refine pure_ (i := 7) (N := some 56) (v := ?_) (a' := ?_) #[true, true, true, true, true, true, true, true, false, false, false, false, false, false, false, false, false, false, false, false, false, false, false, false, false, false, false, false, false, false, false] rfl rfl (any_of HT_.out (by kernel_rfl)) (fun _ _ _ h => h) (Or.inl ⟨by rfl, ?_⟩) ?_ ?_
                        rotate_left
                        · intro w'
                          go_simp
                          with_reducible rfl
                        rotate_left
                        · simp only [Act.put, List.setIfInBounds_toArray, List.set_cons_zero, List.set_cons_succ, i64_w, i32_w]
                          rfl
                        refine pure_ (i := 8) (N := some 57) (v := ?_) (a' := ?_) #[true, true, true, true, true, true, true, true, true, false, false, false, false, false, false, false, false, false, false, false, false, false, false, false, false, false, false, false, false, false, false] rfl rfl (any_of HT_.out (by kernel_rfl)) (fun _ _ _ h => h) (Or.inl ⟨by rfl, ?_⟩) ?_ ?_
                        rotate_left
                        · intro w'
                          go_simp
                          with_reducible rfl
                        rotate_left
                        · simp only [Act.put, List.setIfInBounds_toArray, List.set_cons_zero, List.set_cons_succ, i64_w, i32_w]
                          rfl
                        refine pure_ (i := 9) (N := some 58) (v := ?_) (a' := ?_) #[true, true, true, true, true, true, true, true, true, true, false, false, false, false, false, false, false, false, false, false, false, false, false, false, false, false, false, false, false, false, false] rfl rfl (any_of HT_.out (by kernel_rfl)) (fun _ _ _ h => h) (Or.inl ⟨by rfl, ?_⟩) ?_ ?_
                        rotate_left
                        · intro w'
                          go_simp
                          with_reducible rfl
                        rotate_left
                        · simp only [Act.put, List.setIfInBounds_toArray, List.set_cons_zero, List.set_cons_succ, i64_w, i32_w]
                          rfl
                        refine pure_ (i := 10) (N := some 59) (v := ?_) (a' := ?_) #[true, true, true, true, true, true, true, true, true, true, true, false, false, false, false, false, false, false, false, false, false, false, false, false, false, false, false, false, false, false, false] rfl rfl (any_of HT_.out (by kernel_rfl)) (fun _ _ _ h => h) (Or.inl ⟨by rfl, ?_⟩) ?_ ?_
                        rotate_left
                        · intro w'
                          go_simp
                          with_reducible rfl
                        rotate_left
                        · simp only [Act.put, List.setIfInBounds_toArray, List.set_cons_zero, List.set_cons_succ, i64_w, i32_w]
                          rfl
                        refine pure_ (i := 11) (N := some 60) (v := ?_) (a' := ?_) #[true, true, true, true, true, true, true, true, true, true, true, true, false, false, false, false, false, false, false, false, false, false, false, false, false, false, false, false, false, false, false] rfl rfl (any_of HT_.out (by kernel_rfl)) (fun _ _ _ h => h) (Or.inl ⟨by rfl, ?_⟩) ?_ ?_
                        rotate_left
                        · intro w'
                          go_simp
                          with_reducible rfl
                        rotate_left
                        · simp only [Act.put, List.setIfInBounds_toArray, List.set_cons_zero, List.set_cons_succ, i64_w, i32_w]
                          rfl
                        refine pure_ (i := 12) (N := some 61) (v := ?_) (a' := ?_) #[true, true, true, true, true, true, true, true, true, true, true, true, true, false, false, false, false, false, false, false, false, false, false, false, false, false, false, false, false, false, false] rfl rfl (any_of HT_.out (by kernel_rfl)) (fun _ _ _ h => h) (Or.inl ⟨by rfl, ?_⟩) ?_ ?_
                        rotate_left
                        · intro w'
                          go_simp
                          with_reducible rfl
                        rotate_left
                        · simp only [Act.put, List.setIfInBounds_toArray, List.set_cons_zero, List.set_cons_succ, i64_w, i32_w]
                          rfl
                        refine pure_ (i := 13) (N := some 62) (v := ?_) (a' := ?_) #[true, true, true, true, true, true, true, true, true, true, true, true, true, true, false, false, false, false, false, false, false, false, false, false, false, false, false, false, false, false, false] rfl rfl (any_of HT_.out (by kernel_rfl)) (fun _ _ _ h => h) (Or.inl ⟨by rfl, ?_⟩) ?_ ?_
                        rotate_left
                        · intro w'
                          go_simp
                          with_reducible rfl
                        rotate_left
                        · simp only [Act.put, List.setIfInBounds_toArray, List.set_cons_zero, List.set_cons_succ, i64_w, i32_w]
                          rfl
                        refine pure_ (i := 14) (N := some 63) (v := ?_) (a' := ?_) #[true, true, true, true, true, true, true, true, true, true, true, true, true, true, true, false, false, false, false, false, false, false, false, false, false, false, false, false, false, false, false] rfl rfl (any_of HT_.out (by kernel_rfl)) (fun _ _ _ h => h) (Or.inl ⟨by rfl, ?_⟩) ?_ ?_
                        rotate_left
                        · intro w'
                          go_simp
                          with_reducible rfl
                        rotate_left
                        · simp only [Act.put, List.setIfInBounds_toArray, List.set_cons_zero, List.set_cons_succ, i64_w, i32_w]
                          rfl
                        refine pure_ (i := 15) (N := some 64) (v := ?_) (a' := ?_) #[true, true, true, true, true, true, true, true, true, true, true, true, true, true, true, true, false, false, false, false, false, false, false, false, false, false, false, false, false, false, false] rfl rfl (any_of HT_.out (by kernel_rfl)) (fun _ _ _ h => h) (Or.inl ⟨by rfl, ?_⟩) ?_ ?_
                        rotate_left
                        · intro w'
                          go_simp
                          with_reducible rfl
                        rotate_left
                        · simp only [Act.put, List.setIfInBounds_toArray, List.set_cons_zero, List.set_cons_succ, i64_w, i32_w]
                          rfl
                        refine pure_ (i := 16) (N := some 65) (v := ?_) (a' := ?_) #[true, true, true, true, true, true, true, true, true, true, true, true, true, true, true, true, true, false, false, false, false, false, false, false, false, false, false, false, false, false, false] rfl rfl (any_of HT_.out (by kernel_rfl)) (fun _ _ _ h => h) (Or.inl ⟨by rfl, ?_⟩) ?_ ?_
                        rotate_left
                        · intro w'
                          go_simp
                          with_reducible rfl
                        rotate_left
                        · simp only [Act.put, List.setIfInBounds_toArray, List.set_cons_zero, List.set_cons_succ, i64_w, i32_w]
                          rfl
                        refine pure_ (i := 18) (N := some 67) (v := ?_) (a' := ?_) #[true, true, true, true, true, true, true, true, true, true, true, true, true, true, true, true, true, false, true, false, false, false, false, false, false, false, false, false, false, false, false] rfl rfl (any_of HT_.out (by kernel_rfl)) (fun _ _ _ h => h) (Or.inl ⟨by rfl, ?_⟩) ?_ ?_
                        rotate_left
                        · intro w'
                          go_simp
                          with_reducible rfl
                        rotate_left
                        · simp only [Act.put, List.setIfInBounds_toArray, List.set_cons_zero, List.set_cons_succ, i64_w, i32_w]
                          rfl
                        refine join_ (σ := Unit) 11 #[true, true, true, true, true, true, true, true, true, true, true, true, true, true, true, true, true, true, true, true, false, false, false, false, false, false, false, false, false, false, false] (fun s_ => [(66, .string (strOfNums y379)), (68, .string (strOfNums t352))]) (fun s_ w' => (KL.R w' w.heap.size (fun k_ => (w.heap.size ≤ k_) ∧ some k_ ≠ (.slice Ao53 t352.length co53 : Value).ownBlock ∧ some k_ ≠ (.slice Ao52 t368.length co52 : Value).ownBlock) v375 t374) ∧ (Kd.V (Kd.int .u8) 5 w' w.heap.size (fun k_ => ((P0_ k_ ∨ P1_2_ k_) ∨ w.heap.size ≤ k_) ∧ some k_ ≠ (v375 : Value).ownBlock ∧ some k_ ≠ (.slice Ao53 t352.length co53 : Value).ownBlock ∧ k_ ≠ gb351) (.slice Ao52 y379.length co52) y379) ∧ (Kd.V k43 43 w' w.heap.size (fun k_ => ((P0_ k_ ∨ P1_2_ k_) ∨ w.heap.size ≤ k_) ∧ some k_ ≠ (v375 : Value).ownBlock ∧ some k_ ≠ (.slice Ao53 t352.length co53 : Value).ownBlock ∧ some k_ ≠ (.slice Ao52 t368.length co52 : Value).ownBlock ∧ k_ ≠ gb351) (.slice A0 l0.length c0) l0) ∧ (Kd.V (Kd.int .u8) 5 w' w.heap.size (fun k_ => ((P0_ k_ ∨ P1_2_ k_) ∨ w.heap.size ≤ k_) ∧ some k_ ≠ (v375 : Value).ownBlock ∧ some k_ ≠ (.slice Ao53 t352.length co53 : Value).ownBlock ∧ some k_ ≠ (.slice Ao52 t368.length co52 : Value).ownBlock ∧ k_ ≠ gb351) (.slice A1_2 l1_2.length c1_2) l1_2) ∧ (KL.R w' w.heap.size (fun k_ => (w.heap.size ≤ k_) ∧ some k_ ≠ (v375 : Value).ownBlock ∧ some k_ ≠ (.slice Ao52 t368.length co52 : Value).ownBlock) (.slice Ao53 t352.length co53) t352) ∧ (KL.R w' w.heap.size (fun k_ => (w.heap.size ≤ k_) ∧ some k_ ≠ (v375 : Value).ownBlock ∧ some k_ ≠ (.slice Ao53 t352.length co53 : Value).ownBlock) (.slice Ao52 t368.length co52) t368) ∧ (w'.heap[gb351]? = some (.cells #[.int .i64 a1_0, .int .i64 a1_1, .slice A1_2 l1_2.length c1_2] 43 (0, 0))) ∧ (Below w.heap.size w w')) ?_ ?_
                        rotate_left
                        · intro hCont
                          refine two_ (i := 17) (j := 19) (Ni := some 66) (Nj := some 68) #[true, true, true, true, true, true, true, true, true, true, true, true, true, true, true, true, true, true, true, false, false, false, false, false, false, false, false, false, false, false, false] #[true, true, true, true, true, true, true, true, true, true, true, true, true, true, true, true, true, false, true, true, false, false, false, false, false, false, false, false, false, false, false] rfl rfl rfl rfl (two_of HT_.out (by kernel_rfl)) (by decide) (by decide) (fun K hK => ?_) (fun K hK => ?_)
                          · skip
                            have hcv55 := KL.V_string (P := Try.prog) Try.underlying25 Try.underlying5 Try.underlying9 HO383.out
                            refine value_ (w1 := ?_) (v := ?_) (by rfl) rfl ?_ ?_
                            rotate_left 2
                            · go_simp
                              constructor
                              · rfl
                              · rfl
                            clear hcv55
                            refine hK.out _ _ trivial (fun hHeld => ?_)
                            clear hK K
                            refine norm_ (a' := ?_) ?_ ?_
                            rotate_left
                            · show Act.put _ (some 66) _ = _
                              simp only [Act.put, List.setIfInBounds_toArray, List.set_cons_zero, List.set_cons_succ, i64_w, i32_w]
                              rfl
                            refine one_ (i := 19) (N := some 68) #[true, true, true, true, true, true, true, true, true, true, true, true, true, true, true, true, true, true, true, true, false, false, false, false, false, false, false, false, false, false, false] rfl rfl (one_of HT_.out (by kernel_rfl)) (by decide) (fun K hK => ?_)
                            have hcv56 := KL.R_string (P := Try.prog) Try.underlying25 Try.underlying5 Try.underlying9 (HO_5.out)
                            refine value_ (w1 := ?_) (v := ?_) (by rfl) rfl ?_ ?_
                            rotate_left 2
                            · go_simp
                              constructor
                              · rfl
                              · rfl
                            clear hcv56
                            refine hK.out _ _ trivial (fun hHeld => ?_)
                            clear hK K
                            refine norm_ (a' := ?_) ?_ ?_
                            rotate_left
                            · show Act.put _ (some 68) _ = _
                              simp only [Act.put, List.setIfInBounds_toArray, List.set_cons_zero, List.set_cons_succ, i64_w, i32_w]
                              rfl
                            exact norm_ (by simp only [putAll, Act.put, List.setIfInBounds_toArray, List.set_cons_zero, List.set_cons_succ]) (hCont () _ ⟨(by (with_reducible repeat (first | apply KL.R_alloc | apply KL.R_drewN | apply KL.R_drew)); exact KL.R_mono HO376.out (fun _ hk => ⟨hk.1.1.1, ⟨hk.1.2, hk.2⟩⟩)), (by (with_reducible repeat (first | apply Kd.V_alloc | apply Kd.V_drewN | apply Kd.V_drew)); exact Kd.V_mono HO383.out (fun _ hk => ⟨hk.1.1.1, ⟨hk.1.2, ⟨hk.1.1.2, hk.2⟩⟩⟩)), (by (with_reducible repeat (first | apply Kd.V_alloc | apply Kd.V_drewN | apply Kd.V_drew)); exact Kd.V_mono HO_0.out (fun _ hk => ⟨hk.1.1, ⟨hk.2, ⟨hk.1.2.1, ⟨hk.1.2.2.1, hk.1.2.2.2⟩⟩⟩⟩)), (by (with_reducible repeat (first | apply Kd.V_alloc | apply Kd.V_drewN | apply Kd.V_drew)); exact Kd.V_mono HO_352002.out (fun _ hk => ⟨hk.1.1, ⟨hk.2, ⟨hk.1.2.1, ⟨hk.1.2.2.1, hk.1.2.2.2⟩⟩⟩⟩)), (by (with_reducible repeat (first | apply KL.R_alloc | apply KL.R_drewN | apply KL.R_drew)); exact KL.R_mono HO_5.out (fun _ hk => ⟨hk.1.1, ⟨hk.2, hk.1.2⟩⟩)), (by (with_reducible repeat (first | apply KL.R_alloc | apply KL.R_drewN | apply KL.R_drew)); exact KL.R_mono HO_7.out (fun _ hk => ⟨hk.1.1, ⟨hk.2, hk.1.2⟩⟩)), (by (with_reducible repeat (first | refine blk_drewN ?_ _ | refine blk_drew ?_ | refine blk_alloc ?_ _)); exact BK351.out), (by repeat (first | (with_reducible first | exact HB.out | apply below_alloc | apply pw_below_drewN | apply below_drew1 | refine below_set ?_ GE351.out) | exact HB.out))⟩)
                          · skip
                            have hcv55 := KL.R_string (P := Try.prog) Try.underlying25 Try.underlying5 Try.underlying9 (HO_5.out)
                            refine value_ (w1 := ?_) (v := ?_) (by rfl) rfl ?_ ?_
                            rotate_left 2
                            · go_simp
                              constructor
                              · rfl
                              · rfl
                            clear hcv55
                            refine hK.out _ _ trivial (fun hHeld => ?_)
                            clear hK K
                            refine norm_ (a' := ?_) ?_ ?_
                            rotate_left
                            · show Act.put _ (some 68) _ = _
                              simp only [Act.put, List.setIfInBounds_toArray, List.set_cons_zero, List.set_cons_succ, i64_w, i32_w]
                              rfl
                            refine one_ (i := 17) (N := some 66) #[true, true, true, true, true, true, true, true, true, true, true, true, true, true, true, true, true, true, true, true, false, false, false, false, false, false, false, false, false, false, false] rfl rfl (one_of HT_.out (by kernel_rfl)) (by decide) (fun K hK => ?_)
                            have hcv56 := KL.V_string (P := Try.prog) Try.underlying25 Try.underlying5 Try.underlying9 HO383.out
                            refine value_ (w1 := ?_) (v := ?_) (by rfl) rfl ?_ ?_
                            rotate_left 2
                            · go_simp
                              constructor
                              · rfl
                              · rfl
                            clear hcv56
                            refine hK.out _ _ trivial (fun hHeld => ?_)
                            clear hK K
                            refine norm_ (a' := ?_) ?_ ?_
                            rotate_left
                            · show Act.put _ (some 66) _ = _
                              simp only [Act.put, List.setIfInBounds_toArray, List.set_cons_zero, List.set_cons_succ, i64_w, i32_w]
                              rfl
                            exact norm_ (by simp only [putAll, Act.put, List.setIfInBounds_toArray, List.set_cons_zero, List.set_cons_succ]) (hCont () _ ⟨(by (with_reducible repeat (first | apply KL.R_alloc | apply KL.R_drewN | apply KL.R_drew)); exact KL.R_mono HO376.out (fun _ hk => ⟨hk.1.1.1, ⟨hk.1.2, hk.2⟩⟩)), (by (with_reducible repeat (first | apply Kd.V_alloc | apply Kd.V_drewN | apply Kd.V_drew)); exact Kd.V_mono HO383.out (fun _ hk => ⟨hk.1.1.1, ⟨hk.1.2, ⟨hk.1.1.2, hk.2⟩⟩⟩)), (by (with_reducible repeat (first | apply Kd.V_alloc | apply Kd.V_drewN | apply Kd.V_drew)); exact Kd.V_mono HO_0.out (fun _ hk => ⟨hk.1.1, ⟨hk.2, ⟨hk.1.2.1, ⟨hk.1.2.2.1, hk.1.2.2.2⟩⟩⟩⟩)), (by (with_reducible repeat (first | apply Kd.V_alloc | apply Kd.V_drewN | apply Kd.V_drew)); exact Kd.V_mono HO_352002.out (fun _ hk => ⟨hk.1.1, ⟨hk.2, ⟨hk.1.2.1, ⟨hk.1.2.2.1, hk.1.2.2.2⟩⟩⟩⟩)), (by (with_reducible repeat (first | apply KL.R_alloc | apply KL.R_drewN | apply KL.R_drew)); exact KL.R_mono HO_5.out (fun _ hk => ⟨hk.1.1, ⟨hk.2, hk.1.2⟩⟩)), (by (with_reducible repeat (first | apply KL.R_alloc | apply KL.R_drewN | apply KL.R_drew)); exact KL.R_mono HO_7.out (fun _ hk => ⟨hk.1.1, ⟨hk.2, hk.1.2⟩⟩)), (by (with_reducible repeat (first | refine blk_drewN ?_ _ | refine blk_drew ?_ | refine blk_alloc ?_ _)); exact BK351.out), (by repeat (first | (with_reducible first | exact HB.out | apply below_alloc | apply pw_below_drewN | apply below_drew1 | refine below_set ?_ GE351.out) | exact HB.out))⟩)
                        rintro _ w57 ⟨h0_, h1_, h2_, h3_, h4_, h5_, h6_, h7_⟩
                        have n0_ : Aside0 (KL.R w57 w.heap.size (fun k_ => (w.heap.size ≤ k_) ∧ some k_ ≠ (.slice Ao53 t352.length co53 : Value).ownBlock ∧ some k_ ≠ (.slice Ao52 t368.length co52 : Value).ownBlock) v375 t374) := ⟨h0_⟩
                        have n1_ : Aside0 (Kd.V (Kd.int .u8) 5 w57 w.heap.size (fun k_ => ((P0_ k_ ∨ P1_2_ k_) ∨ w.heap.size ≤ k_) ∧ some k_ ≠ (v375 : Value).ownBlock ∧ some k_ ≠ (.slice Ao53 t352.length co53 : Value).ownBlock ∧ k_ ≠ gb351) (.slice Ao52 y379.length co52) y379) := ⟨h1_⟩
                        have n2_ : Aside0 (Kd.V k43 43 w57 w.heap.size (fun k_ => ((P0_ k_ ∨ P1_2_ k_) ∨ w.heap.size ≤ k_) ∧ some k_ ≠ (v375 : Value).ownBlock ∧ some k_ ≠ (.slice Ao53 t352.length co53 : Value).ownBlock ∧ some k_ ≠ (.slice Ao52 t368.length co52 : Value).ownBlock ∧ k_ ≠ gb351) (.slice A0 l0.length c0) l0) := ⟨h2_⟩
                        have n3_ : Aside0 (Kd.V (Kd.int .u8) 5 w57 w.heap.size (fun k_ => ((P0_ k_ ∨ P1_2_ k_) ∨ w.heap.size ≤ k_) ∧ some k_ ≠ (v375 : Value).ownBlock ∧ some k_ ≠ (.slice Ao53 t352.length co53 : Value).ownBlock ∧ some k_ ≠ (.slice Ao52 t368.length co52 : Value).ownBlock ∧ k_ ≠ gb351) (.slice A1_2 l1_2.length c1_2) l1_2) := ⟨h3_⟩
                        have n4_ : Aside0 (KL.R w57 w.heap.size (fun k_ => (w.heap.size ≤ k_) ∧ some k_ ≠ (v375 : Value).ownBlock ∧ some k_ ≠ (.slice Ao52 t368.length co52 : Value).ownBlock) (.slice Ao53 t352.length co53) t352) := ⟨h4_⟩
                        have n5_ : Aside0 (KL.R w57 w.heap.size (fun k_ => (w.heap.size ≤ k_) ∧ some k_ ≠ (v375 : Value).ownBlock ∧ some k_ ≠ (.slice Ao53 t352.length co53 : Value).ownBlock) (.slice Ao52 t368.length co52) t368) := ⟨h5_⟩
                        have n6_ : Aside0 (w57.heap[gb351]? = some (.cells #[.int .i64 a1_0, .int .i64 a1_1, .slice A1_2 l1_2.length c1_2] 43 (0, 0))) := ⟨h6_⟩
                        have n7_ : Aside0 (Below w.heap.size w w57) := ⟨h7_⟩
                        clear HO_0
                        clear HO_5
                        clear HO_7
                        clear HO_352002
                        clear HO376
                        clear BK351
                        clear HB
                        clear h0_ h1_ h2_ h3_ h4_ h5_ h6_ h7_
                        have HO376 := n0_
                        have HO383 := n1_
                        have HO_0 := n2_
                        have HO_352002 := n3_
                        have HO_5 := n4_
                        have HO_7 := n5_
                        have BK351 := n6_
                        have HB := n7_
                        clear n0_ n1_ n2_ n3_ n4_ n5_ n6_ n7_
                        have hHeld := trivial
                        refine norm_ (a' := ?_) ?_ ?_
                        rotate_left
                        · simp only [putAll, Act.put, List.setIfInBounds_toArray, List.set_cons_zero, List.set_cons_succ]
                          rfl
                        refine pure_ (i := 20) (N := some 69) (v := ?_) (a' := ?_) #[true, true, true, true, true, true, true, true, true, true, true, true, true, true, true, true, true, true, true, true, true, false, false, false, false, false, false, false, false, false, false] rfl rfl (any_of HT_.out (by kernel_rfl)) (fun _ _ _ h => h) (Or.inl ⟨by rfl, ?_⟩) ?_ ?_
                        rotate_left
                        · intro w'
                          go_simp
                          with_reducible rfl
                        rotate_left
                        · simp only [Act.put, List.setIfInBounds_toArray, List.set_cons_zero, List.set_cons_succ, i64_w, i32_w]
                          rfl
                        refine pure_ (i := 21) (N := some 70) (v := ?_) (a' := ?_) #[true, true, true, true, true, true, true, true, true, true, true, true, true, true, true, true, true, true, true, true, true, true, false, false, false, false, false, false, false, false, false] rfl rfl (any_of HT_.out (by kernel_rfl)) (fun _ _ _ h => h) (Or.inl ⟨by rfl, ?_⟩) ?_ ?_
                        rotate_left
                        · intro w'
                          go_simp
                          with_reducible rfl
                        rotate_left
                        · simp only [Act.put, List.setIfInBounds_toArray, List.set_cons_zero, List.set_cons_succ, i64_w, i32_w]
                          rfl
                        refine pure_ (i := 22) (N := some 71) (v := ?_) (a' := ?_) #[true, true, true, true, true, true, true, true, true, true, true, true, true, true, true, true, true, true, true, true, true, true, true, false, false, false, false, false, false, false, false] rfl rfl (any_of HT_.out (by kernel_rfl)) (fun _ _ _ h => h) (Or.inl ⟨by rfl, ?_⟩) ?_ ?_
                        rotate_left
                        · intro w'
                          go_simp
                          with_reducible rfl
                        rotate_left
                        · simp only [Act.put, List.setIfInBounds_toArray, List.set_cons_zero, List.set_cons_succ, i64_w, i32_w]
                          rfl
                        refine pure_ (i := 23) (N := some 72) (v := undef) (a' := ?_) #[true, true, true, true, true, true, true, true, true, true, true, true, true, true, true, true, true, true, true, true, true, true, true, true, false, false, false, false, false, false, false] rfl rfl (any_of HT_.out (by kernel_rfl)) (fun _ _ _ h => h) (Or.inr ⟨by rfl, rfl⟩) ?_ ?_
                        rotate_left
                        · simp only [Act.put, List.setIfInBounds_toArray, List.set_cons_zero, List.set_cons_succ, i64_w, i32_w]
                          rfl
                        refine pure_ (i := 24) (N := some 73) (v := undef) (a' := ?_) #[true, true, true, true, true, true, true, true, true, true, true, true, true, true, true, true, true, true, true, true, true, true, true, true, true, false, false, false, false, false, false] rfl rfl (any_of HT_.out (by kernel_rfl)) (fun _ _ _ h => h) (Or.inr ⟨by rfl, rfl⟩) ?_ ?_
                        rotate_left
                        · simp only [Act.put, List.setIfInBounds_toArray, List.set_cons_zero, List.set_cons_succ, i64_w, i32_w]
                          rfl
                        refine pure_ (i := 25) (N := some 74) (v := undef) (a' := ?_) #[true, true, true, true, true, true, true, true, true, true, true, true, true, true, true, true, true, true, true, true, true, true, true, true, true, true, false, false, false, false, false] rfl rfl (any_of HT_.out (by kernel_rfl)) (fun _ _ _ h => h) (Or.inr ⟨by rfl, rfl⟩) ?_ ?_
                        rotate_left
                        · simp only [Act.put, List.setIfInBounds_toArray, List.set_cons_zero, List.set_cons_succ, i64_w, i32_w]
                          rfl
                        refine pure_ (i := 26) (N := some 75) (v := undef) (a' := ?_) #[true, true, true, true, true, true, true, true, true, true, true, true, true, true, true, true, true, true, true, true, true, true, true, true, true, true, true, false, false, false, false] rfl rfl (any_of HT_.out (by kernel_rfl)) (fun _ _ _ h => h) (Or.inr ⟨by rfl, rfl⟩) ?_ ?_
                        rotate_left
                        · simp only [Act.put, List.setIfInBounds_toArray, List.set_cons_zero, List.set_cons_succ, i64_w, i32_w]
                          rfl
                        refine pure_ (i := 27) (N := some 76) (v := undef) (a' := ?_) #[true, true, true, true, true, true, true, true, true, true, true, true, true, true, true, true, true, true, true, true, true, true, true, true, true, true, true, true, false, false, false] rfl rfl (any_of HT_.out (by kernel_rfl)) (fun _ _ _ h => h) (Or.inr ⟨by rfl, rfl⟩) ?_ ?_
                        rotate_left
                        · simp only [Act.put, List.setIfInBounds_toArray, List.set_cons_zero, List.set_cons_succ, i64_w, i32_w]
                          rfl
                        refine pure_ (i := 28) (N := some 77) (v := undef) (a' := ?_) #[true, true, true, true, true, true, true, true, true, true, true, true, true, true, true, true, true, true, true, true, true, true, true, true, true, true, true, true, true, false, false] rfl rfl (any_of HT_.out (by kernel_rfl)) (fun _ _ _ h => h) (Or.inr ⟨by rfl, rfl⟩) ?_ ?_
                        rotate_left
                        · simp only [Act.put, List.setIfInBounds_toArray, List.set_cons_zero, List.set_cons_succ, i64_w, i32_w]
                          rfl
                        refine pure_ (i := 29) (N := some 78) (v := ?_) (a' := ?_) #[true, true, true, true, true, true, true, true, true, true, true, true, true, true, true, true, true, true, true, true, true, true, true, true, true, true, true, true, true, true, false] rfl rfl (any_of HT_.out (by kernel_rfl)) (fun _ _ _ h => h) (Or.inl ⟨by rfl, ?_⟩) ?_ ?_
                        rotate_left
                        · intro w'
                          go_simp
                          with_reducible rfl
                        rotate_left
                        · simp only [Act.put, List.setIfInBounds_toArray, List.set_cons_zero, List.set_cons_succ, i64_w, i32_w]
                          rfl
                        refine pure_ (i := 30) (N := some 4) (v := ?_) (a' := ?_) #[true, true, true, true, true, true, true, true, true, true, true, true, true, true, true, true, true, true, true, true, true, true, true, true, true, true, true, true, true, true, true] rfl rfl (any_of HT_.out (by kernel_rfl)) (fun _ _ _ h => h) (Or.inl ⟨by rfl, ?_⟩) ?_ ?_
                        rotate_left
                        · intro w'
                          go_simp
                          with_reducible rfl
                        rotate_left
                        · simp only [Act.put, List.setIfInBounds_toArray, List.set_cons_zero, List.set_cons_succ, i64_w, i32_w]
                          rfl
                        refine done_ (done_of HT_.out (by kernel_rfl)) ?_
                        try go_wp2
                        go_ret
                        exact ⟨by first | rfl | (simp [errW_none, errW_some] <;> rfl) | (simp [*, errW_none, errW_some] <;> rfl), by repeat (first | (with_reducible first | exact HB.out | apply below_alloc | apply pw_below_drewN | apply below_drew1 | refine below_set ?_ GE351.out) | exact HB.out)⟩
                    · rw [if_neg c35] at H
                      exact absurd H (by simp)
                  · rw [if_neg c34] at H
                    exact absurd H (by simp)
                · rw [if_neg c33] at H
                  have c33b0 : decide ((t352.length : Int) < (t368.length : Int)) = false := decide_eq_false c33
                  have c33b1 : decide (t352.length < t368.length) = false := decide_eq_false (fun h => c33 (Int.ofNat_lt.mpr h))
                  clear c33
                  obtain rfl := Option.some.inj H
                  try go_wp2_with (first | ((with_reducible refine gate_callee (f := 10) rfl ?_); refine goesL_ (some 46) rfl rfl Try.func10 (by kernel_rfl) rfl #[.agg #[.slice A0 l0.length c0, .bool true]] rfl (by (try simp only [List.map_toArray, List.map_cons, List.map_nil]); first | done | rfl | (simp only [List.length_drop, List.length_take]; rfl)) ?_; (with_reducible refine (trans_Encode.calls kj6 _ _ l0 true t374 t377 _ ?side1 ?side2 A29.out).mono ?_); (case side1 => repeat (first | exact (Kd.V_reads' HO_0.out).2.2 | (with_reducible refine Kd.C_alloc ?_ _) | (with_reducible refine Kd.C_drewN ?_ _) | (with_reducible refine Kd.C_drew ?_))); (case side2 => exact (Kd.V_reads' HO_0.out).2.1); rintro e w58 ⟨v375, rfl, ho0, hb⟩; refine ⟨_, rfl, ?_⟩; have n0_ := Aside0.mk (Kd.V_elder' (by (with_reducible repeat (first | apply Kd.V_alloc | apply Kd.V_drewN | apply Kd.V_drew)); exact HO_0.out) (KL.R_base ho0) hb); have n1_ := Aside0.mk (KL.R_elder' (by (with_reducible repeat (first | apply KL.R_alloc | apply KL.R_drewN | apply KL.R_drew)); exact HO_5.out) (KL.R_base ho0) hb); have n2_ := Aside0.mk (KL.R_elder' (by (with_reducible repeat (first | apply KL.R_alloc | apply KL.R_drewN | apply KL.R_drew)); exact HO_7.out) (KL.R_base ho0) hb); have n3_ := Aside0.mk (Kd.V_elder' (by (with_reducible repeat (first | apply Kd.V_alloc | apply Kd.V_drewN | apply Kd.V_drew)); exact HO_352002.out) (KL.R_base ho0) hb); have n4_ := Aside0.mk (KL.R_lower (KL.R_new' (KL.R_new' (KL.R_newM (M := fun k_ => (w.heap.size ≤ k_)) ho0 (below_size (by repeat (first | (with_reducible first | exact HB.out | apply below_alloc | apply pw_below_drewN | apply below_drew1 | refine below_set ?_ GE351.out) | exact HB.out))) (fun k_ h_ => h_)) (KL.R_lt (by (with_reducible repeat (first | apply KL.R_alloc | apply KL.R_drewN | apply KL.R_drew)); exact HO_5.out))) (KL.R_lt (by (with_reducible repeat (first | apply KL.R_alloc | apply KL.R_drewN | apply KL.R_drew)); exact HO_7.out))) (below_size (by repeat (first | (with_reducible first | exact HB.out | apply below_alloc | apply pw_below_drewN | apply below_drew1 | refine below_set ?_ GE351.out) | exact HB.out)))); have n5_ := Aside0.mk (blk_below (g := gb351) (o := .cells #[.int .i64 a1_0, .int .i64 a1_1, .slice A1_2 l1_2.length c1_2] 43 (0, 0)) (by (with_reducible repeat (first | refine blk_drewN ?_ _ | refine blk_drew ?_ | refine blk_alloc ?_ _)); exact BK351.out) hb); have n6_ := Aside0.mk (below_step (by repeat (first | (with_reducible first | exact HB.out | apply below_alloc | apply pw_below_drewN | apply below_drew1 | refine below_set ?_ GE351.out) | exact HB.out)) hb); clear HO_0; clear HO_5; clear HO_7; clear HO_352002; clear BK351; clear HB; have HO_0 := n0_; have HO_5 := n1_; have HO_7 := n2_; have HO_352002 := n3_; have HO376 := n4_; have BK351 := n5_; have HB := n6_; clear n0_ n1_ n2_ n3_ n4_ n5_ n6_; (try clear hb); (try clear hb2); (try clear hk); (try clear hi); (try clear ho0)))
                  have n0_ := Aside0.mk (Kd.V_drew HO_0.out)
                  have n1_ := Aside0.mk (KL.R_drew HO_5.out)
                  have n2_ := Aside0.mk (KL.R_drew HO_7.out)
                  have n3_ := Aside0.mk (Kd.V_drew HO_352002.out)
                  have n4_ := Aside0.mk (KL.R_drew HO376.out)
                  have n5_ := Aside0.mk (blk_drew BK351.out)
                  have n6_ := Aside0.mk (below_drew1 HB.out)
                  clear HO_0
                  clear HO_5
                  clear HO_7
                  clear HO_352002
                  clear HO376
                  clear BK351
                  clear HB
                  have HO_0 := n0_
                  have HO_5 := n1_
                  have HO_7 := n2_
                  have HO_352002 := n3_
                  have HO376 := n4_
                  have BK351 := n5_
                  have HB := n6_
                  clear n0_ n1_ n2_ n3_ n4_ n5_ n6_
                  refine start_ (n := 31) (S := fun w' => True) (ds := []) #[false, false, false, false, false, false, false, false, false, false, false, false, false, false, false, false, false, false, false, false, false, false, false, false, false, false, false, false, false, false, false] (by kernel_rfl) rfl rfl trivial (fun hHeld => ?_); refine with_tabW cuecardlaw05_TransJoins.tab6 cuecardlaw05_TransJoins.bits6 (fun HT_ HW_ => ?_)
                  generalize w58.drew = w59 at HO_0 HO_5 HO_7 HO_352002 HO376 BK351 HB hHeld ⊢
                  refine one_ (i := 0) (N := some 49) #[true, false, false, false, false, false, false, false, false, false, false, false, false, false, false, false, false, false, false, false, false, false, false, false, false, false, false, false, false, false, false] rfl rfl (one_of HT_.out (by kernel_rfl)) (by decide) (fun K hK => ?_)
                  refine goes_ Try.func12 (by kernel_rfl) rfl #[] (by rfl) rfl rfl (by (try simp only [List.map_toArray, List.map_cons, List.map_nil]); first | done | rfl | (simp only [List.length_drop, List.length_take]; rfl)) ?_
                  with_reducible refine (cuecardlaw05_alive.calls kj6  true _ A30.out).mono ?_
                  rintro e w60 ⟨rfl, hb⟩
                  refine ⟨_, rfl, ?_⟩
                  have n0_ := Aside0.mk (Kd.V_below (by (with_reducible repeat (first | apply Kd.V_alloc | apply Kd.V_drewN | apply Kd.V_drew)); exact HO_0.out) hb)
                  have n1_ := Aside0.mk (KL.R_below (by (with_reducible repeat (first | apply KL.R_alloc | apply KL.R_drewN | apply KL.R_drew)); exact HO_5.out) hb)
                  have n2_ := Aside0.mk (KL.R_below (by (with_reducible repeat (first | apply KL.R_alloc | apply KL.R_drewN | apply KL.R_drew)); exact HO_7.out) hb)
                  have n3_ := Aside0.mk (Kd.V_below (by (with_reducible repeat (first | apply Kd.V_alloc | apply Kd.V_drewN | apply Kd.V_drew)); exact HO_352002.out) hb)
                  have n4_ := Aside0.mk (KL.R_below (by (with_reducible repeat (first | apply KL.R_alloc | apply KL.R_drewN | apply KL.R_drew)); exact HO376.out) hb)
                  have n5_ := Aside0.mk (blk_below (g := gb351) (o := .cells #[.int .i64 a1_0, .int .i64 a1_1, .slice A1_2 l1_2.length c1_2] 43 (0, 0)) (by (with_reducible repeat (first | refine blk_drewN ?_ _ | refine blk_drew ?_ | refine blk_alloc ?_ _)); exact BK351.out) hb)
                  have n6_ := Aside0.mk (below_step (by repeat (first | (with_reducible first | exact HB.out | apply below_alloc | apply pw_below_drewN | apply below_drew1 | refine below_set ?_ GE351.out) | exact HB.out)) hb)
                  clear HO_0
                  clear HO_5
                  clear HO_7
                  clear HO_352002
                  clear HO376
                  clear BK351
                  clear HB
                  have HO_0 := n0_
                  have HO_5 := n1_
                  have HO_7 := n2_
                  have HO_352002 := n3_
                  have HO376 := n4_
                  have BK351 := n5_
                  have HB := n6_
                  clear n0_ n1_ n2_ n3_ n4_ n5_ n6_
                  (try clear hb)
                  (try clear hb2)
                  (try clear hk)
                  (try clear hi)
                  obtain ⟨Ao61, co61, eo61⟩ := KL.R_slice HO_7.out
                  (first | subst eo61 | (injection eo61 with f1_ f2_ f3_; have f4_ := f1_.symm; have f5_ := f3_.symm; clear f1_ f2_ f3_; subst f4_; subst f5_))
                  obtain ⟨Ao62, co62, eo62⟩ := KL.R_slice HO_5.out
                  (first | subst eo62 | (injection eo62 with f1_ f2_ f3_; have f4_ := f1_.symm; have f5_ := f3_.symm; clear f1_ f2_ f3_; subst f4_; subst f5_))
                  refine hK.out _ _ trivial (fun hHeld => ?_)
                  clear hK K
                  refine norm_ (a' := ?_) ?_ ?_
                  rotate_left
                  · show Act.put _ (some 49) _ = _
                    simp only [Act.put, List.setIfInBounds_toArray, List.set_cons_zero, List.set_cons_succ, i64_w, i32_w]
                    rfl
                  refine pure_ (i := 1) (N := some 50) (v := ?_) (a' := ?_) #[true, true, false, false, false, false, false, false, false, false, false, false, false, false, false, false, false, false, false, false, false, false, false, false, false, false, false, false, false, false, false] rfl rfl (any_of HT_.out (by kernel_rfl)) (fun _ _ _ h => h) (Or.inl ⟨by rfl, ?_⟩) ?_ ?_
                  rotate_left
                  · intro w'
                    go_simp
                    with_reducible rfl
                  rotate_left
                  · simp only [Act.put, List.setIfInBounds_toArray, List.set_cons_zero, List.set_cons_succ, i64_w, i32_w]
                    rfl
                  refine pure_ (i := 2) (N := some 51) (v := ?_) (a' := ?_) #[true, true, true, false, false, false, false, false, false, false, false, false, false, false, false, false, false, false, false, false, false, false, false, false, false, false, false, false, false, false, false] rfl rfl (any_of HT_.out (by kernel_rfl)) (fun _ _ _ h => h) (Or.inl ⟨by rfl, ?_⟩) ?_ ?_
                  rotate_left
                  · intro w'
                    go_simp
                    with_reducible rfl
                  rotate_left
                  · simp only [Act.put, List.setIfInBounds_toArray, List.set_cons_zero, List.set_cons_succ, i64_w, i32_w]
                    rfl
                  refine pure_ (i := 3) (N := some 52) (v := ?_) (a' := ?_) #[true, true, true, true, false, false, false, false, false, false, false, false, false, false, false, false, false, false, false, false, false, false, false, false, false, false, false, false, false, false, false] rfl rfl (any_of HT_.out (by kernel_rfl)) (fun _ _ _ h => h) (Or.inl ⟨by rfl, ?_⟩) ?_ ?_
                  rotate_left
                  · intro w'
                    go_simp
                    with_reducible rfl
                  rotate_left
                  · simp only [Act.put, List.setIfInBounds_toArray, List.set_cons_zero, List.set_cons_succ, i64_w, i32_w]
                    rfl
                  refine pure_ (i := 4) (N := some 53) (v := ?_) (a' := ?_) #[true, true, true, true, true, false, false, false, false, false, false, false, false, false, false, false, false, false, false, false, false, false, false, false, false, false, false, false, false, false, false] rfl rfl (any_of HT_.out (by kernel_rfl)) (fun _ _ _ h => h) (Or.inl ⟨by rfl, ?_⟩) ?_ ?_
                  rotate_left
                  · intro w'
                    go_simp
                    with_reducible rfl
                  rotate_left
                  · simp only [Act.put, List.setIfInBounds_toArray, List.set_cons_zero, List.set_cons_succ, i64_w, i32_w]
                    rfl
                  refine pure_ (i := 5) (N := some 54) (v := ?_) (a' := ?_) #[true, true, true, true, true, true, false, false, false, false, false, false, false, false, false, false, false, false, false, false, false, false, false, false, false, false, false, false, false, false, false] rfl rfl (any_of HT_.out (by kernel_rfl)) (fun _ _ _ h => h) (Or.inl ⟨by rfl, ?_⟩) ?_ ?_
                  rotate_left
                  · intro w'
                    go_simp
                    with_reducible rfl
                  rotate_left
                  · simp only [Act.put, List.setIfInBounds_toArray, List.set_cons_zero, List.set_cons_succ, i64_w, i32_w]
                    rfl
                  refine pure_ (i := 6) (N := some 55) (v := ?_) (a' := ?_) #[true, true, true, true, true, true, true, false, false, false, false, false, false, false, false, false, false, false, false, false, false, false, false, false, false, false, false, false, false, false, false] rfl rfl (any_of HT_.out (by kernel_rfl)) (fun _ _ _ h => h) (Or.inl ⟨by rfl, ?_⟩) ?_ ?_
                  rotate_left
                  · intro w'
                    go_simp
                    with_reducible rfl
                  rotate_left
                  · simp only [Act.put, List.setIfInBounds_toArray, List.set_cons_zero, List.set_cons_succ, i64_w, i32_w]
                    rfl
                  refine pure_ (i := 7) (N := some 56) (v := ?_) (a' := ?_) #[true, true, true, true, true, true, true, true, false, false, false, false, false, false, false, false, false, false, false, false, false, false, false, false, false, false, false, false, false, false, false] rfl rfl (any_of HT_.out (by kernel_rfl)) (fun _ _ _ h => h) (Or.inl ⟨by rfl, ?_⟩) ?_ ?_
                  rotate_left
                  · intro w'
                    go_simp
                    with_reducible rfl
                  rotate_left
                  · simp only [Act.put, List.setIfInBounds_toArray, List.set_cons_zero, List.set_cons_succ, i64_w, i32_w]
                    rfl
                  refine pure_ (i := 8) (N := some 57) (v := ?_) (a' := ?_) #[true, true, true, true, true, true, true, true, true, false, false, false, false, false, false, false, false, false, false, false, false, false, false, false, false, false, false, false, false, false, false] rfl rfl (any_of HT_.out (by kernel_rfl)) (fun _ _ _ h => h) (Or.inl ⟨by rfl, ?_⟩) ?_ ?_
                  rotate_left
                  · intro w'
                    go_simp
                    with_reducible rfl
                  rotate_left
                  · simp only [Act.put, List.setIfInBounds_toArray, List.set_cons_zero, List.set_cons_succ, i64_w, i32_w]
                    rfl
                  refine pure_ (i := 9) (N := some 58) (v := ?_) (a' := ?_) #[true, true, true, true, true, true, true, true, true, true, false, false, false, false, false, false, false, false, false, false, false, false, false, false, false, false, false, false, false, false, false] rfl rfl (any_of HT_.out (by kernel_rfl)) (fun _ _ _ h => h) (Or.inl ⟨by rfl, ?_⟩) ?_ ?_
                  rotate_left
                  · intro w'
                    go_simp
                    with_reducible rfl
                  rotate_left
                  · simp only [Act.put, List.setIfInBounds_toArray, List.set_cons_zero, List.set_cons_succ, i64_w, i32_w]
                    rfl
                  refine pure_ (i := 10) (N := some 59) (v := ?_) (a' := ?_) #[true, true, true, true, true, true, true, true, true, true, true, false, false, false, false, false, false, false, false, false, false, false, false, false, false, false, false, false, false, false, false] rfl rfl (any_of HT_.out (by kernel_rfl)) (fun _ _ _ h => h) (Or.inl ⟨by rfl, ?_⟩) ?_ ?_
                  rotate_left
                  · intro w'
                    go_simp
                    with_reducible rfl
                  rotate_left
                  · simp only [Act.put, List.setIfInBounds_toArray, List.set_cons_zero, List.set_cons_succ, i64_w, i32_w]
                    rfl
                  refine pure_ (i := 11) (N := some 60) (v := ?_) (a' := ?_) #[true, true, true, true, true, true, true, true, true, true, true, true, false, false, false, false, false, false, false, false, false, false, false, false, false, false, false, false, false, false, false] rfl rfl (any_of HT_.out (by kernel_rfl)) (fun _ _ _ h => h) (Or.inl ⟨by rfl, ?_⟩) ?_ ?_
                  rotate_left
                  · intro w'
                    go_simp
                    with_reducible rfl
                  rotate_left
                  · simp only [Act.put, List.setIfInBounds_toArray, List.set_cons_zero, List.set_cons_succ, i64_w, i32_w]
                    rfl
                  refine pure_ (i := 12) (N := some 61) (v := ?_) (a' := ?_) #[true, true, true, true, true, true, true, true, true, true, true, true, true, false, false, false, false, false, false, false, false, false, false, false, false, false, false, false, false, false, false] rfl rfl (any_of HT_.out (by kernel_rfl)) (fun _ _ _ h => h) (Or.inl ⟨by rfl, ?_⟩) ?_ ?_
                  rotate_left
                  · intro w'
                    go_simp
                    with_reducible rfl
                  rotate_left
                  · simp only [Act.put, List.setIfInBounds_toArray, List.set_cons_zero, List.set_cons_succ, i64_w, i32_w]
                    rfl
                  refine pure_ (i := 13) (N := some 62) (v := undef) (a' := ?_) #[true, true, true, true, true, true, true, true, true, true, true, true, true, true, false, false, false, false, false, false, false, false, false, false, false, false, false, false, false, false, false] rfl rfl (any_of HT_.out (by kernel_rfl)) (fun _ _ _ h => h) (Or.inr ⟨by rfl, rfl⟩) ?_ ?_
                  rotate_left
                  · simp only [Act.put, List.setIfInBounds_toArray, List.set_cons_zero, List.set_cons_succ, i64_w, i32_w]
                    rfl
                  refine pure_ (i := 14) (N := some 63) (v := undef) (a' := ?_) #[true, true, true, true, true, true, true, true, true, true, true, true, true, true, true, false, false, false, false, false, false, false, false, false, false, false, false, false, false, false, false] rfl rfl (any_of HT_.out (by kernel_rfl)) (fun _ _ _ h => h) (Or.inr ⟨by rfl, rfl⟩) ?_ ?_
                  rotate_left
                  · simp only [Act.put, List.setIfInBounds_toArray, List.set_cons_zero, List.set_cons_succ, i64_w, i32_w]
                    rfl
                  refine pure_ (i := 15) (N := some 64) (v := undef) (a' := ?_) #[true, true, true, true, true, true, true, true, true, true, true, true, true, true, true, true, false, false, false, false, false, false, false, false, false, false, false, false, false, false, false] rfl rfl (any_of HT_.out (by kernel_rfl)) (fun _ _ _ h => h) (Or.inr ⟨by rfl, rfl⟩) ?_ ?_
                  rotate_left
                  · simp only [Act.put, List.setIfInBounds_toArray, List.set_cons_zero, List.set_cons_succ, i64_w, i32_w]
                    rfl
                  refine pure_ (i := 16) (N := some 65) (v := undef) (a' := ?_) #[true, true, true, true, true, true, true, true, true, true, true, true, true, true, true, true, true, false, false, false, false, false, false, false, false, false, false, false, false, false, false] rfl rfl (any_of HT_.out (by kernel_rfl)) (fun _ _ _ h => h) (Or.inr ⟨by rfl, rfl⟩) ?_ ?_
                  rotate_left
                  · simp only [Act.put, List.setIfInBounds_toArray, List.set_cons_zero, List.set_cons_succ, i64_w, i32_w]
                    rfl
                  refine pure_ (i := 17) (N := some 66) (v := undef) (a' := ?_) #[true, true, true, true, true, true, true, true, true, true, true, true, true, true, true, true, true, true, false, false, false, false, false, false, false, false, false, false, false, false, false] rfl rfl (any_of HT_.out (by kernel_rfl)) (fun _ _ _ h => h) (Or.inr ⟨by rfl, rfl⟩) ?_ ?_
                  rotate_left
                  · simp only [Act.put, List.setIfInBounds_toArray, List.set_cons_zero, List.set_cons_succ, i64_w, i32_w]
                    rfl
                  refine pure_ (i := 18) (N := some 67) (v := undef) (a' := ?_) #[true, true, true, true, true, true, true, true, true, true, true, true, true, true, true, true, true, true, true, false, false, false, false, false, false, false, false, false, false, false, false] rfl rfl (any_of HT_.out (by kernel_rfl)) (fun _ _ _ h => h) (Or.inr ⟨by rfl, rfl⟩) ?_ ?_
                  rotate_left
                  · simp only [Act.put, List.setIfInBounds_toArray, List.set_cons_zero, List.set_cons_succ, i64_w, i32_w]
                    rfl
                  refine pure_ (i := 19) (N := some 68) (v := undef) (a' := ?_) #[true, true, true, true, true, true, true, true, true, true, true, true, true, true, true, true, true, true, true, true, false, false, false, false, false, false, false, false, false, false, false] rfl rfl (any_of HT_.out (by kernel_rfl)) (fun _ _ _ h => h) (Or.inr ⟨by rfl, rfl⟩) ?_ ?_
                  rotate_left
                  · simp only [Act.put, List.setIfInBounds_toArray, List.set_cons_zero, List.set_cons_succ, i64_w, i32_w]
                    rfl
                  refine pure_ (i := 20) (N := some 69) (v := undef) (a' := ?_) #[true, true, true, true, true, true, true, true, true, true, true, true, true, true, true, true, true, true, true, true, true, false, false, false, false, false, false, false, false, false, false] rfl rfl (any_of HT_.out (by kernel_rfl)) (fun _ _ _ h => h) (Or.inr ⟨by rfl, rfl⟩) ?_ ?_
                  rotate_left
                  · simp only [Act.put, List.setIfInBounds_toArray, List.set_cons_zero, List.set_cons_succ, i64_w, i32_w]
                    rfl
                  refine pure_ (i := 21) (N := some 70) (v := ?_) (a' := ?_) #[true, true, true, true, true, true, true, true, true, true, true, true, true, true, true, true, true, true, true, true, true, true, false, false, false, false, false, false, false, false, false] rfl rfl (any_of HT_.out (by kernel_rfl)) (fun _ _ _ h => h) (Or.inl ⟨by rfl, ?_⟩) ?_ ?_
                  rotate_left
                  · intro w'
                    go_simp
                    with_reducible rfl
                  rotate_left
                  · simp only [Act.put, List.setIfInBounds_toArray, List.set_cons_zero, List.set_cons_succ, i64_w, i32_w]
                    rfl
                  refine pure_ (i := 22) (N := some 71) (v := ?_) (a' := ?_) #[true, true, true, true, true, true, true, true, true, true, true, true, true, true, true, true, true, true, true, true, true, true, true, false, false, false, false, false, false, false, false] rfl rfl (any_of HT_.out (by kernel_rfl)) (fun _ _ _ h => h) (Or.inl ⟨by rfl, ?_⟩) ?_ ?_
                  rotate_left
                  · intro w'
                    go_simp
                    with_reducible rfl
                  rotate_left
                  · simp only [Act.put, List.setIfInBounds_toArray, List.set_cons_zero, List.set_cons_succ, i64_w, i32_w]
                    rfl
                  refine pure_ (i := 23) (N := some 72) (v := undef) (a' := ?_) #[true, true, true, true, true, true, true, true, true, true, true, true, true, true, true, true, true, true, true, true, true, true, true, true, false, false, false, false, false, false, false] rfl rfl (any_of HT_.out (by kernel_rfl)) (fun _ _ _ h => h) (Or.inr ⟨by rfl, rfl⟩) ?_ ?_
                  rotate_left
                  · simp only [Act.put, List.setIfInBounds_toArray, List.set_cons_zero, List.set_cons_succ, i64_w, i32_w]
                    rfl
                  refine pure_ (i := 24) (N := some 73) (v := undef) (a' := ?_) #[true, true, true, true, true, true, true, true, true, true, true, true, true, true, true, true, true, true, true, true, true, true, true, true, true, false, false, false, false, false, false] rfl rfl (any_of HT_.out (by kernel_rfl)) (fun _ _ _ h => h) (Or.inr ⟨by rfl, rfl⟩) ?_ ?_
                  rotate_left
                  · simp only [Act.put, List.setIfInBounds_toArray, List.set_cons_zero, List.set_cons_succ, i64_w, i32_w]
                    rfl
                  refine pure_ (i := 25) (N := some 74) (v := undef) (a' := ?_) #[true, true, true, true, true, true, true, true, true, true, true, true, true, true, true, true, true, true, true, true, true, true, true, true, true, true, false, false, false, false, false] rfl rfl (any_of HT_.out (by kernel_rfl)) (fun _ _ _ h => h) (Or.inr ⟨by rfl, rfl⟩) ?_ ?_
                  rotate_left
                  · simp only [Act.put, List.setIfInBounds_toArray, List.set_cons_zero, List.set_cons_succ, i64_w, i32_w]
                    rfl
                  refine pure_ (i := 26) (N := some 75) (v := undef) (a' := ?_) #[true, true, true, true, true, true, true, true, true, true, true, true, true, true, true, true, true, true, true, true, true, true, true, true, true, true, true, false, false, false, false] rfl rfl (any_of HT_.out (by kernel_rfl)) (fun _ _ _ h => h) (Or.inr ⟨by rfl, rfl⟩) ?_ ?_
                  rotate_left
                  · simp only [Act.put, List.setIfInBounds_toArray, List.set_cons_zero, List.set_cons_succ, i64_w, i32_w]
                    rfl
                  refine pure_ (i := 27) (N := some 76) (v := undef) (a' := ?_) #[true, true, true, true, true, true, true, true, true, true, true, true, true, true, true, true, true, true, true, true, true, true, true, true, true, true, true, true, false, false, false] rfl rfl (any_of HT_.out (by kernel_rfl)) (fun _ _ _ h => h) (Or.inr ⟨by rfl, rfl⟩) ?_ ?_
                  rotate_left
                  · simp only [Act.put, List.setIfInBounds_toArray, List.set_cons_zero, List.set_cons_succ, i64_w, i32_w]
                    rfl
                  refine pure_ (i := 28) (N := some 77) (v := undef) (a' := ?_) #[true, true, true, true, true, true, true, true, true, true, true, true, true, true, true, true, true, true, true, true, true, true, true, true, true, true, true, true, true, false, false] rfl rfl (any_of HT_.out (by kernel_rfl)) (fun _ _ _ h => h) (Or.inr ⟨by rfl, rfl⟩) ?_ ?_
                  rotate_left
                  · simp only [Act.put, List.setIfInBounds_toArray, List.set_cons_zero, List.set_cons_succ, i64_w, i32_w]
                    rfl
                  refine pure_ (i := 29) (N := some 78) (v := ?_) (a' := ?_) #[true, true, true, true, true, true, true, true, true, true, true, true, true, true, true, true, true, true, true, true, true, true, true, true, true, true, true, true, true, true, false] rfl rfl (any_of HT_.out (by kernel_rfl)) (fun _ _ _ h => h) (Or.inl ⟨by rfl, ?_⟩) ?_ ?_
                  rotate_left
                  · intro w'
                    go_simp
                    with_reducible rfl
                  rotate_left
                  · simp only [Act.put, List.setIfInBounds_toArray, List.set_cons_zero, List.set_cons_succ, i64_w, i32_w]
                    rfl
                  refine pure_ (i := 30) (N := some 4) (v := ?_) (a' := ?_) #[true, true, true, true, true, true, true, true, true, true, true, true, true, true, true, true, true, true, true, true, true, true, true, true, true, true, true, true, true, true, true] rfl rfl (any_of HT_.out (by kernel_rfl)) (fun _ _ _ h => h) (Or.inl ⟨by rfl, ?_⟩) ?_ ?_
                  rotate_left
                  · intro w'
                    go_simp
                    with_reducible rfl
                  rotate_left
                  · simp only [Act.put, List.setIfInBounds_toArray, List.set_cons_zero, List.set_cons_succ, i64_w, i32_w]
                    rfl
                  refine done_ (done_of HT_.out (by kernel_rfl)) ?_
                  try go_wp2
                  go_ret
                  exact ⟨by first | rfl | (simp [errW_none, errW_some] <;> rfl) | (simp [*, errW_none, errW_some] <;> rfl), by repeat (first | (with_reducible first | exact HB.out | apply below_alloc | apply pw_below_drewN | apply below_drew1 | refine below_set ?_ GE351.out) | exact HB.out)⟩
              · rw [if_neg c32] at H
                have c32b0 : (t377 == 0) = false := beq_eq_false_iff_ne.mpr c32
                have c32b1 : (t377 != 0) = true := bne_iff_ne.mpr c32
                obtain rfl := Option.some.inj H
                try go_wp2_with (first | ((with_reducible refine gate_callee (f := 10) rfl ?_); refine goesL_ (some 46) rfl rfl Try.func10 (by kernel_rfl) rfl #[.agg #[.slice A0 l0.length c0, .bool true]] rfl (by (try simp only [List.map_toArray, List.map_cons, List.map_nil]); first | done | rfl | (simp only [List.length_drop, List.length_take]; rfl)) ?_; (with_reducible refine (trans_Encode.calls kj6 _ _ l0 true t374 t377 _ ?side1 ?side2 A29.out).mono ?_); (case side1 => repeat (first | exact (Kd.V_reads' HO_0.out).2.2 | (with_reducible refine Kd.C_alloc ?_ _) | (with_reducible refine Kd.C_drewN ?_ _) | (with_reducible refine Kd.C_drew ?_))); (case side2 => exact (Kd.V_reads' HO_0.out).2.1); rintro e w63 ⟨v375, rfl, ho0, hb⟩; refine ⟨_, rfl, ?_⟩; have n0_ := Aside0.mk (Kd.V_elder' (by (with_reducible repeat (first | apply Kd.V_alloc | apply Kd.V_drewN | apply Kd.V_drew)); exact HO_0.out) (KL.R_base ho0) hb); have n1_ := Aside0.mk (KL.R_elder' (by (with_reducible repeat (first | apply KL.R_alloc | apply KL.R_drewN | apply KL.R_drew)); exact HO_5.out) (KL.R_base ho0) hb); have n2_ := Aside0.mk (KL.R_elder' (by (with_reducible repeat (first | apply KL.R_alloc | apply KL.R_drewN | apply KL.R_drew)); exact HO_7.out) (KL.R_base ho0) hb); have n3_ := Aside0.mk (Kd.V_elder' (by (with_reducible repeat (first | apply Kd.V_alloc | apply Kd.V_drewN | apply Kd.V_drew)); exact HO_352002.out) (KL.R_base ho0) hb); have n4_ := Aside0.mk (KL.R_lower (KL.R_new' (KL.R_new' (KL.R_newM (M := fun k_ => (w.heap.size ≤ k_)) ho0 (below_size (by repeat (first | (with_reducible first | exact HB.out | apply below_alloc | apply pw_below_drewN | apply below_drew1 | refine below_set ?_ GE351.out) | exact HB.out))) (fun k_ h_ => h_)) (KL.R_lt (by (with_reducible repeat (first | apply KL.R_alloc | apply KL.R_drewN | apply KL.R_drew)); exact HO_5.out))) (KL.R_lt (by (with_reducible repeat (first | apply KL.R_alloc | apply KL.R_drewN | apply KL.R_drew)); exact HO_7.out))) (below_size (by repeat (first | (with_reducible first | exact HB.out | apply below_alloc | apply pw_below_drewN | apply below_drew1 | refine below_set ?_ GE351.out) | exact HB.out)))); have n5_ := Aside0.mk (blk_below (g := gb351) (o := .cells #[.int .i64 a1_0, .int .i64 a1_1, .slice A1_2 l1_2.length c1_2] 43 (0, 0)) (by (with_reducible repeat (first | refine blk_drewN ?_ _ | refine blk_drew ?_ | refine blk_alloc ?_ _)); exact BK351.out) hb); have n6_ := Aside0.mk (below_step (by repeat (first | (with_reducible first | exact HB.out | apply below_alloc | apply pw_below_drewN | apply below_drew1 | refine below_set ?_ GE351.out) | exact HB.out)) hb); clear HO_0; clear HO_5; clear HO_7; clear HO_352002; clear BK351; clear HB; have HO_0 := n0_; have HO_5 := n1_; have HO_7 := n2_; have HO_352002 := n3_; have HO376 := n4_; have BK351 := n5_; have HB := n6_; clear n0_ n1_ n2_ n3_ n4_ n5_ n6_; (try clear hb); (try clear hb2); (try clear hk); (try clear hi); (try clear ho0)))
                have n0_ := Aside0.mk (Kd.V_drew HO_0.out)
                have n1_ := Aside0.mk (KL.R_drew HO_5.out)
                have n2_ := Aside0.mk (KL.R_drew HO_7.out)
                have n3_ := Aside0.mk (Kd.V_drew HO_352002.out)
                have n4_ := Aside0.mk (KL.R_drew HO376.out)
                have n5_ := Aside0.mk (blk_drew BK351.out)
                have n6_ := Aside0.mk (below_drew1 HB.out)
                clear HO_0
                clear HO_5
                clear HO_7
                clear HO_352002
                clear HO376
                clear BK351
                clear HB
                have HO_0 := n0_
                have HO_5 := n1_
                have HO_7 := n2_
                have HO_352002 := n3_
                have HO376 := n4_
                have BK351 := n5_
                have HB := n6_
                clear n0_ n1_ n2_ n3_ n4_ n5_ n6_
                refine start_ (n := 31) (S := fun w' => True) (ds := []) #[false, false, false, false, false, false, false, false, false, false, false, false, false, false, false, false, false, false, false, false, false, false, false, false, false, false, false, false, false, false, false] (by kernel_rfl) rfl rfl trivial (fun hHeld => ?_); refine with_tabW cuecardlaw05_TransJoins.tab6 cuecardlaw05_TransJoins.bits6 (fun HT_ HW_ => ?_)
                generalize w63.drew = w64 at HO_0 HO_5 HO_7 HO_352002 HO376 BK351 HB hHeld ⊢
                refine one_ (i := 0) (N := some 49) #[true, false, false, false, false, false, false, false, false, false, false, false, false, false, false, false, false, false, false, false, false, false, false, false, false, false, false, false, false, false, false] rfl rfl (one_of HT_.out (by kernel_rfl)) (by decide) (fun K hK => ?_)
                refine goes_ Try.func12 (by kernel_rfl) rfl #[] (by rfl) rfl rfl (by (try simp only [List.map_toArray, List.map_cons, List.map_nil]); first | done | rfl | (simp only [List.length_drop, List.length_take]; rfl)) ?_
                with_reducible refine (cuecardlaw05_alive.calls kj6  true _ A30.out).mono ?_
                rintro e w65 ⟨rfl, hb⟩
                refine ⟨_, rfl, ?_⟩
                have n0_ := Aside0.mk (Kd.V_below (by (with_reducible repeat (first | apply Kd.V_alloc | apply Kd.V_drewN | apply Kd.V_drew)); exact HO_0.out) hb)
                have n1_ := Aside0.mk (KL.R_below (by (with_reducible repeat (first | apply KL.R_alloc | apply KL.R_drewN | apply KL.R_drew)); exact HO_5.out) hb)
                have n2_ := Aside0.mk (KL.R_below (by (with_reducible repeat (first | apply KL.R_alloc | apply KL.R_drewN | apply KL.R_drew)); exact HO_7.out) hb)
                have n3_ := Aside0.mk (Kd.V_below (by (with_reducible repeat (first | apply Kd.V_alloc | apply Kd.V_drewN | apply Kd.V_drew)); exact HO_352002.out) hb)
                have n4_ := Aside0.mk (KL.R_below (by (with_reducible repeat (first | apply KL.R_alloc | apply KL.R_drewN | apply KL.R_drew)); exact HO376.out) hb)
                have n5_ := Aside0.mk (blk_below (g := gb351) (o := .cells #[.int .i64 a1_0, .int .i64 a1_1, .slice A1_2 l1_2.length c1_2] 43 (0, 0)) (by (with_reducible repeat (first | refine blk_drewN ?_ _ | refine blk_drew ?_ | refine blk_alloc ?_ _)); exact BK351.out) hb)
                have n6_ := Aside0.mk (below_step (by repeat (first | (with_reducible first | exact HB.out | apply below_alloc | apply pw_below_drewN | apply below_drew1 | refine below_set ?_ GE351.out) | exact HB.out)) hb)
                clear HO_0
                clear HO_5
                clear HO_7
                clear HO_352002
                clear HO376
                clear BK351
                clear HB
                have HO_0 := n0_
                have HO_5 := n1_
                have HO_7 := n2_
                have HO_352002 := n3_
                have HO376 := n4_
                have BK351 := n5_
                have HB := n6_
                clear n0_ n1_ n2_ n3_ n4_ n5_ n6_
                (try clear hb)
                (try clear hb2)
                (try clear hk)
                (try clear hi)
                refine hK.out _ _ trivial (fun hHeld => ?_)
                clear hK K
                refine norm_ (a' := ?_) ?_ ?_
                rotate_left
                · show Act.put _ (some 49) _ = _
                  simp only [Act.put, List.setIfInBounds_toArray, List.set_cons_zero, List.set_cons_succ, i64_w, i32_w]
                  rfl
                refine pure_ (i := 1) (N := some 50) (v := ?_) (a' := ?_) #[true, true, false, false, false, false, false, false, false, false, false, false, false, false, false, false, false, false, false, false, false, false, false, false, false, false, false, false, false, false, false] rfl rfl (any_of HT_.out (by kernel_rfl)) (fun _ _ _ h => h) (Or.inl ⟨by rfl, ?_⟩) ?_ ?_
                rotate_left
                · intro w'
                  go_simp
                  with_reducible rfl
                rotate_left
                · simp only [Act.put, List.setIfInBounds_toArray, List.set_cons_zero, List.set_cons_succ, i64_w, i32_w]
                  rfl
                refine pure_ (i := 2) (N := some 51) (v := ?_) (a' := ?_) #[true, true, true, false, false, false, false, false, false, false, false, false, false, false, false, false, false, false, false, false, false, false, false, false, false, false, false, false, false, false, false] rfl rfl (any_of HT_.out (by kernel_rfl)) (fun _ _ _ h => h) (Or.inl ⟨by rfl, ?_⟩) ?_ ?_
                rotate_left
                · intro w'
                  go_simp
                  with_reducible rfl
                rotate_left
                · simp only [Act.put, List.setIfInBounds_toArray, List.set_cons_zero, List.set_cons_succ, i64_w, i32_w]
                  rfl
                refine pure_ (i := 3) (N := some 52) (v := ?_) (a' := ?_) #[true, true, true, true, false, false, false, false, false, false, false, false, false, false, false, false, false, false, false, false, false, false, false, false, false, false, false, false, false, false, false] rfl rfl (any_of HT_.out (by kernel_rfl)) (fun _ _ _ h => h) (Or.inl ⟨by rfl, ?_⟩) ?_ ?_
                rotate_left
                · intro w'
                  go_simp
                  with_reducible rfl
                rotate_left
                · simp only [Act.put, List.setIfInBounds_toArray, List.set_cons_zero, List.set_cons_succ, i64_w, i32_w]
                  rfl
                refine pure_ (i := 4) (N := some 53) (v := ?_) (a' := ?_) #[true, true, true, true, true, false, false, false, false, false, false, false, false, false, false, false, false, false, false, false, false, false, false, false, false, false, false, false, false, false, false] rfl rfl (any_of HT_.out (by kernel_rfl)) (fun _ _ _ h => h) (Or.inl ⟨by rfl, ?_⟩) ?_ ?_
                rotate_left
                · intro w'
                  go_simp
                  with_reducible rfl
                rotate_left
                · simp only [Act.put, List.setIfInBounds_toArray, List.set_cons_zero, List.set_cons_succ, i64_w, i32_w]
                  rfl
                refine pure_ (i := 5) (N := some 54) (v := ?_) (a' := ?_) #[true, true, true, true, true, true, false, false, false, false, false, false, false, false, false, false, false, false, false, false, false, false, false, false, false, false, false, false, false, false, false] rfl rfl (any_of HT_.out (by kernel_rfl)) (fun _ _ _ h => h) (Or.inl ⟨by rfl, ?_⟩) ?_ ?_
                rotate_left
                · intro w'
                  go_simp
                  with_reducible rfl
                rotate_left
                · simp only [Act.put, List.setIfInBounds_toArray, List.set_cons_zero, List.set_cons_succ, i64_w, i32_w]
                  rfl
                refine pure_ (i := 6) (N := some 55) (v := undef) (a' := ?_) #[true, true, true, true, true, true, true, false, false, false, false, false, false, false, false, false, false, false, false, false, false, false, false, false, false, false, false, false, false, false, false] rfl rfl (any_of HT_.out (by kernel_rfl)) (fun _ _ _ h => h) (Or.inr ⟨by rfl, rfl⟩) ?_ ?_
                rotate_left
                · simp only [Act.put, List.setIfInBounds_toArray, List.set_cons_zero, List.set_cons_succ, i64_w, i32_w]
                  rfl
                refine pure_ (i := 7) (N := some 56) (v := undef) (a' := ?_) #[true, true, true, true, true, true, true, true, false, false, false, false, false, false, false, false, false, false, false, false, false, false, false, false, false, false, false, false, false, false, false] rfl rfl (any_of HT_.out (by kernel_rfl)) (fun _ _ _ h => h) (Or.inr ⟨by rfl, rfl⟩) ?_ ?_
                rotate_left
                · simp only [Act.put, List.setIfInBounds_toArray, List.set_cons_zero, List.set_cons_succ, i64_w, i32_w]
                  rfl
                refine pure_ (i := 8) (N := some 57) (v := undef) (a' := ?_) #[true, true, true, true, true, true, true, true, true, false, false, false, false, false, false, false, false, false, false, false, false, false, false, false, false, false, false, false, false, false, false] rfl rfl (any_of HT_.out (by kernel_rfl)) (fun _ _ _ h => h) (Or.inr ⟨by rfl, rfl⟩) ?_ ?_
                rotate_left
                · simp only [Act.put, List.setIfInBounds_toArray, List.set_cons_zero, List.set_cons_succ, i64_w, i32_w]
                  rfl
                refine pure_ (i := 9) (N := some 58) (v := undef) (a' := ?_) #[true, true, true, true, true, true, true, true, true, true, false, false, false, false, false, false, false, false, false, false, false, false, false, false, false, false, false, false, false, false, false] rfl rfl (any_of HT_.out (by kernel_rfl)) (fun _ _ _ h => h) (Or.inr ⟨by rfl, rfl⟩) ?_ ?_
                rotate_left
                · simp only [Act.put, List.setIfInBounds_toArray, List.set_cons_zero, List.set_cons_succ, i64_w, i32_w]
                  rfl
                refine pure_ (i := 10) (N := some 59) (v := undef) (a' := ?_) #[true, true, true, true, true, true, true, true, true, true, true, false, false, false, false, false, false, false, false, false, false, false, false, false, false, false, false, false, false, false, false] rfl rfl (any_of HT_.out (by kernel_rfl)) (fun _ _ _ h => h) (Or.inr ⟨by rfl, rfl⟩) ?_ ?_
                rotate_left
                · simp only [Act.put, List.setIfInBounds_toArray, List.set_cons_zero, List.set_cons_succ, i64_w, i32_w]
                  rfl
                refine pure_ (i := 11) (N := some 60) (v := ?_) (a' := ?_) #[true, true, true, true, true, true, true, true, true, true, true, true, false, false, false, false, false, false, false, false, false, false, false, false, false, false, false, false, false, false, false] rfl rfl (any_of HT_.out (by kernel_rfl)) (fun _ _ _ h => h) (Or.inl ⟨by rfl, ?_⟩) ?_ ?_
                rotate_left
                · intro w'
                  go_simp
                  with_reducible rfl
                rotate_left
                · simp only [Act.put, List.setIfInBounds_toArray, List.set_cons_zero, List.set_cons_succ, i64_w, i32_w]
                  rfl
                refine pure_ (i := 12) (N := some 61) (v := ?_) (a' := ?_) #[true, true, true, true, true, true, true, true, true, true, true, true, true, false, false, false, false, false, false, false, false, false, false, false, false, false, false, false, false, false, false] rfl rfl (any_of HT_.out (by kernel_rfl)) (fun _ _ _ h => h) (Or.inl ⟨by rfl, ?_⟩) ?_ ?_
                rotate_left
                · intro w'
                  go_simp
                  with_reducible rfl
                rotate_left
                · simp only [Act.put, List.setIfInBounds_toArray, List.set_cons_zero, List.set_cons_succ, i64_w, i32_w]
                  rfl
                refine pure_ (i := 13) (N := some 62) (v := undef) (a' := ?_) #[true, true, true, true, true, true, true, true, true, true, true, true, true, true, false, false, false, false, false, false, false, false, false, false, false, false, false, false, false, false, false] rfl rfl (any_of HT_.out (by kernel_rfl)) (fun _ _ _ h => h) (Or.inr ⟨by rfl, rfl⟩) ?_ ?_
                rotate_left
                · simp only [Act.put, List.setIfInBounds_toArray, List.set_cons_zero, List.set_cons_succ, i64_w, i32_w]
                  rfl
                refine pure_ (i := 14) (N := some 63) (v := undef) (a' := ?_) #[true, true, true, true, true, true, true, true, true, true, true, true, true, true, true, false, false, false, false, false, false, false, false, false, false, false, false, false, false, false, false] rfl rfl (any_of HT_.out (by kernel_rfl)) (fun _ _ _ h => h) (Or.inr ⟨by rfl, rfl⟩) ?_ ?_
                rotate_left
                · simp only [Act.put, List.setIfInBounds_toArray, List.set_cons_zero, List.set_cons_succ, i64_w, i32_w]
                  rfl
                refine pure_ (i := 15) (N := some 64) (v := undef) (a' := ?_) #[true, true, true, true, true, true, true, true, true, true, true, true, true, true, true, true, false, false, false, false, false, false, false, false, false, false, false, false, false, false, false] rfl rfl (any_of HT_.out (by kernel_rfl)) (fun _ _ _ h => h) (Or.inr ⟨by rfl, rfl⟩) ?_ ?_
                rotate_left
                · simp only [Act.put, List.setIfInBounds_toArray, List.set_cons_zero, List.set_cons_succ, i64_w, i32_w]
                  rfl
                refine pure_ (i := 16) (N := some 65) (v := undef) (a' := ?_) #[true, true, true, true, true, true, true, true, true, true, true, true, true, true, true, true, true, false, false, false, false, false, false, false, false, false, false, false, false, false, false] rfl rfl (any_of HT_.out (by kernel_rfl)) (fun _ _ _ h => h) (Or.inr ⟨by rfl, rfl⟩) ?_ ?_
                rotate_left
                · simp only [Act.put, List.setIfInBounds_toArray, List.set_cons_zero, List.set_cons_succ, i64_w, i32_w]
                  rfl
                refine pure_ (i := 17) (N := some 66) (v := undef) (a' := ?_) #[true, true, true, true, true, true, true, true, true, true, true, true, true, true, true, true, true, true, false, false, false, false, false, false, false, false, false, false, false, false, false] rfl rfl (any_of HT_.out (by kernel_rfl)) (fun _ _ _ h => h) (Or.inr ⟨by rfl, rfl⟩) ?_ ?_
                rotate_left
                · simp only [Act.put, List.setIfInBounds_toArray, List.set_cons_zero, List.set_cons_succ, i64_w, i32_w]
                  rfl
                refine pure_ (i := 18) (N := some 67) (v := undef) (a' := ?_) #[true, true, true, true, true, true, true, true, true, true, true, true, true, true, true, true, true, true, true, false, false, false, false, false, false, false, false, false, false, false, false] rfl rfl (any_of HT_.out (by kernel_rfl)) (fun _ _ _ h => h) (Or.inr ⟨by rfl, rfl⟩) ?_ ?_
                rotate_left
                · simp only [Act.put, List.setIfInBounds_toArray, List.set_cons_zero, List.set_cons_succ, i64_w, i32_w]
                  rfl
                refine pure_ (i := 19) (N := some 68) (v := undef) (a' := ?_) #[true, true, true, true, true, true, true, true, true, true, true, true, true, true, true, true, true, true, true, true, false, false, false, false, false, false, false, false, false, false, false] rfl rfl (any_of HT_.out (by kernel_rfl)) (fun _ _ _ h => h) (Or.inr ⟨by rfl, rfl⟩) ?_ ?_
                rotate_left
                · simp only [Act.put, List.setIfInBounds_toArray, List.set_cons_zero, List.set_cons_succ, i64_w, i32_w]
                  rfl
                refine pure_ (i := 20) (N := some 69) (v := undef) (a' := ?_) #[true, true, true, true, true, true, true, true, true, true, true, true, true, true, true, true, true, true, true, true, true, false, false, false, false, false, false, false, false, false, false] rfl rfl (any_of HT_.out (by kernel_rfl)) (fun _ _ _ h => h) (Or.inr ⟨by rfl, rfl⟩) ?_ ?_
                rotate_left
                · simp only [Act.put, List.setIfInBounds_toArray, List.set_cons_zero, List.set_cons_succ, i64_w, i32_w]
                  rfl
                refine pure_ (i := 21) (N := some 70) (v := ?_) (a' := ?_) #[true, true, true, true, true, true, true, true, true, true, true, true, true, true, true, true, true, true, true, true, true, true, false, false, false, false, false, false, false, false, false] rfl rfl (any_of HT_.out (by kernel_rfl)) (fun _ _ _ h => h) (Or.inl ⟨by rfl, ?_⟩) ?_ ?_
                rotate_left
                · intro w'
                  go_simp
                  with_reducible rfl
                rotate_left
                · simp only [Act.put, List.setIfInBounds_toArray, List.set_cons_zero, List.set_cons_succ, i64_w, i32_w]
                  rfl
                refine pure_ (i := 22) (N := some 71) (v := ?_) (a' := ?_) #[true, true, true, true, true, true, true, true, true, true, true, true, true, true, true, true, true, true, true, true, true, true, true, false, false, false, false, false, false, false, false] rfl rfl (any_of HT_.out (by kernel_rfl)) (fun _ _ _ h => h) (Or.inl ⟨by rfl, ?_⟩) ?_ ?_
                rotate_left
                · intro w'
                  go_simp
                  with_reducible rfl
                rotate_left
                · simp only [Act.put, List.setIfInBounds_toArray, List.set_cons_zero, List.set_cons_succ, i64_w, i32_w]
                  rfl
                refine pure_ (i := 23) (N := some 72) (v := undef) (a' := ?_) #[true, true, true, true, true, true, true, true, true, true, true, true, true, true, true, true, true, true, true, true, true, true, true, true, false, false, false, false, false, false, false] rfl rfl (any_of HT_.out (by kernel_rfl)) (fun _ _ _ h => h) (Or.inr ⟨by rfl, rfl⟩) ?_ ?_
                rotate_left
                · simp only [Act.put, List.setIfInBounds_toArray, List.set_cons_zero, List.set_cons_succ, i64_w, i32_w]
                  rfl
                refine pure_ (i := 24) (N := some 73) (v := undef) (a' := ?_) #[true, true, true, true, true, true, true, true, true, true, true, true, true, true, true, true, true, true, true, true, true, true, true, true, true, false, false, false, false, false, false] rfl rfl (any_of HT_.out (by kernel_rfl)) (fun _ _ _ h => h) (Or.inr ⟨by rfl, rfl⟩) ?_ ?_
                rotate_left
                · simp only [Act.put, List.setIfInBounds_toArray, List.set_cons_zero, List.set_cons_succ, i64_w, i32_w]
                  rfl
                refine pure_ (i := 25) (N := some 74) (v := undef) (a' := ?_) #[true, true, true, true, true, true, true, true, true, true, true, true, true, true, true, true, true, true, true, true, true, true, true, true, true, true, false, false, false, false, false] rfl rfl (any_of HT_.out (by kernel_rfl)) (fun _ _ _ h => h) (Or.inr ⟨by rfl, rfl⟩) ?_ ?_
                rotate_left
                · simp only [Act.put, List.setIfInBounds_toArray, List.set_cons_zero, List.set_cons_succ, i64_w, i32_w]
                  rfl
                refine pure_ (i := 26) (N := some 75) (v := undef) (a' := ?_) #[true, true, true, true, true, true, true, true, true, true, true, true, true, true, true, true, true, true, true, true, true, true, true, true, true, true, true, false, false, false, false] rfl rfl (any_of HT_.out (by kernel_rfl)) (fun _ _ _ h => h) (Or.inr ⟨by rfl, rfl⟩) ?_ ?_
                rotate_left
                · simp only [Act.put, List.setIfInBounds_toArray, List.set_cons_zero, List.set_cons_succ, i64_w, i32_w]
                  rfl
                refine pure_ (i := 27) (N := some 76) (v := undef) (a' := ?_) #[true, true, true, true, true, true, true, true, true, true, true, true, true, true, true, true, true, true, true, true, true, true, true, true, true, true, true, true, false, false, false] rfl rfl (any_of HT_.out (by kernel_rfl)) (fun _ _ _ h => h) (Or.inr ⟨by rfl, rfl⟩) ?_ ?_
                rotate_left
                · simp only [Act.put, List.setIfInBounds_toArray, List.set_cons_zero, List.set_cons_succ, i64_w, i32_w]
                  rfl
                refine pure_ (i := 28) (N := some 77) (v := undef) (a' := ?_) #[true, true, true, true, true, true, true, true, true, true, true, true, true, true, true, true, true, true, true, true, true, true, true, true, true, true, true, true, true, false, false] rfl rfl (any_of HT_.out (by kernel_rfl)) (fun _ _ _ h => h) (Or.inr ⟨by rfl, rfl⟩) ?_ ?_
                rotate_left
                · simp only [Act.put, List.setIfInBounds_toArray, List.set_cons_zero, List.set_cons_succ, i64_w, i32_w]
                  rfl
                refine pure_ (i := 29) (N := some 78) (v := ?_) (a' := ?_) #[true, true, true, true, true, true, true, true, true, true, true, true, true, true, true, true, true, true, true, true, true, true, true, true, true, true, true, true, true, true, false] rfl rfl (any_of HT_.out (by kernel_rfl)) (fun _ _ _ h => h) (Or.inl ⟨by rfl, ?_⟩) ?_ ?_
                rotate_left
                · intro w'
                  go_simp
                  with_reducible rfl
                rotate_left
                · simp only [Act.put, List.setIfInBounds_toArray, List.set_cons_zero, List.set_cons_succ, i64_w, i32_w]
                  rfl
                refine pure_ (i := 30) (N := some 4) (v := ?_) (a' := ?_) #[true, true, true, true, true, true, true, true, true, true, true, true, true, true, true, true, true, true, true, true, true, true, true, true, true, true, true, true, true, true, true] rfl rfl (any_of HT_.out (by kernel_rfl)) (fun _ _ _ h => h) (Or.inl ⟨by rfl, ?_⟩) ?_ ?_
                rotate_left
                · intro w'
                  go_simp
                  with_reducible rfl
                rotate_left
                · simp only [Act.put, List.setIfInBounds_toArray, List.set_cons_zero, List.set_cons_succ, i64_w, i32_w]
                  rfl
                refine done_ (done_of HT_.out (by kernel_rfl)) ?_
                try go_wp2
                go_ret
                exact ⟨by first | rfl | (simp [errW_none, errW_some] <;> rfl) | (simp [*, errW_none, errW_some] <;> rfl), by repeat (first | (with_reducible first | exact HB.out | apply below_alloc | apply pw_below_drewN | apply below_drew1 | refine below_set ?_ GE351.out) | exact HB.out)⟩
            · replace c31 := Bool.eq_false_iff.mpr c31
              subst c31
              have H1 : (some false) = some r := by rw [if_neg (show ¬ (false = true) by decide)] at H; exact H
              clear H
              have H := H1
              clear H1
              obtain rfl := Option.some.inj H
              try go_wp2_with (first | ((with_reducible refine gate_callee (f := 10) rfl ?_); refine goesL_ (some 46) rfl rfl Try.func10 (by kernel_rfl) rfl #[.agg #[.slice A0 l0.length c0, .bool true]] rfl (by (try simp only [List.map_toArray, List.map_cons, List.map_nil]); first | done | rfl | (simp only [List.length_drop, List.length_take]; rfl)) ?_; (with_reducible refine (trans_Encode.calls kj6 _ _ l0 true t374 t377 _ ?side1 ?side2 A29.out).mono ?_); (case side1 => repeat (first | exact (Kd.V_reads' HO_0.out).2.2 | (with_reducible refine Kd.C_alloc ?_ _) | (with_reducible refine Kd.C_drewN ?_ _) | (with_reducible refine Kd.C_drew ?_))); (case side2 => exact (Kd.V_reads' HO_0.out).2.1); rintro e w66 ⟨v375, rfl, ho0, hb⟩; refine ⟨_, rfl, ?_⟩; have n0_ := Aside0.mk (Kd.V_elder' (by (with_reducible repeat (first | apply Kd.V_alloc | apply Kd.V_drewN | apply Kd.V_drew)); exact HO_0.out) (KL.R_base ho0) hb); have n1_ := Aside0.mk (KL.R_elder' (by (with_reducible repeat (first | apply KL.R_alloc | apply KL.R_drewN | apply KL.R_drew)); exact HO_5.out) (KL.R_base ho0) hb); have n2_ := Aside0.mk (KL.R_elder' (by (with_reducible repeat (first | apply KL.R_alloc | apply KL.R_drewN | apply KL.R_drew)); exact HO_7.out) (KL.R_base ho0) hb); have n3_ := Aside0.mk (Kd.V_elder' (by (with_reducible repeat (first | apply Kd.V_alloc | apply Kd.V_drewN | apply Kd.V_drew)); exact HO_352002.out) (KL.R_base ho0) hb); have n4_ := Aside0.mk (KL.R_lower (KL.R_new' (KL.R_new' (KL.R_newM (M := fun k_ => (w.heap.size ≤ k_)) ho0 (below_size (by repeat (first | (with_reducible first | exact HB.out | apply below_alloc | apply pw_below_drewN | apply below_drew1 | refine below_set ?_ GE351.out) | exact HB.out))) (fun k_ h_ => h_)) (KL.R_lt (by (with_reducible repeat (first | apply KL.R_alloc | apply KL.R_drewN | apply KL.R_drew)); exact HO_5.out))) (KL.R_lt (by (with_reducible repeat (first | apply KL.R_alloc | apply KL.R_drewN | apply KL.R_drew)); exact HO_7.out))) (below_size (by repeat (first | (with_reducible first | exact HB.out | apply below_alloc | apply pw_below_drewN | apply below_drew1 | refine below_set ?_ GE351.out) | exact HB.out)))); have n5_ := Aside0.mk (blk_below (g := gb351) (o := .cells #[.int .i64 a1_0, .int .i64 a1_1, .slice A1_2 l1_2.length c1_2] 43 (0, 0)) (by (with_reducible repeat (first | refine blk_drewN ?_ _ | refine blk_drew ?_ | refine blk_alloc ?_ _)); exact BK351.out) hb); have n6_ := Aside0.mk (below_step (by repeat (first | (with_reducible first | exact HB.out | apply below_alloc | apply pw_below_drewN | apply below_drew1 | refine below_set ?_ GE351.out) | exact HB.out)) hb); clear HO_0; clear HO_5; clear HO_7; clear HO_352002; clear BK351; clear HB; have HO_0 := n0_; have HO_5 := n1_; have HO_7 := n2_; have HO_352002 := n3_; have HO376 := n4_; have BK351 := n5_; have HB := n6_; clear n0_ n1_ n2_ n3_ n4_ n5_ n6_; (try clear hb); (try clear hb2); (try clear hk); (try clear hi); (try clear ho0)))
              have n0_ := Aside0.mk (Kd.V_drew HO_0.out)
              have n1_ := Aside0.mk (KL.R_drew HO_5.out)
              have n2_ := Aside0.mk (KL.R_drew HO_7.out)
              have n3_ := Aside0.mk (Kd.V_drew HO_352002.out)
              have n4_ := Aside0.mk (KL.R_drew HO376.out)
              have n5_ := Aside0.mk (blk_drew BK351.out)
              have n6_ := Aside0.mk (below_drew1 HB.out)
              clear HO_0
              clear HO_5
              clear HO_7
              clear HO_352002
              clear HO376
              clear BK351
              clear HB
              have HO_0 := n0_
              have HO_5 := n1_
              have HO_7 := n2_
              have HO_352002 := n3_
              have HO376 := n4_
              have BK351 := n5_
              have HB := n6_
              clear n0_ n1_ n2_ n3_ n4_ n5_ n6_
              refine start_ (n := 31) (S := fun w' => True) (ds := []) #[false, false, false, false, false, false, false, false, false, false, false, false, false, false, false, false, false, false, false, false, false, false, false, false, false, false, false, false, false, false, false] (by kernel_rfl) rfl rfl trivial (fun hHeld => ?_); refine with_tabW cuecardlaw05_TransJoins.tab6 cuecardlaw05_TransJoins.bits6 (fun HT_ HW_ => ?_)
              generalize w66.drew = w67 at HO_0 HO_5 HO_7 HO_352002 HO376 BK351 HB hHeld ⊢
              refine one_ (i := 0) (N := some 49) #[true, false, false, false, false, false, false, false, false, false, false, false, false, false, false, false, false, false, false, false, false, false, false, false, false, false, false, false, false, false, false] rfl rfl (one_of HT_.out (by kernel_rfl)) (by decide) (fun K hK => ?_)
              refine goes_ Try.func12 (by kernel_rfl) rfl #[] (by rfl) rfl rfl (by (try simp only [List.map_toArray, List.map_cons, List.map_nil]); first | done | rfl | (simp only [List.length_drop, List.length_take]; rfl)) ?_
              with_reducible refine (cuecardlaw05_alive.calls kj6  false _ A30.out).mono ?_
              rintro e w68 ⟨rfl, hb⟩
              refine ⟨_, rfl, ?_⟩
              have n0_ := Aside0.mk (Kd.V_below (by (with_reducible repeat (first | apply Kd.V_alloc | apply Kd.V_drewN | apply Kd.V_drew)); exact HO_0.out) hb)
              have n1_ := Aside0.mk (KL.R_below (by (with_reducible repeat (first | apply KL.R_alloc | apply KL.R_drewN | apply KL.R_drew)); exact HO_5.out) hb)
              have n2_ := Aside0.mk (KL.R_below (by (with_reducible repeat (first | apply KL.R_alloc | apply KL.R_drewN | apply KL.R_drew)); exact HO_7.out) hb)
              have n3_ := Aside0.mk (Kd.V_below (by (with_reducible repeat (first | apply Kd.V_alloc | apply Kd.V_drewN | apply Kd.V_drew)); exact HO_352002.out) hb)
              have n4_ := Aside0.mk (KL.R_below (by (with_reducible repeat (first | apply KL.R_alloc | apply KL.R_drewN | apply KL.R_drew)); exact HO376.out) hb)
              have n5_ := Aside0.mk (blk_below (g := gb351) (o := .cells #[.int .i64 a1_0, .int .i64 a1_1, .slice A1_2 l1_2.length c1_2] 43 (0, 0)) (by (with_reducible repeat (first | refine blk_drewN ?_ _ | refine blk_drew ?_ | refine blk_alloc ?_ _)); exact BK351.out) hb)
              have n6_ := Aside0.mk (below_step (by repeat (first | (with_reducible first | exact HB.out | apply below_alloc | apply pw_below_drewN | apply below_drew1 | refine below_set ?_ GE351.out) | exact HB.out)) hb)
              clear HO_0
              clear HO_5
              clear HO_7
              clear HO_352002
              clear HO376
              clear BK351
              clear HB
              have HO_0 := n0_
              have HO_5 := n1_
              have HO_7 := n2_
              have HO_352002 := n3_
              have HO376 := n4_
              have BK351 := n5_
              have HB := n6_
              clear n0_ n1_ n2_ n3_ n4_ n5_ n6_
              (try clear hb)
              (try clear hb2)
              (try clear hk)
              (try clear hi)
              refine hK.out _ _ trivial (fun hHeld => ?_)
              clear hK K
              refine norm_ (a' := ?_) ?_ ?_
              rotate_left
              · show Act.put _ (some 49) _ = _
                simp only [Act.put, List.setIfInBounds_toArray, List.set_cons_zero, List.set_cons_succ, i64_w, i32_w]
                rfl
              refine pure_ (i := 1) (N := some 50) (v := ?_) (a' := ?_) #[true, true, false, false, false, false, false, false, false, false, false, false, false, false, false, false, false, false, false, false, false, false, false, false, false, false, false, false, false, false, false] rfl rfl (any_of HT_.out (by kernel_rfl)) (fun _ _ _ h => h) (Or.inl ⟨by rfl, ?_⟩) ?_ ?_
              rotate_left
              · intro w'
                go_simp
                with_reducible rfl
              rotate_left
              · simp only [Act.put, List.setIfInBounds_toArray, List.set_cons_zero, List.set_cons_succ, i64_w, i32_w]
                rfl
              refine pure_ (i := 2) (N := some 51) (v := undef) (a' := ?_) #[true, true, true, false, false, false, false, false, false, false, false, false, false, false, false, false, false, false, false, false, false, false, false, false, false, false, false, false, false, false, false] rfl rfl (any_of HT_.out (by kernel_rfl)) (fun _ _ _ h => h) (Or.inr ⟨by rfl, rfl⟩) ?_ ?_
              rotate_left
              · simp only [Act.put, List.setIfInBounds_toArray, List.set_cons_zero, List.set_cons_succ, i64_w, i32_w]
                rfl
              refine pure_ (i := 3) (N := some 52) (v := undef) (a' := ?_) #[true, true, true, true, false, false, false, false, false, false, false, false, false, false, false, false, false, false, false, false, false, false, false, false, false, false, false, false, false, false, false] rfl rfl (any_of HT_.out (by kernel_rfl)) (fun _ _ _ h => h) (Or.inr ⟨by rfl, rfl⟩) ?_ ?_
              rotate_left
              · simp only [Act.put, List.setIfInBounds_toArray, List.set_cons_zero, List.set_cons_succ, i64_w, i32_w]
                rfl
              refine pure_ (i := 4) (N := some 53) (v := ?_) (a' := ?_) #[true, true, true, true, true, false, false, false, false, false, false, false, false, false, false, false, false, false, false, false, false, false, false, false, false, false, false, false, false, false, false] rfl rfl (any_of HT_.out (by kernel_rfl)) (fun _ _ _ h => h) (Or.inl ⟨by rfl, ?_⟩) ?_ ?_
              rotate_left
              · intro w'
                go_simp
                with_reducible rfl
              rotate_left
              · simp only [Act.put, List.setIfInBounds_toArray, List.set_cons_zero, List.set_cons_succ, i64_w, i32_w]
                rfl
              refine pure_ (i := 5) (N := some 54) (v := ?_) (a' := ?_) #[true, true, true, true, true, true, false, false, false, false, false, false, false, false, false, false, false, false, false, false, false, false, false, false, false, false, false, false, false, false, false] rfl rfl (any_of HT_.out (by kernel_rfl)) (fun _ _ _ h => h) (Or.inl ⟨by rfl, ?_⟩) ?_ ?_
              rotate_left
              · intro w'
                go_simp
                with_reducible rfl
              rotate_left
              · simp only [Act.put, List.setIfInBounds_toArray, List.set_cons_zero, List.set_cons_succ, i64_w, i32_w]
                rfl
              refine pure_ (i := 6) (N := some 55) (v := undef) (a' := ?_) #[true, true, true, true, true, true, true, false, false, false, false, false, false, false, false, false, false, false, false, false, false, false, false, false, false, false, false, false, false, false, false] rfl rfl (any_of HT_.out (by kernel_rfl)) (fun _ _ _ h => h) (Or.inr ⟨by rfl, rfl⟩) ?_ ?_
              rotate_left
              · simp only [Act.put, List.setIfInBounds_toArray, List.set_cons_zero, List.set_cons_succ, i64_w, i32_w]
                rfl
              refine pure_ (i := 7) (N := some 56) (v := undef) (a' := ?_) #[true, true, true, true, true, true, true, true, false, false, false, false, false, false, false, false, false, false, false, false, false, false, false, false, false, false, false, false, false, false, false] rfl rfl (any_of HT_.out (by kernel_rfl)) (fun _ _ _ h => h) (Or.inr ⟨by rfl, rfl⟩) ?_ ?_
              rotate_left
              · simp only [Act.put, List.setIfInBounds_toArray, List.set_cons_zero, List.set_cons_succ, i64_w, i32_w]
                rfl
              refine pure_ (i := 8) (N := some 57) (v := undef) (a' := ?_) #[true, true, true, true, true, true, true, true, true, false, false, false, false, false, false, false, false, false, false, false, false, false, false, false, false, false, false, false, false, false, false] rfl rfl (any_of HT_.out (by kernel_rfl)) (fun _ _ _ h => h) (Or.inr ⟨by rfl, rfl⟩) ?_ ?_
              rotate_left
              · simp only [Act.put, List.setIfInBounds_toArray, List.set_cons_zero, List.set_cons_succ, i64_w, i32_w]
                rfl
              refine pure_ (i := 9) (N := some 58) (v := undef) (a' := ?_) #[true, true, true, true, true, true, true, true, true, true, false, false, false, false, false, false, false, false, false, false, false, false, false, false, false, false, false, false, false, false, false] rfl rfl (any_of HT_.out (by kernel_rfl)) (fun _ _ _ h => h) (Or.inr ⟨by rfl, rfl⟩) ?_ ?_
              rotate_left
              · simp only [Act.put, List.setIfInBounds_toArray, List.set_cons_zero, List.set_cons_succ, i64_w, i32_w]
                rfl
              refine pure_ (i := 10) (N := some 59) (v := undef) (a' := ?_) #[true, true, true, true, true, true, true, true, true, true, true, false, false, false, false, false, false, false, false, false, false, false, false, false, false, false, false, false, false, false, false] rfl rfl (any_of HT_.out (by kernel_rfl)) (fun _ _ _ h => h) (Or.inr ⟨by rfl, rfl⟩) ?_ ?_
              rotate_left
              · simp only [Act.put, List.setIfInBounds_toArray, List.set_cons_zero, List.set_cons_succ, i64_w, i32_w]
                rfl
              refine pure_ (i := 11) (N := some 60) (v := ?_) (a' := ?_) #[true, true, true, true, true, true, true, true, true, true, true, true, false, false, false, false, false, false, false, false, false, false, false, false, false, false, false, false, false, false, false] rfl rfl (any_of HT_.out (by kernel_rfl)) (fun _ _ _ h => h) (Or.inl ⟨by rfl, ?_⟩) ?_ ?_
              rotate_left
              · intro w'
                go_simp
                with_reducible rfl
              rotate_left
              · simp only [Act.put, List.setIfInBounds_toArray, List.set_cons_zero, List.set_cons_succ, i64_w, i32_w]
                rfl
              refine pure_ (i := 12) (N := some 61) (v := ?_) (a' := ?_) #[true, true, true, true, true, true, true, true, true, true, true, true, true, false, false, false, false, false, false, false, false, false, false, false, false, false, false, false, false, false, false] rfl rfl (any_of HT_.out (by kernel_rfl)) (fun _ _ _ h => h) (Or.inl ⟨by rfl, ?_⟩) ?_ ?_
              rotate_left
              · intro w'
                go_simp
                with_reducible rfl
              rotate_left
              · simp only [Act.put, List.setIfInBounds_toArray, List.set_cons_zero, List.set_cons_succ, i64_w, i32_w]
                rfl
              refine pure_ (i := 13) (N := some 62) (v := undef) (a' := ?_) #[true, true, true, true, true, true, true, true, true, true, true, true, true, true, false, false, false, false, false, false, false, false, false, false, false, false, false, false, false, false, false] rfl rfl (any_of HT_.out (by kernel_rfl)) (fun _ _ _ h => h) (Or.inr ⟨by rfl, rfl⟩) ?_ ?_
              rotate_left
              · simp only [Act.put, List.setIfInBounds_toArray, List.set_cons_zero, List.set_cons_succ, i64_w, i32_w]
                rfl
              refine pure_ (i := 14) (N := some 63) (v := undef) (a' := ?_) #[true, true, true, true, true, true, true, true, true, true, true, true, true, true, true, false, false, false, false, false, false, false, false, false, false, false, false, false, false, false, false] rfl rfl (any_of HT_.out (by kernel_rfl)) (fun _ _ _ h => h) (Or.inr ⟨by rfl, rfl⟩) ?_ ?_
              rotate_left
              · simp only [Act.put, List.setIfInBounds_toArray, List.set_cons_zero, List.set_cons_succ, i64_w, i32_w]
                rfl
              refine pure_ (i := 15) (N := some 64) (v := undef) (a' := ?_) #[true, true, true, true, true, true, true, true, true, true, true, true, true, true, true, true, false, false, false, false, false, false, false, false, false, false, false, false, false, false, false] rfl rfl (any_of HT_.out (by kernel_rfl)) (fun _ _ _ h => h) (Or.inr ⟨by rfl, rfl⟩) ?_ ?_
              rotate_left
              · simp only [Act.put, List.setIfInBounds_toArray, List.set_cons_zero, List.set_cons_succ, i64_w, i32_w]
                rfl
              refine pure_ (i := 16) (N := some 65) (v := undef) (a' := ?_) #[true, true, true, true, true, true, true, true, true, true, true, true, true, true, true, true, true, false, false, false, false, false, false, false, false, false, false, false, false, false, false] rfl rfl (any_of HT_.out (by kernel_rfl)) (fun _ _ _ h => h) (Or.inr ⟨by rfl, rfl⟩) ?_ ?_
              rotate_left
              · simp only [Act.put, List.setIfInBounds_toArray, List.set_cons_zero, List.set_cons_succ, i64_w, i32_w]
                rfl
              refine pure_ (i := 17) (N := some 66) (v := undef) (a' := ?_) #[true, true, true, true, true, true, true, true, true, true, true, true, true, true, true, true, true, true, false, false, false, false, false, false, false, false, false, false, false, false, false] rfl rfl (any_of HT_.out (by kernel_rfl)) (fun _ _ _ h => h) (Or.inr ⟨by rfl, rfl⟩) ?_ ?_
              rotate_left
              · simp only [Act.put, List.setIfInBounds_toArray, List.set_cons_zero, List.set_cons_succ, i64_w, i32_w]
                rfl
              refine pure_ (i := 18) (N := some 67) (v := undef) (a' := ?_) #[true, true, true, true, true, true, true, true, true, true, true, true, true, true, true, true, true, true, true, false, false, false, false, false, false, false, false, false, false, false, false] rfl rfl (any_of HT_.out (by kernel_rfl)) (fun _ _ _ h => h) (Or.inr ⟨by rfl, rfl⟩) ?_ ?_
              rotate_left
              · simp only [Act.put, List.setIfInBounds_toArray, List.set_cons_zero, List.set_cons_succ, i64_w, i32_w]
                rfl
              refine pure_ (i := 19) (N := some 68) (v := undef) (a' := ?_) #[true, true, true, true, true, true, true, true, true, true, true, true, true, true, true, true, true, true, true, true, false, false, false, false, false, false, false, false, false, false, false] rfl rfl (any_of HT_.out (by kernel_rfl)) (fun _ _ _ h => h) (Or.inr ⟨by rfl, rfl⟩) ?_ ?_
              rotate_left
              · simp only [Act.put, List.setIfInBounds_toArray, List.set_cons_zero, List.set_cons_succ, i64_w, i32_w]
                rfl
              refine pure_ (i := 20) (N := some 69) (v := undef) (a' := ?_) #[true, true, true, true, true, true, true, true, true, true, true, true, true, true, true, true, true, true, true, true, true, false, false, false, false, false, false, false, false, false, false] rfl rfl (any_of HT_.out (by kernel_rfl)) (fun _ _ _ h => h) (Or.inr ⟨by rfl, rfl⟩) ?_ ?_
              rotate_left
              · simp only [Act.put, List.setIfInBounds_toArray, List.set_cons_zero, List.set_cons_succ, i64_w, i32_w]
                rfl
              refine pure_ (i := 21) (N := some 70) (v := ?_) (a' := ?_) #[true, true, true, true, true, true, true, true, true, true, true, true, true, true, true, true, true, true, true, true, true, true, false, false, false, false, false, false, false, false, false] rfl rfl (any_of HT_.out (by kernel_rfl)) (fun _ _ _ h => h) (Or.inl ⟨by rfl, ?_⟩) ?_ ?_
              rotate_left
              · intro w'
                go_simp
                with_reducible rfl
              rotate_left
              · simp only [Act.put, List.setIfInBounds_toArray, List.set_cons_zero, List.set_cons_succ, i64_w, i32_w]
                rfl
              refine pure_ (i := 22) (N := some 71) (v := ?_) (a' := ?_) #[true, true, true, true, true, true, true, true, true, true, true, true, true, true, true, true, true, true, true, true, true, true, true, false, false, false, false, false, false, false, false] rfl rfl (any_of HT_.out (by kernel_rfl)) (fun _ _ _ h => h) (Or.inl ⟨by rfl, ?_⟩) ?_ ?_
              rotate_left
              · intro w'
                go_simp
                with_reducible rfl
              rotate_left
              · simp only [Act.put, List.setIfInBounds_toArray, List.set_cons_zero, List.set_cons_succ, i64_w, i32_w]
                rfl
              refine pure_ (i := 23) (N := some 72) (v := undef) (a' := ?_) #[true, true, true, true, true, true, true, true, true, true, true, true, true, true, true, true, true, true, true, true, true, true, true, true, false, false, false, false, false, false, false] rfl rfl (any_of HT_.out (by kernel_rfl)) (fun _ _ _ h => h) (Or.inr ⟨by rfl, rfl⟩) ?_ ?_
              rotate_left
              · simp only [Act.put, List.setIfInBounds_toArray, List.set_cons_zero, List.set_cons_succ, i64_w, i32_w]
                rfl
              refine pure_ (i := 24) (N := some 73) (v := undef) (a' := ?_) #[true, true, true, true, true, true, true, true, true, true, true, true, true, true, true, true, true, true, true, true, true, true, true, true, true, false, false, false, false, false, false] rfl rfl (any_of HT_.out (by kernel_rfl)) (fun _ _ _ h => h) (Or.inr ⟨by rfl, rfl⟩) ?_ ?_
              rotate_left
              · simp only [Act.put, List.setIfInBounds_toArray, List.set_cons_zero, List.set_cons_succ, i64_w, i32_w]
                rfl
              refine pure_ (i := 25) (N := some 74) (v := undef) (a' := ?_) #[true, true, true, true, true, true, true, true, true, true, true, true, true, true, true, true, true, true, true, true, true, true, true, true, true, true, false, false, false, false, false] rfl rfl (any_of HT_.out (by kernel_rfl)) (fun _ _ _ h => h) (Or.inr ⟨by rfl, rfl⟩) ?_ ?_
              rotate_left
              · simp only [Act.put, List.setIfInBounds_toArray, List.set_cons_zero, List.set_cons_succ, i64_w, i32_w]
                rfl
              refine pure_ (i := 26) (N := some 75) (v := undef) (a' := ?_) #[true, true, true, true, true, true, true, true, true, true, true, true, true, true, true, true, true, true, true, true, true, true, true, true, true, true, true, false, false, false, false] rfl rfl (any_of HT_.out (by kernel_rfl)) (fun _ _ _ h => h) (Or.inr ⟨by rfl, rfl⟩) ?_ ?_
              rotate_left
              · simp only [Act.put, List.setIfInBounds_toArray, List.set_cons_zero, List.set_cons_succ, i64_w, i32_w]
                rfl
              refine pure_ (i := 27) (N := some 76) (v := undef) (a' := ?_) #[true, true, true, true, true, true, true, true, true, true, true, true, true, true, true, true, true, true, true, true, true, true, true, true, true, true, true, true, false, false, false] rfl rfl (any_of HT_.out (by kernel_rfl)) (fun _ _ _ h => h) (Or.inr ⟨by rfl, rfl⟩) ?_ ?_
              rotate_left
              · simp only [Act.put, List.setIfInBounds_toArray, List.set_cons_zero, List.set_cons_succ, i64_w, i32_w]
                rfl
              refine pure_ (i := 28) (N := some 77) (v := undef) (a' := ?_) #[true, true, true, true, true, true, true, true, true, true, true, true, true, true, true, true, true, true, true, true, true, true, true, true, true, true, true, true, true, false, false] rfl rfl (any_of HT_.out (by kernel_rfl)) (fun _ _ _ h => h) (Or.inr ⟨by rfl, rfl⟩) ?_ ?_
              rotate_left
              · simp only [Act.put, List.setIfInBounds_toArray, List.set_cons_zero, List.set_cons_succ, i64_w, i32_w]
                rfl
              refine pure_ (i := 29) (N := some 78) (v := ?_) (a' := ?_) #[true, true, true, true, true, true, true, true, true, true, true, true, true, true, true, true, true, true, true, true, true, true, true, true, true, true, true, true, true, true, false] rfl rfl (any_of HT_.out (by kernel_rfl)) (fun _ _ _ h => h) (Or.inl ⟨by rfl, ?_⟩) ?_ ?_
              rotate_left
              · intro w'
                go_simp
                with_reducible rfl
              rotate_left
              · simp only [Act.put, List.setIfInBounds_toArray, List.set_cons_zero, List.set_cons_succ, i64_w, i32_w]
                rfl
              refine pure_ (i := 30) (N := some 4) (v := ?_) (a' := ?_) #[true, true, true, true, true, true, true, true, true, true, true, true, true, true, true, true, true, true, true, true, true, true, true, true, true, true, true, true, true, true, true] rfl rfl (any_of HT_.out (by kernel_rfl)) (fun _ _ _ h => h) (Or.inl ⟨by rfl, ?_⟩) ?_ ?_
              rotate_left
              · intro w'
                go_simp
                with_reducible rfl
              rotate_left
              · simp only [Act.put, List.setIfInBounds_toArray, List.set_cons_zero, List.set_cons_succ, i64_w, i32_w]
                rfl
              refine done_ (done_of HT_.out (by kernel_rfl)) ?_
              try go_wp2
              go_ret
              exact ⟨by first | rfl | (simp [errW_none, errW_some] <;> rfl) | (simp [*, errW_none, errW_some] <;> rfl), by repeat (first | (with_reducible first | exact HB.out | apply below_alloc | apply pw_below_drewN | apply below_drew1 | refine below_set ?_ GE351.out) | exact HB.out)⟩
    · rw [if_neg c5] at H
      exact absurd H (by simp)
  · rw [if_neg c4] at H
    exact absurd H (by simp)

end Go.Proofs.Ytefippbcgdfnbaa.QA
