import Derived.WalkMore
import Derived.Lib.Hide
import Derived.Lib.Bytes
import Derived.Test.YtbdknddgfmoipaaGreatDoorZQ1
import Derived.Test.YtbdknddgfmoipaaGreatDoorZQ2
set_option linter.unusedVariables false
set_option linter.unusedSimpArgs false
-- Written for this claim by a program of this session's, out of Lean's own print of the program; Lean checks it.
namespace Go.Proofs.YtbdknddgfmoipaaGreatDoor.QA
open Go.RowKit Go.Proofs.YtbdknddgfmoipaaGreatDoorW.PrintWords Go.Proofs.YtbdknddgfmoipaaGreatDoorW.PrintLast Go.Proofs.YtbdknddgfmoipaaGreatDoorW.PrintMore
attribute [local go_sem] max2_int min2_int max_two min_two max_three min_three max_four min_four   -- for this text's walks alone
set_option linter.unusedVariables false
set_option linter.unusedSimpArgs false

/-! ### trans_Decode: function 12 -/
mutual
def trans_Decode.l0 : Nat → List Int → Int → Option ((List (S42)) × Bool × Int × Int)
  | 0, _, _ => none
  | k + 1, x0, x13 => if x13 < 4 then (if x13 = (x0.length : Int) then (some (([] : List (S42)), false, x13, 5)) else (if 0 ≤ x13 then (if x13 < (x0.length : Int) then (if (rd x0 x13) = (bt (⟨#[67, 85, 69, 49]⟩ : ByteArray) x13) then (trans_Decode.l0 k x0 (wrap64 (x13 + 1))) else (some (([] : List (S42)), false, x13, 4))) else (none)) else (none))) else (trans_Decode.l1 k x0 4 0 262144 0 ([] : List (S42)) false)
def trans_Decode.l1 : Nat → List Int → Int → Int → Int → Int → List (S42) → Bool → Option ((List (S42)) × Bool × Int × Int)
  | 0, _, _, _, _, _, _, _ => none
  | k + 1, x0, x7, x8, x9, x10, x161000, x161001 => if x7 < (x0.length : Int) then (if 0 ≤ x7 then (if (rd x0 x7) = 3 then (trans_Decode.j2 k x0 x7 x8 x9 x10 (rd x0 x7) ((wrap64 (x7 + 1)) == (x0.length : Int)) x161000 x161001) else (trans_Decode.j2 k x0 x7 x8 x9 x10 (rd x0 x7) false x161000 x161001)) else (none)) else (if x10 = 0 then (some (x161000, x161001, 0, 0)) else (some (([] : List (S42)), false, x7, x10)))
def trans_Decode.j2 : Nat → List Int → Int → Int → Int → Int → Int → Bool → List (S42) → Bool → Option ((List (S42)) × Bool × Int × Int)
  | 0, _, _, _, _, _, _, _, _, _ => none
  | k + 1, x0, x7, x8, x9, x10, x11, x42, x161000, x161001 => if x42 = true then (if x10 = 0 then (some (x161000, true, 0, 0)) else (some (([] : List (S42)), false, x7, x10))) else (if x11 = 3 then (if 4 = 0 then (some (x161000, x161001, 0, 0)) else (some (([] : List (S42)), false, wrap64 (x7 + 1), 4))) else (if x11 = 1 then (trans_Decode.j3 k x0 x7 x8 x9 x11 false x161000 x161001) else (trans_Decode.j3 k x0 x7 x8 x9 x11 (x11 != 2) x161000 x161001)))
def trans_Decode.j3 : Nat → List Int → Int → Int → Int → Int → Bool → List (S42) → Bool → Option ((List (S42)) × Bool × Int × Int)
  | 0, _, _, _, _, _, _, _, _ => none
  | k + 1, x0, x7, x8, x9, x11, x58, x161000, x161001 => if x58 = true then (if 4 = 0 then (some (x161000, x161001, 0, 0)) else (some (([] : List (S42)), false, x7, 4))) else (if (x161000.length : Int) = 4096 then (if 10 = 0 then (some (x161000, x161001, 0, 0)) else (some (([] : List (S42)), false, x7, 10))) else ((trans_one.f k x0 (wrap64 (x7 + 1)) x8 x9).bind fun bt163 => (if bt163.2.2.2.2 = 0 then (if x161000.length < 3518437208883 then (trans_Decode.l1 k x0 bt163.2.2.2.1 bt163.2.1 (wrap64 (x9 - (bt163.2.2.1.length : Int))) bt163.2.2.2.2 (x161000 ++ [(⟨wrap64 ((wrap64 (x11)) - 1), bt163.2.1, bt163.2.2.1⟩ : S42)]) x161001) else (none)) else (some (([] : List (S42)), false, bt163.2.2.2.1, bt163.2.2.2.2)))))
end
def trans_Decode.f (k : Nat) (l0 : List Int) : Option ((List (S42)) × Bool × Int × Int) := trans_Decode.l0 k l0 0
theorem trans_Decode.mono_l : ∀ k, (∀ y0 y1, LeO (trans_Decode.l0 k y0 y1) (trans_Decode.l0 (k + 1) y0 y1)) ∧ (∀ y0 y1 y2 y3 y4 y5 y6, LeO (trans_Decode.l1 k y0 y1 y2 y3 y4 y5 y6) (trans_Decode.l1 (k + 1) y0 y1 y2 y3 y4 y5 y6)) ∧ (∀ y0 y1 y2 y3 y4 y5 y6 y7 y8, LeO (trans_Decode.j2 k y0 y1 y2 y3 y4 y5 y6 y7 y8) (trans_Decode.j2 (k + 1) y0 y1 y2 y3 y4 y5 y6 y7 y8)) ∧ (∀ y0 y1 y2 y3 y4 y5 y6 y7, LeO (trans_Decode.j3 k y0 y1 y2 y3 y4 y5 y6 y7) (trans_Decode.j3 (k + 1) y0 y1 y2 y3 y4 y5 y6 y7))
  | 0 => ⟨fun _ _ r h => by simp [trans_Decode.l0] at h, fun _ _ _ _ _ _ _ r h => by simp [trans_Decode.l1] at h, fun _ _ _ _ _ _ _ _ _ r h => by simp [trans_Decode.j2] at h, fun _ _ _ _ _ _ _ _ r h => by simp [trans_Decode.j3] at h⟩
  | k + 1 => by
    obtain ⟨ih0, ih1, ih2, ih3⟩ := trans_Decode.mono_l k
    refine ⟨?_, ?_, ?_, ?_⟩
    · intro y0 y1
      unfold trans_Decode.l0
      repeat' first
      | (with_reducible exact ih0 _ _)
      | (with_reducible exact ih1 _ _ _ _ _ _ _)
      | (with_reducible exact ih2 _ _ _ _ _ _ _ _ _)
      | (with_reducible exact ih3 _ _ _ _ _ _ _ _)
      | (with_reducible exact trans_one.mono _ _ _ _ _)
      | (with_reducible exact LeO.refl _)
      | (with_reducible exact LeO.none _)
      | (with_reducible refine LeO.ite ?_ ?_)
      | (with_reducible refine LeO.bind ?_ (fun _ => ?_))
      | exact ih0 _ _
      | exact ih1 _ _ _ _ _ _ _
      | exact ih2 _ _ _ _ _ _ _ _ _
      | exact ih3 _ _ _ _ _ _ _ _
      | exact trans_one.mono _ _ _ _ _
      | exact LeO.none _
      | refine LeO.ite ?_ ?_
      | refine LeO.bind ?_ (fun _ => ?_)
    · intro y0 y1 y2 y3 y4 y5 y6
      unfold trans_Decode.l1
      repeat' first
      | (with_reducible exact ih0 _ _)
      | (with_reducible exact ih1 _ _ _ _ _ _ _)
      | (with_reducible exact ih2 _ _ _ _ _ _ _ _ _)
      | (with_reducible exact ih3 _ _ _ _ _ _ _ _)
      | (with_reducible exact trans_one.mono _ _ _ _ _)
      | (with_reducible exact LeO.refl _)
      | (with_reducible exact LeO.none _)
      | (with_reducible refine LeO.ite ?_ ?_)
      | (with_reducible refine LeO.bind ?_ (fun _ => ?_))
      | exact ih0 _ _
      | exact ih1 _ _ _ _ _ _ _
      | exact ih2 _ _ _ _ _ _ _ _ _
      | exact ih3 _ _ _ _ _ _ _ _
      | exact trans_one.mono _ _ _ _ _
      | exact LeO.none _
      | refine LeO.ite ?_ ?_
      | refine LeO.bind ?_ (fun _ => ?_)
    · intro y0 y1 y2 y3 y4 y5 y6 y7 y8
      unfold trans_Decode.j2
      repeat' first
      | (with_reducible exact ih0 _ _)
      | (with_reducible exact ih1 _ _ _ _ _ _ _)
      | (with_reducible exact ih2 _ _ _ _ _ _ _ _ _)
      | (with_reducible exact ih3 _ _ _ _ _ _ _ _)
      | (with_reducible exact trans_one.mono _ _ _ _ _)
      | (with_reducible exact LeO.refl _)
      | (with_reducible exact LeO.none _)
      | (with_reducible refine LeO.ite ?_ ?_)
      | (with_reducible refine LeO.bind ?_ (fun _ => ?_))
      | exact ih0 _ _
      | exact ih1 _ _ _ _ _ _ _
      | exact ih2 _ _ _ _ _ _ _ _ _
      | exact ih3 _ _ _ _ _ _ _ _
      | exact trans_one.mono _ _ _ _ _
      | exact LeO.none _
      | refine LeO.ite ?_ ?_
      | refine LeO.bind ?_ (fun _ => ?_)
    · intro y0 y1 y2 y3 y4 y5 y6 y7
      unfold trans_Decode.j3
      repeat' first
      | (with_reducible exact ih0 _ _)
      | (with_reducible exact ih1 _ _ _ _ _ _ _)
      | (with_reducible exact ih2 _ _ _ _ _ _ _ _ _)
      | (with_reducible exact ih3 _ _ _ _ _ _ _ _)
      | (with_reducible exact trans_one.mono _ _ _ _ _)
      | (with_reducible exact LeO.refl _)
      | (with_reducible exact LeO.none _)
      | (with_reducible refine LeO.ite ?_ ?_)
      | (with_reducible refine LeO.bind ?_ (fun _ => ?_))
      | exact ih0 _ _
      | exact ih1 _ _ _ _ _ _ _
      | exact ih2 _ _ _ _ _ _ _ _ _
      | exact ih3 _ _ _ _ _ _ _ _
      | exact trans_one.mono _ _ _ _ _
      | exact LeO.none _
      | refine LeO.ite ?_ ?_
      | refine LeO.bind ?_ (fun _ => ?_)
theorem trans_Decode.mono : ∀ a0 k, LeO (trans_Decode.f k a0) (trans_Decode.f (k + 1) a0) := by
  intro a0 k
  obtain ⟨ih0, ih1, ih2, ih3⟩ := trans_Decode.mono_l k
  unfold trans_Decode.f
  repeat' first
      | (with_reducible exact ih0 _ _)
      | (with_reducible exact ih1 _ _ _ _ _ _ _)
      | (with_reducible exact ih2 _ _ _ _ _ _ _ _ _)
      | (with_reducible exact ih3 _ _ _ _ _ _ _ _)
      | (with_reducible exact trans_one.mono _ _ _ _ _)
      | (with_reducible exact LeO.refl _)
      | (with_reducible exact LeO.none _)
      | (with_reducible refine LeO.ite ?_ ?_)
      | (with_reducible refine LeO.bind ?_ (fun _ => ?_))
      | exact ih0 _ _
      | exact ih1 _ _ _ _ _ _ _
      | exact ih2 _ _ _ _ _ _ _ _ _
      | exact ih3 _ _ _ _ _ _ _ _
      | exact trans_one.mono _ _ _ _ _
      | exact LeO.none _
      | refine LeO.ite ?_ ?_
      | refine LeO.bind ?_ (fun _ => ?_)
set_option maxHeartbeats 8000000 in
set_option maxRecDepth 100000 in
theorem trans_Decode.calls (k : Nat) (A0 : Option Addr) (c0 : Nat) (l0 : List Int) (r1 : List (S42)) (r2 : Bool) (r3 : Int) (r4 : Int) (w : World) (hr0 : Kd.C (Kd.int .u8) w A0 l0.length l0) (hc0 : l0.length ≤ c0) (h : trans_Decode.f k l0 = some (r1, r2, r3, r4)) :
    Calls Tryz.prog 12 #[.slice A0 l0.length c0] w fun e w' => ∃ v0_ : Value, e = .returned (.tuple #[.agg #[v0_, .bool r2], .int .i64 r3, .int .i64 r4]) ∧ Kd.S k42 42 w' w.heap.size (fun _ => True) v0_ r1 ∧ Below w.heap.size w w' := by
  have hu37 := Tryz.underlying37
  have hu42 := Tryz.underlying42
  have HR0 := Aside0.mk hr0
  have HC0 := Aside0.mk hc0
  clear hr0 hc0
  have HB := Aside0.mk (Below.refl w.heap.size w)
  have H : (trans_Decode.l0 k l0 0) = some (r1, r2, r3, r4) := h
  clear h
  have H' := Aside0.mk H
  clear H
  go_enter Tryz.func12, Tryz.ntmps12
  (try apply wp_scope_straight)
  go_wp2_with (first | ((with_reducible refine gate_dst (N := 2) rfl ?_); (try (refine gate_guard (by rfl) ?_; dsimp only)); refine box_event ?hg (N := 2) ?hd (cs := #[.slice none 0 0, .bool false]) (t := 37) ?hr ?_; (case hd => rfl); (case hg => rfl); (case hr => first | (go_simp; done) | (go_simp; rfl)); intro gb158 hg w2 hbox hb; have n0_ := Aside0.mk (below_step (by repeat (first | (with_reducible first | exact HB.out | apply below_alloc | apply pw_below_drewN | apply below_drew1) | exact HB.out)) hb); have n1_ := Aside0.mk (hbox); have n2_ := Aside0.mk ((by rw [hg]; exact (below_size (by repeat (first | (with_reducible first | exact HB.out | apply below_alloc | apply pw_below_drewN | apply below_drew1) | exact HB.out))) : w.heap.size ≤ gb158)); have n3_ := Aside0.mk ((by rw [hg]; exact (below_size (by repeat (first | (with_reducible first | exact HB.out | apply below_alloc | apply pw_below_drewN | apply below_drew1) | exact HB.out))) : w.heap.size ≤ gb158)); clear HB; have HB := n0_; have BK158 := n1_; have GW158 := n2_; have GE158 := n3_; clear n0_ n1_ n2_ n3_; clear hb hbox hg))
  repeat (go_quiet (first | ((with_reducible refine gate_dst (N := 2) rfl ?_); (try (refine gate_guard (by rfl) ?_; dsimp only)); refine box_event ?hg (N := 2) ?hd (cs := #[.slice none 0 0, .bool false]) (t := 37) ?hr ?_; (case hd => rfl); (case hg => rfl); (case hr => first | (go_simp; done) | (go_simp; rfl)); intro gb158 hg w2 hbox hb; have n0_ := Aside0.mk (below_step (by repeat (first | (with_reducible first | exact HB.out | apply below_alloc | apply pw_below_drewN | apply below_drew1) | exact HB.out)) hb); have n1_ := Aside0.mk (hbox); have n2_ := Aside0.mk ((by rw [hg]; exact (below_size (by repeat (first | (with_reducible first | exact HB.out | apply below_alloc | apply pw_below_drewN | apply below_drew1) | exact HB.out))) : w.heap.size ≤ gb158)); have n3_ := Aside0.mk ((by rw [hg]; exact (below_size (by repeat (first | (with_reducible first | exact HB.out | apply below_alloc | apply pw_below_drewN | apply below_drew1) | exact HB.out))) : w.heap.size ≤ gb158)); clear HB; have HB := n0_; have BK158 := n1_; have GW158 := n2_; have GE158 := n3_; clear n0_ n1_ n2_ n3_; clear hb hbox hg)); try go_wp2_with (first | ((with_reducible refine gate_dst (N := 2) rfl ?_); (try (refine gate_guard (by rfl) ?_; dsimp only)); refine box_event ?hg (N := 2) ?hd (cs := #[.slice none 0 0, .bool false]) (t := 37) ?hr ?_; (case hd => rfl); (case hg => rfl); (case hr => first | (go_simp; done) | (go_simp; rfl)); intro gb158 hg w2 hbox hb; have n0_ := Aside0.mk (below_step (by repeat (first | (with_reducible first | exact HB.out | apply below_alloc | apply pw_below_drewN | apply below_drew1) | exact HB.out)) hb); have n1_ := Aside0.mk (hbox); have n2_ := Aside0.mk ((by rw [hg]; exact (below_size (by repeat (first | (with_reducible first | exact HB.out | apply below_alloc | apply pw_below_drewN | apply below_drew1) | exact HB.out))) : w.heap.size ≤ gb158)); have n3_ := Aside0.mk ((by rw [hg]; exact (below_size (by repeat (first | (with_reducible first | exact HB.out | apply below_alloc | apply pw_below_drewN | apply below_drew1) | exact HB.out))) : w.heap.size ≤ gb158)); clear HB; have HB := n0_; have BK158 := n1_; have GW158 := n2_; have GE158 := n3_; clear n0_ n1_ n2_ n3_; clear hb hbox hg)))
  (try (first | apply wp_label | apply wp_scope_straight); go_wp2_with (first | ((with_reducible refine gate_dst (N := 2) rfl ?_); (try (refine gate_guard (by rfl) ?_; dsimp only)); refine box_event ?hg (N := 2) ?hd (cs := #[.slice none 0 0, .bool false]) (t := 37) ?hr ?_; (case hd => rfl); (case hg => rfl); (case hr => first | (go_simp; done) | (go_simp; rfl)); intro gb158 hg w2 hbox hb; have n0_ := Aside0.mk (below_step (by repeat (first | (with_reducible first | exact HB.out | apply below_alloc | apply pw_below_drewN | apply below_drew1) | exact HB.out)) hb); have n1_ := Aside0.mk (hbox); have n2_ := Aside0.mk ((by rw [hg]; exact (below_size (by repeat (first | (with_reducible first | exact HB.out | apply below_alloc | apply pw_below_drewN | apply below_drew1) | exact HB.out))) : w.heap.size ≤ gb158)); have n3_ := Aside0.mk ((by rw [hg]; exact (below_size (by repeat (first | (with_reducible first | exact HB.out | apply below_alloc | apply pw_below_drewN | apply below_drew1) | exact HB.out))) : w.heap.size ≤ gb158)); clear HB; have HB := n0_; have BK158 := n1_; have GW158 := n2_; have GE158 := n3_; clear n0_ n1_ n2_ n3_; clear hb hbox hg)))
  go_loopg [13] k (fun kq v13 w' => ∃ (x13_1 : Int) (x159001_1 : Bool), v13 = .int .i64 x13_1 ∧ Aside0 (trans_Decode.l0 kq l0 x13_1 = some (r1, r2, r3, r4)) ∧ Aside0 (kq ≤ k) ∧ Aside0 (w'.heap[gb158]? = some (.cells #[(.slice none 0 0), .bool x159001_1] 37 (0, 0))) ∧ Aside0 (Below w.heap.size w w'))
  case atStart => exact ⟨(0), (false), (by first | rfl | (simp; done) | (simp [*]; done)), H', ⟨Nat.le_refl _⟩, ⟨by (with_reducible repeat (first | refine blk_drewN ?_ _ | refine blk_drew ?_ | refine blk_alloc ?_ _)); exact BK158.out⟩, ⟨by repeat (first | (with_reducible first | exact HB.out | apply below_alloc | apply pw_below_drewN | apply below_drew1 | refine below_set ?_ GE158.out) | exact HB.out)⟩⟩
  case round =>
    clear H'
    try clear c1
    try clear p2
    obtain ⟨x13_1, x159001_1, rfl, HA, HK1, BK158, HB⟩ := hrel
    cases gk with
    | zero => exact absurd HA.out (by simp [trans_Decode.l0])
    | succ k1 =>
      have H := HA.out
      clear HA
      simp only [trans_Decode.l0] at H
      by_cases c3 : x13_1 < 4
      · rw [if_pos c3] at H
        have c3b0 : decide (x13_1 < 4) = true := decide_eq_true c3
        clear c3
        by_cases c4 : x13_1 = (l0.length : Int)
        · rw [if_pos c4] at H
          have c4b0 : (x13_1 == (l0.length : Int)) = true := beq_iff_eq.mpr c4
          have c4b1 : (x13_1 != (l0.length : Int)) = false := bne_eq_false_iff_eq.mpr c4
          clear c4
          simp only [Option.some.injEq, Prod.mk.injEq] at H
          obtain ⟨rfl, rfl, rfl, rfl⟩ := H
          have hcz5_0 : wr.cell? ⟨gb158, 0, none⟩ = some (.slice none 0 0) := (blk_cell BK158.out 0).trans rfl
          have hcz5_1 : wr.cell? ⟨gb158, 1, none⟩ = some (.bool x159001_1) := (blk_cell BK158.out 1).trans rfl
          have hfz5_0 := blk_frozen BK158.out 0
          have hfz5_1 := blk_frozen BK158.out 1
          go_wp2
          repeat (go_quiet (fail); try go_wp2)
          try rw [Exit.noGoto_ret]
          refine bodyPost_ret (results_ctt rfl _ _ gb158 37 #[.slice none 0 0, .bool false] (0, 0) _ rfl (by (with_reducible repeat (first | refine blk_drewN ?_ _ | refine blk_drew ?_ | refine blk_alloc ?_ _)); refine blk_put (cs := #[.slice none 0 0, .bool x159001_1]) ?_ 1 _ rfl; (with_reducible repeat (first | refine blk_drewN ?_ _ | refine blk_drew ?_ | refine blk_alloc ?_ _)); refine blk_put (cs := #[.slice none 0 0, .bool x159001_1]) ?_ 0 _ rfl; (with_reducible repeat (first | refine blk_drewN ?_ _ | refine blk_drew ?_ | refine blk_alloc ?_ _)); exact BK158.out) Tryz.underlying37 rfl (by kernel_rfl)) rfl ?_
          exact ⟨_, by first | rfl | (simp [errW_none, errW_some] <;> rfl) | (simp [*, errW_none, errW_some] <;> rfl), by first | exact Kd.S_nil _ _ _ _ _ | exact Kd.N_nil _ _ _ _ _ | exact Kd.V_nil _ _ _ _ _ | exact Kd.Q_nil _ _ _ _ _ | exact Kd.R_nil _ _ _ _ _, by repeat (first | (with_reducible first | exact HB.out | apply below_alloc | apply pw_below_drewN | apply below_drew1 | refine below_set ?_ GE158.out) | exact HB.out)⟩
        · rw [if_neg c4] at H
          have c4b0 : (x13_1 == (l0.length : Int)) = false := beq_eq_false_iff_ne.mpr c4
          have c4b1 : (x13_1 != (l0.length : Int)) = true := bne_iff_ne.mpr c4
          by_cases c6 : 0 ≤ x13_1
          · rw [if_pos c6] at H
            have c6b0 : decide (0 ≤ x13_1) = true := decide_eq_true c6
            clear c6
            by_cases c7 : x13_1 < (l0.length : Int)
            · rw [if_pos c7] at H
              have c7b0 : decide (x13_1 < (l0.length : Int)) = true := decide_eq_true c7
              clear c7
              by_cases c9 : (rd l0 x13_1) = (bt (⟨#[67, 85, 69, 49]⟩ : ByteArray) x13_1)
              · rw [if_pos c9] at H
                have c9b0 : ((rd l0 x13_1) == (bt (⟨#[67, 85, 69, 49]⟩ : ByteArray) x13_1)) = true := beq_iff_eq.mpr c9
                have c9b1 : ((rd l0 x13_1) != (bt (⟨#[67, 85, 69, 49]⟩ : ByteArray) x13_1)) = false := bne_eq_false_iff_eq.mpr c9
                clear c9
                have H' := Aside0.mk H
                clear H
                have p159 : 0 ≤ (x13_1 : Int) := of_decide_eq_true (by first | (with_reducible assumption) | assumption)
                have q159 : x13_1 < (l0.length : Int) := of_decide_eq_true (by first | (with_reducible assumption) | assumption)
                obtain ⟨ad159, e159, hx159_0⟩ := Kd.at_int HR0.out x13_1 p159 q159
                cases e159
                replace hx159_0 := (HB.out.cell (World.block_lt_of_cell? w _ hx159_0)).trans hx159_0
                replace p159 := eq_true p159
                replace q159 := eq_true q159
                have p8 : 0 ≤ (x13_1 : Int) := of_decide_eq_true (by first | (with_reducible assumption) | assumption)
                have q8 : x13_1 < (4 : Int) := of_decide_eq_true (by first | (with_reducible assumption) | assumption)
                have hx8 := bt_at (⟨#[67, 85, 69, 49]⟩ : ByteArray) x13_1
                replace p8 := eq_true p8
                replace q8 := eq_true q8
                go_wp2
                repeat (go_quiet (fail); try go_wp2)
                go_roundg k1
                case measure => have := HK1.out; omega
                case rel => exact ⟨(wrap64 (x13_1 + 1)), (x159001_1), (by first | rfl | (simp; done) | (simp [*]; done)), H', ⟨by have := HK1.out; omega⟩, ⟨by (with_reducible repeat (first | refine blk_drewN ?_ _ | refine blk_drew ?_ | refine blk_alloc ?_ _)); exact BK158.out⟩, ⟨by repeat (first | (with_reducible first | exact HB.out | apply below_alloc | apply pw_below_drewN | apply below_drew1 | refine below_set ?_ GE158.out) | exact HB.out)⟩⟩
              · rw [if_neg c9] at H
                have c9b0 : ((rd l0 x13_1) == (bt (⟨#[67, 85, 69, 49]⟩ : ByteArray) x13_1)) = false := beq_eq_false_iff_ne.mpr c9
                have c9b1 : ((rd l0 x13_1) != (bt (⟨#[67, 85, 69, 49]⟩ : ByteArray) x13_1)) = true := bne_iff_ne.mpr c9
                simp only [Option.some.injEq, Prod.mk.injEq] at H
                obtain ⟨rfl, rfl, rfl, rfl⟩ := H
                have p159 : 0 ≤ (x13_1 : Int) := of_decide_eq_true (by first | (with_reducible assumption) | assumption)
                have q159 : x13_1 < (l0.length : Int) := of_decide_eq_true (by first | (with_reducible assumption) | assumption)
                obtain ⟨ad159, e159, hx159_0⟩ := Kd.at_int HR0.out x13_1 p159 q159
                cases e159
                replace hx159_0 := (HB.out.cell (World.block_lt_of_cell? w _ hx159_0)).trans hx159_0
                replace p159 := eq_true p159
                replace q159 := eq_true q159
                have p8 : 0 ≤ (x13_1 : Int) := of_decide_eq_true (by first | (with_reducible assumption) | assumption)
                have q8 : x13_1 < (4 : Int) := of_decide_eq_true (by first | (with_reducible assumption) | assumption)
                have hx8 := bt_at (⟨#[67, 85, 69, 49]⟩ : ByteArray) x13_1
                replace p8 := eq_true p8
                replace q8 := eq_true q8
                have hcz10_0 : wr.cell? ⟨gb158, 0, none⟩ = some (.slice none 0 0) := (blk_cell BK158.out 0).trans rfl
                have hcz10_1 : wr.cell? ⟨gb158, 1, none⟩ = some (.bool x159001_1) := (blk_cell BK158.out 1).trans rfl
                have hfz10_0 := blk_frozen BK158.out 0
                have hfz10_1 := blk_frozen BK158.out 1
                go_wp2
                repeat (go_quiet (fail); try go_wp2)
                try rw [Exit.noGoto_ret]
                refine bodyPost_ret (results_ctt rfl _ _ gb158 37 #[.slice none 0 0, .bool false] (0, 0) _ rfl (by (with_reducible repeat (first | refine blk_drewN ?_ _ | refine blk_drew ?_ | refine blk_alloc ?_ _)); refine blk_put (cs := #[.slice none 0 0, .bool x159001_1]) ?_ 1 _ rfl; (with_reducible repeat (first | refine blk_drewN ?_ _ | refine blk_drew ?_ | refine blk_alloc ?_ _)); refine blk_put (cs := #[.slice none 0 0, .bool x159001_1]) ?_ 0 _ rfl; (with_reducible repeat (first | refine blk_drewN ?_ _ | refine blk_drew ?_ | refine blk_alloc ?_ _)); exact BK158.out) Tryz.underlying37 rfl (by kernel_rfl)) rfl ?_
                exact ⟨_, by first | rfl | (simp [errW_none, errW_some] <;> rfl) | (simp [*, errW_none, errW_some] <;> rfl), by first | exact Kd.S_nil _ _ _ _ _ | exact Kd.N_nil _ _ _ _ _ | exact Kd.V_nil _ _ _ _ _ | exact Kd.Q_nil _ _ _ _ _ | exact Kd.R_nil _ _ _ _ _, by repeat (first | (with_reducible first | exact HB.out | apply below_alloc | apply pw_below_drewN | apply below_drew1 | refine below_set ?_ GE158.out) | exact HB.out)⟩
            · rw [if_neg c7] at H
              exact absurd H (by simp)
          · rw [if_neg c6] at H
            exact absurd H (by simp)
      · rw [if_neg c3] at H
        have c3b0 : decide (x13_1 < 4) = false := decide_eq_false c3
        clear c3
        have H' := Aside0.mk H
        clear H
        go_wp2_with (first | ((with_reducible refine gate_dst (N := 6) rfl ?_); (try (refine gate_guard (by rfl) ?_; dsimp only)); refine box_event ?hg (N := 6) ?hd (cs := #[.slice none 0 0, .bool false]) (t := 37) ?hr ?_; (case hd => rfl); (case hg => rfl); (case hr => first | (go_simp; done) | (go_simp; rfl)); intro gb160 hg w11 hbox hb; have n0_ := Aside0.mk (blk_below (g := gb158) (o := .cells #[.slice none 0 0, .bool x159001_1] 37 (0, 0)) (by (with_reducible repeat (first | refine blk_drewN ?_ _ | refine blk_drew ?_ | refine blk_alloc ?_ _)); exact BK158.out) hb); have n1_ := Aside0.mk (below_step (by repeat (first | (with_reducible first | exact HB.out | apply below_alloc | apply pw_below_drewN | apply below_drew1 | refine below_set ?_ GE158.out) | exact HB.out)) hb); have n2_ := Aside0.mk (hbox); have n3_ := Aside0.mk ((by rw [hg]; exact (below_size (by repeat (first | (with_reducible first | exact HB.out | apply below_alloc | apply pw_below_drewN | apply below_drew1 | refine below_set ?_ GE158.out) | exact HB.out))) : w.heap.size ≤ gb160)); have n4_ := Aside0.mk ((by rw [hg]; exact (below_size (by repeat (first | (with_reducible first | exact HB.out | apply below_alloc | apply pw_below_drewN | apply below_drew1 | refine below_set ?_ GE158.out) | exact HB.out))) : w.heap.size ≤ gb160)); have n5_ := Aside0.mk ((by rw [hg]; exact Nat.ne_of_lt (blk_lt (g := gb158) (o := .cells #[.slice none 0 0, .bool x159001_1] 37 (0, 0)) (by (with_reducible repeat (first | refine blk_drewN ?_ _ | refine blk_drew ?_ | refine blk_alloc ?_ _)); exact BK158.out)) : gb158 ≠ gb160)); have n6_ := Aside0.mk ((by rw [hg]; exact Nat.ne_of_gt (blk_lt (g := gb158) (o := .cells #[.slice none 0 0, .bool x159001_1] 37 (0, 0)) (by (with_reducible repeat (first | refine blk_drewN ?_ _ | refine blk_drew ?_ | refine blk_alloc ?_ _)); exact BK158.out)) : gb160 ≠ gb158)); clear BK158; clear HB; have BK158 := n0_; have HB := n1_; have BK160 := n2_; have GW160 := n3_; have GE160 := n4_; have NB158_160 := n5_; have NB160_158 := n6_; clear n0_ n1_ n2_ n3_ n4_ n5_ n6_; clear hb hbox hg))
        repeat (go_quiet (first | ((with_reducible refine gate_dst (N := 6) rfl ?_); (try (refine gate_guard (by rfl) ?_; dsimp only)); refine box_event ?hg (N := 6) ?hd (cs := #[.slice none 0 0, .bool false]) (t := 37) ?hr ?_; (case hd => rfl); (case hg => rfl); (case hr => first | (go_simp; done) | (go_simp; rfl)); intro gb160 hg w11 hbox hb; have n0_ := Aside0.mk (blk_below (g := gb158) (o := .cells #[.slice none 0 0, .bool x159001_1] 37 (0, 0)) (by (with_reducible repeat (first | refine blk_drewN ?_ _ | refine blk_drew ?_ | refine blk_alloc ?_ _)); exact BK158.out) hb); have n1_ := Aside0.mk (below_step (by repeat (first | (with_reducible first | exact HB.out | apply below_alloc | apply pw_below_drewN | apply below_drew1 | refine below_set ?_ GE158.out) | exact HB.out)) hb); have n2_ := Aside0.mk (hbox); have n3_ := Aside0.mk ((by rw [hg]; exact (below_size (by repeat (first | (with_reducible first | exact HB.out | apply below_alloc | apply pw_below_drewN | apply below_drew1 | refine below_set ?_ GE158.out) | exact HB.out))) : w.heap.size ≤ gb160)); have n4_ := Aside0.mk ((by rw [hg]; exact (below_size (by repeat (first | (with_reducible first | exact HB.out | apply below_alloc | apply pw_below_drewN | apply below_drew1 | refine below_set ?_ GE158.out) | exact HB.out))) : w.heap.size ≤ gb160)); have n5_ := Aside0.mk ((by rw [hg]; exact Nat.ne_of_lt (blk_lt (g := gb158) (o := .cells #[.slice none 0 0, .bool x159001_1] 37 (0, 0)) (by (with_reducible repeat (first | refine blk_drewN ?_ _ | refine blk_drew ?_ | refine blk_alloc ?_ _)); exact BK158.out)) : gb158 ≠ gb160)); have n6_ := Aside0.mk ((by rw [hg]; exact Nat.ne_of_gt (blk_lt (g := gb158) (o := .cells #[.slice none 0 0, .bool x159001_1] 37 (0, 0)) (by (with_reducible repeat (first | refine blk_drewN ?_ _ | refine blk_drew ?_ | refine blk_alloc ?_ _)); exact BK158.out)) : gb160 ≠ gb158)); clear BK158; clear HB; have BK158 := n0_; have HB := n1_; have BK160 := n2_; have GW160 := n3_; have GE160 := n4_; have NB158_160 := n5_; have NB160_158 := n6_; clear n0_ n1_ n2_ n3_ n4_ n5_ n6_; clear hb hbox hg)); try go_wp2_with (first | ((with_reducible refine gate_dst (N := 6) rfl ?_); (try (refine gate_guard (by rfl) ?_; dsimp only)); refine box_event ?hg (N := 6) ?hd (cs := #[.slice none 0 0, .bool false]) (t := 37) ?hr ?_; (case hd => rfl); (case hg => rfl); (case hr => first | (go_simp; done) | (go_simp; rfl)); intro gb160 hg w11 hbox hb; have n0_ := Aside0.mk (blk_below (g := gb158) (o := .cells #[.slice none 0 0, .bool x159001_1] 37 (0, 0)) (by (with_reducible repeat (first | refine blk_drewN ?_ _ | refine blk_drew ?_ | refine blk_alloc ?_ _)); exact BK158.out) hb); have n1_ := Aside0.mk (below_step (by repeat (first | (with_reducible first | exact HB.out | apply below_alloc | apply pw_below_drewN | apply below_drew1 | refine below_set ?_ GE158.out) | exact HB.out)) hb); have n2_ := Aside0.mk (hbox); have n3_ := Aside0.mk ((by rw [hg]; exact (below_size (by repeat (first | (with_reducible first | exact HB.out | apply below_alloc | apply pw_below_drewN | apply below_drew1 | refine below_set ?_ GE158.out) | exact HB.out))) : w.heap.size ≤ gb160)); have n4_ := Aside0.mk ((by rw [hg]; exact (below_size (by repeat (first | (with_reducible first | exact HB.out | apply below_alloc | apply pw_below_drewN | apply below_drew1 | refine below_set ?_ GE158.out) | exact HB.out))) : w.heap.size ≤ gb160)); have n5_ := Aside0.mk ((by rw [hg]; exact Nat.ne_of_lt (blk_lt (g := gb158) (o := .cells #[.slice none 0 0, .bool x159001_1] 37 (0, 0)) (by (with_reducible repeat (first | refine blk_drewN ?_ _ | refine blk_drew ?_ | refine blk_alloc ?_ _)); exact BK158.out)) : gb158 ≠ gb160)); have n6_ := Aside0.mk ((by rw [hg]; exact Nat.ne_of_gt (blk_lt (g := gb158) (o := .cells #[.slice none 0 0, .bool x159001_1] 37 (0, 0)) (by (with_reducible repeat (first | refine blk_drewN ?_ _ | refine blk_drew ?_ | refine blk_alloc ?_ _)); exact BK158.out)) : gb160 ≠ gb158)); clear BK158; clear HB; have BK158 := n0_; have HB := n1_; have BK160 := n2_; have GW160 := n3_; have GE160 := n4_; have NB158_160 := n5_; have NB160_158 := n6_; clear n0_ n1_ n2_ n3_ n4_ n5_ n6_; clear hb hbox hg)))
        (try (first | apply wp_label | apply wp_scope_straight); go_wp2_with (first | ((with_reducible refine gate_dst (N := 6) rfl ?_); (try (refine gate_guard (by rfl) ?_; dsimp only)); refine box_event ?hg (N := 6) ?hd (cs := #[.slice none 0 0, .bool false]) (t := 37) ?hr ?_; (case hd => rfl); (case hg => rfl); (case hr => first | (go_simp; done) | (go_simp; rfl)); intro gb160 hg w11 hbox hb; have n0_ := Aside0.mk (blk_below (g := gb158) (o := .cells #[.slice none 0 0, .bool x159001_1] 37 (0, 0)) (by (with_reducible repeat (first | refine blk_drewN ?_ _ | refine blk_drew ?_ | refine blk_alloc ?_ _)); exact BK158.out) hb); have n1_ := Aside0.mk (below_step (by repeat (first | (with_reducible first | exact HB.out | apply below_alloc | apply pw_below_drewN | apply below_drew1 | refine below_set ?_ GE158.out) | exact HB.out)) hb); have n2_ := Aside0.mk (hbox); have n3_ := Aside0.mk ((by rw [hg]; exact (below_size (by repeat (first | (with_reducible first | exact HB.out | apply below_alloc | apply pw_below_drewN | apply below_drew1 | refine below_set ?_ GE158.out) | exact HB.out))) : w.heap.size ≤ gb160)); have n4_ := Aside0.mk ((by rw [hg]; exact (below_size (by repeat (first | (with_reducible first | exact HB.out | apply below_alloc | apply pw_below_drewN | apply below_drew1 | refine below_set ?_ GE158.out) | exact HB.out))) : w.heap.size ≤ gb160)); have n5_ := Aside0.mk ((by rw [hg]; exact Nat.ne_of_lt (blk_lt (g := gb158) (o := .cells #[.slice none 0 0, .bool x159001_1] 37 (0, 0)) (by (with_reducible repeat (first | refine blk_drewN ?_ _ | refine blk_drew ?_ | refine blk_alloc ?_ _)); exact BK158.out)) : gb158 ≠ gb160)); have n6_ := Aside0.mk ((by rw [hg]; exact Nat.ne_of_gt (blk_lt (g := gb158) (o := .cells #[.slice none 0 0, .bool x159001_1] 37 (0, 0)) (by (with_reducible repeat (first | refine blk_drewN ?_ _ | refine blk_drew ?_ | refine blk_alloc ?_ _)); exact BK158.out)) : gb160 ≠ gb158)); clear BK158; clear HB; have BK158 := n0_; have HB := n1_; have BK160 := n2_; have GW160 := n3_; have GE160 := n4_; have NB158_160 := n5_; have NB160_158 := n6_; clear n0_ n1_ n2_ n3_ n4_ n5_ n6_; clear hb hbox hg)))
        go_loopg [7, 8, 9, 10] k1 (fun kq v7 v8 v9 v10 w' => ∃ (x7_2 : Int) (x8_2 : Int) (x9_2 : Int) (x10_2 : Int) (x161000_2 : List (S42)) (x161001_2 : Bool) (u161000 : Value), v7 = .int .i64 x7_2 ∧ v8 = .int .i64 x8_2 ∧ v9 = .int .i64 x9_2 ∧ v10 = .int .i64 x10_2 ∧ Aside0 (trans_Decode.l1 kq l0 x7_2 x8_2 x9_2 x10_2 x161000_2 x161001_2 = some (r1, r2, r3, r4)) ∧ Aside0 (kq ≤ k1) ∧ Aside0 (Kd.S k42 42 w' w.heap.size (fun _ => True) u161000 x161000_2) ∧ Aside0 (w'.heap[gb158]? = some (.cells #[(.slice none 0 0), .bool x159001_1] 37 (0, 0))) ∧ Aside0 (w'.heap[gb160]? = some (.cells #[u161000, .bool x161001_2] 37 (0, 0))) ∧ Aside0 (Below w.heap.size w w'))
        case atStart => exact ⟨(4), (0), (262144), (0), (([] : List (S42))), (false), (.slice none 0 0), (by first | rfl | (simp; done) | (simp [*]; done)), (by first | rfl | (simp; done) | (simp [*]; done)), (by first | rfl | (simp; done) | (simp [*]; done)), (by first | rfl | (simp; done) | (simp [*]; done)), H', ⟨Nat.le_refl _⟩, ⟨by first | exact Kd.S_nil _ _ _ _ _ | exact Kd.N_nil _ _ _ _ _ | exact Kd.V_nil _ _ _ _ _ | exact Kd.Q_nil _ _ _ _ _ | exact Kd.R_nil _ _ _ _ _⟩, ⟨by (with_reducible repeat (first | refine blk_drewN ?_ _ | refine blk_drew ?_ | refine blk_alloc ?_ _)); exact BK158.out⟩, ⟨by (with_reducible repeat (first | refine blk_drewN ?_ _ | refine blk_drew ?_ | refine blk_alloc ?_ _)); exact BK160.out⟩, ⟨by repeat (first | (with_reducible first | exact HB.out | apply below_alloc | apply pw_below_drewN | apply below_drew1 | refine below_set ?_ GE158.out | refine below_set ?_ GE160.out) | exact HB.out)⟩⟩
        case round =>
          clear H'
          try clear c1
          try clear p1
          try clear q1
          try clear hx1
          try clear p2
          try clear c3
          try clear c3b0
          try clear c4
          try clear c4b0
          try clear c4b1
          try clear c6
          try clear c6b0
          try clear p6
          try clear c7
          try clear c7b0
          try clear p8
          try clear q8
          try clear hx8
          try clear c9
          try clear c9b0
          try clear c9b1
          try clear hcz10_0
          try clear hcz10_1
          try clear hcz5_0
          try clear hcz5_1
          try clear hfz10_0
          try clear hfz10_1
          try clear hfz5_0
          try clear hfz5_1
          try clear hx159_0
          try clear p159
          try clear p2
          try clear p8
          try clear q159
          try clear q8
          obtain ⟨x7_2, x8_2, x9_2, x10_2, x161000_2, x161001_2, u161000, rfl, rfl, rfl, rfl, HA, HK2, HO_161000, BK158, BK160, HB⟩ := hrel
          cases gk with
          | zero => exact absurd HA.out (by simp [trans_Decode.l1])
          | succ k2 =>
            have H := HA.out
            clear HA
            simp only [trans_Decode.l1] at H
            by_cases c12 : x7_2 < (l0.length : Int)
            · rw [if_pos c12] at H
              have c12b0 : decide (x7_2 < (l0.length : Int)) = true := decide_eq_true c12
              clear c12
              by_cases c13 : 0 ≤ x7_2
              · rw [if_pos c13] at H
                have c13b0 : decide (0 ≤ x7_2) = true := decide_eq_true c13
                clear c13
                have HC14 := Aside0.mk H
                clear H
                have p161 : 0 ≤ (x7_2 : Int) := of_decide_eq_true (by first | (with_reducible assumption) | assumption)
                have q161 : x7_2 < (l0.length : Int) := of_decide_eq_true (by first | (with_reducible assumption) | assumption)
                obtain ⟨ad161, e161, hx161_0⟩ := Kd.at_int HR0.out x7_2 p161 q161
                cases e161
                replace hx161_0 := (HB.out.cell (World.block_lt_of_cell? w _ hx161_0)).trans hx161_0
                replace p161 := eq_true p161
                replace q161 := eq_true q161
                go_upto_region 13 with (fail)
                repeat (go_quiet (fail); go_upto_region 13 with (fail))
                go_cut [42] (fun v42 wc => ∃ (kq : Nat) (x42_13 : Bool), v42 = .bool x42_13 ∧ Aside0 (trans_Decode.j2 kq l0 x7_2 x8_2 x9_2 x10_2 (rd l0 x7_2) x42_13 x161000_2 x161001_2 = some (r1, r2, r3, r4)) ∧ Aside0 (kq ≤ k2) ∧ Aside0 (Kd.S k42 42 wc w.heap.size (fun _ => True) u161000 x161000_2) ∧ Aside0 (wc.heap[gb158]? = some (.cells #[(.slice none 0 0), .bool x159001_1] 37 (0, 0))) ∧ Aside0 (wc.heap[gb160]? = some (.cells #[u161000, .bool x161001_2] 37 (0, 0))) ∧ Aside0 (Below w.heap.size w wc))
                case first =>
                  have H := HC14.out
                  clear HC14
                  by_cases c15 : (rd l0 x7_2) = 3
                  · rw [if_pos c15] at H
                    have c15b0 : ((rd l0 x7_2) == 3) = true := beq_iff_eq.mpr c15
                    have c15b1 : ((rd l0 x7_2) != 3) = false := bne_eq_false_iff_eq.mpr c15
                    clear c15
                    (first | rw [c15b0] | (simp only [i64_w, i32_w]; rw [c15b0]) | skip)
                    have H' := Aside0.mk H
                    clear H
                    go_wp2
                    repeat (go_quiet (fail); try go_wp2)
                    go_meet
                    case rel => exact ⟨_, (((wrap64 (x7_2 + 1)) == (l0.length : Int))), (by first | rfl | (simp; done) | (simp [*]; done)), H', ⟨by have := HK1.out; have := HK2.out; first | omega | exact Nat.le_refl _⟩, ⟨by (with_reducible repeat (first | apply Kd.S_alloc | apply Kd.S_drewN | apply Kd.S_drew)); exact HO_161000.out⟩, ⟨by (with_reducible repeat (first | refine blk_drewN ?_ _ | refine blk_drew ?_ | refine blk_alloc ?_ _)); exact BK158.out⟩, ⟨by (with_reducible repeat (first | refine blk_drewN ?_ _ | refine blk_drew ?_ | refine blk_alloc ?_ _)); exact BK160.out⟩, ⟨by repeat (first | (with_reducible first | exact HB.out | apply below_alloc | apply pw_below_drewN | apply below_drew1 | refine below_set ?_ GE158.out | refine below_set ?_ GE160.out) | exact HB.out)⟩⟩
                  · rw [if_neg c15] at H
                    have c15b0 : ((rd l0 x7_2) == 3) = false := beq_eq_false_iff_ne.mpr c15
                    have c15b1 : ((rd l0 x7_2) != 3) = true := bne_iff_ne.mpr c15
                    (first | rw [c15b0] | (simp only [i64_w, i32_w]; rw [c15b0]) | skip)
                    have H' := Aside0.mk H
                    clear H
                    go_wp2
                    repeat (go_quiet (fail); try go_wp2)
                    go_meet
                    case rel => exact ⟨_, (false), (by first | rfl | (simp; done) | (simp [*]; done)), H', ⟨by have := HK1.out; have := HK2.out; first | omega | exact Nat.le_refl _⟩, ⟨by (with_reducible repeat (first | apply Kd.S_alloc | apply Kd.S_drewN | apply Kd.S_drew)); exact HO_161000.out⟩, ⟨by (with_reducible repeat (first | refine blk_drewN ?_ _ | refine blk_drew ?_ | refine blk_alloc ?_ _)); exact BK158.out⟩, ⟨by (with_reducible repeat (first | refine blk_drewN ?_ _ | refine blk_drew ?_ | refine blk_alloc ?_ _)); exact BK160.out⟩, ⟨by repeat (first | (with_reducible first | exact HB.out | apply below_alloc | apply pw_below_drewN | apply below_drew1 | refine below_set ?_ GE158.out | refine below_set ?_ GE160.out) | exact HB.out)⟩⟩
                case rest =>
                  clear HC14
                  try clear c1
                  try clear p1
                  try clear q1
                  try clear hx1
                  try clear p2
                  try clear c3
                  try clear c3b0
                  try clear c4
                  try clear c4b0
                  try clear c4b1
                  try clear c6
                  try clear c6b0
                  try clear p6
                  try clear c7
                  try clear c7b0
                  try clear p8
                  try clear q8
                  try clear hx8
                  try clear c9
                  try clear c9b0
                  try clear c9b1
                  try clear c12
                  try clear c12b0
                  try clear c13
                  try clear c13b0
                  try clear c15
                  try clear c15b0
                  try clear c15b1
                  try clear p15
                  try clear q15
                  try clear hx15
                  try clear hcz10_0
                  try clear hcz10_1
                  try clear hcz5_0
                  try clear hcz5_1
                  try clear hfz10_0
                  try clear hfz10_1
                  try clear hfz5_0
                  try clear hfz5_1
                  try clear hx159_0
                  try clear hx161_0
                  try clear p1
                  try clear p159
                  try clear p161
                  try clear p2
                  try clear p6
                  try clear p8
                  try clear q1
                  try clear q159
                  try clear q161
                  try clear q8
                  obtain ⟨kq, x42_13, rfl, HA, HJ13, HO_161000, BK158, BK160, HB⟩ := hcut
                  cases kq with
                  | zero => exact absurd HA.out (by simp [trans_Decode.j2])
                  | succ kj13 =>
                    have H := HA.out
                    clear HA
                    simp only [trans_Decode.j2] at H
                    by_cases c16 : x42_13 = true
                    · subst c16
                      have H1 : (if x10_2 = 0 then (some (x161000_2, true, 0, 0)) else (some (([] : List (S42)), false, x7_2, x10_2))) = some (r1, r2, r3, r4) := by rw [if_pos rfl] at H; exact H
                      clear H
                      have H := H1
                      clear H1
                      by_cases c17 : x10_2 = 0
                      · rw [if_pos c17] at H
                        have c17b0 : (x10_2 == 0) = true := beq_iff_eq.mpr c17
                        have c17b1 : (x10_2 != 0) = false := bne_eq_false_iff_eq.mpr c17
                        clear c17
                        simp only [Option.some.injEq, Prod.mk.injEq] at H
                        obtain ⟨rfl, rfl, rfl, rfl⟩ := H
                        have hnb18 := NB160_158.out
                        have hnc18 := NB158_160.out
                        have hcz19_0 : wc.cell? ⟨gb160, 0, none⟩ = some (u161000) := (blk_cell BK160.out 0).trans rfl
                        have hcz19_1 : wc.cell? ⟨gb160, 1, none⟩ = some (.bool x161001_2) := (blk_cell BK160.out 1).trans rfl
                        have hfz19_0 := blk_frozen BK160.out 0
                        have hfz19_1 := blk_frozen BK160.out 1
                        obtain ⟨Ao20, co20, eo20⟩ := Kd.S_slice HO_161000.out
                        subst eo20
                        have hcz21_0 : wc.cell? ⟨gb158, 0, none⟩ = some (.slice none 0 0) := (blk_cell BK158.out 0).trans rfl
                        have hcz21_1 : wc.cell? ⟨gb158, 1, none⟩ = some (.bool x159001_1) := (blk_cell BK158.out 1).trans rfl
                        have hfz21_0 := blk_frozen BK158.out 0
                        have hfz21_1 := blk_frozen BK158.out 1
                        go_wp2
                        repeat (go_quiet (fail); try go_wp2)
                        try rw [Exit.noGoto_ret]
                        refine bodyPost_ret (results_ctt rfl _ _ gb158 37 #[.slice Ao20 x161000_2.length co20, .bool true] (0, 0) _ rfl (by (with_reducible repeat (first | refine blk_drewN ?_ _ | refine blk_drew ?_ | refine blk_alloc ?_ _)); refine blk_put (cs := #[.slice Ao20 x161000_2.length co20, .bool x159001_1]) ?_ 1 _ rfl; (with_reducible repeat (first | refine blk_drewN ?_ _ | refine blk_drew ?_ | refine blk_alloc ?_ _)); refine blk_put (cs := #[.slice none 0 0, .bool x159001_1]) ?_ 0 _ rfl; (with_reducible repeat (first | refine blk_drewN ?_ _ | refine blk_drew ?_ | refine blk_alloc ?_ _)); refine blk_far ?_ NB158_160.out _; (with_reducible repeat (first | refine blk_drewN ?_ _ | refine blk_drew ?_ | refine blk_alloc ?_ _)); exact BK158.out) Tryz.underlying37 rfl (by kernel_rfl)) rfl ?_
                        exact ⟨_, by first | rfl | (simp [errW_none, errW_some] <;> rfl) | (simp [*, errW_none, errW_some] <;> rfl), by (with_reducible repeat (first | apply Kd.S_alloc | apply Kd.S_drewN | apply Kd.S_drew)); exact Kd.S_mono (Kd.S_far (p := ⟨gb158, 1, none⟩) (Kd.S_far (p := ⟨gb158, 0, none⟩) (Kd.S_far (p := ⟨gb160, 1, none⟩) (Kd.S_types (Kd.S_types HO_161000.out BK160.out (by decide)) BK158.out (by decide)) (fun _ hk => hk.1.2) (.bool true)) (fun _ hk => hk.2) (.slice Ao20 x161000_2.length co20)) (fun _ hk => hk.2) (.bool true)) (fun _ hk => trivial), by repeat (first | (with_reducible first | exact HB.out | apply below_alloc | apply pw_below_drewN | apply below_drew1 | refine below_set ?_ GE158.out | refine below_set ?_ GE160.out) | exact HB.out)⟩
                      · rw [if_neg c17] at H
                        have c17b0 : (x10_2 == 0) = false := beq_eq_false_iff_ne.mpr c17
                        have c17b1 : (x10_2 != 0) = true := bne_iff_ne.mpr c17
                        simp only [Option.some.injEq, Prod.mk.injEq] at H
                        obtain ⟨rfl, rfl, rfl, rfl⟩ := H
                        have hnb22 := NB160_158.out
                        have hnc22 := NB158_160.out
                        have hcz23_0 : wc.cell? ⟨gb160, 0, none⟩ = some (u161000) := (blk_cell BK160.out 0).trans rfl
                        have hcz23_1 : wc.cell? ⟨gb160, 1, none⟩ = some (.bool x161001_2) := (blk_cell BK160.out 1).trans rfl
                        have hfz23_0 := blk_frozen BK160.out 0
                        have hfz23_1 := blk_frozen BK160.out 1
                        have hcz24_0 : wc.cell? ⟨gb158, 0, none⟩ = some (.slice none 0 0) := (blk_cell BK158.out 0).trans rfl
                        have hcz24_1 : wc.cell? ⟨gb158, 1, none⟩ = some (.bool x159001_1) := (blk_cell BK158.out 1).trans rfl
                        have hfz24_0 := blk_frozen BK158.out 0
                        have hfz24_1 := blk_frozen BK158.out 1
                        go_wp2
                        repeat (go_quiet (fail); try go_wp2)
                        try rw [Exit.noGoto_ret]
                        refine bodyPost_ret (results_ctt rfl _ _ gb158 37 #[.slice none 0 0, .bool false] (0, 0) _ rfl (by (with_reducible repeat (first | refine blk_drewN ?_ _ | refine blk_drew ?_ | refine blk_alloc ?_ _)); refine blk_put (cs := #[.slice none 0 0, .bool x159001_1]) ?_ 1 _ rfl; (with_reducible repeat (first | refine blk_drewN ?_ _ | refine blk_drew ?_ | refine blk_alloc ?_ _)); refine blk_put (cs := #[.slice none 0 0, .bool x159001_1]) ?_ 0 _ rfl; (with_reducible repeat (first | refine blk_drewN ?_ _ | refine blk_drew ?_ | refine blk_alloc ?_ _)); refine blk_far ?_ NB158_160.out _; (with_reducible repeat (first | refine blk_drewN ?_ _ | refine blk_drew ?_ | refine blk_alloc ?_ _)); exact BK158.out) Tryz.underlying37 rfl (by kernel_rfl)) rfl ?_
                        exact ⟨_, by first | rfl | (simp [errW_none, errW_some] <;> rfl) | (simp [*, errW_none, errW_some] <;> rfl), by first | exact Kd.S_nil _ _ _ _ _ | exact Kd.N_nil _ _ _ _ _ | exact Kd.V_nil _ _ _ _ _ | exact Kd.Q_nil _ _ _ _ _ | exact Kd.R_nil _ _ _ _ _, by repeat (first | (with_reducible first | exact HB.out | apply below_alloc | apply pw_below_drewN | apply below_drew1 | refine below_set ?_ GE158.out | refine below_set ?_ GE160.out) | exact HB.out)⟩
                    · replace c16 := Bool.eq_false_iff.mpr c16
                      subst c16
                      have H1 : (if (rd l0 x7_2) = 3 then (if 4 = 0 then (some (x161000_2, x161001_2, 0, 0)) else (some (([] : List (S42)), false, wrap64 (x7_2 + 1), 4))) else (if (rd l0 x7_2) = 1 then (trans_Decode.j3 kj13 l0 x7_2 x8_2 x9_2 (rd l0 x7_2) false x161000_2 x161001_2) else (trans_Decode.j3 kj13 l0 x7_2 x8_2 x9_2 (rd l0 x7_2) ((rd l0 x7_2) != 2) x161000_2 x161001_2))) = some (r1, r2, r3, r4) := by rw [if_neg (show ¬ (false = true) by decide)] at H; exact H
                      clear H
                      have H := H1
                      clear H1
                      by_cases c25 : (rd l0 x7_2) = 3
                      · rw [if_pos c25] at H
                        have c25b0 : ((rd l0 x7_2) == 3) = true := beq_iff_eq.mpr c25
                        have c25b1 : ((rd l0 x7_2) != 3) = false := bne_eq_false_iff_eq.mpr c25
                        clear c25
                        by_cases c26 : 4 = 0
                        · exact absurd c26 (by decide)
                        · rw [if_neg c26] at H
                          have c26b0 : (4 == 0) = false := beq_eq_false_iff_ne.mpr c26
                          have c26b1 : (4 != 0) = true := bne_iff_ne.mpr c26
                          simp only [Option.some.injEq, Prod.mk.injEq] at H
                          obtain ⟨rfl, rfl, rfl, rfl⟩ := H
                          have hnb31 := NB158_160.out
                          have hnc31 := NB160_158.out
                          have hcz32_0 : wc.cell? ⟨gb158, 0, none⟩ = some (.slice none 0 0) := (blk_cell BK158.out 0).trans rfl
                          have hcz32_1 : wc.cell? ⟨gb158, 1, none⟩ = some (.bool x159001_1) := (blk_cell BK158.out 1).trans rfl
                          have hfz32_0 := blk_frozen BK158.out 0
                          have hfz32_1 := blk_frozen BK158.out 1
                          go_wp2
                          repeat (go_quiet (fail); try go_wp2)
                          try rw [Exit.noGoto_ret]
                          refine bodyPost_ret (results_ctt rfl _ _ gb158 37 #[.slice none 0 0, .bool false] (0, 0) _ rfl (by (with_reducible repeat (first | refine blk_drewN ?_ _ | refine blk_drew ?_ | refine blk_alloc ?_ _)); refine blk_put (cs := #[.slice none 0 0, .bool x159001_1]) ?_ 1 _ rfl; (with_reducible repeat (first | refine blk_drewN ?_ _ | refine blk_drew ?_ | refine blk_alloc ?_ _)); refine blk_put (cs := #[.slice none 0 0, .bool x159001_1]) ?_ 0 _ rfl; (with_reducible repeat (first | refine blk_drewN ?_ _ | refine blk_drew ?_ | refine blk_alloc ?_ _)); exact BK158.out) Tryz.underlying37 rfl (by kernel_rfl)) rfl ?_
                          exact ⟨_, by first | rfl | (simp [errW_none, errW_some] <;> rfl) | (simp [*, errW_none, errW_some] <;> rfl), by first | exact Kd.S_nil _ _ _ _ _ | exact Kd.N_nil _ _ _ _ _ | exact Kd.V_nil _ _ _ _ _ | exact Kd.Q_nil _ _ _ _ _ | exact Kd.R_nil _ _ _ _ _, by repeat (first | (with_reducible first | exact HB.out | apply below_alloc | apply pw_below_drewN | apply below_drew1 | refine below_set ?_ GE158.out | refine below_set ?_ GE160.out) | exact HB.out)⟩
                      · rw [if_neg c25] at H
                        have c25b0 : ((rd l0 x7_2) == 3) = false := beq_eq_false_iff_ne.mpr c25
                        have c25b1 : ((rd l0 x7_2) != 3) = true := bne_iff_ne.mpr c25
                        have HC33 := Aside0.mk H
                        clear H
                        go_upto_region 18 with (fail)
                        repeat (go_quiet (fail); go_upto_region 18 with (fail))
                        go_cut [58] (fun v58 wc => ∃ (kq : Nat) (x58_32 : Bool), v58 = .bool x58_32 ∧ Aside0 (trans_Decode.j3 kq l0 x7_2 x8_2 x9_2 (rd l0 x7_2) x58_32 x161000_2 x161001_2 = some (r1, r2, r3, r4)) ∧ Aside0 (kq ≤ kj13) ∧ Aside0 (Kd.S k42 42 wc w.heap.size (fun _ => True) u161000 x161000_2) ∧ Aside0 (wc.heap[gb158]? = some (.cells #[(.slice none 0 0), .bool x159001_1] 37 (0, 0))) ∧ Aside0 (wc.heap[gb160]? = some (.cells #[u161000, .bool x161001_2] 37 (0, 0))) ∧ Aside0 (Below w.heap.size w wc))
                        case first =>
                          have H := HC33.out
                          clear HC33
                          by_cases c34 : (rd l0 x7_2) = 1
                          · rw [if_pos c34] at H
                            have c34b0 : ((rd l0 x7_2) == 1) = true := beq_iff_eq.mpr c34
                            have c34b1 : ((rd l0 x7_2) != 1) = false := bne_eq_false_iff_eq.mpr c34
                            clear c34
                            (first | rw [c34b0] | (simp only [i64_w, i32_w]; rw [c34b0]) | skip)
                            have H' := Aside0.mk H
                            clear H
                            go_wp2
                            repeat (go_quiet (fail); try go_wp2)
                            go_meet
                            case rel => exact ⟨_, (false), (by first | rfl | (simp; done) | (simp [*]; done)), H', ⟨by have := HK1.out; have := HK2.out; have := HJ13.out; first | omega | exact Nat.le_refl _⟩, ⟨by (with_reducible repeat (first | apply Kd.S_alloc | apply Kd.S_drewN | apply Kd.S_drew)); exact HO_161000.out⟩, ⟨by (with_reducible repeat (first | refine blk_drewN ?_ _ | refine blk_drew ?_ | refine blk_alloc ?_ _)); exact BK158.out⟩, ⟨by (with_reducible repeat (first | refine blk_drewN ?_ _ | refine blk_drew ?_ | refine blk_alloc ?_ _)); exact BK160.out⟩, ⟨by repeat (first | (with_reducible first | exact HB.out | apply below_alloc | apply pw_below_drewN | apply below_drew1 | refine below_set ?_ GE158.out | refine below_set ?_ GE160.out) | exact HB.out)⟩⟩
                          · rw [if_neg c34] at H
                            have c34b0 : ((rd l0 x7_2) == 1) = false := beq_eq_false_iff_ne.mpr c34
                            have c34b1 : ((rd l0 x7_2) != 1) = true := bne_iff_ne.mpr c34
                            (first | rw [c34b0] | (simp only [i64_w, i32_w]; rw [c34b0]) | skip)
                            have H' := Aside0.mk H
                            clear H
                            go_wp2
                            repeat (go_quiet (fail); try go_wp2)
                            go_meet
                            case rel => exact ⟨_, (((rd l0 x7_2) != 2)), (by first | rfl | (simp; done) | (simp [*]; done)), H', ⟨by have := HK1.out; have := HK2.out; have := HJ13.out; first | omega | exact Nat.le_refl _⟩, ⟨by (with_reducible repeat (first | apply Kd.S_alloc | apply Kd.S_drewN | apply Kd.S_drew)); exact HO_161000.out⟩, ⟨by (with_reducible repeat (first | refine blk_drewN ?_ _ | refine blk_drew ?_ | refine blk_alloc ?_ _)); exact BK158.out⟩, ⟨by (with_reducible repeat (first | refine blk_drewN ?_ _ | refine blk_drew ?_ | refine blk_alloc ?_ _)); exact BK160.out⟩, ⟨by repeat (first | (with_reducible first | exact HB.out | apply below_alloc | apply pw_below_drewN | apply below_drew1 | refine below_set ?_ GE158.out | refine below_set ?_ GE160.out) | exact HB.out)⟩⟩
                        case rest =>
                          clear HC33
                          try clear c1
                          try clear p1
                          try clear q1
                          try clear hx1
                          try clear c2
                          try clear p2
                          try clear c3
                          try clear c3b0
                          try clear c4
                          try clear c4b0
                          try clear c4b1
                          try clear c6
                          try clear c6b0
                          try clear p6
                          try clear c7
                          try clear c7b0
                          try clear p8
                          try clear q8
                          try clear hx8
                          try clear c9
                          try clear c9b0
                          try clear c9b1
                          try clear c12
                          try clear c12b0
                          try clear c13
                          try clear c13b0
                          try clear c15
                          try clear c15b0
                          try clear c15b1
                          try clear p15
                          try clear q15
                          try clear hx15
                          try clear c16
                          try clear p16
                          try clear q16
                          try clear hx16
                          try clear c17
                          try clear c17b0
                          try clear c17b1
                          try clear c18
                          try clear c22
                          try clear c25
                          try clear c25b0
                          try clear c25b1
                          try clear c26
                          try clear c26b0
                          try clear c26b1
                          try clear c27
                          try clear c31
                          try clear c34
                          try clear c34b0
                          try clear c34b1
                          try clear hcz10_0
                          try clear hcz10_1
                          try clear hcz19_0
                          try clear hcz19_1
                          try clear hcz21_0
                          try clear hcz21_1
                          try clear hcz23_0
                          try clear hcz23_1
                          try clear hcz24_0
                          try clear hcz24_1
                          try clear hcz28_0
                          try clear hcz28_1
                          try clear hcz30_0
                          try clear hcz30_1
                          try clear hcz32_0
                          try clear hcz32_1
                          try clear hcz5_0
                          try clear hcz5_1
                          try clear hfz10_0
                          try clear hfz10_1
                          try clear hfz19_0
                          try clear hfz19_1
                          try clear hfz21_0
                          try clear hfz21_1
                          try clear hfz23_0
                          try clear hfz23_1
                          try clear hfz24_0
                          try clear hfz24_1
                          try clear hfz28_0
                          try clear hfz28_1
                          try clear hfz30_0
                          try clear hfz30_1
                          try clear hfz32_0
                          try clear hfz32_1
                          try clear hfz5_0
                          try clear hfz5_1
                          try clear hx159_0
                          try clear hx161_0
                          try clear p1
                          try clear p15
                          try clear p159
                          try clear p161
                          try clear p2
                          try clear p6
                          try clear p8
                          try clear q1
                          try clear q15
                          try clear q159
                          try clear q161
                          try clear q8
                          obtain ⟨kq, x58_32, rfl, HA, HJ32, HO_161000, BK158, BK160, HB⟩ := hcut
                          cases kq with
                          | zero => exact absurd HA.out (by simp [trans_Decode.j3])
                          | succ kj32 =>
                            have H := HA.out
                            clear HA
                            simp only [trans_Decode.j3] at H
                            by_cases c35 : x58_32 = true
                            · subst c35
                              have H1 : (if 4 = 0 then (some (x161000_2, x161001_2, 0, 0)) else (some (([] : List (S42)), false, x7_2, 4))) = some (r1, r2, r3, r4) := by rw [if_pos rfl] at H; exact H
                              clear H
                              have H := H1
                              clear H1
                              by_cases c36 : 4 = 0
                              · exact absurd c36 (by decide)
                              · rw [if_neg c36] at H
                                have c36b0 : (4 == 0) = false := beq_eq_false_iff_ne.mpr c36
                                have c36b1 : (4 != 0) = true := bne_iff_ne.mpr c36
                                simp only [Option.some.injEq, Prod.mk.injEq] at H
                                obtain ⟨rfl, rfl, rfl, rfl⟩ := H
                                have hnb41 := NB158_160.out
                                have hnc41 := NB160_158.out
                                have hcz42_0 : wc.cell? ⟨gb158, 0, none⟩ = some (.slice none 0 0) := (blk_cell BK158.out 0).trans rfl
                                have hcz42_1 : wc.cell? ⟨gb158, 1, none⟩ = some (.bool x159001_1) := (blk_cell BK158.out 1).trans rfl
                                have hfz42_0 := blk_frozen BK158.out 0
                                have hfz42_1 := blk_frozen BK158.out 1
                                go_wp2
                                repeat (go_quiet (fail); try go_wp2)
                                try rw [Exit.noGoto_ret]
                                refine bodyPost_ret (results_ctt rfl _ _ gb158 37 #[.slice none 0 0, .bool false] (0, 0) _ rfl (by (with_reducible repeat (first | refine blk_drewN ?_ _ | refine blk_drew ?_ | refine blk_alloc ?_ _)); refine blk_put (cs := #[.slice none 0 0, .bool x159001_1]) ?_ 1 _ rfl; (with_reducible repeat (first | refine blk_drewN ?_ _ | refine blk_drew ?_ | refine blk_alloc ?_ _)); refine blk_put (cs := #[.slice none 0 0, .bool x159001_1]) ?_ 0 _ rfl; (with_reducible repeat (first | refine blk_drewN ?_ _ | refine blk_drew ?_ | refine blk_alloc ?_ _)); exact BK158.out) Tryz.underlying37 rfl (by kernel_rfl)) rfl ?_
                                exact ⟨_, by first | rfl | (simp [errW_none, errW_some] <;> rfl) | (simp [*, errW_none, errW_some] <;> rfl), by first | exact Kd.S_nil _ _ _ _ _ | exact Kd.N_nil _ _ _ _ _ | exact Kd.V_nil _ _ _ _ _ | exact Kd.Q_nil _ _ _ _ _ | exact Kd.R_nil _ _ _ _ _, by repeat (first | (with_reducible first | exact HB.out | apply below_alloc | apply pw_below_drewN | apply below_drew1 | refine below_set ?_ GE158.out | refine below_set ?_ GE160.out) | exact HB.out)⟩
                            · replace c35 := Bool.eq_false_iff.mpr c35
                              subst c35
                              have H1 : (if (x161000_2.length : Int) = 4096 then (if 10 = 0 then (some (x161000_2, x161001_2, 0, 0)) else (some (([] : List (S42)), false, x7_2, 10))) else ((trans_one.f kj32 l0 (wrap64 (x7_2 + 1)) x8_2 x9_2).bind fun bt163 => (if bt163.2.2.2.2 = 0 then (if x161000_2.length < 3518437208883 then (trans_Decode.l1 kj32 l0 bt163.2.2.2.1 bt163.2.1 (wrap64 (x9_2 - (bt163.2.2.1.length : Int))) bt163.2.2.2.2 (x161000_2 ++ [(⟨wrap64 ((wrap64 ((rd l0 x7_2))) - 1), bt163.2.1, bt163.2.2.1⟩ : S42)]) x161001_2) else (none)) else (some (([] : List (S42)), false, bt163.2.2.2.1, bt163.2.2.2.2))))) = some (r1, r2, r3, r4) := by rw [if_neg (show ¬ (false = true) by decide)] at H; exact H
                              clear H
                              have H := H1
                              clear H1
                              by_cases c43 : (x161000_2.length : Int) = 4096
                              · rw [if_pos c43] at H
                                have c43b0 : ((x161000_2.length : Int) == 4096) = true := beq_iff_eq.mpr c43
                                have c43b1 : ((x161000_2.length : Int) != 4096) = false := bne_eq_false_iff_eq.mpr c43
                                clear c43
                                by_cases c44 : 10 = 0
                                · exact absurd c44 (by decide)
                                · rw [if_neg c44] at H
                                  have c44b0 : (10 == 0) = false := beq_eq_false_iff_ne.mpr c44
                                  have c44b1 : (10 != 0) = true := bne_iff_ne.mpr c44
                                  simp only [Option.some.injEq, Prod.mk.injEq] at H
                                  obtain ⟨rfl, rfl, rfl, rfl⟩ := H
                                  have hnb49 := NB160_158.out
                                  have hnc49 := NB158_160.out
                                  have hcz50_0 : wc.cell? ⟨gb160, 0, none⟩ = some (u161000) := (blk_cell BK160.out 0).trans rfl
                                  have hcz50_1 : wc.cell? ⟨gb160, 1, none⟩ = some (.bool x161001_2) := (blk_cell BK160.out 1).trans rfl
                                  have hfz50_0 := blk_frozen BK160.out 0
                                  have hfz50_1 := blk_frozen BK160.out 1
                                  obtain ⟨Ao51, co51, eo51⟩ := Kd.S_slice HO_161000.out
                                  subst eo51
                                  have hcz52_0 : wc.cell? ⟨gb158, 0, none⟩ = some (.slice none 0 0) := (blk_cell BK158.out 0).trans rfl
                                  have hcz52_1 : wc.cell? ⟨gb158, 1, none⟩ = some (.bool x159001_1) := (blk_cell BK158.out 1).trans rfl
                                  have hfz52_0 := blk_frozen BK158.out 0
                                  have hfz52_1 := blk_frozen BK158.out 1
                                  go_wp2
                                  repeat (go_quiet (fail); try go_wp2)
                                  try rw [Exit.noGoto_ret]
                                  refine bodyPost_ret (results_ctt rfl _ _ gb158 37 #[.slice none 0 0, .bool false] (0, 0) _ rfl (by (with_reducible repeat (first | refine blk_drewN ?_ _ | refine blk_drew ?_ | refine blk_alloc ?_ _)); refine blk_put (cs := #[.slice none 0 0, .bool x159001_1]) ?_ 1 _ rfl; (with_reducible repeat (first | refine blk_drewN ?_ _ | refine blk_drew ?_ | refine blk_alloc ?_ _)); refine blk_put (cs := #[.slice none 0 0, .bool x159001_1]) ?_ 0 _ rfl; (with_reducible repeat (first | refine blk_drewN ?_ _ | refine blk_drew ?_ | refine blk_alloc ?_ _)); exact BK158.out) Tryz.underlying37 rfl (by kernel_rfl)) rfl ?_
                                  exact ⟨_, by first | rfl | (simp [errW_none, errW_some] <;> rfl) | (simp [*, errW_none, errW_some] <;> rfl), by first | exact Kd.S_nil _ _ _ _ _ | exact Kd.N_nil _ _ _ _ _ | exact Kd.V_nil _ _ _ _ _ | exact Kd.Q_nil _ _ _ _ _ | exact Kd.R_nil _ _ _ _ _, by repeat (first | (with_reducible first | exact HB.out | apply below_alloc | apply pw_below_drewN | apply below_drew1 | refine below_set ?_ GE158.out | refine below_set ?_ GE160.out) | exact HB.out)⟩
                              · rw [if_neg c43] at H
                                have c43b0 : ((x161000_2.length : Int) == 4096) = false := beq_eq_false_iff_ne.mpr c43
                                have c43b1 : ((x161000_2.length : Int) != 4096) = true := bne_iff_ne.mpr c43
                                replace H := Option.bind_eq_some_iff.mp H
                                obtain ⟨⟨t163, t164, t165, t168, t169⟩, A530, H⟩ := H
                                replace H : (if t169 = 0 then (if x161000_2.length < 3518437208883 then (trans_Decode.l1 kj32 l0 t168 t164 (wrap64 (x9_2 - (t165.length : Int))) t169 (x161000_2 ++ [(⟨wrap64 ((wrap64 ((rd l0 x7_2))) - 1), t164, t165⟩ : S42)]) x161001_2) else (none)) else (some (([] : List (S42)), false, t168, t169))) = some (r1, r2, r3, r4) := H
                                have A53 := Aside0.mk A530
                                clear A530
                                by_cases c54 : t169 = 0
                                · rw [if_pos c54] at H
                                  have c54b0 : (t169 == 0) = true := beq_iff_eq.mpr c54
                                  have c54b1 : (t169 != 0) = false := bne_eq_false_iff_eq.mpr c54
                                  clear c54
                                  by_cases c55 : x161000_2.length < 3518437208883
                                  · rw [if_pos c55] at H
                                    have LMc55 := Aside0.mk c55
                                    clear c55
                                    obtain ⟨y170, hy170⟩ : ∃ y_ : List (S42), y_ = (x161000_2 ++ [(⟨wrap64 ((wrap64 ((rd l0 x7_2))) - 1), t164, t165⟩ : S42)]) := ⟨_, rfl⟩
                                    replace H : (trans_Decode.l1 kj32 l0 t168 t164 (wrap64 (x9_2 - (t165.length : Int))) t169 y170 x161001_2) = some (r1, r2, r3, r4) := by first | (rw [hy170]; with_reducible exact H) | (have H2_ := (Option.bind_some _ _).symm.trans H; rw [hy170]; with_reducible exact H2_) | (have H2_ := (Option.bind_some _ _).symm.trans H; with_reducible exact H2_) | with_reducible exact H | (rw [hy170]; exact H) | exact H
                                    have Ny170 := Aside0.mk hy170
                                    clear hy170
                                    have H' := Aside0.mk H
                                    clear H
                                    have hnb56 := NB160_158.out
                                    have hnc56 := NB158_160.out
                                    have hcz57_0 : wc.cell? ⟨gb160, 0, none⟩ = some (u161000) := (blk_cell BK160.out 0).trans rfl
                                    have hcz57_1 : wc.cell? ⟨gb160, 1, none⟩ = some (.bool x161001_2) := (blk_cell BK160.out 1).trans rfl
                                    have hfz57_0 := blk_frozen BK160.out 0
                                    have hfz57_1 := blk_frozen BK160.out 1
                                    obtain ⟨Ao58, co58, eo58⟩ := Kd.S_slice HO_161000.out
                                    subst eo58
                                    go_wp2_with (first | ((with_reducible refine gate_dst (N := 12) rfl ?_); (try (refine gate_guard (by rfl) ?_; dsimp only)); refine box_event ?hg (N := 12) ?hd (cs := #[.int .i64 0, .int .i64 0, .slice none 0 0]) (t := 42) ?hr ?_; (case hd => rfl); (case hg => rfl); (case hr => first | (go_simp; done) | (go_simp; rfl)); intro gb162 hg w59 hbox hb; have n0_ := Aside0.mk (Kd.S_below (Kd.S_elderB (by (with_reducible repeat (first | apply Kd.S_alloc | apply Kd.S_drewN | apply Kd.S_drew)); exact HO_161000.out) gb162 (Nat.le_of_eq hg.symm)) hb); have n1_ := Aside0.mk (blk_below (g := gb158) (o := .cells #[.slice none 0 0, .bool x159001_1] 37 (0, 0)) (by (with_reducible repeat (first | refine blk_drewN ?_ _ | refine blk_drew ?_ | refine blk_alloc ?_ _)); exact BK158.out) hb); have n2_ := Aside0.mk (blk_below (g := gb160) (o := .cells #[.slice Ao58 x161000_2.length co58, .bool x161001_2] 37 (0, 0)) (by (with_reducible repeat (first | refine blk_drewN ?_ _ | refine blk_drew ?_ | refine blk_alloc ?_ _)); exact BK160.out) hb); have n3_ := Aside0.mk (below_step (by repeat (first | (with_reducible first | exact HB.out | apply below_alloc | apply pw_below_drewN | apply below_drew1 | refine below_set ?_ GE158.out | refine below_set ?_ GE160.out) | exact HB.out)) hb); have n4_ := Aside0.mk (hbox); have n5_ := Aside0.mk ((by rw [hg]; exact (below_size (by repeat (first | (with_reducible first | exact HB.out | apply below_alloc | apply pw_below_drewN | apply below_drew1 | refine below_set ?_ GE158.out | refine below_set ?_ GE160.out) | exact HB.out))) : w.heap.size ≤ gb162)); have n6_ := Aside0.mk ((by rw [hg]; exact (below_size (by repeat (first | (with_reducible first | exact HB.out | apply below_alloc | apply pw_below_drewN | apply below_drew1 | refine below_set ?_ GE158.out | refine below_set ?_ GE160.out) | exact HB.out))) : w.heap.size ≤ gb162)); have n7_ := Aside0.mk ((by rw [hg]; exact Nat.ne_of_lt (blk_lt (g := gb158) (o := .cells #[.slice none 0 0, .bool x159001_1] 37 (0, 0)) (by (with_reducible repeat (first | refine blk_drewN ?_ _ | refine blk_drew ?_ | refine blk_alloc ?_ _)); exact BK158.out)) : gb158 ≠ gb162)); have n8_ := Aside0.mk ((by rw [hg]; exact Nat.ne_of_gt (blk_lt (g := gb158) (o := .cells #[.slice none 0 0, .bool x159001_1] 37 (0, 0)) (by (with_reducible repeat (first | refine blk_drewN ?_ _ | refine blk_drew ?_ | refine blk_alloc ?_ _)); exact BK158.out)) : gb162 ≠ gb158)); have n9_ := Aside0.mk ((by rw [hg]; exact Nat.ne_of_lt (blk_lt (g := gb160) (o := .cells #[.slice Ao58 x161000_2.length co58, .bool x161001_2] 37 (0, 0)) (by (with_reducible repeat (first | refine blk_drewN ?_ _ | refine blk_drew ?_ | refine blk_alloc ?_ _)); exact BK160.out)) : gb160 ≠ gb162)); have n10_ := Aside0.mk ((by rw [hg]; exact Nat.ne_of_gt (blk_lt (g := gb160) (o := .cells #[.slice Ao58 x161000_2.length co58, .bool x161001_2] 37 (0, 0)) (by (with_reducible repeat (first | refine blk_drewN ?_ _ | refine blk_drew ?_ | refine blk_alloc ?_ _)); exact BK160.out)) : gb162 ≠ gb160)); clear HO_161000; clear BK158; clear BK160; clear HB; have HO_161000 := n0_; have BK158 := n1_; have BK160 := n2_; have HB := n3_; have BK162 := n4_; have GW162 := n5_; have GE162 := n6_; have NB158_162 := n7_; have NB162_158 := n8_; have NB160_162 := n9_; have NB162_160 := n10_; clear n0_ n1_ n2_ n3_ n4_ n5_ n6_ n7_ n8_ n9_ n10_; clear hb hbox hg) | (go_at_call 32; (with_reducible refine (trans_one.calls kj32 _ _ l0 (wrap64 (x7_2 + 1)) x8_2 x9_2 t163 t164 t165 t168 t169 _ ?side1 ?side2 A53.out).mono ?_); (case side1 => repeat (first | exact (Kd.C_below HR0.out HB.out) | (with_reducible refine Kd.C_alloc ?_ _) | (with_reducible refine Kd.C_drewN ?_ _) | (with_reducible refine Kd.C_drew ?_))); (case side2 => exact HC0.out); rintro e w60 ⟨v166, rfl, ho0, hb⟩; have n0_ := Aside0.mk (Kd.S_elder' (by (with_reducible repeat (first | apply Kd.S_alloc | apply Kd.S_drewN | apply Kd.S_drew)); exact HO_161000.out) (Kd.R_base ho0) hb); have n1_ := Aside0.mk (Kd.R_lower ho0 (below_size (by repeat (first | (with_reducible first | exact HB.out | apply below_alloc | apply pw_below_drewN | apply below_drew1 | refine below_set ?_ GE158.out | refine below_set ?_ GE160.out | refine below_set ?_ GE162.out) | exact HB.out)))); have n2_ := Aside0.mk (blk_below (g := gb158) (o := .cells #[.slice none 0 0, .bool x159001_1] 37 (0, 0)) (by (with_reducible repeat (first | refine blk_drewN ?_ _ | refine blk_drew ?_ | refine blk_alloc ?_ _)); exact BK158.out) hb); have n3_ := Aside0.mk (blk_below (g := gb160) (o := .cells #[.slice Ao58 x161000_2.length co58, .bool x161001_2] 37 (0, 0)) (by (with_reducible repeat (first | refine blk_drewN ?_ _ | refine blk_drew ?_ | refine blk_alloc ?_ _)); exact BK160.out) hb); have n4_ := Aside0.mk (blk_below (g := gb162) (o := .cells #[.int .i64 0, .int .i64 0, .slice none 0 0] 42 (0, 0)) (by (with_reducible repeat (first | refine blk_drewN ?_ _ | refine blk_drew ?_ | refine blk_alloc ?_ _)); exact BK162.out) hb); have n5_ := Aside0.mk (below_step (by repeat (first | (with_reducible first | exact HB.out | apply below_alloc | apply pw_below_drewN | apply below_drew1 | refine below_set ?_ GE158.out | refine below_set ?_ GE160.out | refine below_set ?_ GE162.out) | exact HB.out)) hb); clear HO_161000; clear BK158; clear BK160; clear BK162; clear HB; have HO_161000 := n0_; have HO167 := n1_; have BK158 := n2_; have BK160 := n3_; have BK162 := n4_; have HB := n5_; clear n0_ n1_ n2_ n3_ n4_ n5_; (try clear hb); (try clear hb2); (try clear hk); (try clear hi); (try clear ho0); have hnb61 := NB162_158.out; have hnc61 := NB158_162.out; have hnb62 := NB162_160.out; have hnc62 := NB160_162.out; have hcz63_0 : w60.cell? ⟨gb162, 0, none⟩ = some (.int .i64 0) := (blk_cell BK162.out 0).trans rfl; have hcz63_1 : w60.cell? ⟨gb162, 1, none⟩ = some (.int .i64 0) := (blk_cell BK162.out 1).trans rfl; have hcz63_2 : w60.cell? ⟨gb162, 2, none⟩ = some (.slice none 0 0) := (blk_cell BK162.out 2).trans rfl; have hfz63_0 := blk_frozen BK162.out 0; have hfz63_1 := blk_frozen BK162.out 1; have hfz63_2 := blk_frozen BK162.out 2; obtain ⟨Ao64, co64, eo64⟩ := Kd.R_slice HO167.out; subst eo64) | ((with_reducible refine gate_store (t := 42) (p := 12) rfl ?_); (try (rw [drewN_self w60]; generalize hq_ : World.drewN w60 _ = w60; have n0_ := Aside0.mk (Kd.S_at hq_ HO_161000.out); have n1_ := Aside0.mk (Kd.R_at hq_ HO167.out); have n2_ := Aside0.mk (blk_at hq_ BK158.out); have n3_ := Aside0.mk (blk_at hq_ BK160.out); have n4_ := Aside0.mk (blk_at hq_ BK162.out); have n5_ := Aside0.mk (below_at hq_ HB.out); clear hq_ HO_161000 HO167 BK158 BK160 BK162 HB; have HO_161000 := n0_; have HO167 := n1_; have BK158 := n2_; have BK160 := n3_; have BK162 := n4_; have HB := n5_; clear n0_ n1_ n2_ n3_ n4_ n5_)); refine store_event (t := 42) (p := 12) (v := ?vo_w65) (w1 := (((w60.setCell ⟨gb162, 0, none⟩ (.int .i64 t163)).setCell ⟨gb162, 1, none⟩ (.int .i64 t164)).setCell ⟨gb162, 2, none⟩ (.slice Ao64 t165.length co64))) ?hg ?ho ?hn ?hr ?_; (case ho => rfl); (case hg => rfl); (case hn => rfl); (case hr => first | (go_simp; done) | (go_simp; rfl)); intro w65 hw; have n0_ : Aside0 (Kd.S k42 42 w65 w.heap.size (fun k_ => some k_ ≠ (.slice Ao64 t165.length co64 : Value).ownBlock ∧ k_ ≠ gb162) (.slice Ao58 x161000_2.length co58) x161000_2) := ⟨(by rw [hw]; exact (by (with_reducible repeat (first | apply Kd.S_alloc | apply Kd.S_drewN | apply Kd.S_drew)); exact Kd.S_mono (Kd.S_far (p := ⟨gb162, 2, none⟩) (Kd.S_far (p := ⟨gb162, 1, none⟩) (Kd.S_far (p := ⟨gb162, 0, none⟩) (Kd.S_mono HO_161000.out (fun k_ hk => (⟨hk, hk.1.2⟩ : _ ∧ k_ ≠ gb162))) (fun _ hk => hk.2) (.int .i64 t163)) (fun _ hk => hk.2) (.int .i64 t164)) (fun _ hk => hk.2) (.slice Ao64 t165.length co64)) (fun _ hk => ⟨hk.1.2, hk.1.1.2⟩)))⟩; have n1_ : Aside0 (Kd.R (Kd.int .u8) 5 w65 w.heap.size (fun _ => True) (.slice Ao64 t165.length co64) t165) := ⟨(by rw [hw]; exact (by (with_reducible repeat (first | apply Kd.R_alloc | apply Kd.R_drewN | apply Kd.R_drew)); exact Kd.R_mono (Kd.R_far (p := ⟨gb162, 2, none⟩) (Kd.R_far (p := ⟨gb162, 1, none⟩) (Kd.R_far (p := ⟨gb162, 0, none⟩) (Kd.R_types HO167.out BK162.out (by decide)) (fun _ hk => hk.2) (.int .i64 t163)) (fun _ hk => hk.2) (.int .i64 t164)) (fun _ hk => hk.2) (.slice Ao64 t165.length co64)) (fun _ hk => trivial)))⟩; have n2_ : Aside0 (w65.heap[gb158]? = some (.cells #[.slice none 0 0, .bool x159001_1] 37 (0, 0))) := ⟨(by rw [hw]; exact (by (with_reducible repeat (first | refine blk_drewN ?_ _ | refine blk_drew ?_ | refine blk_alloc ?_ _)); refine blk_far ?_ NB158_162.out _; (with_reducible repeat (first | refine blk_drewN ?_ _ | refine blk_drew ?_ | refine blk_alloc ?_ _)); refine blk_far ?_ NB158_162.out _; (with_reducible repeat (first | refine blk_drewN ?_ _ | refine blk_drew ?_ | refine blk_alloc ?_ _)); refine blk_far ?_ NB158_162.out _; (with_reducible repeat (first | refine blk_drewN ?_ _ | refine blk_drew ?_ | refine blk_alloc ?_ _)); exact BK158.out))⟩; have n3_ : Aside0 (w65.heap[gb160]? = some (.cells #[.slice Ao58 x161000_2.length co58, .bool x161001_2] 37 (0, 0))) := ⟨(by rw [hw]; exact (by (with_reducible repeat (first | refine blk_drewN ?_ _ | refine blk_drew ?_ | refine blk_alloc ?_ _)); refine blk_far ?_ NB160_162.out _; (with_reducible repeat (first | refine blk_drewN ?_ _ | refine blk_drew ?_ | refine blk_alloc ?_ _)); refine blk_far ?_ NB160_162.out _; (with_reducible repeat (first | refine blk_drewN ?_ _ | refine blk_drew ?_ | refine blk_alloc ?_ _)); refine blk_far ?_ NB160_162.out _; (with_reducible repeat (first | refine blk_drewN ?_ _ | refine blk_drew ?_ | refine blk_alloc ?_ _)); exact BK160.out))⟩; have n4_ : Aside0 (w65.heap[gb162]? = some (.cells #[.int .i64 t163, .int .i64 t164, .slice Ao64 t165.length co64] 42 (0, 0))) := ⟨(by rw [hw]; exact (by (with_reducible repeat (first | refine blk_drewN ?_ _ | refine blk_drew ?_ | refine blk_alloc ?_ _)); refine blk_put (cs := #[.int .i64 t163, .int .i64 t164, .slice none 0 0]) ?_ 2 _ rfl; (with_reducible repeat (first | refine blk_drewN ?_ _ | refine blk_drew ?_ | refine blk_alloc ?_ _)); refine blk_put (cs := #[.int .i64 t163, .int .i64 0, .slice none 0 0]) ?_ 1 _ rfl; (with_reducible repeat (first | refine blk_drewN ?_ _ | refine blk_drew ?_ | refine blk_alloc ?_ _)); refine blk_put (cs := #[.int .i64 0, .int .i64 0, .slice none 0 0]) ?_ 0 _ rfl; (with_reducible repeat (first | refine blk_drewN ?_ _ | refine blk_drew ?_ | refine blk_alloc ?_ _)); exact BK162.out))⟩; have n5_ : Aside0 (Below w.heap.size w w65) := ⟨(by rw [hw]; exact (by repeat (first | (with_reducible first | exact HB.out | apply below_alloc | apply pw_below_drewN | apply below_drew1 | refine below_set ?_ GE158.out | refine below_set ?_ GE160.out | refine below_set ?_ GE162.out) | exact HB.out)))⟩; clear hw; clear HO_161000; clear HO167; clear BK158; clear BK160; clear BK162; clear HB; have HO_161000 := n0_; have HO167 := n1_; have BK158 := n2_; have BK160 := n3_; have BK162 := n4_; have HB := n5_; clear n0_ n1_ n2_ n3_ n4_ n5_; have hcz66_0 : w65.cell? ⟨gb162, 0, none⟩ = some (.int .i64 t163) := (blk_cell BK162.out 0).trans rfl; have hcz66_1 : w65.cell? ⟨gb162, 1, none⟩ = some (.int .i64 t164) := (blk_cell BK162.out 1).trans rfl; have hcz66_2 : w65.cell? ⟨gb162, 2, none⟩ = some (.slice Ao64 t165.length co64) := (blk_cell BK162.out 2).trans rfl; have hfz66_0 := blk_frozen BK162.out 0; have hfz66_1 := blk_frozen BK162.out 1; have hfz66_2 := blk_frozen BK162.out 2) | ((with_reducible refine gate_store (t := 3) (p := 85) rfl ?_); (try (rw [drewN_self w65]; generalize hq_ : World.drewN w65 _ = w65; have n0_ := Aside0.mk (Kd.S_at hq_ HO_161000.out); have n1_ := Aside0.mk (Kd.R_at hq_ HO167.out); have n2_ := Aside0.mk (blk_at hq_ BK158.out); have n3_ := Aside0.mk (blk_at hq_ BK160.out); have n4_ := Aside0.mk (blk_at hq_ BK162.out); have n5_ := Aside0.mk (below_at hq_ HB.out); clear hq_ HO_161000 HO167 BK158 BK160 BK162 HB; have HO_161000 := n0_; have HO167 := n1_; have BK158 := n2_; have BK160 := n3_; have BK162 := n4_; have HB := n5_; clear n0_ n1_ n2_ n3_ n4_ n5_)); refine store_event (t := 3) (p := 85) (v := ?vo_w67) (w1 := (w65.setCell ⟨gb162, 0, none⟩ (.int .i64 (wrap64 ((wrap64 ((rd l0 x7_2))) - 1))))) ?hg ?ho ?hn ?hr ?_; (case ho => rfl); (case hg => rfl); (case hn => rfl); (case hr => first | (go_simp; done) | (go_simp; rfl)); intro w67 hw; have n0_ : Aside0 (Kd.S k42 42 w67 w.heap.size (fun k_ => some k_ ≠ (.slice Ao64 t165.length co64 : Value).ownBlock ∧ k_ ≠ gb162) (.slice Ao58 x161000_2.length co58) x161000_2) := ⟨(by rw [hw]; exact (by (with_reducible repeat (first | apply Kd.S_alloc | apply Kd.S_drewN | apply Kd.S_drew)); exact Kd.S_mono (Kd.S_far (p := ⟨gb162, 0, none⟩) (Kd.S_mono HO_161000.out (fun k_ hk => (⟨hk, hk.2⟩ : _ ∧ k_ ≠ gb162))) (fun _ hk => hk.2) (.int .i64 (wrap64 ((wrap64 ((rd l0 x7_2))) - 1)))) (fun _ hk => ⟨hk.1.1, hk.1.2⟩)))⟩; have n1_ : Aside0 (Kd.R (Kd.int .u8) 5 w67 w.heap.size (fun _ => True) (.slice Ao64 t165.length co64) t165) := ⟨(by rw [hw]; exact (by (with_reducible repeat (first | apply Kd.R_alloc | apply Kd.R_drewN | apply Kd.R_drew)); exact Kd.R_mono (Kd.R_far (p := ⟨gb162, 0, none⟩) (Kd.R_types HO167.out BK162.out (by decide)) (fun _ hk => hk.2) (.int .i64 (wrap64 ((wrap64 ((rd l0 x7_2))) - 1)))) (fun _ hk => trivial)))⟩; have n2_ : Aside0 (w67.heap[gb158]? = some (.cells #[.slice none 0 0, .bool x159001_1] 37 (0, 0))) := ⟨(by rw [hw]; exact (by (with_reducible repeat (first | refine blk_drewN ?_ _ | refine blk_drew ?_ | refine blk_alloc ?_ _)); refine blk_far ?_ NB158_162.out _; (with_reducible repeat (first | refine blk_drewN ?_ _ | refine blk_drew ?_ | refine blk_alloc ?_ _)); exact BK158.out))⟩; have n3_ : Aside0 (w67.heap[gb160]? = some (.cells #[.slice Ao58 x161000_2.length co58, .bool x161001_2] 37 (0, 0))) := ⟨(by rw [hw]; exact (by (with_reducible repeat (first | refine blk_drewN ?_ _ | refine blk_drew ?_ | refine blk_alloc ?_ _)); refine blk_far ?_ NB160_162.out _; (with_reducible repeat (first | refine blk_drewN ?_ _ | refine blk_drew ?_ | refine blk_alloc ?_ _)); exact BK160.out))⟩; have n4_ : Aside0 (w67.heap[gb162]? = some (.cells #[.int .i64 (wrap64 ((wrap64 ((rd l0 x7_2))) - 1)), .int .i64 t164, .slice Ao64 t165.length co64] 42 (0, 0))) := ⟨(by rw [hw]; exact (by (with_reducible repeat (first | refine blk_drewN ?_ _ | refine blk_drew ?_ | refine blk_alloc ?_ _)); refine blk_put (cs := #[.int .i64 t163, .int .i64 t164, .slice Ao64 t165.length co64]) ?_ 0 _ rfl; (with_reducible repeat (first | refine blk_drewN ?_ _ | refine blk_drew ?_ | refine blk_alloc ?_ _)); exact BK162.out))⟩; have n5_ : Aside0 (Below w.heap.size w w67) := ⟨(by rw [hw]; exact (by repeat (first | (with_reducible first | exact HB.out | apply below_alloc | apply pw_below_drewN | apply below_drew1 | refine below_set ?_ GE158.out | refine below_set ?_ GE160.out | refine below_set ?_ GE162.out) | exact HB.out)))⟩; clear hw; clear HO_161000; clear HO167; clear BK158; clear BK160; clear BK162; clear HB; have HO_161000 := n0_; have HO167 := n1_; have BK158 := n2_; have BK160 := n3_; have BK162 := n4_; have HB := n5_; clear n0_ n1_ n2_ n3_ n4_ n5_; have hcz68_0 : w67.cell? ⟨gb160, 0, none⟩ = some (.slice Ao58 x161000_2.length co58) := (blk_cell BK160.out 0).trans rfl; have hcz68_1 : w67.cell? ⟨gb160, 1, none⟩ = some (.bool x161001_2) := (blk_cell BK160.out 1).trans rfl; have hfz68_0 := blk_frozen BK160.out 0; have hfz68_1 := blk_frozen BK160.out 1; have hcz69_0 : w67.cell? ⟨gb162, 0, none⟩ = some (.int .i64 (wrap64 ((wrap64 ((rd l0 x7_2))) - 1))) := (blk_cell BK162.out 0).trans rfl; have hcz69_1 : w67.cell? ⟨gb162, 1, none⟩ = some (.int .i64 t164) := (blk_cell BK162.out 1).trans rfl; have hcz69_2 : w67.cell? ⟨gb162, 2, none⟩ = some (.slice Ao64 t165.length co64) := (blk_cell BK162.out 2).trans rfl; have hfz69_0 := blk_frozen BK162.out 0; have hfz69_1 := blk_frozen BK162.out 1; have hfz69_2 := blk_frozen BK162.out 2) | ((with_reducible refine gate_builtin (b := .append) (xs := #[.tmp 87, .tmp 89]) rfl ?_); (try (refine gate_guard (by rfl) ?_; dsimp only)); at_builtin; refine Kd.S_append k42 (w0 := w) w.heap.size rfl (.tmp 87) (.tmp 89) 35 42 (.agg #[(.int .i64 0), (.int .i64 0), (.slice none 0 0)]) 40 rfl Tryz.underlying35 info42 rfl (by decide) (by omega) (.slice Ao58 x161000_2.length co58) x161000_2 (⟨wrap64 ((wrap64 ((rd l0 x7_2))) - 1), t164, t165⟩ : S42) [.int .i64 (wrap64 ((wrap64 ((rd l0 x7_2))) - 1)), .int .i64 t164, .slice Ao64 t165.length co64] (fun k_ => k_ ≠ gb162) (fun k_ => some k_ = (.slice Ao64 t165.length co64 : Value).ownBlock) rfl rfl ?aP (fun k_ hk_ => ((Kd.R_mono (ok' := fun k_ => ((fun k_ => k_ ≠ gb162)) k_ ∧ some k_ ≠ (.slice Ao58 x161000_2.length co58 : Value).ownBlock) (Kd.R_types (Kd.R_apart' (HO167.out) (Kd.S_typed HO_161000.out) (by decide)) BK162.out (by decide)) (fun k_ hk => ⟨hk.2, hk.1.2⟩))).1 k_ hk_.symm) ?aF ?aO ?aB ?aS ?aL ?_; (case aP => exact k42_mkM _ _ _ (⟨wrap64 ((wrap64 ((rd l0 x7_2))) - 1), t164, t165⟩ : S42) (Kd.R_mono (Kd.R_tight rfl (Kd.R_mono (ok' := fun k_ => ((fun k_ => k_ ≠ gb162)) k_ ∧ some k_ ≠ (.slice Ao58 x161000_2.length co58 : Value).ownBlock) (Kd.R_types (Kd.R_apart' (HO167.out) (Kd.S_typed HO_161000.out) (by decide)) BK162.out (by decide)) (fun k_ hk => ⟨hk.2, hk.1.2⟩))) (fun _ h_ => h_))); (case aB => exact (by repeat (first | (with_reducible first | exact HB.out | apply below_alloc | apply pw_below_drewN | apply below_drew1 | refine below_set ?_ GE158.out | refine below_set ?_ GE160.out | refine below_set ?_ GE162.out) | exact HB.out))); (case aF => exact (fun k_ hk => Kd.freshB (g := gb162) (o := .cells #[.int .i64 (wrap64 ((wrap64 ((rd l0 x7_2))) - 1)), .int .i64 t164, .slice Ao64 t165.length co64] 42 (0, 0)) (by (with_reducible repeat (first | refine blk_drewN ?_ _ | refine blk_drew ?_ | refine blk_alloc ?_ _)); exact BK162.out) k_ hk)); (case aO => exact (by (with_reducible repeat (first | apply Kd.S_alloc | apply Kd.S_drewN | apply Kd.S_drew)); exact Kd.S_mono HO_161000.out (fun k_ hk => ⟨hk.2, fun e_ => hk.1 e_⟩))); (case aS => exact (below_size (by repeat (first | (with_reducible first | exact HB.out | apply below_alloc | apply pw_below_drewN | apply below_drew1 | refine below_set ?_ GE158.out | refine below_set ?_ GE160.out | refine below_set ?_ GE162.out) | exact HB.out)))); (case aL => have := LMc55.out; omega); intro v171 w70 ho hb hg hat; rw [← Ny170.out] at ho; have n0_ := Aside0.mk (blk_grown (g := gb158) (o := .cells #[.slice none 0 0, .bool x159001_1] 37 (0, 0)) (by (with_reducible repeat (first | refine blk_drewN ?_ _ | refine blk_drew ?_ | refine blk_alloc ?_ _)); exact BK158.out) hg (Kd.S_ne HO_161000.out BK158.out (by decide))); have n1_ := Aside0.mk (blk_grown (g := gb160) (o := .cells #[.slice Ao58 x161000_2.length co58, .bool x161001_2] 37 (0, 0)) (by (with_reducible repeat (first | refine blk_drewN ?_ _ | refine blk_drew ?_ | refine blk_alloc ?_ _)); exact BK160.out) hg (Kd.S_ne HO_161000.out BK160.out (by decide))); have n2_ := Aside0.mk (blk_grown (g := gb162) (o := .cells #[.int .i64 (wrap64 ((wrap64 ((rd l0 x7_2))) - 1)), .int .i64 t164, .slice Ao64 t165.length co64] 42 (0, 0)) (by (with_reducible repeat (first | refine blk_drewN ?_ _ | refine blk_drew ?_ | refine blk_alloc ?_ _)); exact BK162.out) hg (Kd.S_away HO_161000.out (fun _ hk => hk.2))); have n3_ := Aside0.mk (hb); have n4_ := Aside0.mk (ho); clear BK158; clear BK160; clear BK162; clear HB; clear HO_161000; clear HO167; have BK158 := n0_; have BK160 := n1_; have BK162 := n2_; have HB := n3_; have HO172 := n4_; clear n0_ n1_ n2_ n3_ n4_; clear ho hb hg hat; obtain ⟨Ao71, co71, eo71⟩ := Kd.S_slice HO172.out; subst eo71; have hcz72_0 : w70.cell? ⟨gb160, 0, none⟩ = some (.slice Ao58 x161000_2.length co58) := (blk_cell BK160.out 0).trans rfl; have hcz72_1 : w70.cell? ⟨gb160, 1, none⟩ = some (.bool x161001_2) := (blk_cell BK160.out 1).trans rfl; have hfz72_0 := blk_frozen BK160.out 0; have hfz72_1 := blk_frozen BK160.out 1; have hcz73_0 : w70.cell? ⟨gb162, 0, none⟩ = some (.int .i64 (wrap64 ((wrap64 ((rd l0 x7_2))) - 1))) := (blk_cell BK162.out 0).trans rfl; have hcz73_1 : w70.cell? ⟨gb162, 1, none⟩ = some (.int .i64 t164) := (blk_cell BK162.out 1).trans rfl; have hcz73_2 : w70.cell? ⟨gb162, 2, none⟩ = some (.slice Ao64 t165.length co64) := (blk_cell BK162.out 2).trans rfl; have hfz73_0 := blk_frozen BK162.out 0; have hfz73_1 := blk_frozen BK162.out 1; have hfz73_2 := blk_frozen BK162.out 2))
                                    repeat (go_quiet (first | ((with_reducible refine gate_dst (N := 12) rfl ?_); (try (refine gate_guard (by rfl) ?_; dsimp only)); refine box_event ?hg (N := 12) ?hd (cs := #[.int .i64 0, .int .i64 0, .slice none 0 0]) (t := 42) ?hr ?_; (case hd => rfl); (case hg => rfl); (case hr => first | (go_simp; done) | (go_simp; rfl)); intro gb162 hg w59 hbox hb; have n0_ := Aside0.mk (Kd.S_below (Kd.S_elderB (by (with_reducible repeat (first | apply Kd.S_alloc | apply Kd.S_drewN | apply Kd.S_drew)); exact HO_161000.out) gb162 (Nat.le_of_eq hg.symm)) hb); have n1_ := Aside0.mk (blk_below (g := gb158) (o := .cells #[.slice none 0 0, .bool x159001_1] 37 (0, 0)) (by (with_reducible repeat (first | refine blk_drewN ?_ _ | refine blk_drew ?_ | refine blk_alloc ?_ _)); exact BK158.out) hb); have n2_ := Aside0.mk (blk_below (g := gb160) (o := .cells #[.slice Ao58 x161000_2.length co58, .bool x161001_2] 37 (0, 0)) (by (with_reducible repeat (first | refine blk_drewN ?_ _ | refine blk_drew ?_ | refine blk_alloc ?_ _)); exact BK160.out) hb); have n3_ := Aside0.mk (below_step (by repeat (first | (with_reducible first | exact HB.out | apply below_alloc | apply pw_below_drewN | apply below_drew1 | refine below_set ?_ GE158.out | refine below_set ?_ GE160.out) | exact HB.out)) hb); have n4_ := Aside0.mk (hbox); have n5_ := Aside0.mk ((by rw [hg]; exact (below_size (by repeat (first | (with_reducible first | exact HB.out | apply below_alloc | apply pw_below_drewN | apply below_drew1 | refine below_set ?_ GE158.out | refine below_set ?_ GE160.out) | exact HB.out))) : w.heap.size ≤ gb162)); have n6_ := Aside0.mk ((by rw [hg]; exact (below_size (by repeat (first | (with_reducible first | exact HB.out | apply below_alloc | apply pw_below_drewN | apply below_drew1 | refine below_set ?_ GE158.out | refine below_set ?_ GE160.out) | exact HB.out))) : w.heap.size ≤ gb162)); have n7_ := Aside0.mk ((by rw [hg]; exact Nat.ne_of_lt (blk_lt (g := gb158) (o := .cells #[.slice none 0 0, .bool x159001_1] 37 (0, 0)) (by (with_reducible repeat (first | refine blk_drewN ?_ _ | refine blk_drew ?_ | refine blk_alloc ?_ _)); exact BK158.out)) : gb158 ≠ gb162)); have n8_ := Aside0.mk ((by rw [hg]; exact Nat.ne_of_gt (blk_lt (g := gb158) (o := .cells #[.slice none 0 0, .bool x159001_1] 37 (0, 0)) (by (with_reducible repeat (first | refine blk_drewN ?_ _ | refine blk_drew ?_ | refine blk_alloc ?_ _)); exact BK158.out)) : gb162 ≠ gb158)); have n9_ := Aside0.mk ((by rw [hg]; exact Nat.ne_of_lt (blk_lt (g := gb160) (o := .cells #[.slice Ao58 x161000_2.length co58, .bool x161001_2] 37 (0, 0)) (by (with_reducible repeat (first | refine blk_drewN ?_ _ | refine blk_drew ?_ | refine blk_alloc ?_ _)); exact BK160.out)) : gb160 ≠ gb162)); have n10_ := Aside0.mk ((by rw [hg]; exact Nat.ne_of_gt (blk_lt (g := gb160) (o := .cells #[.slice Ao58 x161000_2.length co58, .bool x161001_2] 37 (0, 0)) (by (with_reducible repeat (first | refine blk_drewN ?_ _ | refine blk_drew ?_ | refine blk_alloc ?_ _)); exact BK160.out)) : gb162 ≠ gb160)); clear HO_161000; clear BK158; clear BK160; clear HB; have HO_161000 := n0_; have BK158 := n1_; have BK160 := n2_; have HB := n3_; have BK162 := n4_; have GW162 := n5_; have GE162 := n6_; have NB158_162 := n7_; have NB162_158 := n8_; have NB160_162 := n9_; have NB162_160 := n10_; clear n0_ n1_ n2_ n3_ n4_ n5_ n6_ n7_ n8_ n9_ n10_; clear hb hbox hg) | (go_at_call 32; (with_reducible refine (trans_one.calls kj32 _ _ l0 (wrap64 (x7_2 + 1)) x8_2 x9_2 t163 t164 t165 t168 t169 _ ?side1 ?side2 A53.out).mono ?_); (case side1 => repeat (first | exact (Kd.C_below HR0.out HB.out) | (with_reducible refine Kd.C_alloc ?_ _) | (with_reducible refine Kd.C_drewN ?_ _) | (with_reducible refine Kd.C_drew ?_))); (case side2 => exact HC0.out); rintro e w60 ⟨v166, rfl, ho0, hb⟩; have n0_ := Aside0.mk (Kd.S_elder' (by (with_reducible repeat (first | apply Kd.S_alloc | apply Kd.S_drewN | apply Kd.S_drew)); exact HO_161000.out) (Kd.R_base ho0) hb); have n1_ := Aside0.mk (Kd.R_lower ho0 (below_size (by repeat (first | (with_reducible first | exact HB.out | apply below_alloc | apply pw_below_drewN | apply below_drew1 | refine below_set ?_ GE158.out | refine below_set ?_ GE160.out | refine below_set ?_ GE162.out) | exact HB.out)))); have n2_ := Aside0.mk (blk_below (g := gb158) (o := .cells #[.slice none 0 0, .bool x159001_1] 37 (0, 0)) (by (with_reducible repeat (first | refine blk_drewN ?_ _ | refine blk_drew ?_ | refine blk_alloc ?_ _)); exact BK158.out) hb); have n3_ := Aside0.mk (blk_below (g := gb160) (o := .cells #[.slice Ao58 x161000_2.length co58, .bool x161001_2] 37 (0, 0)) (by (with_reducible repeat (first | refine blk_drewN ?_ _ | refine blk_drew ?_ | refine blk_alloc ?_ _)); exact BK160.out) hb); have n4_ := Aside0.mk (blk_below (g := gb162) (o := .cells #[.int .i64 0, .int .i64 0, .slice none 0 0] 42 (0, 0)) (by (with_reducible repeat (first | refine blk_drewN ?_ _ | refine blk_drew ?_ | refine blk_alloc ?_ _)); exact BK162.out) hb); have n5_ := Aside0.mk (below_step (by repeat (first | (with_reducible first | exact HB.out | apply below_alloc | apply pw_below_drewN | apply below_drew1 | refine below_set ?_ GE158.out | refine below_set ?_ GE160.out | refine below_set ?_ GE162.out) | exact HB.out)) hb); clear HO_161000; clear BK158; clear BK160; clear BK162; clear HB; have HO_161000 := n0_; have HO167 := n1_; have BK158 := n2_; have BK160 := n3_; have BK162 := n4_; have HB := n5_; clear n0_ n1_ n2_ n3_ n4_ n5_; (try clear hb); (try clear hb2); (try clear hk); (try clear hi); (try clear ho0); have hnb61 := NB162_158.out; have hnc61 := NB158_162.out; have hnb62 := NB162_160.out; have hnc62 := NB160_162.out; have hcz63_0 : w60.cell? ⟨gb162, 0, none⟩ = some (.int .i64 0) := (blk_cell BK162.out 0).trans rfl; have hcz63_1 : w60.cell? ⟨gb162, 1, none⟩ = some (.int .i64 0) := (blk_cell BK162.out 1).trans rfl; have hcz63_2 : w60.cell? ⟨gb162, 2, none⟩ = some (.slice none 0 0) := (blk_cell BK162.out 2).trans rfl; have hfz63_0 := blk_frozen BK162.out 0; have hfz63_1 := blk_frozen BK162.out 1; have hfz63_2 := blk_frozen BK162.out 2; obtain ⟨Ao64, co64, eo64⟩ := Kd.R_slice HO167.out; subst eo64) | ((with_reducible refine gate_store (t := 42) (p := 12) rfl ?_); (try (rw [drewN_self w60]; generalize hq_ : World.drewN w60 _ = w60; have n0_ := Aside0.mk (Kd.S_at hq_ HO_161000.out); have n1_ := Aside0.mk (Kd.R_at hq_ HO167.out); have n2_ := Aside0.mk (blk_at hq_ BK158.out); have n3_ := Aside0.mk (blk_at hq_ BK160.out); have n4_ := Aside0.mk (blk_at hq_ BK162.out); have n5_ := Aside0.mk (below_at hq_ HB.out); clear hq_ HO_161000 HO167 BK158 BK160 BK162 HB; have HO_161000 := n0_; have HO167 := n1_; have BK158 := n2_; have BK160 := n3_; have BK162 := n4_; have HB := n5_; clear n0_ n1_ n2_ n3_ n4_ n5_)); refine store_event (t := 42) (p := 12) (v := ?vo_w65) (w1 := (((w60.setCell ⟨gb162, 0, none⟩ (.int .i64 t163)).setCell ⟨gb162, 1, none⟩ (.int .i64 t164)).setCell ⟨gb162, 2, none⟩ (.slice Ao64 t165.length co64))) ?hg ?ho ?hn ?hr ?_; (case ho => rfl); (case hg => rfl); (case hn => rfl); (case hr => first | (go_simp; done) | (go_simp; rfl)); intro w65 hw; have n0_ : Aside0 (Kd.S k42 42 w65 w.heap.size (fun k_ => some k_ ≠ (.slice Ao64 t165.length co64 : Value).ownBlock ∧ k_ ≠ gb162) (.slice Ao58 x161000_2.length co58) x161000_2) := ⟨(by rw [hw]; exact (by (with_reducible repeat (first | apply Kd.S_alloc | apply Kd.S_drewN | apply Kd.S_drew)); exact Kd.S_mono (Kd.S_far (p := ⟨gb162, 2, none⟩) (Kd.S_far (p := ⟨gb162, 1, none⟩) (Kd.S_far (p := ⟨gb162, 0, none⟩) (Kd.S_mono HO_161000.out (fun k_ hk => (⟨hk, hk.1.2⟩ : _ ∧ k_ ≠ gb162))) (fun _ hk => hk.2) (.int .i64 t163)) (fun _ hk => hk.2) (.int .i64 t164)) (fun _ hk => hk.2) (.slice Ao64 t165.length co64)) (fun _ hk => ⟨hk.1.2, hk.1.1.2⟩)))⟩; have n1_ : Aside0 (Kd.R (Kd.int .u8) 5 w65 w.heap.size (fun _ => True) (.slice Ao64 t165.length co64) t165) := ⟨(by rw [hw]; exact (by (with_reducible repeat (first | apply Kd.R_alloc | apply Kd.R_drewN | apply Kd.R_drew)); exact Kd.R_mono (Kd.R_far (p := ⟨gb162, 2, none⟩) (Kd.R_far (p := ⟨gb162, 1, none⟩) (Kd.R_far (p := ⟨gb162, 0, none⟩) (Kd.R_types HO167.out BK162.out (by decide)) (fun _ hk => hk.2) (.int .i64 t163)) (fun _ hk => hk.2) (.int .i64 t164)) (fun _ hk => hk.2) (.slice Ao64 t165.length co64)) (fun _ hk => trivial)))⟩; have n2_ : Aside0 (w65.heap[gb158]? = some (.cells #[.slice none 0 0, .bool x159001_1] 37 (0, 0))) := ⟨(by rw [hw]; exact (by (with_reducible repeat (first | refine blk_drewN ?_ _ | refine blk_drew ?_ | refine blk_alloc ?_ _)); refine blk_far ?_ NB158_162.out _; (with_reducible repeat (first | refine blk_drewN ?_ _ | refine blk_drew ?_ | refine blk_alloc ?_ _)); refine blk_far ?_ NB158_162.out _; (with_reducible repeat (first | refine blk_drewN ?_ _ | refine blk_drew ?_ | refine blk_alloc ?_ _)); refine blk_far ?_ NB158_162.out _; (with_reducible repeat (first | refine blk_drewN ?_ _ | refine blk_drew ?_ | refine blk_alloc ?_ _)); exact BK158.out))⟩; have n3_ : Aside0 (w65.heap[gb160]? = some (.cells #[.slice Ao58 x161000_2.length co58, .bool x161001_2] 37 (0, 0))) := ⟨(by rw [hw]; exact (by (with_reducible repeat (first | refine blk_drewN ?_ _ | refine blk_drew ?_ | refine blk_alloc ?_ _)); refine blk_far ?_ NB160_162.out _; (with_reducible repeat (first | refine blk_drewN ?_ _ | refine blk_drew ?_ | refine blk_alloc ?_ _)); refine blk_far ?_ NB160_162.out _; (with_reducible repeat (first | refine blk_drewN ?_ _ | refine blk_drew ?_ | refine blk_alloc ?_ _)); refine blk_far ?_ NB160_162.out _; (with_reducible repeat (first | refine blk_drewN ?_ _ | refine blk_drew ?_ | refine blk_alloc ?_ _)); exact BK160.out))⟩; have n4_ : Aside0 (w65.heap[gb162]? = some (.cells #[.int .i64 t163, .int .i64 t164, .slice Ao64 t165.length co64] 42 (0, 0))) := ⟨(by rw [hw]; exact (by (with_reducible repeat (first | refine blk_drewN ?_ _ | refine blk_drew ?_ | refine blk_alloc ?_ _)); refine blk_put (cs := #[.int .i64 t163, .int .i64 t164, .slice none 0 0]) ?_ 2 _ rfl; (with_reducible repeat (first | refine blk_drewN ?_ _ | refine blk_drew ?_ | refine blk_alloc ?_ _)); refine blk_put (cs := #[.int .i64 t163, .int .i64 0, .slice none 0 0]) ?_ 1 _ rfl; (with_reducible repeat (first | refine blk_drewN ?_ _ | refine blk_drew ?_ | refine blk_alloc ?_ _)); refine blk_put (cs := #[.int .i64 0, .int .i64 0, .slice none 0 0]) ?_ 0 _ rfl; (with_reducible repeat (first | refine blk_drewN ?_ _ | refine blk_drew ?_ | refine blk_alloc ?_ _)); exact BK162.out))⟩; have n5_ : Aside0 (Below w.heap.size w w65) := ⟨(by rw [hw]; exact (by repeat (first | (with_reducible first | exact HB.out | apply below_alloc | apply pw_below_drewN | apply below_drew1 | refine below_set ?_ GE158.out | refine below_set ?_ GE160.out | refine below_set ?_ GE162.out) | exact HB.out)))⟩; clear hw; clear HO_161000; clear HO167; clear BK158; clear BK160; clear BK162; clear HB; have HO_161000 := n0_; have HO167 := n1_; have BK158 := n2_; have BK160 := n3_; have BK162 := n4_; have HB := n5_; clear n0_ n1_ n2_ n3_ n4_ n5_; have hcz66_0 : w65.cell? ⟨gb162, 0, none⟩ = some (.int .i64 t163) := (blk_cell BK162.out 0).trans rfl; have hcz66_1 : w65.cell? ⟨gb162, 1, none⟩ = some (.int .i64 t164) := (blk_cell BK162.out 1).trans rfl; have hcz66_2 : w65.cell? ⟨gb162, 2, none⟩ = some (.slice Ao64 t165.length co64) := (blk_cell BK162.out 2).trans rfl; have hfz66_0 := blk_frozen BK162.out 0; have hfz66_1 := blk_frozen BK162.out 1; have hfz66_2 := blk_frozen BK162.out 2) | ((with_reducible refine gate_store (t := 3) (p := 85) rfl ?_); (try (rw [drewN_self w65]; generalize hq_ : World.drewN w65 _ = w65; have n0_ := Aside0.mk (Kd.S_at hq_ HO_161000.out); have n1_ := Aside0.mk (Kd.R_at hq_ HO167.out); have n2_ := Aside0.mk (blk_at hq_ BK158.out); have n3_ := Aside0.mk (blk_at hq_ BK160.out); have n4_ := Aside0.mk (blk_at hq_ BK162.out); have n5_ := Aside0.mk (below_at hq_ HB.out); clear hq_ HO_161000 HO167 BK158 BK160 BK162 HB; have HO_161000 := n0_; have HO167 := n1_; have BK158 := n2_; have BK160 := n3_; have BK162 := n4_; have HB := n5_; clear n0_ n1_ n2_ n3_ n4_ n5_)); refine store_event (t := 3) (p := 85) (v := ?vo_w67) (w1 := (w65.setCell ⟨gb162, 0, none⟩ (.int .i64 (wrap64 ((wrap64 ((rd l0 x7_2))) - 1))))) ?hg ?ho ?hn ?hr ?_; (case ho => rfl); (case hg => rfl); (case hn => rfl); (case hr => first | (go_simp; done) | (go_simp; rfl)); intro w67 hw; have n0_ : Aside0 (Kd.S k42 42 w67 w.heap.size (fun k_ => some k_ ≠ (.slice Ao64 t165.length co64 : Value).ownBlock ∧ k_ ≠ gb162) (.slice Ao58 x161000_2.length co58) x161000_2) := ⟨(by rw [hw]; exact (by (with_reducible repeat (first | apply Kd.S_alloc | apply Kd.S_drewN | apply Kd.S_drew)); exact Kd.S_mono (Kd.S_far (p := ⟨gb162, 0, none⟩) (Kd.S_mono HO_161000.out (fun k_ hk => (⟨hk, hk.2⟩ : _ ∧ k_ ≠ gb162))) (fun _ hk => hk.2) (.int .i64 (wrap64 ((wrap64 ((rd l0 x7_2))) - 1)))) (fun _ hk => ⟨hk.1.1, hk.1.2⟩)))⟩; have n1_ : Aside0 (Kd.R (Kd.int .u8) 5 w67 w.heap.size (fun _ => True) (.slice Ao64 t165.length co64) t165) := ⟨(by rw [hw]; exact (by (with_reducible repeat (first | apply Kd.R_alloc | apply Kd.R_drewN | apply Kd.R_drew)); exact Kd.R_mono (Kd.R_far (p := ⟨gb162, 0, none⟩) (Kd.R_types HO167.out BK162.out (by decide)) (fun _ hk => hk.2) (.int .i64 (wrap64 ((wrap64 ((rd l0 x7_2))) - 1)))) (fun _ hk => trivial)))⟩; have n2_ : Aside0 (w67.heap[gb158]? = some (.cells #[.slice none 0 0, .bool x159001_1] 37 (0, 0))) := ⟨(by rw [hw]; exact (by (with_reducible repeat (first | refine blk_drewN ?_ _ | refine blk_drew ?_ | refine blk_alloc ?_ _)); refine blk_far ?_ NB158_162.out _; (with_reducible repeat (first | refine blk_drewN ?_ _ | refine blk_drew ?_ | refine blk_alloc ?_ _)); exact BK158.out))⟩; have n3_ : Aside0 (w67.heap[gb160]? = some (.cells #[.slice Ao58 x161000_2.length co58, .bool x161001_2] 37 (0, 0))) := ⟨(by rw [hw]; exact (by (with_reducible repeat (first | refine blk_drewN ?_ _ | refine blk_drew ?_ | refine blk_alloc ?_ _)); refine blk_far ?_ NB160_162.out _; (with_reducible repeat (first | refine blk_drewN ?_ _ | refine blk_drew ?_ | refine blk_alloc ?_ _)); exact BK160.out))⟩; have n4_ : Aside0 (w67.heap[gb162]? = some (.cells #[.int .i64 (wrap64 ((wrap64 ((rd l0 x7_2))) - 1)), .int .i64 t164, .slice Ao64 t165.length co64] 42 (0, 0))) := ⟨(by rw [hw]; exact (by (with_reducible repeat (first | refine blk_drewN ?_ _ | refine blk_drew ?_ | refine blk_alloc ?_ _)); refine blk_put (cs := #[.int .i64 t163, .int .i64 t164, .slice Ao64 t165.length co64]) ?_ 0 _ rfl; (with_reducible repeat (first | refine blk_drewN ?_ _ | refine blk_drew ?_ | refine blk_alloc ?_ _)); exact BK162.out))⟩; have n5_ : Aside0 (Below w.heap.size w w67) := ⟨(by rw [hw]; exact (by repeat (first | (with_reducible first | exact HB.out | apply below_alloc | apply pw_below_drewN | apply below_drew1 | refine below_set ?_ GE158.out | refine below_set ?_ GE160.out | refine below_set ?_ GE162.out) | exact HB.out)))⟩; clear hw; clear HO_161000; clear HO167; clear BK158; clear BK160; clear BK162; clear HB; have HO_161000 := n0_; have HO167 := n1_; have BK158 := n2_; have BK160 := n3_; have BK162 := n4_; have HB := n5_; clear n0_ n1_ n2_ n3_ n4_ n5_; have hcz68_0 : w67.cell? ⟨gb160, 0, none⟩ = some (.slice Ao58 x161000_2.length co58) := (blk_cell BK160.out 0).trans rfl; have hcz68_1 : w67.cell? ⟨gb160, 1, none⟩ = some (.bool x161001_2) := (blk_cell BK160.out 1).trans rfl; have hfz68_0 := blk_frozen BK160.out 0; have hfz68_1 := blk_frozen BK160.out 1; have hcz69_0 : w67.cell? ⟨gb162, 0, none⟩ = some (.int .i64 (wrap64 ((wrap64 ((rd l0 x7_2))) - 1))) := (blk_cell BK162.out 0).trans rfl; have hcz69_1 : w67.cell? ⟨gb162, 1, none⟩ = some (.int .i64 t164) := (blk_cell BK162.out 1).trans rfl; have hcz69_2 : w67.cell? ⟨gb162, 2, none⟩ = some (.slice Ao64 t165.length co64) := (blk_cell BK162.out 2).trans rfl; have hfz69_0 := blk_frozen BK162.out 0; have hfz69_1 := blk_frozen BK162.out 1; have hfz69_2 := blk_frozen BK162.out 2) | ((with_reducible refine gate_builtin (b := .append) (xs := #[.tmp 87, .tmp 89]) rfl ?_); (try (refine gate_guard (by rfl) ?_; dsimp only)); at_builtin; refine Kd.S_append k42 (w0 := w) w.heap.size rfl (.tmp 87) (.tmp 89) 35 42 (.agg #[(.int .i64 0), (.int .i64 0), (.slice none 0 0)]) 40 rfl Tryz.underlying35 info42 rfl (by decide) (by omega) (.slice Ao58 x161000_2.length co58) x161000_2 (⟨wrap64 ((wrap64 ((rd l0 x7_2))) - 1), t164, t165⟩ : S42) [.int .i64 (wrap64 ((wrap64 ((rd l0 x7_2))) - 1)), .int .i64 t164, .slice Ao64 t165.length co64] (fun k_ => k_ ≠ gb162) (fun k_ => some k_ = (.slice Ao64 t165.length co64 : Value).ownBlock) rfl rfl ?aP (fun k_ hk_ => ((Kd.R_mono (ok' := fun k_ => ((fun k_ => k_ ≠ gb162)) k_ ∧ some k_ ≠ (.slice Ao58 x161000_2.length co58 : Value).ownBlock) (Kd.R_types (Kd.R_apart' (HO167.out) (Kd.S_typed HO_161000.out) (by decide)) BK162.out (by decide)) (fun k_ hk => ⟨hk.2, hk.1.2⟩))).1 k_ hk_.symm) ?aF ?aO ?aB ?aS ?aL ?_; (case aP => exact k42_mkM _ _ _ (⟨wrap64 ((wrap64 ((rd l0 x7_2))) - 1), t164, t165⟩ : S42) (Kd.R_mono (Kd.R_tight rfl (Kd.R_mono (ok' := fun k_ => ((fun k_ => k_ ≠ gb162)) k_ ∧ some k_ ≠ (.slice Ao58 x161000_2.length co58 : Value).ownBlock) (Kd.R_types (Kd.R_apart' (HO167.out) (Kd.S_typed HO_161000.out) (by decide)) BK162.out (by decide)) (fun k_ hk => ⟨hk.2, hk.1.2⟩))) (fun _ h_ => h_))); (case aB => exact (by repeat (first | (with_reducible first | exact HB.out | apply below_alloc | apply pw_below_drewN | apply below_drew1 | refine below_set ?_ GE158.out | refine below_set ?_ GE160.out | refine below_set ?_ GE162.out) | exact HB.out))); (case aF => exact (fun k_ hk => Kd.freshB (g := gb162) (o := .cells #[.int .i64 (wrap64 ((wrap64 ((rd l0 x7_2))) - 1)), .int .i64 t164, .slice Ao64 t165.length co64] 42 (0, 0)) (by (with_reducible repeat (first | refine blk_drewN ?_ _ | refine blk_drew ?_ | refine blk_alloc ?_ _)); exact BK162.out) k_ hk)); (case aO => exact (by (with_reducible repeat (first | apply Kd.S_alloc | apply Kd.S_drewN | apply Kd.S_drew)); exact Kd.S_mono HO_161000.out (fun k_ hk => ⟨hk.2, fun e_ => hk.1 e_⟩))); (case aS => exact (below_size (by repeat (first | (with_reducible first | exact HB.out | apply below_alloc | apply pw_below_drewN | apply below_drew1 | refine below_set ?_ GE158.out | refine below_set ?_ GE160.out | refine below_set ?_ GE162.out) | exact HB.out)))); (case aL => have := LMc55.out; omega); intro v171 w70 ho hb hg hat; rw [← Ny170.out] at ho; have n0_ := Aside0.mk (blk_grown (g := gb158) (o := .cells #[.slice none 0 0, .bool x159001_1] 37 (0, 0)) (by (with_reducible repeat (first | refine blk_drewN ?_ _ | refine blk_drew ?_ | refine blk_alloc ?_ _)); exact BK158.out) hg (Kd.S_ne HO_161000.out BK158.out (by decide))); have n1_ := Aside0.mk (blk_grown (g := gb160) (o := .cells #[.slice Ao58 x161000_2.length co58, .bool x161001_2] 37 (0, 0)) (by (with_reducible repeat (first | refine blk_drewN ?_ _ | refine blk_drew ?_ | refine blk_alloc ?_ _)); exact BK160.out) hg (Kd.S_ne HO_161000.out BK160.out (by decide))); have n2_ := Aside0.mk (blk_grown (g := gb162) (o := .cells #[.int .i64 (wrap64 ((wrap64 ((rd l0 x7_2))) - 1)), .int .i64 t164, .slice Ao64 t165.length co64] 42 (0, 0)) (by (with_reducible repeat (first | refine blk_drewN ?_ _ | refine blk_drew ?_ | refine blk_alloc ?_ _)); exact BK162.out) hg (Kd.S_away HO_161000.out (fun _ hk => hk.2))); have n3_ := Aside0.mk (hb); have n4_ := Aside0.mk (ho); clear BK158; clear BK160; clear BK162; clear HB; clear HO_161000; clear HO167; have BK158 := n0_; have BK160 := n1_; have BK162 := n2_; have HB := n3_; have HO172 := n4_; clear n0_ n1_ n2_ n3_ n4_; clear ho hb hg hat; obtain ⟨Ao71, co71, eo71⟩ := Kd.S_slice HO172.out; subst eo71; have hcz72_0 : w70.cell? ⟨gb160, 0, none⟩ = some (.slice Ao58 x161000_2.length co58) := (blk_cell BK160.out 0).trans rfl; have hcz72_1 : w70.cell? ⟨gb160, 1, none⟩ = some (.bool x161001_2) := (blk_cell BK160.out 1).trans rfl; have hfz72_0 := blk_frozen BK160.out 0; have hfz72_1 := blk_frozen BK160.out 1; have hcz73_0 : w70.cell? ⟨gb162, 0, none⟩ = some (.int .i64 (wrap64 ((wrap64 ((rd l0 x7_2))) - 1))) := (blk_cell BK162.out 0).trans rfl; have hcz73_1 : w70.cell? ⟨gb162, 1, none⟩ = some (.int .i64 t164) := (blk_cell BK162.out 1).trans rfl; have hcz73_2 : w70.cell? ⟨gb162, 2, none⟩ = some (.slice Ao64 t165.length co64) := (blk_cell BK162.out 2).trans rfl; have hfz73_0 := blk_frozen BK162.out 0; have hfz73_1 := blk_frozen BK162.out 1; have hfz73_2 := blk_frozen BK162.out 2)); try go_wp2_with (first | ((with_reducible refine gate_dst (N := 12) rfl ?_); (try (refine gate_guard (by rfl) ?_; dsimp only)); refine box_event ?hg (N := 12) ?hd (cs := #[.int .i64 0, .int .i64 0, .slice none 0 0]) (t := 42) ?hr ?_; (case hd => rfl); (case hg => rfl); (case hr => first | (go_simp; done) | (go_simp; rfl)); intro gb162 hg w59 hbox hb; have n0_ := Aside0.mk (Kd.S_below (Kd.S_elderB (by (with_reducible repeat (first | apply Kd.S_alloc | apply Kd.S_drewN | apply Kd.S_drew)); exact HO_161000.out) gb162 (Nat.le_of_eq hg.symm)) hb); have n1_ := Aside0.mk (blk_below (g := gb158) (o := .cells #[.slice none 0 0, .bool x159001_1] 37 (0, 0)) (by (with_reducible repeat (first | refine blk_drewN ?_ _ | refine blk_drew ?_ | refine blk_alloc ?_ _)); exact BK158.out) hb); have n2_ := Aside0.mk (blk_below (g := gb160) (o := .cells #[.slice Ao58 x161000_2.length co58, .bool x161001_2] 37 (0, 0)) (by (with_reducible repeat (first | refine blk_drewN ?_ _ | refine blk_drew ?_ | refine blk_alloc ?_ _)); exact BK160.out) hb); have n3_ := Aside0.mk (below_step (by repeat (first | (with_reducible first | exact HB.out | apply below_alloc | apply pw_below_drewN | apply below_drew1 | refine below_set ?_ GE158.out | refine below_set ?_ GE160.out) | exact HB.out)) hb); have n4_ := Aside0.mk (hbox); have n5_ := Aside0.mk ((by rw [hg]; exact (below_size (by repeat (first | (with_reducible first | exact HB.out | apply below_alloc | apply pw_below_drewN | apply below_drew1 | refine below_set ?_ GE158.out | refine below_set ?_ GE160.out) | exact HB.out))) : w.heap.size ≤ gb162)); have n6_ := Aside0.mk ((by rw [hg]; exact (below_size (by repeat (first | (with_reducible first | exact HB.out | apply below_alloc | apply pw_below_drewN | apply below_drew1 | refine below_set ?_ GE158.out | refine below_set ?_ GE160.out) | exact HB.out))) : w.heap.size ≤ gb162)); have n7_ := Aside0.mk ((by rw [hg]; exact Nat.ne_of_lt (blk_lt (g := gb158) (o := .cells #[.slice none 0 0, .bool x159001_1] 37 (0, 0)) (by (with_reducible repeat (first | refine blk_drewN ?_ _ | refine blk_drew ?_ | refine blk_alloc ?_ _)); exact BK158.out)) : gb158 ≠ gb162)); have n8_ := Aside0.mk ((by rw [hg]; exact Nat.ne_of_gt (blk_lt (g := gb158) (o := .cells #[.slice none 0 0, .bool x159001_1] 37 (0, 0)) (by (with_reducible repeat (first | refine blk_drewN ?_ _ | refine blk_drew ?_ | refine blk_alloc ?_ _)); exact BK158.out)) : gb162 ≠ gb158)); have n9_ := Aside0.mk ((by rw [hg]; exact Nat.ne_of_lt (blk_lt (g := gb160) (o := .cells #[.slice Ao58 x161000_2.length co58, .bool x161001_2] 37 (0, 0)) (by (with_reducible repeat (first | refine blk_drewN ?_ _ | refine blk_drew ?_ | refine blk_alloc ?_ _)); exact BK160.out)) : gb160 ≠ gb162)); have n10_ := Aside0.mk ((by rw [hg]; exact Nat.ne_of_gt (blk_lt (g := gb160) (o := .cells #[.slice Ao58 x161000_2.length co58, .bool x161001_2] 37 (0, 0)) (by (with_reducible repeat (first | refine blk_drewN ?_ _ | refine blk_drew ?_ | refine blk_alloc ?_ _)); exact BK160.out)) : gb162 ≠ gb160)); clear HO_161000; clear BK158; clear BK160; clear HB; have HO_161000 := n0_; have BK158 := n1_; have BK160 := n2_; have HB := n3_; have BK162 := n4_; have GW162 := n5_; have GE162 := n6_; have NB158_162 := n7_; have NB162_158 := n8_; have NB160_162 := n9_; have NB162_160 := n10_; clear n0_ n1_ n2_ n3_ n4_ n5_ n6_ n7_ n8_ n9_ n10_; clear hb hbox hg) | (go_at_call 32; (with_reducible refine (trans_one.calls kj32 _ _ l0 (wrap64 (x7_2 + 1)) x8_2 x9_2 t163 t164 t165 t168 t169 _ ?side1 ?side2 A53.out).mono ?_); (case side1 => repeat (first | exact (Kd.C_below HR0.out HB.out) | (with_reducible refine Kd.C_alloc ?_ _) | (with_reducible refine Kd.C_drewN ?_ _) | (with_reducible refine Kd.C_drew ?_))); (case side2 => exact HC0.out); rintro e w60 ⟨v166, rfl, ho0, hb⟩; have n0_ := Aside0.mk (Kd.S_elder' (by (with_reducible repeat (first | apply Kd.S_alloc | apply Kd.S_drewN | apply Kd.S_drew)); exact HO_161000.out) (Kd.R_base ho0) hb); have n1_ := Aside0.mk (Kd.R_lower ho0 (below_size (by repeat (first | (with_reducible first | exact HB.out | apply below_alloc | apply pw_below_drewN | apply below_drew1 | refine below_set ?_ GE158.out | refine below_set ?_ GE160.out | refine below_set ?_ GE162.out) | exact HB.out)))); have n2_ := Aside0.mk (blk_below (g := gb158) (o := .cells #[.slice none 0 0, .bool x159001_1] 37 (0, 0)) (by (with_reducible repeat (first | refine blk_drewN ?_ _ | refine blk_drew ?_ | refine blk_alloc ?_ _)); exact BK158.out) hb); have n3_ := Aside0.mk (blk_below (g := gb160) (o := .cells #[.slice Ao58 x161000_2.length co58, .bool x161001_2] 37 (0, 0)) (by (with_reducible repeat (first | refine blk_drewN ?_ _ | refine blk_drew ?_ | refine blk_alloc ?_ _)); exact BK160.out) hb); have n4_ := Aside0.mk (blk_below (g := gb162) (o := .cells #[.int .i64 0, .int .i64 0, .slice none 0 0] 42 (0, 0)) (by (with_reducible repeat (first | refine blk_drewN ?_ _ | refine blk_drew ?_ | refine blk_alloc ?_ _)); exact BK162.out) hb); have n5_ := Aside0.mk (below_step (by repeat (first | (with_reducible first | exact HB.out | apply below_alloc | apply pw_below_drewN | apply below_drew1 | refine below_set ?_ GE158.out | refine below_set ?_ GE160.out | refine below_set ?_ GE162.out) | exact HB.out)) hb); clear HO_161000; clear BK158; clear BK160; clear BK162; clear HB; have HO_161000 := n0_; have HO167 := n1_; have BK158 := n2_; have BK160 := n3_; have BK162 := n4_; have HB := n5_; clear n0_ n1_ n2_ n3_ n4_ n5_; (try clear hb); (try clear hb2); (try clear hk); (try clear hi); (try clear ho0); have hnb61 := NB162_158.out; have hnc61 := NB158_162.out; have hnb62 := NB162_160.out; have hnc62 := NB160_162.out; have hcz63_0 : w60.cell? ⟨gb162, 0, none⟩ = some (.int .i64 0) := (blk_cell BK162.out 0).trans rfl; have hcz63_1 : w60.cell? ⟨gb162, 1, none⟩ = some (.int .i64 0) := (blk_cell BK162.out 1).trans rfl; have hcz63_2 : w60.cell? ⟨gb162, 2, none⟩ = some (.slice none 0 0) := (blk_cell BK162.out 2).trans rfl; have hfz63_0 := blk_frozen BK162.out 0; have hfz63_1 := blk_frozen BK162.out 1; have hfz63_2 := blk_frozen BK162.out 2; obtain ⟨Ao64, co64, eo64⟩ := Kd.R_slice HO167.out; subst eo64) | ((with_reducible refine gate_store (t := 42) (p := 12) rfl ?_); (try (rw [drewN_self w60]; generalize hq_ : World.drewN w60 _ = w60; have n0_ := Aside0.mk (Kd.S_at hq_ HO_161000.out); have n1_ := Aside0.mk (Kd.R_at hq_ HO167.out); have n2_ := Aside0.mk (blk_at hq_ BK158.out); have n3_ := Aside0.mk (blk_at hq_ BK160.out); have n4_ := Aside0.mk (blk_at hq_ BK162.out); have n5_ := Aside0.mk (below_at hq_ HB.out); clear hq_ HO_161000 HO167 BK158 BK160 BK162 HB; have HO_161000 := n0_; have HO167 := n1_; have BK158 := n2_; have BK160 := n3_; have BK162 := n4_; have HB := n5_; clear n0_ n1_ n2_ n3_ n4_ n5_)); refine store_event (t := 42) (p := 12) (v := ?vo_w65) (w1 := (((w60.setCell ⟨gb162, 0, none⟩ (.int .i64 t163)).setCell ⟨gb162, 1, none⟩ (.int .i64 t164)).setCell ⟨gb162, 2, none⟩ (.slice Ao64 t165.length co64))) ?hg ?ho ?hn ?hr ?_; (case ho => rfl); (case hg => rfl); (case hn => rfl); (case hr => first | (go_simp; done) | (go_simp; rfl)); intro w65 hw; have n0_ : Aside0 (Kd.S k42 42 w65 w.heap.size (fun k_ => some k_ ≠ (.slice Ao64 t165.length co64 : Value).ownBlock ∧ k_ ≠ gb162) (.slice Ao58 x161000_2.length co58) x161000_2) := ⟨(by rw [hw]; exact (by (with_reducible repeat (first | apply Kd.S_alloc | apply Kd.S_drewN | apply Kd.S_drew)); exact Kd.S_mono (Kd.S_far (p := ⟨gb162, 2, none⟩) (Kd.S_far (p := ⟨gb162, 1, none⟩) (Kd.S_far (p := ⟨gb162, 0, none⟩) (Kd.S_mono HO_161000.out (fun k_ hk => (⟨hk, hk.1.2⟩ : _ ∧ k_ ≠ gb162))) (fun _ hk => hk.2) (.int .i64 t163)) (fun _ hk => hk.2) (.int .i64 t164)) (fun _ hk => hk.2) (.slice Ao64 t165.length co64)) (fun _ hk => ⟨hk.1.2, hk.1.1.2⟩)))⟩; have n1_ : Aside0 (Kd.R (Kd.int .u8) 5 w65 w.heap.size (fun _ => True) (.slice Ao64 t165.length co64) t165) := ⟨(by rw [hw]; exact (by (with_reducible repeat (first | apply Kd.R_alloc | apply Kd.R_drewN | apply Kd.R_drew)); exact Kd.R_mono (Kd.R_far (p := ⟨gb162, 2, none⟩) (Kd.R_far (p := ⟨gb162, 1, none⟩) (Kd.R_far (p := ⟨gb162, 0, none⟩) (Kd.R_types HO167.out BK162.out (by decide)) (fun _ hk => hk.2) (.int .i64 t163)) (fun _ hk => hk.2) (.int .i64 t164)) (fun _ hk => hk.2) (.slice Ao64 t165.length co64)) (fun _ hk => trivial)))⟩; have n2_ : Aside0 (w65.heap[gb158]? = some (.cells #[.slice none 0 0, .bool x159001_1] 37 (0, 0))) := ⟨(by rw [hw]; exact (by (with_reducible repeat (first | refine blk_drewN ?_ _ | refine blk_drew ?_ | refine blk_alloc ?_ _)); refine blk_far ?_ NB158_162.out _; (with_reducible repeat (first | refine blk_drewN ?_ _ | refine blk_drew ?_ | refine blk_alloc ?_ _)); refine blk_far ?_ NB158_162.out _; (with_reducible repeat (first | refine blk_drewN ?_ _ | refine blk_drew ?_ | refine blk_alloc ?_ _)); refine blk_far ?_ NB158_162.out _; (with_reducible repeat (first | refine blk_drewN ?_ _ | refine blk_drew ?_ | refine blk_alloc ?_ _)); exact BK158.out))⟩; have n3_ : Aside0 (w65.heap[gb160]? = some (.cells #[.slice Ao58 x161000_2.length co58, .bool x161001_2] 37 (0, 0))) := ⟨(by rw [hw]; exact (by (with_reducible repeat (first | refine blk_drewN ?_ _ | refine blk_drew ?_ | refine blk_alloc ?_ _)); refine blk_far ?_ NB160_162.out _; (with_reducible repeat (first | refine blk_drewN ?_ _ | refine blk_drew ?_ | refine blk_alloc ?_ _)); refine blk_far ?_ NB160_162.out _; (with_reducible repeat (first | refine blk_drewN ?_ _ | refine blk_drew ?_ | refine blk_alloc ?_ _)); refine blk_far ?_ NB160_162.out _; (with_reducible repeat (first | refine blk_drewN ?_ _ | refine blk_drew ?_ | refine blk_alloc ?_ _)); exact BK160.out))⟩; have n4_ : Aside0 (w65.heap[gb162]? = some (.cells #[.int .i64 t163, .int .i64 t164, .slice Ao64 t165.length co64] 42 (0, 0))) := ⟨(by rw [hw]; exact (by (with_reducible repeat (first | refine blk_drewN ?_ _ | refine blk_drew ?_ | refine blk_alloc ?_ _)); refine blk_put (cs := #[.int .i64 t163, .int .i64 t164, .slice none 0 0]) ?_ 2 _ rfl; (with_reducible repeat (first | refine blk_drewN ?_ _ | refine blk_drew ?_ | refine blk_alloc ?_ _)); refine blk_put (cs := #[.int .i64 t163, .int .i64 0, .slice none 0 0]) ?_ 1 _ rfl; (with_reducible repeat (first | refine blk_drewN ?_ _ | refine blk_drew ?_ | refine blk_alloc ?_ _)); refine blk_put (cs := #[.int .i64 0, .int .i64 0, .slice none 0 0]) ?_ 0 _ rfl; (with_reducible repeat (first | refine blk_drewN ?_ _ | refine blk_drew ?_ | refine blk_alloc ?_ _)); exact BK162.out))⟩; have n5_ : Aside0 (Below w.heap.size w w65) := ⟨(by rw [hw]; exact (by repeat (first | (with_reducible first | exact HB.out | apply below_alloc | apply pw_below_drewN | apply below_drew1 | refine below_set ?_ GE158.out | refine below_set ?_ GE160.out | refine below_set ?_ GE162.out) | exact HB.out)))⟩; clear hw; clear HO_161000; clear HO167; clear BK158; clear BK160; clear BK162; clear HB; have HO_161000 := n0_; have HO167 := n1_; have BK158 := n2_; have BK160 := n3_; have BK162 := n4_; have HB := n5_; clear n0_ n1_ n2_ n3_ n4_ n5_; have hcz66_0 : w65.cell? ⟨gb162, 0, none⟩ = some (.int .i64 t163) := (blk_cell BK162.out 0).trans rfl; have hcz66_1 : w65.cell? ⟨gb162, 1, none⟩ = some (.int .i64 t164) := (blk_cell BK162.out 1).trans rfl; have hcz66_2 : w65.cell? ⟨gb162, 2, none⟩ = some (.slice Ao64 t165.length co64) := (blk_cell BK162.out 2).trans rfl; have hfz66_0 := blk_frozen BK162.out 0; have hfz66_1 := blk_frozen BK162.out 1; have hfz66_2 := blk_frozen BK162.out 2) | ((with_reducible refine gate_store (t := 3) (p := 85) rfl ?_); (try (rw [drewN_self w65]; generalize hq_ : World.drewN w65 _ = w65; have n0_ := Aside0.mk (Kd.S_at hq_ HO_161000.out); have n1_ := Aside0.mk (Kd.R_at hq_ HO167.out); have n2_ := Aside0.mk (blk_at hq_ BK158.out); have n3_ := Aside0.mk (blk_at hq_ BK160.out); have n4_ := Aside0.mk (blk_at hq_ BK162.out); have n5_ := Aside0.mk (below_at hq_ HB.out); clear hq_ HO_161000 HO167 BK158 BK160 BK162 HB; have HO_161000 := n0_; have HO167 := n1_; have BK158 := n2_; have BK160 := n3_; have BK162 := n4_; have HB := n5_; clear n0_ n1_ n2_ n3_ n4_ n5_)); refine store_event (t := 3) (p := 85) (v := ?vo_w67) (w1 := (w65.setCell ⟨gb162, 0, none⟩ (.int .i64 (wrap64 ((wrap64 ((rd l0 x7_2))) - 1))))) ?hg ?ho ?hn ?hr ?_; (case ho => rfl); (case hg => rfl); (case hn => rfl); (case hr => first | (go_simp; done) | (go_simp; rfl)); intro w67 hw; have n0_ : Aside0 (Kd.S k42 42 w67 w.heap.size (fun k_ => some k_ ≠ (.slice Ao64 t165.length co64 : Value).ownBlock ∧ k_ ≠ gb162) (.slice Ao58 x161000_2.length co58) x161000_2) := ⟨(by rw [hw]; exact (by (with_reducible repeat (first | apply Kd.S_alloc | apply Kd.S_drewN | apply Kd.S_drew)); exact Kd.S_mono (Kd.S_far (p := ⟨gb162, 0, none⟩) (Kd.S_mono HO_161000.out (fun k_ hk => (⟨hk, hk.2⟩ : _ ∧ k_ ≠ gb162))) (fun _ hk => hk.2) (.int .i64 (wrap64 ((wrap64 ((rd l0 x7_2))) - 1)))) (fun _ hk => ⟨hk.1.1, hk.1.2⟩)))⟩; have n1_ : Aside0 (Kd.R (Kd.int .u8) 5 w67 w.heap.size (fun _ => True) (.slice Ao64 t165.length co64) t165) := ⟨(by rw [hw]; exact (by (with_reducible repeat (first | apply Kd.R_alloc | apply Kd.R_drewN | apply Kd.R_drew)); exact Kd.R_mono (Kd.R_far (p := ⟨gb162, 0, none⟩) (Kd.R_types HO167.out BK162.out (by decide)) (fun _ hk => hk.2) (.int .i64 (wrap64 ((wrap64 ((rd l0 x7_2))) - 1)))) (fun _ hk => trivial)))⟩; have n2_ : Aside0 (w67.heap[gb158]? = some (.cells #[.slice none 0 0, .bool x159001_1] 37 (0, 0))) := ⟨(by rw [hw]; exact (by (with_reducible repeat (first | refine blk_drewN ?_ _ | refine blk_drew ?_ | refine blk_alloc ?_ _)); refine blk_far ?_ NB158_162.out _; (with_reducible repeat (first | refine blk_drewN ?_ _ | refine blk_drew ?_ | refine blk_alloc ?_ _)); exact BK158.out))⟩; have n3_ : Aside0 (w67.heap[gb160]? = some (.cells #[.slice Ao58 x161000_2.length co58, .bool x161001_2] 37 (0, 0))) := ⟨(by rw [hw]; exact (by (with_reducible repeat (first | refine blk_drewN ?_ _ | refine blk_drew ?_ | refine blk_alloc ?_ _)); refine blk_far ?_ NB160_162.out _; (with_reducible repeat (first | refine blk_drewN ?_ _ | refine blk_drew ?_ | refine blk_alloc ?_ _)); exact BK160.out))⟩; have n4_ : Aside0 (w67.heap[gb162]? = some (.cells #[.int .i64 (wrap64 ((wrap64 ((rd l0 x7_2))) - 1)), .int .i64 t164, .slice Ao64 t165.length co64] 42 (0, 0))) := ⟨(by rw [hw]; exact (by (with_reducible repeat (first | refine blk_drewN ?_ _ | refine blk_drew ?_ | refine blk_alloc ?_ _)); refine blk_put (cs := #[.int .i64 t163, .int .i64 t164, .slice Ao64 t165.length co64]) ?_ 0 _ rfl; (with_reducible repeat (first | refine blk_drewN ?_ _ | refine blk_drew ?_ | refine blk_alloc ?_ _)); exact BK162.out))⟩; have n5_ : Aside0 (Below w.heap.size w w67) := ⟨(by rw [hw]; exact (by repeat (first | (with_reducible first | exact HB.out | apply below_alloc | apply pw_below_drewN | apply below_drew1 | refine below_set ?_ GE158.out | refine below_set ?_ GE160.out | refine below_set ?_ GE162.out) | exact HB.out)))⟩; clear hw; clear HO_161000; clear HO167; clear BK158; clear BK160; clear BK162; clear HB; have HO_161000 := n0_; have HO167 := n1_; have BK158 := n2_; have BK160 := n3_; have BK162 := n4_; have HB := n5_; clear n0_ n1_ n2_ n3_ n4_ n5_; have hcz68_0 : w67.cell? ⟨gb160, 0, none⟩ = some (.slice Ao58 x161000_2.length co58) := (blk_cell BK160.out 0).trans rfl; have hcz68_1 : w67.cell? ⟨gb160, 1, none⟩ = some (.bool x161001_2) := (blk_cell BK160.out 1).trans rfl; have hfz68_0 := blk_frozen BK160.out 0; have hfz68_1 := blk_frozen BK160.out 1; have hcz69_0 : w67.cell? ⟨gb162, 0, none⟩ = some (.int .i64 (wrap64 ((wrap64 ((rd l0 x7_2))) - 1))) := (blk_cell BK162.out 0).trans rfl; have hcz69_1 : w67.cell? ⟨gb162, 1, none⟩ = some (.int .i64 t164) := (blk_cell BK162.out 1).trans rfl; have hcz69_2 : w67.cell? ⟨gb162, 2, none⟩ = some (.slice Ao64 t165.length co64) := (blk_cell BK162.out 2).trans rfl; have hfz69_0 := blk_frozen BK162.out 0; have hfz69_1 := blk_frozen BK162.out 1; have hfz69_2 := blk_frozen BK162.out 2) | ((with_reducible refine gate_builtin (b := .append) (xs := #[.tmp 87, .tmp 89]) rfl ?_); (try (refine gate_guard (by rfl) ?_; dsimp only)); at_builtin; refine Kd.S_append k42 (w0 := w) w.heap.size rfl (.tmp 87) (.tmp 89) 35 42 (.agg #[(.int .i64 0), (.int .i64 0), (.slice none 0 0)]) 40 rfl Tryz.underlying35 info42 rfl (by decide) (by omega) (.slice Ao58 x161000_2.length co58) x161000_2 (⟨wrap64 ((wrap64 ((rd l0 x7_2))) - 1), t164, t165⟩ : S42) [.int .i64 (wrap64 ((wrap64 ((rd l0 x7_2))) - 1)), .int .i64 t164, .slice Ao64 t165.length co64] (fun k_ => k_ ≠ gb162) (fun k_ => some k_ = (.slice Ao64 t165.length co64 : Value).ownBlock) rfl rfl ?aP (fun k_ hk_ => ((Kd.R_mono (ok' := fun k_ => ((fun k_ => k_ ≠ gb162)) k_ ∧ some k_ ≠ (.slice Ao58 x161000_2.length co58 : Value).ownBlock) (Kd.R_types (Kd.R_apart' (HO167.out) (Kd.S_typed HO_161000.out) (by decide)) BK162.out (by decide)) (fun k_ hk => ⟨hk.2, hk.1.2⟩))).1 k_ hk_.symm) ?aF ?aO ?aB ?aS ?aL ?_; (case aP => exact k42_mkM _ _ _ (⟨wrap64 ((wrap64 ((rd l0 x7_2))) - 1), t164, t165⟩ : S42) (Kd.R_mono (Kd.R_tight rfl (Kd.R_mono (ok' := fun k_ => ((fun k_ => k_ ≠ gb162)) k_ ∧ some k_ ≠ (.slice Ao58 x161000_2.length co58 : Value).ownBlock) (Kd.R_types (Kd.R_apart' (HO167.out) (Kd.S_typed HO_161000.out) (by decide)) BK162.out (by decide)) (fun k_ hk => ⟨hk.2, hk.1.2⟩))) (fun _ h_ => h_))); (case aB => exact (by repeat (first | (with_reducible first | exact HB.out | apply below_alloc | apply pw_below_drewN | apply below_drew1 | refine below_set ?_ GE158.out | refine below_set ?_ GE160.out | refine below_set ?_ GE162.out) | exact HB.out))); (case aF => exact (fun k_ hk => Kd.freshB (g := gb162) (o := .cells #[.int .i64 (wrap64 ((wrap64 ((rd l0 x7_2))) - 1)), .int .i64 t164, .slice Ao64 t165.length co64] 42 (0, 0)) (by (with_reducible repeat (first | refine blk_drewN ?_ _ | refine blk_drew ?_ | refine blk_alloc ?_ _)); exact BK162.out) k_ hk)); (case aO => exact (by (with_reducible repeat (first | apply Kd.S_alloc | apply Kd.S_drewN | apply Kd.S_drew)); exact Kd.S_mono HO_161000.out (fun k_ hk => ⟨hk.2, fun e_ => hk.1 e_⟩))); (case aS => exact (below_size (by repeat (first | (with_reducible first | exact HB.out | apply below_alloc | apply pw_below_drewN | apply below_drew1 | refine below_set ?_ GE158.out | refine below_set ?_ GE160.out | refine below_set ?_ GE162.out) | exact HB.out)))); (case aL => have := LMc55.out; omega); intro v171 w70 ho hb hg hat; rw [← Ny170.out] at ho; have n0_ := Aside0.mk (blk_grown (g := gb158) (o := .cells #[.slice none 0 0, .bool x159001_1] 37 (0, 0)) (by (with_reducible repeat (first | refine blk_drewN ?_ _ | refine blk_drew ?_ | refine blk_alloc ?_ _)); exact BK158.out) hg (Kd.S_ne HO_161000.out BK158.out (by decide))); have n1_ := Aside0.mk (blk_grown (g := gb160) (o := .cells #[.slice Ao58 x161000_2.length co58, .bool x161001_2] 37 (0, 0)) (by (with_reducible repeat (first | refine blk_drewN ?_ _ | refine blk_drew ?_ | refine blk_alloc ?_ _)); exact BK160.out) hg (Kd.S_ne HO_161000.out BK160.out (by decide))); have n2_ := Aside0.mk (blk_grown (g := gb162) (o := .cells #[.int .i64 (wrap64 ((wrap64 ((rd l0 x7_2))) - 1)), .int .i64 t164, .slice Ao64 t165.length co64] 42 (0, 0)) (by (with_reducible repeat (first | refine blk_drewN ?_ _ | refine blk_drew ?_ | refine blk_alloc ?_ _)); exact BK162.out) hg (Kd.S_away HO_161000.out (fun _ hk => hk.2))); have n3_ := Aside0.mk (hb); have n4_ := Aside0.mk (ho); clear BK158; clear BK160; clear BK162; clear HB; clear HO_161000; clear HO167; have BK158 := n0_; have BK160 := n1_; have BK162 := n2_; have HB := n3_; have HO172 := n4_; clear n0_ n1_ n2_ n3_ n4_; clear ho hb hg hat; obtain ⟨Ao71, co71, eo71⟩ := Kd.S_slice HO172.out; subst eo71; have hcz72_0 : w70.cell? ⟨gb160, 0, none⟩ = some (.slice Ao58 x161000_2.length co58) := (blk_cell BK160.out 0).trans rfl; have hcz72_1 : w70.cell? ⟨gb160, 1, none⟩ = some (.bool x161001_2) := (blk_cell BK160.out 1).trans rfl; have hfz72_0 := blk_frozen BK160.out 0; have hfz72_1 := blk_frozen BK160.out 1; have hcz73_0 : w70.cell? ⟨gb162, 0, none⟩ = some (.int .i64 (wrap64 ((wrap64 ((rd l0 x7_2))) - 1))) := (blk_cell BK162.out 0).trans rfl; have hcz73_1 : w70.cell? ⟨gb162, 1, none⟩ = some (.int .i64 t164) := (blk_cell BK162.out 1).trans rfl; have hcz73_2 : w70.cell? ⟨gb162, 2, none⟩ = some (.slice Ao64 t165.length co64) := (blk_cell BK162.out 2).trans rfl; have hfz73_0 := blk_frozen BK162.out 0; have hfz73_1 := blk_frozen BK162.out 1; have hfz73_2 := blk_frozen BK162.out 2)))
                                    go_roundg kj32
                                    case measure => have := HK1.out; have := HK2.out; have := HJ13.out; have := HJ32.out; omega
                                    case rel => exact ⟨(t168), (t164), (wrap64 (x9_2 - (t165.length : Int))), (t169), (y170), (x161001_2), (.slice Ao71 y170.length co71), (by first | rfl | (simp; done) | (simp [*]; done)), (by first | rfl | (simp; done) | (simp [*]; done)), (by first | rfl | (simp; done) | (simp [*]; done)), (by first | rfl | (simp; done) | (simp [*]; done)), H', ⟨by have := HK1.out; have := HK2.out; have := HJ13.out; have := HJ32.out; omega⟩, ⟨by (with_reducible repeat (first | apply Kd.S_alloc | apply Kd.S_drewN | apply Kd.S_drew)); exact Kd.S_mono (Kd.S_far (p := ⟨gb160, 0, none⟩) (Kd.S_types HO172.out BK160.out (by decide)) (fun _ hk => hk.2) (.slice Ao71 y170.length co71)) (fun _ hk => trivial)⟩, ⟨by (with_reducible repeat (first | refine blk_drewN ?_ _ | refine blk_drew ?_ | refine blk_alloc ?_ _)); refine blk_far ?_ NB158_160.out _; (with_reducible repeat (first | refine blk_drewN ?_ _ | refine blk_drew ?_ | refine blk_alloc ?_ _)); exact BK158.out⟩, ⟨by (with_reducible repeat (first | refine blk_drewN ?_ _ | refine blk_drew ?_ | refine blk_alloc ?_ _)); refine blk_put (cs := #[.slice Ao58 x161000_2.length co58, .bool x161001_2]) ?_ 0 _ rfl; (with_reducible repeat (first | refine blk_drewN ?_ _ | refine blk_drew ?_ | refine blk_alloc ?_ _)); exact BK160.out⟩, ⟨by repeat (first | (with_reducible first | exact HB.out | apply below_alloc | apply pw_below_drewN | apply below_drew1 | refine below_set ?_ GE158.out | refine below_set ?_ GE160.out | refine below_set ?_ GE162.out) | exact HB.out)⟩⟩
                                  · rw [if_neg c55] at H
                                    exact absurd H (by simp)
                                · rw [if_neg c54] at H
                                  have c54b0 : (t169 == 0) = false := beq_eq_false_iff_ne.mpr c54
                                  have c54b1 : (t169 != 0) = true := bne_iff_ne.mpr c54
                                  simp only [Option.some.injEq, Prod.mk.injEq] at H
                                  obtain ⟨rfl, rfl, rfl, rfl⟩ := H
                                  have hnb74 := NB160_158.out
                                  have hnc74 := NB158_160.out
                                  have hcz75_0 : wc.cell? ⟨gb160, 0, none⟩ = some (u161000) := (blk_cell BK160.out 0).trans rfl
                                  have hcz75_1 : wc.cell? ⟨gb160, 1, none⟩ = some (.bool x161001_2) := (blk_cell BK160.out 1).trans rfl
                                  have hfz75_0 := blk_frozen BK160.out 0
                                  have hfz75_1 := blk_frozen BK160.out 1
                                  obtain ⟨Ao76, co76, eo76⟩ := Kd.S_slice HO_161000.out
                                  subst eo76
                                  go_wp2_with (first | ((with_reducible refine gate_dst (N := 12) rfl ?_); (try (refine gate_guard (by rfl) ?_; dsimp only)); refine box_event ?hg (N := 12) ?hd (cs := #[.int .i64 0, .int .i64 0, .slice none 0 0]) (t := 42) ?hr ?_; (case hd => rfl); (case hg => rfl); (case hr => first | (go_simp; done) | (go_simp; rfl)); intro gb162 hg w77 hbox hb; have n0_ := Aside0.mk (Kd.S_below (Kd.S_elderB (by (with_reducible repeat (first | apply Kd.S_alloc | apply Kd.S_drewN | apply Kd.S_drew)); exact HO_161000.out) gb162 (Nat.le_of_eq hg.symm)) hb); have n1_ := Aside0.mk (blk_below (g := gb158) (o := .cells #[.slice none 0 0, .bool x159001_1] 37 (0, 0)) (by (with_reducible repeat (first | refine blk_drewN ?_ _ | refine blk_drew ?_ | refine blk_alloc ?_ _)); exact BK158.out) hb); have n2_ := Aside0.mk (blk_below (g := gb160) (o := .cells #[.slice Ao76 x161000_2.length co76, .bool x161001_2] 37 (0, 0)) (by (with_reducible repeat (first | refine blk_drewN ?_ _ | refine blk_drew ?_ | refine blk_alloc ?_ _)); exact BK160.out) hb); have n3_ := Aside0.mk (below_step (by repeat (first | (with_reducible first | exact HB.out | apply below_alloc | apply pw_below_drewN | apply below_drew1 | refine below_set ?_ GE158.out | refine below_set ?_ GE160.out) | exact HB.out)) hb); have n4_ := Aside0.mk (hbox); have n5_ := Aside0.mk ((by rw [hg]; exact (below_size (by repeat (first | (with_reducible first | exact HB.out | apply below_alloc | apply pw_below_drewN | apply below_drew1 | refine below_set ?_ GE158.out | refine below_set ?_ GE160.out) | exact HB.out))) : w.heap.size ≤ gb162)); have n6_ := Aside0.mk ((by rw [hg]; exact (below_size (by repeat (first | (with_reducible first | exact HB.out | apply below_alloc | apply pw_below_drewN | apply below_drew1 | refine below_set ?_ GE158.out | refine below_set ?_ GE160.out) | exact HB.out))) : w.heap.size ≤ gb162)); have n7_ := Aside0.mk ((by rw [hg]; exact Nat.ne_of_lt (blk_lt (g := gb158) (o := .cells #[.slice none 0 0, .bool x159001_1] 37 (0, 0)) (by (with_reducible repeat (first | refine blk_drewN ?_ _ | refine blk_drew ?_ | refine blk_alloc ?_ _)); exact BK158.out)) : gb158 ≠ gb162)); have n8_ := Aside0.mk ((by rw [hg]; exact Nat.ne_of_gt (blk_lt (g := gb158) (o := .cells #[.slice none 0 0, .bool x159001_1] 37 (0, 0)) (by (with_reducible repeat (first | refine blk_drewN ?_ _ | refine blk_drew ?_ | refine blk_alloc ?_ _)); exact BK158.out)) : gb162 ≠ gb158)); have n9_ := Aside0.mk ((by rw [hg]; exact Nat.ne_of_lt (blk_lt (g := gb160) (o := .cells #[.slice Ao76 x161000_2.length co76, .bool x161001_2] 37 (0, 0)) (by (with_reducible repeat (first | refine blk_drewN ?_ _ | refine blk_drew ?_ | refine blk_alloc ?_ _)); exact BK160.out)) : gb160 ≠ gb162)); have n10_ := Aside0.mk ((by rw [hg]; exact Nat.ne_of_gt (blk_lt (g := gb160) (o := .cells #[.slice Ao76 x161000_2.length co76, .bool x161001_2] 37 (0, 0)) (by (with_reducible repeat (first | refine blk_drewN ?_ _ | refine blk_drew ?_ | refine blk_alloc ?_ _)); exact BK160.out)) : gb162 ≠ gb160)); clear HO_161000; clear BK158; clear BK160; clear HB; have HO_161000 := n0_; have BK158 := n1_; have BK160 := n2_; have HB := n3_; have BK162 := n4_; have GW162 := n5_; have GE162 := n6_; have NB158_162 := n7_; have NB162_158 := n8_; have NB160_162 := n9_; have NB162_160 := n10_; clear n0_ n1_ n2_ n3_ n4_ n5_ n6_ n7_ n8_ n9_ n10_; clear hb hbox hg) | (go_at_call 32; (with_reducible refine (trans_one.calls kj32 _ _ l0 (wrap64 (x7_2 + 1)) x8_2 x9_2 t163 t164 t165 t168 t169 _ ?side1 ?side2 A53.out).mono ?_); (case side1 => repeat (first | exact (Kd.C_below HR0.out HB.out) | (with_reducible refine Kd.C_alloc ?_ _) | (with_reducible refine Kd.C_drewN ?_ _) | (with_reducible refine Kd.C_drew ?_))); (case side2 => exact HC0.out); rintro e w78 ⟨v166, rfl, ho0, hb⟩; have n0_ := Aside0.mk (Kd.S_elder' (by (with_reducible repeat (first | apply Kd.S_alloc | apply Kd.S_drewN | apply Kd.S_drew)); exact HO_161000.out) (Kd.R_base ho0) hb); have n1_ := Aside0.mk (Kd.R_lower ho0 (below_size (by repeat (first | (with_reducible first | exact HB.out | apply below_alloc | apply pw_below_drewN | apply below_drew1 | refine below_set ?_ GE158.out | refine below_set ?_ GE160.out | refine below_set ?_ GE162.out) | exact HB.out)))); have n2_ := Aside0.mk (blk_below (g := gb158) (o := .cells #[.slice none 0 0, .bool x159001_1] 37 (0, 0)) (by (with_reducible repeat (first | refine blk_drewN ?_ _ | refine blk_drew ?_ | refine blk_alloc ?_ _)); exact BK158.out) hb); have n3_ := Aside0.mk (blk_below (g := gb160) (o := .cells #[.slice Ao76 x161000_2.length co76, .bool x161001_2] 37 (0, 0)) (by (with_reducible repeat (first | refine blk_drewN ?_ _ | refine blk_drew ?_ | refine blk_alloc ?_ _)); exact BK160.out) hb); have n4_ := Aside0.mk (blk_below (g := gb162) (o := .cells #[.int .i64 0, .int .i64 0, .slice none 0 0] 42 (0, 0)) (by (with_reducible repeat (first | refine blk_drewN ?_ _ | refine blk_drew ?_ | refine blk_alloc ?_ _)); exact BK162.out) hb); have n5_ := Aside0.mk (below_step (by repeat (first | (with_reducible first | exact HB.out | apply below_alloc | apply pw_below_drewN | apply below_drew1 | refine below_set ?_ GE158.out | refine below_set ?_ GE160.out | refine below_set ?_ GE162.out) | exact HB.out)) hb); clear HO_161000; clear BK158; clear BK160; clear BK162; clear HB; have HO_161000 := n0_; have HO167 := n1_; have BK158 := n2_; have BK160 := n3_; have BK162 := n4_; have HB := n5_; clear n0_ n1_ n2_ n3_ n4_ n5_; (try clear hb); (try clear hb2); (try clear hk); (try clear hi); (try clear ho0); have hnb79 := NB162_158.out; have hnc79 := NB158_162.out; have hnb80 := NB162_160.out; have hnc80 := NB160_162.out; have hcz81_0 : w78.cell? ⟨gb162, 0, none⟩ = some (.int .i64 0) := (blk_cell BK162.out 0).trans rfl; have hcz81_1 : w78.cell? ⟨gb162, 1, none⟩ = some (.int .i64 0) := (blk_cell BK162.out 1).trans rfl; have hcz81_2 : w78.cell? ⟨gb162, 2, none⟩ = some (.slice none 0 0) := (blk_cell BK162.out 2).trans rfl; have hfz81_0 := blk_frozen BK162.out 0; have hfz81_1 := blk_frozen BK162.out 1; have hfz81_2 := blk_frozen BK162.out 2; obtain ⟨Ao82, co82, eo82⟩ := Kd.R_slice HO167.out; subst eo82; have hcz83_0 : w78.cell? ⟨gb158, 0, none⟩ = some (.slice none 0 0) := (blk_cell BK158.out 0).trans rfl; have hcz83_1 : w78.cell? ⟨gb158, 1, none⟩ = some (.bool x159001_1) := (blk_cell BK158.out 1).trans rfl; have hfz83_0 := blk_frozen BK158.out 0; have hfz83_1 := blk_frozen BK158.out 1))
                                  repeat (go_quiet (first | ((with_reducible refine gate_dst (N := 12) rfl ?_); (try (refine gate_guard (by rfl) ?_; dsimp only)); refine box_event ?hg (N := 12) ?hd (cs := #[.int .i64 0, .int .i64 0, .slice none 0 0]) (t := 42) ?hr ?_; (case hd => rfl); (case hg => rfl); (case hr => first | (go_simp; done) | (go_simp; rfl)); intro gb162 hg w77 hbox hb; have n0_ := Aside0.mk (Kd.S_below (Kd.S_elderB (by (with_reducible repeat (first | apply Kd.S_alloc | apply Kd.S_drewN | apply Kd.S_drew)); exact HO_161000.out) gb162 (Nat.le_of_eq hg.symm)) hb); have n1_ := Aside0.mk (blk_below (g := gb158) (o := .cells #[.slice none 0 0, .bool x159001_1] 37 (0, 0)) (by (with_reducible repeat (first | refine blk_drewN ?_ _ | refine blk_drew ?_ | refine blk_alloc ?_ _)); exact BK158.out) hb); have n2_ := Aside0.mk (blk_below (g := gb160) (o := .cells #[.slice Ao76 x161000_2.length co76, .bool x161001_2] 37 (0, 0)) (by (with_reducible repeat (first | refine blk_drewN ?_ _ | refine blk_drew ?_ | refine blk_alloc ?_ _)); exact BK160.out) hb); have n3_ := Aside0.mk (below_step (by repeat (first | (with_reducible first | exact HB.out | apply below_alloc | apply pw_below_drewN | apply below_drew1 | refine below_set ?_ GE158.out | refine below_set ?_ GE160.out) | exact HB.out)) hb); have n4_ := Aside0.mk (hbox); have n5_ := Aside0.mk ((by rw [hg]; exact (below_size (by repeat (first | (with_reducible first | exact HB.out | apply below_alloc | apply pw_below_drewN | apply below_drew1 | refine below_set ?_ GE158.out | refine below_set ?_ GE160.out) | exact HB.out))) : w.heap.size ≤ gb162)); have n6_ := Aside0.mk ((by rw [hg]; exact (below_size (by repeat (first | (with_reducible first | exact HB.out | apply below_alloc | apply pw_below_drewN | apply below_drew1 | refine below_set ?_ GE158.out | refine below_set ?_ GE160.out) | exact HB.out))) : w.heap.size ≤ gb162)); have n7_ := Aside0.mk ((by rw [hg]; exact Nat.ne_of_lt (blk_lt (g := gb158) (o := .cells #[.slice none 0 0, .bool x159001_1] 37 (0, 0)) (by (with_reducible repeat (first | refine blk_drewN ?_ _ | refine blk_drew ?_ | refine blk_alloc ?_ _)); exact BK158.out)) : gb158 ≠ gb162)); have n8_ := Aside0.mk ((by rw [hg]; exact Nat.ne_of_gt (blk_lt (g := gb158) (o := .cells #[.slice none 0 0, .bool x159001_1] 37 (0, 0)) (by (with_reducible repeat (first | refine blk_drewN ?_ _ | refine blk_drew ?_ | refine blk_alloc ?_ _)); exact BK158.out)) : gb162 ≠ gb158)); have n9_ := Aside0.mk ((by rw [hg]; exact Nat.ne_of_lt (blk_lt (g := gb160) (o := .cells #[.slice Ao76 x161000_2.length co76, .bool x161001_2] 37 (0, 0)) (by (with_reducible repeat (first | refine blk_drewN ?_ _ | refine blk_drew ?_ | refine blk_alloc ?_ _)); exact BK160.out)) : gb160 ≠ gb162)); have n10_ := Aside0.mk ((by rw [hg]; exact Nat.ne_of_gt (blk_lt (g := gb160) (o := .cells #[.slice Ao76 x161000_2.length co76, .bool x161001_2] 37 (0, 0)) (by (with_reducible repeat (first | refine blk_drewN ?_ _ | refine blk_drew ?_ | refine blk_alloc ?_ _)); exact BK160.out)) : gb162 ≠ gb160)); clear HO_161000; clear BK158; clear BK160; clear HB; have HO_161000 := n0_; have BK158 := n1_; have BK160 := n2_; have HB := n3_; have BK162 := n4_; have GW162 := n5_; have GE162 := n6_; have NB158_162 := n7_; have NB162_158 := n8_; have NB160_162 := n9_; have NB162_160 := n10_; clear n0_ n1_ n2_ n3_ n4_ n5_ n6_ n7_ n8_ n9_ n10_; clear hb hbox hg) | (go_at_call 32; (with_reducible refine (trans_one.calls kj32 _ _ l0 (wrap64 (x7_2 + 1)) x8_2 x9_2 t163 t164 t165 t168 t169 _ ?side1 ?side2 A53.out).mono ?_); (case side1 => repeat (first | exact (Kd.C_below HR0.out HB.out) | (with_reducible refine Kd.C_alloc ?_ _) | (with_reducible refine Kd.C_drewN ?_ _) | (with_reducible refine Kd.C_drew ?_))); (case side2 => exact HC0.out); rintro e w78 ⟨v166, rfl, ho0, hb⟩; have n0_ := Aside0.mk (Kd.S_elder' (by (with_reducible repeat (first | apply Kd.S_alloc | apply Kd.S_drewN | apply Kd.S_drew)); exact HO_161000.out) (Kd.R_base ho0) hb); have n1_ := Aside0.mk (Kd.R_lower ho0 (below_size (by repeat (first | (with_reducible first | exact HB.out | apply below_alloc | apply pw_below_drewN | apply below_drew1 | refine below_set ?_ GE158.out | refine below_set ?_ GE160.out | refine below_set ?_ GE162.out) | exact HB.out)))); have n2_ := Aside0.mk (blk_below (g := gb158) (o := .cells #[.slice none 0 0, .bool x159001_1] 37 (0, 0)) (by (with_reducible repeat (first | refine blk_drewN ?_ _ | refine blk_drew ?_ | refine blk_alloc ?_ _)); exact BK158.out) hb); have n3_ := Aside0.mk (blk_below (g := gb160) (o := .cells #[.slice Ao76 x161000_2.length co76, .bool x161001_2] 37 (0, 0)) (by (with_reducible repeat (first | refine blk_drewN ?_ _ | refine blk_drew ?_ | refine blk_alloc ?_ _)); exact BK160.out) hb); have n4_ := Aside0.mk (blk_below (g := gb162) (o := .cells #[.int .i64 0, .int .i64 0, .slice none 0 0] 42 (0, 0)) (by (with_reducible repeat (first | refine blk_drewN ?_ _ | refine blk_drew ?_ | refine blk_alloc ?_ _)); exact BK162.out) hb); have n5_ := Aside0.mk (below_step (by repeat (first | (with_reducible first | exact HB.out | apply below_alloc | apply pw_below_drewN | apply below_drew1 | refine below_set ?_ GE158.out | refine below_set ?_ GE160.out | refine below_set ?_ GE162.out) | exact HB.out)) hb); clear HO_161000; clear BK158; clear BK160; clear BK162; clear HB; have HO_161000 := n0_; have HO167 := n1_; have BK158 := n2_; have BK160 := n3_; have BK162 := n4_; have HB := n5_; clear n0_ n1_ n2_ n3_ n4_ n5_; (try clear hb); (try clear hb2); (try clear hk); (try clear hi); (try clear ho0); have hnb79 := NB162_158.out; have hnc79 := NB158_162.out; have hnb80 := NB162_160.out; have hnc80 := NB160_162.out; have hcz81_0 : w78.cell? ⟨gb162, 0, none⟩ = some (.int .i64 0) := (blk_cell BK162.out 0).trans rfl; have hcz81_1 : w78.cell? ⟨gb162, 1, none⟩ = some (.int .i64 0) := (blk_cell BK162.out 1).trans rfl; have hcz81_2 : w78.cell? ⟨gb162, 2, none⟩ = some (.slice none 0 0) := (blk_cell BK162.out 2).trans rfl; have hfz81_0 := blk_frozen BK162.out 0; have hfz81_1 := blk_frozen BK162.out 1; have hfz81_2 := blk_frozen BK162.out 2; obtain ⟨Ao82, co82, eo82⟩ := Kd.R_slice HO167.out; subst eo82; have hcz83_0 : w78.cell? ⟨gb158, 0, none⟩ = some (.slice none 0 0) := (blk_cell BK158.out 0).trans rfl; have hcz83_1 : w78.cell? ⟨gb158, 1, none⟩ = some (.bool x159001_1) := (blk_cell BK158.out 1).trans rfl; have hfz83_0 := blk_frozen BK158.out 0; have hfz83_1 := blk_frozen BK158.out 1)); try go_wp2_with (first | ((with_reducible refine gate_dst (N := 12) rfl ?_); (try (refine gate_guard (by rfl) ?_; dsimp only)); refine box_event ?hg (N := 12) ?hd (cs := #[.int .i64 0, .int .i64 0, .slice none 0 0]) (t := 42) ?hr ?_; (case hd => rfl); (case hg => rfl); (case hr => first | (go_simp; done) | (go_simp; rfl)); intro gb162 hg w77 hbox hb; have n0_ := Aside0.mk (Kd.S_below (Kd.S_elderB (by (with_reducible repeat (first | apply Kd.S_alloc | apply Kd.S_drewN | apply Kd.S_drew)); exact HO_161000.out) gb162 (Nat.le_of_eq hg.symm)) hb); have n1_ := Aside0.mk (blk_below (g := gb158) (o := .cells #[.slice none 0 0, .bool x159001_1] 37 (0, 0)) (by (with_reducible repeat (first | refine blk_drewN ?_ _ | refine blk_drew ?_ | refine blk_alloc ?_ _)); exact BK158.out) hb); have n2_ := Aside0.mk (blk_below (g := gb160) (o := .cells #[.slice Ao76 x161000_2.length co76, .bool x161001_2] 37 (0, 0)) (by (with_reducible repeat (first | refine blk_drewN ?_ _ | refine blk_drew ?_ | refine blk_alloc ?_ _)); exact BK160.out) hb); have n3_ := Aside0.mk (below_step (by repeat (first | (with_reducible first | exact HB.out | apply below_alloc | apply pw_below_drewN | apply below_drew1 | refine below_set ?_ GE158.out | refine below_set ?_ GE160.out) | exact HB.out)) hb); have n4_ := Aside0.mk (hbox); have n5_ := Aside0.mk ((by rw [hg]; exact (below_size (by repeat (first | (with_reducible first | exact HB.out | apply below_alloc | apply pw_below_drewN | apply below_drew1 | refine below_set ?_ GE158.out | refine below_set ?_ GE160.out) | exact HB.out))) : w.heap.size ≤ gb162)); have n6_ := Aside0.mk ((by rw [hg]; exact (below_size (by repeat (first | (with_reducible first | exact HB.out | apply below_alloc | apply pw_below_drewN | apply below_drew1 | refine below_set ?_ GE158.out | refine below_set ?_ GE160.out) | exact HB.out))) : w.heap.size ≤ gb162)); have n7_ := Aside0.mk ((by rw [hg]; exact Nat.ne_of_lt (blk_lt (g := gb158) (o := .cells #[.slice none 0 0, .bool x159001_1] 37 (0, 0)) (by (with_reducible repeat (first | refine blk_drewN ?_ _ | refine blk_drew ?_ | refine blk_alloc ?_ _)); exact BK158.out)) : gb158 ≠ gb162)); have n8_ := Aside0.mk ((by rw [hg]; exact Nat.ne_of_gt (blk_lt (g := gb158) (o := .cells #[.slice none 0 0, .bool x159001_1] 37 (0, 0)) (by (with_reducible repeat (first | refine blk_drewN ?_ _ | refine blk_drew ?_ | refine blk_alloc ?_ _)); exact BK158.out)) : gb162 ≠ gb158)); have n9_ := Aside0.mk ((by rw [hg]; exact Nat.ne_of_lt (blk_lt (g := gb160) (o := .cells #[.slice Ao76 x161000_2.length co76, .bool x161001_2] 37 (0, 0)) (by (with_reducible repeat (first | refine blk_drewN ?_ _ | refine blk_drew ?_ | refine blk_alloc ?_ _)); exact BK160.out)) : gb160 ≠ gb162)); have n10_ := Aside0.mk ((by rw [hg]; exact Nat.ne_of_gt (blk_lt (g := gb160) (o := .cells #[.slice Ao76 x161000_2.length co76, .bool x161001_2] 37 (0, 0)) (by (with_reducible repeat (first | refine blk_drewN ?_ _ | refine blk_drew ?_ | refine blk_alloc ?_ _)); exact BK160.out)) : gb162 ≠ gb160)); clear HO_161000; clear BK158; clear BK160; clear HB; have HO_161000 := n0_; have BK158 := n1_; have BK160 := n2_; have HB := n3_; have BK162 := n4_; have GW162 := n5_; have GE162 := n6_; have NB158_162 := n7_; have NB162_158 := n8_; have NB160_162 := n9_; have NB162_160 := n10_; clear n0_ n1_ n2_ n3_ n4_ n5_ n6_ n7_ n8_ n9_ n10_; clear hb hbox hg) | (go_at_call 32; (with_reducible refine (trans_one.calls kj32 _ _ l0 (wrap64 (x7_2 + 1)) x8_2 x9_2 t163 t164 t165 t168 t169 _ ?side1 ?side2 A53.out).mono ?_); (case side1 => repeat (first | exact (Kd.C_below HR0.out HB.out) | (with_reducible refine Kd.C_alloc ?_ _) | (with_reducible refine Kd.C_drewN ?_ _) | (with_reducible refine Kd.C_drew ?_))); (case side2 => exact HC0.out); rintro e w78 ⟨v166, rfl, ho0, hb⟩; have n0_ := Aside0.mk (Kd.S_elder' (by (with_reducible repeat (first | apply Kd.S_alloc | apply Kd.S_drewN | apply Kd.S_drew)); exact HO_161000.out) (Kd.R_base ho0) hb); have n1_ := Aside0.mk (Kd.R_lower ho0 (below_size (by repeat (first | (with_reducible first | exact HB.out | apply below_alloc | apply pw_below_drewN | apply below_drew1 | refine below_set ?_ GE158.out | refine below_set ?_ GE160.out | refine below_set ?_ GE162.out) | exact HB.out)))); have n2_ := Aside0.mk (blk_below (g := gb158) (o := .cells #[.slice none 0 0, .bool x159001_1] 37 (0, 0)) (by (with_reducible repeat (first | refine blk_drewN ?_ _ | refine blk_drew ?_ | refine blk_alloc ?_ _)); exact BK158.out) hb); have n3_ := Aside0.mk (blk_below (g := gb160) (o := .cells #[.slice Ao76 x161000_2.length co76, .bool x161001_2] 37 (0, 0)) (by (with_reducible repeat (first | refine blk_drewN ?_ _ | refine blk_drew ?_ | refine blk_alloc ?_ _)); exact BK160.out) hb); have n4_ := Aside0.mk (blk_below (g := gb162) (o := .cells #[.int .i64 0, .int .i64 0, .slice none 0 0] 42 (0, 0)) (by (with_reducible repeat (first | refine blk_drewN ?_ _ | refine blk_drew ?_ | refine blk_alloc ?_ _)); exact BK162.out) hb); have n5_ := Aside0.mk (below_step (by repeat (first | (with_reducible first | exact HB.out | apply below_alloc | apply pw_below_drewN | apply below_drew1 | refine below_set ?_ GE158.out | refine below_set ?_ GE160.out | refine below_set ?_ GE162.out) | exact HB.out)) hb); clear HO_161000; clear BK158; clear BK160; clear BK162; clear HB; have HO_161000 := n0_; have HO167 := n1_; have BK158 := n2_; have BK160 := n3_; have BK162 := n4_; have HB := n5_; clear n0_ n1_ n2_ n3_ n4_ n5_; (try clear hb); (try clear hb2); (try clear hk); (try clear hi); (try clear ho0); have hnb79 := NB162_158.out; have hnc79 := NB158_162.out; have hnb80 := NB162_160.out; have hnc80 := NB160_162.out; have hcz81_0 : w78.cell? ⟨gb162, 0, none⟩ = some (.int .i64 0) := (blk_cell BK162.out 0).trans rfl; have hcz81_1 : w78.cell? ⟨gb162, 1, none⟩ = some (.int .i64 0) := (blk_cell BK162.out 1).trans rfl; have hcz81_2 : w78.cell? ⟨gb162, 2, none⟩ = some (.slice none 0 0) := (blk_cell BK162.out 2).trans rfl; have hfz81_0 := blk_frozen BK162.out 0; have hfz81_1 := blk_frozen BK162.out 1; have hfz81_2 := blk_frozen BK162.out 2; obtain ⟨Ao82, co82, eo82⟩ := Kd.R_slice HO167.out; subst eo82; have hcz83_0 : w78.cell? ⟨gb158, 0, none⟩ = some (.slice none 0 0) := (blk_cell BK158.out 0).trans rfl; have hcz83_1 : w78.cell? ⟨gb158, 1, none⟩ = some (.bool x159001_1) := (blk_cell BK158.out 1).trans rfl; have hfz83_0 := blk_frozen BK158.out 0; have hfz83_1 := blk_frozen BK158.out 1)))
                                  try rw [Exit.noGoto_ret]
                                  refine bodyPost_ret (results_ctt rfl _ _ gb158 37 #[.slice none 0 0, .bool false] (0, 0) _ rfl (by (with_reducible repeat (first | refine blk_drewN ?_ _ | refine blk_drew ?_ | refine blk_alloc ?_ _)); refine blk_put (cs := #[.slice none 0 0, .bool x159001_1]) ?_ 1 _ rfl; (with_reducible repeat (first | refine blk_drewN ?_ _ | refine blk_drew ?_ | refine blk_alloc ?_ _)); refine blk_put (cs := #[.slice none 0 0, .bool x159001_1]) ?_ 0 _ rfl; (with_reducible repeat (first | refine blk_drewN ?_ _ | refine blk_drew ?_ | refine blk_alloc ?_ _)); refine blk_far ?_ NB158_162.out _; (with_reducible repeat (first | refine blk_drewN ?_ _ | refine blk_drew ?_ | refine blk_alloc ?_ _)); refine blk_far ?_ NB158_162.out _; (with_reducible repeat (first | refine blk_drewN ?_ _ | refine blk_drew ?_ | refine blk_alloc ?_ _)); refine blk_far ?_ NB158_162.out _; (with_reducible repeat (first | refine blk_drewN ?_ _ | refine blk_drew ?_ | refine blk_alloc ?_ _)); exact BK158.out) Tryz.underlying37 rfl (by kernel_rfl)) rfl ?_
                                  exact ⟨_, by first | rfl | (simp [errW_none, errW_some] <;> rfl) | (simp [*, errW_none, errW_some] <;> rfl), by first | exact Kd.S_nil _ _ _ _ _ | exact Kd.N_nil _ _ _ _ _ | exact Kd.V_nil _ _ _ _ _ | exact Kd.Q_nil _ _ _ _ _ | exact Kd.R_nil _ _ _ _ _, by repeat (first | (with_reducible first | exact HB.out | apply below_alloc | apply pw_below_drewN | apply below_drew1 | refine below_set ?_ GE158.out | refine below_set ?_ GE160.out | refine below_set ?_ GE162.out) | exact HB.out)⟩
              · rw [if_neg c13] at H
                exact absurd H (by simp)
            · rw [if_neg c12] at H
              have c12b0 : decide (x7_2 < (l0.length : Int)) = false := decide_eq_false c12
              clear c12
              by_cases c84 : x10_2 = 0
              · rw [if_pos c84] at H
                have c84b0 : (x10_2 == 0) = true := beq_iff_eq.mpr c84
                have c84b1 : (x10_2 != 0) = false := bne_eq_false_iff_eq.mpr c84
                clear c84
                simp only [Option.some.injEq, Prod.mk.injEq] at H
                obtain ⟨rfl, rfl, rfl, rfl⟩ := H
                have hnb85 := NB160_158.out
                have hnc85 := NB158_160.out
                have hcz86_0 : wr.cell? ⟨gb160, 0, none⟩ = some (u161000) := (blk_cell BK160.out 0).trans rfl
                have hcz86_1 : wr.cell? ⟨gb160, 1, none⟩ = some (.bool x161001_2) := (blk_cell BK160.out 1).trans rfl
                have hfz86_0 := blk_frozen BK160.out 0
                have hfz86_1 := blk_frozen BK160.out 1
                obtain ⟨Ao87, co87, eo87⟩ := Kd.S_slice HO_161000.out
                subst eo87
                have hcz88_0 : wr.cell? ⟨gb158, 0, none⟩ = some (.slice none 0 0) := (blk_cell BK158.out 0).trans rfl
                have hcz88_1 : wr.cell? ⟨gb158, 1, none⟩ = some (.bool x159001_1) := (blk_cell BK158.out 1).trans rfl
                have hfz88_0 := blk_frozen BK158.out 0
                have hfz88_1 := blk_frozen BK158.out 1
                go_wp2
                repeat (go_quiet (fail); try go_wp2)
                try rw [Exit.noGoto_ret]
                refine bodyPost_ret (results_ctt rfl _ _ gb158 37 #[.slice Ao87 x161000_2.length co87, .bool x161001_2] (0, 0) _ rfl (by (with_reducible repeat (first | refine blk_drewN ?_ _ | refine blk_drew ?_ | refine blk_alloc ?_ _)); refine blk_put (cs := #[.slice Ao87 x161000_2.length co87, .bool x159001_1]) ?_ 1 _ rfl; (with_reducible repeat (first | refine blk_drewN ?_ _ | refine blk_drew ?_ | refine blk_alloc ?_ _)); refine blk_put (cs := #[.slice none 0 0, .bool x159001_1]) ?_ 0 _ rfl; (with_reducible repeat (first | refine blk_drewN ?_ _ | refine blk_drew ?_ | refine blk_alloc ?_ _)); exact BK158.out) Tryz.underlying37 rfl (by kernel_rfl)) rfl ?_
                exact ⟨_, by first | rfl | (simp [errW_none, errW_some] <;> rfl) | (simp [*, errW_none, errW_some] <;> rfl), by (with_reducible repeat (first | apply Kd.S_alloc | apply Kd.S_drewN | apply Kd.S_drew)); exact Kd.S_mono (Kd.S_far (p := ⟨gb158, 1, none⟩) (Kd.S_far (p := ⟨gb158, 0, none⟩) (Kd.S_types HO_161000.out BK158.out (by decide)) (fun _ hk => hk.2) (.slice Ao87 x161000_2.length co87)) (fun _ hk => hk.2) (.bool x161001_2)) (fun _ hk => trivial), by repeat (first | (with_reducible first | exact HB.out | apply below_alloc | apply pw_below_drewN | apply below_drew1 | refine below_set ?_ GE158.out | refine below_set ?_ GE160.out) | exact HB.out)⟩
              · rw [if_neg c84] at H
                have c84b0 : (x10_2 == 0) = false := beq_eq_false_iff_ne.mpr c84
                have c84b1 : (x10_2 != 0) = true := bne_iff_ne.mpr c84
                simp only [Option.some.injEq, Prod.mk.injEq] at H
                obtain ⟨rfl, rfl, rfl, rfl⟩ := H
                have hnb89 := NB158_160.out
                have hnc89 := NB160_158.out
                have hcz90_0 : wr.cell? ⟨gb158, 0, none⟩ = some (.slice none 0 0) := (blk_cell BK158.out 0).trans rfl
                have hcz90_1 : wr.cell? ⟨gb158, 1, none⟩ = some (.bool x159001_1) := (blk_cell BK158.out 1).trans rfl
                have hfz90_0 := blk_frozen BK158.out 0
                have hfz90_1 := blk_frozen BK158.out 1
                go_wp2
                repeat (go_quiet (fail); try go_wp2)
                try rw [Exit.noGoto_ret]
                refine bodyPost_ret (results_ctt rfl _ _ gb158 37 #[.slice none 0 0, .bool false] (0, 0) _ rfl (by (with_reducible repeat (first | refine blk_drewN ?_ _ | refine blk_drew ?_ | refine blk_alloc ?_ _)); refine blk_put (cs := #[.slice none 0 0, .bool x159001_1]) ?_ 1 _ rfl; (with_reducible repeat (first | refine blk_drewN ?_ _ | refine blk_drew ?_ | refine blk_alloc ?_ _)); refine blk_put (cs := #[.slice none 0 0, .bool x159001_1]) ?_ 0 _ rfl; (with_reducible repeat (first | refine blk_drewN ?_ _ | refine blk_drew ?_ | refine blk_alloc ?_ _)); exact BK158.out) Tryz.underlying37 rfl (by kernel_rfl)) rfl ?_
                exact ⟨_, by first | rfl | (simp [errW_none, errW_some] <;> rfl) | (simp [*, errW_none, errW_some] <;> rfl), by first | exact Kd.S_nil _ _ _ _ _ | exact Kd.N_nil _ _ _ _ _ | exact Kd.V_nil _ _ _ _ _ | exact Kd.Q_nil _ _ _ _ _ | exact Kd.R_nil _ _ _ _ _, by repeat (first | (with_reducible first | exact HB.out | apply below_alloc | apply pw_below_drewN | apply below_drew1 | refine below_set ?_ GE158.out | refine below_set ?_ GE160.out) | exact HB.out)⟩

end Go.Proofs.YtbdknddgfmoipaaGreatDoor.QA
namespace Go.Proofs.YtbdknddgfmoipaaGreatDoor.QA
open Go.RowKit Go.Proofs.YtbdknddgfmoipaaGreatDoorW.PrintWords Go.Proofs.YtbdknddgfmoipaaGreatDoorW.PrintLast Go.Proofs.YtbdknddgfmoipaaGreatDoorW.PrintMore
set_option linter.unusedVariables false
set_option linter.unusedSimpArgs false
/-! ### what Decode says -/
def Byt (l : List Int) : Prop := ∀ x ∈ l, 0 ≤ x ∧ x < 256
theorem rd_nat {b : List Int} {i : Nat} (h : i < b.length) : rd b (i : Int) = b[i] := by simp [rd, List.getD_eq_getElem?_getD, List.getElem?_eq_getElem h]
theorem byt_rng {b : List Int} (h : Byt b) : Va.Rng b := by
  intro i hi
  rw [rd_nat hi]
  exact h _ (List.getElem_mem hi)
/-- bytes at a place, as places and as lists -/
theorem enc_at {b : List Int} {a x m : Nat} (h : a + m ≤ b.length) (he : ∀ j, j < m → rd b ((a + j : Nat) : Int) = Va.byt x m j) : b.drop a = Va.enc x m ++ b.drop (a + m) := by
  rw [← List.take_append_drop m (b.drop a), List.drop_drop]
  congr 1
  refine List.ext_getElem (by rw [List.length_take, List.length_drop, Va.enc_length]; omega) fun j h1 h2 => ?_
  rw [Va.enc_length] at h2
  have := he j h2
  rw [rd_nat (by omega), ← Va.enc_rd x m j h2, rd_nat (by rw [Va.enc_length]; omega)] at this
  simpa using this
theorem at_enc {b rest : List Int} {a x m : Nat} (h : b.drop a = Va.enc x m ++ rest) (j : Nat) (hj : j < m) : rd b ((a + j : Nat) : Int) = Va.byt x m j := by
  rw [← Va.enc_rd x m j hj]
  have h1 : (b.drop a)[j]? = (Va.enc x m)[j]? := by rw [h, List.getElem?_append_left (by rw [Va.enc_length]; omega)]
  rw [List.getElem?_drop] at h1
  unfold rd
  rw [Int.toNat_natCast, Int.toNat_natCast, List.getD_eq_getElem?_getD, List.getD_eq_getElem?_getD, h1]
theorem w64 {x : Int} (h : -9223372036854775808 ≤ x) (h' : x ≤ 9223372036854775807) : wrap64 x = x := by unfold wrap64; omega
/-- Get, out of what stands there -/
theorem get_back {b rest : List Int} (hb : Byt b) (hlen : b.length ≤ 281474976710656) {a u : Nat} (hu : u < 2 ^ 64) (h : b.drop a = en u ++ rest) {k : Nat} (hk : 12 ≤ k) :
    vary_Get.f k b (a : Int) = some ((u : Int), ((a + (en u).length : Nat) : Int), 0) := by
  obtain ⟨m, hm⟩ := Va.Cnt.exists u hu
  rw [en_eq hm] at h ⊢
  have hl := congrArg List.length h
  rw [List.length_drop, List.length_append, Va.enc_length] at hl
  have h1 := hm.1
  rw [Va.enc_length]
  exact Va.get_enc u m hu hm b (byt_rng hb) hlen a (by omega) (at_enc h) k hk
/-- Get: a number that stands there, or an error -/
theorem get_spec {b : List Int} (hb : Byt b) (hlen : b.length ≤ 281474976710656) {a : Nat} (ha : a ≤ b.length) :
    (∃ e : Int, e ≠ 0 ∧ ∀ k, 12 ≤ k → vary_Get.f k b (a : Int) = some (0, 0, e)) ∨
    (∃ u rest, u < 2 ^ 64 ∧ b.drop a = en u ++ rest ∧ ∀ k, 12 ≤ k → vary_Get.f k b (a : Int) = some ((u : Int), ((a + (en u).length : Nat) : Int), 0)) := by
  obtain ⟨n, hs, hg⟩ := Va.get_in b (byt_rng hb) hlen a ha
  by_cases h10 : n = 10
  · refine .inl ⟨4, by decide, fun k hk => ?_⟩
    rw [hg k hk]; unfold Va.getR; rw [if_pos h10]
  · by_cases hl : a + n = b.length
    · refine .inl ⟨5, by decide, fun k hk => ?_⟩
      rw [hg k hk]; unfold Va.getR; rw [if_neg h10, if_pos hl]
    · by_cases hc : (rd b ((a + n : Nat) : Int) = 0 ∧ 0 < n) ∨ (1 < rd b ((a + n : Nat) : Int) ∧ n = 9)
      · refine .inl ⟨4, by decide, fun k hk => ?_⟩
        rw [hg k hk]; unfold Va.getR; rw [if_neg h10, if_neg hl, if_pos hc]
      · obtain ⟨h1, h2, h3, h4, h5⟩ := Va.get_good b (byt_rng hb) a n hs h10 hl hc
        have h6 := enc_at (by omega) h5
        rw [← en_eq h4] at h6
        exact .inr ⟨_, _, h3, h6, fun k hk => get_back hb hlen h3 h6 hk⟩
theorem cut_mid {b x y z : List Int} {a : Nat} (h : b.drop a = x ++ (y ++ z)) : (b.take (a + x.length + y.length)).drop (a + x.length) = y := by
  rw [List.drop_take, ← List.drop_drop, h, List.drop_left, show a + x.length + y.length - (a + x.length) = y.length by omega, List.take_left]
/-- an event that stands there -/
theorem one_back {b data rest : List Int} (hb : Byt b) (hlen : b.length ≤ 281474976710656) {a u : Nat} (hu : u < 2 ^ 64) {last left : Int} (h : b.drop a = en u ++ (en data.length ++ (data ++ rest)))
    (h1 : data.length ≤ 65536) (h2 : (data.length : Int) ≤ left) (h3 : left ≤ 262144) {k : Nat} (hk : 12 ≤ k) :
    trans_one.f k b (a : Int) last left = some (0, wrap64 (last + ug u), data, ((a + (en u).length + (en data.length).length + data.length : Nat) : Int), 0) := by
  have hd := congrArg List.length h
  simp only [List.length_drop, List.length_append] at hd
  have e1 := en_len u hu
  have e2 := en_len data.length (by omega)
  have h' : b.drop (a + (en u).length) = en data.length ++ (data ++ rest) := by rw [← List.drop_drop, h, List.drop_left]
  unfold trans_one.f
  rw [get_back hb hlen hu h hk]
  simp only [Option.bind_some, if_true]
  rw [get_back hb hlen (by omega) h' hk]
  simp only [Option.bind_some, if_true]
  have hmn : ((data.length : Nat) : Int) ≤ mn left 65536 ∧ mn left 65536 ≤ 65536 := by unfold mn; split <;> omega
  rw [show IntKind.u64.wrap (mn left 65536) = mn left 65536 by rw [Va.wrapU64]; omega, if_neg (by omega), show wrap64 ((data.length : Nat) : Int) = (data.length : Int) from w64 (by omega) (by omega),
    show wrap64 ((b.length : Int) - ((a + (en u).length + (en data.length).length : Nat) : Int)) = (b.length : Int) - ((a + (en u).length + (en data.length).length : Nat) : Int) from w64 (by omega) (by omega), if_neg (by omega),
    show wrap64 (((a + (en u).length + (en data.length).length : Nat) : Int) + (data.length : Int)) = ((a + (en u).length + (en data.length).length + data.length : Nat) : Int) from (w64 (by omega) (by omega)).trans (by omega), zag_ug hu]
  simp only [Option.bind_some, clock_Add.f]
  rw [if_pos (by omega), if_pos (by omega), if_pos (by omega), Int.toNat_natCast, Int.toNat_natCast, cut_mid h']
  unfold bytes_Clone.f
  rw [if_pos (by omega)]
  rfl
/-- an event, or where it is wrong -/
theorem one_spec {b : List Int} (hb : Byt b) (hlen : b.length ≤ 281474976710656) {a : Nat} (ha : a ≤ b.length) {last left : Int} (h2 : 0 ≤ left) (h3 : left ≤ 262144) :
    (∃ (p : Nat) (e : Int), e ≠ 0 ∧ a ≤ p ∧ p ≤ b.length ∧ ∀ k, 12 ≤ k → trans_one.f k b (a : Int) last left = some (0, 0, [], (p : Int), e)) ∨
    (∃ u data rest, u < 2 ^ 64 ∧ b.drop a = en u ++ (en data.length ++ (data ++ rest)) ∧ data.length ≤ 65536 ∧ (data.length : Int) ≤ left) := by
  rcases get_spec hb hlen ha with ⟨e, he, hg⟩ | ⟨u, r1, hu, h1, hg⟩
  · refine .inl ⟨a, e, he, Nat.le_refl _, ha, fun k hk => ?_⟩
    unfold trans_one.f
    rw [hg k hk]
    simp only [Option.bind_some]
    rw [if_neg he]
  · have e1 := en_len u hu
    have hd := congrArg List.length h1
    simp only [List.length_drop, List.length_append] at hd
    have h' : b.drop (a + (en u).length) = r1 := by rw [← List.drop_drop, h1, List.drop_left]
    rcases get_spec hb hlen (show a + (en u).length ≤ b.length by omega) with ⟨e, he, hg2⟩ | ⟨n, r2, hn, h4, hg2⟩
    · refine .inl ⟨a + (en u).length, e, he, by omega, by omega, fun k hk => ?_⟩
      unfold trans_one.f
      rw [hg k hk]
      simp only [Option.bind_some, if_true]
      rw [hg2 k hk]
      simp only [Option.bind_some]
      rw [if_neg he]
    · have e2 := en_len n hn
      have hd2 := congrArg List.length h4
      simp only [List.length_drop, List.length_append] at hd2
      have hmn : mn left 65536 ≤ 65536 ∧ 0 ≤ mn left 65536 ∧ mn left 65536 ≤ left := by unfold mn; split <;> omega
      have w4 := Lib.hid (show IntKind.u64.wrap (mn left 65536) = mn left 65536 by rw [Va.wrapU64]; omega)
      have w2 := Lib.hid (show wrap64 ((b.length : Int) - ((a + (en u).length + (en n).length : Nat) : Int)) = (b.length : Int) - ((a + (en u).length + (en n).length : Nat) : Int) from w64 (by omega) (by omega))
      by_cases c1 : (n : Int) > mn left 65536
      · refine .inl ⟨a + (en u).length, 6, by decide, by omega, by omega, fun k hk => ?_⟩
        unfold trans_one.f
        rw [hg k hk]
        simp only [Option.bind_some, if_true]
        rw [hg2 k hk]
        simp only [Option.bind_some, if_true]
        rw [w4.out, if_pos c1]
      · have w1 := Lib.hid (show wrap64 ((n : Nat) : Int) = (n : Int) from w64 (by omega) (by omega))
        by_cases c2 : (n : Int) > (b.length : Int) - ((a + (en u).length + (en n).length : Nat) : Int)
        · refine .inl ⟨b.length, 5, by decide, by omega, by omega, fun k hk => ?_⟩
          unfold trans_one.f
          rw [hg k hk]
          simp only [Option.bind_some, if_true]
          rw [hg2 k hk]
          simp only [Option.bind_some, if_true]
          rw [w4.out, if_neg c1, w1.out, w2.out, if_pos c2]
        · have hr : (r2.take n).length = n := by rw [List.length_take]; omega
          refine .inr ⟨u, r2.take n, r2.drop n, hu, ?_, by omega, by omega⟩
          rw [hr, List.take_append_drop, ← h4, h', h1]
theorem drop_cons {b : List Int} {a : Nat} (h : a < b.length) : b.drop a = b[a] :: b.drop (a + 1) := List.drop_eq_getElem_cons h
/-- what the events of a row of bytes are -/
def Told (last : Int) (left : Int) (n : Nat) (s : List Int) (l : List S42) (f : Bool) : Prop :=
  s = evs last l ++ fin f ∧ (∀ x ∈ l, Ok1 x ∧ I64 x.f1) ∧ n + l.length ≤ 4096 ∧ (tot l : Int) ≤ left
theorem l1_end {b : List Int} {last left : Int} {acc : List S42} {f : Bool} {k : Nat} (hk : 1 ≤ k) : trans_Decode.l1 k b (b.length : Int) last left 0 acc f = some (acc, f, 0, 0) := by
  obtain ⟨k, rfl⟩ : ∃ m, k = m + 1 := ⟨k - 1, by omega⟩
  rw [trans_Decode.l1, if_neg (by omega), if_pos rfl]
theorem byte_range {b : List Int} (hb : Byt b) {a : Nat} (h : a < b.length) : 0 ≤ b[a] ∧ b[a] < 256 := hb _ (List.getElem_mem h)
/-- the round at a tag of an event -/
theorem l1_tag {b : List Int} (hb : Byt b) (hlen : b.length ≤ 281474976710656) {a : Nat} (h : a < b.length) (ht : b[a] = 1 ∨ b[a] = 2) {last left : Int} {acc : List S42} (ha : acc.length ≤ 4096) (k : Nat) :
    trans_Decode.l1 (k + 3) b (a : Int) last left 0 acc false = (if acc.length = 4096 then some ([], false, (a : Int), 10) else (trans_one.f k b ((a + 1 : Nat) : Int) last left).bind fun t => (if t.2.2.2.2 = 0 then trans_Decode.l1 k b t.2.2.2.1 t.2.1 (wrap64 (left - (t.2.2.1.length : Int))) t.2.2.2.2 (acc ++ [(⟨b[a] - 1, t.2.1, t.2.2.1⟩ : S42)]) false else some ([], false, t.2.2.2.1, t.2.2.2.2))) := by
  have hw : wrap64 ((a : Int) + 1) = ((a + 1 : Nat) : Int) := by unfold wrap64; omega
  have hw2 : wrap64 (wrap64 b[a] - 1) = b[a] - 1 := by unfold wrap64; omega
  rw [trans_Decode.l1, if_pos (by omega), if_pos (by omega), rd_nat h, if_neg (by omega), trans_Decode.j2, if_neg (by decide), if_neg (by omega)]
  have hj : trans_Decode.j3 (k + 1) b (a : Int) last left b[a] false acc false = (if acc.length = 4096 then some ([], false, (a : Int), 10) else (trans_one.f k b ((a + 1 : Nat) : Int) last left).bind fun t => (if t.2.2.2.2 = 0 then trans_Decode.l1 k b t.2.2.2.1 t.2.1 (wrap64 (left - (t.2.2.1.length : Int))) t.2.2.2.2 (acc ++ [(⟨b[a] - 1, t.2.1, t.2.2.1⟩ : S42)]) false else some ([], false, t.2.2.2.1, t.2.2.2.2))) := by
    rw [trans_Decode.j3, if_neg (by decide)]
    by_cases c : acc.length = 4096
    · rw [if_pos (by omega), if_neg (by decide), if_pos c]
    · rw [if_neg (by omega), if_neg c, hw, hw2]
      congr 1
      funext t
      by_cases c2 : t.2.2.2.2 = 0
      · rw [if_pos c2, if_pos c2, if_pos (by omega)]
      · rw [if_neg c2, if_neg c2]
  rcases ht with ht | ht
  · rw [if_pos ht, hj]
  · rw [if_neg (by omega), show (b[a] != 2) = false by rw [ht]; rfl, hj]
end Go.Proofs.YtbdknddgfmoipaaGreatDoor.QA
namespace Go.Proofs.YtbdknddgfmoipaaGreatDoor.QA
open Go.RowKit Go.Proofs.YtbdknddgfmoipaaGreatDoorW.PrintWords Go.Proofs.YtbdknddgfmoipaaGreatDoorW.PrintLast Go.Proofs.YtbdknddgfmoipaaGreatDoorW.PrintMore
set_option linter.unusedVariables false
set_option linter.unusedSimpArgs false
theorem ug_back {u : Nat} (h : u < 2 ^ 64) (last : Int) : wrap64 (wrap64 (last + ug u) - last) = ug u := by
  have := ug_i64 h
  unfold I64 at this
  unfold wrap64
  omega
theorem time_back {x last : Int} (h : I64 x) : wrap64 (last + wrap64 (x - last)) = x := by
  unfold I64 at h
  unfold wrap64
  omega
theorem l1_three {b : List Int} (hlen : b.length ≤ 281474976710656) {a : Nat} (h : a < b.length) (ht : b[a] = 3) {last left : Int} {acc : List S42} (k : Nat) :
    trans_Decode.l1 (k + 2) b (a : Int) last left 0 acc false = if a + 1 = b.length then some (acc, true, 0, 0) else some ([], false, ((a + 1 : Nat) : Int), 4) := by
  rw [trans_Decode.l1, if_pos (by omega), if_pos (by omega), rd_nat h, if_pos ht, trans_Decode.j2, show wrap64 ((a : Int) + 1) = ((a + 1 : Nat) : Int) from (w64 (by omega) (by omega)).trans (by omega)]
  by_cases c : a + 1 = b.length
  · rw [if_pos c, if_pos (by rw [c]; simp), if_pos rfl]
  · rw [if_neg c, if_neg (by simpa using (show ¬ ((a : Int) + 1 = (b.length : Int)) by omega)), if_pos ht, if_neg (by decide)]
theorem l1_other {b : List Int} {a : Nat} (h : a < b.length) (h3 : b[a] ≠ 3) (h1 : b[a] ≠ 1) (h2 : b[a] ≠ 2) {last left : Int} {acc : List S42} (k : Nat) :
    trans_Decode.l1 (k + 3) b (a : Int) last left 0 acc false = some ([], false, (a : Int), 4) := by
  rw [trans_Decode.l1, if_pos (by omega), if_pos (by omega), rd_nat h, if_neg h3, trans_Decode.j2, if_neg (by decide), if_neg h3, if_neg h1, show (b[a] != 2) = true by simpa using h2, trans_Decode.j3, if_pos rfl, if_neg (by decide)]
/-- Decode behind the magic: it tells events, or an error at a place -/
theorem dec_l1 {b : List Int} (hb : Byt b) (hlen : b.length ≤ 281474976710656) (d : Nat) : ∀ (a k : Nat) (last left : Int) (acc : List S42), a + d = b.length → 3 * d + 20 ≤ k → acc.length ≤ 4096 → 0 ≤ left → left ≤ 262144 →
    (∃ l f, Told last left acc.length (b.drop a) l f ∧ trans_Decode.l1 k b (a : Int) last left 0 acc false = some (acc ++ l, f, 0, 0)) ∨
    (∃ (p : Nat) (e : Int), e ≠ 0 ∧ p ≤ b.length ∧ trans_Decode.l1 k b (a : Int) last left 0 acc false = some ([], false, (p : Int), e)) := by
  induction d using Nat.strongRecOn with
  | _ d ih =>
  intro a k last left acc hd hk hacc h0 h1
  by_cases hend : d = 0
  · subst hend
    obtain rfl : a = b.length := by omega
    exact .inl ⟨[], false, ⟨by simp [evs, fin], by simp, by simpa using hacc, by simpa [tot] using h0⟩, by rw [l1_end (by omega)]; simp⟩
  have hlt : a < b.length := by omega
  by_cases h3 : b[a] = 3
  · obtain ⟨k, rfl⟩ : ∃ m, k = m + 2 := ⟨k - 2, by omega⟩
    rw [l1_three hlen hlt h3]
    by_cases c : a + 1 = b.length
    · refine .inl ⟨[], true, ⟨?_, by simp, by simpa using hacc, by simpa [tot] using h0⟩, by rw [if_pos c]; simp⟩
      rw [drop_cons hlt, h3, List.drop_of_length_le (by omega)]
      rfl
    · exact .inr ⟨a + 1, 4, by decide, by omega, if_neg c⟩
  obtain ⟨k, rfl⟩ : ∃ m, k = m + 3 := ⟨k - 3, by omega⟩
  by_cases ht : b[a] = 1 ∨ b[a] = 2
  · rw [l1_tag hb hlen hlt ht hacc]
    by_cases c : acc.length = 4096
    · exact .inr ⟨a, 10, by decide, by omega, by rw [if_pos c]⟩
    rw [if_neg c]
    rcases one_spec hb hlen (show a + 1 ≤ b.length by omega) (last := last) h0 h1 with ⟨p, e, he, hp1, hp2, hg⟩ | ⟨u, data, rest, hu, hdrop, hdl, hdl2⟩
    · rw [hg k (by omega)]
      simp only [Option.bind_some]
      rw [if_neg he]
      exact .inr ⟨p, e, he, hp2, rfl⟩
    · rw [one_back hb hlen hu hdrop hdl hdl2 h1 (by omega)]
      simp only [Option.bind_some, if_true]
      have e1 := en_len u hu
      have e2 := en_len data.length (by omega)
      have hl := congrArg List.length hdrop
      simp only [List.length_drop, List.length_append] at hl
      have hrest : rest = b.drop (a + 1 + (en u).length + (en data.length).length + data.length) := by
        rw [← List.drop_drop, ← List.drop_drop, ← List.drop_drop, hdrop, List.drop_left, List.drop_left, List.drop_left]
      rw [show wrap64 (left - (data.length : Int)) = left - (data.length : Int) from w64 (by omega) (by omega)]
      generalize hnx : a + 1 + (en u).length + (en data.length).length + data.length = next at hrest ⊢
      rcases ih (b.length - next) (by omega) next k (wrap64 (last + ug u)) (left - data.length) (acc ++ [(⟨b[a] - 1, wrap64 (last + ug u), data⟩ : S42)]) (by omega) (by omega) (by simp; omega) (by omega) (by omega) with ⟨l, f, ⟨hs, hok, hn, htt⟩, hr⟩ | ⟨p, e, he, hp, hr⟩
      · refine .inl ⟨⟨b[a] - 1, wrap64 (last + ug u), data⟩ :: l, f, ⟨?_, ?_, ?_, ?_⟩, by rw [hr]; simp⟩
        · rw [drop_cons hlt, hdrop, hrest, hs, evs, evb]
          simp only [ug_back hu, zg_ug]
          rw [show 1 + (b[a] - 1) = b[a] by omega]
          simp
        · intro x hx
          rcases List.mem_cons.1 hx with rfl | hx
          · exact ⟨⟨by show b[a] - 1 = 0 ∨ b[a] - 1 = 1; omega, hdl⟩, wrap_i64 _⟩
          · exact hok x hx
        · simp only [List.length_append, List.length_cons, List.length_nil] at hn ⊢
          omega
        · rw [tot_cons]
          simp only
          omega
      · exact .inr ⟨p, e, he, hp, hr⟩
  · exact .inr ⟨a, 4, by decide, by omega, l1_other hlt h3 (by omega) (by omega) k⟩
theorem tag_of {b s : List Int} {a : Nat} {last : Int} {x : S42} (h : b.drop a = evb last x ++ s) : ∃ h : a < b.length, b[a] = 1 + x.f0 ∧ b.drop (a + 1) = en (zg (wrap64 (x.f1 - last))) ++ (en x.f2.length ++ (x.f2 ++ s)) := by
  have hl := congrArg List.length h
  unfold evb at hl h
  simp only [List.length_drop, List.length_append, List.length_cons] at hl
  have hlt : a < b.length := by omega
  rw [drop_cons hlt] at h
  simp only [List.cons_append, List.append_assoc] at h
  injection h with h1 h2
  exact ⟨hlt, h1, h2⟩
/-- the round at an event that stands there whole -/
theorem l1_ev {b s : List Int} (hb : Byt b) (hlen : b.length ≤ 281474976710656) {a : Nat} {last left : Int} {acc : List S42} {x : S42} (h : b.drop a = evb last x ++ s) (hx : Ok1 x ∧ I64 x.f1) (hacc : acc.length < 4096) (h2 : (x.f2.length : Int) ≤ left) (h3 : left ≤ 262144) {k : Nat} (hk : 12 ≤ k) :
    b.drop (a + (evb last x).length) = s ∧ trans_Decode.l1 (k + 3) b (a : Int) last left 0 acc false = trans_Decode.l1 k b ((a + (evb last x).length : Nat) : Int) x.f1 (left - (x.f2.length : Int)) 0 (acc ++ [x]) false := by
  have hs : b.drop (a + (evb last x).length) = s := by rw [← List.drop_drop, h, List.drop_left]
  obtain ⟨hlt, ht, hd⟩ := tag_of h
  have hz := zg_lt (wrap_i64 (x.f1 - last))
  have e1 := en_len _ hz
  have e2 := en_len x.f2.length (by have := hx.1.2; omega)
  have hn := hx.1.2
  have hf := hx.1.1
  refine ⟨hs, ?_⟩
  rw [l1_tag hb hlen hlt (by omega) (by omega), if_neg (by omega), one_back hb hlen hz hd hx.1.2 h2 h3 hk]
  simp only [Option.bind_some, if_true]
  rw [ug_zg, time_back hx.2, show wrap64 (left - (x.f2.length : Int)) = left - (x.f2.length : Int) from w64 (by omega) (by omega), ht, show 1 + x.f0 - 1 = x.f0 by omega]
  congr 1
  unfold evb
  simp only [List.length_append, List.length_cons]
  omega
/-- Decode, out of what was encoded -/
theorem dec_back {b : List Int} (hb : Byt b) (hlen : b.length ≤ 281474976710656) (f : Bool) (l : List S42) : ∀ (a k : Nat) (last left : Int) (acc : List S42), b.drop a = evs last l ++ fin f → a ≤ b.length → 3 * l.length + 20 ≤ k → acc.length + l.length ≤ 4096 → (∀ x ∈ l, Ok1 x ∧ I64 x.f1) → (tot l : Int) ≤ left → left ≤ 262144 →
    trans_Decode.l1 k b (a : Int) last left 0 acc false = some (acc ++ l, f, 0, 0) := by
  induction l with
  | nil =>
    intro a k last left acc h ha hk _ _ _ _
    simp only [evs, List.nil_append] at h
    have hl := congrArg List.length h
    rw [List.length_drop] at hl
    cases f with
    | false =>
      obtain rfl : a = b.length := by simp [fin] at hl; omega
      rw [l1_end (by omega)]
      simp
    | true =>
      have hl' : b.length - a = 1 := hl
      have hlt : a < b.length := by omega
      obtain ⟨k, rfl⟩ : ∃ m, k = m + 2 := ⟨k - 2, by omega⟩
      have h3 : b[a] = 3 := by
        rw [drop_cons hlt] at h
        injection h
      rw [l1_three hlen hlt h3, if_pos (by omega)]
      simp
  | cons x r ih =>
    intro a k last left acc h ha hk hn hok ht h3
    rw [evs, List.append_assoc] at h
    rw [tot_cons] at ht
    simp only [List.length_cons] at hk hn
    obtain ⟨k, rfl⟩ : ∃ m, k = m + 3 := ⟨k - 3, by omega⟩
    obtain ⟨hs, hr⟩ := l1_ev (acc := acc) hb hlen h (hok x (List.mem_cons_self ..)) (by omega) (show (x.f2.length : Int) ≤ left by omega) h3 (show 12 ≤ k by omega)
    have hle : a + (evb last x).length ≤ b.length := by
      have hl := congrArg List.length h
      simp only [List.length_drop, List.length_append] at hl
      have := evb_len last x (hok x (List.mem_cons_self ..)).1.2
      omega
    rw [hr, ih _ k _ _ (acc ++ [x]) hs hle (by omega) (by rw [List.length_append, List.length_singleton]; omega) (fun y hy => hok y (List.mem_cons_of_mem _ hy)) (by omega) (by omega)]
    simp
theorem magic_bt (i : Nat) (h : i < 4) : bt (⟨#[67, 85, 69, 49]⟩ : ByteArray) (i : Int) = ([67, 85, 69, 49] : List Int)[i] := by
  match i, h with
  | 0, _ => rfl
  | 1, _ => rfl
  | 2, _ => rfl
  | 3, _ => rfl
/-- the magic's loop -/
theorem dec_l0 {b : List Int} (d : Nat) : ∀ (i k : Nat), i + d = 4 → d + 1 ≤ k → i ≤ b.length → b.take i = ([67, 85, 69, 49] : List Int).take i →
    (∃ r, b = [67, 85, 69, 49] ++ r ∧ trans_Decode.l0 k b (i : Int) = trans_Decode.l1 (k - d - 1) b 4 0 262144 0 [] false) ∨
    (∃ (p : Nat) (e : Int), e ≠ 0 ∧ p ≤ b.length ∧ (∀ r, b ≠ [67, 85, 69, 49] ++ r) ∧ (e = 5 ∧ p = b.length ∨ ∀ s, ¬ b <+: [67, 85, 69, 49] ++ s) ∧ trans_Decode.l0 k b (i : Int) = some ([], false, (p : Int), e)) := by
  induction d with
  | zero =>
    intro i k hi hk hle ht
    obtain rfl : i = 4 := by omega
    obtain ⟨k, rfl⟩ : ∃ m, k = m + 1 := ⟨k - 1, by omega⟩
    refine .inl ⟨b.drop 4, ?_, ?_⟩
    · conv => lhs; rw [← List.take_append_drop 4 b, ht]
      rfl
    · rw [trans_Decode.l0, if_neg (by omega)]
      rfl
  | succ d ih =>
    intro i k hi hk hle ht
    obtain ⟨k, rfl⟩ : ∃ m, k = m + 1 := ⟨k - 1, by omega⟩
    rw [trans_Decode.l0, if_pos (by omega)]
    by_cases c : i = b.length
    · refine .inr ⟨i, 5, by decide, hle, fun r hr => ?_, .inl ⟨rfl, c⟩, by rw [if_pos (by omega)]⟩
      have := congrArg List.length hr
      simp only [List.length_append, List.length_cons, List.length_nil] at this
      omega
    · have hlt : i < b.length := by omega
      rw [if_neg (by omega), if_pos (by omega), if_pos (by omega), rd_nat hlt, magic_bt i (by omega)]
      by_cases c2 : b[i] = ([67, 85, 69, 49] : List Int)[i]'(by show i < 4; omega)
      · rw [if_pos c2, show wrap64 ((i : Int) + 1) = ((i + 1 : Nat) : Int) from (w64 (by omega) (by omega)).trans (by omega)]
        have ht' : b.take (i + 1) = ([67, 85, 69, 49] : List Int).take (i + 1) := by
          rw [List.take_succ_eq_append_getElem hlt, List.take_succ_eq_append_getElem (show i < ([67, 85, 69, 49] : List Int).length by show i < 4; omega), ht, c2]
        rcases ih (i + 1) k (by omega) (by omega) (by omega) ht' with ⟨r, h1, h2⟩ | h
        · refine .inl ⟨r, h1, h2.trans ?_⟩
          rw [show k + 1 - (d + 1) - 1 = k - d - 1 by omega]
        · exact .inr h
      · have hno : ∀ s, ¬ b <+: ([67, 85, 69, 49] : List Int) ++ s := fun s hs => by
          apply c2
          have h1 := hs.getElem hlt
          rw [h1, List.getElem_append_left (show i < ([67, 85, 69, 49] : List Int).length by show i < 4; omega)]
        refine .inr ⟨i, 4, by decide, by omega, fun r hr => hno r (hr ▸ List.prefix_refl _), .inr hno, by rw [if_neg c2]⟩
theorem trn_eq (l : List S42) (f : Bool) : trn l f = [67, 85, 69, 49] ++ (evs 0 l ++ fin f) := rfl
/-- Decode: the transcript whose bytes these are, or an error at a place -/
theorem dec_spec {b : List Int} (hb : Byt b) (hlen : b.length ≤ 281474976710656) {k : Nat} (hk : 3 * b.length + 40 ≤ k) :
    (∃ l f, Good l ∧ (∀ x ∈ l, I64 x.f1) ∧ b = trn l f ∧ trans_Decode.f k b = some (l, f, 0, 0)) ∨
    (∃ (p : Nat) (e : Int), e ≠ 0 ∧ p ≤ b.length ∧ trans_Decode.f k b = some ([], false, (p : Int), e)) := by
  rcases dec_l0 (b := b) 4 0 k (by omega) (by omega) (by omega) rfl with ⟨r, hr, h⟩ | ⟨p, e, he, hp, _, _, h⟩
  · have hl := congrArg List.length hr
    simp only [List.length_append, List.length_cons, List.length_nil] at hl
    have hd : b.drop 4 = r := by rw [hr]; rfl
    rcases dec_l1 hb hlen r.length 4 (k - 4 - 1) 0 262144 [] (by omega) (by omega) (by simp) (by omega) (by omega) with ⟨l, f, ⟨h1, h2, h3, h4⟩, h5⟩ | ⟨p, e, he, hp, h5⟩
    · refine .inl ⟨l, f, ⟨by simpa using h3, fun x hx => (h2 x hx).1, by omega⟩, fun x hx => (h2 x hx).2, ?_, h.trans h5⟩
      rw [trn_eq, ← h1, hd]
      exact hr
    · exact .inr ⟨p, e, he, hp, h.trans h5⟩
  · exact .inr ⟨p, e, he, hp, h⟩
theorem byt_evb {last : Int} {x : S42} (h : Ok1 x) (hd : ∀ c ∈ x.f2, 0 ≤ c ∧ c < 256) : Byt (evb last x) := by
  intro c hc
  unfold evb at hc
  rcases List.mem_cons.1 hc with rfl | hc
  · have := h.1; omega
  · rcases List.mem_append.1 hc with hc | hc
    · exact en_rng _ c hc
    · rcases List.mem_append.1 hc with hc | hc
      · exact en_rng _ c hc
      · exact hd c hc
theorem byt_evs (l : List S42) : ∀ last, (∀ x ∈ l, Ok1 x) → (∀ x ∈ l, ∀ c ∈ x.f2, 0 ≤ c ∧ c < 256) → Byt (evs last l) := by
  induction l with
  | nil => intro _ _ _ c hc; cases hc
  | cons x r ih =>
    intro last h hd c hc
    rw [evs] at hc
    rcases List.mem_append.1 hc with hc | hc
    · exact byt_evb (h x (List.mem_cons_self ..)) (hd x (List.mem_cons_self ..)) c hc
    · exact ih x.f1 (fun y hy => h y (List.mem_cons_of_mem _ hy)) (fun y hy => hd y (List.mem_cons_of_mem _ hy)) c hc
theorem byt_trn {l : List S42} (h : ∀ x ∈ l, Ok1 x) (hd : ∀ x ∈ l, ∀ c ∈ x.f2, 0 ≤ c ∧ c < 256) (f : Bool) : Byt (trn l f) := by
  intro c hc
  rw [trn_eq] at hc
  rcases List.mem_append.1 hc with hc | hc
  · simp at hc; omega
  · rcases List.mem_append.1 hc with hc | hc
    · exact byt_evs l 0 h hd c hc
    · unfold fin at hc
      split at hc <;> simp at hc
      omega
/-- an event as it comes in -/
def In1 (x : S42) : Prop := I64 x.f1 ∧ ∀ c ∈ x.f2, 0 ≤ c ∧ c < 256
theorem dec_trn {l : List S42} (g : Good l) (hin : ∀ x ∈ l, In1 x) (f : Bool) {k : Nat} (hk : 3 * (trn l f).length + 40 ≤ k) : trans_Decode.f k (trn l f) = some (l, f, 0, 0) := by
  have hb := byt_trn g.2.1 (fun x hx => (hin x hx).2) f
  have hlen := trn_len g f
  rcases dec_l0 (b := trn l f) 4 0 k (by omega) (by omega) (by omega) rfl with ⟨r, hr, h⟩ | ⟨p, e, he, hp, hno, _⟩
  · have hd : (trn l f).drop 4 = evs 0 l ++ fin f := rfl
    have hel := g.1
    have e3 : ∀ (m : List S42) last, (∀ x ∈ m, Ok1 x) → 3 * m.length ≤ (evs last m).length := by
      intro m
      induction m with
      | nil => intro _ _; simp
      | cons x r ih =>
        intro last hm
        have h1 := (evb_len last x (hm x (List.mem_cons_self ..)).2).1
        have h2 := ih x.f1 (fun y hy => hm y (List.mem_cons_of_mem _ hy))
        rw [evs, List.length_append, List.length_cons]
        omega
    have h3 := e3 l 0 g.2.1
    have hl4 : (trn l f).length = 4 + ((evs 0 l).length + (fin f).length) := by
      rw [trn_eq]; simp only [List.length_append, List.length_cons, List.length_nil]
    exact h.trans (dec_back hb (by omega) f l 4 (k - 4 - 1) 0 262144 [] hd (by omega) (by omega) (by simpa using g.1) (fun x hx => ⟨g.2.1 x hx, (hin x hx).1⟩) (by have := g.2.2; omega) (by omega))
  · exact absurd (trn_eq l f) (hno _)
theorem small_of_good {l : List S42} (g : Good l) : small l := by
  have e : ∀ m : List S42, (m.map fun x => x.f2.length + 4).sum = tot m + 4 * m.length := by
    intro m
    induction m with
    | nil => simp [tot]
    | cons x r ih => rw [tot_cons, List.map_cons, List.sum_cons, ih, List.length_cons]; omega
  unfold small
  rw [e]
  have := g.1
  have := g.2.2
  omega
end Go.Proofs.YtbdknddgfmoipaaGreatDoor.QA
