-- Written for this claim by a program of this session's, out of Lean's own print of the program; Lean checks it.
import Derived.Test.YtjcaflhlilckgaaQAx0
import Derived.Test.YtjcaflhlilckgaaQAx18
namespace Go.Proofs.Ytjcaflhlilckgaa.QA
open Go.RowKit Go.Proofs.YtjcaflhlilckgaaW.PrintWords Go.Proofs.YtjcaflhlilckgaaW.PrintLast Go.Proofs.YtjcaflhlilckgaaW.PrintMore
attribute [local go_sem] max2_int min2_int max_two min_two max_three min_three max_four min_four   -- for this text's walks alone
set_option linter.unusedVariables false
set_option linter.unusedSimpArgs false

/-! ### turn_right: function 24 -/
def turn_right.l0 : Nat → List (S37) → List (S37) → Int → Int → Option ((List (S37)))
  | 0, _, _, _, _ => none
  | k + 1, x3, x6, x7, x8 => if x8 < x7 then (if 0 ≤ x8 then (if x8 < (x6.length : Int) then (if ((rd_T37 x6 x8).f0) = 0 then (if x3.length < 3518437208883 then (turn_right.l0 k (x3 ++ [(⟨(rd_T37 x6 x8).f0, (rd_T37 x6 x8).f1, (rd_T37 x6 x8).f2⟩ : S37)]) x6 x7 (wrap64 (x8 + 1))) else (none)) else (if ((rd_T37 x6 x8).f0) = 1 then (if x3.length < 3518437208883 then (turn_right.l0 k (x3 ++ [(⟨(rd_T37 x6 x8).f0, (rd_T37 x6 x8).f1, (rd_T37 x6 x8).f2⟩ : S37)]) x6 x7 (wrap64 (x8 + 1))) else (none)) else (turn_right.l0 k x3 x6 x7 (wrap64 (x8 + 1))))) else (none)) else (none)) else ((event_Merge.f k x3).bind fun t337 => (some t337))
def turn_right.f (k : Nat) (l0 : List (S37)) : Option ((List (S37))) := turn_right.l0 k ([] : List (S37)) l0 (l0.length : Int) 0
theorem turn_right.mono_l : ∀ k, (∀ y0 y1 y2 y3, LeO (turn_right.l0 k y0 y1 y2 y3) (turn_right.l0 (k + 1) y0 y1 y2 y3))
  | 0 => fun _ _ _ _ r h => by simp [turn_right.l0] at h
  | k + 1 => by
    have ih0 := turn_right.mono_l k
    · intro y0 y1 y2 y3
      unfold turn_right.l0
      repeat' first
      | (with_reducible exact ih0 _ _ _ _)
      | (with_reducible exact event_Merge.mono _ _)
      | (with_reducible exact LeO.refl _)
      | (with_reducible exact LeO.none _)
      | (with_reducible refine LeO.ite ?_ ?_)
      | (with_reducible refine LeO.bind ?_ (fun _ => ?_))
      | exact ih0 _ _ _ _
      | exact event_Merge.mono _ _
      | exact LeO.none _
      | refine LeO.ite ?_ ?_
      | refine LeO.bind ?_ (fun _ => ?_)
theorem turn_right.mono : ∀ a0 k, LeO (turn_right.f k a0) (turn_right.f (k + 1) a0) := by
  intro a0 k
  have ih0 := turn_right.mono_l k
  unfold turn_right.f
  repeat' first
      | (with_reducible exact ih0 _ _ _ _)
      | (with_reducible exact event_Merge.mono _ _)
      | (with_reducible exact LeO.refl _)
      | (with_reducible exact LeO.none _)
      | (with_reducible refine LeO.ite ?_ ?_)
      | (with_reducible refine LeO.bind ?_ (fun _ => ?_))
      | exact ih0 _ _ _ _
      | exact event_Merge.mono _ _
      | exact LeO.none _
      | refine LeO.ite ?_ ?_
      | refine LeO.bind ?_ (fun _ => ?_)
set_option maxHeartbeats 8000000 in
set_option maxRecDepth 100000 in
theorem turn_right.calls (k : Nat) (P0_ : Nat → Prop) (A0 : Option Addr) (c0 : Nat) (l0 : List (S37)) (r : List (S37)) (w : World) (hs0 : Kd.V k37 37 w w.heap.size (fun k_ => P0_ k_) (.slice A0 l0.length c0) l0) (h : turn_right.f k l0 = some r) :
    Calls Try.prog 24 #[.slice A0 l0.length c0] w fun e w' => ∃ v0_ : Value, e = .returned (v0_) ∧ Kd.S k37 37 w' w.heap.size (fun _ => True) v0_ r ∧ Below w.heap.size w w' := by
  have hu37 := Try.underlying37
  have HO0 := Aside0.mk (show Kd.V k37 37 w w.heap.size (fun k_ => (P0_ k_ ∨ w.heap.size ≤ k_)) (.slice A0 l0.length c0) l0 from Kd.V_mono hs0 (fun k_ hk => .inl hk))
  have HB := Aside0.mk (Below.refl w.heap.size w)
  have H : (turn_right.l0 k ([] : List (S37)) l0 (l0.length : Int) 0) = some r := h
  clear h
  have H' := Aside0.mk H
  clear H
  go_enter Try.func24, Try.ntmps24
  go_wp2
  go_loopg [3, 8] k (fun kq v3 v8 w' => ∃ (x3_1 : List (S37)) (x8_1 : Int), v8 = .int .i64 x8_1 ∧ Aside0 (turn_right.l0 kq x3_1 l0 (l0.length : Int) x8_1 = some r) ∧ Aside0 (kq ≤ k) ∧ Aside0 (Kd.N k37 37 w' w.heap.size (fun k_ => (P0_ k_ ∨ w.heap.size ≤ k_)) v3 x3_1) ∧ Aside0 (Kd.V k37 37 w' w.heap.size (fun k_ => (P0_ k_ ∨ w.heap.size ≤ k_) ∧ some k_ ≠ (v3 : Value).ownBlock) (.slice A0 l0.length c0) l0) ∧ Aside0 (Below w.heap.size w w'))
  case atStart => exact ⟨(([] : List (S37))), (0), (by first | rfl | (simp; done) | (simp [*]; done)), H', ⟨Nat.le_refl _⟩, ⟨by first | exact Kd.S_nil _ _ _ _ _ | exact Kd.N_nil _ _ _ _ _ | exact Kd.V_nil _ _ _ _ _ | exact Kd.Q_nil _ _ _ _ _ | exact Kd.R_nil _ _ _ _ _⟩, ⟨by (with_reducible repeat (first | apply Kd.V_alloc | apply Kd.V_drewN | apply Kd.V_drew)); exact Kd.V_mono HO0.out (fun _ hk => ⟨hk, (by simp [Value.ownBlock])⟩)⟩, ⟨by repeat (first | (with_reducible first | exact HB.out | apply below_alloc | apply pw_below_drewN | apply below_drew1) | exact HB.out)⟩⟩
  case round =>
    clear H'
    obtain ⟨x3_1, x8_1, rfl, HA, HK1, HO_3, HO_6, HB⟩ := hrel
    cases gk with
    | zero => exact absurd HA.out (by simp [turn_right.l0])
    | succ k1 =>
      have H := HA.out
      clear HA
      simp only [turn_right.l0] at H
      by_cases c2 : x8_1 < (l0.length : Int)
      · rw [if_pos c2] at H
        have c2b0 : decide (x8_1 < (l0.length : Int)) = true := decide_eq_true c2
        clear c2
        by_cases c3 : 0 ≤ x8_1
        · rw [if_pos c3] at H
          have c3b0 : decide (0 ≤ x8_1) = true := decide_eq_true c3
          clear c3
          by_cases c4 : x8_1 < (l0.length : Int)
          · rw [if_pos c4] at H
            have c4b0 : decide (x8_1 < (l0.length : Int)) = true := decide_eq_true c4
            clear c4
            by_cases c5 : ((rd_T37 l0 x8_1).f0) = 0
            · rw [if_pos c5] at H
              have c5b0 : (((rd_T37 l0 x8_1).f0) == 0) = true := beq_iff_eq.mpr c5
              have c5b1 : (((rd_T37 l0 x8_1).f0) != 0) = false := bne_eq_false_iff_eq.mpr c5
              clear c5
              by_cases c6 : x3_1.length < 3518437208883
              · rw [if_pos c6] at H
                have LMc6 := Aside0.mk c6
                clear c6
                obtain ⟨y331, hy331⟩ : ∃ y_ : List (S37), y_ = (x3_1 ++ [(⟨(rd_T37 l0 x8_1).f0, (rd_T37 l0 x8_1).f1, (rd_T37 l0 x8_1).f2⟩ : S37)]) := ⟨_, rfl⟩
                replace H : (turn_right.l0 k1 y331 l0 (l0.length : Int) (wrap64 (x8_1 + 1))) = some r := by first | (rw [hy331]; with_reducible exact H) | (have H2_ := (Option.bind_some _ _).symm.trans H; rw [hy331]; with_reducible exact H2_) | (have H2_ := (Option.bind_some _ _).symm.trans H; with_reducible exact H2_) | with_reducible exact H | (rw [hy331]; exact H) | exact H
                have Ny331 := Aside0.mk hy331
                clear hy331
                have H' := Aside0.mk H
                clear H
                have p329 : 0 ≤ (x8_1 : Int) := of_decide_eq_true (by first | (with_reducible assumption) | assumption)
                have q329 : x8_1 < (l0.length : Int) := of_decide_eq_true (by first | (with_reducible assumption) | assumption)
                obtain ⟨ad329, A329_2, c329_2, e329, hx329_0, hx329_1, hx329_2, hl329_2, hi329_2⟩ := at_T37 (Kd.V_reads' HO_6.out).2.2 x8_1 p329 q329
                cases e329
                obtain ⟨ce329, hce329, hMe329, hcc329⟩ := Kd.V_get HO_6.out z37 x8_1 p329 (by first | exact q329 | exact of_decide_eq_true (by first | (with_reducible assumption) | assumption) | (have e_ := (Kd.V_reads' HO_6.out).1; omega))
                obtain ⟨ua329_2, uc329_2, rfl, ul329_2, ge329_2⟩ := k37_openF hMe329
                have hv329_2 := hcc329 2 _ rfl
                rw [add_field _ _ 2 (by omega)] at hv329_2
                replace hv329_2 := Option.some.inj (hv329_2.symm.trans hx329_2)
                injection hv329_2 with hva_ hvn_ hvc_
                rw [hva_] at ge329_2
                rw [hvc_] at ul329_2
                have HL329_2 := Aside0.mk (show Kd.V (Kd.int .u8) 5 _ w.heap.size _ _ ((rd_T37 l0 x8_1).f2) from Kd.V_mk ul329_2 ge329_2)
                clear hva_ hvn_ hvc_ ge329_2 ul329_2
                clear hcc329 hce329
                have HR329_2 := Aside0.mk hi329_2
                have HC329_2 := Aside0.mk hl329_2
                clear hi329_2 hl329_2
                replace p329 := eq_true p329
                replace q329 := eq_true q329
                go_wp2_with (first | ((with_reducible refine gate_dst (N := 5) rfl ?_); refine box_event ?hg (N := 5) ?hd (cs := #[.int .i64 0, .int .i64 0, .slice none 0 0]) (t := 37) ?hr ?_; (case hd => rfl); (case hg => rfl); (case hr => first | (go_simp; done) | (go_simp; rfl)); intro gb330 hg w7 hbox hb; have n0_ := Aside0.mk (Kd.N_below (Kd.N_elderB (by (with_reducible repeat (first | apply Kd.N_alloc | apply Kd.N_drewN | apply Kd.N_drew)); exact HO_3.out) gb330 (Nat.le_of_eq hg.symm)) hb); have n1_ := Aside0.mk (Kd.V_below (Kd.V_elderB (by (with_reducible repeat (first | apply Kd.V_alloc | apply Kd.V_drewN | apply Kd.V_drew)); exact HO_6.out) gb330 (Nat.le_of_eq hg.symm)) hb); have n2_ := Aside0.mk (Kd.V_below (Kd.V_elderB (by (with_reducible repeat (first | apply Kd.V_alloc | apply Kd.V_drewN | apply Kd.V_drew)); exact HL329_2.out) gb330 (Nat.le_of_eq hg.symm)) hb); have n3_ := Aside0.mk (Kd.C_below (by repeat (first | (with_reducible exact HR329_2.out) | (with_reducible refine Kd.C_alloc ?_ _) | (with_reducible refine Kd.C_drewN ?_ _) | (with_reducible refine Kd.C_drew ?_) | exact HR329_2.out)) hb); have n4_ := Aside0.mk (below_step (by repeat (first | (with_reducible first | exact HB.out | apply below_alloc | apply pw_below_drewN | apply below_drew1) | exact HB.out)) hb); have n5_ := Aside0.mk (hbox); have n6_ := Aside0.mk ((by rw [hg]; exact (below_size (by repeat (first | (with_reducible first | exact HB.out | apply below_alloc | apply pw_below_drewN | apply below_drew1) | exact HB.out))) : w.heap.size ≤ gb330)); have n7_ := Aside0.mk ((by rw [hg]; exact (below_size (by repeat (first | (with_reducible first | exact HB.out | apply below_alloc | apply pw_below_drewN | apply below_drew1) | exact HB.out))) : w.heap.size ≤ gb330)); clear HO_3; clear HO_6; clear HL329_2; clear HR329_2; clear HB; have HO_3 := n0_; have HO_6 := n1_; have HL329_2 := n2_; have HR329_2 := n3_; have HB := n4_; have BK330 := n5_; have GW330 := n6_; have GE330 := n7_; clear n0_ n1_ n2_ n3_ n4_ n5_ n6_ n7_; clear hb hbox hg; have hcz8_0 : w7.cell? ⟨gb330, 0, none⟩ = some (.int .i64 0) := (blk_cell BK330.out 0).trans rfl; have hcz8_1 : w7.cell? ⟨gb330, 1, none⟩ = some (.int .i64 0) := (blk_cell BK330.out 1).trans rfl; have hcz8_2 : w7.cell? ⟨gb330, 2, none⟩ = some (.slice none 0 0) := (blk_cell BK330.out 2).trans rfl; have hfz8_0 := blk_frozen BK330.out 0; have hfz8_1 := blk_frozen BK330.out 1; have hfz8_2 := blk_frozen BK330.out 2) | ((with_reducible refine gate_store (t := 37) (p := 5) rfl ?_); refine store_event (t := 37) (p := 5) (v := ?vo_w9) (w1 := (((w7.setCell ⟨gb330, 0, none⟩ (.int .i64 ((rd_T37 l0 x8_1).f0))).setCell ⟨gb330, 1, none⟩ (.int .i64 ((rd_T37 l0 x8_1).f1))).setCell ⟨gb330, 2, none⟩ (.slice A329_2 ((rd_T37 l0 x8_1).f2).length c329_2))) ?hg ?ho ?hn ?hr ?_; (case ho => rfl); (case hg => rfl); (case hn => rfl); (case hr => first | (go_simp; done) | (go_simp; rfl)); intro w9 hw; have n0_ : Aside0 (Kd.N k37 37 w9 w.heap.size (fun k_ => (P0_ k_ ∨ w.heap.size ≤ k_) ∧ k_ ≠ gb330) u3 x3_1) := ⟨(by rw [hw]; exact (by (with_reducible repeat (first | apply Kd.N_alloc | apply Kd.N_drewN | apply Kd.N_drew)); exact Kd.N_mono (Kd.N_far (p := ⟨gb330, 2, none⟩) (Kd.N_far (p := ⟨gb330, 1, none⟩) (Kd.N_far (p := ⟨gb330, 0, none⟩) (Kd.N_mono HO_3.out (fun k_ hk => (⟨hk, hk.2⟩ : _ ∧ k_ ≠ gb330))) (fun _ hk => hk.2) (.int .i64 ((rd_T37 l0 x8_1).f0))) (fun _ hk => hk.2) (.int .i64 ((rd_T37 l0 x8_1).f1))) (fun _ hk => hk.2) (.slice A329_2 ((rd_T37 l0 x8_1).f2).length c329_2)) (fun _ hk => ⟨hk.1.1, hk.1.2⟩)))⟩; have n1_ : Aside0 (Kd.V k37 37 w9 w.heap.size (fun k_ => (P0_ k_ ∨ w.heap.size ≤ k_) ∧ some k_ ≠ (u3 : Value).ownBlock ∧ k_ ≠ gb330) (.slice (some ad329) l0.length c0) l0) := ⟨(by rw [hw]; exact (by (with_reducible repeat (first | apply Kd.V_alloc | apply Kd.V_drewN | apply Kd.V_drew)); exact Kd.V_mono (Kd.V_far (p := ⟨gb330, 2, none⟩) (Kd.V_far (p := ⟨gb330, 1, none⟩) (Kd.V_far (p := ⟨gb330, 0, none⟩) (Kd.V_mono HO_6.out (fun k_ hk => (⟨hk, hk.2⟩ : _ ∧ k_ ≠ gb330))) (fun _ hk => hk.2) (.int .i64 ((rd_T37 l0 x8_1).f0))) (fun _ hk => hk.2) (.int .i64 ((rd_T37 l0 x8_1).f1))) (fun _ hk => hk.2) (.slice A329_2 ((rd_T37 l0 x8_1).f2).length c329_2)) (fun _ hk => ⟨hk.1.1.1, ⟨hk.1.1.2, hk.1.2⟩⟩)))⟩; have n2_ : Aside0 (Kd.V (Kd.int .u8) 5 w9 w.heap.size (fun k_ => (P0_ k_ ∨ w.heap.size ≤ k_) ∧ some k_ ≠ (u3 : Value).ownBlock ∧ k_ ≠ gb330) (.slice A329_2 ((rd_T37 l0 x8_1).f2).length c329_2) ((rd_T37 l0 x8_1).f2)) := ⟨(by rw [hw]; exact (by (with_reducible repeat (first | apply Kd.V_alloc | apply Kd.V_drewN | apply Kd.V_drew)); exact Kd.V_mono (Kd.V_far (p := ⟨gb330, 2, none⟩) (Kd.V_far (p := ⟨gb330, 1, none⟩) (Kd.V_far (p := ⟨gb330, 0, none⟩) (Kd.V_mono HL329_2.out (fun k_ hk => (⟨hk, hk.2⟩ : _ ∧ k_ ≠ gb330))) (fun _ hk => hk.2) (.int .i64 ((rd_T37 l0 x8_1).f0))) (fun _ hk => hk.2) (.int .i64 ((rd_T37 l0 x8_1).f1))) (fun _ hk => hk.2) (.slice A329_2 ((rd_T37 l0 x8_1).f2).length c329_2)) (fun _ hk => ⟨hk.1.1.1, ⟨hk.1.1.2, hk.1.2⟩⟩)))⟩; have n3_ : Aside0 (w9.heap[gb330]? = some (.cells #[.int .i64 ((rd_T37 l0 x8_1).f0), .int .i64 ((rd_T37 l0 x8_1).f1), .slice A329_2 ((rd_T37 l0 x8_1).f2).length c329_2] 37 (0, 0))) := ⟨(by rw [hw]; exact (by (with_reducible repeat (first | refine blk_drewN ?_ _ | refine blk_drew ?_ | refine blk_alloc ?_ _)); refine blk_put (cs := #[.int .i64 ((rd_T37 l0 x8_1).f0), .int .i64 ((rd_T37 l0 x8_1).f1), .slice none 0 0]) ?_ 2 _ rfl; (with_reducible repeat (first | refine blk_drewN ?_ _ | refine blk_drew ?_ | refine blk_alloc ?_ _)); refine blk_put (cs := #[.int .i64 ((rd_T37 l0 x8_1).f0), .int .i64 0, .slice none 0 0]) ?_ 1 _ rfl; (with_reducible repeat (first | refine blk_drewN ?_ _ | refine blk_drew ?_ | refine blk_alloc ?_ _)); refine blk_put (cs := #[.int .i64 0, .int .i64 0, .slice none 0 0]) ?_ 0 _ rfl; (with_reducible repeat (first | refine blk_drewN ?_ _ | refine blk_drew ?_ | refine blk_alloc ?_ _)); exact BK330.out))⟩; have n4_ : Aside0 (Below w.heap.size w w9) := ⟨(by rw [hw]; exact (by repeat (first | (with_reducible first | exact HB.out | apply below_alloc | apply pw_below_drewN | apply below_drew1 | refine below_set ?_ GE330.out) | exact HB.out)))⟩; clear hw; clear HO_3; clear HO_6; clear HL329_2; clear BK330; clear HB; have HO_3 := n0_; have HO_6 := n1_; have HL329_2 := n2_; have BK330 := n3_; have HB := n4_; clear n0_ n1_ n2_ n3_ n4_; have hcz10_0 : w9.cell? ⟨gb330, 0, none⟩ = some (.int .i64 ((rd_T37 l0 x8_1).f0)) := (blk_cell BK330.out 0).trans rfl; have hcz10_1 : w9.cell? ⟨gb330, 1, none⟩ = some (.int .i64 ((rd_T37 l0 x8_1).f1)) := (blk_cell BK330.out 1).trans rfl; have hcz10_2 : w9.cell? ⟨gb330, 2, none⟩ = some (.slice A329_2 ((rd_T37 l0 x8_1).f2).length c329_2) := (blk_cell BK330.out 2).trans rfl; have hfz10_0 := blk_frozen BK330.out 0; have hfz10_1 := blk_frozen BK330.out 1; have hfz10_2 := blk_frozen BK330.out 2) | ((with_reducible refine gate_builtin (b := .append) (xs := #[.tmp 20, .tmp 22]) rfl ?_); at_builtin; refine Kd.N_append k37 (w0 := w) w.heap.size rfl (.tmp 20) (.tmp 22) 22 37 (.agg #[(.int .i64 0), (.int .i64 0), (.slice none 0 0)]) 40 rfl Try.underlying22 info37 rfl (by decide) (by omega) u3 x3_1 (⟨(rd_T37 l0 x8_1).f0, (rd_T37 l0 x8_1).f1, (rd_T37 l0 x8_1).f2⟩ : S37) [.int .i64 ((rd_T37 l0 x8_1).f0), .int .i64 ((rd_T37 l0 x8_1).f1), .slice A329_2 ((rd_T37 l0 x8_1).f2).length c329_2] (fun k_ => (P0_ k_ ∨ w.heap.size ≤ k_) ∧ k_ ≠ gb330) (fun k_ => ((fun k_ => (P0_ k_ ∨ w.heap.size ≤ k_) ∧ k_ ≠ gb330)) k_ ∧ some k_ ≠ (u3 : Value).ownBlock) rfl rfl ?aP (fun _ hk => hk) ?aF ?aO ?aB ?aS ?aL ?_; (case aP => exact (k37_mkF _ _ (⟨(rd_T37 l0 x8_1).f0, (rd_T37 l0 x8_1).f1, (rd_T37 l0 x8_1).f2⟩ : S37) (Kd.V_reads' (Kd.V_mono (ok' := (fun k_ => ((fun k_ => (P0_ k_ ∨ w.heap.size ≤ k_) ∧ k_ ≠ gb330)) k_ ∧ some k_ ≠ (u3 : Value).ownBlock)) (HL329_2.out) (fun k_ hk => ⟨⟨hk.1, hk.2.2⟩, hk.2.1⟩))).2.1 (Kd.V_F (Kd.V_mono (ok' := (fun k_ => ((fun k_ => (P0_ k_ ∨ w.heap.size ≤ k_) ∧ k_ ≠ gb330)) k_ ∧ some k_ ≠ (u3 : Value).ownBlock)) (HL329_2.out) (fun k_ hk => ⟨⟨hk.1, hk.2.2⟩, hk.2.1⟩))))); (case aB => exact (by repeat (first | (with_reducible first | exact HB.out | apply below_alloc | apply pw_below_drewN | apply below_drew1 | refine below_set ?_ GE330.out) | exact HB.out))); (case aF => exact (fun k_ hk => ⟨(.inr (Nat.le_trans (below_size (by repeat (first | (with_reducible first | exact HB.out | apply below_alloc | apply pw_below_drewN | apply below_drew1 | refine below_set ?_ GE330.out) | exact HB.out))) hk)), Kd.freshB (g := gb330) (o := .cells #[.int .i64 ((rd_T37 l0 x8_1).f0), .int .i64 ((rd_T37 l0 x8_1).f1), .slice A329_2 ((rd_T37 l0 x8_1).f2).length c329_2] 37 (0, 0)) (by (with_reducible repeat (first | refine blk_drewN ?_ _ | refine blk_drew ?_ | refine blk_alloc ?_ _)); exact BK330.out) k_ hk⟩)); (case aO => exact (by (with_reducible repeat (first | apply Kd.N_alloc | apply Kd.N_drewN | apply Kd.N_drew)); exact HO_3.out)); (case aS => exact (below_size (by repeat (first | (with_reducible first | exact HB.out | apply below_alloc | apply pw_below_drewN | apply below_drew1 | refine below_set ?_ GE330.out) | exact HB.out)))); (case aL => have := LMc6.out; omega); intro v332 w11 ho hb hg hat; rw [← Ny331.out] at ho; have n0_ := Aside0.mk (Kd.V_afterv (ok := (fun k_ => (P0_ k_ ∨ w.heap.size ≤ k_) ∧ k_ ≠ gb330)) (by (with_reducible repeat (first | apply Kd.V_alloc | apply Kd.V_drewN | apply Kd.V_drew)); exact Kd.V_mono HO_6.out (fun _ hk => ⟨⟨hk.1, hk.2.2⟩, hk.2.1⟩)) hg hat); have n1_ := Aside0.mk (Kd.V_afterv (ok := (fun k_ => (P0_ k_ ∨ w.heap.size ≤ k_) ∧ k_ ≠ gb330)) (by (with_reducible repeat (first | apply Kd.V_alloc | apply Kd.V_drewN | apply Kd.V_drew)); exact Kd.V_mono HL329_2.out (fun _ hk => ⟨⟨hk.1, hk.2.2⟩, hk.2.1⟩)) hg hat); have n2_ := Aside0.mk (blk_grown (g := gb330) (o := .cells #[.int .i64 ((rd_T37 l0 x8_1).f0), .int .i64 ((rd_T37 l0 x8_1).f1), .slice A329_2 ((rd_T37 l0 x8_1).f2).length c329_2] 37 (0, 0)) (by (with_reducible repeat (first | refine blk_drewN ?_ _ | refine blk_drew ?_ | refine blk_alloc ?_ _)); exact BK330.out) hg (Kd.N_away HO_3.out (fun _ hk => hk.2))); have n3_ := Aside0.mk (hb); have n4_ := Aside0.mk (ho); clear HO_6; clear HL329_2; clear BK330; clear HB; clear HO_3; have HO_6 := n0_; have HL329_2 := n1_; have BK330 := n2_; have HB := n3_; have HO333 := n4_; clear n0_ n1_ n2_ n3_ n4_; clear ho hb hg hat))
                go_roundg k1
                case measure => have := HK1.out; omega
                case rel => exact ⟨(y331), (wrap64 (x8_1 + 1)), (by first | rfl | (simp; done) | (simp [*]; done)), H', ⟨by have := HK1.out; omega⟩, ⟨by (with_reducible repeat (first | apply Kd.N_alloc | apply Kd.N_drewN | apply Kd.N_drew)); exact Kd.N_mono HO333.out (fun _ hk => hk.1)⟩, ⟨by (with_reducible repeat (first | apply Kd.V_alloc | apply Kd.V_drewN | apply Kd.V_drew)); exact Kd.V_mono HO_6.out (fun _ hk => ⟨hk.1.1, hk.2⟩)⟩, ⟨by repeat (first | (with_reducible first | exact HB.out | apply below_alloc | apply pw_below_drewN | apply below_drew1 | refine below_set ?_ GE330.out) | exact HB.out)⟩⟩
              · rw [if_neg c6] at H
                exact absurd H (by simp)
            · rw [if_neg c5] at H
              have c5b0 : (((rd_T37 l0 x8_1).f0) == 0) = false := beq_eq_false_iff_ne.mpr c5
              have c5b1 : (((rd_T37 l0 x8_1).f0) != 0) = true := bne_iff_ne.mpr c5
              by_cases c12 : ((rd_T37 l0 x8_1).f0) = 1
              · rw [if_pos c12] at H
                have c12b0 : (((rd_T37 l0 x8_1).f0) == 1) = true := beq_iff_eq.mpr c12
                have c12b1 : (((rd_T37 l0 x8_1).f0) != 1) = false := bne_eq_false_iff_eq.mpr c12
                clear c12
                by_cases c13 : x3_1.length < 3518437208883
                · rw [if_pos c13] at H
                  have LMc13 := Aside0.mk c13
                  clear c13
                  obtain ⟨y334, hy334⟩ : ∃ y_ : List (S37), y_ = (x3_1 ++ [(⟨(rd_T37 l0 x8_1).f0, (rd_T37 l0 x8_1).f1, (rd_T37 l0 x8_1).f2⟩ : S37)]) := ⟨_, rfl⟩
                  replace H : (turn_right.l0 k1 y334 l0 (l0.length : Int) (wrap64 (x8_1 + 1))) = some r := by first | (rw [hy334]; with_reducible exact H) | (have H2_ := (Option.bind_some _ _).symm.trans H; rw [hy334]; with_reducible exact H2_) | (have H2_ := (Option.bind_some _ _).symm.trans H; with_reducible exact H2_) | with_reducible exact H | (rw [hy334]; exact H) | exact H
                  have Ny334 := Aside0.mk hy334
                  clear hy334
                  have H' := Aside0.mk H
                  clear H
                  have p329 : 0 ≤ (x8_1 : Int) := of_decide_eq_true (by first | (with_reducible assumption) | assumption)
                  have q329 : x8_1 < (l0.length : Int) := of_decide_eq_true (by first | (with_reducible assumption) | assumption)
                  obtain ⟨ad329, A329_2, c329_2, e329, hx329_0, hx329_1, hx329_2, hl329_2, hi329_2⟩ := at_T37 (Kd.V_reads' HO_6.out).2.2 x8_1 p329 q329
                  cases e329
                  obtain ⟨ce329, hce329, hMe329, hcc329⟩ := Kd.V_get HO_6.out z37 x8_1 p329 (by first | exact q329 | exact of_decide_eq_true (by first | (with_reducible assumption) | assumption) | (have e_ := (Kd.V_reads' HO_6.out).1; omega))
                  obtain ⟨ua329_2, uc329_2, rfl, ul329_2, ge329_2⟩ := k37_openF hMe329
                  have hv329_2 := hcc329 2 _ rfl
                  rw [add_field _ _ 2 (by omega)] at hv329_2
                  replace hv329_2 := Option.some.inj (hv329_2.symm.trans hx329_2)
                  injection hv329_2 with hva_ hvn_ hvc_
                  rw [hva_] at ge329_2
                  rw [hvc_] at ul329_2
                  have HL329_2 := Aside0.mk (show Kd.V (Kd.int .u8) 5 _ w.heap.size _ _ ((rd_T37 l0 x8_1).f2) from Kd.V_mk ul329_2 ge329_2)
                  clear hva_ hvn_ hvc_ ge329_2 ul329_2
                  clear hcc329 hce329
                  have HR329_2 := Aside0.mk hi329_2
                  have HC329_2 := Aside0.mk hl329_2
                  clear hi329_2 hl329_2
                  replace p329 := eq_true p329
                  replace q329 := eq_true q329
                  go_wp2_with (first | ((with_reducible refine gate_dst (N := 5) rfl ?_); refine box_event ?hg (N := 5) ?hd (cs := #[.int .i64 0, .int .i64 0, .slice none 0 0]) (t := 37) ?hr ?_; (case hd => rfl); (case hg => rfl); (case hr => first | (go_simp; done) | (go_simp; rfl)); intro gb330 hg w14 hbox hb; have n0_ := Aside0.mk (Kd.N_below (Kd.N_elderB (by (with_reducible repeat (first | apply Kd.N_alloc | apply Kd.N_drewN | apply Kd.N_drew)); exact HO_3.out) gb330 (Nat.le_of_eq hg.symm)) hb); have n1_ := Aside0.mk (Kd.V_below (Kd.V_elderB (by (with_reducible repeat (first | apply Kd.V_alloc | apply Kd.V_drewN | apply Kd.V_drew)); exact HO_6.out) gb330 (Nat.le_of_eq hg.symm)) hb); have n2_ := Aside0.mk (Kd.V_below (Kd.V_elderB (by (with_reducible repeat (first | apply Kd.V_alloc | apply Kd.V_drewN | apply Kd.V_drew)); exact HL329_2.out) gb330 (Nat.le_of_eq hg.symm)) hb); have n3_ := Aside0.mk (Kd.C_below (by repeat (first | (with_reducible exact HR329_2.out) | (with_reducible refine Kd.C_alloc ?_ _) | (with_reducible refine Kd.C_drewN ?_ _) | (with_reducible refine Kd.C_drew ?_) | exact HR329_2.out)) hb); have n4_ := Aside0.mk (below_step (by repeat (first | (with_reducible first | exact HB.out | apply below_alloc | apply pw_below_drewN | apply below_drew1) | exact HB.out)) hb); have n5_ := Aside0.mk (hbox); have n6_ := Aside0.mk ((by rw [hg]; exact (below_size (by repeat (first | (with_reducible first | exact HB.out | apply below_alloc | apply pw_below_drewN | apply below_drew1) | exact HB.out))) : w.heap.size ≤ gb330)); have n7_ := Aside0.mk ((by rw [hg]; exact (below_size (by repeat (first | (with_reducible first | exact HB.out | apply below_alloc | apply pw_below_drewN | apply below_drew1) | exact HB.out))) : w.heap.size ≤ gb330)); clear HO_3; clear HO_6; clear HL329_2; clear HR329_2; clear HB; have HO_3 := n0_; have HO_6 := n1_; have HL329_2 := n2_; have HR329_2 := n3_; have HB := n4_; have BK330 := n5_; have GW330 := n6_; have GE330 := n7_; clear n0_ n1_ n2_ n3_ n4_ n5_ n6_ n7_; clear hb hbox hg; have hcz15_0 : w14.cell? ⟨gb330, 0, none⟩ = some (.int .i64 0) := (blk_cell BK330.out 0).trans rfl; have hcz15_1 : w14.cell? ⟨gb330, 1, none⟩ = some (.int .i64 0) := (blk_cell BK330.out 1).trans rfl; have hcz15_2 : w14.cell? ⟨gb330, 2, none⟩ = some (.slice none 0 0) := (blk_cell BK330.out 2).trans rfl; have hfz15_0 := blk_frozen BK330.out 0; have hfz15_1 := blk_frozen BK330.out 1; have hfz15_2 := blk_frozen BK330.out 2) | ((with_reducible refine gate_store (t := 37) (p := 5) rfl ?_); refine store_event (t := 37) (p := 5) (v := ?vo_w16) (w1 := (((w14.setCell ⟨gb330, 0, none⟩ (.int .i64 ((rd_T37 l0 x8_1).f0))).setCell ⟨gb330, 1, none⟩ (.int .i64 ((rd_T37 l0 x8_1).f1))).setCell ⟨gb330, 2, none⟩ (.slice A329_2 ((rd_T37 l0 x8_1).f2).length c329_2))) ?hg ?ho ?hn ?hr ?_; (case ho => rfl); (case hg => rfl); (case hn => rfl); (case hr => first | (go_simp; done) | (go_simp; rfl)); intro w16 hw; have n0_ : Aside0 (Kd.N k37 37 w16 w.heap.size (fun k_ => (P0_ k_ ∨ w.heap.size ≤ k_) ∧ k_ ≠ gb330) u3 x3_1) := ⟨(by rw [hw]; exact (by (with_reducible repeat (first | apply Kd.N_alloc | apply Kd.N_drewN | apply Kd.N_drew)); exact Kd.N_mono (Kd.N_far (p := ⟨gb330, 2, none⟩) (Kd.N_far (p := ⟨gb330, 1, none⟩) (Kd.N_far (p := ⟨gb330, 0, none⟩) (Kd.N_mono HO_3.out (fun k_ hk => (⟨hk, hk.2⟩ : _ ∧ k_ ≠ gb330))) (fun _ hk => hk.2) (.int .i64 ((rd_T37 l0 x8_1).f0))) (fun _ hk => hk.2) (.int .i64 ((rd_T37 l0 x8_1).f1))) (fun _ hk => hk.2) (.slice A329_2 ((rd_T37 l0 x8_1).f2).length c329_2)) (fun _ hk => ⟨hk.1.1, hk.1.2⟩)))⟩; have n1_ : Aside0 (Kd.V k37 37 w16 w.heap.size (fun k_ => (P0_ k_ ∨ w.heap.size ≤ k_) ∧ some k_ ≠ (u3 : Value).ownBlock ∧ k_ ≠ gb330) (.slice (some ad329) l0.length c0) l0) := ⟨(by rw [hw]; exact (by (with_reducible repeat (first | apply Kd.V_alloc | apply Kd.V_drewN | apply Kd.V_drew)); exact Kd.V_mono (Kd.V_far (p := ⟨gb330, 2, none⟩) (Kd.V_far (p := ⟨gb330, 1, none⟩) (Kd.V_far (p := ⟨gb330, 0, none⟩) (Kd.V_mono HO_6.out (fun k_ hk => (⟨hk, hk.2⟩ : _ ∧ k_ ≠ gb330))) (fun _ hk => hk.2) (.int .i64 ((rd_T37 l0 x8_1).f0))) (fun _ hk => hk.2) (.int .i64 ((rd_T37 l0 x8_1).f1))) (fun _ hk => hk.2) (.slice A329_2 ((rd_T37 l0 x8_1).f2).length c329_2)) (fun _ hk => ⟨hk.1.1.1, ⟨hk.1.1.2, hk.1.2⟩⟩)))⟩; have n2_ : Aside0 (Kd.V (Kd.int .u8) 5 w16 w.heap.size (fun k_ => (P0_ k_ ∨ w.heap.size ≤ k_) ∧ some k_ ≠ (u3 : Value).ownBlock ∧ k_ ≠ gb330) (.slice A329_2 ((rd_T37 l0 x8_1).f2).length c329_2) ((rd_T37 l0 x8_1).f2)) := ⟨(by rw [hw]; exact (by (with_reducible repeat (first | apply Kd.V_alloc | apply Kd.V_drewN | apply Kd.V_drew)); exact Kd.V_mono (Kd.V_far (p := ⟨gb330, 2, none⟩) (Kd.V_far (p := ⟨gb330, 1, none⟩) (Kd.V_far (p := ⟨gb330, 0, none⟩) (Kd.V_mono HL329_2.out (fun k_ hk => (⟨hk, hk.2⟩ : _ ∧ k_ ≠ gb330))) (fun _ hk => hk.2) (.int .i64 ((rd_T37 l0 x8_1).f0))) (fun _ hk => hk.2) (.int .i64 ((rd_T37 l0 x8_1).f1))) (fun _ hk => hk.2) (.slice A329_2 ((rd_T37 l0 x8_1).f2).length c329_2)) (fun _ hk => ⟨hk.1.1.1, ⟨hk.1.1.2, hk.1.2⟩⟩)))⟩; have n3_ : Aside0 (w16.heap[gb330]? = some (.cells #[.int .i64 ((rd_T37 l0 x8_1).f0), .int .i64 ((rd_T37 l0 x8_1).f1), .slice A329_2 ((rd_T37 l0 x8_1).f2).length c329_2] 37 (0, 0))) := ⟨(by rw [hw]; exact (by (with_reducible repeat (first | refine blk_drewN ?_ _ | refine blk_drew ?_ | refine blk_alloc ?_ _)); refine blk_put (cs := #[.int .i64 ((rd_T37 l0 x8_1).f0), .int .i64 ((rd_T37 l0 x8_1).f1), .slice none 0 0]) ?_ 2 _ rfl; (with_reducible repeat (first | refine blk_drewN ?_ _ | refine blk_drew ?_ | refine blk_alloc ?_ _)); refine blk_put (cs := #[.int .i64 ((rd_T37 l0 x8_1).f0), .int .i64 0, .slice none 0 0]) ?_ 1 _ rfl; (with_reducible repeat (first | refine blk_drewN ?_ _ | refine blk_drew ?_ | refine blk_alloc ?_ _)); refine blk_put (cs := #[.int .i64 0, .int .i64 0, .slice none 0 0]) ?_ 0 _ rfl; (with_reducible repeat (first | refine blk_drewN ?_ _ | refine blk_drew ?_ | refine blk_alloc ?_ _)); exact BK330.out))⟩; have n4_ : Aside0 (Below w.heap.size w w16) := ⟨(by rw [hw]; exact (by repeat (first | (with_reducible first | exact HB.out | apply below_alloc | apply pw_below_drewN | apply below_drew1 | refine below_set ?_ GE330.out) | exact HB.out)))⟩; clear hw; clear HO_3; clear HO_6; clear HL329_2; clear BK330; clear HB; have HO_3 := n0_; have HO_6 := n1_; have HL329_2 := n2_; have BK330 := n3_; have HB := n4_; clear n0_ n1_ n2_ n3_ n4_; have hcz17_0 : w16.cell? ⟨gb330, 0, none⟩ = some (.int .i64 ((rd_T37 l0 x8_1).f0)) := (blk_cell BK330.out 0).trans rfl; have hcz17_1 : w16.cell? ⟨gb330, 1, none⟩ = some (.int .i64 ((rd_T37 l0 x8_1).f1)) := (blk_cell BK330.out 1).trans rfl; have hcz17_2 : w16.cell? ⟨gb330, 2, none⟩ = some (.slice A329_2 ((rd_T37 l0 x8_1).f2).length c329_2) := (blk_cell BK330.out 2).trans rfl; have hfz17_0 := blk_frozen BK330.out 0; have hfz17_1 := blk_frozen BK330.out 1; have hfz17_2 := blk_frozen BK330.out 2) | ((with_reducible refine gate_builtin (b := .append) (xs := #[.tmp 20, .tmp 22]) rfl ?_); at_builtin; refine Kd.N_append k37 (w0 := w) w.heap.size rfl (.tmp 20) (.tmp 22) 22 37 (.agg #[(.int .i64 0), (.int .i64 0), (.slice none 0 0)]) 40 rfl Try.underlying22 info37 rfl (by decide) (by omega) u3 x3_1 (⟨(rd_T37 l0 x8_1).f0, (rd_T37 l0 x8_1).f1, (rd_T37 l0 x8_1).f2⟩ : S37) [.int .i64 ((rd_T37 l0 x8_1).f0), .int .i64 ((rd_T37 l0 x8_1).f1), .slice A329_2 ((rd_T37 l0 x8_1).f2).length c329_2] (fun k_ => (P0_ k_ ∨ w.heap.size ≤ k_) ∧ k_ ≠ gb330) (fun k_ => ((fun k_ => (P0_ k_ ∨ w.heap.size ≤ k_) ∧ k_ ≠ gb330)) k_ ∧ some k_ ≠ (u3 : Value).ownBlock) rfl rfl ?aP (fun _ hk => hk) ?aF ?aO ?aB ?aS ?aL ?_; (case aP => exact (k37_mkF _ _ (⟨(rd_T37 l0 x8_1).f0, (rd_T37 l0 x8_1).f1, (rd_T37 l0 x8_1).f2⟩ : S37) (Kd.V_reads' (Kd.V_mono (ok' := (fun k_ => ((fun k_ => (P0_ k_ ∨ w.heap.size ≤ k_) ∧ k_ ≠ gb330)) k_ ∧ some k_ ≠ (u3 : Value).ownBlock)) (HL329_2.out) (fun k_ hk => ⟨⟨hk.1, hk.2.2⟩, hk.2.1⟩))).2.1 (Kd.V_F (Kd.V_mono (ok' := (fun k_ => ((fun k_ => (P0_ k_ ∨ w.heap.size ≤ k_) ∧ k_ ≠ gb330)) k_ ∧ some k_ ≠ (u3 : Value).ownBlock)) (HL329_2.out) (fun k_ hk => ⟨⟨hk.1, hk.2.2⟩, hk.2.1⟩))))); (case aB => exact (by repeat (first | (with_reducible first | exact HB.out | apply below_alloc | apply pw_below_drewN | apply below_drew1 | refine below_set ?_ GE330.out) | exact HB.out))); (case aF => exact (fun k_ hk => ⟨(.inr (Nat.le_trans (below_size (by repeat (first | (with_reducible first | exact HB.out | apply below_alloc | apply pw_below_drewN | apply below_drew1 | refine below_set ?_ GE330.out) | exact HB.out))) hk)), Kd.freshB (g := gb330) (o := .cells #[.int .i64 ((rd_T37 l0 x8_1).f0), .int .i64 ((rd_T37 l0 x8_1).f1), .slice A329_2 ((rd_T37 l0 x8_1).f2).length c329_2] 37 (0, 0)) (by (with_reducible repeat (first | refine blk_drewN ?_ _ | refine blk_drew ?_ | refine blk_alloc ?_ _)); exact BK330.out) k_ hk⟩)); (case aO => exact (by (with_reducible repeat (first | apply Kd.N_alloc | apply Kd.N_drewN | apply Kd.N_drew)); exact HO_3.out)); (case aS => exact (below_size (by repeat (first | (with_reducible first | exact HB.out | apply below_alloc | apply pw_below_drewN | apply below_drew1 | refine below_set ?_ GE330.out) | exact HB.out)))); (case aL => have := LMc13.out; omega); intro v335 w18 ho hb hg hat; rw [← Ny334.out] at ho; have n0_ := Aside0.mk (Kd.V_afterv (ok := (fun k_ => (P0_ k_ ∨ w.heap.size ≤ k_) ∧ k_ ≠ gb330)) (by (with_reducible repeat (first | apply Kd.V_alloc | apply Kd.V_drewN | apply Kd.V_drew)); exact Kd.V_mono HO_6.out (fun _ hk => ⟨⟨hk.1, hk.2.2⟩, hk.2.1⟩)) hg hat); have n1_ := Aside0.mk (Kd.V_afterv (ok := (fun k_ => (P0_ k_ ∨ w.heap.size ≤ k_) ∧ k_ ≠ gb330)) (by (with_reducible repeat (first | apply Kd.V_alloc | apply Kd.V_drewN | apply Kd.V_drew)); exact Kd.V_mono HL329_2.out (fun _ hk => ⟨⟨hk.1, hk.2.2⟩, hk.2.1⟩)) hg hat); have n2_ := Aside0.mk (blk_grown (g := gb330) (o := .cells #[.int .i64 ((rd_T37 l0 x8_1).f0), .int .i64 ((rd_T37 l0 x8_1).f1), .slice A329_2 ((rd_T37 l0 x8_1).f2).length c329_2] 37 (0, 0)) (by (with_reducible repeat (first | refine blk_drewN ?_ _ | refine blk_drew ?_ | refine blk_alloc ?_ _)); exact BK330.out) hg (Kd.N_away HO_3.out (fun _ hk => hk.2))); have n3_ := Aside0.mk (hb); have n4_ := Aside0.mk (ho); clear HO_6; clear HL329_2; clear BK330; clear HB; clear HO_3; have HO_6 := n0_; have HL329_2 := n1_; have BK330 := n2_; have HB := n3_; have HO336 := n4_; clear n0_ n1_ n2_ n3_ n4_; clear ho hb hg hat))
                  go_roundg k1
                  case measure => have := HK1.out; omega
                  case rel => exact ⟨(y334), (wrap64 (x8_1 + 1)), (by first | rfl | (simp; done) | (simp [*]; done)), H', ⟨by have := HK1.out; omega⟩, ⟨by (with_reducible repeat (first | apply Kd.N_alloc | apply Kd.N_drewN | apply Kd.N_drew)); exact Kd.N_mono HO336.out (fun _ hk => hk.1)⟩, ⟨by (with_reducible repeat (first | apply Kd.V_alloc | apply Kd.V_drewN | apply Kd.V_drew)); exact Kd.V_mono HO_6.out (fun _ hk => ⟨hk.1.1, hk.2⟩)⟩, ⟨by repeat (first | (with_reducible first | exact HB.out | apply below_alloc | apply pw_below_drewN | apply below_drew1 | refine below_set ?_ GE330.out) | exact HB.out)⟩⟩
                · rw [if_neg c13] at H
                  exact absurd H (by simp)
              · rw [if_neg c12] at H
                have c12b0 : (((rd_T37 l0 x8_1).f0) == 1) = false := beq_eq_false_iff_ne.mpr c12
                have c12b1 : (((rd_T37 l0 x8_1).f0) != 1) = true := bne_iff_ne.mpr c12
                have H' := Aside0.mk H
                clear H
                have p329 : 0 ≤ (x8_1 : Int) := of_decide_eq_true (by first | (with_reducible assumption) | assumption)
                have q329 : x8_1 < (l0.length : Int) := of_decide_eq_true (by first | (with_reducible assumption) | assumption)
                obtain ⟨ad329, A329_2, c329_2, e329, hx329_0, hx329_1, hx329_2, hl329_2, hi329_2⟩ := at_T37 (Kd.V_reads' HO_6.out).2.2 x8_1 p329 q329
                cases e329
                obtain ⟨ce329, hce329, hMe329, hcc329⟩ := Kd.V_get HO_6.out z37 x8_1 p329 (by first | exact q329 | exact of_decide_eq_true (by first | (with_reducible assumption) | assumption) | (have e_ := (Kd.V_reads' HO_6.out).1; omega))
                obtain ⟨ua329_2, uc329_2, rfl, ul329_2, ge329_2⟩ := k37_openF hMe329
                have hv329_2 := hcc329 2 _ rfl
                rw [add_field _ _ 2 (by omega)] at hv329_2
                replace hv329_2 := Option.some.inj (hv329_2.symm.trans hx329_2)
                injection hv329_2 with hva_ hvn_ hvc_
                rw [hva_] at ge329_2
                rw [hvc_] at ul329_2
                have HL329_2 := Aside0.mk (show Kd.V (Kd.int .u8) 5 _ w.heap.size _ _ ((rd_T37 l0 x8_1).f2) from Kd.V_mk ul329_2 ge329_2)
                clear hva_ hvn_ hvc_ ge329_2 ul329_2
                clear hcc329 hce329
                have HR329_2 := Aside0.mk hi329_2
                have HC329_2 := Aside0.mk hl329_2
                clear hi329_2 hl329_2
                replace p329 := eq_true p329
                replace q329 := eq_true q329
                go_wp2_with (first | ((with_reducible refine gate_dst (N := 5) rfl ?_); refine box_event ?hg (N := 5) ?hd (cs := #[.int .i64 0, .int .i64 0, .slice none 0 0]) (t := 37) ?hr ?_; (case hd => rfl); (case hg => rfl); (case hr => first | (go_simp; done) | (go_simp; rfl)); intro gb330 hg w19 hbox hb; have n0_ := Aside0.mk (Kd.N_below (Kd.N_elderB (by (with_reducible repeat (first | apply Kd.N_alloc | apply Kd.N_drewN | apply Kd.N_drew)); exact HO_3.out) gb330 (Nat.le_of_eq hg.symm)) hb); have n1_ := Aside0.mk (Kd.V_below (Kd.V_elderB (by (with_reducible repeat (first | apply Kd.V_alloc | apply Kd.V_drewN | apply Kd.V_drew)); exact HO_6.out) gb330 (Nat.le_of_eq hg.symm)) hb); have n2_ := Aside0.mk (Kd.V_below (Kd.V_elderB (by (with_reducible repeat (first | apply Kd.V_alloc | apply Kd.V_drewN | apply Kd.V_drew)); exact HL329_2.out) gb330 (Nat.le_of_eq hg.symm)) hb); have n3_ := Aside0.mk (Kd.C_below (by repeat (first | (with_reducible exact HR329_2.out) | (with_reducible refine Kd.C_alloc ?_ _) | (with_reducible refine Kd.C_drewN ?_ _) | (with_reducible refine Kd.C_drew ?_) | exact HR329_2.out)) hb); have n4_ := Aside0.mk (below_step (by repeat (first | (with_reducible first | exact HB.out | apply below_alloc | apply pw_below_drewN | apply below_drew1) | exact HB.out)) hb); have n5_ := Aside0.mk (hbox); have n6_ := Aside0.mk ((by rw [hg]; exact (below_size (by repeat (first | (with_reducible first | exact HB.out | apply below_alloc | apply pw_below_drewN | apply below_drew1) | exact HB.out))) : w.heap.size ≤ gb330)); have n7_ := Aside0.mk ((by rw [hg]; exact (below_size (by repeat (first | (with_reducible first | exact HB.out | apply below_alloc | apply pw_below_drewN | apply below_drew1) | exact HB.out))) : w.heap.size ≤ gb330)); clear HO_3; clear HO_6; clear HL329_2; clear HR329_2; clear HB; have HO_3 := n0_; have HO_6 := n1_; have HL329_2 := n2_; have HR329_2 := n3_; have HB := n4_; have BK330 := n5_; have GW330 := n6_; have GE330 := n7_; clear n0_ n1_ n2_ n3_ n4_ n5_ n6_ n7_; clear hb hbox hg; have hcz20_0 : w19.cell? ⟨gb330, 0, none⟩ = some (.int .i64 0) := (blk_cell BK330.out 0).trans rfl; have hcz20_1 : w19.cell? ⟨gb330, 1, none⟩ = some (.int .i64 0) := (blk_cell BK330.out 1).trans rfl; have hcz20_2 : w19.cell? ⟨gb330, 2, none⟩ = some (.slice none 0 0) := (blk_cell BK330.out 2).trans rfl; have hfz20_0 := blk_frozen BK330.out 0; have hfz20_1 := blk_frozen BK330.out 1; have hfz20_2 := blk_frozen BK330.out 2))
                go_roundg k1
                case measure => have := HK1.out; omega
                case rel => exact ⟨(x3_1), (wrap64 (x8_1 + 1)), (by first | rfl | (simp; done) | (simp [*]; done)), H', ⟨by have := HK1.out; omega⟩, ⟨by (with_reducible repeat (first | apply Kd.N_alloc | apply Kd.N_drewN | apply Kd.N_drew)); exact Kd.N_mono (Kd.N_far (p := ⟨gb330, 2, none⟩) (Kd.N_far (p := ⟨gb330, 1, none⟩) (Kd.N_far (p := ⟨gb330, 0, none⟩) (Kd.N_mono HO_3.out (fun k_ hk => (⟨hk, hk.2⟩ : _ ∧ k_ ≠ gb330))) (fun _ hk => hk.2) (.int .i64 ((rd_T37 l0 x8_1).f0))) (fun _ hk => hk.2) (.int .i64 ((rd_T37 l0 x8_1).f1))) (fun _ hk => hk.2) (.slice A329_2 ((rd_T37 l0 x8_1).f2).length c329_2)) (fun _ hk => hk.1.1)⟩, ⟨by (with_reducible repeat (first | apply Kd.V_alloc | apply Kd.V_drewN | apply Kd.V_drew)); exact Kd.V_mono (Kd.V_far (p := ⟨gb330, 2, none⟩) (Kd.V_far (p := ⟨gb330, 1, none⟩) (Kd.V_far (p := ⟨gb330, 0, none⟩) (Kd.V_mono HO_6.out (fun k_ hk => (⟨hk, hk.2⟩ : _ ∧ k_ ≠ gb330))) (fun _ hk => hk.2) (.int .i64 ((rd_T37 l0 x8_1).f0))) (fun _ hk => hk.2) (.int .i64 ((rd_T37 l0 x8_1).f1))) (fun _ hk => hk.2) (.slice A329_2 ((rd_T37 l0 x8_1).f2).length c329_2)) (fun _ hk => ⟨hk.1.1.1, hk.1.1.2⟩)⟩, ⟨by repeat (first | (with_reducible first | exact HB.out | apply below_alloc | apply pw_below_drewN | apply below_drew1 | refine below_set ?_ GE330.out) | exact HB.out)⟩⟩
          · rw [if_neg c4] at H
            exact absurd H (by simp)
        · rw [if_neg c3] at H
          exact absurd H (by simp)
      · rw [if_neg c2] at H
        have c2b0 : decide (x8_1 < (l0.length : Int)) = false := decide_eq_false c2
        clear c2
        replace H := Option.bind_eq_some_iff.mp H
        obtain ⟨t337, A210, H⟩ := H
        replace H : (some t337) = some r := H
        have A21 := Aside0.mk A210
        clear A210
        obtain rfl := Option.some.inj H
        obtain ⟨Ao22, co22, eo22⟩ := Kd.N_slice HO_3.out
        subst eo22
        have hsz_ := Aside0.mk (below_size HB.out)
        go_wp2_with (first | ((with_reducible refine gate_callee (f := 26) rfl ?_); refine goesL_ (some 26) rfl rfl Try.func26 (by kernel_rfl) rfl #[.slice Ao22 x3_1.length co22] rfl (by (try simp only [List.map_toArray, List.map_cons, List.map_nil]); first | done | rfl | (simp only [List.length_drop, List.length_take]; rfl)) ?_; (with_reducible refine (event_Merge.calls k1 _ _ x3_1 t337 _ ?side1 ?side2 A21.out).mono ?_); (case side1 => repeat (first | exact (Kd.N_reads' HO_3.out).2.2 | (with_reducible refine Kd.C_alloc ?_ _) | (with_reducible refine Kd.C_drewN ?_ _) | (with_reducible refine Kd.C_drew ?_))); (case side2 => exact (Kd.N_reads' HO_3.out).2.1); rintro e w23 ⟨v338, rfl, ho0, hb⟩; have hoS_ := Aside0.mk ho0; refine ⟨_, rfl, ?_⟩; have n0_ := Aside0.mk (Kd.N_elder' (by (with_reducible repeat (first | apply Kd.N_alloc | apply Kd.N_drewN | apply Kd.N_drew)); exact HO_3.out) (Kd.S_base ho0) hb); have n1_ := Aside0.mk (Kd.V_elder' (by (with_reducible repeat (first | apply Kd.V_alloc | apply Kd.V_drewN | apply Kd.V_drew)); exact HO_6.out) (Kd.S_base ho0) hb); have n2_ := Aside0.mk (Kd.N_lower (Kd.N_mono (ok' := fun k_ => (P0_ k_ ∨ w.heap.size ≤ k_) ∧ some k_ ≠ (.slice Ao22 x3_1.length co22 : Value).ownBlock) (Kd.S_N (Kd.S_bound ho0)) (fun k_ hk_ => ⟨(.inr (Nat.le_trans (below_size (by repeat (first | (with_reducible first | exact HB.out | apply below_alloc | apply pw_below_drewN | apply below_drew1) | exact HB.out))) hk_.2.1)), (Kd.fresh' (Kd.N_lt (by (with_reducible repeat (first | apply Kd.N_alloc | apply Kd.N_drewN | apply Kd.N_drew)); exact HO_3.out)) k_ hk_.2.1)⟩)) (below_size (by repeat (first | (with_reducible first | exact HB.out | apply below_alloc | apply pw_below_drewN | apply below_drew1) | exact HB.out)))); have n3_ := Aside0.mk (below_step (by repeat (first | (with_reducible first | exact HB.out | apply below_alloc | apply pw_below_drewN | apply below_drew1) | exact HB.out)) hb); clear HO_3; clear HO_6; clear HB; have HO_3 := n0_; have HO_6 := n1_; have HO339 := n2_; have HB := n3_; clear n0_ n1_ n2_ n3_; (try clear hb); (try clear hb2); (try clear hk); (try clear hi); (try clear ho0)))
        go_ret
        exact ⟨_, by first | rfl | (simp [errW_none, errW_some] <;> rfl) | (simp [*, errW_none, errW_some] <;> rfl), by (with_reducible repeat (first | apply Kd.N_alloc | apply Kd.N_drewN | apply Kd.N_drew)); exact Kd.S_lower hoS_.out hsz_.out, by repeat (first | (with_reducible first | exact HB.out | apply below_alloc | apply pw_below_drewN | apply below_drew1) | exact HB.out)⟩

end Go.Proofs.Ytjcaflhlilckgaa.QA
