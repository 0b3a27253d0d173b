-- Written for this claim by a program of this session's, out of Lean's own print of the program; Lean checks it.
import Derived.Test.YtdeoingjkomdcaaQAx0
namespace Go.Proofs.Ytdeoingjkomdcaa.QA
open Go.RowKit Go.Proofs.YtdeoingjkomdcaaW.PrintWords Go.Proofs.YtdeoingjkomdcaaW.PrintLast Go.Proofs.YtdeoingjkomdcaaW.PrintMore
attribute [local go_sem] max2_int min2_int max_two min_two max_three min_three max_four min_four   -- for this text's walks alone
set_option linter.unusedVariables false
set_option linter.unusedSimpArgs false

/-! ### cuecardref09_at: function 19 -/
def cuecardref09_at.f (l0 : List Int) (l1 : List Int) (a2 : Int) : Option (Bool) := if a2 ≥ 0 then (if a2 ≤ (l0.length : Int) then (if (l1.length : Int) ≤ (wrap64 ((l0.length : Int) - a2)) then (if 0 ≤ a2 then (if a2 ≤ (wrap64 (a2 + (l1.length : Int))) then (if (wrap64 (a2 + (l1.length : Int))) ≤ (l0.length : Int) then (some ((strOfNums ((l0.take ((wrap64 (a2 + (l1.length : Int))) : Int).toNat).drop (a2 : Int).toNat)).toList == (strOfNums l1).toList)) else (none)) else (none)) else (none)) else (some false)) else (some false)) else (some false)
set_option maxHeartbeats 8000000 in
set_option maxRecDepth 100000 in
theorem cuecardref09_at.calls (A0 : Option Addr) (c0 : Nat) (l0 : List Int) (A1 : Option Addr) (c1 : Nat) (l1 : List Int) (a2 : Int) (r : Bool) (w : World) (hr0 : Kd.C (Kd.int .u8) w A0 l0.length l0) (hc0 : l0.length ≤ c0) (hr1 : Kd.C (Kd.int .u8) w A1 l1.length l1) (hc1 : l1.length ≤ c1) (h : cuecardref09_at.f l0 l1 a2 = some r) :
    Calls Try.prog 19 #[.slice A0 l0.length c0, .slice A1 l1.length c1, .int .i64 a2] w fun e w' => e = .returned (.bool r) ∧ Below w.heap.size w w' := by
  have HR0 := Aside0.mk hr0
  have HC0 := Aside0.mk hc0
  clear hr0 hc0
  have HR1 := Aside0.mk hr1
  have HC1 := Aside0.mk hc1
  clear hr1 hc1
  have HB := Aside0.mk (Below.refl w.heap.size w)
  have H : (if a2 ≥ 0 then (if a2 ≤ (l0.length : Int) then (if (l1.length : Int) ≤ (wrap64 ((l0.length : Int) - a2)) then (if 0 ≤ a2 then (if a2 ≤ (wrap64 (a2 + (l1.length : Int))) then (if (wrap64 (a2 + (l1.length : Int))) ≤ (l0.length : Int) then (some ((strOfNums ((l0.take ((wrap64 (a2 + (l1.length : Int))) : Int).toNat).drop (a2 : Int).toNat)).toList == (strOfNums l1).toList)) else (none)) else (none)) else (none)) else (some false)) else (some false)) else (some false)) = some r := h
  clear h
  by_cases c4 : a2 ≥ 0
  · rw [if_pos c4] at H
    have c4b0 : decide (0 ≤ a2) = true := decide_eq_true c4
    clear c4
    by_cases c5 : a2 ≤ (l0.length : Int)
    · rw [if_pos c5] at H
      have c5b0 : decide (a2 ≤ (l0.length : Int)) = true := decide_eq_true c5
      clear c5
      by_cases c6 : (l1.length : Int) ≤ (wrap64 ((l0.length : Int) - a2))
      · rw [if_pos c6] at H
        have c6b0 : decide ((l1.length : Int) ≤ (wrap64 ((l0.length : Int) - a2))) = true := decide_eq_true c6
        clear c6
        by_cases c7 : 0 ≤ a2
        · rw [if_pos c7] at H
          have c7b0 := eq_true c7
          have c7b1 : decide (0 ≤ a2) = true := decide_eq_true c7
          clear c7
          by_cases c8 : a2 ≤ (wrap64 (a2 + (l1.length : Int)))
          · rw [if_pos c8] at H
            have c8b0 := eq_true c8
            have c8b1 : decide (a2 ≤ (wrap64 (a2 + (l1.length : Int)))) = true := decide_eq_true c8
            by_cases c9 : (wrap64 (a2 + (l1.length : Int))) ≤ (l0.length : Int)
            · rw [if_pos c9] at H
              have c9b0 := eq_true c9
              have c9b1 : decide ((wrap64 (a2 + (l1.length : Int))) ≤ (l0.length : Int)) = true := decide_eq_true c9
              obtain ⟨y150, hy150⟩ : ∃ y_ : List Int, y_ = ((l0.take ((wrap64 (a2 + (l1.length : Int))) : Int).toNat).drop (a2 : Int).toNat) := ⟨_, rfl⟩
              replace H : (some ((strOfNums y150).toList == (strOfNums l1).toList)) = some r := by first | (rw [hy150]; with_reducible exact H) | (have H2_ := (Option.bind_some _ _).symm.trans H; rw [hy150]; with_reducible exact H2_) | (have H2_ := (Option.bind_some _ _).symm.trans H; with_reducible exact H2_) | with_reducible exact H | (rw [hy150]; exact H) | exact H
              have Ny150 := Aside0.mk hy150
              clear hy150
              obtain rfl := Option.some.inj H
              have q10 : ((wrap64 (a2 + (l1.length : Int))) : Int) ≤ ((l0.length : Int) : Int) := of_decide_eq_true (by first | (with_reducible assumption) | assumption)
              obtain ⟨i010, hi010, _, hsz10, _⟩ := info_parts info5
              have hroom10 : l0.length ≤ c0 := HC0.out
              have hC10 : Kd.C (Kd.int .u8) _ A0 l0.length l0 := HR0.out
              have ql10 : (a2 : Int) ≤ ((wrap64 (a2 + (l1.length : Int))) : Int) := of_decide_eq_true (by first | (with_reducible assumption) | assumption)
              have q010 : (0 : Int) ≤ (a2 : Int) := of_decide_eq_true (by first | (with_reducible assumption) | assumption)
              have hcut10 := cut_mid (P := Try.prog) 22 5 .i64 .i64 Try.underlying22 hi010 1 hsz10 A0 l0.length c0 a2 (wrap64 (a2 + (l1.length : Int))) q010 ql10 q10 hroom10
              have hr10 := Kd.C_mid (lo := (a2 : Int).toNat) (hi := ((wrap64 (a2 + (l1.length : Int))) : Int).toNat) (c := c0) hC10 (by omega) (by omega) hroom10
              obtain ⟨A10, hA10⟩ : ∃ A1, A1 = (if c0 = (a2 : Int).toNat then A0 else (A0 : Option Addr).map (·.add ((a2 : Int).toNat * 1))) := ⟨_, rfl⟩
              obtain ⟨c10, hc10⟩ : ∃ c1, c1 = c0 - (a2 : Int).toNat := ⟨_, rfl⟩
              have hy10 : y150.length = ((wrap64 (a2 + (l1.length : Int))) : Int).toNat - (a2 : Int).toNat := (by rw [Ny150.out, List.length_drop, List.length_take] <;> omega)
              rw [show ((l0).take ((wrap64 (a2 + (l1.length : Int))) : Int).toNat).drop (a2 : Int).toNat = y150 from Ny150.out.symm] at hr10
              replace hr10 : Kd.C (Kd.int .u8) _ A10 y150.length y150 := (by rw [hA10]; exact hr10)
              rw [← hy10, ← hA10, ← hc10] at hcut10
              have HR153 := Aside0.mk hr10
              have HC153 := Aside0.mk (show y150.length ≤ c10 from by rw [hy10, hc10]; exact Nat.sub_le_sub_right (Nat.le_trans (by omega) hroom10) _)
              clear hr10 hC10 hroom10 hi010 hsz10 hc10
              have KY10 := Aside0.mk hy10
              have KA10 := Aside0.mk hA10
              clear hy10 hA10
              replace q10 := eq_true q10
              have hcv11 := Kd.C_string (P := Try.prog) (A := A10) (c := c10) Try.underlying22 Try.underlying5 Try.underlying9 HR153.out
              (try (have hcw11 := fun (m_ : Nat) => Kd.C_string (P := Try.prog) (A := A10) (c := c10) Try.underlying22 Try.underlying5 Try.underlying9 (Kd.C_drewN HR153.out m_)))
              have hcv12 := Kd.C_string (P := Try.prog) (A := A1) (c := c1) Try.underlying22 Try.underlying5 Try.underlying9 HR1.out
              (try (have hcw12 := fun (m_ : Nat) => Kd.C_string (P := Try.prog) (A := A1) (c := c1) Try.underlying22 Try.underlying5 Try.underlying9 (Kd.C_drewN HR1.out m_)))
              go_enter Try.func19, Try.ntmps19
              (try (have iw13 : IntKind.i64.wrap ((l0.length : Int) - a2) = wrap64 ((l0.length : Int) - a2) := i64_w _))
              (try (have iw14 : IntKind.i64.wrap (a2 + (l1.length : Int)) = wrap64 (a2 + (l1.length : Int)) := i64_w _))
              go_wp2
              repeat (go_quiet (fail); try go_wp2)
              go_ret
              exact ⟨by first | rfl | (simp [errW_none, errW_some] <;> rfl) | (simp [*, errW_none, errW_some] <;> rfl), by repeat (first | (with_reducible first | exact HB.out | apply below_alloc | apply pw_below_drewN | apply below_drew1) | exact HB.out)⟩
            · rw [if_neg c9] at H
              exact absurd H (by simp)
          · rw [if_neg c8] at H
            exact absurd H (by simp)
        · rw [if_neg c7] at H
          exact absurd H (by simp)
      · rw [if_neg c6] at H
        have c6b0 : decide ((l1.length : Int) ≤ (wrap64 ((l0.length : Int) - a2))) = false := decide_eq_false c6
        clear c6
        obtain rfl := Option.some.inj H
        go_enter Try.func19, Try.ntmps19
        (try (have iw15 : IntKind.i64.wrap ((l0.length : Int) - a2) = wrap64 ((l0.length : Int) - a2) := i64_w _))
        go_wp2
        repeat (go_quiet (fail); try go_wp2)
        go_ret
        exact ⟨by first | rfl | (simp [errW_none, errW_some] <;> rfl) | (simp [*, errW_none, errW_some] <;> rfl), by repeat (first | (with_reducible first | exact HB.out | apply below_alloc | apply pw_below_drewN | apply below_drew1) | exact HB.out)⟩
    · rw [if_neg c5] at H
      have c5b0 : decide (a2 ≤ (l0.length : Int)) = false := decide_eq_false c5
      clear c5
      obtain rfl := Option.some.inj H
      go_enter Try.func19, Try.ntmps19
      go_wp2
      repeat (go_quiet (fail); try go_wp2)
      go_ret
      exact ⟨by first | rfl | (simp [errW_none, errW_some] <;> rfl) | (simp [*, errW_none, errW_some] <;> rfl), by repeat (first | (with_reducible first | exact HB.out | apply below_alloc | apply pw_below_drewN | apply below_drew1) | exact HB.out)⟩
  · rw [if_neg c4] at H
    have c4b0 : decide (0 ≤ a2) = false := decide_eq_false c4
    clear c4
    obtain rfl := Option.some.inj H
    go_enter Try.func19, Try.ntmps19
    go_wp2
    repeat (go_quiet (fail); try go_wp2)
    go_ret
    exact ⟨by first | rfl | (simp [errW_none, errW_some] <;> rfl) | (simp [*, errW_none, errW_some] <;> rfl), by repeat (first | (with_reducible first | exact HB.out | apply below_alloc | apply pw_below_drewN | apply below_drew1) | exact HB.out)⟩

end Go.Proofs.Ytdeoingjkomdcaa.QA
