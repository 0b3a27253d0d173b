-- Written for this claim by a program of this session's, out of Lean's own print of the program; Lean checks it.
import Derived.Test.YtefippbcgdfnbaaQAx0
import Derived.Test.YtefippbcgdfnbaaQAx2
namespace Go.Proofs.Ytefippbcgdfnbaa.QA
open Go.RowKit Go.Proofs.YtefippbcgdfnbaaW.PrintWords Go.Proofs.YtefippbcgdfnbaaW.PrintLast Go.Proofs.YtefippbcgdfnbaaW.PrintMore
attribute [local go_sem] max2_int min2_int max_two min_two max_three min_three max_four min_four   -- for this text's walks alone
set_option linter.unusedVariables false
set_option linter.unusedSimpArgs false

/-! ### vary_Put: function 18 -/
def vary_Put.l0 : Nat → Int → Int → List Int → Int → Int → Option (List Int)
  | 0, _, _, _, _, _ => none
  | k + 1, x0, x3, x4, x13, x14 => if x14 < x13 then (if 0 ≤ (wrap64 (7 * x14)) then (if 0 ≤ x14 then (if x14 < (x4.length : Int) then (vary_Put.l0 k x0 x3 (x4.set (x14 : Int).toNat (Go.bits .or .u8 ((shr .u64 x0 (wrap64 (7 * x14))) % 256) 128)) x13 (wrap64 (x14 + 1))) else (none)) else (none)) else (none)) else (if 0 ≤ (wrap64 (x3 - 1)) then (if (wrap64 (x3 - 1)) < (x4.length : Int) then (some (x4.set ((wrap64 (x3 - 1)) : Int).toNat (Go.bits .and .u8 (rd x4 (wrap64 (x3 - 1))) 127))) else (none)) else (none))
def vary_Put.f (k : Nat) (a0 : Int) : Option (List Int) := (bits_Len64.f k a0).bind fun t103 => (if 0 ≤ (mx 1 (wrap64 (Int.tdiv (wrap64 (t103 + 6)) 7))) then (if (mx 1 (wrap64 (Int.tdiv (wrap64 (t103 + 6)) 7)) : Int).toNat ≤ 281474976710656 then (vary_Put.l0 k a0 (mx 1 (wrap64 (Int.tdiv (wrap64 (t103 + 6)) 7))) (List.replicate (mx 1 (wrap64 (Int.tdiv (wrap64 (t103 + 6)) 7)) : Int).toNat 0) (mx 1 (wrap64 (Int.tdiv (wrap64 (t103 + 6)) 7))) 0) else (none)) else (none))
theorem vary_Put.mono_l : ∀ k, (∀ y0 y1 y2 y3 y4, LeO (vary_Put.l0 k y0 y1 y2 y3 y4) (vary_Put.l0 (k + 1) y0 y1 y2 y3 y4))
  | 0 => fun _ _ _ _ _ r h => by simp [vary_Put.l0] at h
  | k + 1 => by
    have ih0 := vary_Put.mono_l k
    · intro y0 y1 y2 y3 y4
      unfold vary_Put.l0
      repeat' first
      | (with_reducible exact ih0 _ _ _ _ _)
      | (with_reducible exact bits_Len64.mono _ _)
      | (with_reducible exact LeO.refl _)
      | (with_reducible exact LeO.none _)
      | (with_reducible refine LeO.ite ?_ ?_)
      | (with_reducible refine LeO.bind ?_ (fun _ => ?_))
      | exact ih0 _ _ _ _ _
      | exact bits_Len64.mono _ _
      | exact LeO.none _
      | refine LeO.ite ?_ ?_
      | refine LeO.bind ?_ (fun _ => ?_)
theorem vary_Put.mono : ∀ a0 k, LeO (vary_Put.f k a0) (vary_Put.f (k + 1) a0) := by
  intro a0 k
  have ih0 := vary_Put.mono_l k
  unfold vary_Put.f
  repeat' first
      | (with_reducible exact ih0 _ _ _ _ _)
      | (with_reducible exact bits_Len64.mono _ _)
      | (with_reducible exact LeO.refl _)
      | (with_reducible exact LeO.none _)
      | (with_reducible refine LeO.ite ?_ ?_)
      | (with_reducible refine LeO.bind ?_ (fun _ => ?_))
      | exact ih0 _ _ _ _ _
      | exact bits_Len64.mono _ _
      | exact LeO.none _
      | refine LeO.ite ?_ ?_
      | refine LeO.bind ?_ (fun _ => ?_)
set_option maxHeartbeats 8000000 in
set_option maxRecDepth 100000 in
theorem vary_Put.calls (k : Nat) (a0 : Int) (r : List Int) (w : World) (h : vary_Put.f k a0 = some r) :
    Calls Try.prog 18 #[.int .u64 a0] w fun e w' => ∃ v0_ : Value, e = .returned (v0_) ∧ Kd.R (Kd.int .u8) 5 w' w.heap.size (fun _ => True) v0_ r ∧ Below w.heap.size w w' := by
  have HB := Aside0.mk (Below.refl w.heap.size w)
  have H : ((bits_Len64.f k a0).bind fun t103 => (if 0 ≤ (mx 1 (wrap64 (Int.tdiv (wrap64 (t103 + 6)) 7))) then (if (mx 1 (wrap64 (Int.tdiv (wrap64 (t103 + 6)) 7)) : Int).toNat ≤ 281474976710656 then (vary_Put.l0 k a0 (mx 1 (wrap64 (Int.tdiv (wrap64 (t103 + 6)) 7))) (List.replicate (mx 1 (wrap64 (Int.tdiv (wrap64 (t103 + 6)) 7)) : Int).toNat 0) (mx 1 (wrap64 (Int.tdiv (wrap64 (t103 + 6)) 7))) 0) else (none)) else (none))) = some r := h
  clear h
  replace H := Option.bind_eq_some_iff.mp H
  obtain ⟨t103, A20, H⟩ := H
  replace H : (if 0 ≤ (mx 1 (wrap64 (Int.tdiv (wrap64 (t103 + 6)) 7))) then (if (mx 1 (wrap64 (Int.tdiv (wrap64 (t103 + 6)) 7)) : Int).toNat ≤ 281474976710656 then (vary_Put.l0 k a0 (mx 1 (wrap64 (Int.tdiv (wrap64 (t103 + 6)) 7))) (List.replicate (mx 1 (wrap64 (Int.tdiv (wrap64 (t103 + 6)) 7)) : Int).toNat 0) (mx 1 (wrap64 (Int.tdiv (wrap64 (t103 + 6)) 7))) 0) else (none)) else (none)) = some r := H
  have A2 := Aside0.mk A20
  clear A20
  obtain ⟨ji3, hji3⟩ : ∃ j_ : Int, (mx 1 (wrap64 (Int.tdiv (wrap64 (t103 + 6)) 7))) = j_ := ⟨_, rfl⟩
  replace H : (if 0 ≤ (ji3) then (if (ji3 : Int).toNat ≤ 281474976710656 then (vary_Put.l0 k a0 ji3 (List.replicate (ji3 : Int).toNat 0) ji3 0) else (none)) else (none)) = some r := by first | (rw [hji3] at H; exact H) | (simp only [hji3] at H ⊢; exact H)
  (try rw [hji3] at A2)
  (try (have hji3l : 1 ≤ ji3 := by (rw [← hji3]; unfold mx; (repeat' split) <;> omega)))
  (try (have hji3m : 0 ≤ ji3 := by omega))
  have hji3_ : (if 1 < (wrap64 (Int.tdiv (wrap64 (t103 + 6)) 7)) then (wrap64 (Int.tdiv (wrap64 (t103 + 6)) 7)) else 1) = ji3 := hji3
  by_cases c4 : 0 ≤ (ji3)
  · rw [if_pos c4] at H
    have c4b0 := eq_true c4
    have c4b1 : decide (0 ≤ (ji3)) = true := decide_eq_true c4
    clear c4
    by_cases c5 : (ji3 : Int).toNat ≤ 281474976710656
    · rw [if_pos c5] at H
      have c5b0 := eq_true c5
      have c5b1 : decide ((ji3 : Int).toNat ≤ 281474976710656) = true := decide_eq_true c5
      clear c5
      obtain ⟨y104, hy104⟩ : ∃ y_ : List Int, y_ = (List.replicate (ji3 : Int).toNat 0) := ⟨_, rfl⟩
      replace H : (vary_Put.l0 k a0 ji3 y104 ji3 0) = some r := by first | (rw [hy104]; with_reducible exact H) | (have H2_ := (Option.bind_some _ _).symm.trans H; rw [hy104]; with_reducible exact H2_) | (have H2_ := (Option.bind_some _ _).symm.trans H; with_reducible exact H2_) | with_reducible exact H | (rw [hy104]; exact H) | exact H
      have Ny104 := Aside0.mk hy104
      clear hy104
      have H' := Aside0.mk H
      clear H
      go_enter Try.func18, Try.ntmps18
      go_wp2_with (first | ((with_reducible refine gate_callee (f := 28) rfl ?_); refine goesL_ (some 7) rfl rfl Try.func28 (by kernel_rfl) rfl #[.int .u64 a0] rfl (by (try simp only [List.map_toArray, List.map_cons, List.map_nil]); first | done | rfl | (simp only [List.length_drop, List.length_take]; rfl)) ?_; (with_reducible refine (bits_Len64.calls k a0 t103 _ A2.out).mono ?_); rintro e w6 ⟨rfl, hb⟩; refine ⟨_, rfl, ?_⟩; have n0_ := Aside0.mk (below_step (by repeat (first | (with_reducible first | exact HB.out | apply below_alloc | apply pw_below_drewN | apply below_drew1) | exact HB.out)) hb); clear HB; have HB := n0_; clear n0_; (try clear hb); (try clear hb2); (try clear hk); (try clear hi)) | ((with_reducible refine gate_dst (N := 12) rfl ?_); refine Kd.R_make (Kd.int .u8) _ 5 rfl (N := 12) rfl 25 _ _ rfl ji3 rfl rfl Try.underlying25 (.int .u8 0) 1 info5 rfl (by decide) (by omega) 0 (ok := fun _ => True) (okp := fun _ => True) rfl (fun _ hk => hk) trivial (of_decide_eq_true (by first | (with_reducible assumption) | assumption)) (Nat.le_trans (Nat.mul_le_mul_right _ (of_decide_eq_true (by first | (with_reducible assumption) | assumption) : ji3.toNat ≤ 281474976710656)) (by omega)) (Below.refl _ _) (Nat.le_refl _) ?_; intro v105 w7 ho8 hb hg_ hnew_; clear hg_ hnew_; (first | rw [← Ny104.out] at ho8 | (simp only [Int.reduceToNat] at ho8; rw [← Ny104.out] at ho8)); have n0_ := Aside0.mk (Kd.R_lower ho8 (below_size (by repeat (first | (with_reducible first | exact HB.out | apply below_alloc | apply pw_below_drewN | apply below_drew1) | exact HB.out)))); have n1_ := Aside0.mk (below_step (by repeat (first | (with_reducible first | exact HB.out | apply below_alloc | apply pw_below_drewN | apply below_drew1) | exact HB.out)) hb); clear HB; have HO106 := n0_; have HB := n1_; clear n0_ n1_; clear hb ho8))
      go_loopg [14] k (fun kq v14 w' => ∃ (x4_1 : List Int) (x14_1 : Int), v14 = .int .i64 x14_1 ∧ Aside0 (vary_Put.l0 kq a0 ji3 x4_1 ji3 x14_1 = some r) ∧ Aside0 (kq ≤ k) ∧ Aside0 (Kd.R (Kd.int .u8) 5 w' w.heap.size (fun _ => True) v105 x4_1) ∧ Aside0 (Below w.heap.size w w'))
      case atStart => exact ⟨(y104), (0), (by first | rfl | (simp; done) | (simp [*]; done)), H', ⟨Nat.le_refl _⟩, ⟨by (with_reducible repeat (first | apply Kd.R_alloc | apply Kd.R_drewN | apply Kd.R_drew)); exact HO106.out⟩, ⟨by repeat (first | (with_reducible first | exact HB.out | apply below_alloc | apply pw_below_drewN | apply below_drew1) | exact HB.out)⟩⟩
      case round =>
        clear H'
        try clear c1
        try clear c2
        try clear p2
        try clear c4
        try clear c4b0
        try clear c4b1
        try clear c5
        try clear c5b0
        try clear c5b1
        try clear p6
        obtain ⟨x4_1, x14_1, rfl, HA, HK1, HO_4, HB⟩ := hrel
        cases gk with
        | zero => exact absurd HA.out (by simp [vary_Put.l0])
        | succ k1 =>
          have H := HA.out
          clear HA
          simp only [vary_Put.l0] at H
          by_cases c9 : x14_1 < ji3
          · rw [if_pos c9] at H
            have c9b0 : decide (x14_1 < ji3) = true := decide_eq_true c9
            clear c9
            obtain ⟨ji10, hji10⟩ : ∃ j_ : Int, (wrap64 (7 * x14_1)) = j_ := ⟨_, rfl⟩
            replace H : (if 0 ≤ (ji10) then (if 0 ≤ x14_1 then (if x14_1 < (x4_1.length : Int) then (vary_Put.l0 k1 a0 ji3 (x4_1.set (x14_1 : Int).toNat (Go.bits .or .u8 ((shr .u64 a0 (ji10)) % 256) 128)) ji3 (wrap64 (x14_1 + 1))) else (none)) else (none)) else (none)) = some r := by first | (rw [hji10] at H; exact H) | (simp only [hji10] at H ⊢; exact H)
            have hji10w : (IntKind.i64.wrap (7 * x14_1)) = ji10 := (i64_w _).trans hji10
            by_cases c11 : 0 ≤ (ji10)
            · rw [if_pos c11] at H
              have c11b0 := eq_true c11
              have c11b1 : decide (0 ≤ (ji10)) = true := decide_eq_true c11
              clear c11
              obtain ⟨ji12, hji12⟩ : ∃ j_ : Int, (shr .u64 a0 (ji10)) = j_ := ⟨_, rfl⟩
              replace H : (if 0 ≤ x14_1 then (if x14_1 < (x4_1.length : Int) then (vary_Put.l0 k1 a0 ji3 (x4_1.set (x14_1 : Int).toNat (Go.bits .or .u8 ((ji12) % 256) 128)) ji3 (wrap64 (x14_1 + 1))) else (none)) else (none)) = some r := by first | (rw [hji12] at H; exact H) | (simp only [hji12] at H ⊢; exact H)
              have hji12_ : (a0 / 2 ^ min (ji10).toNat 64) = ji12 := hji12
              have hji12z : (ji10) ≤ 64 → (a0 / 2 ^ (ji10).toNat) = ji12 := shr_small hji12
              by_cases c13 : 0 ≤ x14_1
              · rw [if_pos c13] at H
                have c13b0 : decide (0 ≤ x14_1) = true := decide_eq_true c13
                clear c13
                by_cases c14 : x14_1 < (x4_1.length : Int)
                · rw [if_pos c14] at H
                  have c14b0 : decide (x14_1 < (x4_1.length : Int)) = true := decide_eq_true c14
                  clear c14
                  obtain ⟨y107, hy107⟩ : ∃ y_ : List Int, y_ = (x4_1.set (x14_1 : Int).toNat (Go.bits .or .u8 ((ji12) % 256) 128)) := ⟨_, rfl⟩
                  replace H : (vary_Put.l0 k1 a0 ji3 y107 ji3 (wrap64 (x14_1 + 1))) = some r := by first | (rw [hy107]; with_reducible exact H) | (have H2_ := (Option.bind_some _ _).symm.trans H; rw [hy107]; with_reducible exact H2_) | (have H2_ := (Option.bind_some _ _).symm.trans H; with_reducible exact H2_) | with_reducible exact H | (rw [hy107]; exact H) | exact H
                  have Ny107 := Aside0.mk hy107
                  clear hy107
                  have H' := Aside0.mk H
                  clear H
                  have p15 : 0 ≤ (x14_1 : Int) := of_decide_eq_true (by first | (with_reducible assumption) | assumption)
                  have q15 : (x14_1 : Int) < ((x4_1.length : Int) : Int) := of_decide_eq_true (by first | (with_reducible assumption) | assumption)
                  obtain ⟨go15, co15, eo15, gb15, gl15, cl15, HG15⟩ := Kd.R_form HO_4.out (by omega)
                  (first | cases eo15 | (injection eo15 with ea_ en_ ec_; (first | subst ea_ | (injection ea_ with ea_; subst ea_)); subst ec_; clear en_))
                  have GB15 := Aside0.mk gb15
                  have GG15 := Aside0.mk HG15
                  clear gb15 gl15 HG15
                  obtain ⟨hx15_0, hf15_0⟩ := Kd.R_celln 0 HO_4.out (x14_1 : Int) p15 q15
                  replace p15 := eq_true p15
                  replace q15 := eq_true q15
                  have HP16 := Kd.R_putg HO_4.out (x14_1 : Int) (Go.bits .or .u8 ((ji12) % 256) 128)
                  go_wp2_with (first | ((with_reducible refine gate_store (t := 5) (p := 25) rfl ?_); refine store_event (t := 5) (p := 25) (v := ?vo_w17) (w1 := (wr.setCell ⟨go15, (x14_1 : Int).toNat, none⟩ (.int .u8 (Go.bits .or .u8 ((ji12) % 256) 128)))) ?hg ?ho ?hn ?hr ?_; (case ho => rfl); (case hg => rfl); (case hn => rfl); (case hr => first | (go_simp; done) | (go_simp; rfl)); intro w17 hw; have hg : wr.grownBy w17 (some go15) := (by rw [hw]; exact HP16.2); have hp_ : Kd.R (Kd.int .u8) 5 w17 w.heap.size (fun _ => True) (.slice (some ⟨go15, 0, none⟩) x4_1.length co15) y107 := (by rw [hw, Ny107.out]; exact HP16.1); clear HP16; have n0_ := Aside0.mk (hp_); have n1_ := Aside0.mk ((by rw [hw]; exact below_set (HB.out) GB15.out : Below w.heap.size w w17)); clear HO_4; clear HB; have HO_4 := n0_; have HB := n1_; clear n0_ n1_; clear hg hw hp_))
                  go_roundg k1
                  case measure => have := HK1.out; omega
                  case rel => exact ⟨(y107), (wrap64 (x14_1 + 1)), (by first | rfl | (simp; done) | (simp [*]; done)), H', ⟨by have := HK1.out; omega⟩, ⟨by (with_reducible repeat (first | apply Kd.R_alloc | apply Kd.R_drewN | apply Kd.R_drew)); exact HO_4.out⟩, ⟨by repeat (first | (with_reducible first | exact HB.out | apply below_alloc | apply pw_below_drewN | apply below_drew1) | exact HB.out)⟩⟩
                · rw [if_neg c14] at H
                  exact absurd H (by simp)
              · rw [if_neg c13] at H
                exact absurd H (by simp)
            · rw [if_neg c11] at H
              exact absurd H (by simp)
          · rw [if_neg c9] at H
            have c9b0 : decide (x14_1 < ji3) = false := decide_eq_false c9
            clear c9
            obtain ⟨ji18, hji18⟩ : ∃ j_ : Int, (wrap64 (ji3 - 1)) = j_ := ⟨_, rfl⟩
            replace H : (if 0 ≤ (ji18) then (if (ji18) < (x4_1.length : Int) then (some (x4_1.set ((ji18) : Int).toNat (Go.bits .and .u8 (rd x4_1 (ji18)) 127))) else (none)) else (none)) = some r := by first | (rw [hji18] at H; exact H) | (simp only [hji18] at H ⊢; exact H)
            have hji18w : (IntKind.i64.wrap (ji3 - 1)) = ji18 := (i64_w _).trans hji18
            by_cases c19 : 0 ≤ (ji18)
            · rw [if_pos c19] at H
              have c19b0 : decide (0 ≤ (ji18)) = true := decide_eq_true c19
              clear c19
              by_cases c20 : (ji18) < (x4_1.length : Int)
              · rw [if_pos c20] at H
                have c20b0 : decide ((ji18) < (x4_1.length : Int)) = true := decide_eq_true c20
                clear c20
                obtain ⟨y109, hy109⟩ : ∃ y_ : List Int, y_ = (x4_1.set ((ji18) : Int).toNat (Go.bits .and .u8 (rd x4_1 (ji18)) 127)) := ⟨_, rfl⟩
                replace H : (some y109) = some r := by first | (rw [hy109]; with_reducible exact H) | (have H2_ := (Option.bind_some _ _).symm.trans H; rw [hy109]; with_reducible exact H2_) | (have H2_ := (Option.bind_some _ _).symm.trans H; with_reducible exact H2_) | with_reducible exact H | (rw [hy109]; exact H) | exact H
                have Ny109 := Aside0.mk hy109
                clear hy109
                obtain rfl := Option.some.inj H
                obtain ⟨Ao22, co22, eo22⟩ := Kd.R_slice HO_4.out
                subst eo22
                have p108 : 0 ≤ ((ji18) : Int) := of_decide_eq_true (by first | (with_reducible assumption) | assumption)
                have q108 : (ji18) < (x4_1.length : Int) := of_decide_eq_true (by first | (with_reducible assumption) | assumption)
                obtain ⟨ad108, e108, hx108_0⟩ := Kd.at_int (Kd.R_reads' HO_4.out).2.2 (ji18) p108 q108
                cases e108
                replace p108 := eq_true p108
                replace q108 := eq_true q108
                have p21 : 0 ≤ ((ji18) : Int) := of_decide_eq_true (by first | (with_reducible assumption) | assumption)
                have q21 : ((ji18) : Int) < ((x4_1.length : Int) : Int) := of_decide_eq_true (by first | (with_reducible assumption) | assumption)
                obtain ⟨go21, co21, eo21, gb21, gl21, cl21, HG21⟩ := Kd.R_form HO_4.out (by omega)
                (first | cases eo21 | (injection eo21 with ea_ en_ ec_; (first | subst ea_ | (injection ea_ with ea_; subst ea_)); subst ec_; clear en_))
                have GB21 := Aside0.mk gb21
                have GG21 := Aside0.mk HG21
                clear gb21 gl21 HG21
                (first | simp only [add_plain] at hx108_0 | skip)
                obtain ⟨hx21_0, hf21_0⟩ := Kd.R_celln 0 HO_4.out ((ji18) : Int) p21 q21
                replace p21 := eq_true p21
                replace q21 := eq_true q21
                have HP23 := Kd.R_putg HO_4.out ((ji18) : Int) (Go.bits .and .u8 (rd x4_1 (ji18)) 127)
                go_wp2_with (first | ((with_reducible refine gate_store (t := 5) (p := 33) rfl ?_); refine store_event (t := 5) (p := 33) (v := ?vo_w24) (w1 := (wr.setCell ⟨go21, ((ji18) : Int).toNat, none⟩ (.int .u8 (Go.bits .and .u8 (rd x4_1 (ji18)) 127)))) ?hg ?ho ?hn ?hr ?_; (case ho => rfl); (case hg => rfl); (case hn => rfl); (case hr => first | (go_simp; done) | (go_simp; rfl)); intro w24 hw; have hg : wr.grownBy w24 (some go21) := (by rw [hw]; exact HP23.2); have hp_ : Kd.R (Kd.int .u8) 5 w24 w.heap.size (fun _ => True) (.slice (some ⟨go21, 0, none⟩) x4_1.length co22) y109 := (by rw [hw, Ny109.out]; exact HP23.1); clear HP23; have n0_ := Aside0.mk (hp_); have n1_ := Aside0.mk ((by rw [hw]; exact below_set (HB.out) GB21.out : Below w.heap.size w w24)); clear HO_4; clear HB; have HO_4 := n0_; have HB := n1_; clear n0_ n1_; clear hg hw hp_))
                go_ret
                exact ⟨_, by first | rfl | (simp [errW_none, errW_some] <;> rfl) | (simp only [← hji3, ← hji18]; first | rfl | (simp [errW_none, errW_some] <;> rfl)) | (simp [*, errW_none, errW_some] <;> rfl), by (with_reducible repeat (first | apply Kd.R_alloc | apply Kd.R_drewN | apply Kd.R_drew)); exact HO_4.out, by repeat (first | (with_reducible first | exact HB.out | apply below_alloc | apply pw_below_drewN | apply below_drew1) | exact HB.out)⟩
              · rw [if_neg c20] at H
                exact absurd H (by simp)
            · rw [if_neg c19] at H
              exact absurd H (by simp)
    · rw [if_neg c5] at H
      exact absurd H (by simp)
  · rw [if_neg c4] at H
    exact absurd H (by simp)

end Go.Proofs.Ytefippbcgdfnbaa.QA
