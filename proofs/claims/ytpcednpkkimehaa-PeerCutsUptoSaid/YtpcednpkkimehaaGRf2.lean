import Derived.RangeFuncNested
import Derived.RangeFuncBound
import Derived.RangeFuncCalls
import Derived.RangeFuncLeaves
import Derived.Shelf.Abstract
import Derived.Shelf.RegionOpen
import Derived.WalkKit
import Derived.OwnWalkIn
import Derived.TacticsInMore
import Derived.LoopNIn
import Derived.LoopIn
import Derived.Maps.AppendAt
import Derived.StillTailTactics
import Derived.Lib.Hide
import Derived.Lib.LazyBuf
import Derived.Outline
import Derived.Deep.RegionWith
import Derived.Deep.RegionLaw
import Derived.Deep.AppendLies
import Derived.CallsIn

import Derived.Lib.Bytes
import Derived.Deep.DeepCutAuto
import Derived.Lib.SmallJoins
import Derived.Laws.EntriesVeiled
import Derived.Deep.RegionHeld3
import Derived.BigRegion
import Derived.BigQuiet
import Derived.Test.YtpcednpkkimehaaPPl
import Derived.Test.YtpcednpkkimehaaGRf
namespace Go.Proofs.Ytpcednpkkimehaa.QA
open Go.RowKit Go.Shelf Go.Proofs.YtpcednpkkimehaaW.PrintWords Go.Proofs.YtpcednpkkimehaaW.PrintLast Go.Proofs.YtpcednpkkimehaaW.PrintMore
attribute [local go_sem] max2_int min2_int max_two min_two max_three min_three max_four min_four   -- for this text's walks alone
set_option linter.unusedVariables false
set_option linter.unusedSimpArgs false
set_option maxRecDepth 100000 in
set_option maxHeartbeats 4000000 in
theorem ref_Over {W : World} {r : Ra} {l : List S40} {fin : Bool} {said h ch : Nat} {Ah : Option Addr} (hr : RfAt W r l fin said (.slice Ah h ch)) (hC : Kd.C k40 W r.A l.length l) (hc : l.length ≤ r.cl) (hl : small l) :
    Calls Try.prog 26 #[.pointer (some ⟨r.M, 0, none⟩)] W fun e W' => e = .returned (.bool (fin && (decide (said = (way 0 l).length) && decide ((way 1 l).length ≤ h)))) ∧ Below W.heap.size W W' := by
  obtain ⟨c0, c1, c2, c3⟩ := hr.cells
  have HF0 := Lib.hid (refbytes_f 0 l hl (l.length + 1) (by omega))
  have HF1 := Lib.hid (refbytes_f 1 l hl (l.length + 1) (by omega))
  have HC := Lib.hid (Kd.C_drew hC)
  clear hC hr
  cases fin with
  | false =>
    clear c0 c2 c3
    go_enter Try.func26, Try.ntmps26
    go_wp2
    go_quiet (fail)
    go_wp2
    go_ret
    exact ⟨by simp, pw_below_drewN (Below.refl _ _) _⟩
  | true =>
    have d0 : W.drew.cell? ⟨r.M, 0, none⟩ = some (.slice r.A l.length r.cl) := c0
    have d1 : W.drew.cell? ⟨r.M, 1, none⟩ = some (.bool true) := c1
    have d2 : W.drew.cell? ⟨r.M, 2, none⟩ = some (.int .i64 said) := c2
    have d3 : W.drew.cell? ⟨r.M, 3, none⟩ = some (.slice Ah h ch) := c3
    by_cases h1 : said = (way 0 l).length
    · have h1' : ((said : Int) == ((way 0 l).length : Int)) = true := beq_iff_eq.mpr (by omega)
      have h1'' : (said == (way 0 l).length) = true := beq_iff_eq.mpr h1
      have H1 := Lib.hid (decide_eq_true h1)
      clear h1
      go_enter Try.func26, Try.ntmps26
      go_wp2
      go_region_held3 (fun w' => w'.cell? ⟨r.M, 0, none⟩ = some (.slice r.A l.length r.cl) ∧ w'.cell? ⟨r.M, 1, none⟩ = some (.bool true) ∧ w'.cell? ⟨r.M, 2, none⟩ = some (.int .i64 said) ∧ w'.cell? ⟨r.M, 3, none⟩ = some (.slice Ah h ch))
        (first | exact ⟨d0, d1, d2, d3⟩ | exact ⟨e0, e1, e2, e3⟩ | exact ⟨f0, f1, f2, f3⟩ | go_keep)
        (first
          | (go_at_call_of 12 (Value.int IntKind.i64 0); refine (cuecardref04_Bytes.calls (l.length + 1) 0 r.A r.cl l _ _ HC.out hc HF0.out).mono ?_; rintro e w1 ⟨v, rfl, hR, hB1⟩; obtain ⟨Ao, co, rfl⟩ := Kd.R_slice hR; have e0 := pw_cell_below hB1 d0; have e1 := pw_cell_below hB1 d1; have e2 := pw_cell_below hB1 d2; have e3 := pw_cell_below hB1 d3; have HB1 := Lib.hid hB1; clear hB1 hR)
          | (go_at_call_of 12 (Value.int IntKind.i64 1); refine (cuecardref04_Bytes.calls (l.length + 1) 1 r.A r.cl l _ _ (Kd.C_below HC.out HB1.out) hc HF1.out).mono ?_; rintro e w2 ⟨v, rfl, hR, hB2⟩; obtain ⟨Ai, ci, rfl⟩ := Kd.R_slice hR; have f0 := pw_cell_below hB2 e0; have f1 := pw_cell_below hB2 e1; have f2 := pw_cell_below hB2 e2; have f3 := pw_cell_below hB2 e3; have HB2 := Lib.hid hB2; clear hB2 hR))
      go_wp2
      go_ret
      exact ⟨by rw [H1.out]; simp, below_step ⟨HB1.out.os, HB1.out.tape, HB1.out.output, HB1.out.size, HB1.out.block⟩ HB2.out⟩
    · have h1' : ((said : Int) == ((way 0 l).length : Int)) = false := beq_eq_false_iff_ne.mpr (by omega)
      have h1'' : (said == (way 0 l).length) = false := beq_eq_false_iff_ne.mpr h1
      have H1 := Lib.hid (decide_eq_false h1)
      clear h1
      go_enter Try.func26, Try.ntmps26
      go_wp2
      refine wp_region_held_drew (S := (fun w' => w'.cell? ⟨r.M, 0, none⟩ = some (.slice r.A l.length r.cl) ∧ w'.cell? ⟨r.M, 1, none⟩ = some (.bool true) ∧ w'.cell? ⟨r.M, 2, none⟩ = some (.int .i64 said) ∧ w'.cell? ⟨r.M, 3, none⟩ = some (.slice Ah h ch))) (by kernel_rfl) ⟨d0, d1, d2, d3⟩ (fun hHeld => ?_)
      refine wpAnyH_take (i := 0) (oi := { dst := some 3, op := Go.Op.move (Go.Operand.tmp 0), type := 48, pos := "ref.go:41", after := #[], guard := none }) (v := ?_) rfl (by kernel_rfl) (by kernel_rfl) (by kernel_rfl) (fun _ _ _ h => h) (Or.inl ⟨by rfl, ?_⟩) hHeld ?_
      rotate_left
      · (intro w hSw; (try dsimp only at hSw); go_simp; (try with_reducible rfl))
      try simp only [Act.put, List.setIfInBounds_toArray, List.set_cons_zero, List.set_cons_succ]
      refine wpAnyH_take (i := 1) (oi := { dst := some 4, op := Go.Op.nilCheck (Go.Operand.tmp 3), type := 0, pos := "ref.go:41", after := #[{ on := 0, ground := Go.Ground.data }], guard := none }) (v := ?_) rfl (by kernel_rfl) (by kernel_rfl) (by kernel_rfl) (fun _ _ _ h => h) (Or.inl ⟨by rfl, ?_⟩) hHeld ?_
      rotate_left
      · (intro w hSw; (try dsimp only at hSw); go_simp; (try with_reducible rfl))
      try simp only [Act.put, List.setIfInBounds_toArray, List.set_cons_zero, List.set_cons_succ]
      refine wpAnyH_take (i := 2) (oi := { dst := some 5, op := Go.Op.fieldAddr 50 (Go.Operand.tmp 4) 0, type := 0, pos := "ref.go:41", after := #[{ on := 1, ground := Go.Ground.data }], guard := none }) (v := ?_) rfl (by kernel_rfl) (by kernel_rfl) (by kernel_rfl) (fun _ _ _ h => h) (Or.inl ⟨by rfl, ?_⟩) hHeld ?_
      rotate_left
      · (intro w hSw; (try dsimp only at hSw); go_simp; (try with_reducible rfl))
      try simp only [Act.put, List.setIfInBounds_toArray, List.set_cons_zero, List.set_cons_succ]
      refine wpAnyH_take (i := 3) (oi := { dst := some 6, op := Go.Op.fieldAddr 24 (Go.Operand.tmp 5) 1, type := 0, pos := "ref.go:41", after := #[{ on := 2, ground := Go.Ground.data }], guard := none }) (v := ?_) rfl (by kernel_rfl) (by kernel_rfl) (by kernel_rfl) (fun _ _ _ h => h) (Or.inl ⟨by rfl, ?_⟩) hHeld ?_
      rotate_left
      · (intro w hSw; (try dsimp only at hSw); go_simp; (try with_reducible rfl))
      try simp only [Act.put, List.setIfInBounds_toArray, List.set_cons_zero, List.set_cons_succ]
      refine wpAnyH_take (i := 4) (oi := { dst := some 7, op := Go.Op.load 4 (Go.Operand.tmp 6), type := 4, pos := "ref.go:41", after := #[{ on := 3, ground := Go.Ground.data }], guard := none }) (v := ?_) rfl (by kernel_rfl) (by kernel_rfl) (by kernel_rfl) (fun _ _ _ h => h) (Or.inl ⟨by rfl, ?_⟩) hHeld ?_
      rotate_left
      · (intro w hSw; (try dsimp only at hSw); go_simp; (try with_reducible rfl))
      try simp only [Act.put, List.setIfInBounds_toArray, List.set_cons_zero, List.set_cons_succ]
      refine wpAnyH_take (i := 5) (oi := { dst := some 8, op := Go.Op.move (Go.Operand.tmp 7), type := 4, pos := "ref.go:41", after := #[{ on := 4, ground := Go.Ground.data }], guard := none }) (v := ?_) rfl (by kernel_rfl) (by kernel_rfl) (by kernel_rfl) (fun _ _ _ h => h) (Or.inl ⟨by rfl, ?_⟩) hHeld ?_
      rotate_left
      · (intro w hSw; (try dsimp only at hSw); go_simp; (try with_reducible rfl))
      try simp only [Act.put, List.setIfInBounds_toArray, List.set_cons_zero, List.set_cons_succ]
      refine wpAnyH_take (i := 6) (oi := { dst := some 9, op := Go.Op.move (Go.Operand.tmp 0), type := 48, pos := "ref.go:41", after := #[{ on := 5, ground := Go.Ground.guard }], guard := some (5, true) }) (v := ?_) rfl (by kernel_rfl) (by kernel_rfl) (by kernel_rfl) (fun _ _ _ h => h) (Or.inl ⟨by rfl, ?_⟩) hHeld ?_
      rotate_left
      · (intro w hSw; (try dsimp only at hSw); go_simp; (try with_reducible rfl))
      try simp only [Act.put, List.setIfInBounds_toArray, List.set_cons_zero, List.set_cons_succ]
      refine wpAnyH_take (i := 7) (oi := { dst := some 10, op := Go.Op.nilCheck (Go.Operand.tmp 9), type := 0, pos := "ref.go:41", after := #[{ on := 6, ground := Go.Ground.data }, { on := 5, ground := Go.Ground.guard }], guard := some (5, true) }) (v := ?_) rfl (by kernel_rfl) (by kernel_rfl) (by kernel_rfl) (fun _ _ _ h => h) (Or.inl ⟨by rfl, ?_⟩) hHeld ?_
      rotate_left
      · (intro w hSw; (try dsimp only at hSw); go_simp; (try with_reducible rfl))
      try simp only [Act.put, List.setIfInBounds_toArray, List.set_cons_zero, List.set_cons_succ]
      refine wpAnyH_take (i := 8) (oi := { dst := some 11, op := Go.Op.fieldAddr 50 (Go.Operand.tmp 10) 1, type := 0, pos := "ref.go:41", after := #[{ on := 7, ground := Go.Ground.data }, { on := 5, ground := Go.Ground.guard }], guard := some (5, true) }) (v := ?_) rfl (by kernel_rfl) (by kernel_rfl) (by kernel_rfl) (fun _ _ _ h => h) (Or.inl ⟨by rfl, ?_⟩) hHeld ?_
      rotate_left
      · (intro w hSw; (try dsimp only at hSw); go_simp; (try with_reducible rfl))
      try simp only [Act.put, List.setIfInBounds_toArray, List.set_cons_zero, List.set_cons_succ]
      refine wpAnyH_take (i := 9) (oi := { dst := some 12, op := Go.Op.load 3 (Go.Operand.tmp 11), type := 3, pos := "ref.go:41", after := #[{ on := 8, ground := Go.Ground.data }, { on := 5, ground := Go.Ground.guard }], guard := some (5, true) }) (v := ?_) rfl (by kernel_rfl) (by kernel_rfl) (by kernel_rfl) (fun _ _ _ h => h) (Or.inl ⟨by rfl, ?_⟩) hHeld ?_
      rotate_left
      · (intro w hSw; (try dsimp only at hSw); go_simp; (try with_reducible rfl))
      try simp only [Act.put, List.setIfInBounds_toArray, List.set_cons_zero, List.set_cons_succ]
      refine wpAnyH_take (i := 10) (oi := { dst := some 13, op := Go.Op.move (Go.Operand.tmp 0), type := 48, pos := "ref.go:41", after := #[{ on := 5, ground := Go.Ground.guard }], guard := some (5, true) }) (v := ?_) rfl (by kernel_rfl) (by kernel_rfl) (by kernel_rfl) (fun _ _ _ h => h) (Or.inl ⟨by rfl, ?_⟩) hHeld ?_
      rotate_left
      · (intro w hSw; (try dsimp only at hSw); go_simp; (try with_reducible rfl))
      try simp only [Act.put, List.setIfInBounds_toArray, List.set_cons_zero, List.set_cons_succ]
      refine wpAnyH_take (i := 11) (oi := { dst := some 14, op := Go.Op.nilCheck (Go.Operand.tmp 13), type := 0, pos := "ref.go:41", after := #[{ on := 10, ground := Go.Ground.data }, { on := 5, ground := Go.Ground.guard }], guard := some (5, true) }) (v := ?_) rfl (by kernel_rfl) (by kernel_rfl) (by kernel_rfl) (fun _ _ _ h => h) (Or.inl ⟨by rfl, ?_⟩) hHeld ?_
      rotate_left
      · (intro w hSw; (try dsimp only at hSw); go_simp; (try with_reducible rfl))
      try simp only [Act.put, List.setIfInBounds_toArray, List.set_cons_zero, List.set_cons_succ]
      refine wpAnyH_take (i := 12) (oi := { dst := some 15, op := Go.Op.fieldAddr 50 (Go.Operand.tmp 14) 0, type := 0, pos := "ref.go:41", after := #[{ on := 11, ground := Go.Ground.data }, { on := 5, ground := Go.Ground.guard }], guard := some (5, true) }) (v := ?_) rfl (by kernel_rfl) (by kernel_rfl) (by kernel_rfl) (fun _ _ _ h => h) (Or.inl ⟨by rfl, ?_⟩) hHeld ?_
      rotate_left
      · (intro w hSw; (try dsimp only at hSw); go_simp; (try with_reducible rfl))
      try simp only [Act.put, List.setIfInBounds_toArray, List.set_cons_zero, List.set_cons_succ]
      refine wpAnyH_take (i := 13) (oi := { dst := some 16, op := Go.Op.fieldAddr 24 (Go.Operand.tmp 15) 0, type := 0, pos := "ref.go:41", after := #[{ on := 12, ground := Go.Ground.data }, { on := 5, ground := Go.Ground.guard }], guard := some (5, true) }) (v := ?_) rfl (by kernel_rfl) (by kernel_rfl) (by kernel_rfl) (fun _ _ _ h => h) (Or.inl ⟨by rfl, ?_⟩) hHeld ?_
      rotate_left
      · (intro w hSw; (try dsimp only at hSw); go_simp; (try with_reducible rfl))
      try simp only [Act.put, List.setIfInBounds_toArray, List.set_cons_zero, List.set_cons_succ]
      refine wpAnyH_take (i := 14) (oi := { dst := some 17, op := Go.Op.load 22 (Go.Operand.tmp 16), type := 22, pos := "ref.go:41", after := #[{ on := 13, ground := Go.Ground.data }, { on := 5, ground := Go.Ground.guard }], guard := some (5, true) }) (v := ?_) rfl (by kernel_rfl) (by kernel_rfl) (by kernel_rfl) (fun _ _ _ h => h) (Or.inl ⟨by rfl, ?_⟩) hHeld ?_
      rotate_left
      · (intro w hSw; (try dsimp only at hSw); go_simp; (try with_reducible rfl))
      try simp only [Act.put, List.setIfInBounds_toArray, List.set_cons_zero, List.set_cons_succ]
      refine wpAnyH_ready (rs := [15]) (by kernel_rfl) (by simp) ?_
      refine AllReadyH.cons (o := { dst := some 18, op := Go.Op.call { callee := Go.Callee.value (Go.Operand.func 12), args := #[Go.Operand.const (Go.Value.int Go.IntKind.i64 0), Go.Operand.tmp 17], argTypes := #[3, 22] }, type := 31, pos := "ref.go:41", after := #[{ on := 14, ground := Go.Ground.data }, { on := 5, ground := Go.Ground.chain }, { on := 5, ground := Go.Ground.guard }], guard := some (5, true) }) rfl (fun K hK => ?_) AllReadyH.nil
      go_simp
      refine (cuecardref04_Bytes.calls (l.length + 1) 0 r.A r.cl l _ _ HC.out hc HF0.out).mono ?_
      rintro e w1 ⟨v, rfl, hR, hB1⟩
      obtain ⟨Ao, co, rfl⟩ := Kd.R_slice hR
      have HB1 := Lib.hid hB1
      refine hK.out _ _ ⟨pw_cell_below hB1 d0, pw_cell_below hB1 d1, pw_cell_below hB1 d2, pw_cell_below hB1 d3⟩ (fun hHeld => ?_)
      clear hK K hB1 hR
      try simp only [Act.put, List.setIfInBounds_toArray, List.set_cons_zero, List.set_cons_succ]
      refine wpAnyH_take (i := 16) (oi := { dst := some 19, op := Go.Op.call { callee := Go.Callee.builtin Go.Builtin.len, args := #[Go.Operand.tmp 18], argTypes := #[31] }, type := 3, pos := "ref.go:41", after := #[{ on := 15, ground := Go.Ground.data }, { on := 5, ground := Go.Ground.guard }], guard := some (5, true) }) (v := ?_) rfl (by kernel_rfl) (by kernel_rfl) (by kernel_rfl) (fun _ _ _ h => h) (Or.inl ⟨by rfl, ?_⟩) hHeld ?_
      rotate_left
      · (intro w hSw; (try dsimp only at hSw); go_simp; (try with_reducible rfl))
      try simp only [Act.put, List.setIfInBounds_toArray, List.set_cons_zero, List.set_cons_succ]
      refine wpAnyH_take (i := 17) (oi := { dst := some 20, op := Go.Op.binOp Go.BinOp.eql 3 (Go.Operand.tmp 12) (Go.Operand.tmp 19) 3, type := 4, pos := "ref.go:41", after := #[{ on := 9, ground := Go.Ground.data }, { on := 16, ground := Go.Ground.data }, { on := 5, ground := Go.Ground.guard }], guard := some (5, true) }) (v := ?_) rfl (by kernel_rfl) (by kernel_rfl) (by kernel_rfl) (fun _ _ _ h => h) (Or.inl ⟨by rfl, ?_⟩) hHeld ?_
      rotate_left
      · (intro w hSw; (try dsimp only at hSw); go_simp; (try with_reducible rfl))
      try simp only [Act.put, List.setIfInBounds_toArray, List.set_cons_zero, List.set_cons_succ]
      refine wpAnyH_take (i := 18) (oi := { dst := some 21, op := Go.Op.pick (Go.Operand.tmp 8) (Go.Operand.tmp 20) (Go.Operand.const (Go.Value.bool false)), type := 4, pos := "ref.go:41", after := #[{ on := 5, ground := Go.Ground.data }, { on := 17, ground := Go.Ground.data }], guard := none }) (v := ?_) rfl (by kernel_rfl) (by kernel_rfl) (by kernel_rfl) (fun _ _ _ h => h) (Or.inl ⟨by rfl, ?_⟩) hHeld ?_
      rotate_left
      · (intro w hSw; (try dsimp only at hSw); go_simp; (try with_reducible rfl))
      try simp only [Act.put, List.setIfInBounds_toArray, List.set_cons_zero, List.set_cons_succ]
      refine wpAnyH_take (i := 19) (oi := { dst := some 22, op := Go.Op.move (Go.Operand.tmp 21), type := 4, pos := "ref.go:41", after := #[{ on := 18, ground := Go.Ground.data }, { on := 15, ground := Go.Ground.chain }], guard := none }) (v := ?_) rfl (by kernel_rfl) (by kernel_rfl) (by kernel_rfl) (fun _ _ _ h => h) (Or.inl ⟨by rfl, ?_⟩) hHeld ?_
      rotate_left
      · (intro w hSw; (try dsimp only at hSw); go_simp; (try with_reducible rfl))
      try simp only [Act.put, List.setIfInBounds_toArray, List.set_cons_zero, List.set_cons_succ]
      refine wpAnyH_take (i := 20) (oi := { dst := some 23, op := Go.Op.move (Go.Operand.tmp 0), type := 48, pos := "ref.go:41", after := #[{ on := 19, ground := Go.Ground.guard }], guard := some (19, true) }) (v := undef) rfl (by kernel_rfl) (by kernel_rfl) (by kernel_rfl) (fun _ _ _ h => h) (Or.inr ⟨by rfl, rfl⟩) hHeld ?_
      try simp only [Act.put, List.setIfInBounds_toArray, List.set_cons_zero, List.set_cons_succ]
      refine wpAnyH_take (i := 21) (oi := { dst := some 24, op := Go.Op.nilCheck (Go.Operand.tmp 23), type := 0, pos := "ref.go:41", after := #[{ on := 20, ground := Go.Ground.data }, { on := 19, ground := Go.Ground.guard }], guard := some (19, true) }) (v := undef) rfl (by kernel_rfl) (by kernel_rfl) (by kernel_rfl) (fun _ _ _ h => h) (Or.inr ⟨by rfl, rfl⟩) hHeld ?_
      try simp only [Act.put, List.setIfInBounds_toArray, List.set_cons_zero, List.set_cons_succ]
      refine wpAnyH_take (i := 22) (oi := { dst := some 25, op := Go.Op.fieldAddr 50 (Go.Operand.tmp 24) 2, type := 0, pos := "ref.go:41", after := #[{ on := 21, ground := Go.Ground.data }, { on := 19, ground := Go.Ground.guard }], guard := some (19, true) }) (v := undef) rfl (by kernel_rfl) (by kernel_rfl) (by kernel_rfl) (fun _ _ _ h => h) (Or.inr ⟨by rfl, rfl⟩) hHeld ?_
      try simp only [Act.put, List.setIfInBounds_toArray, List.set_cons_zero, List.set_cons_succ]
      refine wpAnyH_take (i := 23) (oi := { dst := some 26, op := Go.Op.load 31 (Go.Operand.tmp 25), type := 31, pos := "ref.go:41", after := #[{ on := 22, ground := Go.Ground.data }, { on := 19, ground := Go.Ground.guard }], guard := some (19, true) }) (v := undef) rfl (by kernel_rfl) (by kernel_rfl) (by kernel_rfl) (fun _ _ _ h => h) (Or.inr ⟨by rfl, rfl⟩) hHeld ?_
      try simp only [Act.put, List.setIfInBounds_toArray, List.set_cons_zero, List.set_cons_succ]
      refine wpAnyH_take (i := 24) (oi := { dst := some 27, op := Go.Op.call { callee := Go.Callee.builtin Go.Builtin.len, args := #[Go.Operand.tmp 26], argTypes := #[31] }, type := 3, pos := "ref.go:41", after := #[{ on := 23, ground := Go.Ground.data }, { on := 19, ground := Go.Ground.guard }], guard := some (19, true) }) (v := undef) rfl (by kernel_rfl) (by kernel_rfl) (by kernel_rfl) (fun _ _ _ h => h) (Or.inr ⟨by rfl, rfl⟩) hHeld ?_
      try simp only [Act.put, List.setIfInBounds_toArray, List.set_cons_zero, List.set_cons_succ]
      refine wpAnyH_take (i := 25) (oi := { dst := some 28, op := Go.Op.move (Go.Operand.tmp 0), type := 48, pos := "ref.go:41", after := #[{ on := 19, ground := Go.Ground.guard }], guard := some (19, true) }) (v := undef) rfl (by kernel_rfl) (by kernel_rfl) (by kernel_rfl) (fun _ _ _ h => h) (Or.inr ⟨by rfl, rfl⟩) hHeld ?_
      try simp only [Act.put, List.setIfInBounds_toArray, List.set_cons_zero, List.set_cons_succ]
      refine wpAnyH_take (i := 26) (oi := { dst := some 29, op := Go.Op.nilCheck (Go.Operand.tmp 28), type := 0, pos := "ref.go:41", after := #[{ on := 25, ground := Go.Ground.data }, { on := 19, ground := Go.Ground.guard }], guard := some (19, true) }) (v := undef) rfl (by kernel_rfl) (by kernel_rfl) (by kernel_rfl) (fun _ _ _ h => h) (Or.inr ⟨by rfl, rfl⟩) hHeld ?_
      try simp only [Act.put, List.setIfInBounds_toArray, List.set_cons_zero, List.set_cons_succ]
      refine wpAnyH_take (i := 27) (oi := { dst := some 30, op := Go.Op.fieldAddr 50 (Go.Operand.tmp 29) 0, type := 0, pos := "ref.go:41", after := #[{ on := 26, ground := Go.Ground.data }, { on := 19, ground := Go.Ground.guard }], guard := some (19, true) }) (v := undef) rfl (by kernel_rfl) (by kernel_rfl) (by kernel_rfl) (fun _ _ _ h => h) (Or.inr ⟨by rfl, rfl⟩) hHeld ?_
      try simp only [Act.put, List.setIfInBounds_toArray, List.set_cons_zero, List.set_cons_succ]
      refine wpAnyH_take (i := 28) (oi := { dst := some 31, op := Go.Op.fieldAddr 24 (Go.Operand.tmp 30) 0, type := 0, pos := "ref.go:41", after := #[{ on := 27, ground := Go.Ground.data }, { on := 19, ground := Go.Ground.guard }], guard := some (19, true) }) (v := undef) rfl (by kernel_rfl) (by kernel_rfl) (by kernel_rfl) (fun _ _ _ h => h) (Or.inr ⟨by rfl, rfl⟩) hHeld ?_
      try simp only [Act.put, List.setIfInBounds_toArray, List.set_cons_zero, List.set_cons_succ]
      refine wpAnyH_take (i := 29) (oi := { dst := some 32, op := Go.Op.load 22 (Go.Operand.tmp 31), type := 22, pos := "ref.go:41", after := #[{ on := 28, ground := Go.Ground.data }, { on := 19, ground := Go.Ground.guard }], guard := some (19, true) }) (v := undef) rfl (by kernel_rfl) (by kernel_rfl) (by kernel_rfl) (fun _ _ _ h => h) (Or.inr ⟨by rfl, rfl⟩) hHeld ?_
      try simp only [Act.put, List.setIfInBounds_toArray, List.set_cons_zero, List.set_cons_succ]
      refine wpAnyH_take (i := 30) (oi := { dst := some 33, op := Go.Op.call { callee := Go.Callee.value (Go.Operand.func 12), args := #[Go.Operand.const (Go.Value.int Go.IntKind.i64 1), Go.Operand.tmp 32], argTypes := #[3, 22] }, type := 31, pos := "ref.go:41", after := #[{ on := 29, ground := Go.Ground.data }, { on := 19, ground := Go.Ground.chain }, { on := 19, ground := Go.Ground.guard }], guard := some (19, true) }) (v := undef) rfl (by kernel_rfl) (by kernel_rfl) (by kernel_rfl) (fun _ _ _ h => h) (Or.inr ⟨by rfl, rfl⟩) hHeld ?_
      try simp only [Act.put, List.setIfInBounds_toArray, List.set_cons_zero, List.set_cons_succ]
      refine wpAnyH_take (i := 31) (oi := { dst := some 34, op := Go.Op.call { callee := Go.Callee.builtin Go.Builtin.len, args := #[Go.Operand.tmp 33], argTypes := #[31] }, type := 3, pos := "ref.go:41", after := #[{ on := 30, ground := Go.Ground.data }, { on := 19, ground := Go.Ground.guard }], guard := some (19, true) }) (v := undef) rfl (by kernel_rfl) (by kernel_rfl) (by kernel_rfl) (fun _ _ _ h => h) (Or.inr ⟨by rfl, rfl⟩) hHeld ?_
      try simp only [Act.put, List.setIfInBounds_toArray, List.set_cons_zero, List.set_cons_succ]
      refine wpAnyH_take (i := 32) (oi := { dst := some 35, op := Go.Op.binOp Go.BinOp.geq 3 (Go.Operand.tmp 27) (Go.Operand.tmp 34) 3, type := 4, pos := "ref.go:41", after := #[{ on := 24, ground := Go.Ground.data }, { on := 31, ground := Go.Ground.data }, { on := 19, ground := Go.Ground.guard }], guard := some (19, true) }) (v := undef) rfl (by kernel_rfl) (by kernel_rfl) (by kernel_rfl) (fun _ _ _ h => h) (Or.inr ⟨by rfl, rfl⟩) hHeld ?_
      try simp only [Act.put, List.setIfInBounds_toArray, List.set_cons_zero, List.set_cons_succ]
      refine wpAnyH_take (i := 33) (oi := { dst := some 36, op := Go.Op.pick (Go.Operand.tmp 22) (Go.Operand.tmp 35) (Go.Operand.const (Go.Value.bool false)), type := 4, pos := "ref.go:41", after := #[{ on := 19, ground := Go.Ground.data }, { on := 32, ground := Go.Ground.data }], guard := none }) (v := ?_) rfl (by kernel_rfl) (by kernel_rfl) (by kernel_rfl) (fun _ _ _ h => h) (Or.inl ⟨by rfl, ?_⟩) hHeld ?_
      rotate_left
      · (intro w hSw; (try dsimp only at hSw); go_simp; (try with_reducible rfl))
      try simp only [Act.put, List.setIfInBounds_toArray, List.set_cons_zero, List.set_cons_succ]
      refine wpAnyH_take (i := 34) (oi := { dst := some 2, op := Go.Op.assign (Go.Operand.tmp 36), type := 4, pos := "ref.go:41", after := #[{ on := 33, ground := Go.Ground.data }, { on := 30, ground := Go.Ground.chain }, { on := 0, ground := Go.Ground.phase }, { on := 1, ground := Go.Ground.phase }, { on := 2, ground := Go.Ground.phase }, { on := 3, ground := Go.Ground.phase }, { on := 4, ground := Go.Ground.phase }, { on := 5, ground := Go.Ground.phase }, { on := 6, ground := Go.Ground.phase }, { on := 7, ground := Go.Ground.phase }, { on := 8, ground := Go.Ground.phase }, { on := 9, ground := Go.Ground.phase }, { on := 10, ground := Go.Ground.phase }, { on := 11, ground := Go.Ground.phase }, { on := 12, ground := Go.Ground.phase }, { on := 13, ground := Go.Ground.phase }, { on := 14, ground := Go.Ground.phase }, { on := 15, ground := Go.Ground.phase }, { on := 16, ground := Go.Ground.phase }, { on := 17, ground := Go.Ground.phase }, { on := 18, ground := Go.Ground.phase }, { on := 19, ground := Go.Ground.phase }, { on := 20, ground := Go.Ground.phase }, { on := 21, ground := Go.Ground.phase }, { on := 22, ground := Go.Ground.phase }, { on := 23, ground := Go.Ground.phase }, { on := 24, ground := Go.Ground.phase }, { on := 25, ground := Go.Ground.phase }, { on := 26, ground := Go.Ground.phase }, { on := 27, ground := Go.Ground.phase }, { on := 28, ground := Go.Ground.phase }, { on := 29, ground := Go.Ground.phase }, { on := 30, ground := Go.Ground.phase }, { on := 31, ground := Go.Ground.phase }, { on := 32, ground := Go.Ground.phase }, { on := 33, ground := Go.Ground.phase }], guard := none }) (v := ?_) rfl (by kernel_rfl) (by kernel_rfl) (by kernel_rfl) (fun _ _ _ h => h) (Or.inl ⟨by rfl, ?_⟩) hHeld ?_
      rotate_left
      · (intro w hSw; (try dsimp only at hSw); go_simp; (try with_reducible rfl))
      try simp only [Act.put, List.setIfInBounds_toArray, List.set_cons_zero, List.set_cons_succ]
      refine wpAnyH_done (by kernel_rfl) ?_ _
      go_wp2
      go_ret
      exact ⟨by rw [H1.out]; simp, ⟨HB1.out.os, HB1.out.tape, HB1.out.output, HB1.out.size, HB1.out.block⟩⟩
/-- is what was heard a beginning of what the user said -/
def isBeg (inn hs : List Int) : Bool := decide (hs.length ≤ inn.length) && ((strOfNums (inn.take hs.length)).toList == (strOfNums hs).toList)
set_option maxRecDepth 100000 in
set_option maxHeartbeats 4000000 in
theorem ref_Right {W : World} {r : Ra} {l : List S40} {fin : Bool} {said ch : Nat} {Ah : Option Addr} {hs : List Int} (hr : RfAt W r l fin said (.slice Ah hs.length ch)) (hC : Kd.C k40 W r.A l.length l) (hc : l.length ≤ r.cl) (hl : small l) (hH : Kd.C (Kd.int .u8) W Ah hs.length hs) :
    Calls Try.prog 27 #[.pointer (some ⟨r.M, 0, none⟩)] W fun e W' => e = .returned (.bool (isBeg (way 1 l) hs)) ∧ Below W.heap.size W W' := by
  obtain ⟨c0, c1, c2, c3⟩ := hr.cells
  have HF1 := Lib.hid (refbytes_f 1 l hl (l.length + 1) (by omega))
  have HC := Lib.hid hC
  have HH := Lib.hid hH
  have HR := Lib.hid hr
  clear hC hr hH c1 c2 c3
  unfold isBeg
  by_cases hle : hs.length ≤ (way 1 l).length
  · have hle' := eq_true hle
    rw [decide_eq_true hle]
    go_enter Try.func27, Try.ntmps27
    go_wp2_with (fail)
    refine (cuecardref04_Bytes.calls (l.length + 1) 1 r.A r.cl l _ _ HC.out hc HF1.out).mono ?_
    rintro e w1 ⟨v, rfl, hR, hB1⟩
    obtain ⟨Ai, ci, rfl⟩ := Kd.R_slice hR
    have g3 := (HR.out.below hB1).cells.2.2.2
    have hcv1 : ∀ m, (convert 31 9 (.slice Ai hs.length ci)).run Try.prog (w1.drewN m) = .ok (.string (strOfNums ((way 1 l).take hs.length))) (w1.drewN m) := fun m => by
      have h1 := Kd.C_take (Kd.R_reads' hR).2.2 hle
      have hl : ((way 1 l).take hs.length).length = hs.length := by rw [List.length_take]; omega
      have h2 := Kd.C_string (P := Try.prog) (A := Ai) (c := ci) Try.underlying31 Try.underlying5 Try.underlying9 (Kd.C_drewN h1 m)
      rw [hl] at h2
      exact h2
    have hcv2 : ∀ m, (convert 31 9 (.slice Ah hs.length ch)).run Try.prog (w1.drewN m) = .ok (.string (strOfNums hs)) (w1.drewN m) := fun m => Kd.C_string (P := Try.prog) (A := Ah) (c := ch) Try.underlying31 Try.underlying5 Try.underlying9 (Kd.C_drewN (Kd.C_below HH.out hB1) m)
    obtain ⟨i, hi0, hsz⟩ := Option.map_eq_some_iff.1 (show (Try.prog.info? 5).map (·.size) = some 1 by kernel_rfl)
    have hcut := cut_to (P := Try.prog) 31 5 .i64 Try.underlying31 hi0 Ai (way 1 l).length ci (hs.length : Int) (by omega) (by omega) (Kd.R_reads' hR).2.1
    rw [Int.toNat_natCast] at hcut
    have HB1 := Lib.hid hB1
    clear hR hB1 c0 hi0 hsz hle
    go_wp2_with (fail)
    go_quiet (fail)
    go_wp2
    go_ret
    exact ⟨by simp, pw_below_drewN HB1.out _⟩
  · have hle' := eq_false hle
    rw [decide_eq_false hle]
    go_enter Try.func27, Try.ntmps27
    go_wp2_with (fail)
    refine (cuecardref04_Bytes.calls (l.length + 1) 1 r.A r.cl l _ _ HC.out hc HF1.out).mono ?_
    rintro e w1 ⟨v, rfl, hR, hB1⟩
    obtain ⟨Ai, ci, rfl⟩ := Kd.R_slice hR
    have g3 := (HR.out.below hB1).cells.2.2.2
    have hle'' : decide ((hs.length : Int) ≤ ((way 1 l).length : Int)) = false := decide_eq_false (by omega)
    have HB1 := Lib.hid hB1
    clear hR hB1 c0 hle
    go_wp2_with (fail)
    go_quiet (fail)
    go_wp2
    go_ret
    exact ⟨by simp, pw_below_drewN HB1.out _⟩
theorem beg_hear {c : Pc} {s : Pz} {hs b : List Int} (h1 : s.heard = hs.length) (h2 : s.right = isBeg c.inn hs) : (s.hear c b).right = isBeg c.inn (hs ++ b) := by
  show (s.right && (decide (b.length + s.heard ≤ c.inn.length) && ((strOfNums b).toList == (strOfNums ((c.inn.drop s.heard).take b.length)).toList))) = _
  rw [h2, h1]
  unfold isBeg
  rw [List.length_append]
  by_cases h : hs.length + b.length ≤ c.inn.length
  · rw [decide_eq_true h, decide_eq_true (show hs.length ≤ c.inn.length by omega), decide_eq_true (show b.length + hs.length ≤ c.inn.length by omega), List.take_add]
    simp only [Bool.true_and]
    rw [Bool.eq_iff_iff, Bool.and_eq_true, beq_iff_eq, beq_iff_eq, beq_iff_eq]
    simp only [Go.Lib.strOfNums_toList, Go.Lib.bytesOf, List.map_append]
    have hl : ((c.inn.take hs.length).map fun n => UInt8.ofNat n.toNat).length = (hs.map fun n => UInt8.ofNat n.toNat).length := by rw [List.length_map, List.length_map, List.length_take]; omega
    constructor
    · rintro ⟨e1, e2⟩
      rw [e1, e2]
    · intro e
      obtain ⟨e1, e2⟩ := List.append_inj e hl
      exact ⟨e1, e2.symm⟩
  · rw [decide_eq_false h, decide_eq_false (show ¬ b.length + hs.length ≤ c.inn.length by omega)]
    simp
theorem rpeek_eq (l : List S40) (fin : Bool) (s : Pz) (n : Int) : rpeek l s.said (due' (s.heard : Int) 0 0 l) n = s.peek (Pc.of l fin) n := by
  unfold rpeek Pz.peek
  rw [← due_mrg]
  rfl
/-- append(v, ys...), run -/
theorem append_c {W : World} {base : Nat} {v : Value} {xs ys : List Int} {A : Option Addr} {c : Nat} (HO : Kd.R (Kd.int .u8) 5 W base (fun _ => True) v xs) (HR : Kd.C (Kd.int .u8) W A ys.length ys) (hbase : base ≤ W.heap.size) (hl : xs.length + ys.length ≤ 140737488355328) (ty : TypeId) :
    ∃ v1 w1, (Builtin.append_ #[31, 31] ty #[v, .slice A ys.length c]).run Try.prog W = .ok v1 w1 ∧ Kd.R (Kd.int .u8) 5 w1 base (fun _ => True) v1 (xs ++ ys) ∧ W.grownBy w1 v.ownBlock ∧ ∃ A1 c1, v1 = .slice A1 (xs ++ ys).length c1 := by
  obtain ⟨v1, w1, h1, h2, h3, h4⟩ := run_append_row (P := Try.prog) base 31 ty 5 .u8 1 Try.underlying31 info5 (by decide) v xs ys A ys.length c (Kd.own_of_R HO) (Kd.reads_of_C (d := (0 : Int)) (h1 := fun _ => rfl) HR) hbase (by omega)
  exact ⟨v1, w1, h1, Kd.R_of_own h2 (fun _ _ => trivial), h3, h4⟩
end Go.Proofs.Ytpcednpkkimehaa.QA
