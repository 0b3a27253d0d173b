import Derived.RangeFuncNested
import Derived.RangeFuncBound
import Derived.RangeFuncCalls
import Derived.RangeFuncLeaves
import Derived.Shelf.Abstract
import Derived.Shelf.RegionOpen
import Derived.WalkKit
import Derived.OwnWalkIn
import Derived.TacticsInMore
import Derived.LoopNIn
import Derived.LoopIn
import Derived.Maps.AppendAt
import Derived.StillTailTactics
import Derived.Lib.Hide
import Derived.Outline
import Derived.Deep.RegionWith
import Derived.Deep.RegionLaw
import Derived.Deep.AppendLies
import Derived.Test.YtjcaflhlilckgaaGOf
import Derived.Test.YtjcaflhlilckgaaGLaw
import Derived.CallsIn
import Derived.Lib.SmallJoins
import Derived.Test.YtjcaflhlilckgaaQAx1
namespace Go.Proofs.Ytjcaflhlilckgaa.QA
open Go.RowKit Go.Shelf Go.Proofs.YtjcaflhlilckgaaW.PrintWords Go.Proofs.YtjcaflhlilckgaaW.PrintLast Go.Proofs.YtjcaflhlilckgaaW.PrintMore
set_option linter.unusedVariables false
set_option linter.unusedSimpArgs false
/-! ### the document's example -/
theorem reads_u8 {w : World} {b : Nat} {xs : List Int} (h : ∀ j, j < xs.length → w.cell? ⟨b, j, none⟩ = some (.int .u8 (xs.getD j 0))) (hl : xs.length ≤ 9223372036854775807) : (Kd.int .u8).C w (some ⟨b, 0, none⟩) xs.length xs :=
  Kd.C_of_reads (d := (0 : Int)) (h1 := fun _ => rfl) (show ReadsInt w .u8 (some ⟨b, 0, none⟩) xs.length xs from ⟨rfl, hl, fun _ => ⟨_, rfl, fun j hj => by rw [add_plain]; exact h j hj⟩⟩)
theorem reads_k37 {w : World} {b : Nat} {l : List S37} (hl : l.length ≤ 9223372036854775807) (bs : Nat → Nat) (cs : Nat → Nat)
    (h : ∀ j x, l[j]? = some x → w.cell? ⟨b, j * 3, none⟩ = some (.int .i64 x.f0) ∧ w.cell? ⟨b, j * 3 + 1, none⟩ = some (.int .i64 x.f1) ∧ w.cell? ⟨b, j * 3 + 2, none⟩ = some (.slice (some ⟨bs j, 0, none⟩) x.f2.length (cs j)) ∧ x.f2.length ≤ cs j ∧ (Kd.int .u8).C w (some ⟨bs j, 0, none⟩) x.f2.length x.f2) :
    Kd.C k37 w (some ⟨b, 0, none⟩) l.length l := by
  refine ⟨rfl, hl, fun _ => ⟨_, rfl, fun j x hj => ?_⟩⟩
  obtain ⟨h0, h1, h2, h3, h4⟩ := h j x hj
  refine ⟨_, rfl, k37_mk w x h3 h4, fun i u hu => ?_⟩
  rw [add_plain]
  show w.cell? ⟨b, j * 3 + i, none⟩ = some u
  match i, hu with
  | 0, hu => injection hu with hu; subst hu; exact h0
  | 1, hu => injection hu with hu; subst hu; exact h1
  | 2, hu => injection hu with hu; subst hu; exact h2
theorem reads_k33 {w : World} {b : Nat} {l : List S33} (hl : l.length ≤ 9223372036854775807) (a0 a1 : Nat → Option Addr) (c0 c1 : Nat → Nat)
    (h : ∀ j x, l[j]? = some x → w.cell? ⟨b, j * 2, none⟩ = some (.slice (a0 j) x.f0.length (c0 j)) ∧ w.cell? ⟨b, j * 2 + 1, none⟩ = some (.slice (a1 j) x.f1.length (c1 j)) ∧ x.f0.length ≤ c0 j ∧ (Kd.int .u8).C w (a0 j) x.f0.length x.f0 ∧ x.f1.length ≤ c1 j ∧ (Kd.int .u8).C w (a1 j) x.f1.length x.f1) :
    Kd.C k33 w (some ⟨b, 0, none⟩) l.length l := by
  refine ⟨rfl, hl, fun _ => ⟨_, rfl, fun j x hj => ?_⟩⟩
  obtain ⟨h0, h1, h2, h3, h4, h5⟩ := h j x hj
  refine ⟨_, rfl, k33_mk w x h2 h3 h4 h5, fun i u hu => ?_⟩
  rw [add_plain]
  show w.cell? ⟨b, j * 2 + i, none⟩ = some u
  match i, hu with
  | 0, hu => injection hu with hu; subst hu; exact h0
  | 1, hu => injection hu with hu; subst hu; exact h1
def exEv : List S37 := [⟨0, 0, [97]⟩, ⟨0, 0, [98]⟩, ⟨1, 0, [120]⟩, ⟨0, 0, [99]⟩]
def exTu : List S33 := [⟨[97, 98], [120]⟩, ⟨[99], []⟩]
set_option maxRecDepth 100000 in
set_option maxHeartbeats 2000000 in
theorem cuecardlaw10_aliveT (w : World) :
    Calls Try.prog 9 #[] w fun e w' => e = .returned (.bool true) ∧ Below w.heap.size w w' := by
  have kc := fun (w : World) (C : Array Value) (n c g : Nat) (hg : g = w.heap.size) => Joins.run_convert_bytes_const_at (P := Try.prog) w 31 5 C n c g hg Try.underlying31 Try.underlying5
  have d0 : turn_Of.f 20 exEv = some exTu := by kernel_rfl
  have d1 : cuecardref10_Same.f 20 exTu exTu = some true := by decide +kernel
  go_enter Try.func9, Try.ntmps9
  have KC := Lib.hid kc
  go_wp2_with (fail)
  clear kc
  obtain ⟨W1, hW1, hB, hC⟩ : ∃ W1, (((((w.alloc (Obj.cells #[Value.int IntKind.u8 97] 5 (1, 2))).alloc (Obj.cells #[Value.int IntKind.u8 98] 5 (1, 2))).alloc (Obj.cells #[Value.int IntKind.u8 120] 5 (1, 2))).alloc (Obj.cells #[Value.int IntKind.u8 99] 5 (1, 2))).alloc
      (Obj.cells
        #[Value.int IntKind.i64 0, Value.int IntKind.i64 0, Value.slice (some { block := w.heap.size, off := 0 }) 1 1,
          Value.int IntKind.i64 0, Value.int IntKind.i64 0,
          Value.slice (some { block := w.heap.size + 1, off := 0 }) 1 1, Value.int IntKind.i64 1,
          Value.int IntKind.i64 0, Value.slice (some { block := w.heap.size + 1 + 1, off := 0 }) 1 1,
          Value.int IntKind.i64 0, Value.int IntKind.i64 0,
          Value.slice (some { block := w.heap.size + 1 + 1 + 1, off := 0 }) 1 1]
        37)) = W1 ∧ Below w.heap.size w W1 ∧ Kd.C k37 W1 (some ⟨w.heap.size + 1 + 1 + 1 + 1, 0, none⟩) exEv.length exEv := by
    clear d0 d1
    refine ⟨_, rfl, ?_, ?_⟩
    · exact (((((Below.refl _ w).alloc (Nat.le_refl _) _).alloc (by simp) _).alloc (by simp; omega) _).alloc (by simp; omega) _).alloc (by simp; omega) _
    · refine reads_k37 (by decide) (fun j => match j with | 0 => w.heap.size | 1 => w.heap.size + 1 | 2 => w.heap.size + 1 + 1 | _ => w.heap.size + 1 + 1 + 1) (fun j => 1) ?_
      intro j x hj
      match j, hj with
      | 0, hj => injection hj with hj; subst hj; exact ⟨by go_simp, by go_simp, by go_simp, by decide, reads_u8 (xs := [97]) (fun j hj => by match j, hj with | 0, _ => (go_simp; exact (Joins.cell_alloc_mark_at _ _ _ _ _ _ (by simp)).trans rfl)) (by decide)⟩
      | 1, hj => injection hj with hj; subst hj; exact ⟨by go_simp, by go_simp, by go_simp, by decide, reads_u8 (xs := [98]) (fun j hj => by match j, hj with | 0, _ => (go_simp; exact (Joins.cell_alloc_mark_at _ _ _ _ _ _ (by simp)).trans rfl)) (by decide)⟩
      | 2, hj => injection hj with hj; subst hj; exact ⟨by go_simp, by go_simp, by go_simp, by decide, reads_u8 (xs := [120]) (fun j hj => by match j, hj with | 0, _ => (go_simp; exact (Joins.cell_alloc_mark_at _ _ _ _ _ _ (by simp)).trans rfl)) (by decide)⟩
      | 3, hj => injection hj with hj; subst hj; exact ⟨by go_simp, by go_simp, by go_simp, by decide, reads_u8 (xs := [99]) (fun j hj => by match j, hj with | 0, _ => (go_simp; exact (Joins.cell_alloc_mark_at _ _ _ _ _ _ (by simp)).trans rfl)) (by decide)⟩
  rw [hW1]
  clear hW1
  have D0 := Lib.hid d0
  have D1 := Lib.hid d1
  clear d0 d1
  refine (turn_Of.callsR 20 _ _ exEv exTu _ hC (by decide) D0.out).mono ?_
  rintro e w1 ⟨v, rfl, hR, hb1⟩
  have hB1 := below_step hB hb1
  clear hC hB hb1
  obtain ⟨Av, cv, rfl⟩ := Kd.R_slice hR
  have kc := KC.out
  go_wp2_with (fail)
  clear kc
  obtain ⟨W2, hW2, hB2, hC2⟩ : ∃ W2, ((((w1.alloc (Obj.cells #[Value.int IntKind.u8 97, Value.int IntKind.u8 98] 5 (2, 3))).alloc (Obj.cells #[Value.int IntKind.u8 120] 5 (1, 2))).alloc (Obj.cells #[Value.int IntKind.u8 99] 5 (1, 2))).alloc
      (Obj.cells
        #[Value.slice (some { block := w1.heap.size, off := 0 }) 2 2, Value.slice (some { block := w1.heap.size + 1, off := 0 }) 1 1,
          Value.slice (some { block := w1.heap.size + 1 + 1, off := 0 }) 1 1, Value.slice none 0 0]
        33)) = W2 ∧ Below w1.heap.size w1 W2 ∧ Kd.C k33 W2 (some ⟨w1.heap.size + 1 + 1 + 1, 0, none⟩) exTu.length exTu := by
    clear D0 D1 hR
    refine ⟨_, rfl, ?_, ?_⟩
    · exact ((((Below.refl _ w1).alloc (Nat.le_refl _) _).alloc (by simp) _).alloc (by simp; omega) _).alloc (by simp; omega) _
    · refine reads_k33 (by decide) (fun j => match j with | 0 => some ⟨w1.heap.size, 0, none⟩ | _ => some ⟨w1.heap.size + 1 + 1, 0, none⟩) (fun j => match j with | 0 => some ⟨w1.heap.size + 1, 0, none⟩ | _ => none) (fun j => match j with | 0 => 2 | _ => 1) (fun j => match j with | 0 => 1 | _ => 0) ?_
      intro j x hj
      match j, hj with
      | 0, hj => injection hj with hj; subst hj; exact ⟨by go_simp, by go_simp, by decide, reads_u8 (xs := [97, 98]) (fun j hj => by match j, hj with | 0, _ => (go_simp; exact (Joins.cell_alloc_mark_at _ _ _ _ _ _ (by simp)).trans rfl) | 1, _ => (go_simp; exact (Joins.cell_alloc_mark_at _ _ _ _ _ _ (by simp)).trans rfl)) (by decide), by decide, reads_u8 (xs := [120]) (fun j hj => by match j, hj with | 0, _ => (go_simp; exact (Joins.cell_alloc_mark_at _ _ _ _ _ _ (by simp)).trans rfl)) (by decide)⟩
      | 1, hj => injection hj with hj; subst hj; exact ⟨by go_simp, by go_simp, by decide, reads_u8 (xs := [99]) (fun j hj => by match j, hj with | 0, _ => (go_simp; exact (Joins.cell_alloc_mark_at _ _ _ _ _ _ (by simp)).trans rfl)) (by decide), by decide, Kd.C_nil _ _⟩
  have hB3 := below_step hB1 hB2
  have hC1 := Kd.C_below (Kd.R_reads' hR).2.2 hB2
  have hl1 := (Kd.R_reads' hR).2.1
  clear hR hB1 hB2
  rw [hW2]
  clear hW2
  refine (cuecardref10_Same.calls 20 _ _ exTu _ _ exTu true _ hC1 hl1 hC2 (by decide) D1.out).mono ?_
  rintro e w2 ⟨rfl, hb1⟩
  have hB4 := below_step hB3 hb1
  go_wp2
  go_ret
  exact ⟨rfl, hB4⟩
/-- the example holds -/
def cuecardlaw10_alive.f (k : Nat) : Option Bool := some true
theorem cuecardlaw10_alive.mono : ∀ k, LeO (cuecardlaw10_alive.f k ) (cuecardlaw10_alive.f (k + 1) ) := fun _ => LeO.refl _
theorem cuecardlaw10_alive.calls (k : Nat)  (r : Bool) (w : World) (h : cuecardlaw10_alive.f k  = some r) :
    Calls Try.prog 9 #[] w fun e w' => e = .returned (.bool r) ∧ Below w.heap.size w w' := by
  obtain rfl := Option.some.inj h
  exact cuecardlaw10_aliveT w
end Go.Proofs.Ytjcaflhlilckgaa.QA
