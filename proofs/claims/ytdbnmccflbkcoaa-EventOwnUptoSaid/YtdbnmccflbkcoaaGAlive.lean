/- What is proved here: the document's example of chapter 04 (the law's alive) returns true. -/
import Derived.Lib.SmallJoins
import Derived.Test.YtdbnmccflbkcoaaGBytes
import Derived.Test.YtdbnmccflbkcoaaQAx1
import Derived.Test.YtdbnmccflbkcoaaQAx0
namespace Go.Proofs.Ytdbnmccflbkcoaa.QA
open Go.RowKit Go.Proofs.YtdbnmccflbkcoaaW.PrintWords Go.Proofs.YtdbnmccflbkcoaaW.PrintLast Go.Proofs.YtdbnmccflbkcoaaW.PrintMore
set_option linter.unusedVariables false
set_option linter.unusedSimpArgs false
/-- the document's example -/
def exEv : List S32 := [⟨0, 0, [97, 98]⟩, ⟨1, 0, [120]⟩, ⟨0, 0, [99]⟩, ⟨1, 0, [121]⟩, ⟨0, 0, [100]⟩]
theorem reads_u8 {w : World} {b : Nat} {xs : List Int} (h : ∀ j, j < xs.length → w.cell? ⟨b, j, none⟩ = some (.int .u8 (xs.getD j 0))) (hl : xs.length ≤ 9223372036854775807) : (Kd.int .u8).C w (some ⟨b, 0, none⟩) xs.length xs :=
  Kd.C_of_reads (d := (0 : Int)) (h1 := fun _ => rfl) (show ReadsInt w .u8 (some ⟨b, 0, none⟩) xs.length xs from ⟨rfl, hl, fun _ => ⟨_, rfl, fun j hj => by rw [add_plain]; exact h j hj⟩⟩)
theorem reads_k32 {w : World} {b : Nat} {l : List S32} (hl : l.length ≤ 9223372036854775807) (bs : Nat → Nat) (cs : Nat → Nat)
    (h : ∀ j x, l[j]? = some x → w.cell? ⟨b, j * 3, none⟩ = some (.int .i64 x.f0) ∧ w.cell? ⟨b, j * 3 + 1, none⟩ = some (.int .i64 x.f1) ∧ w.cell? ⟨b, j * 3 + 2, none⟩ = some (.slice (some ⟨bs j, 0, none⟩) x.f2.length (cs j)) ∧ x.f2.length ≤ cs j ∧ (Kd.int .u8).C w (some ⟨bs j, 0, none⟩) x.f2.length x.f2) :
    Kd.C k32 w (some ⟨b, 0, none⟩) l.length l := by
  refine ⟨rfl, hl, fun _ => ⟨_, rfl, fun j x hj => ?_⟩⟩
  obtain ⟨h0, h1, h2, h3, h4⟩ := h j x hj
  refine ⟨_, rfl, k32_mk w x h3 h4, fun i u hu => ?_⟩
  rw [add_plain]
  show w.cell? ⟨b, j * 3 + i, none⟩ = some u
  match i, hu with
  | 0, hu => injection hu with hu; subst hu; exact h0
  | 1, hu => injection hu with hu; subst hu; exact h1
  | 2, hu => injection hu with hu; subst hu; exact h2
set_option maxRecDepth 100000 in
set_option maxHeartbeats 2000000 in
theorem cuecardlaw04_aliveT (w : World) :
    Calls Try.prog 11 #[] w fun e w' => e = .returned (.bool true) ∧ Below w.heap.size w w' := by
  have kc := fun (w : World) (C : Array Value) (n c g : Nat) (hg : g = w.heap.size) => Joins.run_convert_bytes_const_at (P := Try.prog) w 26 5 C n c g hg Try.underlying26 Try.underlying5
  have d0 : event_Due.f 10 0 exEv = some 2 := by decide +kernel
  have d1 : event_Due.f 10 1 exEv = some 3 := by decide +kernel
  have d2 : event_Due.f 10 2 exEv = some 4 := by decide +kernel
  have dB : event_Bytes.f 10 0 exEv = some [97, 98, 99, 100] := by decide +kernel
  go_enter Try.func11, Try.ntmps11
  go_wp2_with (fail)
  clear kc
  obtain ⟨W1, hW1, hB, hC⟩ : ∃ W1, ((((((w.alloc (Obj.cells #[Value.int IntKind.u8 97, Value.int IntKind.u8 98] 5 (2, 3))).alloc (Obj.cells #[Value.int IntKind.u8 120] 5 (1, 2))).alloc (Obj.cells #[Value.int IntKind.u8 99] 5 (1, 2))).alloc
    (Obj.cells #[Value.int IntKind.u8 121] 5 (1, 2))).alloc (Obj.cells #[Value.int IntKind.u8 100] 5 (1, 2))).alloc
      (Obj.cells
        #[Value.int IntKind.i64 0, Value.int IntKind.i64 0, Value.slice (some { block := w.heap.size, off := 0 }) 2 2,
          Value.int IntKind.i64 1, Value.int IntKind.i64 0,
          Value.slice (some { block := w.heap.size + 1, off := 0 }) 1 1, Value.int IntKind.i64 0,
          Value.int IntKind.i64 0, Value.slice (some { block := w.heap.size + 1 + 1, off := 0 }) 1 1,
          Value.int IntKind.i64 1, Value.int IntKind.i64 0,
          Value.slice (some { block := w.heap.size + 1 + 1 + 1, off := 0 }) 1 1, Value.int IntKind.i64 0,
          Value.int IntKind.i64 0, Value.slice (some { block := w.heap.size + 1 + 1 + 1 + 1, off := 0 }) 1 1]
        32)) = W1 ∧ Below w.heap.size w W1 ∧ Kd.C k32 W1 (some ⟨w.heap.size + 1 + 1 + 1 + 1 + 1, 0, none⟩) exEv.length exEv := by
    clear d0 d1 d2 dB
    refine ⟨_, rfl, ?_, ?_⟩
    · exact ((((((Below.refl _ w).alloc (Nat.le_refl _) _).alloc (by simp) _).alloc (by simp; omega) _).alloc (by simp; omega) _).alloc (by simp; omega) _).alloc (by simp; omega) _
    · refine reads_k32 (by decide) (fun j => match j with | 0 => w.heap.size | 1 => w.heap.size + 1 | 2 => w.heap.size + 1 + 1 | 3 => w.heap.size + 1 + 1 + 1 | _ => w.heap.size + 1 + 1 + 1 + 1) (fun j => match j with | 0 => 2 | _ => 1) ?_
      intro j x hj
      match j, hj with
      | 0, hj => injection hj with hj; subst hj; exact ⟨by go_simp, by go_simp, by go_simp, by decide, reads_u8 (xs := [97, 98]) (fun j hj => by match j, hj with | 0, _ => (go_simp; exact (Joins.cell_alloc_mark_at _ _ _ _ _ _ (by simp)).trans rfl) | 1, _ => (go_simp; exact (Joins.cell_alloc_mark_at _ _ _ _ _ _ (by simp)).trans rfl)) (by decide)⟩
      | 1, hj => injection hj with hj; subst hj; exact ⟨by go_simp, by go_simp, by go_simp, by decide, reads_u8 (xs := [120]) (fun j hj => by match j, hj with | 0, _ => (go_simp; exact (Joins.cell_alloc_mark_at _ _ _ _ _ _ (by simp)).trans rfl)) (by decide)⟩
      | 2, hj => injection hj with hj; subst hj; exact ⟨by go_simp, by go_simp, by go_simp, by decide, reads_u8 (xs := [99]) (fun j hj => by match j, hj with | 0, _ => (go_simp; exact (Joins.cell_alloc_mark_at _ _ _ _ _ _ (by simp)).trans rfl)) (by decide)⟩
      | 3, hj => injection hj with hj; subst hj; exact ⟨by go_simp, by go_simp, by go_simp, by decide, reads_u8 (xs := [121]) (fun j hj => by match j, hj with | 0, _ => (go_simp; exact (Joins.cell_alloc_mark_at _ _ _ _ _ _ (by simp)).trans rfl)) (by decide)⟩
      | 4, hj => injection hj with hj; subst hj; exact ⟨by go_simp, by go_simp, by go_simp, by decide, reads_u8 (xs := [100]) (fun j hj => by match j, hj with | 0, _ => (go_simp; exact (Joins.cell_alloc_mark_at _ _ _ _ _ _ (by simp)).trans rfl)) (by decide)⟩
  rw [hW1]
  clear hW1
  have D0 := Lib.hid d0
  have D1 := Lib.hid d1
  have D2 := Lib.hid d2
  have DB := Lib.hid dB
  clear d0 d1 d2 dB
  refine (event_Due.calls 10 0 _ _ exEv 2 _ hC (by decide) D0.out).mono ?_
  rintro e w1 ⟨rfl, hb1⟩
  have hC1 := Kd.C_below hC hb1
  have hB1 := below_step hB hb1
  clear hC hB hb1
  go_wp2_with (fail)
  refine (event_Due.calls 10 1 _ _ exEv 3 _ hC1 (by decide) D1.out).mono ?_
  rintro e w2 ⟨rfl, hb1⟩
  have hC := Kd.C_below hC1 hb1
  have hB := below_step hB1 hb1
  clear hC1 hB1 hb1
  go_wp2_with (fail)
  refine (event_Due.calls 10 2 _ _ exEv 4 _ hC (by decide) D2.out).mono ?_
  rintro e w3 ⟨rfl, hb1⟩
  have hC1 := Kd.C_below hC hb1
  have hB1 := below_step hB hb1
  clear hC hB hb1
  go_wp2_with (fail)
  refine (event_Bytes.calls 10 0 _ _ exEv [97, 98, 99, 100] _ hC1 (by decide) DB.out).mono ?_
  rintro e w4 ⟨v, rfl, hR, hb1⟩
  have hB := below_step hB1 hb1
  have hcv := own_string (P := Try.prog) Try.underlying26 Try.underlying5 Try.underlying9 (Kd.own_of_R hR)
  clear hC1 hB1 hb1 hR
  go_wp2
  go_ret
  exact ⟨by first | rfl | (simp; decide +kernel), by repeat (first | exact hB | apply below_alloc | apply pw_below_drewN | apply below_drew1)⟩
/-- the example holds -/
def cuecardlaw04_alive.f (k : Nat) : Option Bool := some true
theorem cuecardlaw04_alive.mono : ∀ k, LeO (cuecardlaw04_alive.f k ) (cuecardlaw04_alive.f (k + 1) ) := fun _ => LeO.refl _
theorem cuecardlaw04_alive.calls (k : Nat)  (r : Bool) (w : World) (h : cuecardlaw04_alive.f k  = some r) :
    Calls Try.prog 11 #[] w fun e w' => e = .returned (.bool r) ∧ Below w.heap.size w w' := by
  obtain rfl := Option.some.inj h
  exact cuecardlaw04_aliveT w
end Go.Proofs.Ytdbnmccflbkcoaa.QA
