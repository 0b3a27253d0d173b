import Derived.RangeFuncNested
import Derived.RangeFuncBound
import Derived.RangeFuncCalls
import Derived.RangeFuncLeaves
import Derived.Shelf.Abstract
import Derived.Shelf.RegionOpen
import Derived.WalkKit
import Derived.OwnWalkIn
import Derived.TacticsInMore
import Derived.LoopNIn
import Derived.LoopIn
import Derived.Maps.AppendAt
import Derived.StillTailTactics
import Derived.Lib.Hide
import Derived.Lib.LazyBuf
import Derived.Outline
import Derived.Deep.RegionWith
import Derived.Deep.RegionLaw
import Derived.Deep.AppendLies
import Derived.CallsIn
import Derived.Lib.SmallJoins
import Derived.Laws.EntriesVeiled
import Derived.Deep.RegionHeld3
import Derived.BigRegion
import Derived.BigQuiet
import Derived.Test.YtpcednpkkimehaaPPl
import Derived.Test.YtpcednpkkimehaaGNew
namespace Go.Proofs.Ytpcednpkkimehaa.QA
open Go.RowKit Go.Shelf Go.Proofs.YtpcednpkkimehaaW.PrintWords Go.Proofs.YtpcednpkkimehaaW.PrintLast Go.Proofs.YtpcednpkkimehaaW.PrintMore
attribute [local go_sem] max2_int min2_int max_two min_two max_three min_three max_four min_four   -- for this text's walks alone
set_option linter.unusedVariables false
set_option linter.unusedSimpArgs false
theorem reads_u8 {w : World} {b : Nat} {xs : List Int} (h : ∀ j, j < xs.length → w.cell? ⟨b, j, none⟩ = some (.int .u8 (xs.getD j 0))) (hl : xs.length ≤ 9223372036854775807) : (Kd.int .u8).C w (some ⟨b, 0, none⟩) xs.length xs :=
  Kd.C_of_reads (d := (0 : Int)) (h1 := fun _ => rfl) (show ReadsInt w .u8 (some ⟨b, 0, none⟩) xs.length xs from ⟨rfl, hl, fun _ => ⟨_, rfl, fun j hj => by rw [add_plain]; exact h j hj⟩⟩)
theorem reads_k40 {w : World} {b : Nat} {l : List S40} (hl : l.length ≤ 9223372036854775807) (bs : Nat → Nat) (cs : Nat → Nat)
    (h : ∀ j x, l[j]? = some x → w.cell? ⟨b, j * 3, none⟩ = some (.int .i64 x.f0) ∧ w.cell? ⟨b, j * 3 + 1, none⟩ = some (.int .i64 x.f1) ∧ w.cell? ⟨b, j * 3 + 2, none⟩ = some (.slice (some ⟨bs j, 0, none⟩) x.f2.length (cs j)) ∧ x.f2.length ≤ cs j ∧ (Kd.int .u8).C w (some ⟨bs j, 0, none⟩) x.f2.length x.f2) :
    Kd.C k40 w (some ⟨b, 0, none⟩) l.length l := by
  refine ⟨rfl, hl, fun _ => ⟨_, rfl, fun j x hj => ?_⟩⟩
  obtain ⟨h0, h1, h2, h3, h4⟩ := h j x hj
  refine ⟨_, rfl, k40_mk w x h3 h4, fun i u hu => ?_⟩
  rw [add_plain]
  show w.cell? ⟨b, j * 3 + i, none⟩ = some u
  match i, hu with
  | 0, hu => injection hu with hu; subst hu; exact h0
  | 1, hu => injection hu with hu; subst hu; exact h1
  | 2, hu => injection hu with hu; subst hu; exact h2
def exEv : List S40 := [⟨0, 0, [97, 98]⟩, ⟨1, 0, [120]⟩, ⟨0, 0, [99]⟩]
theorem small_ex : small exEv := by unfold small; decide
set_option maxRecDepth 100000 in
set_option maxHeartbeats 4000000 in
theorem cuecardlaw20_aliveT (w : World) :
    Calls Try.prog 9 #[] w fun e w' => e = .returned (.bool true) ∧ Below w.heap.size w w' := by
  have kc := fun (w : World) (C : Array Value) (n c g : Nat) (hg : g = w.heap.size) => Joins.run_convert_bytes_const_at (P := Try.prog) w 31 5 C n c g hg Try.underlying31 Try.underlying5
  have hN := fun A cl W hC => new_c exEv small_ex true A cl W hC
  rw [show chkN exEv = 0 by decide +kernel] at hN
  have HN := Lib.hid hN
  clear hN
  go_enter Try.func9, Try.ntmps9
  have KC := Lib.hid kc
  go_wp2_with (fail)
  clear kc
  obtain ⟨W1, hW1, hB, hC⟩ : ∃ W1, ((((w.alloc (Obj.cells #[Value.int IntKind.u8 97, Value.int IntKind.u8 98] 5 (2, 3))).alloc (Obj.cells #[Value.int IntKind.u8 120] 5 (1, 2))).alloc (Obj.cells #[Value.int IntKind.u8 99] 5 (1, 2))).alloc
      (Obj.cells
        #[Value.int IntKind.i64 0, Value.int IntKind.i64 0, Value.slice (some { block := w.heap.size, off := 0 }) 2 2,
          Value.int IntKind.i64 1, Value.int IntKind.i64 0,
          Value.slice (some { block := w.heap.size + 1, off := 0 }) 1 1, Value.int IntKind.i64 0,
          Value.int IntKind.i64 0, Value.slice (some { block := w.heap.size + 1 + 1, off := 0 }) 1 1]
        40)) = W1 ∧ Below w.heap.size w W1 ∧ Kd.C k40 W1 (some ⟨w.heap.size + 1 + 1 + 1, 0, none⟩) exEv.length exEv := by
    clear HN KC
    refine ⟨_, rfl, ?_, ?_⟩
    · exact ((((Below.refl _ w).alloc (Nat.le_refl _) _).alloc (by simp) _).alloc (by simp; omega) _).alloc (by simp; omega) _
    · refine reads_k40 (by decide) (fun j => match j with | 0 => w.heap.size | 1 => w.heap.size + 1 | _ => w.heap.size + 1 + 1) (fun j => match j with | 0 => 2 | _ => 1) ?_
      intro j x hj
      match j, hj with
      | 0, hj => injection hj with hj; subst hj; exact ⟨by go_simp, by go_simp, by go_simp, by decide, reads_u8 (xs := [97, 98]) (fun j hj => by match j, hj with | 0, _ => (go_simp; exact (Joins.cell_alloc_mark_at _ _ _ _ _ _ (by simp)).trans rfl) | 1, _ => (go_simp; exact (Joins.cell_alloc_mark_at _ _ _ _ _ _ (by simp)).trans rfl)) (by decide)⟩
      | 1, hj => injection hj with hj; subst hj; exact ⟨by go_simp, by go_simp, by go_simp, by decide, reads_u8 (xs := [120]) (fun j hj => by match j, hj with | 0, _ => (go_simp; exact (Joins.cell_alloc_mark_at _ _ _ _ _ _ (by simp)).trans rfl)) (by decide)⟩
      | 2, hj => injection hj with hj; subst hj; exact ⟨by go_simp, by go_simp, by go_simp, by decide, reads_u8 (xs := [99]) (fun j hj => by match j, hj with | 0, _ => (go_simp; exact (Joins.cell_alloc_mark_at _ _ _ _ _ _ (by simp)).trans rfl)) (by decide)⟩
  rw [hW1]
  clear hW1 KC
  refine (HN.out _ 3 _ hC (by decide)).mono ?_
  clear HN hC
  rintro e w1 ⟨_, h⟩
  obtain ⟨a, rfl, hP, haB, hb1⟩ := h trivial
  clear h
  have HB1 := Lib.hid (below_step hB hb1)
  have HA := Lib.hid (Nat.le_trans hB.size haB)
  generalize hok : (fun k => W1.heap.size ≤ k ∧ k < w1.heap.size ∧ k ≠ a.B) = ok at hP
  clear hok hB hb1 haB
  have HP := Lib.hid hP
  clear hP
  go_wp2_with (fail)
  have C1 := peer_Due HP.out (small_mrg small_ex) (by decide +kernel) (by decide +kernel)
  rw [show ((due ((⟨0, 0, true⟩ : Pz).heard : Int) 0 0 (Pc.of exEv true).l - (⟨0, 0, true⟩ : Pz).said : Nat) : Int) = 2 by decide +kernel] at C1
  refine C1.mono ?_
  clear C1
  rintro e w2 ⟨rfl, hb2⟩
  have HP2 := Lib.hid (HP.out.below hb2)
  have HB2 := Lib.hid (below_step HB1.out hb2)
  clear hb2 HP HB1
  go_wp2_with (fail)
  have C2 := peer_Say HP2.out (small_mrg small_ex) (by decide +kernel) (by decide +kernel) (by decide +kernel) 9
  rw [show (⟨0, 0, true⟩ : Pz).peek (Pc.of exEv true) 9 = [97, 98] by decide +kernel, show (⟨0, 0, true⟩ : Pz).say (Pc.of exEv true) 9 = ⟨2, 0, true⟩ by decide +kernel] at C2
  refine C2.mono ?_
  clear C2
  rintro e w3 ⟨v, rfl, hR, hp3, hg3⟩
  have HP3 := Lib.hid hp3
  have HB3 := Lib.hid (HB2.out.grown hg3 HB2.out.size (fun k hk => by injection hk with hk; rw [← hk]; exact HA.out))
  have hcv := own_string (P := Try.prog) Try.underlying31 Try.underlying5 Try.underlying9 (Kd.own_of_R hR)
  rw [show strOfNums [97, 98] = ⟨#[97, 98]⟩ by decide +kernel] at hcv
  obtain ⟨Av, cv, rfl⟩ := Kd.R_slice hR
  simp only [List.length_cons, List.length_nil, Nat.zero_add, Nat.reduceAdd] at hcv ⊢
  clear hp3 hg3 hR HP2 HB2
  go_wp2_with (fail)
  clear hcv
  have C3 := peer_Over HP3.out
  rw [show (⟨2, 0, true⟩ : Pz).over (Pc.of exEv true) = false by decide +kernel] at C3
  refine C3.mono ?_
  clear C3
  rintro e w4 ⟨rfl, hb4⟩
  have HP4 := Lib.hid (HP3.out.below hb4)
  have HB4 := Lib.hid (below_step HB3.out hb4)
  clear hb4 HP3 HB3
  go_wp2_with (fail)
  have hb5 : Below w4.heap.size w4 (w4.alloc (.cells #[.int .u8 120] 5)) := (Below.refl _ w4).alloc (Nat.le_refl _) _
  have C4 := peer_Hear (HP4.out.below hb5) (by decide +kernel) (by decide +kernel) (some ⟨w4.heap.size, 0, none⟩) 1 [120] (reads_u8 (xs := [120]) (fun j hj => by match j, hj with | 0, _ => (go_simp; done)) (by decide)) (by decide)
  rw [show (⟨2, 0, true⟩ : Pz).hear (Pc.of exEv true) [120] = ⟨2, 1, true⟩ by decide +kernel] at C4
  refine C4.mono ?_
  clear C4
  rintro e w6 ⟨⟨v, rfl⟩, hp6, hg6⟩
  have HP6 := Lib.hid hp6
  have HB6 := Lib.hid ((below_step HB4.out hb5).grown hg6 (below_step HB4.out hb5).size (fun k hk => by injection hk with hk; rw [← hk]; exact HA.out))
  clear hp6 hg6 HP4 HB4 hb5
  go_wp2_with (fail)
  have C1 := peer_Due HP6.out (small_mrg small_ex) (by decide +kernel) (by decide +kernel)
  rw [show ((due ((⟨2, 1, true⟩ : Pz).heard : Int) 0 0 (Pc.of exEv true).l - (⟨2, 1, true⟩ : Pz).said : Nat) : Int) = 1 by decide +kernel] at C1
  refine C1.mono ?_
  clear C1
  rintro e w7 ⟨rfl, hb7⟩
  have HP7 := Lib.hid (HP6.out.below hb7)
  have HB7 := Lib.hid (below_step HB6.out hb7)
  clear hb7 HP6 HB6
  go_wp2_with (fail)
  have C2 := peer_Say HP7.out (small_mrg small_ex) (by decide +kernel) (by decide +kernel) (by decide +kernel) 1
  rw [show (⟨2, 1, true⟩ : Pz).peek (Pc.of exEv true) 1 = [99] by decide +kernel, show (⟨2, 1, true⟩ : Pz).say (Pc.of exEv true) 1 = ⟨3, 1, true⟩ by decide +kernel] at C2
  refine C2.mono ?_
  clear C2
  rintro e w8 ⟨v, rfl, hR, hp8, hg8⟩
  have HP8 := Lib.hid hp8
  have HB8 := Lib.hid (HB7.out.grown hg8 HB7.out.size (fun k hk => by injection hk with hk; rw [← hk]; exact HA.out))
  have hcv := own_string (P := Try.prog) Try.underlying31 Try.underlying5 Try.underlying9 (Kd.own_of_R hR)
  rw [show strOfNums [99] = ⟨#[99]⟩ by decide +kernel] at hcv
  obtain ⟨Av, cv, rfl⟩ := Kd.R_slice hR
  simp only [List.length_cons, List.length_nil, Nat.zero_add, Nat.reduceAdd] at hcv ⊢
  clear hp8 hg8 hR HP7 HB7
  go_wp2_with (fail)
  clear hcv
  have C3 := peer_Over HP8.out
  rw [show (⟨3, 1, true⟩ : Pz).over (Pc.of exEv true) = true by decide +kernel] at C3
  refine C3.mono ?_
  clear C3
  rintro e w9 ⟨rfl, hb9⟩
  have HP9 := Lib.hid (HP8.out.below hb9)
  have HB9 := Lib.hid (below_step HB8.out hb9)
  clear hb9 HP8 HB8
  go_wp2_with (fail)
  refine (peer_Right HP9.out).mono ?_
  rintro e w10 ⟨rfl, hb10⟩
  have HB10 := Lib.hid (below_step HB9.out hb10)
  clear hb10 HP9 HB9
  go_wp2
  go_ret
  exact ⟨rfl, HB10.out⟩
end Go.Proofs.Ytpcednpkkimehaa.QA
