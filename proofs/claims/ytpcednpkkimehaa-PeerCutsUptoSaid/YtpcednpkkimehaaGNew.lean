import Derived.RangeFuncNested
import Derived.RangeFuncBound
import Derived.RangeFuncCalls
import Derived.RangeFuncLeaves
import Derived.Shelf.Abstract
import Derived.Shelf.RegionOpen
import Derived.WalkKit
import Derived.OwnWalkIn
import Derived.TacticsInMore
import Derived.LoopNIn
import Derived.LoopIn
import Derived.Maps.AppendAt
import Derived.StillTailTactics
import Derived.Lib.Hide
import Derived.Lib.LazyBuf
import Derived.Outline
import Derived.Deep.RegionWith
import Derived.Deep.RegionLaw
import Derived.Deep.AppendLies
import Derived.CallsIn
import Derived.Laws.EntriesVeiled
import Derived.Deep.RegionHeld3
import Derived.BigRegion
import Derived.BigQuiet
import Derived.Test.YtpcednpkkimehaaPPl
import Derived.Test.YtpcednpkkimehaaGPeer5
namespace Go.Proofs.Ytpcednpkkimehaa.QA
open Go.RowKit Go.Shelf Go.Proofs.YtpcednpkkimehaaW.PrintWords Go.Proofs.YtpcednpkkimehaaW.PrintLast Go.Proofs.YtpcednpkkimehaaW.PrintMore
attribute [local go_sem] max2_int min2_int max_two min_two max_three min_three max_four min_four   -- for this text's walks alone
set_option linter.unusedVariables false
set_option linter.unusedSimpArgs false
/-! ### peer.New -/
/-- a transcript's struct at block b -/
def Pc.of (l : List S40) (fin : Bool) : Pc := ⟨way 0 l, way 1 l, mrg l, fin⟩
theorem tot_mrg (l : List S40) : tot (mrg l) = tot l := by
  have := mrg_ind (Q := fun out r => tot out + tot r = tot l) l (by simp [tot]) (fun out e r h => by
    rw [← h, tot_cons]
    rcases mstep_cases out e with ⟨h0, hm⟩ | ⟨h0, ⟨rfl, hm⟩ | ⟨L, p, rfl, ⟨hp, hm⟩ | ⟨hp, hm⟩⟩⟩
    · rw [hm]; omega
    · rw [hm, tot_one]; simp [tot]
    · rw [hm, tot_append, tot_append, tot_one, tot_one, List.length_append]; omega
    · rw [hm, tot_append, tot_one]; omega)
  simpa [tot] using this
theorem len_mrg (l : List S40) : (mrg l).length ≤ l.length := by
  have := mrg_ind (Q := fun out r => out.length + r.length ≤ l.length) l (by simp) (fun out e r h => by
    rw [List.length_cons] at h
    rcases mstep_cases out e with ⟨h0, hm⟩ | ⟨h0, ⟨rfl, hm⟩ | ⟨L, p, rfl, ⟨hp, hm⟩ | ⟨hp, hm⟩⟩⟩
    · rw [hm]; omega
    · rw [hm]; simp at *; omega
    · rw [hm]; simp at *; omega
    · rw [hm]; simp at *; omega)
  simpa using this
theorem small_of_tot {l : List S40} (h : tot l + 4 * l.length ≤ 1048576) : small l := by
  have : ∀ l : List S40, (l.map fun x => x.f2.length + 4).sum = tot l + 4 * l.length := by
    intro l
    induction l with
    | nil => rfl
    | cons a r ih => unfold tot at *; simp only [List.map_cons, List.sum_cons, List.length_cons, ih]; omega
  unfold small
  rw [this]
  exact h
theorem small_mrg {l : List S40} (h : small l) : small (mrg l) := by
  have h1 := small_tot h
  have h2 := tot_mrg l
  have h3 := len_mrg l
  exact small_of_tot (by omega)
def chkN (l : List S40) : Int := if 4096 < l.length then 10 else chk l 0
set_option maxRecDepth 100000 in
set_option maxHeartbeats 4000000 in
theorem new_c (l : List S40) (hl : small l) (fin : Bool) (A : Option Addr) (cl : Nat) (W : World) (hC : Kd.C k40 W A l.length l) (hc : l.length ≤ cl) :
    Calls Try.prog 11 #[.agg #[.slice A l.length cl, .bool fin]] W fun e W' =>
      (chkN l ≠ 0 → e = .returned (.tuple #[.pointer none, .int .i64 (chkN l)]) ∧ Below W.heap.size W W') ∧
      (chkN l = 0 → ∃ a : Pa, e = .returned (.tuple #[.pointer (some ⟨a.B, 0, none⟩), .int .i64 0]) ∧ PeAt W' (fun k => W.heap.size ≤ k ∧ k < W'.heap.size ∧ k ≠ a.B) a (.of l fin) ⟨0, 0, true⟩ ∧ W.heap.size ≤ a.B ∧ Below W.heap.size W W') := by
  have hs := small_tot hl
  have hk := check_f l hl (k := 2 * l.length + 1) (Nat.le_refl _)
  rw [show (if 4096 < l.length then (10 : Int) else chk l 0) = chkN l from rfl] at hk
  have HK := Lib.hid hk
  have HC := Lib.hid hC
  have HS := Lib.hid hl
  have hT : (W.alloc (.cells #[.slice A l.length cl, .bool fin] 24)).heap[W.heap.size]? = some (.cells #[.slice A l.length cl, .bool fin] 24 (0, 0)) := World.alloc_heap_new W _
  have HT := Lib.hid hT
  have hBW : Below W.heap.size W (W.alloc (.cells #[.slice A l.length cl, .bool fin] 24)) := (Below.refl _ W).alloc (Nat.le_refl _) _
  have HBW := Lib.hid hBW
  have hszW : (W.alloc (.cells #[.slice A l.length cl, .bool fin] 24)).heap.size = W.heap.size + 1 := by simp
  have HM := Lib.hid (merge_f l hl (k := l.length + 1) (by omega))
  have HB0 := Lib.hid (show event_Bytes.f 0 0 (mrg l) = some (way 0 l) by rw [bytes_f 0 (mrg l) (small_mrg hl) 0, way_mrg])
  have HB1 := Lib.hid (show event_Bytes.f 0 1 (mrg l) = some (way 1 l) by rw [bytes_f 1 (mrg l) (small_mrg hl) 0, way_mrg])
  clear hk hC hT hBW
  generalize hz : chkN l = z at *
  clear hz
  by_cases h0 : z = 0
  · subst h0
    go_enter Try.func11, Try.ntmps11
    go_wp2_with (first
      | (go_at_call 29; refine (event_Check.calls (2 * l.length + 1) A cl l 0 _ (Kd.C_alloc HC.out _) hc HK.out).mono ?_; rintro e w1 ⟨rfl, hB1⟩; have HB1' := Lib.hid hB1; have hT1 := (hB1.block _ (by rw [hszW]; omega)).trans HT.out; have c0 : w1.cell? ⟨W.heap.size, 0, none⟩ = some (.slice A l.length cl) := (blk_cell hT1 0).trans rfl; have HT1 := Lib.hid hT1; clear hB1 hT1)
      | (go_at_call 30; refine (event_Merge.calls (l.length + 1) A cl l (mrg l) _ (Kd.C_below (Kd.C_alloc HC.out _) HB1'.out) hc HM.out).mono ?_; rintro e w2 ⟨v, rfl, hSm, hB2⟩; obtain ⟨Am, cm, rfl⟩ := Kd.R_slice (Kd.S_R hSm); have HRm := Lib.hid (Kd.S_R hSm); have HB2 := Lib.hid hB2; clear hSm hB2))
    have hB23 : Below w2.heap.size w2 (w2.alloc (.cells #[.slice Am (mrg l).length cm] 22)) := (Below.refl _ w2).alloc (Nat.le_refl _) _
    have hBx3 : Boxed (w2.alloc (.cells #[.slice Am (mrg l).length cm] 22)) w2.heap.size 22 (.slice Am (mrg l).length cm) := Boxed.new w2 22 _
    have hT3 := (hB23.block _ (by have := HB2.out.size; have := (Array.getElem?_eq_some_iff.1 HT1.out).1; omega)).trans ((HB2.out.block _ (Array.getElem?_eq_some_iff.1 HT1.out).1).trans HT1.out)
    have hCm3 := Kd.C_below (Kd.R_reads' HRm.out).2.2 hB23
    have hcm := (Kd.R_reads' HRm.out).2.1
    have hsz3 : (w2.alloc (.cells #[.slice Am (mrg l).length cm] 22)).heap.size = w2.heap.size + 1 := by simp
    generalize hW3 : w2.alloc (.cells #[.slice Am (mrg l).length cm] 22) = W3 at *
    have b3 : W3.drew.cell? ⟨w2.heap.size, 0, none⟩ = some (.slice Am (mrg l).length cm) := hBx3.cell
    have t3 : W3.drew.cell? ⟨W.heap.size, 1, none⟩ = some (.bool fin) := (blk_cell hT3 1).trans rfl
    have HBx3 := Lib.hid hBx3
    have HCm3 := Lib.hid (Kd.C_drew hCm3)
    have HW3 := Lib.hid hW3
    have HSZ3 := Lib.hid hsz3
    have HB23 := Lib.hid hB23
    clear hB23 hBx3 hT3 hCm3 hsz3 hW3 c0 hszW
    go_region_held3 (fun w' => w'.cell? ⟨w2.heap.size, 0, none⟩ = some (.slice Am (mrg l).length cm) ∧ w'.cell? ⟨W.heap.size, 1, none⟩ = some (.bool fin))
      (first | exact ⟨b3, t3⟩ | exact ⟨b4, t4⟩ | exact ⟨b5, t5⟩ | exact ⟨b6, t6⟩ | go_keep)
      (first
        | (go_at_call_of 31 (Value.int IntKind.i64 0); refine (event_Bytes.calls 0 0 Am cm (mrg l) (way 0 l) _ HCm3.out hcm HB0.out).mono ?_; rintro e w4 ⟨v, rfl, hRo, hB4⟩; obtain ⟨Ao, co, rfl⟩ := Kd.R_slice hRo; have HRo := Lib.hid hRo; have HB4 := Lib.hid hB4; have b4 := pw_cell_below hB4 b3; have t4 := pw_cell_below hB4 t3; have HCm4 := Lib.hid (Kd.C_below HCm3.out hB4); clear hRo hB4)
        | (go_at_call_of 31 (Value.int IntKind.i64 1); refine (event_Bytes.calls 0 1 Am cm (mrg l) (way 1 l) _ HCm4.out hcm HB1.out).mono ?_; rintro e w5 ⟨v, rfl, hRi, hB5⟩; obtain ⟨Ai, ci, rfl⟩ := Kd.R_slice hRi; have HRi := Lib.hid hRi; have HB5 := Lib.hid hB5; have b5 := pw_cell_below hB5 b4; have t5 := pw_cell_below hB5 t4; clear hRi hB5))
    go_wp2
    refine bodyPost_ret (v := .tuple #[.pointer (some ⟨w5.heap.size, 0, none⟩), .int .i64 0]) (by simp [results, Try.results11, go_sem]) rfl ?_
    have hB5 := HB5.out
    have hB4 : Below W3.heap.size W3 w4 := ⟨HB4.out.os, HB4.out.tape, HB4.out.output, HB4.out.size, HB4.out.block⟩
    have s4 := hB4.size
    have s5 := hB5.size
    have s2 := HB2.out.size
    have s3 := HB23.out.size
    have s1 := HB1'.out.size
    rw [World.size_alloc] at s1
    have hz3 := HSZ3.out
    have hB6 : ∀ o, Below w5.heap.size w5 (w5.alloc o) := fun o => (Below.refl _ w5).alloc (Nat.le_refl _) o
    have hz6 : ∀ o, (w5.alloc o).heap.size = w5.heap.size + 1 := fun o => by simp
    refine ⟨fun h => absurd rfl h, fun _ => ⟨⟨w5.heap.size, Ao, co, Ai, ci, w2.heap.size, Am, cm⟩, rfl, ⟨World.alloc_heap_new w5 _, fun h => h.2.2 rfl, (Kd.R_reads' HRo.out).2.1, (Kd.R_reads' HRi.out).2.1, hcm, ?_, ?_, ?_, ?_, ?_⟩, ?_, ?_⟩⟩
    · refine Kd.F_below (Kd.F_below (Kd.F_mono (Kd.R_F (Kd.R_bound HRo.out)) (fun k hk => ?_)) hB5) (hB6 _)
      obtain ⟨_, h1, h2, _⟩ := hk
      have h1 : W3.heap.size ≤ k := h1
      rw [hz6]
      exact ⟨by omega, by omega, by show k ≠ w5.heap.size; omega⟩
    · refine Kd.F_below (Kd.F_mono (Kd.R_F (Kd.R_bound HRi.out)) (fun k hk => ?_)) (hB6 _)
      obtain ⟨_, h1, h2, _⟩ := hk
      rw [hz6]
      exact ⟨by omega, by omega, by show k ≠ w5.heap.size; omega⟩
    · refine Kd.F_below (Kd.F_below (Kd.F_below (Kd.F_below (Kd.F_mono (Kd.R_F (Kd.R_bound HRm.out)) (fun k hk => ?_)) HB23.out) hB4) hB5) (hB6 _)
      obtain ⟨_, h1, h2, _⟩ := hk
      rw [hz6]
      exact ⟨by omega, by omega, by show k ≠ w5.heap.size; omega⟩
    · rw [hz6]
      exact ⟨by show W.heap.size ≤ w2.heap.size; omega, by show w2.heap.size < _; omega, by show w2.heap.size ≠ w5.heap.size; omega⟩
    · exact ((hB6 _).block _ (by show w2.heap.size < _; omega)).trans ((hB5.block _ (by show w2.heap.size < _; omega)).trans ((hB4.block _ (by show w2.heap.size < _; omega)).trans HBx3.out))
    · show W.heap.size ≤ w5.heap.size
      omega
    · have hb := HBW.out.trans (HB1'.out.mono (by rw [World.size_alloc]; omega))
      have hb := hb.trans (HB2.out.mono (by omega))
      have hb := hb.trans (HB23.out.mono (by omega))
      have hb := hb.trans (hB4.mono (by omega))
      have hb := hb.trans (hB5.mono (by omega))
      exact hb.trans ((hB6 _).mono (by omega))
  · have h0' := eq_false h0
    have h0b : (z == 0) = false := beq_eq_false_iff_ne.mpr h0
    go_enter Try.func11, Try.ntmps11
    go_wp2_with (go_at_call 29; refine (event_Check.calls (2 * l.length + 1) A cl l z _ (Kd.C_alloc HC.out _) hc HK.out).mono ?_; rintro e w1 ⟨rfl, hB1⟩)
    refine bodyPost_ret (v := .tuple #[.pointer none, .int .i64 z]) (by simp [results, Try.results11, go_sem]) rfl ?_
    exact ⟨fun _ => ⟨rfl, HBW.out.trans (hB1.mono (by rw [hszW]; omega))⟩, fun h => absurd h h0⟩
end Go.Proofs.Ytpcednpkkimehaa.QA
