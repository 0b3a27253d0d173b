import Derived.RangeFuncNested
import Derived.RangeFuncBound
import Derived.RangeFuncCalls
import Derived.RangeFuncLeaves
import Derived.Shelf.Abstract
import Derived.Shelf.RegionOpen
import Derived.WalkKit
import Derived.OwnWalkIn
import Derived.TacticsInMore
import Derived.LoopNIn
import Derived.LoopIn
import Derived.Maps.AppendAt
import Derived.StillTailTactics
import Derived.Lib.Hide
import Derived.Outline
import Derived.Deep.RegionWith
import Derived.Deep.RegionLaw
import Derived.Deep.AppendLies
import Derived.Test.YtokhmpchgkmbeaaQAx1
import Derived.Test.YtokhmpchgkmbeaaQAx2
namespace Go.Proofs.Ytokhmpchgkmbeaa.QA
open Go.RowKit Go.Shelf Go.Proofs.YtokhmpchgkmbeaaW.PrintWords Go.Proofs.YtokhmpchgkmbeaaW.PrintLast Go.Proofs.YtokhmpchgkmbeaaW.PrintMore
set_option linter.unusedVariables false
set_option linter.unusedSimpArgs false
/-! ### a search for numbers -/
/-- block B is a search: its pattern, its borders, how much stands at the end -/
def Srch (w : World) (B : Nat) (vp vb : Value) (p back : List Int) (at_ : Int) : Prop :=
  w.heap[B]? = some (.cells #[vp, vb, .int .i64 at_] 52 (0, 0)) ∧ Kd.V (Kd.int .i64) 3 w 0 (fun k => some k = vp.ownBlock) vp p ∧ Kd.V (Kd.int .i64) 3 w 0 (fun k => some k = vb.ownBlock) vb back
theorem own_cells {w : World} {base : Nat} {e : TypeId} {size n : Nat} {v : Value} {xs : List Value} (h : w.ownsRow base e size v n xs) (k : Nat) (hk : v.ownBlock = some k) : ∃ o : Obj, w.heap[k]? = some o ∧ o.isCells = true := by
  rcases h.2 with ⟨rfl, _⟩ | ⟨g, cap, cur, rfl, hb, hh, _⟩
  · simp [Value.ownBlock] at hk
  · have : g = k := by simpa [Value.ownBlock] using hk
    subst this
    exact ⟨_, hh, rfl⟩
set_option maxRecDepth 100000 in
set_option maxHeartbeats 2000000 in
theorem new_int (k : Nat) (A : Option Addr) (c : Nat) (l : List Int) (back : List Int) (w : World) (hr : Kd.C (Kd.int .i64) w A l.length l) (hc : l.length ≤ c) (hl : l.length * 8 ≤ 140737488355328) (hb : kmp_Borders_int.f k l = some back) :
    Calls Try.prog 16 #[.slice A l.length c] w fun e w' => ∃ B vp vb, e = .returned (.pointer (some ⟨B, 0, none⟩)) ∧ w.heap.size ≤ B ∧ (∀ k, vp.ownBlock = some k → w.heap.size ≤ k) ∧ (∀ k, vb.ownBlock = some k → w.heap.size ≤ k) ∧ some B ≠ vp.ownBlock ∧ some B ≠ vb.ownBlock ∧ Srch w' B vp vb l back 0 ∧ (∀ k, vp.ownBlock = some k → ∃ o : Obj, w'.heap[k]? = some o ∧ o.isCells = true) ∧ (∀ k, vb.ownBlock = some k → ∃ o : Obj, w'.heap[k]? = some o ∧ o.isCells = true) ∧ Below w.heap.size w w' := by
  have HR : ReadsInt w .i64 A l.length l := Kd.reads_of_C (d := (0 : Int)) (h1 := fun _ => rfl) hr
  have HB := Lib.hid hb
  clear hb
  have hown0 : (w.alloc (.cells #[] 3)).ownsRow w.heap.size 3 1 (.slice (some ⟨w.heap.size, 0, none⟩) 0 0) ([] : List Int).length (nums .i64 []) :=
    ⟨rfl, .inr ⟨w.heap.size, 0, #[], rfl, Nat.le_refl _, World.alloc_heap_new w _, Nat.le_refl _, Nat.zero_le _, rfl, rfl⟩⟩
  have hB0 : Below w.heap.size w (w.alloc (.cells #[] 3)) := (Below.refl _ w).alloc (Nat.le_refl _) _
  have HR0 : ReadsInt (w.alloc (.cells #[] 3)) .i64 A l.length l := HR.below hB0
  have HO0 := Lib.hid hown0
  have HH0 := Lib.hid HR0
  have HN0 := Lib.hid hB0
  clear hown0 HR0 hB0 HR hr
  go_enter Try.func16, Try.ntmps16
  go_wp2_with (at_builtin; refine print_append_row (w0 := w) w.heap.size rfl _ _ 22 3 .i64 8 rfl Try.underlying22 info3 (by decide) (.slice (some ⟨w.heap.size, 0, none⟩) 0 0) [] l A l.length c rfl rfl HO0.out HH0.out HN0.out (by simp) (by simp; omega) ?_; intro v1 w1 hown hbel hgrow _; clear hgrow; simp only [List.nil_append] at hown; obtain ⟨Ap, cp, rfl⟩ := own_slice hown; have HO := Lib.hid hown; have HN := Lib.hid hbel; clear hown hbel)
  have hV := Kd.R_of_own (enc := Value.int .i64) (h1 := fun _ => rfl) (ok := fun _ => True) HO.out (fun _ _ => trivial)
  refine (kmp_Borders_int.calls k Ap cp l back w1 (Kd.R_reads' hV).2.2 (Kd.R_reads' hV).2.1 HB.out).mono ?_
  rintro e w2 ⟨vb, rfl, hRb, hb2⟩
  obtain ⟨Ab, cb, rfl⟩ := Kd.R_slice hRb
  have hV2 := Kd.R_below hV hb2
  have HV2 := Lib.hid hV2
  have HRb := Lib.hid hRb
  have Hb2 := Lib.hid hb2
  clear hV hV2 hRb hb2
  go_wp2
  go_ret
  have e1 : ∀ k, (Value.slice Ap l.length cp).ownBlock = some k → w.heap.size ≤ k := fun k hk => own_base HO.out k hk
  have e2 : ∀ k, (Value.slice Ab back.length cb).ownBlock = some k → w.heap.size ≤ k := fun k hk => by
    have := own_base (Kd.own_of_R HRb.out) k hk
    have := HN.out.size
    omega
  have hn : w.heap.size ≤ w2.heap.size := by have := HN.out.size; have := Hb2.out.size; omega
  refine ⟨w2.heap.size, _, _, rfl, hn, e1, e2, ?_, ?_, ⟨World.alloc_heap_new w2 _, ?_, ?_⟩, ?_, ?_, ((below_step HN.out Hb2.out).alloc hn _)⟩
  · intro h; have := own_lt (Kd.own_of_R HV2.out) _ h.symm; omega
  · intro h; have := own_lt (Kd.own_of_R HRb.out) _ h.symm; omega
  · exact Kd.V_alloc (Kd.R_V (Kd.R_tight rfl HV2.out)) _
  · exact Kd.V_alloc (Kd.R_V (Kd.R_tight rfl HRb.out)) _
  · intro k hk; obtain ⟨o, ho, hc⟩ := own_cells (Kd.own_of_R HV2.out) k hk; exact ⟨o, (Below.heap_alloc w2 _ k (Array.getElem?_eq_some_iff.1 ho).1).trans ho, hc⟩
  · intro k hk; obtain ⟨o, ho, hc⟩ := own_cells (Kd.own_of_R HRb.out) k hk; exact ⟨o, (Below.heap_alloc w2 _ k (Array.getElem?_eq_some_iff.1 ho).1).trans ho, hc⟩
theorem Srch.at_ {w w' : World} {B : Nat} {vp vb : Value} {p back : List Int} {at_ : Int} (h : Srch w B vp vb p back at_) (hB : w'.heap[B]? = w.heap[B]?) (hp : ∀ k, vp.ownBlock = some k → w'.heap[k]? = w.heap[k]?) (hb : ∀ k, vb.ownBlock = some k → w'.heap[k]? = w.heap[k]?) : Srch w' B vp vb p back at_ :=
  ⟨hB.trans h.1, Kd.V_map h.2.1 (fun A hF => Kd.F_step hF (fun k hk _ => hp k hk.symm)), Kd.V_map h.2.2 (fun A hF => Kd.F_step hF (fun k hk _ => hb k hk.symm))⟩
theorem srch_set {w : World} {B : Nat} {vp vb : Value} {p back : List Int} {at_ : Int} (h : Srch w B vp vb p back at_) (h1 : some B ≠ vp.ownBlock) (h2 : some B ≠ vb.ownBlock) (r : Int) (n : Nat) :
    Srch ((w.drewN n).setCell ⟨B, 2, none⟩ (.int .i64 r)) B vp vb p back r ∧ w.grownBy ((w.drewN n).setCell ⟨B, 2, none⟩ (.int .i64 r)) (some B) := by
  have hg : w.grownBy ((w.drewN n).setCell ⟨B, 2, none⟩ (.int .i64 r)) (some B) :=
    ⟨rfl, rfl, rfl, (KeepsWalks.setCell (w.drewN n) _ _).size, fun k _ hk => Below.heap_setCell (w.drewN n) ⟨B, 2, none⟩ _ k (fun e => hk (by rw [e]))⟩
  refine ⟨⟨?_, Kd.V_map h.2.1 (fun A hF => Kd.F_step hF (fun k hk hl => hg.block k hl (fun e => h1 (by rw [← e, hk])))), Kd.V_map h.2.2 (fun A hF => Kd.F_step hF (fun k hk hl => hg.block k hl (fun e => h2 (by rw [← e, hk]))))⟩, hg⟩
  obtain ⟨hlt, hk⟩ := Array.getElem?_eq_some_iff.1 h.1
  show (w.heap.modify B _)[B]? = _
  rw [Array.getElem?_eq_getElem (by rw [Array.size_modify]; exact hlt), Array.getElem_modify_self, hk]
  rfl
set_option maxRecDepth 100000 in
set_option maxHeartbeats 4000000 in
theorem feed_int (k : Nat) (B : Nat) (vp vb : Value) (p back : List Int) (at_ x r : Int) (w : World) (hs : Srch w B vp vb p back at_) (hB1 : some B ≠ vp.ownBlock) (hB2 : some B ≠ vb.ownBlock) (hf : kmp_next_int.f k p back at_ x = some r) :
    Calls Try.prog 17 #[.pointer (some ⟨B, 0, none⟩), .int .i64 x] w fun e w' => e = .returned (.bool (r == (p.length : Int))) ∧ Srch w' B vp vb p back r ∧ w.grownBy w' (some B) := by
  have HS := Lib.hid hs
  obtain ⟨hh, ⟨Ap, cp, rfl, hcp, hFp⟩, ⟨Ab, cb, rfl, hcb, hFb⟩⟩ := hs
  have hx0 : w.cell? ⟨B, 0, none⟩ = some (.slice Ap p.length cp) := by simp [World.cell?, hh]
  have hx1 : w.cell? ⟨B, 1, none⟩ = some (.slice Ab back.length cb) := by simp [World.cell?, hh]
  have hx2 : w.cell? ⟨B, 2, none⟩ = some (.int .i64 at_) := by simp [World.cell?, hh]
  have hfz : w.frozen? ⟨B, 2, none⟩ = false := by simp [World.frozen?, hh]
  have HF := Lib.hid hf
  have HP := Lib.hid hFp
  have HB := Lib.hid hFb
  have HH := Lib.hid hh
  clear hf hFp hFb hh
  go_enter Try.func17, Try.ntmps17
  go_wp2_with (fail)
  have hdr : ∀ n : Nat, (w.drewN n).cell? ⟨B, 0, none⟩ = some (.slice Ap p.length cp) := fun n => hx0
  go_region_with (go_at_call 27; refine (kmp_next_int.calls k Ap cp p Ab cb back at_ x r _ (by repeat (first | exact Kd.F_now HP.out | apply Kd.C_drewN | apply Kd.C_drew)) hcp (by repeat (first | exact Kd.F_now HB.out | apply Kd.C_drewN | apply Kd.C_drew)) hcb HF.out).mono ?_; rintro e w' ⟨rfl, ⟨nd, rfl⟩⟩)
  all_goals
    obtain ⟨hs2, hg2⟩ := srch_set HS.out hB1 hB2 r (1 + nd)
    generalize (w.drewN (1 + nd)).setCell { block := B, off := 2 } (Value.int IntKind.i64 r) = W at hs2 hg2 ⊢
    clear hx0 hx1 hx2 hfz hdr
    have hx0 : W.cell? ⟨B, 0, none⟩ = some (.slice Ap p.length cp) := by simp [World.cell?, hs2.1]
    have hx2 : W.cell? ⟨B, 2, none⟩ = some (.int .i64 r) := by simp [World.cell?, hs2.1]
    have HS2 := Lib.hid hs2
    have HG2 := Lib.hid hg2
    clear hs2 hg2
    go_wp2
    go_quiet (fail)
    go_wp2
    go_ret
    exact ⟨rfl, HS2.out.at_ rfl (fun _ _ => rfl) (fun _ _ => rfl), ⟨HG2.out.os, HG2.out.tape, HG2.out.output, HG2.out.size, HG2.out.block⟩⟩
end Go.Proofs.Ytokhmpchgkmbeaa.QA
