import Derived.RangeFuncNested
import Derived.RangeFuncBound
import Derived.RangeFuncCalls
import Derived.RangeFuncLeaves
import Derived.Shelf.Abstract
import Derived.Shelf.RegionOpen
import Derived.WalkKit
import Derived.OwnWalkIn
import Derived.TacticsInMore
import Derived.LoopNIn
import Derived.LoopIn
import Derived.Maps.AppendAt
import Derived.StillTailTactics
import Derived.Lib.Hide
import Derived.Lib.LazyBuf
import Derived.Outline
import Derived.Deep.RegionWith
import Derived.Deep.RegionLaw
import Derived.Deep.AppendLies
import Derived.Test.YtefippbcgdfnbaaQAx0
namespace Go.Proofs.Ytefippbcgdfnbaa.QA
open Go.RowKit Go.Shelf Go.Proofs.YtefippbcgdfnbaaW.PrintWords Go.Proofs.YtefippbcgdfnbaaW.PrintLast Go.Proofs.YtefippbcgdfnbaaW.PrintMore
set_option linter.unusedVariables false
set_option linter.unusedSimpArgs false
/-! ### bytes.Clone -/
def bytes_Clone.f (k : Nat) (l0 : List Int) : Option (List Int) := if l0.length ≤ 140737488355328 then some l0 else none
theorem bytes_Clone.mono : ∀ a0 k, LeO (bytes_Clone.f k a0) (bytes_Clone.f (k + 1) a0) := fun _ _ => LeO.refl _
set_option maxRecDepth 100000 in
set_option maxHeartbeats 400000 in
theorem bytes_Clone.calls (k : Nat) (A0 : Option Addr) (c0 : Nat) (l0 : List Int) (r : List Int) (w : World) (hr0 : Kd.C (Kd.int .u8) w A0 l0.length l0) (hc0 : l0.length ≤ c0) (h : bytes_Clone.f k l0 = some r) :
    Calls Try.prog 32 #[.slice A0 l0.length c0] w fun e w' => ∃ v0_ : Value, e = .returned (v0_) ∧ Kd.R (Kd.int .u8) 5 w' w.heap.size (fun _ => True) v0_ r ∧ Below w.heap.size w w' := by
  unfold bytes_Clone.f at h
  by_cases hl : l0.length ≤ 140737488355328
  · rw [if_pos hl] at h
    obtain rfl := Option.some.inj h
    clear h
    have HR : ReadsInt w .u8 A0 l0.length l0 := Kd.reads_of_C (d := (0 : Int)) (h1 := fun _ => rfl) hr0
    have hown0 : (w.alloc (.cells #[] 5)).ownsRow w.heap.size 5 1 (.slice (some ⟨w.heap.size, 0, none⟩) 0 0) ([] : List Int).length (nums .u8 []) :=
      ⟨rfl, .inr ⟨w.heap.size, 0, #[], rfl, Nat.le_refl _, World.alloc_heap_new w _, Nat.le_refl _, Nat.zero_le _, rfl, rfl⟩⟩
    have hB0 : Below w.heap.size w (w.alloc (.cells #[] 5)) := (Below.refl _ w).alloc (Nat.le_refl _) _
    have HR0 : ReadsInt (w.alloc (.cells #[] 5)) .u8 A0 l0.length l0 := HR.below hB0
    have HO0 := Lib.hid hown0
    have HH0 := Lib.hid HR0
    have HN0 := Lib.hid hB0
    have HH := Lib.hid HR
    clear hown0 HR0 hB0 HR hr0
    cases A0 with
    | none =>
      have hz : l0 = [] := by
        by_cases h0 : 0 < l0.length
        · obtain ⟨ad, e, _⟩ := HH.out.2.2 h0; cases e
        · exact List.length_eq_zero_iff.1 (by omega)
      subst hz
      have hne : ∀ W, (binOp .eql 25 (.slice none 0 c0) (.slice none 0 0)).run Try.prog W = .ok (.bool true) W := fun W => Go.run_eql_slice_nil W 25 5 none 0 c0 Try.underlying25
      go_enter Try.func32, Try.ntmps32
      go_wp2
      go_ret
      exact ⟨_, rfl, Kd.R_nil _ _ _ _ _, Below.refl _ _⟩
    | some ad =>
      have hne : ∀ W, (binOp .eql 25 (.slice (some ad) l0.length c0) (.slice none 0 0)).run Try.prog W = .ok (.bool false) W := fun W => Go.run_eql_slice_nil W 25 5 (some ad) l0.length c0 Try.underlying25
      go_enter Try.func32, Try.ntmps32
      go_wp2_with (at_builtin; refine print_append_row (w0 := w) w.heap.size rfl _ _ 25 5 .u8 1 rfl Try.underlying25 info5 (by decide) (.slice (some ⟨w.heap.size, 0, none⟩) 0 0) [] l0 (some ad) l0.length c0 rfl rfl HO0.out HH0.out HN0.out (by simp) (by simp; omega) ?_; intro v1 w1 hown hbel hgrow _; clear hgrow; simp only [List.nil_append] at hown; have HO := Lib.hid hown; have HN := Lib.hid hbel; clear hown hbel)
      go_ret
      exact ⟨_, rfl, Kd.R_of_own (enc := Value.int .u8) (h1 := fun _ => rfl) (ok := fun _ => True) HO.out (fun _ _ => trivial), HN.out⟩
  · rw [if_neg hl] at h; cases h
end Go.Proofs.Ytefippbcgdfnbaa.QA
