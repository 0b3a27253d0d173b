import Derived.RangeFuncNested
import Derived.RangeFuncBound
import Derived.RangeFuncCalls
import Derived.RangeFuncLeaves
import Derived.Shelf.Abstract
import Derived.Shelf.RegionOpen
import Derived.WalkKit
import Derived.OwnWalkIn
import Derived.TacticsInMore
import Derived.LoopNIn
import Derived.LoopIn
import Derived.Maps.AppendAt
import Derived.StillTailTactics
import Derived.Lib.Hide
import Derived.Outline
import Derived.Deep.RegionWith
import Derived.Deep.RegionLaw
import Derived.Deep.AppendLies
import Derived.Test.YtokhmpchgkmbeaaQAx1
import Derived.Test.YtokhmpchgkmbeaaQAx2
import Derived.Test.YtokhmpchgkmbeaaGNew
import Derived.Test.YtokhmpchgkmbeaaGLaw
import Derived.CallsIn
import Derived.Maps.OwnIn
import Derived.Test.YtokhmpchgkmbeaaGAllIt
import Derived.Test.YtokhmpchgkmbeaaGPlaces
import Derived.Test.YtokhmpchgkmbeaaGAll
namespace Go.Proofs.Ytokhmpchgkmbeaa.QA
open Go.RowKit Go.Shelf Go.Proofs.YtokhmpchgkmbeaaW.PrintWords Go.Proofs.YtokhmpchgkmbeaaW.PrintLast Go.Proofs.YtokhmpchgkmbeaaW.PrintMore
set_option linter.unusedVariables false
set_option linter.unusedSimpArgs false
attribute [local go_sem] Oper.semAt_some
/-! ### kmp.First[int] -/
def FirstAt (w : World) (pre : List Int) (W : World) : Prop := pre = [] ∧ Boxed W w.heap.size 3 (.int .i64 0) ∧ Boxed W (w.heap.size + 1) 4 (.bool false) ∧ Below w.heap.size w W
def FoundAt (w : World) (pre : List Int) (W : World) : Prop := ∃ x, pre = [x] ∧ Boxed W w.heap.size 3 (.int .i64 x) ∧ Boxed W (w.heap.size + 1) 4 (.bool true) ∧ Below w.heap.size w W
theorem FirstAt.step {w : World} {pre : List Int} {A B : World} {row : Option Nat} (h : FirstAt w pre A) (hg : A.grownBy B row) (hr : ∀ r, row = some r → w.heap.size + 2 ≤ r) : FirstAt w pre B := by
  obtain ⟨h0, h1, h2, hb⟩ := h
  exact ⟨h0, h1.kept hg (fun e => by have := hr _ e.symm; omega), h2.kept hg (fun e => by have := hr _ e.symm; omega), hb.grown hg hb.size (fun k hk => by have := hr k hk; omega)⟩
theorem FoundAt.step {w : World} {pre : List Int} {A B : World} {row : Option Nat} (h : FoundAt w pre A) (hg : A.grownBy B row) (hr : ∀ r, row = some r → w.heap.size + 2 ≤ r) : FoundAt w pre B := by
  obtain ⟨x, h0, h1, h2, hb⟩ := h
  exact ⟨x, h0, h1.kept hg (fun e => by have := hr _ e.symm; omega), h2.kept hg (fun e => by have := hr _ e.symm; omega), hb.grown hg hb.size (fun k hk => by have := hr k hk; omega)⟩
theorem results_ib (tmps : Array Value) (w : World) (g g' : Nat) (x : Int) (b : Bool) (hp : tmps[4]?.getD undef = .pointer (some ⟨g, 0, none⟩)) (hp' : tmps[5]?.getD undef = .pointer (some ⟨g', 0, none⟩))
    (h1 : w.cell? ⟨g, 0, none⟩ = some (.int .i64 x)) (h2 : w.cell? ⟨g', 0, none⟩ = some (.bool b)) : (results Try.f20 tmps).run Try.prog w = .ok (.tuple #[.int .i64 x, .bool b]) w := by
  simp [results, Try.f20, hp, hp', h1, h2, go_sem, Try.underlying3, Try.underlying4]
set_option maxRecDepth 100000 in
set_option maxHeartbeats 2000000 in
theorem first_law (K : Nat) (At Ap : Option Addr) (ct cp : Nat) (text p back : List Int) (at_ : Nat → Int) (w : World) (hrt : Kd.C (Kd.int .i64) w At text.length text) (hct : text.length ≤ ct) (hrp : Kd.C (Kd.int .i64) w Ap p.length p) (hcp : p.length ≤ cp)
    (htl : text.length ≤ 1048576) (hpl : p.length ≤ 1048576) (hb : kmp_Borders_int.f K p = some back) (h0 : at_ 0 = 0) (hat : ∀ i x, text[i]? = some x → kmp_next_int.f K p back (at_ i) x = some (at_ (i + 1))) :
    Calls Try.prog 20 #[.slice At text.length ct, .slice Ap p.length cp] w fun e w' => (∃ r b, e = .returned (.tuple #[.int .i64 r, .bool b]) ∧ ((placesUpto p at_ text.length = [] ∧ r = 0 ∧ b = false) ∨ (∃ l, placesUpto p at_ text.length = r :: l ∧ b = true))) ∧ Below w.heap.size w w' := by
  have HR : ReadsInt w .i64 At text.length text := Kd.reads_of_C (d := (0 : Int)) (h1 := fun _ => rfl) hrt
  have hcells := row_cells HR
  refine (callsIn_wide (n := 3)).1 ?_
  have h28 : Fence.wide.fn 28 := trivial
  refine callsIn_of_wp_marks Try.func20 rfl trivial ?_ rfl
  simp only [Try.ntmps20, List.size_toArray, List.length_cons, List.length_nil, Nat.reduceAdd, Nat.reduceSub, Array.replicate_succ, Array.replicate_zero, List.push_toArray, List.append_toArray, List.nil_append, List.cons_append]
  gi_wp2_with (gi_at_call 28; refine (all_in Fence.wide _ h28 rfl _ _ _ _ _ _ _).mono ?_; rintro e w' ⟨rfl, rfl⟩)
  have bR := Boxed.new w 3 (.int .i64 0)
  have bF := Boxed.new (w.alloc (.cells #[.int .i64 0] 3)) 4 (.bool false)
  have bT := Boxed.new ((w.alloc (.cells #[.int .i64 0] 3)).alloc (.cells #[.bool false] 4)) 22 (.slice At text.length ct)
  have bP := Boxed.new (((w.alloc (.cells #[.int .i64 0] 3)).alloc (.cells #[.bool false] 4)).alloc (.cells #[.slice At text.length ct] 22)) 22 (.slice Ap p.length cp)
  rw [World.size_alloc] at bF
  rw [World.size_alloc, World.size_alloc] at bT
  rw [World.size_alloc, World.size_alloc, World.size_alloc] at bP
  replace bT := bT.alloc (.cells #[.slice Ap p.length cp] 22)
  replace bF := (bF.alloc (.cells #[.slice At text.length ct] 22)).alloc (.cells #[.slice Ap p.length cp] 22)
  replace bR := ((bR.alloc (.cells #[.bool false] 4)).alloc (.cells #[.slice At text.length ct] 22)).alloc (.cells #[.slice Ap p.length cp] 22)
  have hB0 : Below w.heap.size w ((((w.alloc (.cells #[.int .i64 0] 3)).alloc (.cells #[.bool false] 4)).alloc (.cells #[.slice At text.length ct] 22)).alloc (.cells #[.slice Ap p.length cp] 22)) := ((((Below.refl _ w).alloc (Nat.le_refl _) _).alloc (by simp) _).alloc (by simp; omega) _).alloc (by simp; omega) _
  have hsz : ((((w.alloc (.cells #[.int .i64 0] 3)).alloc (.cells #[.bool false] 4)).alloc (.cells #[.slice At text.length ct] 22)).alloc (.cells #[.slice Ap p.length cp] 22)).heap.size = w.heap.size + 4 := by simp
  generalize (((w.alloc (.cells #[.int .i64 0] 3)).alloc (.cells #[.bool false] 4)).alloc (.cells #[.slice At text.length ct] 22)).alloc (.cells #[.slice Ap p.length cp] 22) = W0 at *
  refine range_c (α := Int) rfl (by omega) (gf := 31) (lb := #[.pointer (some ⟨w.heap.size + 1 + 1 + 1, 0, none⟩), .pointer (some ⟨w.heap.size + 1 + 1, 0, none⟩)]) rfl trivial (enters_of Try.func31 (by kernel_rfl) rfl)
    (encs := fun x => #[.int .i64 x]) (C := fun A r => w.heap.size + 2 ≤ r) (Kp := Keep w.heap.size) (Nx := fun pre x => pre ++ [x] <+: placesUpto p at_ text.length) (S := fun ys => ys = placesUpto p at_ text.length) (Sp := fun pre => pre <+: placesUpto p at_ text.length)
    ?seq Keep.trans (fun W l o o' hl h h1 h2 => keep_putObj (n₀ := W0.heap.size) (by omega) W l o o' hl h h1 h2) (fun _ => rfl)
    (fun pre W => FirstAt w pre W) (fun pre W => FoundAt w pre W) (fun s A B row hs hg hr => hs.step hg (fun r e => by have := (hr r e).1; omega)) (fun s A B row hs hg hr => hs.step hg (fun r e => by have := (hr r e).1; omega)) (fun s A B row hs hg hr => hs.step hg (fun r e => (hr r e).1)) (fun s A B row hs hg hr => hs.step hg (fun r e => (hr r e).1)) ⟨rfl, bR, bF, hB0⟩
    (fun x => { tmps := #[.slice At text.length ct, .slice Ap p.length cp, undef, undef, .pointer (some ⟨w.heap.size, 0, none⟩), .pointer (some ⟨w.heap.size + 1, 0, none⟩), .int .i64 x, .slice At text.length ct, .slice Ap p.length cp, .func (.func 31) #[] #[.pointer (some ⟨w.heap.size + 1 + 1 + 1, 0, none⟩), .pointer (some ⟨w.heap.size + 1 + 1, 0, none⟩)], .int .i64 x, undef], defers := [] })
    ?assign ?body ?done ?stop
  case seq =>
    intro l J Jx W hW hJ _ hY hJ0
    have hwW : Below w.heap.size w W := hB0.trans (hW.mono hB0.size)
    have hBO : Boxed W w.heap.size 3 (.int .i64 0) := (hW.block _ bR.lt).trans bR
    have hfr : ∀ k, k ≠ w.heap.size → ¬ Free w.heap.size W k := by
      rintro k hk (h | ⟨v, h1, h2⟩)
      · exact hk h
      · rw [hBO.cell] at h1; cases h1; cases h2
    have hWs := hW.size
    exact all1_in K w.heap.size W0.heap.size _ (by omega) l _ _ At Ap ct cp text p back at_ hct hcp htl hpl hb h0 hat J Jx _ (fun A k hk _ hf => by omega) (by omega) W hWs hY hJ ((hW.block _ bT.lt).trans bT) ((hW.block _ bP.lt).trans bP) (HR.below hwW) (Kd.C_below hrp hwW)
      (fun ad e hn => by obtain ⟨o, ho, hc⟩ := hcells ad e hn; exact ⟨o, (hwW.block _ (Array.getElem?_eq_some_iff.1 ho).1).trans ho, hc⟩)
      (hfr _ (by omega)) (hfr _ (by omega)) (fun ad e hn => hfr _ (by obtain ⟨o, ho, hc⟩ := hcells ad e hn; have := (Array.getElem?_eq_some_iff.1 ho).1; omega)) ⟨_, _, hBO, fun k hk => by cases hk⟩ hJ0
  case assign =>
    intro l x W Kc hK
    gi_wp2
    exact hK
  case body =>
    rintro l pre x W ⟨rfl, hv, hf, hB⟩ hnx
    have hc := hv.cell
    have hc2 := hf.cell
    have hz := hv.frozen
    have hz2 := hf.frozen
    have hv2 := (hv.set (.int .i64 x)).other (B' := w.heap.size + 1) (by omega) (.bool true)
    have hf1 := hf.other (B' := w.heap.size) (by omega) (.int .i64 x)
    have hf2 := hf1.set (.bool true)
    have hz3 := hf1.frozen
    have hc3 := hf1.cell
    have hb3 := (hB.setCell (p := ⟨w.heap.size, 0, none⟩) (Nat.le_refl _) (.int .i64 x)).setCell (p := ⟨w.heap.size + 1, 0, none⟩) (Nat.le_succ _) (.bool true)
    gi_wp2
    exact ⟨((KeepsOthers.setCell _ _ _).trans (KeepsOthers.setCell _ _ _)).from _, _, rfl, hv2, hf2, hb3⟩
  case done =>
    rintro D ys W hD rfl ⟨he, hv, hf, hB⟩ hK
    have hc := hv.cell
    have hc2 := hf.cell
    have hz := hv.frozen
    have hz2 := hf.frozen
    have hb3 := (hB.setCell (p := ⟨w.heap.size, 0, none⟩) (Nat.le_refl _) (.int .i64 0)).setCell (p := ⟨w.heap.size + 1, 0, none⟩) (Nat.le_succ _) (.bool false)
    have hv2 := (hv.set (.int .i64 0)).other (B' := w.heap.size + 1) (by omega) (.bool false)
    have hf2 := (hf.other (B' := w.heap.size) (by omega) (.int .i64 0)).set (.bool false)
    have hK2 : ((W.setCell ⟨w.heap.size, 0, none⟩ (.int .i64 0)).setCell ⟨w.heap.size + 1, 0, none⟩ (.bool false)).heap[D]? = some (.deferred (some [])) :=
      (Below.heap_setCell _ ⟨w.heap.size + 1, 0, none⟩ _ D (by show D ≠ w.heap.size + 1; omega)).trans ((Below.heap_setCell _ ⟨w.heap.size, 0, none⟩ _ D (by show D ≠ w.heap.size; omega)).trans hK)
    gi_wp2
    generalize (W.setCell ⟨w.heap.size, 0, none⟩ (.int .i64 0)).setCell ⟨w.heap.size + 1, 0, none⟩ (.bool false) = W3 at *
    refine ⟨by simp, .inl ⟨_, _, rfl, run_takeDeferred hK2, ?_⟩⟩
    exact ⟨_, results_ib _ _ w.heap.size (w.heap.size + 1) 0 false rfl rfl (hv2.kept (grownBy_putObj' W3 D _) (by intro e; cases e; omega)).cell (hf2.kept (grownBy_putObj' W3 D _) (by intro e; cases e; omega)).cell, ⟨_, _, rfl, .inl ⟨he, rfl, rfl⟩⟩, hb3.trans (belowK_b (w := w) (Nat.le_refl _) W3 D _ _ (by omega) hK2 rfl rfl)⟩
  case stop =>
    rintro D pre W hD hSp ⟨x, rfl, hv, hf, hB⟩ hK
    have hc := hv.cell
    have hc2 := hf.cell
    gi_wp2
    refine ⟨by simp, .inl ⟨_, _, rfl, run_takeDeferred hK, ?_⟩⟩
    exact ⟨_, results_ib _ _ w.heap.size (w.heap.size + 1) x true rfl rfl (hv.kept (grownBy_putObj' W D _) (by intro e; cases e; omega)).cell (hf.kept (grownBy_putObj' W D _) (by intro e; cases e; omega)).cell, ⟨_, _, rfl, .inr (by obtain ⟨l, hl⟩ := hSp; exact ⟨l, hl.symm, rfl⟩)⟩, hB.trans (belowK_b (w := w) (Nat.le_refl _) W D _ _ (by omega) hK rfl rfl)⟩
/-- kmp.First[int]: the first place, and whether there is one -/
def kmp_First_int.f (k : Nat) (text p : List Int) : Option (Int × Bool) := if text.length ≤ 1048576 ∧ p.length ≤ 1048576 then some ((places text p).headD 0, !(places text p).isEmpty) else none
theorem kmp_First_int.mono : ∀ a0 a1 k, LeO (kmp_First_int.f k a0 a1) (kmp_First_int.f (k + 1) a0 a1) := fun _ _ _ => LeO.refl _
theorem kmp_First_int.calls (k : Nat) (A0 : Option Addr) (c0 : Nat) (l0 : List Int) (A1 : Option Addr) (c1 : Nat) (l1 : List Int) (r0 : Int) (r1 : Bool) (w : World) (hr0 : Kd.C (Kd.int .i64) w A0 l0.length l0) (hc0 : l0.length ≤ c0) (hr1 : Kd.C (Kd.int .i64) w A1 l1.length l1) (hc1 : l1.length ≤ c1) (h : kmp_First_int.f k l0 l1 = some (r0, r1)) :
    Calls Try.prog 20 #[.slice A0 l0.length c0, .slice A1 l1.length c1] w fun e w' => e = .returned (.tuple #[.int .i64 r0, .bool r1]) ∧ Below w.heap.size w w' := by
  unfold kmp_First_int.f at h
  by_cases hc : l0.length ≤ 1048576 ∧ l1.length ≤ 1048576
  · rw [if_pos hc] at h
    obtain ⟨rfl, rfl⟩ := Prod.mk.inj (Option.some.inj h)
    obtain ⟨back, hb1, hb2, hb3⟩ := borders_ok l1 hc.2
    rw [← placesUpto_eq]
    refine (first_law (5 * l1.length + 4) A0 A1 c0 c1 l0 l1 back (atOf l0 l1) w hr0 hc0 hr1 hc1 hc.1 hc.2 (hb3 _ (Nat.le_refl _)) (atOf_zero _ _) (fun i x hx => step_ok hc.2 hb2 (by omega) hx)).mono ?_
    rintro e w' ⟨⟨r, b, rfl, (⟨h1, rfl, rfl⟩ | ⟨l, h1, rfl⟩)⟩, hb⟩
    · exact ⟨by rw [h1]; rfl, hb⟩
    · exact ⟨by rw [h1]; rfl, hb⟩
  · rw [if_neg hc] at h; cases h
end Go.Proofs.Ytokhmpchgkmbeaa.QA
