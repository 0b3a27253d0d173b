import Derived.RangeFuncNested
import Derived.RangeFuncBound
import Derived.RangeFuncCalls
import Derived.RangeFuncLeaves
import Derived.Shelf.Abstract
import Derived.Shelf.RegionOpen
import Derived.WalkKit
import Derived.OwnWalkIn
import Derived.TacticsInMore
import Derived.LoopNIn
import Derived.LoopIn
import Derived.Maps.AppendAt
import Derived.StillTailTactics
import Derived.Lib.Hide
import Derived.Outline
import Derived.Deep.RegionWith
import Derived.Deep.RegionLaw
import Derived.Deep.AppendLies
import Derived.Test.YtokhmpchgkmbeaaQAx1
import Derived.Test.YtokhmpchgkmbeaaQAx2
import Derived.Test.YtokhmpchgkmbeaaGNew
import Derived.Test.YtokhmpchgkmbeaaGLaw
import Derived.CallsIn
import Derived.Maps.OwnIn
import Derived.Test.YtokhmpchgkmbeaaGAllIt
import Derived.Test.YtokhmpchgkmbeaaGPlaces
namespace Go.Proofs.Ytokhmpchgkmbeaa.QA
open Go.RowKit Go.Shelf Go.Proofs.YtokhmpchgkmbeaaW.PrintWords Go.Proofs.YtokhmpchgkmbeaaW.PrintLast Go.Proofs.YtokhmpchgkmbeaaW.PrintMore
set_option linter.unusedVariables false
set_option linter.unusedSimpArgs false
attribute [local go_sem] Oper.semAt_some
/-! ### append(v, y) onto an own row; the new row is the old one's block or a new one -/
theorem in_append_one {F : Fence} {n : Nat} {P : Program} {W : World} {ops : Array Oper} {rest : List Oper} {o : Oper} {a : Act} {Q : Exit → Act → World → Prop}
    (base : Nat) (hg : o.guard = none) (s x : Operand) (t e : TypeId) (k : IntKind) (bytes : Nat)
    (hop : o.op = Op.call { callee := Callee.builtin Builtin.append, args := #[s, x], argTypes := #[t, t] })
    (ht : P.underlying t = some (.slice e)) (hinfo : (P.info? e).map (fun i => (i.zero, i.size, i.bytes)) = some (some (.int k 0), 1, bytes))
    (v : Value) (xs : List Int) (y : Int) (B c : Nat) (hs : a.eval s = v) (hx : a.eval x = .slice (some ⟨B, 0, none⟩) 1 c)
    (HO : W.ownsRow base e 1 v xs.length (nums k xs)) (hy : W.cell? ⟨B, 0, none⟩ = some (.int k y)) (hbase : base ≤ W.heap.size) (hl : (xs.length + 1) * bytes ≤ 140737488355328) (hl2 : xs.length ≤ 140737488355328)
    (h : ∀ v1 w1, w1.ownsRow base e 1 v1 (xs.length + 1) (nums k (xs ++ [y])) → W.grownBy w1 v.ownBlock → (v1.ownBlock = v.ownBlock ∨ v1.ownBlock = some W.heap.size) → (∃ A1 c1, v1 = .slice A1 (xs.length + 1) c1) → wpListIn F n P ops Q rest (a.put o.dst v1) w1) :
    wpListIn F n P ops Q (o :: rest) a W := by
  obtain ⟨i0, hi, hzz⟩ := Option.map_eq_some_iff.1 hinfo
  simp only [Prod.mk.injEq] at hzz
  obtain ⟨hz0, hz1, hz2⟩ := hzz
  refine wpListIn_append_own_at W hg s x t hop base e i0 (.int k 0) 1 bytes ht hi hz0 hz1 hz2 rfl (by omega) v xs.length (nums k xs) hs HO ⟨B, 0, none⟩ 1 c [.int k y] hx rfl ?_ ?_ (by simp only [maxLen]; omega) hl hbase ?_
  · intro j u hj
    rcases j with _ | j
    · simp at hj; subst hj; exact hy
    · simp at hj
  · intro u hu; simp at hu; subst hu; rfl
  · intro v1 w1 h1 h2 _ h4
    exact h v1 w1 (by simpa [nums] using h1) h2 h4 (own_slice h1)
/-! ### the loop's word on what the body may write: its box, its row -/
/-- out's box and row, and what lay below n₀ -/
def OutAt (w : World) (pre : List Int) (W : World) : Prop := (∃ v, Boxed W w.heap.size 22 v ∧ W.ownsRow w.heap.size 3 1 v pre.length (nums .i64 pre)) ∧ Below w.heap.size w W
theorem OutAt.step {w : World} {pre : List Int} {A B : World} {row : Option Nat} (h : OutAt w pre A) (hg : A.grownBy B row) (hr : ∀ r, row = some r → w.heap.size ≤ r ∧ ¬ Free w.heap.size A r) : OutAt w pre B := by
  obtain ⟨⟨v, hv, ho⟩, hb⟩ := h
  refine ⟨⟨v, hv.kept hg (fun e => (hr _ e.symm).2 (.inl rfl)), ho.kept hg ?_⟩, hb.grown hg hb.size (fun k hk => (hr k hk).1)⟩
  rcases hv' : v.ownBlock with _ | k
  · exact .inl rfl
  · exact .inr (fun e => (hr k e.symm).2 (.inr ⟨v, hv.cell, hv'⟩))
theorem out_step {w W w1 : World} {pre : List Int} {x : Int} {v v1 : Value} {tmp : Obj} (hv : Boxed W w.heap.size 22 v) (hrow : W.ownsRow w.heap.size 3 1 v pre.length (nums .i64 pre)) (hB : Below w.heap.size w W)
    (hown : w1.ownsRow w.heap.size 3 1 v1 (pre.length + 1) (nums .i64 (pre ++ [x]))) (hg : (W.alloc tmp).grownBy w1 v.ownBlock) (hat : v1.ownBlock = v.ownBlock ∨ v1.ownBlock = some (W.alloc tmp).heap.size) :
    Boxed w1 w.heap.size 22 v ∧ KeepsOthers W (w1.setCell ⟨w.heap.size, 0, none⟩ v1) ∧ Keep w.heap.size W (w1.setCell ⟨w.heap.size, 0, none⟩ v1) ∧ OutAt w (pre ++ [x]) (w1.setCell ⟨w.heap.size, 0, none⟩ v1) := by
  obtain ⟨a1, a2, a3, a4, a5⟩ := Boxed.appended hv (by decide) hrow hB.size (Nat.le_refl _) hown hg
  refine ⟨a1, a4, ⟨a5.size, ?_, ?_⟩, ⟨⟨v1, a2, by rw [List.length_append]; exact a3⟩, hB.trans a5⟩⟩
  · intro k o hk ho hf
    have hlt : k < W.heap.size := (Array.getElem?_eq_some_iff.1 hk).1
    refine (Below.heap_setCell w1 ⟨w.heap.size, 0, none⟩ v1 k (fun e => hf (.inl e))).trans ?_
    refine (hg.block k (by rw [World.size_alloc]; omega) (fun e => hf (.inr ⟨v, hv.cell, e.symm⟩))).trans ?_
    exact (Below.heap_alloc W tmp k hlt).trans hk
  · rintro k hlt hf (h | ⟨v2, h2, h3⟩)
    · exact hf (.inl h)
    · rw [a2.cell] at h2
      cases h2
      rcases hat with h | h
      · exact hf (.inr ⟨v, hv.cell, by rw [← h, h3]⟩)
      · rw [World.size_alloc] at h
        rw [h] at h3
        cases h3
        omega
theorem row_cells {w : World} {k : IntKind} {A : Option Addr} {n : Nat} {l : List Int} (HR : ReadsInt w k A n l) : ∀ ad, A = some ad → 0 < n → ∃ o : Obj, w.heap[ad.block]? = some o ∧ o.isCells = true := by
  rintro ad rfl hn
  obtain ⟨ad', e, hc⟩ := HR.2.2 hn
  cases e
  have h1 := hc 0 hn
  have e2 : (ad.add 0).block = ad.block := by unfold Addr.add; split <;> rfl
  unfold World.cell? at h1
  rw [e2] at h1
  split at h1
  · rename_i h; exact ⟨_, h, rfl⟩
  · cases h1
theorem info3' : (Try.prog.info? 3).map (fun i => (i.zero, i.size, i.bytes)) = some (some (.int .i64 0), 1, 8) := info3
set_option maxRecDepth 100000 in
set_option maxHeartbeats 2000000 in
theorem all_law (K : Nat) (At Ap : Option Addr) (ct cp : Nat) (text p back : List Int) (at_ : Nat → Int) (w : World) (hrt : Kd.C (Kd.int .i64) w At text.length text) (hct : text.length ≤ ct) (hrp : Kd.C (Kd.int .i64) w Ap p.length p) (hcp : p.length ≤ cp)
    (htl : text.length ≤ 1048576) (hpl : p.length ≤ 1048576) (hb : kmp_Borders_int.f K p = some back) (h0 : at_ 0 = 0) (hat : ∀ i x, text[i]? = some x → kmp_next_int.f K p back (at_ i) x = some (at_ (i + 1))) :
    Calls Try.prog 14 #[.slice At text.length ct, .slice Ap p.length cp] w fun e w' => ∃ v, e = .returned v ∧ w'.ownsRow w.heap.size 3 1 v (placesUpto p at_ text.length).length (nums .i64 (placesUpto p at_ text.length)) ∧ Below w.heap.size w w' := by
  have hlen : (placesUpto p at_ text.length).length ≤ text.length + 1 := by
    unfold placesUpto
    rw [List.length_append, List.length_map]
    have := List.length_filter_le (fun i => at_ (i + 1) == (p.length : Int)) (List.range text.length)
    rw [List.length_range] at this
    split <;> simp <;> omega
  have HR : ReadsInt w .i64 At text.length text := Kd.reads_of_C (d := (0 : Int)) (h1 := fun _ => rfl) hrt
  have hcells := row_cells HR
  refine (callsIn_wide (n := 3)).1 ?_
  have h28 : Fence.wide.fn 28 := trivial
  refine callsIn_of_wp_marks Try.func14 rfl trivial ?_ rfl
  simp only [Try.ntmps14, List.size_toArray, List.length_cons, List.length_nil, Nat.reduceAdd, Nat.reduceSub, Array.replicate_succ, Array.replicate_zero, List.push_toArray, List.append_toArray, List.nil_append, List.cons_append]
  gi_wp2_with (gi_at_call 28; refine (all_in Fence.wide _ h28 rfl _ _ _ _ _ _ _).mono ?_; rintro e w' ⟨rfl, rfl⟩)
  have bO := Boxed.new w 22 (.slice none 0 0)
  have bT := Boxed.new (w.alloc (.cells #[.slice none 0 0] 22)) 22 (.slice At text.length ct)
  have bP := Boxed.new ((w.alloc (.cells #[.slice none 0 0] 22)).alloc (.cells #[.slice At text.length ct] 22)) 22 (.slice Ap p.length cp)
  rw [World.size_alloc] at bT
  rw [World.size_alloc, World.size_alloc] at bP
  replace bT := bT.alloc (.cells #[.slice Ap p.length cp] 22)
  replace bO := (bO.alloc (.cells #[.slice At text.length ct] 22)).alloc (.cells #[.slice Ap p.length cp] 22)
  have hB0 : Below w.heap.size w (((w.alloc (.cells #[.slice none 0 0] 22)).alloc (.cells #[.slice At text.length ct] 22)).alloc (.cells #[.slice Ap p.length cp] 22)) := (((Below.refl _ w).alloc (Nat.le_refl _) _).alloc (by simp) _).alloc (by simp; omega) _
  have hsz : (((w.alloc (.cells #[.slice none 0 0] 22)).alloc (.cells #[.slice At text.length ct] 22)).alloc (.cells #[.slice Ap p.length cp] 22)).heap.size = w.heap.size + 3 := by simp
  generalize ((w.alloc (.cells #[.slice none 0 0] 22)).alloc (.cells #[.slice At text.length ct] 22)).alloc (.cells #[.slice Ap p.length cp] 22) = W0 at *
  refine range_c (α := Int) rfl (by omega) (gf := 31) (lb := #[.pointer (some ⟨w.heap.size + 1 + 1, 0, none⟩), .pointer (some ⟨w.heap.size + 1, 0, none⟩)]) rfl trivial (enters_of Try.func31 (by kernel_rfl) rfl)
    (encs := fun x => #[.int .i64 x]) (C := fun A r => w.heap.size ≤ r ∧ ¬ Free w.heap.size A r) (Kp := Keep w.heap.size) (Nx := fun pre x => pre ++ [x] <+: placesUpto p at_ text.length) (S := fun ys => ys = placesUpto p at_ text.length) (Sp := fun pre => pre <+: placesUpto p at_ text.length)
    ?seq Keep.trans (fun W l o o' hl h h1 h2 => keep_putObj (n₀ := W0.heap.size) (by omega) W l o o' hl h h1 h2) (fun _ => rfl)
    (fun pre W => OutAt w pre W) (fun _ _ => False) ?own (fun _ _ _ _ hs _ _ => hs) (fun s A B row hs hg hr => hs.step hg (fun r e => (hr r e).1)) (fun _ _ _ _ hs _ _ => hs) ⟨⟨_, bO, World.ownsRow_nil _ _ _ _⟩, hB0⟩
    (fun x => { tmps := #[.slice At text.length ct, .slice Ap p.length cp, undef, undef, .slice none 0 0, .pointer (some ⟨w.heap.size, 0, none⟩), .int .i64 x, .slice At text.length ct, .slice Ap p.length cp, .func (.func 31) #[] #[.pointer (some ⟨w.heap.size + 1 + 1, 0, none⟩), .pointer (some ⟨w.heap.size + 1, 0, none⟩)], .int .i64 x, undef, undef, undef, undef, undef], defers := [] })
    ?assign ?body ?done ?stop
  case seq =>
    intro l J Jx W hW hJ _ hY hJ0
    have hwW : Below w.heap.size w W := hB0.trans (hW.mono hB0.size)
    have hBO : Boxed W w.heap.size 22 (.slice none 0 0) := (hW.block _ bO.lt).trans bO
    have hfr : ∀ k, k ≠ w.heap.size → ¬ Free w.heap.size W k := by
      rintro k hk (h | ⟨v, h1, h2⟩)
      · exact hk h
      · rw [hBO.cell] at h1; cases h1; cases h2
    have hWs := hW.size
    exact all1_in K w.heap.size W0.heap.size _ (by omega) l _ _ At Ap ct cp text p back at_ hct hcp htl hpl hb h0 hat J Jx _ (fun A k hk _ hf => ⟨by omega, hf⟩) (by omega) W hWs hY hJ ((hW.block _ bT.lt).trans bT) ((hW.block _ bP.lt).trans bP) (HR.below hwW) (Kd.C_below hrp hwW)
      (fun ad e hn => by obtain ⟨o, ho, hc⟩ := hcells ad e hn; exact ⟨o, (hwW.block _ (Array.getElem?_eq_some_iff.1 ho).1).trans ho, hc⟩)
      (hfr _ (by omega)) (hfr _ (by omega)) (fun ad e hn => hfr _ (by obtain ⟨o, ho, hc⟩ := hcells ad e hn; have := (Array.getElem?_eq_some_iff.1 ho).1; omega)) ⟨_, _, hBO, fun k hk => by cases hk⟩ hJ0
  case own =>
    rintro s A B row hs hg hr
    refine hs.step hg (fun r e => ?_)
    obtain ⟨h1, o, ho, hc⟩ := hr r e
    refine ⟨by omega, ?_⟩
    obtain ⟨⟨v, hv, hrow⟩, _⟩ := hs
    rintro (h | ⟨v2, h2, h3⟩)
    · omega
    · rw [hv.cell] at h2
      cases h2
      obtain ⟨o', ho', hc'⟩ := own_cells hrow _ h3
      rw [ho] at ho'; cases ho'; rw [hc] at hc'; cases hc'
  case assign =>
    intro l x W Kc hK
    gi_wp2
    exact hK
  case body =>
    rintro l pre x W ⟨⟨v, hv, hrow⟩, hB⟩ hnx
    have hpl2 := hnx.length_le
    rw [List.length_append, List.length_singleton] at hpl2
    have hc := hv.cell
    have hrow1 := hrow.alloc (.cells #[.int .i64 x] 3)
    have hcx : (W.alloc (.cells #[.int .i64 x] 3)).cell? ⟨W.heap.size, 0, none⟩ = some (.int .i64 x) := (Boxed.new W 3 (.int .i64 x)).cell
    have hbs : w.heap.size ≤ (W.alloc (.cells #[.int .i64 x] 3)).heap.size := by have := hB.size; simp; omega
    have hl8 : (pre.length + 1) * 8 ≤ 140737488355328 := by omega
    have hl9 : pre.length ≤ 140737488355328 := by omega
    gi_wp2_with (gi_at_builtin; refine in_append_one w.heap.size rfl _ _ 22 3 .i64 8 rfl Try.underlying22 info3 v pre x W.heap.size 1 rfl rfl hrow1 hcx hbs hl8 hl9 ?_; rintro v1 w1 hown hg hat ⟨A1, c1, rfl⟩; obtain ⟨hv1, hk2, hkp, ho2⟩ := out_step hv hrow hB hown hg hat; have hc1 := hv1.cell; have hf1 := hv1.frozen)
    exact ⟨hk2.from _, hkp, ho2⟩
  case done =>
    rintro D ys W hD rfl ⟨⟨v, hv, hrow⟩, hB⟩ hK
    have hc := hv.cell
    gi_wp2
    refine ⟨by simp, .inl ⟨_, _, rfl, run_takeDeferred hK, ?_⟩⟩
    exact ⟨_, results_tmp rfl _ _ _, v, rfl, ownsRow_putObj hrow _ hK rfl, hB.trans (belowK_b (w := w) (Nat.le_refl _) W D _ _ (by omega) hK rfl rfl)⟩
  case stop =>
    rintro D pre W _ _ h _
    exact h.elim
/-- cuecardlaw08.all: the places, at no more than a million things -/
def cuecardlaw08_all.f (k : Nat) (text p : List Int) : Option (List Int) := if text.length ≤ 1048576 ∧ p.length ≤ 1048576 then some (places text p) else none
theorem cuecardlaw08_all.mono : ∀ a0 a1 k, LeO (cuecardlaw08_all.f k a0 a1) (cuecardlaw08_all.f (k + 1) a0 a1) := fun _ _ _ => LeO.refl _
theorem cuecardlaw08_all.calls (k : Nat) (A0 : Option Addr) (c0 : Nat) (l0 : List Int) (A1 : Option Addr) (c1 : Nat) (l1 : List Int) (r : List Int) (w : World) (hr0 : Kd.C (Kd.int .i64) w A0 l0.length l0) (hc0 : l0.length ≤ c0) (hr1 : Kd.C (Kd.int .i64) w A1 l1.length l1) (hc1 : l1.length ≤ c1) (h : cuecardlaw08_all.f k l0 l1 = some r) :
    Calls Try.prog 14 #[.slice A0 l0.length c0, .slice A1 l1.length c1] w fun e w' => ∃ v0_ : Value, e = .returned (v0_) ∧ Kd.R (Kd.int .i64) 3 w' w.heap.size (fun _ => True) v0_ r ∧ Below w.heap.size w w' := by
  unfold cuecardlaw08_all.f at h
  by_cases hc : l0.length ≤ 1048576 ∧ l1.length ≤ 1048576
  · rw [if_pos hc] at h
    obtain rfl := Option.some.inj h
    obtain ⟨back, hb1, hb2, hb3⟩ := borders_ok l1 hc.2
    rw [← placesUpto_eq]
    refine (all_law (5 * l1.length + 4) A0 A1 c0 c1 l0 l1 back (atOf l0 l1) w hr0 hc0 hr1 hc1 hc.1 hc.2 (hb3 _ (Nat.le_refl _)) (atOf_zero _ _) (fun i x hx => step_ok hc.2 hb2 (by omega) hx)).mono ?_
    rintro e w' ⟨v, rfl, ho, hb⟩
    exact ⟨v, rfl, Kd.R_of_own (enc := Value.int .i64) (h1 := fun _ => rfl) (ok := fun _ => True) ho (fun _ _ => trivial), hb⟩
  · rw [if_neg hc] at h; cases h
end Go.Proofs.Ytokhmpchgkmbeaa.QA
