import Derived.RangeFuncNested
import Derived.RangeFuncBound
import Derived.RangeFuncCalls
import Derived.RangeFuncLeaves
import Derived.Shelf.Abstract
import Derived.Shelf.RegionOpen
import Derived.WalkKit
import Derived.OwnWalkIn
import Derived.TacticsInMore
import Derived.LoopNIn
import Derived.LoopIn
import Derived.Maps.AppendAt
import Derived.StillTailTactics
import Derived.Lib.Hide
import Derived.Outline
import Derived.Deep.RegionWith
import Derived.Deep.RegionLaw
import Derived.Deep.AppendLies
import Derived.Test.YtokhmpchgkmbeaaQAx1
import Derived.Test.YtokhmpchgkmbeaaQAx2
import Derived.Test.YtokhmpchgkmbeaaGNew
import Derived.Test.YtokhmpchgkmbeaaGLaw
import Derived.CallsIn
namespace Go.Proofs.Ytokhmpchgkmbeaa.QA
open Go.RowKit Go.Shelf Go.Proofs.YtokhmpchgkmbeaaW.PrintWords Go.Proofs.YtokhmpchgkmbeaaW.PrintLast Go.Proofs.YtokhmpchgkmbeaaW.PrintMore
set_option linter.unusedVariables false
set_option linter.unusedSimpArgs false
/-! ### kmp.All[int]: what its iterator tells, whatever the body of the loop does with its box and its row -/
/-- block k is the box b, or the row that it holds -/
def Free (b : Nat) (W : World) (k : Nat) : Prop := k = b ∨ ∃ v, W.cell? ⟨b, 0, none⟩ = some v ∧ v.ownBlock = some k
/-- what a round that goes on keeps: all cells but these -/
def Keep (b : Nat) (W W' : World) : Prop :=
  W.heap.size ≤ W'.heap.size ∧ (∀ (k : Nat) (o : Obj), W.heap[k]? = some o → o.isCells = true → ¬ Free b W k → W'.heap[k]? = some o) ∧ ∀ k, k < W.heap.size → ¬ Free b W k → ¬ Free b W' k
theorem Keep.trans {b : Nat} {X Y Z : World} (h : Keep b X Y) (k : Keep b Y Z) : Keep b X Z :=
  ⟨Nat.le_trans h.1 k.1, fun i o hi ho hf => k.2.1 i o (h.2.1 i o hi ho hf) ho (h.2.2 i (Array.getElem?_eq_some_iff.1 hi).1 hf),
   fun i hi hf => k.2.2 i (Nat.lt_of_lt_of_le hi h.1) (h.2.2 i hi hf)⟩
theorem free_eq {b : Nat} {W W' : World} (h : W'.heap[b]? = W.heap[b]?) (k : Nat) : Free b W' k ↔ Free b W k := by
  have e : W'.cell? ⟨b, 0, none⟩ = W.cell? ⟨b, 0, none⟩ := by simp [World.cell?, h]
  unfold Free
  rw [e]
theorem keep_putObj {b n₀ : Nat} (hb : b < n₀) (W : World) (l : Nat) (o o' : Obj) (hl : n₀ ≤ l) (h : W.heap[l]? = some o) (h1 : o.isCells = false) (h2 : o'.isCells = false) : Keep b W (W.putObj l o') := by
  have he : (W.putObj l o').heap[b]? = W.heap[b]? := World.putObj_heap_other (by omega)
  refine ⟨by simp [World.putObj], fun k o2 hk ho _ => ?_, fun k _ hf => fun h => hf ((free_eq he k).1 h)⟩
  refine (World.putObj_heap_other ?_).trans hk
  rintro rfl
  rw [h] at hk; cases hk; rw [h1] at ho; cases ho
theorem Keep.cells {b : Nat} {W W' : World} (h : Keep b W W') {k : Nat} {o : Obj} (hk : W.heap[k]? = some o) (ho : o.isCells = true) (hf : ¬ Free b W k) : W'.heap[k]? = some o := h.2.1 k o hk ho hf
/-- the iterator's blocks: the text's and the pattern's boxes, the text's cells, the search -/
structure Its (b : Nat) (W : World) (Bt Bp B : Nat) (At Ap : Option Addr) (ct cp : Nat) (text p : List Int) (vp vb : Value) (back : List Int) (at_ : Int) : Prop where
  bt : Boxed W Bt 22 (.slice At text.length ct)
  bp : Boxed W Bp 22 (.slice Ap p.length cp)
  rt : ReadsInt W .i64 At text.length text
  ct : ∀ ad, At = some ad → 0 < text.length → ∃ o : Obj, W.heap[ad.block]? = some o ∧ o.isCells = true
  sr : Srch W B vp vb p back at_
  n1 : some B ≠ vp.ownBlock
  n2 : some B ≠ vb.ownBlock
  cp : ∀ k, vp.ownBlock = some k → ∃ o : Obj, W.heap[k]? = some o ∧ o.isCells = true
  cb : ∀ k, vb.ownBlock = some k → ∃ o : Obj, W.heap[k]? = some o ∧ o.isCells = true
  f1 : ¬ Free b W Bt
  f2 : ¬ Free b W Bp
  f3 : ¬ Free b W B
  f4 : ∀ ad, At = some ad → 0 < text.length → ¬ Free b W ad.block
  f5 : ∀ k, vp.ownBlock = some k → ¬ Free b W k
  f6 : ∀ k, vb.ownBlock = some k → ¬ Free b W k
theorem reads_at {W W' : World} {k : IntKind} {A : Option Addr} {n : Nat} {l : List Int} (h : ReadsInt W k A n l) (hk : ∀ ad, A = some ad → 0 < n → W'.heap[ad.block]? = W.heap[ad.block]?) : ReadsInt W' k A n l :=
  ⟨h.1, h.2.1, fun hn => by
    obtain ⟨ad, e, hc⟩ := h.2.2 hn
    refine ⟨ad, e, fun j hj => ?_⟩
    have e2 : ∀ j, (ad.add j).block = ad.block := fun j => by unfold Addr.add; split <;> rfl
    have := hc j hj
    unfold World.cell? at this ⊢
    rw [e2] at this ⊢
    rw [hk ad e hn]
    exact this⟩
section its
variable {b : Nat} {W W' : World} {Bt Bp B : Nat} {At Ap : Option Addr} {ct cp : Nat} {text p : List Int} {vp vb : Value} {back : List Int} {at_ : Int}
/-- all of it abides where its blocks do -/
theorem Its.keep (h : Its b W Bt Bp B At Ap ct cp text p vp vb back at_) (k : Keep b W W') : Its b W' Bt Bp B At Ap ct cp text p vp vb back at_ := by
  have hlt : ∀ {i : Nat} {o : Obj}, W.heap[i]? = some o → i < W.heap.size := fun hi => (Array.getElem?_eq_some_iff.1 hi).1
  refine ⟨k.cells h.bt rfl h.f1, k.cells h.bp rfl h.f2, reads_at h.rt ?_, ?_, h.sr.at_ ((k.cells h.sr.1 rfl h.f3).trans h.sr.1.symm) ?_ ?_, h.n1, h.n2, ?_, ?_, k.2.2 _ (hlt h.bt) h.f1, k.2.2 _ (hlt h.bp) h.f2, k.2.2 _ (hlt h.sr.1) h.f3, ?_, ?_, ?_⟩
  · intro ad e hn; obtain ⟨o, ho, hc⟩ := h.ct ad e hn; rw [ho]; exact k.cells ho hc (h.f4 ad e hn)
  · intro ad e hn; obtain ⟨o, ho, hc⟩ := h.ct ad e hn; exact ⟨o, k.cells ho hc (h.f4 ad e hn), hc⟩
  · intro i e; obtain ⟨o, ho, hc⟩ := h.cp i e; rw [ho]; exact k.cells ho hc (h.f5 i e)
  · intro i e; obtain ⟨o, ho, hc⟩ := h.cb i e; rw [ho]; exact k.cells ho hc (h.f6 i e)
  · intro i e; obtain ⟨o, ho, hc⟩ := h.cp i e; exact ⟨o, k.cells ho hc (h.f5 i e), hc⟩
  · intro i e; obtain ⟨o, ho, hc⟩ := h.cb i e; exact ⟨o, k.cells ho hc (h.f6 i e), hc⟩
  · intro ad e hn; obtain ⟨o, ho, hc⟩ := h.ct ad e hn; exact k.2.2 _ (hlt ho) (h.f4 ad e hn)
  · intro i e; obtain ⟨o, ho, hc⟩ := h.cp i e; exact k.2.2 _ (hlt ho) (h.f5 i e)
  · intro i e; obtain ⟨o, ho, hc⟩ := h.cb i e; exact k.2.2 _ (hlt ho) (h.f6 i e)
/-- behind a Feed -/
theorem Its.fed {r : Int} (h : Its b W Bt Bp B At Ap ct cp text p vp vb back at_) (hs : Srch W' B vp vb p back r) (hg : W.grownBy W' (some B)) (hBt : Bt ≠ B) (hBp : Bp ≠ B) (hAt : ∀ ad, At = some ad → 0 < text.length → ad.block ≠ B) (hb : b ≠ B) (hbl : b < W.heap.size) :
    Its b W' Bt Bp B At Ap ct cp text p vp vb back r := by
  have hlt : ∀ {i : Nat} {o : Obj}, W.heap[i]? = some o → i < W.heap.size := fun hi => (Array.getElem?_eq_some_iff.1 hi).1
  have hk : ∀ {i : Nat} {o : Obj}, W.heap[i]? = some o → i ≠ B → W'.heap[i]? = some o := fun {i o} hi hne => (hg.block i (hlt hi) (fun e => hne (by cases e; rfl))).trans hi
  have hf : ∀ k, ¬ Free b W k → ¬ Free b W' k := fun k => mt (free_eq (hg.block b hbl (fun e => hb (by cases e; rfl))) k).1
  refine ⟨hk h.bt hBt, hk h.bp hBp, reads_at h.rt ?_, ?_, hs, h.n1, h.n2, ?_, ?_, hf _ h.f1, hf _ h.f2, hf _ h.f3, fun ad e hn => hf _ (h.f4 ad e hn), fun i e => hf _ (h.f5 i e), fun i e => hf _ (h.f6 i e)⟩
  · intro ad e hn; obtain ⟨o, ho, hc⟩ := h.ct ad e hn; rw [ho]; exact hk ho (hAt ad e hn)
  · intro ad e hn; obtain ⟨o, ho, hc⟩ := h.ct ad e hn; exact ⟨o, hk ho (hAt ad e hn), hc⟩
  · intro i e; obtain ⟨o, ho, hc⟩ := h.cp i e; exact ⟨o, hk ho (fun e' => h.n1 (by rw [← e', e])), hc⟩
  · intro i e; obtain ⟨o, ho, hc⟩ := h.cb i e; exact ⟨o, hk ho (fun e' => h.n2 (by rw [← e', e])), hc⟩
end its
/-- the places, behind so many things -/
def placesUpto (p : List Int) (at_ : Nat → Int) (k : Nat) : List Int :=
  (if p.length = 0 then [0] else []) ++ ((List.range k).filter fun i => at_ (i + 1) == (p.length : Int)).map fun (i : Nat) => (i : Int) + 1 - (p.length : Int)
theorem places_hit {p : List Int} {at_ : Nat → Int} {k : Nat} (h : at_ (k + 1) = (p.length : Int)) : placesUpto p at_ (k + 1) = placesUpto p at_ k ++ [(k : Int) + 1 - (p.length : Int)] := by
  unfold placesUpto
  rw [List.range_succ, List.filter_append, List.map_append]
  simp [h]
theorem places_miss {p : List Int} {at_ : Nat → Int} {k : Nat} (h : at_ (k + 1) ≠ (p.length : Int)) : placesUpto p at_ (k + 1) = placesUpto p at_ k := by
  unfold placesUpto
  rw [List.range_succ, List.filter_append, List.map_append]
  simp [h]
theorem places_pre {p : List Int} {at_ : Nat → Int} {k n : Nat} (h : k ≤ n) : placesUpto p at_ k <+: placesUpto p at_ n := by
  obtain ⟨d, rfl⟩ := Nat.exists_eq_add_of_le h
  unfold placesUpto
  rw [List.range_add, List.filter_append, List.map_append, ← List.append_assoc]
  exact List.prefix_append ..
set_option maxHeartbeats 1000000 in
/-- kmp.All[int]: both parameters are boxed; the function value captures the boxes -/
theorem all_in (F : Fence) (n : Nat) (hf : F.fn 28) (hro : F.round = none) (At Ap : Option Addr) (nt np ct cp : Nat) (w : World) :
    CallsIn F n Try.prog 28 #[.slice At nt ct, .slice Ap np cp] w fun e w' => e = .returned (.func (.func 31) #[] #[.pointer (some ⟨w.heap.size + 1, 0, none⟩), .pointer (some ⟨w.heap.size, 0, none⟩)]) ∧ w' = (w.alloc (.cells #[.slice At nt ct] 22)).alloc (.cells #[.slice Ap np cp] 22) := by
  refine callsIn_of_wp Try.func28 rfl hf ?_ hro
  simp only [Try.ntmps28, List.size_toArray, List.length_cons, List.length_nil, Nat.reduceAdd, Nat.reduceSub, Array.replicate_succ, Array.replicate_zero, List.push_toArray, List.append_toArray, List.nil_append, List.cons_append]
  gi_wp2
  go_ret
  exact ⟨by simp, rfl⟩
section
variable {C : World → Nat → Prop}
/-- an invariant that abides what C lets be written abides a block more -/
theorem abC_alloc {J : List Int → World → Prop} (h : AbC C J) {pre : List Int} {W : World} (o : Obj) (hj : J pre W) : J pre (W.alloc o) :=
  h pre W _ none hj (World.grownBy_alloc W o none) (fun r hr => by cases hr)
end
theorem places0 {p : List Int} {at_ : Nat → Int} (h : p ≠ []) : placesUpto p at_ 0 = [] := by
  unfold placesUpto
  rw [if_neg (by simpa using h)]
  rfl
set_option maxRecDepth 100000 in
set_option maxHeartbeats 400000 in
/-- the closure of kmp.All[int] -/
theorem all1_in (K : Nat) (b n₀ : Nat) (n : Nat) (hn : 1 ≤ n) (l : Nat) (Bt Bp : Nat) (At Ap : Option Addr) (ct cp : Nat) (text p back : List Int) (at_ : Nat → Int) (hct : text.length ≤ ct) (hcp : p.length ≤ cp)
    (htl : text.length ≤ 1048576) (hpl : p.length ≤ 1048576) (hb : kmp_Borders_int.f K p = some back) (h0 : at_ 0 = 0) (hat : ∀ i x, text[i]? = some x → kmp_next_int.f K p back (at_ i) x = some (at_ (i + 1)))
    (J Jx : List Int → World → Prop) (C : World → Nat → Prop) (hC : ∀ W k, n₀ ≤ k → k < W.heap.size → ¬ Free b W k → C W k) (hbn : b < n₀) (W : World) (hn₀ : n₀ ≤ W.heap.size)
    (hY : ∀ pre x W, J pre W → pre ++ [x] <+: placesUpto p at_ text.length → YieldAt Fence.wide (n - 1) Try.prog l #[.int .i64 x] W fun e W' =>
      (e = .returned (.bool true) ∧ J (pre ++ [x]) W' ∧ Keep b W W') ∨ (e = .returned (.bool false) ∧ Jx (pre ++ [x]) W'))
    (hJ : AbC C J) (hBt : Boxed W Bt 22 (.slice At text.length ct)) (hBp : Boxed W Bp 22 (.slice Ap p.length cp)) (hrt : ReadsInt W .i64 At text.length text) (hrp : Kd.C (Kd.int .i64) W Ap p.length p)
    (hcells : ∀ ad, At = some ad → 0 < text.length → ∃ o : Obj, W.heap[ad.block]? = some o ∧ o.isCells = true)
    (f1 : ¬ Free b W Bt) (f2 : ¬ Free b W Bp) (f4 : ∀ ad, At = some ad → 0 < text.length → ¬ Free b W ad.block) (hv : ∃ t v, Boxed W b t v ∧ ∀ k, v.ownBlock = some k → k < W.heap.size) (hJ0 : J [] W) :
    CallsIn Fence.wide n Try.prog 31 #[.func (.yield l) #[] #[], .pointer (some ⟨Bp, 0, none⟩), .pointer (some ⟨Bt, 0, none⟩)] W fun e W' => (∃ v, e = .returned v) ∧
      ((∃ ys, ys = placesUpto p at_ text.length ∧ J ys W') ∨ (∃ pre, pre <+: placesUpto p at_ text.length ∧ Jx pre W')) := by
  have hcB := hBp.cell
  have hp8 : p.length * 8 ≤ 140737488355328 := by omega
  have HBt := Lib.hid hBt
  have HBp := Lib.hid hBp
  have h16 : Fence.wide.fn 16 := trivial
  have h17 : Fence.wide.fn 17 := trivial
  have hnew := (callsIn_wide (n := n - 1)).2 (new_int K Ap cp p back W hrp hcp hp8 hb)
  have hlt : ∀ {i : Nat} {o : Obj}, W.heap[i]? = some o → i < W.heap.size := fun hi => (Array.getElem?_eq_some_iff.1 hi).1
  have hbW : b < W.heap.size := Nat.lt_of_lt_of_le hbn hn₀
  obtain ⟨t0, v0, hv0, hv0k⟩ := hv
  have hnf : ∀ k, W.heap.size ≤ k → ¬ Free b W k := by
    rintro k hk (h | ⟨v, hv1, hv2⟩)
    · omega
    · rw [hv0.cell] at hv1; cases hv1; have := hv0k _ hv2; omega
  -- what stands behind the call of New
  have hI : ∀ (W1 : World) (B : Nat) (vp vb : Value), W.heap.size ≤ B → (∀ k, vp.ownBlock = some k → W.heap.size ≤ k) → (∀ k, vb.ownBlock = some k → W.heap.size ≤ k) → some B ≠ vp.ownBlock → some B ≠ vb.ownBlock → Srch W1 B vp vb p back 0 → (∀ k, vp.ownBlock = some k → ∃ o : Obj, W1.heap[k]? = some o ∧ o.isCells = true) → (∀ k, vb.ownBlock = some k → ∃ o : Obj, W1.heap[k]? = some o ∧ o.isCells = true) → Below W.heap.size W W1 →
      Its b W1 Bt Bp B At Ap ct cp text p vp vb back 0 ∧ Bt ≠ B ∧ Bp ≠ B ∧ (∀ ad, At = some ad → 0 < text.length → ad.block ≠ B) ∧ b ≠ B ∧ J [] W1 := by
    intro W1 B vp vb hB hvp hvb hn1 hn2 hs hvpc hvbc hbel
    have hFr : ∀ k, Free b W1 k ↔ Free b W k := free_eq (hbel.block b hbW)
    refine ⟨⟨(hbel.block _ hBt.lt).trans hBt, (hbel.block _ hBp.lt).trans hBp, hrt.below hbel, (fun ad e hx => by
      obtain ⟨o, ho, hc⟩ := hcells ad e hx
      exact ⟨o, (hbel.block _ (hlt ho)).trans ho, hc⟩), hs, hn1, hn2, hvpc, hvbc, mt (hFr _).1 f1, mt (hFr _).1 f2, mt (hFr _).1 (hnf _ hB), (fun ad e hx => mt (hFr _).1 (f4 ad e hx)), (fun k e => mt (hFr _).1 (hnf _ (hvp k e))), (fun k e => mt (hFr _).1 (hnf _ (hvb k e)))⟩, ?_, ?_, ?_, ?_, ?_⟩
    · have := hBt.lt; omega
    · have := hBp.lt; omega
    · intro ad e hx; obtain ⟨o, ho, _⟩ := hcells ad e hx; have := hlt ho; omega
    · omega
    · exact hJ [] W W1 none hJ0 ⟨hbel.os, hbel.tape, hbel.output, hbel.size, fun k hk _ => hbel.block k hk⟩ (fun r hr => by cases hr)
  clear hrt hcells f4 f1 f2 hv0 hv0k hnf
  have hsplit : p = [] ∨ p ≠ [] := Classical.em _
  rcases hsplit with hp0 | hp0
  · subst hp0
    refine callsIn_of_wp Try.func31 rfl trivial ?_ rfl
    simp only [Try.ntmps31, List.size_toArray, List.length_cons, List.length_nil, Nat.reduceAdd, Nat.reduceSub, Array.replicate_succ, Array.replicate_zero, List.push_toArray, List.append_toArray, List.nil_append, List.cons_append]
    gi_wp2_with (gi_at_call 16; refine hnew.mono ?_; rintro e W1 ⟨B, vp, vb, rfl, hB, hvp, hvb, hn1, hn2, hs, hvpc, hvbc, hbel⟩; obtain ⟨hI1, hBt1, hBp1, hAt1, hbB1, hJ1⟩ := hI W1 B vp vb hB hvp hvb hn1 hn2 hs hvpc hvbc hbel; have hcB1 : W1.cell? ⟨Bp, 0, none⟩ = some (.slice Ap 0 cp) := hI1.bp.cell; obtain ⟨fn, tmps, assign, body, hy, hR⟩ := hY [] 0 W1 hJ1 (List.prefix_append _ _))
    refine hR.mono ?_
    rintro e W2 (⟨rfl, hJ2, hk2⟩ | ⟨rfl, hJx2⟩)
    · have hI2 := hI1.keep hk2
      have hcT1 := hI2.bt.cell
      gi_wp2
      gi_loopw [19] (fun i wr => ∃ k : Nat, k ≤ text.length ∧ i = .int .i64 k ∧ J (placesUpto [] at_ k) wr ∧ Its b wr Bt Bp B At Ap ct cp text [] vp vb back (at_ k) ∧ b < wr.heap.size ∧ W.heap.size ≤ wr.heap.size)
        (fun i _ => text.length - (intOf i).toNat)
      case atStart => exact ⟨0, Nat.zero_le _, rfl, hJ2, by rw [h0]; exact hI2, by have := hk2.1; have := hbel.size; omega, by have := hk2.1; have := hbel.size; omega⟩
      case round =>
        obtain ⟨k, hk, rfl, hJs, hIs, hbl, hnw⟩ := hrel
        by_cases hlt : k < text.length
        · obtain ⟨x, hxt⟩ : ∃ x, text[k]? = some x := ⟨_, List.getElem?_eq_getElem hlt⟩
          obtain ⟨ad, rfl, hcg⟩ := hIs.rt.2.2 (by omega)
          have hcx := hcg k hlt
          clear hcg
          have hgd : text.getD k 0 = x := by rw [List.getD_eq_getElem?_getD, hxt]; rfl
          rw [hgd] at hcx
          have hfx := hat k _ hxt
          clear hgd hxt
          have hFd := (callsIn_wide (n := n - 1)).2 (feed_int K B vp vb [] back (at_ k) x (at_ (k + 1)) wr hIs.sr hIs.n1 hIs.n2 hfx)
          have hJF : ∀ W3, wr.grownBy W3 (some B) → J (placesUpto [] at_ k) W3 := fun W3 hg => hJ _ _ _ _ hJs hg (fun r hr => by
            cases hr
            exact ⟨hC _ _ (by omega) (Array.getElem?_eq_some_iff.1 hIs.sr.1).1 hIs.f3, _, hIs.sr.1, rfl⟩)
          have hIF : ∀ W3, Srch W3 B vp vb [] back (at_ (k + 1)) → wr.grownBy W3 (some B) → Its b W3 Bt Bp B (some ad) Ap ct cp text [] vp vb back (at_ (k + 1)) := fun W3 hs hg => hIs.fed hs hg hBt1 hBp1 hAt1 hbB1 hbl
          rcases Classical.em (at_ (k + 1) = (0 : Int)) with hd | hd
          · have hd1 : (at_ (k + 1) == (([] : List Int).length : Int)) = true := beq_iff_eq.mpr hd
            have hpe : placesUpto [] at_ (k + 1) = placesUpto [] at_ k ++ [(k : Int) + 1] := (places_hit (p := []) hd).trans (by simp)
            have hyF := fun W3 hg => hY _ ((k : Int) + 1) W3 (hJF W3 hg) (by rw [← hpe]; exact places_pre (by omega))
            have HPQ := Lib.hid hpe
            clear hpe
            have HD := Lib.hid hd
            clear hd hfx
            gi_wp2_with (gi_at_call 17; refine hFd.mono ?_; rintro e W3 ⟨rfl, hs3, hg3⟩; rw [hd1]; have hI3 := hIF W3 hs3 hg3; have hcB3 : W3.cell? ⟨Bp, 0, none⟩ = some (.slice Ap 0 cp) := hI3.bp.cell; obtain ⟨fn, tmps, assign, body, hy, hR⟩ := hyF W3 hg3)
            refine hR.mono ?_
            rintro e W4 (⟨rfl, hJ4, hk4⟩ | ⟨rfl, hJx4⟩)
            · have hnw4 := Nat.le_trans hnw (Nat.le_trans hg3.size hk4.1)
              gi_wp2
              go_roundw
              case rel => exact ⟨k + 1, by omega, by go_num, by rw [HPQ.out]; exact hJ4, hI3.keep hk4, by omega, hnw4⟩
              case measure => simp [intOf]; omega
            · gi_wp2
              refine bodyPost_ret (results_none rfl _ _ _) rfl ?_
              exact ⟨⟨_, rfl⟩, .inr ⟨_, by rw [← HPQ.out]; exact places_pre (by omega), hJx4⟩⟩
          · have hd1 : (at_ (k + 1) == (([] : List Int).length : Int)) = false := beq_eq_false_iff_ne.mpr hd
            have HD := Lib.hid hd
            clear hd hfx
            gi_wp2_with (gi_at_call 17; refine hFd.mono ?_; rintro e W3 ⟨rfl, hs3, hg3⟩; rw [hd1]; have hI3 := hIF W3 hs3 hg3)
            have hnw3 := Nat.le_trans hnw hg3.size
            have hJ3 := hJF W3 hg3
            refine ⟨fun _ h => (by cases h), ?_⟩
            gi_wp2
            go_roundw
            case rel => exact ⟨k + 1, by omega, by go_num, by rw [places_miss HD.out]; exact hJ3, hI3, by omega, hnw3⟩
            case measure => simp [intOf]; omega
        · obtain rfl : k = text.length := by omega
          gi_wp2
          go_end0
          exact ⟨⟨_, rfl⟩, .inl ⟨_, rfl, hJs⟩⟩
    · gi_wp2
      refine bodyPost_ret (results_none rfl _ _ _) rfl ?_
      exact ⟨⟨_, rfl⟩, .inr ⟨_, List.prefix_append _ _, hJx2⟩⟩
  · have HPE := Lib.hid (show ((p.length : Int) == 0) = false by simpa using hp0)
    refine callsIn_of_wp Try.func31 rfl trivial ?_ rfl
    simp only [Try.ntmps31, List.size_toArray, List.length_cons, List.length_nil, Nat.reduceAdd, Nat.reduceSub, Array.replicate_succ, Array.replicate_zero, List.push_toArray, List.append_toArray, List.nil_append, List.cons_append]
    gi_wp2_with (gi_at_call 16; refine hnew.mono ?_; rintro e W1 ⟨B, vp, vb, rfl, hB, hvp, hvb, hn1, hn2, hs, hvpc, hvbc, hbel⟩; obtain ⟨hI1, hBt1, hBp1, hAt1, hbB1, hJ1⟩ := hI W1 B vp vb hB hvp hvb hn1 hn2 hs hvpc hvbc hbel; have hcB1 := hI1.bp.cell; have hcT1 := hI1.bt.cell; have hpe := HPE.out)
    refine ⟨fun _ h => (by cases h), ?_⟩
    gi_wp2
    gi_loopw [19] (fun i wr => ∃ k : Nat, k ≤ text.length ∧ i = .int .i64 k ∧ J (placesUpto p at_ k) wr ∧ Its b wr Bt Bp B At Ap ct cp text p vp vb back (at_ k) ∧ b < wr.heap.size ∧ W.heap.size ≤ wr.heap.size)
      (fun i _ => text.length - (intOf i).toNat)
    case atStart => exact ⟨0, Nat.zero_le _, rfl, by rw [places0 hp0]; exact hJ1, by rw [h0]; exact hI1, by have := hbel.size; omega, hbel.size⟩
    case round =>
      obtain ⟨k, hk, rfl, hJs, hIs, hbl, hnw⟩ := hrel
      by_cases hlt : k < text.length
      · obtain ⟨x, hxt⟩ : ∃ x, text[k]? = some x := ⟨_, List.getElem?_eq_getElem hlt⟩
        obtain ⟨ad, rfl, hcg⟩ := hIs.rt.2.2 (by omega)
        have hcx := hcg k hlt
        clear hcg
        have hgd : text.getD k 0 = x := by rw [List.getD_eq_getElem?_getD, hxt]; rfl
        rw [hgd] at hcx
        have hfx := hat k _ hxt
        clear hgd hxt
        have hFd := (callsIn_wide (n := n - 1)).2 (feed_int K B vp vb p back (at_ k) x (at_ (k + 1)) wr hIs.sr hIs.n1 hIs.n2 hfx)
        have hJF : ∀ W3, wr.grownBy W3 (some B) → J (placesUpto p at_ k) W3 := fun W3 hg => hJ _ _ _ _ hJs hg (fun r hr => by
          cases hr
          exact ⟨hC _ _ (by omega) (Array.getElem?_eq_some_iff.1 hIs.sr.1).1 hIs.f3, _, hIs.sr.1, rfl⟩)
        have hIF : ∀ W3, Srch W3 B vp vb p back (at_ (k + 1)) → wr.grownBy W3 (some B) → Its b W3 Bt Bp B (some ad) Ap ct cp text p vp vb back (at_ (k + 1)) := fun W3 hs hg => hIs.fed hs hg hBt1 hBp1 hAt1 hbB1 hbl
        rcases Classical.em (at_ (k + 1) = (p.length : Int)) with hd | hd
        · have hd1 : (at_ (k + 1) == ((p : List Int).length : Int)) = true := beq_iff_eq.mpr hd
          have hpe : placesUpto p at_ (k + 1) = placesUpto p at_ k ++ [(k : Int) + 1 - (p.length : Int)] := (places_hit (p := p) hd).trans (by simp)
          have hyF := fun W3 hg => hY _ ((k : Int) + 1 - (p.length : Int)) W3 (hJF W3 hg) (by rw [← hpe]; exact places_pre (by omega))
          have HPQ := Lib.hid hpe
          clear hpe
          have HD := Lib.hid hd
          clear hd hfx
          gi_wp2_with (gi_at_call 17; refine hFd.mono ?_; rintro e W3 ⟨rfl, hs3, hg3⟩; rw [hd1]; have hI3 := hIF W3 hs3 hg3; have hcB3 : W3.cell? ⟨Bp, 0, none⟩ = some (.slice Ap p.length cp) := hI3.bp.cell; obtain ⟨fn, tmps, assign, body, hy, hR⟩ := hyF W3 hg3)
          refine hR.mono ?_
          rintro e W4 (⟨rfl, hJ4, hk4⟩ | ⟨rfl, hJx4⟩)
          · have hnw4 := Nat.le_trans hnw (Nat.le_trans hg3.size hk4.1)
            gi_wp2
            go_roundw
            case rel => exact ⟨k + 1, by omega, by go_num, by rw [HPQ.out]; exact hJ4, hI3.keep hk4, by omega, hnw4⟩
            case measure => simp [intOf]; omega
          · gi_wp2
            refine bodyPost_ret (results_none rfl _ _ _) rfl ?_
            exact ⟨⟨_, rfl⟩, .inr ⟨_, by rw [← HPQ.out]; exact places_pre (by omega), hJx4⟩⟩
        · have hd1 : (at_ (k + 1) == ((p : List Int).length : Int)) = false := beq_eq_false_iff_ne.mpr hd
          have HD := Lib.hid hd
          clear hd hfx
          gi_wp2_with (gi_at_call 17; refine hFd.mono ?_; rintro e W3 ⟨rfl, hs3, hg3⟩; rw [hd1]; have hI3 := hIF W3 hs3 hg3)
          have hnw3 := Nat.le_trans hnw hg3.size
          have hJ3 := hJF W3 hg3
          refine ⟨fun _ h => (by cases h), ?_⟩
          gi_wp2
          go_roundw
          case rel => exact ⟨k + 1, by omega, by go_num, by rw [places_miss HD.out]; exact hJ3, hI3, by omega, hnw3⟩
          case measure => simp [intOf]; omega
      · obtain rfl : k = text.length := by omega
        gi_wp2
        go_end0
        exact ⟨⟨_, rfl⟩, .inl ⟨_, rfl, hJs⟩⟩
end Go.Proofs.Ytokhmpchgkmbeaa.QA
