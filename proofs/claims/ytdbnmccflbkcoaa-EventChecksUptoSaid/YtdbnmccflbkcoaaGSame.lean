import Derived.RangeFuncNested
import Derived.RangeFuncBound
import Derived.RangeFuncCalls
import Derived.RangeFuncLeaves
import Derived.Shelf.Abstract
import Derived.Shelf.RegionOpen
import Derived.WalkKit
import Derived.OwnWalkIn
import Derived.TacticsInMore
import Derived.LoopNIn
import Derived.LoopIn
import Derived.Maps.AppendAt
import Derived.Lib.Hide
import Derived.StillTailTactics
import Derived.Outline
import Derived.Deep.RegionWith
import Derived.Deep.RegionLaw
import Derived.Deep.AppendLies
import Derived.Test.YtdbnmccflbkcoaaQAx0
import Derived.Test.YtdbnmccflbkcoaaGOf
import Derived.Test.YtdbnmccflbkcoaaQAx17
import Derived.Test.YtdbnmccflbkcoaaQAx19
namespace Go.Proofs.Ytdbnmccflbkcoaa.QA
open Go.RowKit Go.Shelf Go.Proofs.YtdbnmccflbkcoaaW.PrintWords Go.Proofs.YtdbnmccflbkcoaaW.PrintLast Go.Proofs.YtdbnmccflbkcoaaW.PrintMore
attribute [local go_sem] Oper.semAt_some
set_option linter.unusedVariables false
set_option linter.unusedSimpArgs false
/-! ### slices.EqualFunc at events, event.Same -/
def evEq (x y : S32) : Bool := (x.f0 == y.f0) && ((x.f1 == y.f1) && ((strOfNums x.f2).toList == (strOfNums y.f2).toList))
def sameB (l m : List S32) : Bool := decide (l.length = m.length) && (l.zip m).all (fun p => evEq p.1 p.2)
theorem sameB_len {l m : List S32} (h : l.length ≠ m.length) : sameB l m = false := by simp [sameB, h]
theorem sameB_true {l m : List S32} (h : l.length = m.length) (hj : ∀ (j : Nat) x y, l[j]? = some x → m[j]? = some y → evEq x y = true) : sameB l m = true := by
  simp only [sameB, h, decide_true, Bool.true_and, List.all_eq_true]
  rintro ⟨x, y⟩ hxy
  obtain ⟨j, hj2⟩ := List.getElem?_of_mem hxy
  rw [List.getElem?_zip_eq_some] at hj2
  exact hj j x y hj2.1 hj2.2
theorem sameB_false {l m : List S32} {j : Nat} {x y : S32} (hx : l[j]? = some x) (hy : m[j]? = some y) (h : evEq x y = false) : sameB l m = false := by
  rw [Bool.eq_false_iff]
  intro hs
  simp only [sameB, Bool.and_eq_true, List.all_eq_true] at hs
  have := hs.2 (x, y) (List.mem_of_getElem? (i := j) (List.getElem?_zip_eq_some.2 ⟨hx, hy⟩))
  rw [h] at this
  cases this
theorem evEq_f (x y : S32) : event_Same_1.f x.f0 x.f1 x.f2 y.f0 y.f1 y.f2 = some (evEq x y) := by
  unfold event_Same_1.f evEq bytes_Equal.f
  by_cases h0 : x.f0 = y.f0
  · rw [if_pos h0, beq_iff_eq.2 h0, Bool.true_and]
    by_cases h1 : x.f1 = y.f1
    · rw [if_pos h1, beq_iff_eq.2 h1, Bool.true_and]; rfl
    · rw [if_neg h1, beq_eq_false_iff_ne.2 h1]; rfl
  · rw [if_neg h0, beq_eq_false_iff_ne.2 h0]; rfl
set_option maxRecDepth 100000 in
set_option maxHeartbeats 400000 in
theorem equal_law (A B : Option Addr) (c d : Nat) (l m : List S32) (w : World) (hr : Kd.C k32 w A l.length l) (hc : l.length ≤ c) (hr2 : Kd.C k32 w B m.length m) (hd : m.length ≤ d) (hm : l.length ≤ 1048576) :
    Calls Try.prog 26 #[.slice A l.length c, .slice B m.length d, .func (.func 27) #[] #[]] w fun e w' => e = .returned (.bool (sameB l m)) ∧ Below w.heap.size w w' := by
  obtain ⟨its, e1, hit⟩ := items hr
  obtain ⟨jts, e2, hjt⟩ := items hr2
  have hge : ∀ (ys : List Itm) (z : List S32), ys.map (·.1) = z → ∀ (j : Nat) (x : S32), z[j]? = some x → ∃ i : Itm, ys[j]? = some i ∧ i.1 = x := by
    intro ys z e j x hx
    rw [← e, List.getElem?_map] at hx
    obtain ⟨i, h1, h2⟩ := Option.map_eq_some_iff.1 hx
    exact ⟨i, h1, h2⟩
  have HIT := Lib.hid hit
  have HJT := Lib.hid hjt
  have HGE := Lib.hid (hge its l e1)
  have HGF := Lib.hid (hge jts m e2)
  clear hr hr2 hit hjt hge e1 e2
  by_cases hlen : l.length = m.length
  · have HLEN := Lib.hid hlen
    have hb0 : ((l.length : Int) != (m.length : Int)) = false := by rw [hlen]; simp
    have hb1 : ((l.length : Int) == (m.length : Int)) = true := by rw [hlen]; simp
    clear hlen
    go_enter Try.func26, Try.ntmps26
    go_wp2
    have hB0 := Below.refl w.heap.size w
    go_loopw [17] (fun i wr => ∃ k : Nat, k ≤ l.length ∧ i = .int .i64 k ∧ Below w.heap.size w wr ∧ (∀ (j : Nat) x y, j < k → l[j]? = some x → m[j]? = some y → evEq x y = true)) (fun i _ => l.length - (intOf i).toNat)
    case atStart => exact ⟨0, Nat.zero_le _, rfl, hB0, fun j x y hj => by omega⟩
    case round =>
      obtain ⟨k, hk, rfl, hBw, hev⟩ := hrel
      clear hB0
      by_cases hlt : k < l.length
      · have hlt2 : k < m.length := by have := HLEN.out; omega
        obtain ⟨x, hx⟩ : ∃ x, l[k]? = some x := ⟨_, List.getElem?_eq_getElem hlt⟩
        obtain ⟨y, hy⟩ : ∃ y, m[k]? = some y := ⟨_, List.getElem?_eq_getElem hlt2⟩
        obtain ⟨ix, hix, rfl⟩ := HGE.out k x hx
        obtain ⟨iy, hiy, rfl⟩ := HGF.out k y hy
        obtain ⟨ad, rfl, hat⟩ := HIT.out (by omega)
        obtain ⟨bd, rfl, hbt⟩ := HJT.out (by omega)
        obtain ⟨x0, x1, x2, x3, x4⟩ := (hat k ix hix).below hBw
        obtain ⟨y0, y1, y2, y3, y4⟩ := (hbt k iy hiy).below hBw
        have HYY := Lib.hid (And.intro x4 (And.intro y4 (And.intro x3 (And.intro y3 (And.intro hx hy)))))
        have HEV := Lib.hid hev
        have HB := Lib.hid hBw
        clear x3 x4 y3 y4 hx hy hev hat hbt HIT HJT hix hiy
        have HEQ := Lib.hid (evEq_f ix.1 iy.1)
        have hBA : Below wr.heap.size wr (wr.alloc (.cells #[.int .i64 ix.1.f0, .int .i64 ix.1.f1, .slice ix.2.1 ix.1.f2.length ix.2.2] 32)) := (Below.refl _ _).alloc (Nat.le_refl _) _
        replace y0 := pw_cell_below hBA y0
        replace y1 := pw_cell_below hBA y1
        replace y2 := pw_cell_below hBA y2
        clear hBA
        cases hr : evEq ix.1 iy.1 with
        | true =>
          rw [hr] at HEQ
          have HR := Lib.hid hr
          clear hr
          go_wp2_with (go_at_call 27; refine (event_Same_1.calls _ _ _ _ ix.1.f2 _ _ _ _ iy.1.f2 true _ (by repeat (first | exact HYY.out.1 | refine Kd.C_alloc ?_ _)) HYY.out.2.2.1 (by repeat (first | exact HYY.out.2.1 | refine Kd.C_alloc ?_ _)) HYY.out.2.2.2.1 HEQ.out).mono ?_; rintro e w5 ⟨rfl, hb5⟩; have HB5 := Lib.hid (below_step (by repeat (first | exact HB.out | apply below_alloc | apply pw_below_drewN | apply below_drew1)) hb5); clear hb5)
          have hb6 := HB5.out
          have hs6 : ∀ (j : Nat) x y, j < k + 1 → l[j]? = some x → m[j]? = some y → evEq x y = true := fun j x y hj hx hy => by
            rcases Nat.lt_or_ge j k with h | h
            · exact HEV.out j x y h hx hy
            · obtain rfl : j = k := by omega
              rw [HYY.out.2.2.2.2.1] at hx
              rw [HYY.out.2.2.2.2.2] at hy
              cases hx; cases hy
              exact HR.out
          go_roundw
          case rel => exact ⟨k + 1, by omega, by go_num, hb6, hs6⟩
          case measure => simp [intOf]; omega
        | false =>
          rw [hr] at HEQ
          have HF := Lib.hid (sameB_false HYY.out.2.2.2.2.1 HYY.out.2.2.2.2.2 hr)
          clear hr
          go_wp2_with (go_at_call 27; refine (event_Same_1.calls _ _ _ _ ix.1.f2 _ _ _ _ iy.1.f2 false _ (by repeat (first | exact HYY.out.1 | refine Kd.C_alloc ?_ _)) HYY.out.2.2.1 (by repeat (first | exact HYY.out.2.1 | refine Kd.C_alloc ?_ _)) HYY.out.2.2.2.1 HEQ.out).mono ?_; rintro e w5 ⟨rfl, hb5⟩; have HB5 := Lib.hid (below_step (by repeat (first | exact HB.out | apply below_alloc | apply pw_below_drewN | apply below_drew1)) hb5); clear hb5)
          go_ret
          exact ⟨by rw [HF.out]; rfl, HB5.out⟩
      · have hev2 : sameB l m = true := sameB_true HLEN.out (fun j x y hx hy => hev j x y (by have := (List.getElem?_eq_some_iff.1 hx).1; omega) hx hy)
        have HEV := Lib.hid hev2
        clear hev hev2
        go_wp2
        go_ret
        exact ⟨by rw [HEV.out]; rfl, hBw⟩
  · have hb0 : ((l.length : Int) != (m.length : Int)) = true := by simp; omega
    have hb1 : ((l.length : Int) == (m.length : Int)) = false := by simp; omega
    have HF := Lib.hid (sameB_len hlen)
    have hB0 := Below.refl w.heap.size w
    clear hlen
    go_enter Try.func26, Try.ntmps26
    go_wp2
    go_ret
    exact ⟨by rw [HF.out]; rfl, hB0⟩
/-- event.Same -/
def event_Same.f (k : Nat) (l0 l1 : List S32) : Option Bool := if l0.length ≤ 1048576 then some (sameB l0 l1) else none
theorem event_Same.mono : ∀ a0 a1 k, LeO (event_Same.f k a0 a1) (event_Same.f (k + 1) a0 a1) := fun _ _ _ => LeO.refl _
set_option maxRecDepth 100000 in
set_option maxHeartbeats 400000 in
theorem event_Same.calls (k : Nat) (A0 : Option Addr) (c0 : Nat) (l0 : List S32) (A1 : Option Addr) (c1 : Nat) (l1 : List S32) (r : Bool) (w : World) (hr0 : Kd.C k32 w A0 l0.length l0) (hc0 : l0.length ≤ c0) (hr1 : Kd.C k32 w A1 l1.length l1) (hc1 : l1.length ≤ c1) (h : event_Same.f k l0 l1 = some r) :
    Calls Try.prog 21 #[.slice A0 l0.length c0, .slice A1 l1.length c1] w fun e w' => e = .returned (.bool r) ∧ Below w.heap.size w w' := by
  unfold event_Same.f at h
  by_cases hl : l0.length ≤ 1048576
  · rw [if_pos hl] at h
    obtain rfl := Option.some.inj h
    have HS := Lib.hid (equal_law A0 A1 c0 c1 l0 l1 w hr0 hc0 hr1 hc1 hl)
    clear hr0 hr1 h
    go_enter Try.func21, Try.ntmps21
    go_wp2_with (go_at_call 26; refine HS.out.mono ?_; rintro e w1 ⟨rfl, hb1⟩; have HB := Lib.hid hb1; clear hb1)
    go_ret
    exact ⟨rfl, HB.out⟩
  · rw [if_neg hl] at h; cases h
end Go.Proofs.Ytdbnmccflbkcoaa.QA
