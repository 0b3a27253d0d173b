import Derived.RangeFuncNested
import Derived.RangeFuncBound
import Derived.RangeFuncCalls
import Derived.RangeFuncLeaves
import Derived.Shelf.Abstract
import Derived.Shelf.RegionOpen
import Derived.WalkKit
import Derived.OwnWalkIn
import Derived.TacticsInMore
import Derived.LoopNIn
import Derived.LoopIn
import Derived.Maps.AppendAt
import Derived.Lib.Hide
import Derived.StillTailTactics
import Derived.Outline
import Derived.Deep.RegionWith
import Derived.Deep.RegionLaw
import Derived.Deep.AppendLies
import Derived.Test.YtdbnmccflbkcoaaQAx0
import Derived.Test.YtdbnmccflbkcoaaGOf
import Derived.Test.YtdbnmccflbkcoaaQAx18
import Derived.Test.YtdbnmccflbkcoaaQAx20
namespace Go.Proofs.Ytdbnmccflbkcoaa.QA
open Go.RowKit Go.Shelf Go.Proofs.YtdbnmccflbkcoaaW.PrintWords Go.Proofs.YtdbnmccflbkcoaaW.PrintLast Go.Proofs.YtdbnmccflbkcoaaW.PrintMore
attribute [local go_sem] Oper.semAt_some
set_option linter.unusedVariables false
set_option linter.unusedSimpArgs false
/-! ### slices.IsSortedFunc at events, event.Rises -/
def RisesAt (l : List S32) (j : Nat) : Prop := ∀ x y, l[j]? = some x → l[j + 1]? = some y → x.f1 ≤ y.f1
def risesB (l : List S32) : Bool := (l.zip (l.drop 1)).all fun p => decide (p.1.f1 ≤ p.2.f1)
theorem risesB_true {l : List S32} (h : ∀ j, RisesAt l j) : risesB l = true := by
  simp only [risesB, List.all_eq_true]
  rintro ⟨x, y⟩ hxy
  obtain ⟨j, hj⟩ := List.getElem?_of_mem hxy
  rw [List.getElem?_zip_eq_some, List.getElem?_drop, Nat.add_comm] at hj
  exact decide_eq_true (h j x y hj.1 hj.2)
theorem risesB_false {l : List S32} {j : Nat} (h : ¬ RisesAt l j) : risesB l = false := by
  rw [Bool.eq_false_iff]
  intro hs
  simp only [risesB, List.all_eq_true] at hs
  refine h (fun x y hx hy => ?_)
  exact of_decide_eq_true (hs (x, y) (List.mem_of_getElem? (i := j) (List.getElem?_zip_eq_some.2 ⟨hx, by rw [List.getElem?_drop, Nat.add_comm]; exact hy⟩)))
set_option maxRecDepth 100000 in
set_option maxHeartbeats 400000 in
theorem sorted_law (A : Option Addr) (c : Nat) (l : List S32) (w : World) (hr : Kd.C k32 w A l.length l) (hc : l.length ≤ c) (hm : l.length ≤ 1048576) :
    Calls Try.prog 24 #[.slice A l.length c, .func (.func 25) #[] #[]] w fun e w' => e = .returned (.bool (risesB l)) ∧ Below w.heap.size w w' := by
  obtain ⟨its, e1, hit⟩ := items hr
  have hl : its.length = l.length := by rw [← e1, List.length_map]
  have hge : ∀ (j : Nat) (x : S32), l[j]? = some x → ∃ i : Itm, its[j]? = some i ∧ i.1 = x := by
    intro j x hx
    rw [← e1, List.getElem?_map] at hx
    obtain ⟨i, h1, h2⟩ := Option.map_eq_some_iff.1 hx
    exact ⟨i, h1, h2⟩
  have HIT := Lib.hid hit
  have HGE := Lib.hid hge
  have HL := Lib.hid hl
  clear hr hit hge hl e1
  go_enter Try.func24, Try.ntmps24
  go_wp2
  have hB0 := Below.refl w.heap.size w
  go_loopw [5] (fun i wr => ∃ k : Int, i = .int .i64 k ∧ -1 ≤ k ∧ k < l.length + (if l.length = 0 then 1 else 0) ∧ Below w.heap.size w wr ∧ (∀ j : Nat, k ≤ (j : Int) → RisesAt l j)) (fun i _ => (intOf i).toNat)
  case atStart =>
    refine ⟨_, rfl, by omega, by split <;> omega, hB0, fun j hj x y hx hy => ?_⟩
    have := (List.getElem?_eq_some_iff.1 hy).1
    omega
  case round =>
    obtain ⟨k, rfl, hk1, hk2, hBw, hrs⟩ := hrel
    clear hB0
    by_cases hlt : 0 < k
    · obtain ⟨M, rfl⟩ : ∃ M : Nat, k = (M : Int) := ⟨k.toNat, by omega⟩
      obtain ⟨m, hM⟩ : ∃ m : Nat, M = m + 1 := ⟨M - 1, by omega⟩
      have hml : m + 1 < l.length := by split at hk2 <;> omega
      obtain ⟨x, hx⟩ : ∃ x, l[m]? = some x := ⟨_, List.getElem?_eq_getElem (by omega)⟩
      obtain ⟨y, hy⟩ : ∃ y, l[m + 1]? = some y := ⟨_, List.getElem?_eq_getElem hml⟩
      obtain ⟨ix, hix, rfl⟩ := HGE.out m x hx
      obtain ⟨iy, hiy, rfl⟩ := HGE.out (m + 1) y hy
      obtain ⟨ad, rfl, hat⟩ := HIT.out (by omega)
      obtain ⟨x0, x1, x2, x3, x4⟩ := (hat m ix hix).below hBw
      obtain ⟨y0, y1, y2, y3, y4⟩ := (hat (m + 1) iy hiy).below hBw
      rw [← hM] at y0 y1 y2 hy
      have HYY := Lib.hid (And.intro x4 (And.intro y4 (And.intro x3 (And.intro y3 (And.intro hx hy)))))
      have HRS := Lib.hid hrs
      have HB := Lib.hid hBw
      have hs1 : (M : Int) - 1 = (m : Int) := by omega
      have hs2 : wrap64 ((M : Int) - 1) = (m : Int) := by unfold wrap64; omega
      have hs3 : IntKind.i64.wrap ((M : Int) - 1) = (m : Int) := (i64_w _).trans hs2
      have hs4 : IntKind.i64.wrap (m : Int) = (m : Int) := (i64_w _).trans (by unfold wrap64; omega)
      have hi1 : M < l.length := by omega
      have hi2 : m < l.length := by omega
      have HM := Lib.hid hM
      clear x3 x4 y3 y4 hx hy hrs hBw hat HIT hix hiy hM hk1 hk2 hml
      by_cases h1 : iy.1.f1 < ix.1.f1
      · have HR0 := Lib.hid (show event_Rises_1.f iy.1.f0 iy.1.f1 iy.1.f2 ix.1.f0 ix.1.f1 ix.1.f2 = some (-1) by unfold event_Rises_1.f; rw [if_pos h1])
        have HF := Lib.hid (risesB_false (l := l) (j := m) (fun h => by
          have := h _ _ HYY.out.2.2.2.2.1 (by rw [← HM.out]; exact HYY.out.2.2.2.2.2)
          omega))
        clear h1
        go_wp2
        go_region_with (go_at_call 25; refine (event_Rises_1.calls _ _ _ _ iy.1.f2 _ _ _ _ ix.1.f2 (-1) _ (by repeat (first | exact HYY.out.2.1 | apply Kd.C_drewN | apply Kd.C_drew)) HYY.out.2.2.2.1 (by repeat (first | exact HYY.out.1 | apply Kd.C_drewN | apply Kd.C_drew)) HYY.out.2.2.1 HR0.out).mono ?_; rintro e w5 ⟨rfl, hb5⟩)
        all_goals
          have HB5 := Lib.hid (below_step (by repeat (first | exact HB.out | apply pw_below_drewN | apply below_drew1)) hb5)
          clear hb5
          go_wp2
          go_ret
          exact ⟨by rw [HF.out]; rfl, HB5.out⟩
      by_cases h2 : iy.1.f1 > ix.1.f1
      · have HR0 := Lib.hid (show event_Rises_1.f iy.1.f0 iy.1.f1 iy.1.f2 ix.1.f0 ix.1.f1 ix.1.f2 = some (1) by unfold event_Rises_1.f; rw [if_neg h1, if_pos h2])
        have HOK := Lib.hid (show RisesAt l m from fun a b ha hb => by
          rw [HYY.out.2.2.2.2.1] at ha
          rw [← HM.out, HYY.out.2.2.2.2.2] at hb
          cases ha; cases hb
          omega)
        clear h1 h2
        go_wp2
        go_region_with (go_at_call 25; refine (event_Rises_1.calls _ _ _ _ iy.1.f2 _ _ _ _ ix.1.f2 (1) _ (by repeat (first | exact HYY.out.2.1 | apply Kd.C_drewN | apply Kd.C_drew)) HYY.out.2.2.2.1 (by repeat (first | exact HYY.out.1 | apply Kd.C_drewN | apply Kd.C_drew)) HYY.out.2.2.1 HR0.out).mono ?_; rintro e w5 ⟨rfl, hb5⟩)
        all_goals
          have HB5 := Lib.hid (below_step (by repeat (first | exact HB.out | apply pw_below_drewN | apply below_drew1)) hb5)
          clear hb5
          go_wp2
          have hb6 := HB5.out
          have hs6 : ∀ j : Nat, (m : Int) ≤ (j : Int) → RisesAt l j := fun j hj => by
            rcases Nat.lt_or_ge m j with h | h
            · exact HRS.out j (by have := HM.out; omega)
            · obtain rfl : j = m := by omega
              exact HOK.out
          have hM2 := HM.out
          go_roundw
          case rel => exact ⟨(m : Int), rfl, by omega, by split <;> omega, hb6, hs6⟩
          case measure => simp [intOf]; omega
      · have HR0 := Lib.hid (show event_Rises_1.f iy.1.f0 iy.1.f1 iy.1.f2 ix.1.f0 ix.1.f1 ix.1.f2 = some (0) by unfold event_Rises_1.f; rw [if_neg h1, if_neg h2])
        have HOK := Lib.hid (show RisesAt l m from fun a b ha hb => by
          rw [HYY.out.2.2.2.2.1] at ha
          rw [← HM.out, HYY.out.2.2.2.2.2] at hb
          cases ha; cases hb
          omega)
        clear h1 h2
        go_wp2
        go_region_with (go_at_call 25; refine (event_Rises_1.calls _ _ _ _ iy.1.f2 _ _ _ _ ix.1.f2 (0) _ (by repeat (first | exact HYY.out.2.1 | apply Kd.C_drewN | apply Kd.C_drew)) HYY.out.2.2.2.1 (by repeat (first | exact HYY.out.1 | apply Kd.C_drewN | apply Kd.C_drew)) HYY.out.2.2.1 HR0.out).mono ?_; rintro e w5 ⟨rfl, hb5⟩)
        all_goals
          have HB5 := Lib.hid (below_step (by repeat (first | exact HB.out | apply pw_below_drewN | apply below_drew1)) hb5)
          clear hb5
          go_wp2
          have hb6 := HB5.out
          have hs6 : ∀ j : Nat, (m : Int) ≤ (j : Int) → RisesAt l j := fun j hj => by
            rcases Nat.lt_or_ge m j with h | h
            · exact HRS.out j (by have := HM.out; omega)
            · obtain rfl : j = m := by omega
              exact HOK.out
          have hM2 := HM.out
          go_roundw
          case rel => exact ⟨(m : Int), rfl, by omega, by split <;> omega, hb6, hs6⟩
          case measure => simp [intOf]; omega
    · go_wp2
      go_ret
      exact ⟨by rw [risesB_true (fun j => hrs j (by omega))]; rfl, hBw⟩
/-- event.Rises: do times never go back? -/
def event_Rises.f (k : Nat) (l0 : List S32) : Option Bool := if l0.length ≤ 1048576 then some (risesB l0) else none
theorem event_Rises.mono : ∀ a0 k, LeO (event_Rises.f k a0) (event_Rises.f (k + 1) a0) := fun _ _ => LeO.refl _
set_option maxRecDepth 100000 in
set_option maxHeartbeats 400000 in
theorem event_Rises.calls (k : Nat) (A0 : Option Addr) (c0 : Nat) (l0 : List S32) (r : Bool) (w : World) (hr0 : Kd.C k32 w A0 l0.length l0) (hc0 : l0.length ≤ c0) (h : event_Rises.f k l0 = some r) :
    Calls Try.prog 18 #[.slice A0 l0.length c0] w fun e w' => e = .returned (.bool r) ∧ Below w.heap.size w w' := by
  unfold event_Rises.f at h
  by_cases hl : l0.length ≤ 1048576
  · rw [if_pos hl] at h
    obtain rfl := Option.some.inj h
    have HS := Lib.hid (sorted_law A0 c0 l0 w hr0 hc0 hl)
    clear hr0 h
    go_enter Try.func18, Try.ntmps18
    go_wp2_with (go_at_call 24; refine HS.out.mono ?_; rintro e w1 ⟨rfl, hb1⟩; have HB := Lib.hid hb1; clear hb1)
    go_ret
    exact ⟨rfl, HB.out⟩
  · rw [if_neg hl] at h; cases h
end Go.Proofs.Ytdbnmccflbkcoaa.QA
