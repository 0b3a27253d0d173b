import Derived.RangeFuncNested
import Derived.RangeFuncBound
import Derived.RangeFuncCalls
import Derived.RangeFuncLeaves
import Derived.Shelf.Abstract
import Derived.Shelf.RegionOpen
import Derived.WalkKit
import Derived.OwnWalkIn
import Derived.TacticsInMore
import Derived.LoopNIn
import Derived.LoopIn
import Derived.Maps.AppendAt
import Derived.StillTailTactics
import Derived.Lib.Hide
import Derived.Outline
import Derived.Deep.RegionWith
import Derived.Deep.RegionLaw
import Derived.Deep.AppendLies
import Derived.Test.YtokhmpchgkmbeaaQAx1
import Derived.Test.YtokhmpchgkmbeaaQAx2
import Derived.Test.YtokhmpchgkmbeaaGNew
import Derived.Test.YtokhmpchgkmbeaaGLaw
import Derived.CallsIn
import Derived.Maps.OwnIn
import Derived.Test.YtokhmpchgkmbeaaGAllIt
import Derived.Test.YtokhmpchgkmbeaaGPlaces
import Derived.Test.YtokhmpchgkmbeaaGAll
import Derived.Test.YtokhmpchgkmbeaaGPure
import Derived.Test.YtokhmpchgkmbeaaPKmpPlaces
import Derived.Test.YtokhmpchgkmbeaaPKmpCuts
import Derived.Test.YtokhmpchgkmbeaaGReset
import Derived.Test.YtokhmpchgkmbeaaGEnds
import Derived.Test.YtokhmpchgkmbeaaQAx25
namespace Go.Proofs.Ytokhmpchgkmbeaa.QA
open Go.RowKit Go.Shelf Go.Proofs.YtokhmpchgkmbeaaW.PrintWords Go.Proofs.YtokhmpchgkmbeaaW.PrintLast Go.Proofs.YtokhmpchgkmbeaaW.PrintMore
set_option linter.unusedVariables false
set_option linter.unusedSimpArgs false
attribute [local go_sem] Oper.semAt_some
/-! ### the state of a search that is fed, beside a row that grows -/
theorem step_s {p back : List Int} (hp : p.length ≤ 1048576) (ht : Tab p back p.length) {K : Nat} (hK : 2 * p.length + 2 ≤ K) (s : List Int) (x : Int) : kmp_next_int.f K p back (best p s : Int) x = some (best p (s ++ [x]) : Int) := by
  have hb := best_is p s
  have hc := hb.1.1
  obtain ⟨r, hr, hbest⟩ := next_ok p back s x hp (best p s) K hb.1 (tab_mono ht hc) (fun j hj _ h => by have := hb.2 j h; omega) (by omega)
  rw [hr, best_eq hbest]
theorem best_nil (p : List Int) : best p [] = 0 := by
  have := bord_len (best_is p []).1
  simpa using this
theorem atB_end (s p : List Int) {m : Nat} (hm : m ≤ p.length) (hs : m ≤ s.length) : atB s (p.take m) ((s.length - m : Nat) : Int) = true ↔ p.take m <:+ s := by
  have h2 : (p.take m).length = m := by rw [List.length_take]; omega
  have e := ends_iff s (p.take m) (i := s.length - m) (by omega)
  rw [h2, show s.length - m + m = s.length by omega, List.take_length] at e
  rw [atB_stands (by omega), e]
theorem longest_l0 (s p : List Int) (hs : s.length ≤ 1048576) (hp : p.length ≤ 1048576) : ∀ d m k b : Nat, 1 ≤ m → m + d = p.length + 1 → b < m → b ≤ p.length → p.take b <:+ s → (∀ q, q < m → p.take q <:+ s → q ≤ b) → 2 * d + p.length + 6 ≤ k → cuecardref08_Longest.l0 k s p (b : Int) (m : Int) = some (best p s : Int) := by
  intro d
  induction d with
  | zero =>
    intro m k b hm hd hb hbp hsf hq hk
    obtain ⟨k, rfl⟩ : ∃ k', k = k' + 1 + 1 := ⟨k - 2, by omega⟩
    rw [cuecardref08_Longest.l0, if_neg (by omega), cuecardref08_Longest.j1, if_neg (by decide)]
    rw [best_eq (k := b) ⟨⟨hbp, hsf⟩, fun j hj => hq j (by have := hj.1; omega) hj.2⟩]
  | succ d ih =>
    intro m k b hm hd hb hbp hsf hq hk
    obtain ⟨k, rfl⟩ : ∃ k', k = k' + 1 + 1 := ⟨k - 2, by omega⟩
    rw [cuecardref08_Longest.l0, if_pos (by omega), cuecardref08_Longest.j1]
    by_cases hms : m ≤ s.length
    · rw [if_pos (decide_eq_true (by omega)), if_pos (by omega), if_pos (by omega), wrS (by omega) hms, Int.toNat_natCast, at_f (by omega) _ (by rw [List.length_take]; omega), Option.bind_some, wr1 (by omega)]
      by_cases h : p.take m <:+ s
      · rw [if_pos ((atB_end s p (by omega) hms).2 h)]
        exact ih (m + 1) k m (by omega) (by omega) (by omega) (by omega) h (fun q h1 _ => by omega) (by omega)
      · rw [if_neg (mt (atB_end s p (by omega) hms).1 h)]
        refine ih (m + 1) k b (by omega) (by omega) (by omega) hbp hsf (fun q h1 h2 => ?_) (by omega)
        rcases Nat.lt_or_ge q m with h3 | h3
        · exact hq q h3 h2
        · obtain rfl : q = m := by omega
          exact absurd h2 h
    · rw [if_neg (by simpa using hms)]
      rw [best_eq (k := b) ⟨⟨hbp, hsf⟩, fun j hj => hq j (by have := hj.1; have := bord_len hj; omega) hj.2⟩]
theorem longest_f (s p : List Int) (hs : s.length ≤ 1048576) (hp : p.length ≤ 1048576) {k : Nat} (hk : 3 * p.length + 6 ≤ k) : cuecardref08_Longest.f k s p = some (best p s : Int) :=
  longest_l0 s p hs hp p.length 1 k 0 (Nat.le_refl _) (by omega) (by omega) (by omega) (by simp) (fun q h _ => by omega) (by omega)
structure FdSt (w : World) (N : Nat) (W : World) (B : Nat) (vp vb : Value) (p back : List Int) (v : Value) (s : List Int) (at_ : Int) : Prop where
  sr : Srch W B vp vb p back at_
  bl : Below w.heap.size w W
  nn : N ≤ W.heap.size
  row : W.ownsRow w.heap.size 3 1 v s.length (nums .i64 s)
  ap : ∀ r, v.ownBlock = some r → r ≠ B ∧ vp.ownBlock ≠ some r ∧ vb.ownBlock ≠ some r
section
variable {w W W' : World} {N B n c : Nat} {A : Option Addr} {vp vb v v1 : Value} {p back s : List Int} {at_ r x : Int}
theorem FdSt.nil (h : FdSt w N W B vp vb p back v s at_) : FdSt w N W B vp vb p back (.slice none 0 0) [] at_ :=
  ⟨h.sr, h.bl, h.nn, World.ownsRow_nil _ _ _ _, fun r hr => by cases hr⟩
theorem FdSt.fed (h : FdSt w N W B vp vb p back v s at_) (hs : Srch W' B vp vb p back r) (hg : W.grownBy W' (some B)) (hB : w.heap.size ≤ B) : FdSt w N W' B vp vb p back v s r := by
  refine ⟨hs, h.bl.grown hg h.bl.size (fun i hi => by cases hi; exact hB), Nat.le_trans h.nn hg.size, h.row.kept hg ?_, h.ap⟩
  rcases hv' : v.ownBlock with _ | r
  · exact .inl rfl
  · exact .inr (fun e => (h.ap r hv').1 (by cases e; rfl))
theorem FdSt.below (h : FdSt w N W B vp vb p back v s at_) (hb : Below W.heap.size W W') (hB : B < N) (hp : ∀ k, vp.ownBlock = some k → k < N) (hq : ∀ k, vb.ownBlock = some k → k < N) : FdSt w N W' B vp vb p back v s at_ := by
  have hn := h.nn
  have hg : W.grownBy W' none := ⟨hb.os, hb.tape, hb.output, hb.size, fun k hk _ => hb.block k hk⟩
  exact ⟨h.sr.at_ (hb.block B (by omega)) (fun k e => hb.block k (by have := hp k e; omega)) (fun k e => hb.block k (by have := hq k e; omega)), below_step h.bl hb, Nat.le_trans h.nn hb.size, h.row.kept hg (by rcases v.ownBlock with _ | r; exact .inl rfl; exact .inr (by simp)), h.ap⟩
theorem FdSt.app (h : FdSt w N W B vp vb p back v s at_) (hB : B < N) (hp : ∀ k, vp.ownBlock = some k → k < N) (hq : ∀ k, vb.ownBlock = some k → k < N) {tmp : Obj}
    (hown : W'.ownsRow w.heap.size 3 1 v1 (s.length + 1) (nums .i64 (s ++ [x]))) (hg : (W.alloc tmp).grownBy W' v.ownBlock) (hat : v1.ownBlock = v.ownBlock ∨ v1.ownBlock = some (W.alloc tmp).heap.size) :
    FdSt w N W' B vp vb p back v1 (s ++ [x]) at_ := by
  have hbw4 := h.bl.alloc h.bl.size tmp
  have hn := h.nn
  have hrs : ∀ r, v.ownBlock = some r → w.heap.size ≤ r := fun r e => own_base h.row r e
  have hk5 : ∀ i, i < N → v.ownBlock ≠ some i → W'.heap[i]? = W.heap[i]? := fun i hi hne =>
    (hg.block i (by rw [World.size_alloc]; omega) (fun e => hne e.symm)).trans (Below.heap_alloc W _ i (by omega))
  refine ⟨h.sr.at_ (hk5 B hB (fun e => (h.ap B e).1 rfl)) (fun i e => hk5 i (hp i e) (fun e2 => (h.ap i e2).2.1 e)) (fun i e => hk5 i (hq i e) (fun e2 => (h.ap i e2).2.2 e)), hbw4.grown hg hbw4.size hrs, ?_, by rw [List.length_append]; exact hown, ?_⟩
  · have := hg.size; rw [World.size_alloc] at this; omega
  · intro r e
    rcases hat with h2 | h2
    · exact h.ap r (by rw [← h2]; exact e)
    · rw [h2] at e
      cases e
      rw [World.size_alloc]
      exact ⟨by omega, fun e => by have := hp _ e; omega, fun e => by have := hq _ e; omega⟩
theorem FdSt.reads (h : FdSt w N W B vp vb p back (.slice A n c) s at_) : n = s.length ∧ n ≤ c ∧ Kd.C (Kd.int .i64) W A s.length s :=
  Kd.R_reads' (Kd.R_of_own (enc := Value.int .i64) (h1 := fun _ => rfl) (ok := fun _ => True) h.row (fun _ _ => trivial))
theorem new_st (hBn : w.heap.size ≤ B) (hs3 : Srch W B vp vb p back 0) (hvpc : ∀ k, vp.ownBlock = some k → ∃ o : Obj, W.heap[k]? = some o ∧ o.isCells = true) (hvbc : ∀ k, vb.ownBlock = some k → ∃ o : Obj, W.heap[k]? = some o ∧ o.isCells = true) (hb : Below w.heap.size w W) :
    FdSt w W.heap.size W B vp vb p back (.slice none 0 0) [] 0 ∧ B < W.heap.size ∧ ((∀ k, vp.ownBlock = some k → k < W.heap.size) ∧ (∀ k, vb.ownBlock = some k → k < W.heap.size)) ∧ w.heap.size ≤ B :=
  ⟨⟨hs3, hb, Nat.le_refl _, World.ownsRow_nil _ _ _ _, fun r hr => by cases hr⟩, (Array.getElem?_eq_some_iff.1 hs3.1).1, ⟨fun k e => by obtain ⟨o, ho, _⟩ := hvpc k e; exact (Array.getElem?_eq_some_iff.1 ho).1, fun k e => by obtain ⟨o, ho, _⟩ := hvbc k e; exact (Array.getElem?_eq_some_iff.1 ho).1⟩, hBn⟩
end
/-! ### KmpFeeds -/
set_option maxRecDepth 100000 in
set_option maxHeartbeats 2000000 in
theorem feeds_walk (A0 A1 : Option Addr) (c0 c1 : Nat) (l0 l1 : List Int) (a : Int) (w : World) (hr0 : Kd.C (Kd.int .i64) w A0 l0.length l0) (hc0 : l0.length ≤ c0) (hr1 : Kd.C (Kd.int .i64) w A1 l1.length l1) (hc1 : l1.length ≤ c1) (hl1 : l1.length ≤ 1048576) :
    Calls Try.prog 9 #[.slice A0 l0.length c0, .slice A1 l1.length c1, .int .i64 a] w fun e w' => e = .returned (.bool true) ∧ Below w.heap.size w w' := by
  refine (callsIn_wide (n := 3)).1 ?_
  have h10 : Fence.wide.fn 10 := trivial
  have h11 : Fence.wide.fn 11 := trivial
  have h16 : Fence.wide.fn 16 := trivial
  have h17 : Fence.wide.fn 17 := trivial
  have h18 : Fence.wide.fn 18 := trivial
  have h25 : Fence.wide.fn 25 := trivial
  have h26 : Fence.wide.fn 26 := trivial
  have HAL := Lib.hid (fun W => (callsIn_wide (n := 2)).2 (cuecardlaw08_alive.calls 200 true W (alive_f (Nat.le_refl _))))
  obtain ⟨b, hg, hb⟩ := great_f [l0, l1] (by simp) (k := 3) (by simp)
  have HGR := Lib.hid (fun W (hB : Below w.heap.size w W) => (callsIn_wide (n := 2)).2 (cuecardlaw08_great.calls 3 _ _ [l0, l1] b _ (great_args (Kd.C_below hr0 hB) hc0 (Kd.C_below hr1 hB) hc1) (Nat.le_refl _) hg))
  have HR0 := Lib.hid hr0
  have HR1 := Lib.hid hr1
  have HGB := Lib.hid hb
  obtain ⟨back, hbk1, hbk2, hbk3⟩ := borders_ok l1 (by omega)
  have HNEW := Lib.hid ((callsIn_wide (n := 2)).2 (new_int (5 * l1.length + 4) A1 c1 l1 back w hr1 hc1 (by omega) (hbk3 _ (Nat.le_refl _))))
  have HTAB := Lib.hid hbk2
  clear hbk1 hbk2 hbk3 hg hb hr0 hr1
  have hrn := (callsIn_wide (n := 2)).2 (reset_none w)
  have hfn := fun W => (callsIn_wide (n := 2)).2 (feed_none 1 W)
  have han := fun W => (callsIn_wide (n := 2)).2 (at_none W)
  refine callsIn_of_wp Try.func9 rfl trivial ?_ rfl
  simp only [Try.ntmps9, List.size_toArray, List.length_cons, List.length_nil, Nat.reduceAdd, Nat.reduceSub, Array.replicate_succ, Array.replicate_zero, List.push_toArray, List.append_toArray, List.nil_append, List.cons_append]
  cases b with
  | true =>
    gi_wp2_with (first | (gi_at_call 18; refine hrn.mono ?_; rintro e w1 ⟨rfl, e2⟩; obtain rfl := e2.symm; clear e2) | (gi_at_call 16; refine HNEW.out.mono ?_; rintro e w3 ⟨B, vp, vb, rfl, hB, hvp, hvb, hn1, hn2, hs, hvpc, hvbc, hbel⟩; obtain ⟨hst, hBlt, hv, hBge⟩ := new_st hB hs hvpc hvbc hbel; have HST := Lib.hid hst; have HV := Lib.hid hv; have HN := Lib.hid (And.intro hn1 hn2); clear hn1 hn2; clear hB hvp hvb hs hvpc hvbc hbel hrn HNEW hst hv) | (gi_at_call 10; refine (HAL.out _).mono ?_; rintro e w4 ⟨rfl, hb1⟩; have HST1 := Lib.hid (HST.out.below hb1 hBlt HV.out.1 HV.out.2); clear HST hb1; have HST := HST1; clear HST1) | (gi_at_call 17; refine (hfn _).mono ?_; rintro e w1 ⟨rfl, e3⟩; obtain rfl := e3.symm; clear e3) | (gi_at_call 25; first | (with_reducible refine (han _).mono ?_; rintro e w1 ⟨rfl, e3⟩; obtain rfl := e3.symm; clear e3) | (with_reducible refine ((callsIn_wide (n := 2)).2 (at_int B vp vb l1 back _ _ HST.out.sr)).mono ?_; rintro e w1 ⟨rfl, e3⟩; obtain rfl := e3.symm; clear e3)) | (gi_at_call 11; refine (HGR.out _ HST.out.bl).mono ?_; rintro e w5 ⟨rfl, hb5⟩; have HST1 := Lib.hid (HST.out.below (below_step ((Below.refl _ _).alloc (Nat.le_refl _) _) hb5) hBlt HV.out.1 HV.out.2); clear HST hb5; have HST := HST1; clear HST1))
    go_ret
    exact ⟨rfl, HST.out.bl⟩
  | false =>
    have ht := HGB.out rfl l0 (by simp)
    have hp := HGB.out rfl l1 (by simp)
    have HRT := Lib.hid (show ReadsInt w .i64 A0 l0.length l0 from Kd.reads_of_C (d := (0 : Int)) (h1 := fun _ => rfl) HR0.out)
    gi_wp2_with (first | (gi_at_call 18; refine hrn.mono ?_; rintro e w1 ⟨rfl, e2⟩; obtain rfl := e2.symm; clear e2) | (gi_at_call 16; refine HNEW.out.mono ?_; rintro e w3 ⟨B, vp, vb, rfl, hB, hvp, hvb, hn1, hn2, hs, hvpc, hvbc, hbel⟩; obtain ⟨hst, hBlt, hv, hBge⟩ := new_st hB hs hvpc hvbc hbel; have HST := Lib.hid hst; have HV := Lib.hid hv; have HN := Lib.hid (And.intro hn1 hn2); clear hn1 hn2; clear hB hvp hvb hs hvpc hvbc hbel hrn HNEW hst hv) | (gi_at_call 10; refine (HAL.out _).mono ?_; rintro e w4 ⟨rfl, hb1⟩; have HST1 := Lib.hid (HST.out.below hb1 hBlt HV.out.1 HV.out.2); clear HST hb1; have HST := HST1; clear HST1) | (gi_at_call 17; refine (hfn _).mono ?_; rintro e w1 ⟨rfl, e3⟩; obtain rfl := e3.symm; clear e3) | (gi_at_call 25; first | (with_reducible refine (han _).mono ?_; rintro e w1 ⟨rfl, e3⟩; obtain rfl := e3.symm; clear e3) | (with_reducible refine ((callsIn_wide (n := 2)).2 (at_int B vp vb l1 back _ _ HST.out.sr)).mono ?_; rintro e w1 ⟨rfl, e3⟩; obtain rfl := e3.symm; clear e3)) | (gi_at_call 11; refine (HGR.out _ HST.out.bl).mono ?_; rintro e w5 ⟨rfl, hb5⟩; have HST1 := Lib.hid (HST.out.below (below_step ((Below.refl _ _).alloc (Nat.le_refl _) _) hb5) hBlt HV.out.1 HV.out.2); clear HST hb5; have HST := HST1; clear HST1))
    have hst := HST.out
    have HBN := Lib.hid (best_nil l1)
    have hn1 : some B ≠ vp.ownBlock := HN.out.1
    have hn2 : some B ≠ vb.ownBlock := HN.out.2
    clear hfn han
    gi_loopw [9, 43] (fun v i wr => ∃ (j : Nat) (s : List Int), j ≤ l0.length ∧ s.length ≤ j ∧ i = .int .i64 j ∧ FdSt w w3.heap.size wr B vp vb l1 back v s (best l1 s : Int)) (fun _ i _ => l0.length - (intOf i).toNat)
    case atStart => exact ⟨0, [], Nat.zero_le _, Nat.le_refl _, rfl, by rw [HBN.out]; exact HST.out⟩
    case round =>
      obtain ⟨j, s, hj, hsj, rfl, hw⟩ := hrel
      clear hst HST HAL HGR
      have HW := Lib.hid hw
      by_cases hlt : j < l0.length
      · obtain ⟨x, hxt⟩ : ∃ x, l0[j]? = some x := ⟨_, List.getElem?_eq_getElem hlt⟩
        obtain ⟨ad, rfl, hcg⟩ := (HRT.out.below hw.bl).2.2 (by omega)
        have hcx := hcg j hlt
        clear hcg
        have hgd : l0.getD j 0 = x := by rw [List.getD_eq_getElem?_getD, hxt]; rfl
        rw [hgd] at hcx
        clear hgd hxt
        have HLO := Lib.hid (fun (W : World) (A : Option Addr) (n c : Nat) (z : List Int) (h1 : n = z.length) (h2 : z.length ≤ 1048576) (h3 : n ≤ c) (h4 : Kd.C (Kd.int .i64) W A z.length z) (hB : Below w.heap.size w W) =>
          (show CallsIn Fence.wide 2 Try.prog 26 #[.slice A n c, .slice A1 l1.length c1] W fun e w' => e = .returned (.int .i64 (best l1 z : Int)) ∧ Below W.heap.size W w' by
            subst h1
            exact (callsIn_wide (n := 2)).2 (cuecardref08_Longest.calls (3 * l1.length + 6) A c z A1 c1 l1 (best l1 z : Int) W h4 h3 (Kd.C_below HR1.out hB) hc1 (longest_f z l1 h2 hl1 (Nat.le_refl _)))))
        have HFE := Lib.hid (fun (W : World) (z : List Int) (hS : Srch W B vp vb l1 back (best l1 z : Int)) => (callsIn_wide (n := 2)).2 (feed_int (2 * l1.length + 2) B vp vb l1 back (best l1 z : Int) x (best l1 (z ++ [x]) : Int) W hS hn1 hn2 (step_s hl1 HTAB.out (Nat.le_refl _) z x)))
        have HRS := Lib.hid (show CallsIn Fence.wide 2 Try.prog 18 #[.pointer (some ⟨B, 0, none⟩)] wr fun e w' => e = .returned (.tuple #[]) ∧ Srch w' B vp vb l1 back ((best l1 [] : Nat) : Int) ∧ wr.grownBy w' (some B) by
          rw [HBN.out]; exact (callsIn_wide (n := 2)).2 (reset_int B vp vb l1 back _ wr hw.sr hn1 hn2))
        clear hw
        by_cases hres : (j : Int) = a
        · have hr1 : ((j : Int) == a) = true := beq_iff_eq.mpr hres
          clear hres
          gi_wp2_with (first | (gi_at_call 18; go_loud (with_reducible refine (HRS.out).mono ?_; rintro e wr2 ⟨rfl, hS0, hg0⟩; have HWA := Lib.hid ((HW.out.fed hS0 hg0 hBge).nil); clear hS0 hg0))| (gi_at_builtin; have hra := HWA.out; refine in_append_one w.heap.size rfl _ _ 22 3 .i64 8 rfl Try.underlying22 info3 (.slice none 0 0) ([] : List Int) x wr2.heap.size 1 rfl rfl (hra.row.alloc _) (Boxed.new wr2 3 _).cell (by rw [World.size_alloc]; have := hra.bl.size; omega) (by first | omega | (simp; done) | (simp; omega)) (by first | omega | (simp; done) | (simp; omega)) ?_; rintro v1 w5 hown hg5 hat ⟨Av, cv, rfl⟩; have H5 := Lib.hid (hra.app hBlt HV.out.1 HV.out.2 hown hg5 hat); clear hown hg5 hat hra) | (gi_at_call 26; have hq := HLO.out w5 Av 1 cv (([] : List Int) ++ [x]) rfl (by first | (simp; done) | (simp; omega)) H5.out.reads.2.1 H5.out.reads.2.2 H5.out.bl; with_reducible refine hq.mono ?_; clear hq; rintro e w6 ⟨rfl, hb6⟩; have H6 := Lib.hid (H5.out.below hb6 hBlt HV.out.1 HV.out.2); clear hb6) | (gi_at_call 17; have hq := HFE.out w6 ([] : List Int) H6.out.sr; with_reducible refine hq.mono ?_; clear hq; rintro e w7 ⟨rfl, hS7, hg7⟩; have H7 := Lib.hid (H6.out.fed hS7 hg7 hBge); clear hS7 hg7) | (gi_at_call 25; have hq := (callsIn_wide (n := 2)).2 (at_int B vp vb l1 back _ w7 H7.out.sr); with_reducible refine hq.mono ?_; clear hq; rintro e w8 ⟨rfl, e8⟩; obtain rfl := e8.symm))
          go_roundw
          case rel => exact ⟨j + 1, ([] : List Int) ++ [x], by omega, by first | (simp; done) | (simp; omega), by go_num, H7.out⟩
          case measure => simp [intOf]; omega
        · have hr1 : ((j : Int) == a) = false := beq_eq_false_iff_ne.mpr hres
          clear hres
          have HWA := HW
          gi_wp2_with (first | (gi_at_builtin; have hra := HWA.out; refine in_append_one w.heap.size rfl _ _ 22 3 .i64 8 rfl Try.underlying22 info3 u9 s x wr.heap.size 1 rfl rfl (hra.row.alloc _) (Boxed.new wr 3 _).cell (by rw [World.size_alloc]; have := hra.bl.size; omega) (by first | omega | (simp; done) | (simp; omega)) (by first | omega | (simp; done) | (simp; omega)) ?_; rintro v1 w5 hown hg5 hat ⟨Av, cv, rfl⟩; have H5 := Lib.hid (hra.app hBlt HV.out.1 HV.out.2 hown hg5 hat); clear hown hg5 hat hra) | (gi_at_call 26; have hq := HLO.out w5 Av _ cv (s ++ [x]) H5.out.reads.1 (by first | (simp; done) | (simp; omega)) H5.out.reads.2.1 H5.out.reads.2.2 H5.out.bl; with_reducible refine hq.mono ?_; clear hq; rintro e w6 ⟨rfl, hb6⟩; have H6 := Lib.hid (H5.out.below hb6 hBlt HV.out.1 HV.out.2); clear hb6) | (gi_at_call 17; have hq := HFE.out w6 s H6.out.sr; with_reducible refine hq.mono ?_; clear hq; rintro e w7 ⟨rfl, hS7, hg7⟩; have H7 := Lib.hid (H6.out.fed hS7 hg7 hBge); clear hS7 hg7) | (gi_at_call 25; have hq := (callsIn_wide (n := 2)).2 (at_int B vp vb l1 back _ w7 H7.out.sr); with_reducible refine hq.mono ?_; clear hq; rintro e w8 ⟨rfl, e8⟩; obtain rfl := e8.symm))
          go_roundw
          case rel => exact ⟨j + 1, s ++ [x], by omega, by first | (simp; done) | (simp; omega), by go_num, H7.out⟩
          case measure => simp [intOf]; omega
      · obtain rfl : j = l0.length := by omega
        gi_wp2
        go_ret
        exact ⟨rfl, HW.out.bl⟩
end Go.Proofs.Ytokhmpchgkmbeaa.QA
