import Derived.RangeFuncNested
import Derived.RangeFuncBound
import Derived.RangeFuncCalls
import Derived.RangeFuncLeaves
import Derived.Shelf.Abstract
import Derived.Shelf.RegionOpen
import Derived.WalkKit
import Derived.OwnWalkIn
import Derived.TacticsInMore
import Derived.LoopNIn
import Derived.LoopIn
import Derived.Maps.AppendAt
import Derived.StillTailTactics
import Derived.Lib.Hide
import Derived.Lib.LazyBuf
import Derived.Outline
import Derived.Deep.RegionWith
import Derived.Deep.RegionLaw
import Derived.Deep.AppendLies
import Derived.CallsIn

import Derived.Lib.Bytes
import Derived.Deep.DeepCutAuto
import Derived.Lib.SmallJoins
import Derived.Laws.EntriesVeiled
import Derived.Deep.RegionHeld3
import Derived.BigRegion
import Derived.BigQuiet
import Derived.Test.YtefippbcgdfnbaaPGet
import Derived.Test.YtefippbcgdfnbaaGAlive
import Derived.Test.YtefippbcgdfnbaaQAx26
import Derived.Test.YtefippbcgdfnbaaQAx12
import Derived.Test.YtefippbcgdfnbaaQAx20
import Derived.Test.YtefippbcgdfnbaaQAx21
import Derived.Test.YtefippbcgdfnbaaQAx22
import Derived.Test.YtefippbcgdfnbaaGRd
import Derived.Test.YtefippbcgdfnbaaGEvn
namespace Go.Proofs.Ytefippbcgdfnbaa.QA
open Go.RowKit Go.Shelf Go.Proofs.YtefippbcgdfnbaaW.PrintWords Go.Proofs.YtefippbcgdfnbaaW.PrintLast Go.Proofs.YtefippbcgdfnbaaW.PrintMore
attribute [local go_sem] max2_int min2_int max_two min_two max_three min_three max_four min_four   -- for this text's walks alone
set_option linter.unusedVariables false
set_option linter.unusedSimpArgs false
/-! ### the document's Decode -/
theorem l0_steps {b : List Int} (hlen : b.length ≤ 281474976710656) (i : Nat) : ∀ k, i < k → i ≤ 4 → (∀ j, j < i → ∃ (hj : j < b.length), b[j] = mg[j]!) → trans_Decode.l0 k b 0 = trans_Decode.l0 (k - i) b (i : Int) := by
  induction i with
  | zero => intro k _ _ _; rfl
  | succ i ih =>
    intro k hk hi hp
    rw [ih k (by omega) (by omega) (fun j hj => hp j (by omega))]
    obtain ⟨hj, he⟩ := hp i (by omega)
    obtain ⟨m, hm⟩ : ∃ m, k - i = m + 1 := ⟨k - i - 1, by omega⟩
    rw [hm, show k - (i + 1) = m by omega, trans_Decode.l0, if_pos (by omega), if_neg (by omega), if_pos (by omega), if_pos (by omega), if_pos ?_, show wrap64 ((i : Int) + 1) = ((i + 1 : Nat) : Int) by unfold wrap64; omega]
    rw [rd_nat hj, magic_bt i (by omega), he]
    match i, (show i < 4 by omega) with
    | 0, _ => rfl
    | 1, _ => rfl
    | 2, _ => rfl
    | 3, _ => rfl
theorem l0_bad {b : List Int} (hlen : b.length ≤ 281474976710656) {i : Nat} (hi : i < 4) {er : Int} (hp : ∀ j, j < i → ∃ (hj : j < b.length), b[j] = mg[j]!) (h : er = 5 ∧ i = b.length ∨ er = 4 ∧ ∃ (hi : i < b.length), b[i] ≠ mg[i]!) {k : Nat} (hk : 10 ≤ k) : trans_Decode.f k b = some ([], false, (i : Int), er) := by
  unfold trans_Decode.f
  rw [l0_steps hlen i k (by omega) (by omega) hp]
  obtain ⟨m, hm⟩ : ∃ m, k - i = m + 1 := ⟨k - i - 1, by omega⟩
  rw [hm, trans_Decode.l0, if_pos (by omega)]
  rcases h with ⟨rfl, h⟩ | ⟨rfl, hl, hne⟩
  · rw [if_pos (by omega)]
  · rw [if_neg (by omega), if_pos (by omega), if_pos (by omega), if_neg ?_]
    rw [rd_nat hl, magic_bt i hi]
    intro e
    apply hne
    rw [e]
    match i, hi with
    | 0, _ => rfl
    | 1, _ => rfl
    | 2, _ => rfl
    | 3, _ => rfl
theorem l0_good {b : List Int} (hlen : b.length ≤ 281474976710656) (hp : ∀ j, j < 4 → ∃ (hj : j < b.length), b[j] = mg[j]!) {k : Nat} (hk : 10 ≤ k) : trans_Decode.f k b = trans_Decode.l1 (k - 5) b 4 0 262144 0 [] false := by
  unfold trans_Decode.f
  rw [l0_steps hlen 4 k (by omega) (by omega) hp]
  obtain ⟨m, hm⟩ : ∃ m, k - 4 = m + 1 := ⟨k - 4 - 1, by omega⟩
  rw [hm, show k - 5 = m by omega, trans_Decode.l0, if_neg (by decide)]
theorem results_cell_two {fn : Func} {p u v : Tmp} {ty : TypeId} (h : fn.results = #[.cell p ty, .tmp u, .tmp v]) (tmps : Array Value) (P : Program) (w : World) (a : Addr) (x : Value) (ha : tmps.getD p undef = .pointer (some a)) (hl : (loadVar ty a).run P w = .ok x w) :
    (results fn tmps).run P w = .ok (.tuple #[x, tmps.getD u undef, tmps.getD v undef]) w := by
  have hp' : tmps[p]?.getD undef = .pointer (some a) := by simpa using ha
  simp [results, h, hp', asAddr, hl]
theorem evs_set24 {W : World} {base g : Nat} {v : Value} {l : List S43} {cs : Array Value} (hR : Kd.R k43 43 W base (fun _ => True) v l) (h : W.heap[g]? = some (.cells cs 24 (0, 0))) (i : Nat) (u : Value) : Kd.R k43 43 (W.setCell ⟨g, i, none⟩ u) base (fun _ => True) v l :=
  Kd.R_mono (Kd.R_far (p := ⟨g, i, none⟩) (Kd.R_types hR h (by decide)) (fun k hk => hk.2) u) (fun _ _ => trivial)
def rdAt (B : Nat) (w : World) : Nat := (intOf ((w.cell? ⟨B, 1, none⟩).getD (.int .i64 0))).toNat
set_option maxRecDepth 100000 in
set_option maxHeartbeats 8000000 in
theorem refDec_c (b : List Int) (hb : Byt b) (hlen : b.length ≤ 1048576) (A : Option Addr) (c : Nat) (W : World) (hC : Kd.C (Kd.int .u8) W A b.length b) (hc : b.length ≤ c) (r1 : List S43) (r2 : Bool) (r3 r4 : Int) (k : Nat) (hk : 3 * b.length + 40 ≤ k) (hR : trans_Decode.f k b = some (r1, r2, r3, r4)) :
    Calls Try.prog 15 #[.slice A b.length c] W fun e W' => ∃ v, e = .returned (.tuple #[.agg #[v, .bool r2], .int .i64 r3, .int .i64 r4]) ∧ Kd.R k43 43 W' W.heap.size (fun _ => True) v r1 ∧ Below W.heap.size W W' := by
  have hlen' : b.length ≤ 281474976710656 := by omega
  have hb1 : Below W.heap.size W (W.alloc (.cells #[.slice none 0 0, .bool false] 24)) := (Below.refl _ W).alloc (Nat.le_refl _) _
  have hn1 : (W.alloc (.cells #[.slice none 0 0, .bool false] 24)).heap[W.heap.size]? = some (.cells #[.slice none 0 0, .bool false] 24 (0, 0)) := World.alloc_heap_new W _
  have hs1 : (W.alloc (.cells #[.slice none 0 0, .bool false] 24)).heap.size = W.heap.size + 1 := by simp
  go_enter Try.func15, Try.ntmps15
  go_upto_region 1 with (fail)
  generalize W.alloc (.cells #[.slice none 0 0, .bool false] 24) = w0 at hb1 hn1 hs1 ⊢
  have hC0 := Kd.C_below hC hb1
  have hb2 : Below w0.heap.size w0 (w0.alloc (.cells #[.slice A b.length c, .int .i64 0, .int .i64 0, .int .u64 0, .slice none 0 0, .bool false] 54)) := (Below.refl _ w0).alloc (Nat.le_refl _) _
  have hn2 : Rdr (w0.alloc (.cells #[.slice A b.length c, .int .i64 0, .int .i64 0, .int .u64 0, .slice none 0 0, .bool false] 54)) w0.heap.size A b.length c ((0 : Nat) : Int) 0 0 (.slice none 0 0) false := World.alloc_heap_new w0 _
  go_upto_region 2 with (fail)
  generalize w0.alloc (.cells #[.slice A b.length c, .int .i64 0, .int .i64 0, .int .u64 0, .slice none 0 0, .bool false] 54) = w1 at hb2 hn2 ⊢
  obtain ⟨B, hB⟩ : ∃ B, B = w0.heap.size := ⟨_, rfl⟩
  rw [← hB] at hn2
  rw [← hs1, ← hB]
  have hst : Stt w0 w1 B A c b 0 0 0 [] false := ⟨_, hn2, Kd.R_nil _ _ _ _ _, hb2, by omega⟩
  have HB1 := Lib.hid hb1
  have HN1 := Lib.hid hn1
  have HC0 := Lib.hid hC0
  have hwB : w0.heap.size ≤ B := by omega
  have HHD := Lib.hid (head_c b hlen w0 A c hC0 hc w1 B hst)
  -- the end
  have HEND := Lib.hid (show ∀ w, Below w0.heap.size w0 w → w.heap[W.heap.size]? = some (.cells #[.slice none 0 0, .bool false] 24 (0, 0)) ∧ Below W.heap.size W w from fun w h => ⟨(h.block _ (by omega)).trans hn1, below_step hb1 h⟩)
  clear hb1 hn1 hC hC0 hb2 hn2 hst hB hs1
  go_wp2_with (fail)
  refine HHD.out.mono ?_
  clear HHD
  rintro e w2 hhd
  have hstate : ∃ p er : Int, e = .returned (.tuple #[.int .i64 p, .int .i64 er]) ∧ ((er ≠ 0 ∧ (r1, r2, r3, r4) = (([] : List S43), false, p, er) ∧ Below w0.heap.size w0 w2) ∨ (p = 0 ∧ er = 0 ∧ ∃ (a : Nat) (last : Int) (all : Nat) (evs : List S43) (fin : Bool), Stt w0 w2 B A c b a last all evs fin ∧ (fin = true ∧ a = b.length ∧ (r1, r2, r3, r4) = (evs, true, 0, 0) ∨ fin = false ∧ a ≤ b.length ∧ all ≤ 262144 ∧ evs.length ≤ 4096 ∧ ∃ k', 3 * (b.length - a) + 20 ≤ k' ∧ trans_Decode.l1 k' b (a : Int) last (262144 - (all : Int)) 0 evs false = some (r1, r2, r3, r4)))) := by
    rcases hhd with ⟨i, er, hi, rfl, hp, h, hBw⟩ | ⟨rfl, h4, hp, hst⟩
    · refine ⟨_, er, rfl, .inl ⟨by rcases h with ⟨rfl, _⟩ | ⟨rfl, _⟩ <;> decide, ?_, hBw⟩⟩
      rw [l0_bad hlen' hi hp h (by omega)] at hR
      injection hR with hR
      exact hR.symm
    · refine ⟨0, 0, rfl, .inr ⟨rfl, rfl, 4, 0, 0, [], false, hst, .inr ⟨rfl, h4, by omega, by simp, k - 5, by omega, ?_⟩⟩⟩
      rw [l0_good hlen' hp (by omega)] at hR
      exact hR
  obtain ⟨p, er, rfl, hstate⟩ := hstate
  have HST := Lib.hid hstate
  clear hhd hstate
  go_wp2_with (fail)
  go_loopw [6, 7] (fun s6 s7 wr => ∃ p er : Int, s6 = .int .i64 p ∧ s7 = .int .i64 er ∧ ((er ≠ 0 ∧ (r1, r2, r3, r4) = (([] : List S43), false, p, er) ∧ Below w0.heap.size w0 wr) ∨ (p = 0 ∧ er = 0 ∧ ∃ (a : Nat) (last : Int) (all : Nat) (evs : List S43) (fin : Bool), Stt w0 wr B A c b a last all evs fin ∧ (fin = true ∧ a = b.length ∧ (r1, r2, r3, r4) = (evs, true, 0, 0) ∨ fin = false ∧ a ≤ b.length ∧ all ≤ 262144 ∧ evs.length ≤ 4096 ∧ ∃ k', 3 * (b.length - a) + 20 ≤ k' ∧ trans_Decode.l1 k' b (a : Int) last (262144 - (all : Int)) 0 evs false = some (r1, r2, r3, r4)))))
    (fun _ s7 wr => if intOf s7 = 0 then b.length - rdAt B wr + 1 else 0)
  case atStart => exact ⟨p, er, rfl, rfl, HST.out⟩
  case round =>
    obtain ⟨p, er, rfl, rfl, hst⟩ := hrel
    clear HST
    rcases hst with ⟨he, hRe, hBw⟩ | ⟨rfl, rfl, a, last, all, evs, fin, hst, hor⟩
    · have heb : (er == 0) = false := beq_eq_false_iff_ne.mpr he
      have heb2 : (er != 0) = true := bne_iff_ne.mpr he
      obtain ⟨hrow, hBW⟩ := HEND.out wr hBw
      have e0 : wr.cell? ⟨W.heap.size, 0, none⟩ = some (.slice none 0 0) := (blk_cell hrow 0).trans rfl
      have e1 : wr.cell? ⟨W.heap.size, 1, none⟩ = some (.bool false) := (blk_cell hrow 1).trans rfl
      have g0 := frozen_of_row wr W.heap.size 0 _ 24 hrow
      have g1 := frozen_of_row wr W.heap.size 1 _ 24 hrow
      have HRE := Lib.hid hRe
      have HBW := Lib.hid hBW
      have HROW := Lib.hid hrow
      clear hRe hBw hrow hBW he HEND HB1 HN1 HC0
      go_wp2
      have hY : ((wr.setCell ⟨W.heap.size, 0, none⟩ (.slice none 0 0)).setCell ⟨W.heap.size, 1, none⟩ (.bool false)).heap[W.heap.size]? = some (.cells #[.slice none 0 0, .bool false] 24 (0, 0)) :=
        (heap_setCell_same _ W.heap.size 1 _ 24 _ ((heap_setCell_same wr W.heap.size 0 _ 24 _ HROW.out).trans rfl)).trans rfl
      have hBY := (HBW.out.setCell (p := ⟨W.heap.size, 0, none⟩) (Nat.le_refl _) (.slice none 0 0)).setCell (p := ⟨W.heap.size, 1, none⟩) (Nat.le_refl _) (.bool false)
      have hre := HRE.out
      simp only [Prod.mk.injEq] at hre
      obtain ⟨h1, h2, h3, h4⟩ := hre
      refine ⟨rfl, _, results_cell_two rfl _ _ _ ⟨W.heap.size, 0, none⟩ _ rfl (run_loadVar_row _ W.heap.size 24 24 _ (0, 0) _ hY Try.underlying24 rfl (by kernel_rfl)), .slice none 0 0, ?_, by rw [h1]; exact Kd.R_nil _ _ _ _ _, hBY⟩
      rw [h2, h3, h4]
      rfl
    · by_cases hlt : a < b.length
      · obtain ⟨rfl, hal, hall, hevs, k', hk', hl⟩ := hor.resolve_left (fun h => by omega)
        obtain ⟨v, hr, hRv, hBw, hwb⟩ := hst
        have c1 := hr.cells.2.1
        have hlt' := eq_true hlt
        have hlt2 := eq_true (show (a : Int) < (b.length : Int) by omega)
        have HEV := Lib.hid (event_c b hb hlen w0 A c HC0.out hc wr B a last all evs ⟨v, hr, hRv, hBw, hwb⟩ hlt hall hevs k' hk' _ hl)
        have hrd : rdAt B wr = a := by unfold rdAt; rw [c1]; rfl
        have HRD := Lib.hid hrd
        clear hr hRv hBw hwb hl hrd hor
        go_wp2_with (fail)
        refine HEV.out.mono ?_
        clear HEV
        rintro e w3 (⟨p, er, rfl, he, hRe, hBw⟩ | ⟨rfl, a', last', all', evs', fin', hst', hor'⟩)
        · have HRE := Lib.hid hRe
          have HBW := Lib.hid hBw
          have HE := Lib.hid he
          clear hRe hBw he c1
          go_wp2
          go_roundw
          case rel => exact ⟨p, er, rfl, rfl, .inl ⟨HE.out, HRE.out, HBW.out⟩⟩
          case measure => simp [intOf, HE.out]
        · obtain ⟨v', hr', hRv', hBw', hwb'⟩ := hst'
          have hrd' : rdAt B w3 = a' := by unfold rdAt; rw [hr'.cells.2.1]; rfl
          have HRD' := Lib.hid hrd'
          have HST' := Lib.hid (show Stt w0 w3 B A c b a' last' all' evs' fin' from ⟨v', hr', hRv', hBw', hwb'⟩)
          have HOR := Lib.hid hor'
          clear hr' hRv' hBw' hwb' hor' c1 hrd'
          go_wp2
          go_roundw
          case rel => exact ⟨0, 0, rfl, rfl, .inr ⟨rfl, rfl, a', last', all', evs', fin', HST'.out, HOR.out.imp id (fun h => ⟨h.1, h.2.2.1, h.2.2.2.1, h.2.2.2.2.1, h.2.2.2.2.2⟩)⟩⟩
          case measure =>
            have h1 := HRD.out
            have h2 := HRD'.out
            have h3 : a < a' := by rcases HOR.out with h | h; omega; exact h.2.1
            simp [intOf, h1, h2]
            omega
      · have haL : a = b.length := by rcases hor with h | h; exact h.2.1; have := h.2.1; omega
        obtain ⟨v, hr, hRv, hBw, hwb⟩ := hst
        have hfin : (r1, r2, r3, r4) = (evs, fin, 0, 0) := by
          rcases hor with ⟨rfl, _, h⟩ | ⟨rfl, _, _, _, k', hk', hl⟩
          · exact h
          · rw [haL, l1_end (by omega)] at hl
            injection hl with hl
            exact hl.symm
        injection hfin with h1 hfin
        injection hfin with h2 hfin
        injection hfin with h3 h4
        subst h1 h2 h3 h4
        obtain ⟨c0, c1, c2, c3, c4, c5⟩ := hr.cells
        have hnl := eq_false hlt
        have hnl2 := eq_false (show ¬ (a : Int) < (b.length : Int) by omega)
        obtain ⟨hrow, hBW⟩ := HEND.out wr hBw
        have e0 : wr.cell? ⟨W.heap.size, 0, none⟩ = some (.slice none 0 0) := (blk_cell hrow 0).trans rfl
        have e1 : wr.cell? ⟨W.heap.size, 1, none⟩ = some (.bool false) := (blk_cell hrow 1).trans rfl
        have g0 := frozen_of_row wr W.heap.size 0 _ 24 hrow
        have g1 := frozen_of_row wr W.heap.size 1 _ 24 hrow
        have HRV := Lib.hid hRv
        have HBW := Lib.hid hBW
        have HROW := Lib.hid hrow
        obtain ⟨Av, cv, rfl⟩ := Kd.R_slice hRv
        clear hRv hBw hrow hBW hor hr haL HEND HN1 HC0
        go_wp2
        have hY0 : (wr.setCell ⟨W.heap.size, 0, none⟩ (.slice Av r1.length cv)).heap[W.heap.size]? = some (.cells #[.slice Av r1.length cv, .bool false] 24 (0, 0)) := (heap_setCell_same wr W.heap.size 0 _ 24 _ HROW.out).trans rfl
        have hY : ((wr.setCell ⟨W.heap.size, 0, none⟩ (.slice Av r1.length cv)).setCell ⟨W.heap.size, 1, none⟩ (.bool r2)).heap[W.heap.size]? = some (.cells #[.slice Av r1.length cv, .bool r2] 24 (0, 0)) := (heap_setCell_same _ W.heap.size 1 _ 24 _ hY0).trans rfl
        have hBY := (HBW.out.setCell (p := ⟨W.heap.size, 0, none⟩) (Nat.le_refl _) (.slice Av r1.length cv)).setCell (p := ⟨W.heap.size, 1, none⟩) (Nat.le_refl _) (.bool r2)
        have hR0 := evs_set24 HRV.out HROW.out 0 (.slice Av r1.length cv)
        have hR1 := evs_set24 hR0 hY0 1 (.bool r2)
        exact ⟨rfl, _, results_cell_two rfl _ _ _ ⟨W.heap.size, 0, none⟩ _ rfl (run_loadVar_row _ W.heap.size 24 24 _ (0, 0) _ hY Try.underlying24 rfl (by kernel_rfl)), .slice Av r1.length cv, rfl, Kd.R_lower hR1 HB1.out.size, hBY⟩
/-! ### TransGets -/
theorem dec_small {b : List Int} (hb : Byt b) (hlen : b.length ≤ 1048576) {k : Nat} (hk : 3 * b.length + 40 ≤ k) : ∃ r1 r2 r3 r4, trans_Decode.f k b = some (r1, r2, r3, r4) ∧ r1.length ≤ 1048576 := by
  rcases dec_spec hb (by omega) hk with ⟨l, f, hg, _, _, h⟩ | ⟨p, e, _, _, h⟩
  · exact ⟨_, _, _, _, h, by have := hg.1; omega⟩
  · exact ⟨_, _, _, _, h, by simp⟩
set_option maxRecDepth 100000 in
set_option maxHeartbeats 8000000 in
theorem transGets_walk (b : List Int) (hb : Byt b) (hlen : b.length ≤ 1048576) (A : Option Addr) (c : Nat) (W : World) (hC : Kd.C (Kd.int .u8) W A b.length b) (hc : b.length ≤ c) :
    Calls Try.prog 4 #[.slice A b.length c] W fun e W' => e = .returned (.bool true) ∧ Below W.heap.size W W' := by
  obtain ⟨k, hk⟩ : ∃ k, k = 3 * b.length + 40 := ⟨_, rfl⟩
  obtain ⟨r1, r2, r3, r4, hd, hl⟩ := dec_small hb hlen (show 3 * b.length + 40 ≤ k by omega)
  have hsame : cuecardlaw05_same.f (r1.length + 1) r1 r2 r1 r2 = some true := by
    unfold cuecardlaw05_same.f
    rw [refsame_f _ _ hl (by omega), same_self]
    simp
  have HD := Lib.hid hd
  have HSAME := Lib.hid hsame
  have HK := Lib.hid hk
  have HC := Lib.hid hC
  clear hd hsame hk hC
  go_enter Try.func4, Try.ntmps4
  go_wp2_with (fail)
  refine (trans_Decode.calls k A c b r1 r2 r3 r4 _ HC.out hc HD.out).mono ?_
  rintro e w1 ⟨v, rfl, hS, hB1⟩
  have hR1 := Kd.S_R hS
  obtain ⟨A1, c1, rfl⟩ := Kd.R_slice hR1
  have hc1 := (Kd.R_reads' hR1).2.1
  have HC1 := Lib.hid (Kd.R_reads' hR1).2.2
  have HCb := Lib.hid (Kd.C_below HC.out hB1)
  clear hS hR1
  have hb2 : Below w1.heap.size w1 (w1.alloc (.cells #[.slice A1 r1.length c1, .bool r2] 24)) := (Below.refl _ w1).alloc (Nat.le_refl _) _
  have hn2 : (w1.alloc (.cells #[.slice A1 r1.length c1, .bool r2] 24)).heap[w1.heap.size]? = some (.cells #[.slice A1 r1.length c1, .bool r2] 24 (0, 0)) := World.alloc_heap_new w1 _
  go_upto_region 2 with (fail)
  generalize w1.alloc (.cells #[.slice A1 r1.length c1, .bool r2] 24) = w2 at hb2 hn2 ⊢
  have HN2 := Lib.hid hn2
  have HB2 := Lib.hid (below_step hB1 hb2)
  have HC1' := Lib.hid (Kd.C_below HC1.out hb2)
  have HCb2 := Lib.hid (Kd.C_below HCb.out hb2)
  clear hb2 hn2 hB1 HC1 HCb
  go_wp2_with (fail)
  refine (refDec_c b hb hlen A c w2 HCb2.out hc r1 r2 r3 r4 k (by rw [HK.out]; omega) HD.out).mono ?_
  rintro e w3 ⟨v, rfl, hR2, hB3⟩
  obtain ⟨A2, c2, rfl⟩ := Kd.R_slice hR2
  have hc2 := (Kd.R_reads' hR2).2.1
  have hb4 : Below w3.heap.size w3 (w3.alloc (.cells #[.slice A2 r1.length c2, .bool r2] 24)) := (Below.refl _ w3).alloc (Nat.le_refl _) _
  have hn4 : (w3.alloc (.cells #[.slice A2 r1.length c2, .bool r2] 24)).heap[w3.heap.size]? = some (.cells #[.slice A2 r1.length c2, .bool r2] 24 (0, 0)) := World.alloc_heap_new w3 _
  have HC2 := Lib.hid (Kd.C_below (Kd.R_reads' hR2).2.2 hb4)
  have HC1 := Lib.hid (Kd.C_below (Kd.C_below HC1'.out hB3) hb4)
  have hB4 := below_step hB3 hb4
  have hn2 : (w3.alloc (.cells #[.slice A2 r1.length c2, .bool r2] 24)).heap[w1.heap.size]? = some (.cells #[.slice A1 r1.length c1, .bool r2] 24 (0, 0)) := (hB4.block _ (Array.getElem?_eq_some_iff.1 HN2.out).1).trans HN2.out
  have HB4 := Lib.hid (below_step HB2.out hB4)
  clear hR2 hB3 hb4 hB4 HCb2 HC1' HB2 HN2
  go_upto_region 3 with (fail)
  generalize w3.alloc (.cells #[.slice A2 r1.length c2, .bool r2] 24) = w4 at hn4 hn2 HC1 HC2 HB4 ⊢
  go_wp2_with (fail)
  refine (cuecardlaw05_aliveT _).mono ?_
  rintro e w5 ⟨rfl, hB5⟩
  have hn5 : w5.heap[w3.heap.size]? = some (.cells #[.slice A2 r1.length c2, .bool r2] 24 (0, 0)) := (hB5.block _ (Array.getElem?_eq_some_iff.1 hn4).1).trans hn4
  have hn6 : w5.heap[w1.heap.size]? = some (.cells #[.slice A1 r1.length c1, .bool r2] 24 (0, 0)) := (hB5.block _ (Array.getElem?_eq_some_iff.1 hn2).1).trans hn2
  have a0 : w5.cell? ⟨w3.heap.size, 0, none⟩ = some (.slice A2 r1.length c2) := (blk_cell hn5 0).trans rfl
  have a1 : w5.cell? ⟨w3.heap.size, 1, none⟩ = some (.bool r2) := (blk_cell hn5 1).trans rfl
  have b0 : w5.cell? ⟨w1.heap.size, 0, none⟩ = some (.slice A1 r1.length c1) := (blk_cell hn6 0).trans rfl
  have b1 : w5.cell? ⟨w1.heap.size, 1, none⟩ = some (.bool r2) := (blk_cell hn6 1).trans rfl
  have HC15 := Lib.hid (Kd.C_below HC1.out hB5)
  have HC25 := Lib.hid (Kd.C_below HC2.out hB5)
  have HB5 := Lib.hid (below_step HB4.out hB5)
  clear hn4 hn2 hB5 hn5 hn6 HC1 HC2 HB4
  go_wp2_with (fail)
  refine (cuecardlaw05_same.calls (r1.length + 1) A1 c1 r1 r2 A2 c2 r1 r2 true _ HC15.out hc1 HC25.out hc2 HSAME.out).mono ?_
  rintro e w6 ⟨rfl, hB6⟩
  have HB6 := Lib.hid (below_step HB5.out hB6)
  clear hB6 HB5 HC15 HC25 a0 a1 b0 b1
  go_wp2
  go_ret
  exact ⟨rfl, HB6.out⟩
end Go.Proofs.Ytefippbcgdfnbaa.QA
