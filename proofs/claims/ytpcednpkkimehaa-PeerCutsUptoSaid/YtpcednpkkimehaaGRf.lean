import Derived.RangeFuncNested
import Derived.RangeFuncBound
import Derived.RangeFuncCalls
import Derived.RangeFuncLeaves
import Derived.Shelf.Abstract
import Derived.Shelf.RegionOpen
import Derived.WalkKit
import Derived.OwnWalkIn
import Derived.TacticsInMore
import Derived.LoopNIn
import Derived.LoopIn
import Derived.Maps.AppendAt
import Derived.StillTailTactics
import Derived.Lib.Hide
import Derived.Lib.LazyBuf
import Derived.Outline
import Derived.Deep.RegionWith
import Derived.Deep.RegionLaw
import Derived.Deep.AppendLies
import Derived.CallsIn

import Derived.Lib.Bytes
import Derived.Deep.DeepCutAuto
import Derived.Lib.SmallJoins
import Derived.Laws.EntriesVeiled
import Derived.Deep.RegionHeld3
import Derived.BigRegion
import Derived.BigQuiet
import Derived.Test.YtpcednpkkimehaaPPl
import Derived.Test.YtpcednpkkimehaaGPrefix
namespace Go.Proofs.Ytpcednpkkimehaa.QA
open Go.RowKit Go.Shelf Go.Proofs.YtpcednpkkimehaaW.PrintWords Go.Proofs.YtpcednpkkimehaaW.PrintLast Go.Proofs.YtpcednpkkimehaaW.PrintMore
attribute [local go_sem] max2_int min2_int max_two min_two max_three min_three max_four min_four   -- for this text's walks alone
set_option linter.unusedVariables false
set_option linter.unusedSimpArgs false
/-! ### the document's peer in memory -/
structure Ra where
  M : Nat
  A : Option Addr
  cl : Nat
structure RfAt (W : World) (r : Ra) (l : List S40) (fin : Bool) (said : Nat) (vh : Value) : Prop where
  blk : W.heap[r.M]? = some (.cells #[.slice r.A l.length r.cl, .bool fin, .int .i64 said, vh] 50 (0, 0))
section
variable {W W' : World} {r : Ra} {l : List S40} {fin : Bool} {said : Nat} {vh : Value}
theorem RfAt.lt (h : RfAt W r l fin said vh) : r.M < W.heap.size := (Array.getElem?_eq_some_iff.1 h.blk).1
theorem RfAt.below (h : RfAt W r l fin said vh) (hb : Below W.heap.size W W') : RfAt W' r l fin said vh := ⟨(hb.block _ h.lt).trans h.blk⟩
theorem RfAt.grown (h : RfAt W r l fin said vh) {row : Option Nat} (hb : W.grownBy W' row) (hne : some r.M ≠ row) : RfAt W' r l fin said vh := ⟨(hb.block _ h.lt hne).trans h.blk⟩
theorem RfAt.drew (h : RfAt W r l fin said vh) : RfAt W.drew r l fin said vh := ⟨h.blk⟩
theorem RfAt.cells (h : RfAt W r l fin said vh) : W.cell? ⟨r.M, 0, none⟩ = some (.slice r.A l.length r.cl) ∧ W.cell? ⟨r.M, 1, none⟩ = some (.bool fin) ∧ W.cell? ⟨r.M, 2, none⟩ = some (.int .i64 said) ∧ W.cell? ⟨r.M, 3, none⟩ = some vh :=
  ⟨(blk_cell h.blk 0).trans rfl, (blk_cell h.blk 1).trans rfl, (blk_cell h.blk 2).trans rfl, (blk_cell h.blk 3).trans rfl⟩
theorem RfAt.frozen (h : RfAt W r l fin said vh) (j : Nat) : W.frozen? ⟨r.M, j, none⟩ = false := by simp [World.frozen?, h.blk]
theorem RfAt.said_ (h : RfAt W r l fin said vh) (n : Nat) : RfAt (W.setCell ⟨r.M, 2, none⟩ (.int .i64 n)) r l fin n vh ∧ W.grownBy (W.setCell ⟨r.M, 2, none⟩ (.int .i64 n)) (some r.M) := by
  refine ⟨⟨?_⟩, ⟨rfl, rfl, rfl, (KeepsWalks.setCell W _ _).size, fun k _ hk => Below.heap_setCell W ⟨r.M, 2, none⟩ _ k (fun e => hk (by rw [e]))⟩⟩
  have := blk_set h.blk 2 (.int .i64 n)
  exact this
theorem RfAt.heard_ (h : RfAt W r l fin said vh) (v : Value) : RfAt (W.setCell ⟨r.M, 3, none⟩ v) r l fin said v ∧ W.grownBy (W.setCell ⟨r.M, 3, none⟩ v) (some r.M) := by
  refine ⟨⟨?_⟩, ⟨rfl, rfl, rfl, (KeepsWalks.setCell W _ _).size, fun k _ hk => Below.heap_setCell W ⟨r.M, 3, none⟩ _ k (fun e => hk (by rw [e]))⟩⟩
  have := blk_set h.blk 3 v
  exact this
end
set_option maxRecDepth 100000 in
set_option maxHeartbeats 4000000 in
theorem ref_Due {W : World} {r : Ra} {l : List S40} {fin : Bool} {said h ch : Nat} {Ah : Option Addr} (hr : RfAt W r l fin said (.slice Ah h ch)) (hC : Kd.C k40 W r.A l.length l) (hc : l.length ≤ r.cl) (hl : small l) {D : Nat} (hD : due' (h : Int) 0 0 l = D) (hD2 : D ≤ 1048576) (hs : said ≤ D) :
    Calls Try.prog 25 #[.pointer (some ⟨r.M, 0, none⟩)] W fun e W' => e = .returned (.int .i64 ((D - said : Nat) : Int)) ∧ Below W.heap.size W W' := by
  obtain ⟨c0, c1, c2, c3⟩ := hr.cells
  have HF := Lib.hid (show cuecardref04_Due.f (l.length + 1) (h : Int) l = some ((D : Nat) : Int) by rw [refdue_f (h : Int) l hl _ (by omega), hD])
  have HW := Lib.hid (show IntKind.i64.wrap ((D : Int) - (said : Int)) = ((D - said : Nat) : Int) by rw [i64_w]; unfold wrap64; omega)
  have d0 : W.drew.cell? ⟨r.M, 0, none⟩ = some (.slice r.A l.length r.cl) := c0
  have d2 : W.drew.cell? ⟨r.M, 2, none⟩ = some (.int .i64 said) := c2
  have d3 : W.drew.cell? ⟨r.M, 3, none⟩ = some (.slice Ah h ch) := c3
  have HC := Lib.hid (Kd.C_drew hC)
  clear hC hr c1 hD
  go_enter Try.func25, Try.ntmps25
  go_wp2
  have hw := HW.out
  go_region_held3 (fun w' => w'.cell? ⟨r.M, 0, none⟩ = some (.slice r.A l.length r.cl) ∧ w'.cell? ⟨r.M, 2, none⟩ = some (.int .i64 said) ∧ w'.cell? ⟨r.M, 3, none⟩ = some (.slice Ah h ch))
    (first | exact ⟨d0, d2, d3⟩ | exact ⟨e0, e2, e3⟩ | go_keep)
    (first | (go_at_call 21; refine (cuecardref04_Due.calls (l.length + 1) (h : Int) r.A r.cl l _ _ HC.out hc HF.out).mono ?_; rintro e w1 ⟨rfl, hB1⟩; have e0 := pw_cell_below hB1 d0; have e2 := pw_cell_below hB1 d2; have e3 := pw_cell_below hB1 d3; have HB1 := Lib.hid hB1; clear hB1))
  go_wp2
  go_ret
  exact ⟨rfl, ⟨HB1.out.os, HB1.out.tape, HB1.out.output, HB1.out.size, HB1.out.block⟩⟩
/-- what the document's Peek hands back -/
def rpeek (l : List S40) (said D : Nat) (n : Int) : List Int := ((way 0 l).drop said).take (min n ((D - said : Nat) : Int)).toNat
set_option maxRecDepth 100000 in
set_option maxHeartbeats 4000000 in
theorem ref_Peek {W : World} {r : Ra} {l : List S40} {fin : Bool} {said h ch : Nat} {Ah : Option Addr} (hr : RfAt W r l fin said (.slice Ah h ch)) (hC : Kd.C k40 W r.A l.length l) (hc : l.length ≤ r.cl) (hl : small l) {D : Nat} (hD : due' (h : Int) 0 0 l = D) (hD2 : D ≤ (way 0 l).length) (hs : said ≤ D) (n : Int) :
    Calls Try.prog 24 #[.pointer (some ⟨r.M, 0, none⟩), .int .i64 n] W fun e W' => ∃ A c, e = .returned (.slice A (rpeek l said D n).length c) ∧ Kd.F (Kd.int .u8) W' (fun k => W.heap.size ≤ k) A (rpeek l said D n).length (rpeek l said D n) ∧ Below W.heap.size W W' := by
  have hL : (way 0 l).length ≤ 1048576 := by have := way_le 0 l; have := small_tot hl; omega
  obtain ⟨c0, c1, c2, c3⟩ := hr.cells
  have HR := Lib.hid hr
  have HC := Lib.hid hC
  have HF := Lib.hid (refbytes_f 0 l hl (l.length + 1) (by omega))
  have HS := Lib.hid hl
  have HD := Lib.hid hD
  have hm1 : (rpeek l said D n).length = (min n ((D - said : Nat) : Int)).toNat := by
    unfold rpeek
    rw [List.length_take, List.length_drop]
    omega
  have hm2 : ((way 0 l).take (said + (rpeek l said D n).length)).drop said = rpeek l said D n := by
    rw [hm1, List.drop_take, Nat.add_sub_cancel_left]
    rfl
  generalize rpeek l said D n = ys at hm1 hm2 ⊢
  obtain ⟨m, hm⟩ : ∃ m, m = min n ((D - said : Nat) : Int) := ⟨_, rfl⟩
  rw [← hm] at hm1
  clear hr hC c1 c2 c3 hD
  have HL := Lib.hid (show (way 0 l).length ≤ 1048576 ∧ D ≤ 1048576 by omega)
  clear hL
  by_cases hgt : ((D - said : Nat) : Int) < n
  · have hgt' := eq_true hgt
    by_cases h1 : m < 1
    · have h1' := eq_true (show ((D - said : Nat) : Int) < 1 by omega)
      have HYS := Lib.hid (show ys = [] from List.eq_nil_of_length_eq_zero (by omega))
      clear hm hm1 hm2 h1 hD2
      go_enter Try.func24, Try.ntmps24
      go_wp2_with (fail)
      refine (cuecardref04_Bytes.calls (l.length + 1) 0 r.A r.cl l (way 0 l) _ HC.out hc HF.out).mono ?_
      rintro e w1 ⟨v, rfl, hRo, hB1⟩
      obtain ⟨Ao, co, rfl⟩ := Kd.R_slice hRo
      have HB1 := Lib.hid hB1
      clear hRo hB1 c0
      go_wp2_with (fail)
      refine (ref_Due (HR.out.below HB1.out) (Kd.C_below HC.out HB1.out) hc HS.out HD.out HL.out.2 hs).mono ?_
      rintro e w2 ⟨rfl, hB2⟩
      have HB2 := Lib.hid (below_step HB1.out hB2)
      clear hB2
      go_wp2
      go_ret
      exact ⟨none, 0, by rw [HYS.out]; rfl, by rw [HYS.out]; exact fun _ _ => Kd.C_nil _ _, HB2.out⟩
    · have h1' := eq_false (show ¬ ((D - said : Nat) : Int) < 1 by omega)
      have HYL := Lib.hid (show (ys.length : Int) = ((D - said : Nat) : Int) by omega)
      have HM2 := Lib.hid hm2
      have HK := Lib.hid (show said + ys.length ≤ (way 0 l).length by omega)
      clear hm hm1 hm2 h1 hD2
      go_enter Try.func24, Try.ntmps24
      go_wp2_with (fail)
      refine (cuecardref04_Bytes.calls (l.length + 1) 0 r.A r.cl l (way 0 l) _ HC.out hc HF.out).mono ?_
      rintro e w1 ⟨v, rfl, hRo, hB1⟩
      obtain ⟨Ao, co, rfl⟩ := Kd.R_slice hRo
      have HRo := Lib.hid hRo
      have HB1 := Lib.hid hB1
      clear hRo hB1 c0
      go_wp2_with (fail)
      refine (ref_Due (HR.out.below HB1.out) (Kd.C_below HC.out HB1.out) hc HS.out HD.out HL.out.2 hs).mono ?_
      rintro e w2 ⟨rfl, hB2⟩
      have HB2 := Lib.hid (below_step HB1.out hB2)
      have HRo2 := Lib.hid (Kd.R_below HRo.out hB2)
      have g2 := (HR.out.below HB2.out).cells.2.2.1
      clear hB2
      obtain ⟨A', hC', hF', hO'⟩ := bytes_mid (ys := ys) (lo := said) (hi := said + ys.length) (x := IntKind.i64.wrap ((said : Int) + ((D - said : Nat) : Int))) (Kd.F_mono (ok' := fun k => W.heap.size ≤ k) (Kd.R_F (Kd.R_bound HRo2.out)) (fun k hk => hk.2.1)) (Kd.R_reads' HRo2.out).2.1 (by omega) HK.out (by rw [← HYL.out, i64_w]; unfold wrap64; have := HK.out; have := HL.out; omega) HM2.out
      have HF' := Lib.hid hF'
      have HO' := Lib.hid hO'
      clear hF' hO'
      go_wp2_with (fail)
      have hcut := hC'
      go_quiet (fail)
      go_wp2
      go_ret
      exact ⟨A', _, rfl, Kd.F_below HF'.out (pw_below_drewN (Below.refl _ _) _), pw_below_drewN HB2.out _⟩
  · have hgt' := eq_false hgt
    by_cases h1 : m < 1
    · have h1' := eq_true (show n < 1 by omega)
      have HYS := Lib.hid (show ys = [] from List.eq_nil_of_length_eq_zero (by omega))
      clear hm hm1 hm2 h1 hD2
      go_enter Try.func24, Try.ntmps24
      go_wp2_with (fail)
      refine (cuecardref04_Bytes.calls (l.length + 1) 0 r.A r.cl l (way 0 l) _ HC.out hc HF.out).mono ?_
      rintro e w1 ⟨v, rfl, hRo, hB1⟩
      obtain ⟨Ao, co, rfl⟩ := Kd.R_slice hRo
      have HB1 := Lib.hid hB1
      clear hRo hB1 c0
      go_wp2_with (fail)
      refine (ref_Due (HR.out.below HB1.out) (Kd.C_below HC.out HB1.out) hc HS.out HD.out HL.out.2 hs).mono ?_
      rintro e w2 ⟨rfl, hB2⟩
      have HB2 := Lib.hid (below_step HB1.out hB2)
      clear hB2
      go_wp2
      go_ret
      exact ⟨none, 0, by rw [HYS.out]; rfl, by rw [HYS.out]; exact fun _ _ => Kd.C_nil _ _, HB2.out⟩
    · have h1' := eq_false (show ¬ n < 1 by omega)
      have HYL := Lib.hid (show (ys.length : Int) = n by omega)
      have HM2 := Lib.hid hm2
      have HK := Lib.hid (show said + ys.length ≤ (way 0 l).length by omega)
      clear hm hm1 hm2 h1 hD2
      go_enter Try.func24, Try.ntmps24
      go_wp2_with (fail)
      refine (cuecardref04_Bytes.calls (l.length + 1) 0 r.A r.cl l (way 0 l) _ HC.out hc HF.out).mono ?_
      rintro e w1 ⟨v, rfl, hRo, hB1⟩
      obtain ⟨Ao, co, rfl⟩ := Kd.R_slice hRo
      have HRo := Lib.hid hRo
      have HB1 := Lib.hid hB1
      clear hRo hB1 c0
      go_wp2_with (fail)
      refine (ref_Due (HR.out.below HB1.out) (Kd.C_below HC.out HB1.out) hc HS.out HD.out HL.out.2 hs).mono ?_
      rintro e w2 ⟨rfl, hB2⟩
      have HB2 := Lib.hid (below_step HB1.out hB2)
      have HRo2 := Lib.hid (Kd.R_below HRo.out hB2)
      have g2 := (HR.out.below HB2.out).cells.2.2.1
      clear hB2
      obtain ⟨A', hC', hF', hO'⟩ := bytes_mid (ys := ys) (lo := said) (hi := said + ys.length) (x := IntKind.i64.wrap ((said : Int) + n)) (Kd.F_mono (ok' := fun k => W.heap.size ≤ k) (Kd.R_F (Kd.R_bound HRo2.out)) (fun k hk => hk.2.1)) (Kd.R_reads' HRo2.out).2.1 (by omega) HK.out (by rw [← HYL.out, i64_w]; unfold wrap64; have := HK.out; have := HL.out; omega) HM2.out
      have HF' := Lib.hid hF'
      have HO' := Lib.hid hO'
      clear hF' hO'
      go_wp2_with (fail)
      have hcut := hC'
      go_quiet (fail)
      go_wp2
      go_ret
      exact ⟨A', _, rfl, Kd.F_below HF'.out (pw_below_drewN (Below.refl _ _) _), pw_below_drewN HB2.out _⟩
set_option maxRecDepth 100000 in
set_option maxHeartbeats 4000000 in
theorem ref_Say {W : World} {r : Ra} {l : List S40} {fin : Bool} {said h ch : Nat} {Ah : Option Addr} (hr : RfAt W r l fin said (.slice Ah h ch)) (hC : Kd.C k40 W r.A l.length l) (hc : l.length ≤ r.cl) (hl : small l) {D : Nat} (hD : due' (h : Int) 0 0 l = D) (hD2 : D ≤ (way 0 l).length) (hs : said ≤ D) (n : Int) :
    Calls Try.prog 22 #[.pointer (some ⟨r.M, 0, none⟩), .int .i64 n] W fun e W' => ∃ A c, e = .returned (.slice A (rpeek l said D n).length c) ∧ Kd.F (Kd.int .u8) W' (fun k => W.heap.size ≤ k) A (rpeek l said D n).length (rpeek l said D n) ∧ RfAt W' r l fin (said + (rpeek l said D n).length) (.slice Ah h ch) ∧ W.grownBy W' (some r.M) := by
  have hL : (way 0 l).length ≤ 1048576 := by have := way_le 0 l; have := small_tot hl; omega
  have hyl : (rpeek l said D n).length ≤ (way 0 l).length := by unfold rpeek; rw [List.length_take, List.length_drop]; omega
  have HP := Lib.hid (ref_Peek hr hC hc hl hD hD2 hs n)
  have HR := Lib.hid hr
  generalize rpeek l said D n = ys at HP hyl ⊢
  have hw : IntKind.i64.wrap ((said : Int) + (ys.length : Int)) = ((said + ys.length : Nat) : Int) := by rw [i64_w]; unfold wrap64; omega
  clear hr hC hD
  go_enter Try.func22, Try.ntmps22
  go_wp2_with (fail)
  refine HP.out.mono ?_
  rintro e w1 ⟨A, c, rfl, hCy, hB⟩
  have HR1 := Lib.hid (HR.out.below hB)
  have HCy := Lib.hid hCy
  have HB := Lib.hid hB
  obtain ⟨c0, c1, c2, c3⟩ := HR1.out.cells
  have f2 := HR1.out.frozen 2
  clear hCy hB c0 c1 c3
  go_wp2
  go_ret
  obtain ⟨hr2, hg2⟩ := HR1.out.said_ (said + ys.length)
  rw [Int.natCast_add] at hr2 hg2
  exact ⟨A, c, rfl, Kd.F_grown HCy.out hg2 (fun k hk e => by injection e with e; have := HR.out.lt; omega), hr2, grown_below HB.out hg2⟩
end Go.Proofs.Ytpcednpkkimehaa.QA
