import Derived.RangeFuncNested
import Derived.RangeFuncBound
import Derived.RangeFuncCalls
import Derived.RangeFuncLeaves
import Derived.Shelf.Abstract
import Derived.Shelf.RegionOpen
import Derived.WalkKit
import Derived.OwnWalkIn
import Derived.TacticsInMore
import Derived.LoopNIn
import Derived.LoopIn
import Derived.Maps.AppendAt
import Derived.StillTailTactics
import Derived.Lib.Hide
import Derived.Lib.LazyBuf
import Derived.Outline
import Derived.Deep.RegionWith
import Derived.Deep.RegionLaw
import Derived.Deep.RegionHeld3
import Derived.Deep.CutBlock
import Derived.Deep.AppendLies
import Derived.Deep.DeepCutAuto
import Derived.Lib.Bytes
import Derived.Lib.SmallJoins
import Derived.Laws.EntriesVeiled
import Derived.BigRegion
import Derived.BigQuiet
import Derived.CallsIn
import Derived.Test.YtbdknddgfmoipaaGreatDoorProg
import Derived.Test.YtbdknddgfmoipaaGreatDoorZW
import Derived.Test.YtbdknddgfmoipaaGreatDoorZT8
import Derived.Test.YtbdknddgfmoipaaGreatDoorZE5
set_option linter.unusedVariables false
set_option linter.unusedSimpArgs false
namespace Go.Proofs.YtbdknddgfmoipaaGreatDoor.TQ
open Go.RowKit Go.Shelf Go.Proofs.YtbdknddgfmoipaaGreatDoorW.PrintWords Go.Proofs.YtbdknddgfmoipaaGreatDoorW.PrintLast Go.Proofs.YtbdknddgfmoipaaGreatDoorW.PrintMore
set_option linter.unusedVariables false
set_option linter.unusedSimpArgs false


section
variable {W W' : World}
theorem cells7 {w : World} {E : Nat} {v : Array Value} {a b c d e f g : Value} (h : w.heap[E]? = some (.cells #[a, b, c, d, e, f, g] 48 (0, 0))) : w.cell? ⟨E, 3, none⟩ = some d ∧ w.cell? ⟨E, 4, none⟩ = some e ∧ w.cell? ⟨E, 5, none⟩ = some f ∧ w.cell? ⟨E, 6, none⟩ = some g := ⟨(blk_cell h 3).trans rfl, (blk_cell h 4).trans rfl, (blk_cell h 5).trans rfl, (blk_cell h 6).trans rfl⟩
theorem laid_below (h : Ev.Laid W) (hb : Below W.heap.size W W') : Ev.Laid W' := by
  have hs := h.size
  obtain ⟨e0, f0, h0⟩ := h.ways
  obtain ⟨e1, f1, h1⟩ := h.other
  obtain ⟨e2, f2, h2⟩ := h.deeds
  exact ⟨Nat.le_trans h.size hb.size, ⟨e0, f0, (hb.block 0 (by omega)).trans h0⟩, ⟨e1, f1, (hb.block 1 (by omega)).trans h1⟩, ⟨e2, f2, (hb.block 2 (by omega)).trans h2⟩⟩
theorem laid_oth (h : Ev.Laid W) : Oth W := by
  obtain ⟨e1, f1, h1⟩ := h.other
  exact ⟨by simp [World.cell?, h1], by simp [World.cell?, h1]⟩
theorem yacts_take {l : List QA.S32} {y : Yz} {j : Nat} {p : QA.S32} (hj : j < l.length) (hp : p = QA.rd_T32 l (j : Int)) : yacts y (l.take (j + 1)) = (yacts y (l.take j)).act p := by
  have : l.take (j + 1) = l.take j ++ [p] := by
    rw [List.take_add_one, hp]
    unfold QA.rd_T32
    simp [List.getD_eq_getElem?_getD, List.getElem?_eq_getElem hj]
  rw [this]
  unfold yacts
  rw [List.foldl_append]
  rfl
theorem rd_far (l : List QA.S32) : ∀ (y : Yz) (i : Nat), 2 ≤ i → (yacts y l).rd i = y.rd i := by
  induction l with
  | nil => intro y i _; rfl
  | cons p l ih =>
    intro y i hi
    refine (ih (y.act p) i hi).trans ?_
    simp only [Yz.act]
    rw [if_neg (by omega), if_neg (by omega)]
theorem fits {l : List QA.S32} (hin : ∀ p ∈ l, InP p) (h100 : ∀ p ∈ l, p.f3.length ≤ 100) (h150 : l.length ≤ 150) (m j : Nat) (i : Nat) : ((yacts (y0 m) (l.take j)).wr i).length ≤ 1000000 ∧ ((yacts (y0 m) (l.take j)).rd i).length ≤ 1000000 := by
  have h1 := wr_acts (l.take j) (fun p hp => h100 p (List.mem_of_mem_take hp)) (y0 m) i
  have h2 : (l.take j).length ≤ 150 := by rw [List.length_take]; omega
  have h3 : ((y0 m).wr i).length = 0 := rfl
  refine ⟨by omega, ?_⟩
  rcases Nat.lt_or_ge i 2 with hi | hi
  · have h4 := (inv_acts (l.take j) (fun p hp => hin p (List.mem_of_mem_take hp)) (y0 m) (inv0 m)).rd_len hi
    omega
  · rw [rd_far _ _ _ hi]; exact Nat.zero_le _
theorem loop_i {w : World} {A6 : Option Addr} {ev : List QA.S42} {i : Nat} (h1 : 1 ≤ i) (hi : i < ev.length) (hlen : ev.length ≤ 4096) (hC : Kd.C QA.k42 w A6 ev.length ev) (hso : ev.Pairwise (fun a b => a.f1 ≤ b.f1)) :
    ∃ (i1 : Nat) (ad : Addr) (ta tb : Int), A6 = some ad ∧ w.cell? ⟨(ad.add (i * 3)).block, (ad.add (i * 3)).off + 1, none⟩ = some (.int .i64 ta) ∧ w.cell? ⟨(ad.add (i1 * 3)).block, (ad.add (i1 * 3)).off + 1, none⟩ = some (.int .i64 tb) ∧ (ta < tb) = False ∧
      wrap64 ((i : Int) - 1) = (i1 : Int) ∧ wrap64 ((i : Int) + 1) = ((i + 1 : Nat) : Int) ∧ (i1 < ev.length) = True ∧ ((i1 : Int) < (ev.length : Int)) = True := by
  obtain ⟨i1, rfl⟩ : ∃ i1, i = i1 + 1 := ⟨i - 1, by omega⟩
  obtain ⟨ad, A2, c2, e, a0, a1, a2, _, _⟩ := QA.at_T42 hC ((i1 + 1 : Nat) : Int) (by omega) (by omega)
  obtain ⟨ad', A2', c2', e', b0, b1, b2, _, _⟩ := QA.at_T42 hC (i1 : Int) (by omega) (by omega)
  rw [e] at e'
  injection e' with e'
  subst e'
  rw [Int.toNat_natCast] at a1 b1
  have h2 : i1 < ev.length := by omega
  have e1 : QA.rd_T42 ev ((i1 + 1 : Nat) : Int) = ev[i1 + 1] := by unfold QA.rd_T42; rw [Int.toNat_natCast, List.getD_eq_getElem?_getD, List.getElem?_eq_getElem hi]; rfl
  have e2 : QA.rd_T42 ev (i1 : Int) = ev[i1] := by unfold QA.rd_T42; rw [Int.toNat_natCast, List.getD_eq_getElem?_getD, List.getElem?_eq_getElem h2]; rfl
  have h3 := List.pairwise_iff_getElem.1 hso i1 (i1 + 1) h2 hi (by omega)
  rw [e1] at a1
  rw [e2] at b1
  refine ⟨i1, ad, _, _, e, a1, b1, eq_false (Int.not_lt.mpr h3), ?_, ?_, eq_true h2, eq_true (by omega)⟩
  · unfold wrap64; omega
  · unfold wrap64; omega
theorem measure_i {n kq i : Nat} (h : 1 ≤ i ∧ i ≤ n + 1 ∧ kq = n + 2 - i) (hi : i < n) : n + 1 - i < kq ∧ kq = n + 1 - i + 1 := by omega
theorem rel_i {n kq i : Nat} (h : 1 ≤ i ∧ i ≤ n + 1 ∧ kq = n + 2 - i) (hi : i < n) : 1 ≤ i + 1 ∧ i + 1 ≤ n + 1 ∧ n + 1 - i = n + 2 - (i + 1) := by omega
set_option maxRecDepth 100000 in
set_option maxHeartbeats 8000000 in
theorem top_walk (hL : Ev.Laid W) (room : Int) (hroom : QA.I64 room) (l : List QA.S32) (A : Option Addr) (c : Nat) (hC : Kd.C QA.k32 W A l.length l) (hc : l.length ≤ c) (hin : ∀ p ∈ l, InP p) :
    Calls Tryz.prog 3 #[.int .i64 room, .slice A l.length c] W fun e W' => e = .returned (.bool true) ∧ Below W.heap.size W W' := by
  obtain ⟨kg, hg⟩ := great_f l
  have HL := Lib.hid hL
  have HC := Lib.hid hC
  have HLC := Lib.hid hc
  have HIN := Lib.hid hin
  rcases hg with hg | ⟨hg, hl150, hl100⟩
  · have HG := Lib.hid hg
    clear hL hC hc hin hg hroom
    go_enter Tryz.func3, Tryz.ntmps3
    go_upto_region 2 with (first
      | (go_at_call 7; (with_reducible refine (Ev.alive_calls HL.out).mono ?_); rintro e W1 ⟨rfl, hb⟩; have HB := Lib.hid hb; clear hb)
      | (go_at_call 8; (with_reducible refine (QA.cuecardlaw22_Great.calls kg A c l 1 W1 (Kd.C_below HC.out HB.out) HLC.out HG.out).mono ?_); rintro e W2 ⟨rfl, hb⟩; have HB2 := Lib.hid hb; clear hb))
    have HL2 := Lib.hid (laid_below (laid_below HL.out HB.out) HB2.out)
    go_wp2_with (go_at_call 7; (with_reducible refine (Ev.alive_calls HL2.out).mono ?_); rintro e W3 ⟨rfl, hb⟩; have HB3 := Lib.hid hb; clear hb)
    go_ret
    exact ⟨rfl, below_step (below_step HB.out HB2.out) HB3.out⟩
  · obtain ⟨k, hk, hk30⟩ : ∃ k : Nat, Int.tmod (max 0 room) 30 = (k : Int) ∧ k < 30 := by
      refine ⟨(Int.tmod (max 0 room) 30).toNat, ?_, ?_⟩
      · rw [Int.tmod_eq_emod_of_nonneg (by omega)]; omega
      · rw [Int.tmod_eq_emod_of_nonneg (by omega)]; omega
    obtain ⟨mx, hmx⟩ : ∃ mx : Int, mx = max 0 room := ⟨_, rfl⟩
    have hmax := fun ats ty => max_is 0 room mx hmx ats ty
    rw [← hmx] at hk
    obtain ⟨m, hm⟩ : ∃ m, m = k + 1 := ⟨_, rfl⟩
    have hwm : wrap64 ((k : Int) + 1) = (m : Int) := (IntWalk.i64_left _).symm.trans (by rw [IntKind.wrap_i64]; omega)
    have hI := inv_acts l hin (y0 m) (inv0 m)
    have hys := yacts_s (y0 m) l
    obtain ⟨y, hy⟩ : ∃ y, y = yacts (y0 m) l := ⟨_, rfl⟩
    rw [← hy] at hI hys
    obtain ⟨ev, hev⟩ : ∃ ev, ev = y.s.r.ev := ⟨_, rfl⟩
    obtain ⟨ov, hov⟩ : ∃ ov, ov = y.s.r.over 0 := ⟨_, rfl⟩
    have hgood := hI.good
    have hin1 := hI.in1
    rw [← hev] at hgood hin1
    obtain ⟨r1, hr1⟩ : ∃ r1, r1 = QA.trn ev ov := ⟨_, rfl⟩
    have hE : QA.trans_Encode.f (2 * ev.length + 20) ev ov = some (r1, 0) := by
      rw [QA.enc_f ev (QA.small_of_good hgood) ov (Nat.le_refl _), if_pos ((QA.chkV_zero ev).2 hgood), hr1]
    have hD : QA.trans_Decode.f (3 * r1.length + 40) r1 = some (ev, ov, 0, 0) := by
      rw [hr1]; exact QA.dec_trn hgood hin1 ov (Nat.le_refl _)
    have HREC := Lib.hid (fun (V : World) (hb : Below W.heap.size W V) => r_Record (W := V) (m := m) (by omega) (by omega) (laid_oth (laid_below hL hb)) (by have := (laid_below hL hb).size; omega) l A c (Kd.C_below hC hb) hc hl150 (fun x hx => by have := (hgood.2.1 x (by rw [hev, hys]; exact hx)).2; omega) _ r1 (by rw [show acts (s0 m) l = y.s from hys.symm, ← hev, ← hov]; exact hE))
    have HNEW := Lib.hid (fun (V : World) (hb : Below W.heap.size W V) => w_New (W := V) (k := k) hk30 (laid_oth (laid_below hL hb)) (by have := (laid_below hL hb).size; omega))
    have HDEC := Lib.hid hD
    have HINV := Lib.hid hI
    have HG := Lib.hid hg
    have HY := Lib.hid hy
    have HEV := Lib.hid hev
    have HGOOD := Lib.hid hgood
    have H150 := Lib.hid hl150
    have H100 := Lib.hid hl100
    have HM := Lib.hid hm
    clear hL hC hc hin hg hroom hI hys hy hev hov hgood hin1 hr1 hE hD hl150 hl100 hm hmx hk30
    go_enter Tryz.func3, Tryz.ntmps3
    go_upto_region 3 with (first
      | (go_at_call 7; (with_reducible refine (Ev.alive_calls HL.out).mono ?_); rintro e W1 ⟨rfl, hb⟩; have HB := Lib.hid hb; clear hb)
      | (go_at_call 8; (with_reducible refine (QA.cuecardlaw22_Great.calls kg A c l 0 W1 (Kd.C_below HC.out HB.out) HLC.out HG.out).mono ?_); rintro e W2 ⟨rfl, hb⟩; have HB2 := Lib.hid (below_step HB.out hb); clear hb))
    go_upto_region 5 with (go_at_call 9; (with_reducible refine (HREC.out _ HB2.out).mono ?_); rintro e W3 ⟨A5, c5, rfl, hC5, hl5, hb⟩; have HC5 := Lib.hid hC5; have HL5 := Lib.hid hl5; have HB3 := Lib.hid (below_step HB2.out hb); clear hC5 hl5 hb)
    go_upto_region 6 with (go_at_call 10; (with_reducible refine (HNEW.out _ HB3.out).mono ?_); rintro e W4 ⟨wb, o, rfl, hw, hoL, hwb, hb⟩; have HW := Lib.hid (show WIs W4 wb o (y0 m) by rw [HM.out]; exact hw); have HOL := Lib.hid hoL; have HWB := Lib.hid hwb; have HB4 := Lib.hid hb; clear hw hoL hwb hb)
    go_wp2
    go_loopg [45] (l.length + 1) (fun kq v45 w1 => ∃ (j : Nat) (o' : Lo), v45 = .int .i64 j ∧ Aside0 (j ≤ l.length ∧ kq = l.length + 1 - j) ∧ Aside0 (WIs w1 wb o' (yacts (y0 m) (l.take j))) ∧ Aside0 (Below W3.heap.size W3 w1) ∧ Aside0 (∀ i, o'.L i ≠ 0 → W3.heap.size ≤ i))
    case atStart => exact ⟨0, o, rfl, ⟨Nat.zero_le _, rfl⟩, ⟨HW.out⟩, ⟨HB4.out⟩, ⟨HOL.out⟩⟩
    case round =>
      clear HW HOL
      obtain ⟨j, o1, rfl, HJ, HS, HBr, HOL⟩ := hrel
      have HBW := Lib.hid (below_step HB3.out HBr.out)
      by_cases hj : j < l.length
      · have hjd : decide ((j : Int) < (l.length : Int)) = true := decide_eq_true (by omega)
        have hjd2 := eq_true hj
        have hwj : wrap64 ((j : Int) + 1) = ((j + 1 : Nat) : Int) := (IntWalk.i64_left _).symm.trans (by rw [IntKind.wrap_i64]; have := H150.out; omega)
        obtain ⟨ad, A3, c3, rfl, e0, e1, e2, e3, hle3, hC3⟩ := QA.at_T32 HC.out (j : Int) (by omega) (by omega)
        rw [Int.toNat_natCast] at e0 e1 e2 e3
        replace e0 := pw_cell_below HBW.out e0
        replace e1 := pw_cell_below HBW.out e1
        replace e2 := pw_cell_below HBW.out e2
        replace e3 := pw_cell_below HBW.out e3
        obtain ⟨p, hp⟩ : ∃ p, p = QA.rd_T32 l (j : Int) := ⟨_, rfl⟩
        have hpm : p ∈ l := by rw [hp]; unfold QA.rd_T32; simp [List.getD_eq_getElem?_getD, List.getElem?_eq_getElem hj]
        rw [← hp] at e0 e1 e2 e3 hle3 hC3
        have htk := yacts_take (y := y0 m) hj hp
        obtain ⟨yj, hyj⟩ : ∃ yj, yj = yacts (y0 m) (l.take j) := ⟨_, rfl⟩
        rw [← hyj] at htk HS
        have hfit := fits HIN.out H100.out H150.out m (j + 1)
        rw [htk] at hfit
        have h100 := H100.out p hpm
        obtain ⟨kd, n, t, B⟩ := p
        obtain ⟨nb, hnb⟩ : ∃ nb, nb = B.length := ⟨_, rfl⟩
        simp only at e0 e1 e2 e3 hle3 hC3 h100
        rw [← hnb] at e3 hle3 hC3 h100
        have hRW : ReadsInt W .u8 A3 nb B := Kd.reads_of_C (d := (0 : Int)) (h1 := fun _ => rfl) hC3
        have hbE := below_alloc (Below.refl _ wr) (.cells #[.int .i64 kd, .int .i64 n, .int .i64 t, .slice A3 nb c3] 32)
        have hwE : WIs (wr.alloc (.cells #[.int .i64 kd, .int .i64 n, .int .i64 t, .slice A3 nb c3] 32)) wb o1 yj := ⟨HS.out.sys.below hbE, (Ch.of_below hbE []).heap HS.out.blk (by simp), HS.out.lwb⟩
        have hlab : 0 < nb → ∀ a, A3 = some a → o1.L a.block = 0 := fun h0 a ha => by
          obtain ⟨a1, ha1, hx⟩ := hRW.2.2 h0
          have h3 := lt_of_cell (hx 0 h0)
          rw [ha] at ha1
          injection ha1 with ha1
          subst ha1
          have h4 : a.block < W.heap.size := by simpa [Addr.add] using h3
          have h5 := HB3.out.size
          rcases Nat.eq_zero_or_pos (o1.L a.block) with h6 | h6
          · exact h6
          · have := HOL.out a.block (by omega); omega
        have HDO := Lib.hid (w_Do hwE kd n t B A3 nb c3 hnb ((hRW.below HBW.out).below hbE) hle3 h100 hlab hfit)
        have HBE := Lib.hid (below_step HBr.out hbE)
        have HTK := Lib.hid htk
        obtain ⟨k0, k1, k2, k3⟩ := pick_cells (World.alloc_heap_new wr (.cells #[.int .i64 kd, .int .i64 n, .int .i64 t, .slice A3 nb c3] 32))
        have HNW := Lib.hid hwE.sys.new
        clear hp hpm hyj htk hfit h100 hnb hRW hle3 hC3 hlab hbE hwE
        go_upto_region 11 with (fail)
        clear e0 e1 e2 e3
        generalize wr.alloc (.cells #[.int .i64 kd, .int .i64 n, .int .i64 t, .slice A3 nb c3] 32) = V at HDO HBE k0 k1 k2 k3 HNW ⊢
        go_wp2_with (go_at_call 11; (with_reducible refine HDO.out.mono ?_); rintro e V2 ⟨v, o2, rfl, hw2, hx2⟩; have HW2 := Lib.hid hw2; have HX2 := Lib.hid hx2; clear hw2 hx2)
        go_roundg (l.length - j)
        case measure => have := HJ.out; omega
        case rel =>
          have hbb := HX2.out.below HBE.out.size HOL.out HWB.out HNW.out
          exact ⟨j + 1, o2, by first | rfl | rw [hwj], ⟨by omega, by have := HJ.out; omega⟩, ⟨by rw [HTK.out]; exact HW2.out⟩, ⟨HBE.out.trans hbb.1⟩, ⟨hbb.2⟩⟩
      · have hjd : decide ((j : Int) < (l.length : Int)) = false := decide_eq_false (by omega)
        have hjd2 := eq_false hj
        have hje : j = l.length := by have := HJ.out; omega
        have hS := HS.out
        rw [hje, List.take_length, ← HY.out] at hS
        have HWI := Lib.hid hS
        have HDC := Lib.hid (QA.trans_Decode.calls _ A5 c5 r1 ev ov 0 0 wr (Kd.C_below HC5.out HBr.out) HL5.out HDEC.out)
        clear hS hje
        go_upto_region 14 with (go_at_call 12; (with_reducible refine HDC.out.mono ?_); rintro e W5 ⟨v0, rfl, hS5, hb⟩; obtain ⟨A6, c6, rfl, hl6, hC6⟩ := Kd.S_reads hS5; have HC6 := Lib.hid hC6; have HL6 := Lib.hid hl6; have HB5 := Lib.hid hb; clear hS5 hb hC6 hl6)
        have hb6 := below_alloc (Below.refl _ W5) (.cells #[.slice A6 ev.length c6, .bool ov] 37)
        have hb56 := below_step HB5.out hb6
        have hT := World.alloc_heap_new W5 (.cells #[.slice A6 ev.length c6, .bool ov] 37)
        have HT := Lib.hid hT
        have HC7 := Lib.hid (Kd.C_below HC6.out hb6)
        have HW7 := Lib.hid ((Ch.of_below hb56 []).heap HWI.out.blk (by simp))
        have HB7 := Lib.hid (below_step HBW.out hb56)
        clear hb6 hb56 hT HC6 HWI HDC HOL HBr HB5 HS HBW
        generalize W5.alloc (.cells #[.slice A6 ev.length c6, .bool ov] 37) = V at HT HC7 HW7 HB7 ⊢
        generalize W5.heap.size = T at HT ⊢
        have hgd := HGOOD.out
        have HBY1 := Lib.hid (fun (U : World) (hb : Below V.heap.size V U) => QA.cuecardref04_Bytes.calls (ev.length + 1) 1 A6 c6 ev (noted 1 ev) U (Kd.C_below HC7.out hb) HL6.out (bytes_f 1 ev hgd.1 hgd.2.2))
        have HBY0 := Lib.hid (fun (U : World) (hb : Below V.heap.size V U) => QA.cuecardref04_Bytes.calls (ev.length + 1) 0 A6 c6 ev (noted 0 ev) U (Kd.C_below HC7.out hb) HL6.out (bytes_f 0 ev hgd.1 hgd.2.2))
        have HTC := Lib.hid (fun (U : World) (hb : Below V.heap.size V U) => pw_cell_below hb ((blk_cell HT.out 0).trans (show _ = some (Value.slice A6 ev.length c6) from rfl)))
        clear hgd
        go_upto_region 16 with (fail)
        go_cut [14, 15] (fun s14 s15 wx => s14 = .string (strOfNums (noted 1 ev)) ∧ s15 = .string (strOfNums (noted 0 ev)) ∧ Below V.heap.size V wx)
        case first =>
          have t0 := HTC.out V.drew (below_drew (Below.refl _ _))
          have HV := Lib.hid (below_drew (Below.refl V.heap.size V))
          go_region_law (first
            | (go_simp; go_at_call 13; (with_reducible refine (HBY1.out _ HV.out).mono ?_); (rintro e V1 ⟨v1, rfl, hR1, hb1⟩); (obtain ⟨Ax, cx, rfl, _, hCx⟩ := Kd.R_reads hR1); (have hB1 := below_step HV.out hb1); (have t1 := HTC.out V1 hB1); (have hcv1 := Kd.C_string (P := Tryz.prog) (c := cx) Tryz.underlying25 Tryz.underlying5 Tryz.underlying9 hCx); have HCX := Lib.hid hCx; have HB1 := Lib.hid hB1; clear hR1 hb1 hCx hB1)
            | (go_simp; go_at_call 13; (with_reducible refine (HBY0.out _ HB1.out).mono ?_); (rintro e V2 ⟨v2, rfl, hR2, hb2⟩); (obtain ⟨Az, cz, rfl, _, hCz⟩ := Kd.R_reads hR2); (have hB2 := below_step HB1.out hb2); (have t2 := HTC.out V2 hB2); (have hcv2 := Kd.C_string (P := Tryz.prog) (c := cz) Tryz.underlying25 Tryz.underlying5 Tryz.underlying9 hCz); (have hcv3 := Kd.C_string (P := Tryz.prog) (c := cx) Tryz.underlying25 Tryz.underlying5 Tryz.underlying9 (Kd.C_below HCX.out hb2)); have HB2x := Lib.hid hB2; clear hR2 hb2 hCz hB2))
          all_goals go_wp2_with (fail)
          all_goals go_meet
          all_goals exact ⟨rfl, rfl, HB2x.out⟩
        case rest =>
          obtain ⟨rfl, rfl, hbx⟩ := hcut
          have HBX := Lib.hid hbx
          clear hbx HBY1 HBY0
          have HSO := Lib.hid (show ev.Pairwise (fun a b => a.f1 ≤ b.f1) by rw [HEV.out]; exact HINV.out.sorted)
          have HEN := Lib.hid (show ev.length ≤ 4096 from HGOOD.out.1)
          go_wp2_with (fail)
          go_loopg [16] (ev.length + 1) (fun kq v16 w1 => ∃ i : Nat, v16 = .int .i64 i ∧ Aside0 (1 ≤ i ∧ i ≤ ev.length + 1 ∧ kq = ev.length + 2 - i) ∧ Aside0 (Below V.heap.size V w1))
          case atStart => exact ⟨1, rfl, ⟨Nat.le_refl _, by omega, rfl⟩, ⟨HBX.out⟩⟩
          case round =>
            clear HBX
            obtain ⟨i, rfl, HI, HBR⟩ := hrel
            have t0 := HTC.out wr HBR.out
            by_cases hi : i < ev.length
            · have hid := decide_eq_true (show (i : Int) < (ev.length : Int) by omega)
              have hid2 := eq_true hi
              obtain ⟨i1, ad, ta, tb, rfl, a1, b1, hlt, hsub, hadd, hi1l, hi1d⟩ := loop_i HI.out.1 hi HEN.out (Kd.C_below HC7.out HBR.out) HSO.out
              have HMI := Lib.hid (measure_i HI.out hi)
              have HRI := Lib.hid (rel_i HI.out hi)
              have HHI := Lib.hid hi
              clear hi
              go_upto_region 20 with (fail)
              have t0d : wr.drew.cell? ⟨T, 0, none⟩ = some (.slice (some ad) ev.length c6) := t0
              have a1d : wr.drew.cell? ⟨(ad.add (i * 3)).block, (ad.add (i * 3)).off + 1, none⟩ = some (.int .i64 ta) := a1
              have b1d : wr.drew.cell? ⟨(ad.add (i1 * 3)).block, (ad.add (i1 * 3)).off + 1, none⟩ = some (.int .i64 tb) := b1
              go_quiet (fail)
              clear t0 t0d a1 a1d b1 b1d hsub hi1l hi1d hid hid2
              go_wp2_with (fail)
              have HADD := Lib.hid hadd
              clear hadd hlt
              go_roundg (ev.length + 1 - i)
              case measure => exact HMI.out.1
              case rel =>
                exact ⟨i + 1, by rw [HADD.out], ⟨HRI.out⟩, ⟨below_step HBR.out (pw_below_drewN (Below.refl _ _) nq)⟩⟩
            · have hid := decide_eq_false (show ¬ (i : Int) < (ev.length : Int) by omega)
              have hid2 := eq_false hi
              have hblk := (Ch.of_below HBR.out []).heap HW7.out (by simp)
              obtain ⟨q3, q4, q5, q6⟩ := cells7 (v := #[]) hblk
              have HCL := Lib.hid (fun (U : World) (hb : Below V.heap.size V U) => cells7 (v := #[]) ((Ch.of_below hb []).heap HW7.out (by simp)))
              have B1 := Lib.hid (fun (U : World) => QA.cuecardtop_begins.calls (strOfNums (noted 1 ev)) (strOfNums (y.wr 0)) true U (by have h := HINV.out.wrote 1 (by decide); rw [← HEV.out] at h; rw [show y.wr 0 = noted 1 ev ++ (y.s.src 1).xs from h]; exact begins_f _ _))
              have B2 := Lib.hid (fun (U : World) => QA.cuecardtop_begins.calls (strOfNums (noted 0 ev)) (strOfNums (y.wr 1)) true U (by have h := HINV.out.wrote 0 (by decide); rw [← HEV.out] at h; rw [show y.wr 1 = noted 0 ev ++ (y.s.src 0).xs from h]; exact begins_f _ _))
              have B3 := Lib.hid (fun (U : World) => QA.cuecardtop_begins.calls (strOfNums (y.rd 1)) (strOfNums (noted 1 ev)) true U (by have h := HINV.out.told 1 (by decide); rw [← HEV.out, List.append_assoc] at h; rw [show noted 1 ev = y.rd 1 ++ ((y.s.dst 1).xs ++ y.s.r.wait 1) from h]; exact begins_f _ _))
              have B4 := Lib.hid (fun (U : World) => QA.cuecardtop_begins.calls (strOfNums (y.rd 0)) (strOfNums (noted 0 ev)) true U (by have h := HINV.out.told 0 (by decide); rw [← HEV.out, List.append_assoc] at h; rw [show noted 0 ev = y.rd 0 ++ ((y.s.dst 0).xs ++ y.s.r.wait 0) from h]; exact begins_f _ _))
              clear hblk hi
              go_wp2_with (first
                | (go_at_call 14; (with_reducible refine (B1.out _).mono ?_); rintro e U1 ⟨rfl, hb⟩; have hB := below_step HBR.out hb; obtain ⟨p3, p4, p5, p6⟩ := HCL.out _ hB; have HU1 := Lib.hid hB; clear hb hB)
                | (go_at_call 14; (with_reducible refine (B2.out _).mono ?_); rintro e U2 ⟨rfl, hb⟩; have hB := below_step HU1.out hb; obtain ⟨r3, r4, r5, r6⟩ := HCL.out _ hB; have HU2 := Lib.hid hB; clear hb hB)
                | (go_at_call 14; (with_reducible refine (B3.out _).mono ?_); rintro e U3 ⟨rfl, hb⟩; have hB := below_step HU2.out hb; obtain ⟨z3, z4, z5, z6⟩ := HCL.out _ hB; have HU3 := Lib.hid hB; clear hb hB)
                | (go_at_call 14; (with_reducible refine (B4.out _).mono ?_); rintro e U4 ⟨rfl, hb⟩; have hB := below_step HU3.out hb; have HU4 := Lib.hid hB; clear hb hB))
              go_ret
              exact ⟨rfl, below_step HB7.out HU4.out⟩
end
end Go.Proofs.YtbdknddgfmoipaaGreatDoor.TQ
